/- A world that meets the rows' cell 'laid'. What a row over the laid sentinels wants: the handle's cell, out of what is laid. -/
import Derived.Test.YtjnoaidceddpjaaDoorLaid
import Derived.ChangeVars
import Derived.ProofKit
import Derived.Test.YtjnoaidceddpjaaDoorCards
import Derived.Test.YtjnoaidceddpjaaDoorTie
import Derived.ChangeSame
import Derived.JoinedOf
import Derived.SevenTiedAt
namespace Go.Proofs.YtjnoaidceddpjaaDoor
open Go.RowKit Go.ChangeShapes Go.WideShapes
noncomputable def low : Nat := (World.holding Tryd.prog default ⟨#[], #[], []⟩).heap.size
noncomputable def layCell (v : Value) : Obj → Obj
  | .cells _ t frozen => .cells #[v] t frozen
  | o => o
noncomputable def laidWorld (os : Os) : World :=
  let w0 := World.holding Tryd.prog os ⟨#[.cells #[.string ⟨#[97, 110, 32, 97, 114, 103, 117, 109, 101, 110, 116, 32, 116, 104, 97, 116, 32, 99, 97, 110, 39, 116, 32, 98, 101]⟩] 185, .cells #[.string ⟨#[116, 111, 111, 32, 108, 111, 110, 103]⟩] 185, .cells #[.string ⟨#[116, 111, 111, 32, 115, 104, 111, 114, 116]⟩] 185, .cells #[.string ⟨#[110, 111, 116, 32, 105, 110, 32, 102, 111, 114, 109]⟩] 185, .cells #[.string ⟨#[115, 111, 109, 101, 116, 104, 105, 110, 103, 32, 108, 101, 102, 116, 32, 111, 118, 101, 114]⟩] 185, .cells #[.string ⟨#[110, 111, 32, 114, 111, 111, 109]⟩] 185, .cells #[.string ⟨#[117, 110, 100, 101, 114, 32, 119, 97, 121]⟩] 185, .cells #[.string ⟨#[116, 104, 101, 114, 101, 32, 105, 115, 32, 110, 111, 110, 101]⟩] 185, .cells #[.string ⟨#[110, 111, 116, 32, 105, 110, 32, 111, 114, 100, 101, 114]⟩] 185, .cells #[.string ⟨#[97, 110, 111, 116, 104, 101, 114, 32, 118, 97, 108, 117, 101]⟩] 185], #[], []⟩
  { w0 with heap := (((((((((((w0.heap.modify 0 (layCell (.iface 165 (.pointer (some ⟨low + 0, 0, none⟩))))).modify 3 (layCell (.iface 165 (.pointer (some ⟨low + 1, 0, none⟩))))).modify 4 (layCell (.iface 165 (.pointer (some ⟨low + 2, 0, none⟩))))).modify 5 (layCell (.iface 165 (.pointer (some ⟨low + 3, 0, none⟩))))).modify 6 (layCell (.iface 165 (.pointer (some ⟨low + 4, 0, none⟩))))).modify 1 (layCell (.iface 165 (.pointer (some ⟨low + 5, 0, none⟩))))).modify 2 (layCell (.iface 165 (.pointer (some ⟨low + 6, 0, none⟩))))).modify 7 (layCell (.iface 165 (.pointer (some ⟨low + 7, 0, none⟩))))).modify 8 (layCell (.iface 165 (.pointer (some ⟨low + 8, 0, none⟩))))).modify 9 (layCell (.iface 165 (.pointer (some ⟨low + 9, 0, none⟩))))).modify 10 (layCell (.iface 149 (.agg #[.pointer (some ⟨11, 24, none⟩)])))) }
theorem laidWorld_met (os : Os) (args : Array Value) : laidMetH Tryd.prog laidList ((laidWorld os).forCall (fun _ _ => 0) ⟨#[], args, []⟩).memory :=
  laidMetH_of_parts (laidMet_of_run (ps := [.cell 0 0, .cell (low + 0) 0, .cell 3 0, .cell (low + 1) 0, .cell 4 0, .cell (low + 2) 0, .cell 5 0, .cell (low + 3) 0, .cell 6 0, .cell (low + 4) 0, .cell 1 0, .cell (low + 5) 0, .cell 2 0, .cell (low + 6) 0, .cell 7 0, .cell (low + 7) 0, .cell 8 0, .cell (low + 8) 0, .cell 9 0, .cell (low + 9) 0]) 8 (by kernel_rfl) (by kernel_rfl) (by kernel_rfl)) (by kernel_rfl)
end Go.Proofs.YtjnoaidceddpjaaDoor
namespace Go.Proofs.YtjnoaidceddpjaaDoor
open Go.ChangeShapes Go.WideShapes Go.RowKit

theorem Tryd.own1 : ownKnob Tryd.prog.godebug = none := by kernel_rfl
theorem Tryd.et : Tryd.prog.globalNamed "errors.errorType" = some 10 := by kernel_rfl
theorem Tryd.rt : (Tryd.prog.cutTypes.find? (·.1 == "internal/reflectlite.rtype")).map (·.2) = some 149 := by kernel_rfl
theorem Tryd.oneRow : ((List.range (297 - 100)).filter fun t => Tryd.prog.rowNamed t [101, 114, 114, 111, 114]) = [24] := by kernel_rfl
theorem Tryd.typesSize : Tryd.prog.types.size = 297 - 100 := by kernel_rfl
theorem handle_of_laid {W : World} (h : laidMetH Tryd.prog laidList W) : W.cell? ⟨10, 0, none⟩ = some (.iface 149 (.agg #[.pointer (some ⟨11, 24, none⟩)])) := by
  have h' : handlesMet Tryd.prog [("errors.errorType", Rows.laid_errors_errorType)] W := (laidMetH_iff.1 h).2
  obtain ⟨name, u, ty, e1, e2, e3, e4, e5⟩ := h' _ (List.mem_singleton.2 rfl)
  have en : name = [101, 114, 114, 111, 114] := (Option.some.inj e1).symm
  subst en
  obtain rfl := Option.some.inj (Tryd.rt.symm.trans e2)
  have hm : ty ∈ (List.range (297 - 100)).filter fun t => Tryd.prog.rowNamed t [101, 114, 114, 111, 114] := List.mem_filter.2 ⟨List.mem_range.2 (by rw [← Tryd.typesSize]; exact e3), e4⟩
  rw [Tryd.oneRow] at hm
  obtain rfl := List.mem_singleton.1 hm
  have hh : typeHandle Tryd.prog 24 = .pointer (some ⟨11, 24, none⟩) := by kernel_rfl
  rw [hh] at e5
  simpa using World.var?_cell Tryd.et e5 0
end Go.Proofs.YtjnoaidceddpjaaDoor
