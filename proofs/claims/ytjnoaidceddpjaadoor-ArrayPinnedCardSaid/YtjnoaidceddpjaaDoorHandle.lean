/- What a row over the laid sentinels wants: the handle's cell, out of what is laid. -/
import Derived.Test.YtjnoaidceddpjaaDoorLw
import Derived.Test.YtjnoaidceddpjaaDoorCards
import Derived.Test.YtjnoaidceddpjaaDoorTie
import Derived.ChangeSame
import Derived.JoinedOf
import Derived.SevenTiedAt
namespace Go.Proofs.YtjnoaidceddpjaaDoor
open Go.ChangeShapes Go.WideShapes Go.RowKit

theorem Tryd.own1 : ownKnob Tryd.prog.godebug = none := by kernel_rfl
theorem Tryd.et : Tryd.prog.globalNamed "errors.errorType" = some 10 := by kernel_rfl
theorem Tryd.rt : (Tryd.prog.cutTypes.find? (·.1 == "internal/reflectlite.rtype")).map (·.2) = some 149 := by kernel_rfl
theorem Tryd.oneRow : ((List.range (297 - 100)).filter fun t => Tryd.prog.rowNamed t [101, 114, 114, 111, 114]) = [24] := by kernel_rfl
theorem Tryd.typesSize : Tryd.prog.types.size = 297 - 100 := by kernel_rfl
theorem handle_of_laid {W : World} (h : laidMetH Tryd.prog laidList W) : W.cell? ⟨10, 0, none⟩ = some (.iface 149 (.agg #[.pointer (some ⟨11, 24, none⟩)])) := by
  have h' : handlesMet Tryd.prog [("errors.errorType", Rows.laid_errors_errorType)] W := (laidMetH_iff.1 h).2
  obtain ⟨name, u, ty, e1, e2, e3, e4, e5⟩ := h' _ (List.mem_singleton.2 rfl)
  have en : name = [101, 114, 114, 111, 114] := (Option.some.inj e1).symm
  subst en
  obtain rfl := Option.some.inj (Tryd.rt.symm.trans e2)
  have hm : ty ∈ (List.range (297 - 100)).filter fun t => Tryd.prog.rowNamed t [101, 114, 114, 111, 114] := List.mem_filter.2 ⟨List.mem_range.2 (by rw [← Tryd.typesSize]; exact e3), e4⟩
  rw [Tryd.oneRow] at hm
  obtain rfl := List.mem_singleton.1 hm
  have hh : typeHandle Tryd.prog 24 = .pointer (some ⟨11, 24, none⟩) := by kernel_rfl
  rw [hh] at e5
  simpa using World.var?_cell Tryd.et e5 0
end Go.Proofs.YtjnoaidceddpjaaDoor
