/- The row and the card of MshrRuns. -/
import Derived.Test.YtjnoaidceddpjaaDoorMshrM
import Derived.Test.YtjnoaidceddpjaaDoorLw
import Derived.Test.YtjnoaidceddpjaaDoorCards
import Derived.Test.YtjnoaidceddpjaaDoorTie
import Derived.ChangeSame
import Derived.JoinedOf
import Derived.SevenTiedAt
namespace Go.Proofs.YtjnoaidceddpjaaDoor
open Go.ChangeShapes Go.WideShapes Go.RowKit

theorem Tryd.own1 : ownKnob Tryd.prog.godebug = none := by kernel_rfl
theorem Tryd.et : Tryd.prog.globalNamed "errors.errorType" = some 10 := by kernel_rfl
theorem Tryd.rt : (Tryd.prog.cutTypes.find? (·.1 == "internal/reflectlite.rtype")).map (·.2) = some 149 := by kernel_rfl
theorem Tryd.oneRow : ((List.range (297 - 100)).filter fun t => Tryd.prog.rowNamed t [101, 114, 114, 111, 114]) = [24] := by kernel_rfl
theorem Tryd.typesSize : Tryd.prog.types.size = 297 - 100 := by kernel_rfl
theorem handle_of_laid {W : World} (h : laidMetH Tryd.prog laidList W) : W.cell? ⟨10, 0, none⟩ = some (.iface 149 (.agg #[.pointer (some ⟨11, 24, none⟩)])) := by
  have h' : handlesMet Tryd.prog [("errors.errorType", Rows.laid_errors_errorType)] W := (laidMetH_iff.1 h).2
  obtain ⟨name, u, ty, e1, e2, e3, e4, e5⟩ := h' _ (List.mem_singleton.2 rfl)
  have en : name = [101, 114, 114, 111, 114] := (Option.some.inj e1).symm
  subst en
  obtain rfl := Option.some.inj (Tryd.rt.symm.trans e2)
  have hm : ty ∈ (List.range (297 - 100)).filter fun t => Tryd.prog.rowNamed t [101, 114, 114, 111, 114] := List.mem_filter.2 ⟨List.mem_range.2 (by rw [← Tryd.typesSize]; exact e3), e4⟩
  rw [Tryd.oneRow] at hm
  obtain rfl := List.mem_singleton.1 hm
  have hh : typeHandle Tryd.prog 24 = .pointer (some ⟨11, 24, none⟩) := by kernel_rfl
  rw [hh] at e5
  simpa using World.var?_cell Tryd.et e5 0
set_option maxRecDepth 100000 in
theorem mshrRuns_lifted (os : Os) (started : os.Started) (H : Type) (enc : TypeId × Value → H) :
    ReturnsInHanded {} Tryd.checked os 9 .any (fun w args => (Rows.mshrRunsSpec.pre enc Tryd.prog Tryd.f9 [] false w args ∧ laidMetH Tryd.prog laidList w) ∧ sizedMet enc Tryd.prog Tryd.f9 (OpenSpec.ofChange Rows.mshrRunsSpec) false w args)
      (Rows.mshrRunsSpec.post enc Tryd.prog Tryd.f9 false true false false) := by
  refine returnsInHanded_of_change_and (C := Tryd.checked) (X := fun w _ => laidMetH Tryd.prog laidList w) (fun _ _ _ hh h => h.of_heap hh) Tryd.own1 started (by kernel_rfl) Tryd.func9
    (ChangeSpec.witness_at (enc := enc) (C := Tryd.checked) (os := os) (X := fun w _ => laidMetH Tryd.prog laidList w) false (laidWorld os) #[] 8 rfl (by kernel_rfl) (by kernel_rfl) (by kernel_rfl) (by kernel_rfl) (by kernel_rfl) (laidWorld_met os _)) ?_
  intro W base args ds gs before hval0 hW _ _ hL _
  have hW' := hW
  obtain ⟨p, q, hA0, hV0, rfl, hfz, hnd⟩ := hW
  have hA : DataW.TrodAll enc Tryd.prog W 0 (fun _ => true) true Tryd.f9.params.toList args.toList ds p := hA0
  rw [Tryd.params9] at hA
  obtain ⟨rfl, rfl, rfl⟩ := trodAll_none hA
  obtain ⟨rfl, rfl⟩ := trodVars_none hV0
  refine (mshrRuns_is W _ (sents_of_laid hL (handle_of_laid hL))).mono fun e W' ⟨he, hb⟩ => ?_
  subst he
  refine ⟨_, rfl, _, _, _, [], [], [], hW', trodAll_mk1 (shut_bool Tryd.underlying4 true), trodAll_mk0, rfl, ?_, fun h => by cases h⟩
  exact World.keptBut_mono (fun _ h => h.elim) (World.keptBut_none_iff.2 ⟨hb.os, hb.output, hb.block⟩)
end Go.Proofs.YtjnoaidceddpjaaDoor
