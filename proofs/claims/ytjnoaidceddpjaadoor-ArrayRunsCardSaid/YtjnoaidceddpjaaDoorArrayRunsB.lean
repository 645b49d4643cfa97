/- ArrayRuns: chapter 6's runs: an array of one set of two ways takes lines 1 and 2 and tells ErrFull to line 3; with line 1 touched the victim is 2, with 2 pinned it is 1; with line 2 dropped there is room. Whatever the world, the package variables as the program's text lays them. The row and the card. -/
import Derived.Test.YtjnoaidceddpjaaDoorArrayRuns
namespace Go.Proofs.YtjnoaidceddpjaaDoor
open Go.ChangeShapes Go.WideShapes Go.RowKit
theorem arrayRuns_row : Rows.ArrayRunsSaid :=
  OpenClaim.holds_of_wide 3 Tryd.f3 rfl rfl rfl rfl rfl rfl rfl ⟨rfl, rfl, rfl, rfl, rfl⟩ rfl rfl rfl rfl rfl (by kernel_rfl) Tryd.func3 (by kernel_rfl)
    (of_decide_eq_true (by kernel_rfl)) (by unfold Func.isWrapper; rw [if_neg (of_decide_eq_false (by kernel_rfl))]; exact ⟨rfl, rfl⟩)
    (fun os started H enc _ => arrayRuns_lifted os started H enc)
theorem arrayRuns_holds : Rows.ArrayRunsCardSaid :=
  Claim7.holds_tied_plain_at .later [] [.handle, .sentinel, .sentinel, .sentinel, .sentinel, .sentinel, .sentinel, .sentinel, .sentinel, .sentinel, .sentinel] true (true, "1f2d5d7082da53b06e0f1def1b4f14abb14585245d9f0ad43a4a17b9404cd0bc") true
    arrayRuns_row (fun _ h => by cases h) (by kernel_rfl) (fun _ h => by cases h) arrayRuns_row_tie rfl ⟨rfl, rfl⟩ (by kernel_rfl) rfl
    (fun f fn hf hfn => by
      obtain rfl : f = 3 := Option.some.inj ((show Tryd.prog.funcNamed "assent/assentlaw6.ArrayRuns" = some 3 by kernel_rfl).symm.trans hf) |>.symm
      obtain rfl : fn = Tryd.f3 := (Option.some.inj (Tryd.func3.symm.trans hfn)).symm
      exact ⟨by kernel_rfl, fun j t ht => by
        rw [Tryd.params3] at ht
        simp at ht⟩)
    (by kernel_rfl)
#print axioms arrayRuns_holds
end Go.Proofs.YtjnoaidceddpjaaDoor
