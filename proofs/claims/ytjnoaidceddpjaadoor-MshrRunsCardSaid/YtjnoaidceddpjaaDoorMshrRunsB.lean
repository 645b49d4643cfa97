/- MshrRuns: chapter 7's runs: a table of one miss takes a read of line 3, tells ErrBusy to a write of it and ErrFull to line 4, tells and drops it; then nothing is under way. Whatever the world, the package variables as the program's text lays them. The row and the card. -/
import Derived.Test.YtjnoaidceddpjaaDoorMshrRuns
namespace Go.Proofs.YtjnoaidceddpjaaDoor
open Go.ChangeShapes Go.WideShapes Go.RowKit
theorem mshrRuns_row : Rows.MshrRunsSaid :=
  OpenClaim.holds_of_wide 9 Tryd.f9 rfl rfl rfl rfl rfl rfl rfl ⟨rfl, rfl, rfl, rfl, rfl⟩ rfl rfl rfl rfl rfl (by kernel_rfl) Tryd.func9 (by kernel_rfl)
    (of_decide_eq_true (by kernel_rfl)) (by unfold Func.isWrapper; rw [if_neg (of_decide_eq_false (by kernel_rfl))]; exact ⟨rfl, rfl⟩)
    (fun os started H enc _ => mshrRuns_lifted os started H enc)
theorem mshrRuns_holds : Rows.MshrRunsCardSaid :=
  Claim7.holds_tied_plain_at .later [] [.handle, .sentinel, .sentinel, .sentinel, .sentinel, .sentinel, .sentinel, .sentinel, .sentinel, .sentinel, .sentinel] true (true, "1f2d5d7082da53b06e0f1def1b4f14abb14585245d9f0ad43a4a17b9404cd0bc") true
    mshrRuns_row (fun _ h => by cases h) (by kernel_rfl) (fun _ h => by cases h) mshrRuns_row_tie rfl ⟨rfl, rfl⟩ (by kernel_rfl) rfl
    (fun f fn hf hfn => by
      obtain rfl : f = 9 := Option.some.inj ((show Tryd.prog.funcNamed "assent/assentlaw7.MshrRuns" = some 9 by kernel_rfl).symm.trans hf) |>.symm
      obtain rfl : fn = Tryd.f9 := (Option.some.inj (Tryd.func9.symm.trans hfn)).symm
      exact ⟨by kernel_rfl, fun j t ht => by
        rw [Tryd.params9] at ht
        simp at ht⟩)
    (by kernel_rfl)
#print axioms mshrRuns_holds
end Go.Proofs.YtjnoaidceddpjaaDoor
