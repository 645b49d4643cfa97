/- Who may write or is dirty may read; no state may stand beside one that may be written. For all two states. -/
import Derived.Test.YtdpcnfdjpbbgjaaQStateSorts
namespace Go.Proofs.Ytdpcnfdjpbbgjaa.Pure
open Go.RowKit Go.Proofs.Ytdpcnfdjpbbgjaa.PStateSorts Go.Proofs.YtdpcnfdjpbbgjaaW.PrintWords Go.Proofs.YtdpcnfdjpbbgjaaW.PrintLast Go.Proofs.YtdpcnfdjpbbgjaaW.PrintMore
/-- May two states stand beside each other? -/
def fits (s t : Int) : Bool := decide (s = 0 ∨ t = 0 ∨ (s = 1 ∧ t = 1) ∨ (s = 1 ∧ t = 3) ∨ (s = 3 ∧ t = 1))
theorem fits_yes {s t : Int} (h : s = 0 ∨ t = 0 ∨ (s = 1 ∧ t = 1) ∨ (s = 1 ∧ t = 3) ∨ (s = 3 ∧ t = 1)) : fits s t = true := decide_eq_true h
theorem fits_no {s t : Int} (h : ¬ (s = 0 ∨ t = 0 ∨ (s = 1 ∧ t = 1) ∨ (s = 1 ∧ t = 3) ∨ (s = 3 ∧ t = 1))) : fits s t = false := decide_eq_false h
theorem legal_is (s t : Int) : state_Legal.f s t = some (fits s t) := by
  unfold state_Legal.f mn mx
  by_cases s0 : s = 0
  · rw [if_pos s0, fits_yes (by omega)]
  by_cases t0 : t = 0
  · rw [if_neg s0, if_pos t0, fits_yes (by omega)]
  rw [if_neg s0, if_neg t0]
  by_cases h : t < s
  · rw [if_pos h, if_neg (show ¬ s < t by omega)]
    by_cases t1 : t = 1
    · rw [if_pos t1, if_neg (show ¬ s = 1 by omega)]
      by_cases s3 : s = 3
      · rw [fits_yes (by omega), s3]; rfl
      · rw [fits_no (by omega), beq_eq_false_iff_ne.2 s3]
    · rw [if_neg t1, fits_no (by omega)]
  · rw [if_neg h]
    by_cases s1 : s = 1
    · rw [if_pos s1]
      by_cases g : s < t
      · rw [if_pos g, if_neg (show ¬ t = 1 by omega)]
        by_cases t3 : t = 3
        · rw [fits_yes (by omega), t3]; rfl
        · rw [fits_no (by omega), beq_eq_false_iff_ne.2 t3]
      · rw [if_neg g, if_pos s1, fits_yes (by omega)]
    · rw [if_neg s1, fits_no (by omega)]
theorem reads_is (s : Int) : state_Reads.f s = some (decide (1 ≤ s ∧ s ≤ 4)) := by
  unfold state_Reads.f
  by_cases h : s ≥ 1
  · rw [if_pos h]
    by_cases g : s ≤ 4
    · rw [decide_eq_true g, decide_eq_true (p := 1 ≤ s ∧ s ≤ 4) (by omega)]
    · rw [decide_eq_false g, decide_eq_false (p := 1 ≤ s ∧ s ≤ 4) (by omega)]
  · rw [if_neg h, decide_eq_false (p := 1 ≤ s ∧ s ≤ 4) (by omega)]
theorem writes_is (s : Int) : state_Writes.f s = some (decide (s = 2 ∨ s = 4)) := by
  unfold state_Writes.f
  by_cases h : s = 2
  · rw [if_pos h, decide_eq_true (p := s = 2 ∨ s = 4) (by omega)]
  · rw [if_neg h]
    by_cases g : s = 4
    · rw [decide_eq_true (p := s = 2 ∨ s = 4) (by omega), g]; rfl
    · rw [decide_eq_false (p := s = 2 ∨ s = 4) (by omega), beq_eq_false_iff_ne.2 g]
theorem dirty_is (s : Int) : state_Dirty.f s = some (decide (s = 3 ∨ s = 4)) := by
  unfold state_Dirty.f
  by_cases h : s = 3
  · rw [if_pos h, decide_eq_true (p := s = 3 ∨ s = 4) (by omega)]
  · rw [if_neg h]
    by_cases g : s = 4
    · rw [decide_eq_true (p := s = 3 ∨ s = 4) (by omega), g]; rfl
    · rw [decide_eq_false (p := s = 3 ∨ s = 4) (by omega), beq_eq_false_iff_ne.2 g]
theorem runs_at (k : Nat) (hk : 10 ≤ k) : assentlaw13_StateRuns.f k = some true := at_rounds assentlaw13_StateRuns.mono hk (by decide +kernel : assentlaw13_StateRuns.f 10 = some true)
-- USES StateCommon
theorem fits_swap (s t : Int) : fits s t = fits t s := by
  unfold fits
  rw [Bool.eq_iff_iff]
  simp
  omega
theorem j0_ok (s t : Int) : assentlaw13_StateSorts.j0 20 s t (decide (s = 2 ∨ s = 4)) false = some true := by
  simp only [assentlaw13_StateSorts.j0]
  rw [if_neg (by decide), legal_is, legal_is, fits_swap t s, reads_is, runs_at 19 (by omega)]
  simp only [Option.bind_some, beq_self_eq_true, if_true]
  by_cases h : s = 2 ∨ s = 4
  · have : decide (s = 2 ∨ s = 4) = true := by simpa using h
    rw [if_pos this]
    by_cases r : 1 ≤ t ∧ t ≤ 4
    · have hr : decide (1 ≤ t ∧ t ≤ 4) = true := by simpa using r
      have hf : fits s t = false := by unfold fits; simp; omega
      rw [if_pos hr, hf]; simp
    · have hr : ¬ decide (1 ≤ t ∧ t ≤ 4) = true := by simpa using r
      rw [if_neg hr]
  · have : ¬ decide (s = 2 ∨ s = 4) = true := by simpa using h
    rw [if_neg this]
theorem StateSorts : assentlaw13_StateSorts.Pure := by
  intro s t _ _
  have hj := j0_ok s t
  refine ⟨20, ?_⟩
  unfold assentlaw13_StateSorts.f
  rw [reads_is, writes_is, dirty_is]
  simp only [Option.bind_some]
  by_cases h1 : s = 1
  · subst h1; simpa using hj
  by_cases h2 : s = 2
  · subst h2; simpa using hj
  by_cases h3 : s = 3
  · subst h3; simpa using hj
  by_cases h4 : s = 4
  · subst h4; simpa using hj
  have hr : decide (1 ≤ s ∧ s ≤ 4) = false := by simp; omega
  have hw : decide (s = 2 ∨ s = 4) = false := by simp; omega
  have hd : decide (s = 3 ∨ s = 4) = false := by simp; omega
  have e1 : (s == 1) = false := by simpa using h1
  have e4 : (s == 4) = false := by simpa using h4
  rw [hw] at hj
  rw [hr, hw, hd, e1, e4]
  by_cases hs : s ≥ 1
  · have hx : decide (s ≤ 4) = false := by simp; omega
    simp [hs, hx, hj]
  · simp [hs, hj]
end Go.Proofs.Ytdpcnfdjpbbgjaa.Pure
