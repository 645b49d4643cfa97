/- The calls of the table of states answer as the document's own functions do. For all states, kinds and modes. -/
import Derived.Test.YtdpcnfdjpbbgjaaPStateTellsx3
namespace Go.Proofs.Ytdpcnfdjpbbgjaa.Pure
open Go.RowKit Go.Proofs.Ytdpcnfdjpbbgjaa.PStateTells Go.Proofs.YtdpcnfdjpbbgjaaW.PrintWords Go.Proofs.YtdpcnfdjpbbgjaaW.PrintLast Go.Proofs.YtdpcnfdjpbbgjaaW.PrintMore
/-- May two states stand beside each other? -/
def fits (s t : Int) : Bool := decide (s = 0 ∨ t = 0 ∨ (s = 1 ∧ t = 1) ∨ (s = 1 ∧ t = 3) ∨ (s = 3 ∧ t = 1))
theorem fits_yes {s t : Int} (h : s = 0 ∨ t = 0 ∨ (s = 1 ∧ t = 1) ∨ (s = 1 ∧ t = 3) ∨ (s = 3 ∧ t = 1)) : fits s t = true := decide_eq_true h
theorem fits_no {s t : Int} (h : ¬ (s = 0 ∨ t = 0 ∨ (s = 1 ∧ t = 1) ∨ (s = 1 ∧ t = 3) ∨ (s = 3 ∧ t = 1))) : fits s t = false := decide_eq_false h
theorem legal_is (s t : Int) : state_Legal.f s t = some (fits s t) := by
  unfold state_Legal.f mn mx
  by_cases s0 : s = 0
  · rw [if_pos s0, fits_yes (by omega)]
  by_cases t0 : t = 0
  · rw [if_neg s0, if_pos t0, fits_yes (by omega)]
  rw [if_neg s0, if_neg t0]
  by_cases h : t < s
  · rw [if_pos h, if_neg (show ¬ s < t by omega)]
    by_cases t1 : t = 1
    · rw [if_pos t1, if_neg (show ¬ s = 1 by omega)]
      by_cases s3 : s = 3
      · rw [fits_yes (by omega), s3]; rfl
      · rw [fits_no (by omega), beq_eq_false_iff_ne.2 s3]
    · rw [if_neg t1, fits_no (by omega)]
  · rw [if_neg h]
    by_cases s1 : s = 1
    · rw [if_pos s1]
      by_cases g : s < t
      · rw [if_pos g, if_neg (show ¬ t = 1 by omega)]
        by_cases t3 : t = 3
        · rw [fits_yes (by omega), t3]; rfl
        · rw [fits_no (by omega), beq_eq_false_iff_ne.2 t3]
      · rw [if_neg g, if_pos s1, fits_yes (by omega)]
    · rw [if_neg s1, fits_no (by omega)]
theorem reads_is (s : Int) : state_Reads.f s = some (decide (1 ≤ s ∧ s ≤ 4)) := by
  unfold state_Reads.f
  by_cases h : s ≥ 1
  · rw [if_pos h]
    by_cases g : s ≤ 4
    · rw [decide_eq_true g, decide_eq_true (p := 1 ≤ s ∧ s ≤ 4) (by omega)]
    · rw [decide_eq_false g, decide_eq_false (p := 1 ≤ s ∧ s ≤ 4) (by omega)]
  · rw [if_neg h, decide_eq_false (p := 1 ≤ s ∧ s ≤ 4) (by omega)]
theorem writes_is (s : Int) : state_Writes.f s = some (decide (s = 2 ∨ s = 4)) := by
  unfold state_Writes.f
  by_cases h : s = 2
  · rw [if_pos h, decide_eq_true (p := s = 2 ∨ s = 4) (by omega)]
  · rw [if_neg h]
    by_cases g : s = 4
    · rw [decide_eq_true (p := s = 2 ∨ s = 4) (by omega), g]; rfl
    · rw [decide_eq_false (p := s = 2 ∨ s = 4) (by omega), beq_eq_false_iff_ne.2 g]
theorem dirty_is (s : Int) : state_Dirty.f s = some (decide (s = 3 ∨ s = 4)) := by
  unfold state_Dirty.f
  by_cases h : s = 3
  · rw [if_pos h, decide_eq_true (p := s = 3 ∨ s = 4) (by omega)]
  · rw [if_neg h]
    by_cases g : s = 4
    · rw [decide_eq_true (p := s = 3 ∨ s = 4) (by omega), g]; rfl
    · rw [decide_eq_false (p := s = 3 ∨ s = 4) (by omega), beq_eq_false_iff_ne.2 g]
theorem runs_at (k : Nat) (hk : 10 ≤ k) : assentlaw13_StateRuns.f k = some true := at_rounds assentlaw13_StateRuns.mono hk (by decide +kernel : assentlaw13_StateRuns.f 10 = some true)
-- USES StateCommon
theorem rreads_is (s : Int) : assentref11_Reads.f s = some (decide (1 ≤ s ∧ s ≤ 4)) := by
  unfold assentref11_Reads.f
  by_cases h : s > 0
  · rw [if_pos h]
    by_cases g : s ≤ 4
    · rw [decide_eq_true g, decide_eq_true (p := 1 ≤ s ∧ s ≤ 4) (by omega)]
    · rw [decide_eq_false g, decide_eq_false (p := 1 ≤ s ∧ s ≤ 4) (by omega)]
  · rw [if_neg h, decide_eq_false (p := 1 ≤ s ∧ s ≤ 4) (by omega)]
theorem rwrites_is (s : Int) : assentref11_Writes.f s = some (decide (s = 2 ∨ s = 4)) := writes_is s
theorem rdirty_is (s : Int) : assentref11_Dirty.f s = some (decide (s = 3 ∨ s = 4)) := dirty_is s
theorem next_in : ∀ s ∈ [1, 2, 3, 4], ∀ m ∈ [0, 1, 2, 3], ∀ kd ∈ [5, 6, 7, 8, 9, 10], state_Next.f 20 s kd m = assentref11_Next.f 20 s kd m ∧ (state_Next.f 20 s kd m).isSome = true := by decide +kernel
theorem next_both (s kd m : Int) : ∃ x, state_Next.f 20 s kd m = some x ∧ assentref11_Next.f 20 s kd m = some x := by
  by_cases hs : 1 ≤ s ∧ s ≤ 4
  · have hr : decide (1 ≤ s ∧ s ≤ 4) = true := by simpa using hs
    by_cases hm : 0 ≤ m ∧ m ≤ 3
    · by_cases hk : 5 ≤ kd ∧ kd ≤ 10
      · have h := next_in s (by simp; omega) m (by simp; omega) kd (by simp; omega)
        obtain ⟨x, hx⟩ := Option.isSome_iff_exists.1 h.2
        exact ⟨x, hx, by rw [← h.1]; exact hx⟩
      · have k5 : ¬ kd = 5 := by omega
        have k6 : ¬ kd = 6 := by omega
        have k7 : ¬ kd = 7 := by omega
        have k8 : ¬ kd = 8 := by omega
        have k9 : ¬ kd = 9 := by omega
        have k10 : (kd == 10) = false := by simp; omega
        have m3 : decide (m > 3) = false := by simp; omega
        refine ⟨(0, false), ?_, ?_⟩
        · unfold state_Next.f
          rw [reads_is, hr]
          simp only [Option.bind_some, if_true]
          rw [if_neg (by omega), m3]
          simp [state_Next.j0, state_Next.j1, k5, k6, k7, k8, k9, k10]
        · unfold assentref11_Next.f
          rw [rreads_is, hr]
          simp only [Option.bind_some, if_true]
          rw [if_neg (by omega), m3]
          simp [assentref11_Next.j0, assentref11_Next.j1, k5, k6, k7, k8, k9, k10]
    · refine ⟨(0, false), ?_, ?_⟩
      · unfold state_Next.f
        rw [reads_is, hr]
        simp only [Option.bind_some, if_true]
        by_cases h : m < 0
        · rw [if_pos h]; simp [state_Next.j0]
        · have m3 : decide (m > 3) = true := by simp; omega
          rw [if_neg h, m3]; simp [state_Next.j0]
      · unfold assentref11_Next.f
        rw [rreads_is, hr]
        simp only [Option.bind_some, if_true]
        by_cases h : m < 0
        · rw [if_pos h]; simp [assentref11_Next.j0]
        · have m3 : decide (m > 3) = true := by simp; omega
          rw [if_neg h, m3]; simp [assentref11_Next.j0]
  · have hr : decide (1 ≤ s ∧ s ≤ 4) = false := by simpa using hs
    refine ⟨(0, false), ?_, ?_⟩
    · unfold state_Next.f
      rw [reads_is, hr]
      simp [state_Next.j0]
    · unfold assentref11_Next.f
      rw [rreads_is, hr]
      simp [assentref11_Next.j0]
theorem j1_ok (s t kd : Int) (al : Bool) (x : Int) (b : Bool) (g : Int) (hg : state_Grant.f kd al = some g) : assentlaw13_StateTells.j1 19 s t kd al x b x b g (fits s t) = some true := by
  simp only [assentlaw13_StateTells.j1, if_true, beq_self_eq_true]
  rw [reads_is, rreads_is, writes_is, rwrites_is, dirty_is, rdirty_is, hg, legal_is, runs_at 18 (by omega)]
  simp
theorem j0_ok (s t kd : Int) (al : Bool) (x : Int) (b : Bool) (g : Int) (hg : state_Grant.f kd al = some g) : assentlaw13_StateTells.j0 20 s t kd al x b x b g = some true := by
  have h := j1_ok s t kd al x b g hg
  simp only [assentlaw13_StateTells.j0]
  by_cases s0 : s = 0
  · have e : fits s t = true := fits_yes (by omega)
    rw [e] at h
    rw [if_pos s0]; exact h
  rw [if_neg s0]
  by_cases t0 : t = 0
  · have e : fits s t = true := fits_yes (by omega)
    rw [e] at h
    rw [if_pos t0]; exact h
  rw [if_neg t0]
  by_cases s1 : s = 1
  · rw [if_pos s1]
    by_cases t1 : t = 1
    · have e : fits s t = true := fits_yes (by omega)
      rw [e] at h
      rw [if_pos t1]; exact h
    rw [if_neg t1]
    by_cases t3 : t = 3
    · have e : fits s t = true := fits_yes (by omega)
      rw [e] at h
      rw [if_pos t3]; exact h
    have e : fits s t = false := fits_no (by omega)
    rw [e] at h
    rw [if_neg t3, if_neg (by omega)]; exact h
  rw [if_neg s1]
  by_cases s3 : s = 3
  · have e : fits s t = (t == 1) := by
      by_cases t1 : t = 1
      · rw [fits_yes (by omega), t1]; rfl
      · rw [fits_no (by omega), beq_eq_false_iff_ne.2 t1]
    rw [e] at h
    rw [if_pos s3]; exact h
  have e : fits s t = false := fits_no (by omega)
  rw [e] at h
  rw [if_neg s3]; exact h
theorem StateTells : assentlaw13_StateTells.Pure := by
  intro s t kd m al _ _ _ _
  obtain ⟨⟨x, b⟩, h1, h2⟩ := next_both s kd m
  refine ⟨20, ?_⟩
  unfold assentlaw13_StateTells.f
  rw [h1, h2]
  simp only [Option.bind_some]
  by_cases k1 : kd = 1
  · rw [if_pos k1]
    cases al
    · rw [if_neg (by decide)]; exact j0_ok s t kd false x b 1 (by simp [state_Grant.f, k1])
    · rw [if_pos rfl]; exact j0_ok s t kd true x b 2 (by simp [state_Grant.f, k1])
  rw [if_neg k1]
  by_cases k2 : kd = 2
  · rw [if_pos k2]; exact j0_ok s t kd al x b 4 (by simp [state_Grant.f, k2])
  rw [if_neg k2]
  by_cases k3 : kd = 3
  · rw [if_pos k3]; exact j0_ok s t kd al x b 4 (by simp [state_Grant.f, k3])
  rw [if_neg k3]
  exact j0_ok s t kd al x b 0 (by simp [state_Grant.f, k1, k2, k3])
end Go.Proofs.Ytdpcnfdjpbbgjaa.Pure
