/- plru.Touch and plru.Victim answer as the document's own functions do. For all bits, all numbers of ways and all ways. -/
import Derived.Test.YtakabjeamkffpaaPPlruTellsx2
namespace Go.Proofs.Ytakabjeamkffpaa.Pure
open Go.RowKit Go.Proofs.Ytakabjeamkffpaa.PPlruTells Go.Proofs.YtakabjeamkffpaaW.PrintWords Go.Proofs.YtakabjeamkffpaaW.PrintLast Go.Proofs.YtakabjeamkffpaaW.PrintMore
theorem u8_nat {a : Int} (h : (Lit.int .u8 a).wf = true) : ∃ n : Nat, n < 256 ∧ a = (n : Int) := by
  have h1 : 0 ≤ a ∧ a ≤ 255 := by simpa [Lit.wf, IntKind.min, IntKind.max, IntKind.bits, IntKind.signed] using h
  exact ⟨a.toNat, by omega, by omega⟩
theorem i64_range {a : Int} (h : (Lit.int .i64 a).wf = true) : -9223372036854775808 ≤ a ∧ a ≤ 9223372036854775807 := by
  simpa [Lit.wf, IntKind.min, IntKind.max, IntKind.bits, IntKind.signed] using h
theorem four (a : Int) : a = 1 ∨ a = 2 ∨ a = 4 ∨ a = 8 ∨ (¬ (a = 1 ∨ a = 2 ∨ a = 4 ∨ a = 8)) := by omega
theorem right_no {a : Int} (h : ¬ (a = 1 ∨ a = 2 ∨ a = 4 ∨ a = 8)) : plru_right.f a = some false := by
  unfold plru_right.f
  by_cases h1 : a ≥ 1
  · by_cases h2 : a ≤ 8
    · obtain rfl | rfl | rfl | rfl : a = 3 ∨ a = 5 ∨ a = 6 ∨ a = 7 := by omega
      all_goals decide +kernel
    · rw [if_pos h1, if_neg h2]
  · rw [if_neg h1]
theorem right_yes {a : Int} (h : a = 1 ∨ a = 2 ∨ a = 4 ∨ a = 8) : plru_right.f a = some true := by
  obtain rfl | rfl | rfl | rfl := h
  all_goals decide +kernel
theorem touch_no {a : Int} (h : ¬ (a = 1 ∨ a = 2 ∨ a = 4 ∨ a = 8)) (k : Nat) (b w : Int) : plru_Touch.f (k + 1) b a w = some b := by
  unfold plru_Touch.f
  rw [right_no h]
  simp [plru_Touch.j0]
theorem touch_out {a : Int} (h : a = 1 ∨ a = 2 ∨ a = 4 ∨ a = 8) (k : Nat) (b w : Int) (hw : w < 0 ∨ a ≤ w) : plru_Touch.f (k + 1) b a w = some b := by
  unfold plru_Touch.f
  rw [right_yes h]
  simp only [Option.bind_some, if_true]
  by_cases h1 : w < 0
  · rw [if_pos h1]; simp [plru_Touch.j0]
  · rw [if_neg h1]
    have : decide (w ≥ a) = true := by simp; omega
    rw [this]; simp [plru_Touch.j0]
theorem victim_no {a : Int} (h : ¬ (a = 1 ∨ a = 2 ∨ a = 4 ∨ a = 8)) (k : Nat) (b : Int) : plru_Victim.f k b a = some (-1) := by
  unfold plru_Victim.f
  rw [right_no h]
  simp
theorem runs : assentlaw5_PlruRuns.f 10 = some true := by decide +kernel
theorem two_eq (a : Int) : assentref1_two.f a 8 = plru_right.f a := by
  unfold assentref1_two.f plru_right.f
  rfl
theorem rtouch_no {a : Int} (h : ¬ (a = 1 ∨ a = 2 ∨ a = 4 ∨ a = 8)) (k : Nat) (b w : Int) : assentref1_Touch.f (k + 1) b a w = some b := by
  unfold assentref1_Touch.f
  rw [two_eq, right_no h]
  simp [assentref1_Touch.j0]
theorem rtouch_out {a : Int} (h : a = 1 ∨ a = 2 ∨ a = 4 ∨ a = 8) (k : Nat) (b w : Int) (hw : w < 0 ∨ a ≤ w) : assentref1_Touch.f (k + 1) b a w = some b := by
  unfold assentref1_Touch.f
  rw [two_eq, right_yes h]
  simp only [Option.bind_some, if_true]
  by_cases h1 : w < 0
  · rw [if_pos h1]; simp [assentref1_Touch.j0]
  · rw [if_neg h1]
    have : decide (w ≥ a) = true := by simp; omega
    rw [this]; simp [assentref1_Touch.j0]
theorem rvictim_no {a : Int} (h : ¬ (a = 1 ∨ a = 2 ∨ a = 4 ∨ a = 8)) (k : Nat) (b : Int) : assentref1_Victim.f k b a = some (-1) := by
  unfold assentref1_Victim.f
  rw [two_eq, right_no h]
  simp
theorem all_touch : ∀ b, b < 256 → ∀ a ∈ [1, 2, 4, 8], ∀ w, w < 8 → plru_Touch.f 10 (b : Nat) a (w : Nat) = assentref1_Touch.f 10 (b : Nat) a (w : Nat) ∧ (plru_Touch.f 10 (b : Nat) a (w : Nat)).isSome = true := by decide +kernel
theorem all_victim : ∀ b, b < 256 → ∀ a ∈ [1, 2, 4, 8], plru_Victim.f 10 (b : Nat) a = assentref1_Victim.f 10 (b : Nat) a ∧ (plru_Victim.f 10 (b : Nat) a).isSome = true := by decide +kernel
theorem touches (b a w : Int) (h : (Lit.int .u8 b).wf = true) : ∃ t, plru_Touch.f 10 b a w = some t ∧ assentref1_Touch.f 10 b a w = some t := by
  obtain ⟨n, hn, rfl⟩ := u8_nat h
  by_cases ha : a = 1 ∨ a = 2 ∨ a = 4 ∨ a = 8
  · by_cases hw : w < 0 ∨ a ≤ w
    · exact ⟨_, touch_out ha 9 _ w hw, rtouch_out ha 9 _ w hw⟩
    · have hm : a ∈ [1, 2, 4, 8] := by simpa using ha
      obtain ⟨v, rfl⟩ : ∃ v : Nat, w = (v : Int) := ⟨w.toNat, by omega⟩
      have h1 := all_touch n hn a hm v (by omega)
      obtain ⟨t, ht⟩ := Option.isSome_iff_exists.1 h1.2
      exact ⟨t, ht, by rw [← h1.1]; exact ht⟩
  · exact ⟨_, touch_no ha 9 _ w, rtouch_no ha 9 _ w⟩
theorem victims (b a : Int) (h : (Lit.int .u8 b).wf = true) : ∃ t, plru_Victim.f 10 b a = some t ∧ assentref1_Victim.f 10 b a = some t := by
  obtain ⟨n, hn, rfl⟩ := u8_nat h
  by_cases ha : a = 1 ∨ a = 2 ∨ a = 4 ∨ a = 8
  · have hm : a ∈ [1, 2, 4, 8] := by simpa using ha
    have h1 := all_victim n hn a hm
    obtain ⟨t, ht⟩ := Option.isSome_iff_exists.1 h1.2
    exact ⟨t, ht, by rw [← h1.1]; exact ht⟩
  · exact ⟨_, victim_no ha 10 _, rvictim_no ha 10 _⟩
theorem PlruTells : assentlaw5_PlruTells.Pure := by
  intro b a w hb _ _
  obtain ⟨t, h1, h2⟩ := touches b a w hb
  obtain ⟨v, h3, h4⟩ := victims b a hb
  refine ⟨10, ?_⟩
  unfold assentlaw5_PlruTells.f
  rw [h1, h2, h3, h4, runs]
  simp
end Go.Proofs.Ytakabjeamkffpaa.Pure
