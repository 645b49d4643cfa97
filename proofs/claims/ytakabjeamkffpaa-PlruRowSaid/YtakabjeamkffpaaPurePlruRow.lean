/- With all ways touched in a row the victim is the first of the row, for rows that go up and down. For all bits and all numbers of ways. -/
import Derived.Test.YtakabjeamkffpaaPPlruRowx1
namespace Go.Proofs.Ytakabjeamkffpaa.Pure
open Go.RowKit Go.Proofs.Ytakabjeamkffpaa.PPlruRow Go.Proofs.YtakabjeamkffpaaW.PrintWords Go.Proofs.YtakabjeamkffpaaW.PrintLast Go.Proofs.YtakabjeamkffpaaW.PrintMore
theorem u8_nat {a : Int} (h : (Lit.int .u8 a).wf = true) : ∃ n : Nat, n < 256 ∧ a = (n : Int) := by
  have h1 : 0 ≤ a ∧ a ≤ 255 := by simpa [Lit.wf, IntKind.min, IntKind.max, IntKind.bits, IntKind.signed] using h
  exact ⟨a.toNat, by omega, by omega⟩
theorem i64_range {a : Int} (h : (Lit.int .i64 a).wf = true) : -9223372036854775808 ≤ a ∧ a ≤ 9223372036854775807 := by
  simpa [Lit.wf, IntKind.min, IntKind.max, IntKind.bits, IntKind.signed] using h
theorem four (a : Int) : a = 1 ∨ a = 2 ∨ a = 4 ∨ a = 8 ∨ (¬ (a = 1 ∨ a = 2 ∨ a = 4 ∨ a = 8)) := by omega
theorem right_no {a : Int} (h : ¬ (a = 1 ∨ a = 2 ∨ a = 4 ∨ a = 8)) : plru_right.f a = some false := by
  unfold plru_right.f
  by_cases h1 : a ≥ 1
  · by_cases h2 : a ≤ 8
    · obtain rfl | rfl | rfl | rfl : a = 3 ∨ a = 5 ∨ a = 6 ∨ a = 7 := by omega
      all_goals decide +kernel
    · rw [if_pos h1, if_neg h2]
  · rw [if_neg h1]
theorem right_yes {a : Int} (h : a = 1 ∨ a = 2 ∨ a = 4 ∨ a = 8) : plru_right.f a = some true := by
  obtain rfl | rfl | rfl | rfl := h
  all_goals decide +kernel
theorem touch_no {a : Int} (h : ¬ (a = 1 ∨ a = 2 ∨ a = 4 ∨ a = 8)) (k : Nat) (b w : Int) : plru_Touch.f (k + 1) b a w = some b := by
  unfold plru_Touch.f
  rw [right_no h]
  simp [plru_Touch.j0]
theorem touch_out {a : Int} (h : a = 1 ∨ a = 2 ∨ a = 4 ∨ a = 8) (k : Nat) (b w : Int) (hw : w < 0 ∨ a ≤ w) : plru_Touch.f (k + 1) b a w = some b := by
  unfold plru_Touch.f
  rw [right_yes h]
  simp only [Option.bind_some, if_true]
  by_cases h1 : w < 0
  · rw [if_pos h1]; simp [plru_Touch.j0]
  · rw [if_neg h1]
    have : decide (w ≥ a) = true := by simp; omega
    rw [this]; simp [plru_Touch.j0]
theorem victim_no {a : Int} (h : ¬ (a = 1 ∨ a = 2 ∨ a = 4 ∨ a = 8)) (k : Nat) (b : Int) : plru_Victim.f k b a = some (-1) := by
  unfold plru_Victim.f
  rw [right_no h]
  simp
theorem runs : assentlaw5_PlruRuns.f 10 = some true := by decide +kernel
theorem within_some (a lo hi : Int) (h1 : -1000 ≤ lo) (h2 : lo ≤ hi) (h3 : hi ≤ 1000) : ∃ r, assentbook_Within.f a lo hi = some r ∧ lo ≤ r ∧ r ≤ hi := by
  have e : wrap64 (wrap64 (hi - lo) + 1) = hi - lo + 1 := by unfold wrap64; omega
  have p : 0 < hi - lo + 1 := by omega
  have b1 := Int.tmod_lt_of_pos a p
  have b2 : -(hi - lo + 1) < Int.tmod a (hi - lo + 1) := Int.lt_tmod_of_pos a p
  unfold assentbook_Within.f
  rw [e, if_neg (by omega)]
  generalize Int.tmod a (hi - lo + 1) = t at *
  by_cases h : t < 0
  · rw [if_pos h]
    refine ⟨_, rfl, ?_⟩
    unfold wrap64
    omega
  · rw [if_neg h]
    refine ⟨_, rfl, ?_⟩
    unfold wrap64
    omega
theorem all_rows : ∀ b, b < 256 → ∀ n ∈ [0, 1, 2, 3], ∀ d : Bool, assentlaw5_PlruRow.l0 20 (b : Nat) d (shl .i64 1 n) 0 = some true := by decide +kernel
theorem PlruRow : assentlaw5_PlruRow.Pure := by
  intro b n d hb _
  obtain ⟨c, hc, rfl⟩ := u8_nat hb
  obtain ⟨m, hm, m0, m3⟩ := within_some n 0 3 (by omega) (by omega) (by omega)
  refine ⟨20, ?_⟩
  unfold assentlaw5_PlruRow.f
  rw [hm]
  simp only [Option.bind_some]
  rw [if_pos m0]
  have hmem : m ∈ [0, 1, 2, 3] := by simp; omega
  exact all_rows c hc m hmem d
end Go.Proofs.Ytakabjeamkffpaa.Pure
