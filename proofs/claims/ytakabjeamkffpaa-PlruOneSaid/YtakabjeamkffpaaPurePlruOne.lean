/- Of one way it is always the victim; ways that cannot be have none, and touching them changes nothing. For all bits, ways and way. -/
import Derived.Test.YtakabjeamkffpaaPPlruOnex1
namespace Go.Proofs.Ytakabjeamkffpaa.Pure
open Go.RowKit Go.Proofs.Ytakabjeamkffpaa.PPlruOne Go.Proofs.YtakabjeamkffpaaW.PrintWords Go.Proofs.YtakabjeamkffpaaW.PrintLast Go.Proofs.YtakabjeamkffpaaW.PrintMore
theorem u8_nat {a : Int} (h : (Lit.int .u8 a).wf = true) : ∃ n : Nat, n < 256 ∧ a = (n : Int) := by
  have h1 : 0 ≤ a ∧ a ≤ 255 := by simpa [Lit.wf, IntKind.min, IntKind.max, IntKind.bits, IntKind.signed] using h
  exact ⟨a.toNat, by omega, by omega⟩
theorem i64_range {a : Int} (h : (Lit.int .i64 a).wf = true) : -9223372036854775808 ≤ a ∧ a ≤ 9223372036854775807 := by
  simpa [Lit.wf, IntKind.min, IntKind.max, IntKind.bits, IntKind.signed] using h
theorem four (a : Int) : a = 1 ∨ a = 2 ∨ a = 4 ∨ a = 8 ∨ (¬ (a = 1 ∨ a = 2 ∨ a = 4 ∨ a = 8)) := by omega
theorem right_no {a : Int} (h : ¬ (a = 1 ∨ a = 2 ∨ a = 4 ∨ a = 8)) : plru_right.f a = some false := by
  unfold plru_right.f
  by_cases h1 : a ≥ 1
  · by_cases h2 : a ≤ 8
    · obtain rfl | rfl | rfl | rfl : a = 3 ∨ a = 5 ∨ a = 6 ∨ a = 7 := by omega
      all_goals decide +kernel
    · rw [if_pos h1, if_neg h2]
  · rw [if_neg h1]
theorem right_yes {a : Int} (h : a = 1 ∨ a = 2 ∨ a = 4 ∨ a = 8) : plru_right.f a = some true := by
  obtain rfl | rfl | rfl | rfl := h
  all_goals decide +kernel
theorem touch_no {a : Int} (h : ¬ (a = 1 ∨ a = 2 ∨ a = 4 ∨ a = 8)) (k : Nat) (b w : Int) : plru_Touch.f (k + 1) b a w = some b := by
  unfold plru_Touch.f
  rw [right_no h]
  simp [plru_Touch.j0]
theorem touch_out {a : Int} (h : a = 1 ∨ a = 2 ∨ a = 4 ∨ a = 8) (k : Nat) (b w : Int) (hw : w < 0 ∨ a ≤ w) : plru_Touch.f (k + 1) b a w = some b := by
  unfold plru_Touch.f
  rw [right_yes h]
  simp only [Option.bind_some, if_true]
  by_cases h1 : w < 0
  · rw [if_pos h1]; simp [plru_Touch.j0]
  · rw [if_neg h1]
    have : decide (w ≥ a) = true := by simp; omega
    rw [this]; simp [plru_Touch.j0]
theorem victim_no {a : Int} (h : ¬ (a = 1 ∨ a = 2 ∨ a = 4 ∨ a = 8)) (k : Nat) (b : Int) : plru_Victim.f k b a = some (-1) := by
  unfold plru_Victim.f
  rw [right_no h]
  simp
theorem runs : assentlaw5_PlruRuns.f 10 = some true := by decide +kernel
theorem one_way : ∀ b, b < 256 → plru_Victim.f 10 (b : Nat) 1 = some 0 ∧ plru_Touch.f 10 (b : Nat) 1 0 = some (b : Int) := by decide +kernel
theorem some_way : ∀ b, b < 256 → ∀ a ∈ [1, 2, 4, 8], ((plru_Victim.f 8 (b : Nat) a).any fun v => decide (0 ≤ v) && decide (v < a)) = true := by decide +kernel
theorem runs8 : assentlaw5_PlruRuns.f 8 = some true := by decide +kernel
theorem PlruOne : assentlaw5_PlruOne.Pure := by
  intro b a w hb _ _
  obtain ⟨n, hn, rfl⟩ := u8_nat hb
  obtain ⟨h1, h2⟩ := one_way n hn
  refine ⟨10, ?_⟩
  unfold assentlaw5_PlruOne.f
  rw [h1, h2]
  simp only [Option.bind_some, if_true, bne_self_eq_false, assentlaw5_PlruOne.j0]
  by_cases ha : a = 1 ∨ a = 2 ∨ a = 4 ∨ a = 8
  · have hm : a ∈ [1, 2, 4, 8] := by simpa using ha
    have h3 := some_way n hn a hm
    obtain ⟨v, hv, hv2⟩ := (Option.any_eq_true _ _).1 h3
    have hv0 : 0 ≤ v ∧ v < a := by simpa using hv2
    have key : assentlaw5_PlruOne.j1 9 (n : Int) a w true = some true := by
      simp only [assentlaw5_PlruOne.j1, if_true]
      rw [hv]
      simp only [Option.bind_some]
      rw [if_pos hv0.1, if_pos hv0.2]
      by_cases hw : w < 0 ∨ a ≤ w
      · have ht := touch_out ha 7 (n : Int) w hw
        by_cases h0 : w ≥ 0
        · rw [if_pos h0, if_neg (by omega), ht, runs8]; simp
        · rw [if_neg h0, ht, runs8]; simp
      · rw [if_pos (by omega), if_pos (by omega), runs8]; simp
    obtain rfl | rfl | rfl | rfl := ha
    all_goals simpa [assentlaw5_PlruOne.j0] using key
  · have e1 : ¬ a = 1 := fun h => ha (Or.inl h)
    have e2 : ¬ a = 2 := fun h => ha (Or.inr (Or.inl h))
    have e4 : ¬ a = 4 := fun h => ha (Or.inr (Or.inr (Or.inl h)))
    have e8 : (a == 8) = false := beq_eq_false_iff_ne.2 (fun h => ha (Or.inr (Or.inr (Or.inr h))))
    rw [if_neg (by decide), if_neg e1, if_neg e2, if_neg e4, e8]
    simp only [assentlaw5_PlruOne.j1]
    rw [if_neg (by decide), victim_no ha 8, touch_no ha 7, runs8]
    simp
end Go.Proofs.Ytakabjeamkffpaa.Pure
