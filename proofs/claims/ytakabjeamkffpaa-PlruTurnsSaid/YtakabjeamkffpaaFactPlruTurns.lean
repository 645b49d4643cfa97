/- The victim is a way; what was touched last isn't it; touching each victim goes through all ways, once each. For any bits, any number of ways, any list of touches: the finite facts. -/
import Derived.Test.YtakabjeamkffpaaPPlruTurnsx1
import Derived.Deep.DeepFit
import Derived.Lib.Hide
import Derived.Deep.LoopGhost
import Derived.Deep.QuietTactic
import Derived.BigQuiet
import Derived.Deep.RegionHeld3
namespace Go.Proofs.Ytakabjeamkffpaa.Turns
open Go.RowKit Go.Proofs.YtakabjeamkffpaaW.PrintWords Go.Proofs.YtakabjeamkffpaaW.PrintLast Go.Proofs.YtakabjeamkffpaaW.PrintMore Go.Proofs.Ytakabjeamkffpaa.PPlruTurns
theorem u8_nat {a : Int} (h : (Lit.int .u8 a).wf = true) : ∃ n : Nat, n < 256 ∧ a = (n : Int) := by
  have h1 : 0 ≤ a ∧ a ≤ 255 := by simpa [Lit.wf, IntKind.min, IntKind.max, IntKind.bits, IntKind.signed] using h
  exact ⟨a.toNat, by omega, by omega⟩
theorem i64_range {a : Int} (h : (Lit.int .i64 a).wf = true) : -9223372036854775808 ≤ a ∧ a ≤ 9223372036854775807 := by
  simpa [Lit.wf, IntKind.min, IntKind.max, IntKind.bits, IntKind.signed] using h
theorem four (a : Int) : a = 1 ∨ a = 2 ∨ a = 4 ∨ a = 8 ∨ (¬ (a = 1 ∨ a = 2 ∨ a = 4 ∨ a = 8)) := by omega
theorem right_no {a : Int} (h : ¬ (a = 1 ∨ a = 2 ∨ a = 4 ∨ a = 8)) : plru_right.f a = some false := by
  unfold plru_right.f
  by_cases h1 : a ≥ 1
  · by_cases h2 : a ≤ 8
    · obtain rfl | rfl | rfl | rfl : a = 3 ∨ a = 5 ∨ a = 6 ∨ a = 7 := by omega
      all_goals decide +kernel
    · rw [if_pos h1, if_neg h2]
  · rw [if_neg h1]
theorem right_yes {a : Int} (h : a = 1 ∨ a = 2 ∨ a = 4 ∨ a = 8) : plru_right.f a = some true := by
  obtain rfl | rfl | rfl | rfl := h
  all_goals decide +kernel
theorem touch_no {a : Int} (h : ¬ (a = 1 ∨ a = 2 ∨ a = 4 ∨ a = 8)) (k : Nat) (b w : Int) : plru_Touch.f (k + 1) b a w = some b := by
  unfold plru_Touch.f
  rw [right_no h]
  simp [plru_Touch.j0]
theorem touch_out {a : Int} (h : a = 1 ∨ a = 2 ∨ a = 4 ∨ a = 8) (k : Nat) (b w : Int) (hw : w < 0 ∨ a ≤ w) : plru_Touch.f (k + 1) b a w = some b := by
  unfold plru_Touch.f
  rw [right_yes h]
  simp only [Option.bind_some, if_true]
  by_cases h1 : w < 0
  · rw [if_pos h1]; simp [plru_Touch.j0]
  · rw [if_neg h1]
    have : decide (w ≥ a) = true := by simp; omega
    rw [this]; simp [plru_Touch.j0]
theorem victim_no {a : Int} (h : ¬ (a = 1 ∨ a = 2 ∨ a = 4 ∨ a = 8)) (k : Nat) (b : Int) : plru_Victim.f k b a = some (-1) := by
  unfold plru_Victim.f
  rw [right_no h]
  simp
theorem runs : assentlaw5_PlruRuns.f 10 = some true := by decide +kernel
theorem within_some (a lo hi : Int) (h1 : -1000 ≤ lo) (h2 : lo ≤ hi) (h3 : hi ≤ 1000) : ∃ r, assentbook_Within.f a lo hi = some r ∧ lo ≤ r ∧ r ≤ hi := by
  have e : wrap64 (wrap64 (hi - lo) + 1) = hi - lo + 1 := by unfold wrap64; omega
  have p : 0 < hi - lo + 1 := by omega
  have b1 := Int.tmod_lt_of_pos a p
  have b2 : -(hi - lo + 1) < Int.tmod a (hi - lo + 1) := Int.lt_tmod_of_pos a p
  unfold assentbook_Within.f
  rw [e, if_neg (by omega)]
  generalize Int.tmod a (hi - lo + 1) = t at *
  by_cases h : t < 0
  · rw [if_pos h]
    refine ⟨_, rfl, ?_⟩
    unfold wrap64
    omega
  · rw [if_neg h]
    refine ⟨_, rfl, ?_⟩
    unfold wrap64
    omega
/-- The bits and the ways that were seen after so many turns. -/
def turned (m : Int) (b : Nat) : Nat → Nat × List Bool
  | 0 => (b, List.replicate 8 false)
  | i + 1 =>
    let s := turned m b i
    let v := ((plru_Victim.f 20 (s.1 : Nat) m).getD 0).toNat
    (((plru_Touch.f 20 (s.1 : Nat) m (v : Nat)).getD 0).toNat, s.2.set v true)
theorem touch_all : ∀ b, b < 256 → ∀ m ∈ [1, 2, 4, 8], ∀ w, w < 8 → ((w : Nat) : Int) < m → ∃ c, c < 256 ∧ plru_Touch.f 20 (b : Nat) m (w : Nat) = some ((c : Nat) : Int) ∧ ∃ v, v < 8 ∧ plru_Victim.f 20 (c : Nat) m = some ((v : Nat) : Int) ∧ ((v : Nat) : Int) < m ∧ (1 < m → v ≠ w) := by
  have h : ∀ b, b < 256 → ∀ m ∈ [1, 2, 4, 8], ∀ w, w < 8 → ((w : Nat) : Int) < m → (match plru_Touch.f 20 (b : Nat) m (w : Nat) with
    | some x => decide (0 ≤ x ∧ x < 256) && (match plru_Victim.f 20 x m with
      | some y => decide (0 ≤ y ∧ y < m ∧ (1 < m → y ≠ (w : Nat)))
      | none => false)
    | none => false) = true := by decide +kernel
  intro b hb m hm w hw hwm
  have := h b hb m hm w hw hwm
  cases h1 : plru_Touch.f 20 (b : Nat) m (w : Nat) with
  | none => rw [h1] at this; simp at this
  | some x =>
    rw [h1] at this
    simp only [Bool.and_eq_true, decide_eq_true_eq] at this
    obtain ⟨hx, this⟩ := this
    refine ⟨x.toNat, by omega, by congr 1; omega, ?_⟩
    rw [show ((x.toNat : Nat) : Int) = x by omega]
    cases h2 : plru_Victim.f 20 x m with
    | none => rw [h2] at this; simp at this
    | some y =>
      rw [h2] at this
      simp only [decide_eq_true_eq] at this
      have hm8 : m ≤ 8 := by simp at hm; omega
      exact ⟨y.toNat, by omega, by congr 1; omega, by omega, fun h1 => by have := this.2.2 h1; omega⟩
theorem turn_all : ∀ b, b < 256 → ∀ m ∈ [1, 2, 4, 8], ∀ i, i < 8 → ((i : Nat) : Int) < m → ∃ v, v < 8 ∧ ((v : Nat) : Int) < m ∧ plru_Victim.f 20 ((turned m b i).1 : Nat) m = some ((v : Nat) : Int) ∧ (turned m b i).2.getD v false = false ∧ plru_Touch.f 20 ((turned m b i).1 : Nat) m (v : Nat) = some (((turned m b (i + 1)).1 : Nat) : Int) ∧ (turned m b (i + 1)).2 = (turned m b i).2.set v true ∧ (turned m b i).2.length = 8 := by
  have h : ∀ b, b < 256 → ∀ m ∈ [1, 2, 4, 8], ∀ i, i < 8 → ((i : Nat) : Int) < m → (match plru_Victim.f 20 ((turned m b i).1 : Nat) m with
    | some y => decide (0 ≤ y ∧ y < m ∧ (turned m b i).2.getD y.toNat false = false ∧ plru_Touch.f 20 ((turned m b i).1 : Nat) m y = some (((turned m b (i + 1)).1 : Nat) : Int) ∧ (turned m b (i + 1)).2 = (turned m b i).2.set y.toNat true ∧ (turned m b i).2.length = 8)
    | none => false) = true := by decide +kernel
  intro b hb m hm i hi him
  have := h b hb m hm i hi him
  cases h2 : plru_Victim.f 20 ((turned m b i).1 : Nat) m with
  | none => rw [h2] at this; simp at this
  | some y =>
    rw [h2] at this
    simp only [decide_eq_true_eq] at this
    have hm8 : m ≤ 8 := by simp at hm; omega
    obtain ⟨p1, p2, p3, p4, p5, p6⟩ := this
    have e : ((y.toNat : Nat) : Int) = y := by omega
    exact ⟨y.toNat, by omega, by omega, by rw [e], p3, by rw [e]; exact p4, p5, p6⟩
end Go.Proofs.Ytakabjeamkffpaa.Turns
