/- Touching one way twice is touching it once, and the sibling half of what was touched last stays. For all bits, ways and two ways. -/
import Derived.Test.YtakabjeamkffpaaPPlruPathx1
namespace Go.Proofs.Ytakabjeamkffpaa.Pure
open Go.RowKit Go.Proofs.Ytakabjeamkffpaa.PPlruPath Go.Proofs.YtakabjeamkffpaaW.PrintWords Go.Proofs.YtakabjeamkffpaaW.PrintLast Go.Proofs.YtakabjeamkffpaaW.PrintMore
theorem u8_nat {a : Int} (h : (Lit.int .u8 a).wf = true) : ∃ n : Nat, n < 256 ∧ a = (n : Int) := by
  have h1 : 0 ≤ a ∧ a ≤ 255 := by simpa [Lit.wf, IntKind.min, IntKind.max, IntKind.bits, IntKind.signed] using h
  exact ⟨a.toNat, by omega, by omega⟩
theorem i64_range {a : Int} (h : (Lit.int .i64 a).wf = true) : -9223372036854775808 ≤ a ∧ a ≤ 9223372036854775807 := by
  simpa [Lit.wf, IntKind.min, IntKind.max, IntKind.bits, IntKind.signed] using h
theorem four (a : Int) : a = 1 ∨ a = 2 ∨ a = 4 ∨ a = 8 ∨ (¬ (a = 1 ∨ a = 2 ∨ a = 4 ∨ a = 8)) := by omega
theorem right_no {a : Int} (h : ¬ (a = 1 ∨ a = 2 ∨ a = 4 ∨ a = 8)) : plru_right.f a = some false := by
  unfold plru_right.f
  by_cases h1 : a ≥ 1
  · by_cases h2 : a ≤ 8
    · obtain rfl | rfl | rfl | rfl : a = 3 ∨ a = 5 ∨ a = 6 ∨ a = 7 := by omega
      all_goals decide +kernel
    · rw [if_pos h1, if_neg h2]
  · rw [if_neg h1]
theorem right_yes {a : Int} (h : a = 1 ∨ a = 2 ∨ a = 4 ∨ a = 8) : plru_right.f a = some true := by
  obtain rfl | rfl | rfl | rfl := h
  all_goals decide +kernel
theorem touch_no {a : Int} (h : ¬ (a = 1 ∨ a = 2 ∨ a = 4 ∨ a = 8)) (k : Nat) (b w : Int) : plru_Touch.f (k + 1) b a w = some b := by
  unfold plru_Touch.f
  rw [right_no h]
  simp [plru_Touch.j0]
theorem touch_out {a : Int} (h : a = 1 ∨ a = 2 ∨ a = 4 ∨ a = 8) (k : Nat) (b w : Int) (hw : w < 0 ∨ a ≤ w) : plru_Touch.f (k + 1) b a w = some b := by
  unfold plru_Touch.f
  rw [right_yes h]
  simp only [Option.bind_some, if_true]
  by_cases h1 : w < 0
  · rw [if_pos h1]; simp [plru_Touch.j0]
  · rw [if_neg h1]
    have : decide (w ≥ a) = true := by simp; omega
    rw [this]; simp [plru_Touch.j0]
theorem victim_no {a : Int} (h : ¬ (a = 1 ∨ a = 2 ∨ a = 4 ∨ a = 8)) (k : Nat) (b : Int) : plru_Victim.f k b a = some (-1) := by
  unfold plru_Victim.f
  rw [right_no h]
  simp
theorem runs : assentlaw5_PlruRuns.f 10 = some true := by decide +kernel
theorem within_some (a lo hi : Int) (h1 : -1000 ≤ lo) (h2 : lo ≤ hi) (h3 : hi ≤ 1000) : ∃ r, assentbook_Within.f a lo hi = some r ∧ lo ≤ r ∧ r ≤ hi := by
  have e : wrap64 (wrap64 (hi - lo) + 1) = hi - lo + 1 := by unfold wrap64; omega
  have p : 0 < hi - lo + 1 := by omega
  have b1 := Int.tmod_lt_of_pos a p
  have b2 : -(hi - lo + 1) < Int.tmod a (hi - lo + 1) := Int.lt_tmod_of_pos a p
  unfold assentbook_Within.f
  rw [e, if_neg (by omega)]
  generalize Int.tmod a (hi - lo + 1) = t at *
  by_cases h : t < 0
  · rw [if_pos h]
    refine ⟨_, rfl, ?_⟩
    unfold wrap64
    omega
  · rw [if_neg h]
    refine ⟨_, rfl, ?_⟩
    unfold wrap64
    omega
theorem pow_ways (n : Int) (h0 : 0 ≤ n) (h3 : n ≤ 3) : n = 0 ∨ n = 1 ∨ n = 2 ∨ n = 3 := by omega
/-- What the law does behind its choices. -/
def rest (k : Nat) (a0 n w v : Int) : Option Bool := (plru_Touch.f k a0 (shl .i64 1 n) w).bind fun t110 => (if 0 ≤ (wrap64 ((shl .i64 1 n) - 1)) then ((plru_Touch.f k t110 (shl .i64 1 n) w).bind fun t111 => (if t111 = t110 then (assentlaw5_PlruPath.j0 k (shl .i64 1 n) w v t110 ((Go.bits .and .u8 t110 (shl .u8 255 (wrap64 ((shl .i64 1 n) - 1)))) != (Go.bits .and .u8 a0 (shl .u8 255 (wrap64 ((shl .i64 1 n) - 1)))))) else (assentlaw5_PlruPath.j0 k (shl .i64 1 n) w v t110 true))) else (none))
theorem all0 : ∀ b, b < 256 → rest 12 (b : Nat) 0 0 0 = some true := by decide +kernel
theorem all1 : ∀ b, b < 256 → ∀ w, w < 2 → ∀ v, v < 2 → rest 12 (b : Nat) 1 (w : Nat) (v : Nat) = some true := by decide +kernel
set_option maxHeartbeats 4000000 in
theorem all2 : ∀ b, b < 256 → ∀ w, w < 4 → ∀ v, v < 4 → rest 12 (b : Nat) 2 (w : Nat) (v : Nat) = some true := by decide +kernel
set_option maxHeartbeats 4000000 in
theorem a3w0a : ∀ b, b < 128 → ∀ v, v < 8 → rest 12 ((b + 0 : Nat) : Int) 3 0 (v : Nat) = some true := by decide +kernel
set_option maxHeartbeats 4000000 in
theorem a3w0b : ∀ b, b < 128 → ∀ v, v < 8 → rest 12 ((b + 128 : Nat) : Int) 3 0 (v : Nat) = some true := by decide +kernel
set_option maxHeartbeats 4000000 in
theorem a3w1a : ∀ b, b < 128 → ∀ v, v < 8 → rest 12 ((b + 0 : Nat) : Int) 3 1 (v : Nat) = some true := by decide +kernel
set_option maxHeartbeats 4000000 in
theorem a3w1b : ∀ b, b < 128 → ∀ v, v < 8 → rest 12 ((b + 128 : Nat) : Int) 3 1 (v : Nat) = some true := by decide +kernel
set_option maxHeartbeats 4000000 in
theorem a3w2a : ∀ b, b < 128 → ∀ v, v < 8 → rest 12 ((b + 0 : Nat) : Int) 3 2 (v : Nat) = some true := by decide +kernel
set_option maxHeartbeats 4000000 in
theorem a3w2b : ∀ b, b < 128 → ∀ v, v < 8 → rest 12 ((b + 128 : Nat) : Int) 3 2 (v : Nat) = some true := by decide +kernel
set_option maxHeartbeats 4000000 in
theorem a3w3a : ∀ b, b < 128 → ∀ v, v < 8 → rest 12 ((b + 0 : Nat) : Int) 3 3 (v : Nat) = some true := by decide +kernel
set_option maxHeartbeats 4000000 in
theorem a3w3b : ∀ b, b < 128 → ∀ v, v < 8 → rest 12 ((b + 128 : Nat) : Int) 3 3 (v : Nat) = some true := by decide +kernel
set_option maxHeartbeats 4000000 in
theorem a3w4a : ∀ b, b < 128 → ∀ v, v < 8 → rest 12 ((b + 0 : Nat) : Int) 3 4 (v : Nat) = some true := by decide +kernel
set_option maxHeartbeats 4000000 in
theorem a3w4b : ∀ b, b < 128 → ∀ v, v < 8 → rest 12 ((b + 128 : Nat) : Int) 3 4 (v : Nat) = some true := by decide +kernel
set_option maxHeartbeats 4000000 in
theorem a3w5a : ∀ b, b < 128 → ∀ v, v < 8 → rest 12 ((b + 0 : Nat) : Int) 3 5 (v : Nat) = some true := by decide +kernel
set_option maxHeartbeats 4000000 in
theorem a3w5b : ∀ b, b < 128 → ∀ v, v < 8 → rest 12 ((b + 128 : Nat) : Int) 3 5 (v : Nat) = some true := by decide +kernel
set_option maxHeartbeats 4000000 in
theorem a3w6a : ∀ b, b < 128 → ∀ v, v < 8 → rest 12 ((b + 0 : Nat) : Int) 3 6 (v : Nat) = some true := by decide +kernel
set_option maxHeartbeats 4000000 in
theorem a3w6b : ∀ b, b < 128 → ∀ v, v < 8 → rest 12 ((b + 128 : Nat) : Int) 3 6 (v : Nat) = some true := by decide +kernel
set_option maxHeartbeats 4000000 in
theorem a3w7a : ∀ b, b < 128 → ∀ v, v < 8 → rest 12 ((b + 0 : Nat) : Int) 3 7 (v : Nat) = some true := by decide +kernel
set_option maxHeartbeats 4000000 in
theorem a3w7b : ∀ b, b < 128 → ∀ v, v < 8 → rest 12 ((b + 128 : Nat) : Int) 3 7 (v : Nat) = some true := by decide +kernel
theorem all3 : ∀ b, b < 256 → ∀ w, w < 8 → ∀ v, v < 8 → rest 12 (b : Nat) 3 (w : Nat) (v : Nat) = some true := by
  intro b hb w hw v hv
  obtain h | h : b < 128 ∨ 128 ≤ b := by omega
  · obtain rfl | rfl | rfl | rfl | rfl | rfl | rfl | rfl : w = 0 ∨ w = 1 ∨ w = 2 ∨ w = 3 ∨ w = 4 ∨ w = 5 ∨ w = 6 ∨ w = 7 := by omega
    · exact a3w0a b h v hv
    · exact a3w1a b h v hv
    · exact a3w2a b h v hv
    · exact a3w3a b h v hv
    · exact a3w4a b h v hv
    · exact a3w5a b h v hv
    · exact a3w6a b h v hv
    · exact a3w7a b h v hv
  · obtain ⟨c, rfl⟩ : ∃ c, b = c + 128 := ⟨b - 128, by omega⟩
    obtain rfl | rfl | rfl | rfl | rfl | rfl | rfl | rfl : w = 0 ∨ w = 1 ∨ w = 2 ∨ w = 3 ∨ w = 4 ∨ w = 5 ∨ w = 6 ∨ w = 7 := by omega
    · exact a3w0b c (by omega) v hv
    · exact a3w1b c (by omega) v hv
    · exact a3w2b c (by omega) v hv
    · exact a3w3b c (by omega) v hv
    · exact a3w4b c (by omega) v hv
    · exact a3w5b c (by omega) v hv
    · exact a3w6b c (by omega) v hv
    · exact a3w7b c (by omega) v hv
theorem ways_of (n : Int) (h0 : 0 ≤ n) (h3 : n ≤ 3) : 0 ≤ wrap64 ((shl .i64 1 n) - 1) ∧ wrap64 ((shl .i64 1 n) - 1) ≤ 1000 := by
  obtain rfl | rfl | rfl | rfl := pow_ways n h0 h3
  all_goals decide +kernel
theorem PlruPath : assentlaw5_PlruPath.Pure := by
  intro b n w v hb _ _ _
  obtain ⟨c, hc, rfl⟩ := u8_nat hb
  obtain ⟨m, hm, m0, m3⟩ := within_some n 0 3 (by omega) (by omega) (by omega)
  obtain ⟨y0, y1⟩ := ways_of m m0 m3
  obtain ⟨w', hw, w0, w1⟩ := within_some w 0 _ (by omega) y0 y1
  obtain ⟨v', hv, v0, v1⟩ := within_some v 0 _ (by omega) y0 y1
  refine ⟨12, ?_⟩
  unfold assentlaw5_PlruPath.f
  rw [hm]
  simp only [Option.bind_some]
  rw [if_pos m0, hw, hv]
  simp only [Option.bind_some]
  show rest 12 (c : Int) m w' v' = some true
  obtain ⟨x, rfl⟩ : ∃ x : Nat, w' = (x : Int) := ⟨w'.toNat, by omega⟩
  obtain ⟨y, rfl⟩ : ∃ y : Nat, v' = (y : Int) := ⟨v'.toNat, by omega⟩
  obtain rfl | rfl | rfl | rfl := pow_ways m m0 m3
  · have e : wrap64 (shl .i64 1 0 - 1) = 0 := by decide +kernel
    rw [e] at w1 v1
    obtain rfl : x = 0 := by omega
    obtain rfl : y = 0 := by omega
    exact all0 c hc
  · have e : wrap64 (shl .i64 1 1 - 1) = 1 := by decide +kernel
    rw [e] at w1 v1
    exact all1 c hc x (by omega) y (by omega)
  · have e : wrap64 (shl .i64 1 2 - 1) = 3 := by decide +kernel
    rw [e] at w1 v1
    exact all2 c hc x (by omega) y (by omega)
  · have e : wrap64 (shl .i64 1 3 - 1) = 7 := by decide +kernel
    rw [e] at w1 v1
    exact all3 c hc x (by omega) y (by omega)
end Go.Proofs.Ytakabjeamkffpaa.Pure
