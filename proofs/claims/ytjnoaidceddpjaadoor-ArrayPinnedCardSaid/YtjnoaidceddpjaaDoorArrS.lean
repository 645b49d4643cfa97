/- The law ArrayPinned: what stands in the set, and what is pinned. -/
import Derived.Test.YtjnoaidceddpjaaDoorArrP
import Derived.Test.YtjnoaidceddpjaaDoorArrR
namespace Go.Proofs.YtjnoaidceddpjaaDoor
open Go.RowKit Go.Extern.Stop Go.Stop Go.Extern

def fillH (h n k i : Nat) : List Ent := (List.range i).map (fun j => ofE ((h + n * j : Nat) : Int)) ++ List.replicate (k - i) Ent.none
def pinL (h n : Nat) (P : Nat → Bool) (i : Nat) : List Int := ((List.range i).filter P).map fun j => ((h + n * j : Nat) : Int)
def lineL (h n i : Nat) : List Int := (List.range i).map fun j => ((h + n * j : Nat) : Int)
def fullH (g k n h : Nat) (es : List Ent) : List SetSt := (newSets g k n).set h ⟨0, g + h, es⟩
theorem fullH_length (g k n h : Nat) (es : List Ent) : (fullH g k n h es).length = n := by simp [fullH, newSets]
theorem fullH_get (g k n h : Nat) (es : List Ent) (m : Nat) (hn : h < n) (hm : m % n = h) : (fullH g k n h es)[m % (fullH g k n h es).length]? = some ⟨0, g + h, es⟩ := by
  rw [fullH_length, hm]
  simp [fullH, newSets, hn]
theorem fullH_set (g k n h : Nat) (es es' : List Ent) (m : Nat) (hm : m % n = h) : (fullH g k n h es).set (m % (fullH g k n h es).length) ⟨0, g + h, es'⟩ = fullH g k n h es' := by
  rw [fullH_length, hm]
  simp [fullH]
theorem fullH_new (g k n h : Nat) : newSets g k n = fullH g k n h (fillH h n k 0) := by
  apply List.ext_getElem?
  intro i
  unfold fullH
  rw [List.getElem?_set]
  by_cases e : h = i
  · subst e
    rw [if_pos rfl]
    by_cases hn : h < n
    · simp [newSets, hn, fillH, freeWays]
    · simp [newSets, hn]
  · rw [if_neg e]
theorem pinL_succ (h n : Nat) (P : Nat → Bool) (i : Nat) : pinL h n P (i + 1) = pinL h n P i ++ (if P i then [((h + n * i : Nat) : Int)] else []) := by
  unfold pinL
  rw [List.range_succ, List.filter_append, List.map_append]
  cases hp : P i <;> simp [hp]
theorem lineL_succ (h n i : Nat) : lineL h n (i + 1) = lineL h n i ++ [((h + n * i : Nat) : Int)] := by simp [lineL, List.range_succ]
theorem lineL_get (h n k i : Nat) (hi : i < k) : (lineL h n k)[i]? = some ((h + n * i : Nat) : Int) := by simp [lineL, hi]
theorem pinL_le (h n : Nat) (P : Nat → Bool) (i : Nat) : (pinL h n P i).length ≤ i := by
  unfold pinL
  rw [List.length_map]
  have := List.length_filter_le P (List.range i)
  rw [List.length_range] at this
  exact this
def mask (b0 b1 b2 b3 : Bool) (j : Nat) : Bool := [b0, b1, b2, b3].getD j false
theorem pinL_mask (h n : Nat) (P : Nat → Bool) (k : Nat) (hk : k ≤ 4) : pinL h n P k = pinL h n (mask (P 0) (P 1) (P 2) (P 3)) k := by
  unfold pinL
  congr 1
  apply List.filter_congr
  intro j hj
  rw [List.mem_range] at hj
  have : j = 0 ∨ j = 1 ∨ j = 2 ∨ j = 3 := by omega
  rcases this with rfl | rfl | rfl | rfl <;> rfl
theorem pin_round : ∀ n ∈ [1, 2, 4], ∀ k ∈ [1, 2, 4], ∀ h, h < n → ∀ i, i < k → placeE ((h + n * i : Nat) : Int) (fillH h n k i) = some i ∧ (fillH h n k i).set i (ofE ((h + n * i : Nat) : Int)) = fillH h n k (i + 1) ∧ h + n * i < 32 ∧ (h + n * i) % n = h := by decide +kernel
theorem pin_end : ∀ n ∈ [1, 2, 4], ∀ k ∈ [1, 2, 4], ∀ h, h < n → roomIn ((h + n * k : Nat) : Int) (fillH h n k k) = false ∧ h + n * k < 32 ∧ (h + n * k) % n = h := by decide +kernel
theorem pin_get : ∀ n ∈ [1, 2, 4], ∀ k ∈ [1, 2, 4], ∀ h, h < n → ∀ j, j < k → (fillH h n k k).findIdx? (isAt ((h + n * j : Nat) : Int)) = some j ∧ (fillH h n k k)[j]? = some (ofE ((h + n * j : Nat) : Int)) ∧ h + n * j < 32 ∧ (h + n * j) % n = h := by decide +kernel
theorem pin_all : ∀ n ∈ [1, 2, 4], ∀ k ∈ [1, 2, 4], ∀ h, h < n → ∀ v, v < k → ∀ b0 b1 b2 b3 : Bool, (pinL h n (mask b0 b1 b2 b3) k).length = k → victimOf (fillH h n k k) v (pinL h n (mask b0 b1 b2 b3) k) = -1 := by decide +kernel
theorem pin_some : ∀ n ∈ [1, 2, 4], ∀ k ∈ [1, 2, 4], ∀ h, h < n → ∀ v, v < k → ∀ b0 b1 b2 b3 : Bool, (pinL h n (mask b0 b1 b2 b3) k).length ≠ k → (∃ j, j < k ∧ victimOf (fillH h n k k) v (pinL h n (mask b0 b1 b2 b3) k) = ((h + n * j : Nat) : Int)) ∧ (∀ p ∈ pinL h n (mask b0 b1 b2 b3) k, victimOf (fillH h n k k) v (pinL h n (mask b0 b1 b2 b3) k) ≠ p) ∧ victimOf (fillH h n k k) v (pinL h n (mask b0 b1 b2 b3) k ++ [31]) = victimOf (fillH h n k k) v (pinL h n (mask b0 b1 b2 b3) k) := by decide +kernel
end Go.Proofs.YtjnoaidceddpjaaDoor
