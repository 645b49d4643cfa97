/- The law ArrayFull: what stands in the set. -/
import Derived.Test.YtjnoaidceddpjaaDoorArrO
import Derived.Test.YtjnoaidceddpjaaDoorBook
namespace Go.Proofs.YtjnoaidceddpjaaDoor
open Go.RowKit Go.Extern.Stop Go.Stop Go.Extern

/-- A number brought into bounds that start at nought. -/
theorem within_nat (x : Int) (hi : Int) (h : 0 ≤ hi ∧ hi ≤ 1000) : ∃ p : Nat, (p : Int) ≤ hi ∧ ∀ w, Calls Tryd.prog 22 #[.int .i64 x, .int .i64 0, .int .i64 hi] w fun e w' => e = .returned (.int .i64 (p : Nat)) ∧ w' = w := by
  have h1 := inOf_le (n := x) (lo := 0) (hi := hi) h.1
  refine ⟨(inOf x 0 hi).toNat, by omega, fun w => ?_⟩
  have h2 := within_same x 0 hi w (by omega) (by omega) (by omega)
  rw [show ((inOf x 0 hi).toNat : Int) = inOf x 0 hi by omega]
  exact h2
/-- The first i ways of a set hold the lines 0, n, 2n .. -/
def fill (n k i : Nat) : List Ent := (List.range i).map (fun j => ofE ((j * n : Nat) : Int)) ++ List.replicate (k - i) Ent.none
/-- The first of the sets with these entries, the others free. -/
def fullS (g k n : Nat) (es : List Ent) : List SetSt := (newSets g k n).set 0 ⟨0, g, es⟩
theorem fullS_length (g k n : Nat) (es : List Ent) : (fullS g k n es).length = n := by simp [fullS, newSets]
theorem fullS_get (g k n : Nat) (es : List Ent) (m : Nat) (hn : 0 < n) (hm : m % n = 0) : (fullS g k n es)[m % (fullS g k n es).length]? = some ⟨0, g, es⟩ := by
  rw [fullS_length, hm]
  simp [fullS, newSets, hn]
theorem fullS_one (g k n : Nat) (es : List Ent) (hn : 1 < n) : (fullS g k n es)[1 % (fullS g k n es).length]? = some ⟨0, g + 1, freeWays k⟩ := by
  rw [fullS_length, Nat.mod_eq_of_lt hn]
  simp [fullS, newSets, hn]
theorem fullS_set (g k n : Nat) (es es' : List Ent) (m : Nat) (hm : m % n = 0) : (fullS g k n es).set (m % (fullS g k n es).length) ⟨0, g, es'⟩ = fullS g k n es' := by
  rw [fullS_length, hm]
  simp [fullS]
theorem fullS_new (g k n : Nat) : newSets g k n = fullS g k n (fill n k 0) := by
  cases n with
  | zero => simp [newSets, fullS]
  | succ n =>
    unfold fullS newSets
    rw [List.range_succ_eq_map]
    simp [fill, freeWays]
theorem usedOf_free (k : Nat) : usedOf (freeWays k) = [] := by simp [usedOf, freeWays, isFree, Ent.none]
theorem usedIn_nil {S : List SetSt} (h : ∀ s ∈ S, usedOf s.es = []) : usedIn S = [] := by
  induction S with
  | nil => rfl
  | cons a l ih =>
    have h1 := h a (by simp)
    have h2 := ih fun s hs => h s (by simp [hs])
    simp only [usedIn, List.flatMap_cons] at h2 ⊢
    rw [h1, h2]; rfl
theorem fullS_used (g k n : Nat) (es : List Ent) (hn : 0 < n) : usedIn (fullS g k n es) = usedOf es := by
  cases n with
  | zero => omega
  | succ n =>
    have h : fullS g k (n + 1) es = ⟨0, g, es⟩ :: (newSets g k (n + 1)).tail := by
      unfold fullS newSets
      rw [List.range_succ_eq_map]
      simp
    rw [h]
    have h2 : usedIn (newSets g k (n + 1)).tail = [] := usedIn_nil fun s hs => by
      have := List.mem_of_mem_tail hs
      simp only [newSets, List.mem_map] at this
      obtain ⟨j, _, rfl⟩ := this
      exact usedOf_free k
    simp only [usedIn, List.flatMap_cons] at h2 ⊢
    rw [h2, List.append_nil]
theorem fill_round : ∀ n ∈ [1, 2, 4], ∀ k ∈ [1, 2, 4], ∀ i, i < k → roomIn ((i * n : Nat) : Int) (fill n k i) = true ∧ placeE ((i * n : Nat) : Int) (fill n k i) = some i ∧ (fill n k i).set i (ofE ((i * n : Nat) : Int)) = fill n k (i + 1) ∧ i * n < 32 ∧ i * n % n = 0 := by decide +kernel
theorem fill_end : ∀ n ∈ [1, 2, 4], ∀ k ∈ [1, 2, 4], roomIn ((k * n : Nat) : Int) (fill n k k) = false ∧ placeE ((k * n : Nat) : Int) (fill n k k) = none ∧ (usedOf (fill n k k)).length = k ∧ k * n < 32 ∧ k * n % n = 0 ∧ roomIn 1 (freeWays k) = true := by decide +kernel
theorem fill_drop : ∀ n ∈ [1, 2, 4], ∀ k ∈ [1, 2, 4], ∀ d, d < k → (fill n k k).findIdx? (isAt ((d * n : Nat) : Int)) = some d ∧ roomIn ((k * n : Nat) : Int) ((fill n k k).set d Ent.none) = true ∧ placeE ((k * n : Nat) : Int) ((fill n k k).set d Ent.none) = some d ∧ roomIn ((d * n : Nat) : Int) (((fill n k k).set d Ent.none).set d (ofE ((k * n : Nat) : Int))) = false ∧ (usedOf (((fill n k k).set d Ent.none).set d (ofE ((k * n : Nat) : Int)))).length = k ∧ d * n < 32 ∧ d * n % n = 0 := by decide +kernel
theorem pow_some (p : Nat) (h : (p : Int) ≤ 2) : ∃ n : Nat, n ∈ [1, 2, 4] ∧ 2 ^ p = n := by
  have : p = 0 ∨ p = 1 ∨ p = 2 := by omega
  rcases this with rfl | rfl | rfl
  · exact ⟨1, by simp, rfl⟩
  · exact ⟨2, by simp, rfl⟩
  · exact ⟨4, by simp, rfl⟩
theorem isPow_some {n : Nat} (h : n ∈ [1, 2, 4]) : isPow (n : Nat) = true := by
  simp at h
  rcases h with rfl | rfl | rfl <;> rfl
theorem ofE_right (x : Int) : rightE (ofE x) = true := rfl
end Go.Proofs.YtjnoaidceddpjaaDoor
