/- The law ArrayHolds: plain facts of the sets' entries, and of the list of all. -/
import Derived.Test.YtfaihaknibmcpaaGreatDoorGood
namespace Go.Proofs.YtfaihaknibmcpaaGreatDoor
open Go.RowKit Go.Extern.Stop Go.Stop Go.Extern

/-- The line of an entry, as a plain number. -/
def lineN (e : Ent) : Nat := e.line.toNat
def linesN (l : List Ent) : List Nat := l.map lineN
theorem mem_usedOf {es : List Ent} {e : Ent} : e ∈ usedOf es ↔ e ∈ es ∧ isFree e = false := by
  simp [usedOf]
theorem mem_usedIn {S : List SetSt} {e : Ent} (h : e ∈ usedIn S) : ∃ (r : Nat) (s : SetSt), S[r]? = some s ∧ e ∈ s.es ∧ isFree e = false := by
  simp only [usedIn, List.mem_flatMap] at h
  obtain ⟨s, hs, he⟩ := h
  obtain ⟨r, hr, rfl⟩ := List.getElem_of_mem hs
  exact ⟨r, _, List.getElem?_eq_getElem hr, (mem_usedOf.1 he).1, (mem_usedOf.1 he).2⟩
theorem usedIn_mem {S : List SetSt} {e : Ent} {r : Nat} {s : SetSt} (h : S[r]? = some s) (he : e ∈ s.es) (hf : isFree e = false) : e ∈ usedIn S := by
  simp only [usedIn, List.mem_flatMap]
  exact ⟨s, List.mem_of_getElem? h, mem_usedOf.2 ⟨he, hf⟩⟩
theorem goodS_line {n : Nat} {S : List SetSt} (h : GoodS n S) {e : Ent} (he : e ∈ usedIn S) : ∃ x : Nat, x < 32 ∧ e.line = (x : Nat) ∧ lineN e = x := by
  obtain ⟨r, s, hs, hm, hf⟩ := mem_usedIn he
  obtain ⟨x, h1, h2, _⟩ := (h.2 r s hs).home e hm hf
  exact ⟨x, h1, h2, by simp [lineN, h2]⟩
theorem usedOf_pairwise {n r : Nat} {es : List Ent} (h : GoodE n r es) : (usedOf es).Pairwise (fun a b => lineN a ≠ lineN b) := by
  unfold usedOf
  rw [List.pairwise_filter]
  refine List.Pairwise.imp_of_mem ?_ h.unlike
  intro a b ha hb hu fa fb e
  have fa' : isFree a = false := by simpa using fa
  have fb' : isFree b = false := by simpa using fb
  obtain ⟨x, _, hx, _⟩ := h.home a ha fa'
  obtain ⟨y, _, hy, _⟩ := h.home b hb fb'
  refine hu fa' fb' ?_
  simp only [lineN, hx, hy, Int.toNat_natCast] at e
  rw [hx, hy, e]
theorem usedIn_pairwise {n : Nat} {S : List SetSt} (h : GoodS n S) : (linesN (usedIn S)).Nodup := by
  unfold linesN List.Nodup
  rw [List.pairwise_map]
  have key : ∀ (T : List SetSt) (k : Nat), (∀ (r : Nat) (s : SetSt), T[r]? = some s → GoodE n (k + r) s.es) → (usedIn T).Pairwise (fun a b => lineN a ≠ lineN b) := by
    intro T
    induction T with
    | nil => intro k _; exact List.Pairwise.nil
    | cons t T ih =>
      intro k hT
      have h1 := usedOf_pairwise (hT 0 t rfl)
      have h2 := ih (k + 1) fun r s hs => by
        have := hT (r + 1) s (by simpa using hs)
        rw [show k + 1 + r = k + (r + 1) by omega]
        exact this
      show (usedOf t.es ++ usedIn T).Pairwise _
      rw [List.pairwise_append]
      refine ⟨h1, h2, ?_⟩
      intro a ha b hb e
      obtain ⟨ha1, ha2⟩ := mem_usedOf.1 ha
      obtain ⟨r, s, hs, hb1, hb2⟩ := mem_usedIn hb
      obtain ⟨x, _, hx, hxr⟩ := (hT 0 t rfl).home a ha1 ha2
      obtain ⟨y, _, hy, hyr⟩ := (hT (r + 1) s (by simpa using hs)).home b hb1 hb2
      simp only [lineN, hx, hy, Int.toNat_natCast] at e
      subst e
      omega
  exact key S 0 fun r s hs => by rw [Nat.zero_add]; exact h.2 r s hs
theorem usedIn_cons (t : SetSt) (T : List SetSt) : usedIn (t :: T) = usedOf t.es ++ usedIn T := rfl
/-- So many of a set. -/
theorem usedIn_count {n k : Nat} {S : List SetSt} (h : GoodS n S) (hk : ∀ s ∈ S, s.es.length = k) (r : Nat) : ((linesN (usedIn S)).filter (fun x => x % n == r)).length ≤ k := by
  have key : ∀ (T : List SetSt) (q : Nat), (∀ (r : Nat) (s : SetSt), T[r]? = some s → GoodE n (q + r) s.es) → (∀ s ∈ T, s.es.length = k) → ((linesN (usedIn T)).filter (fun x => x % n == r)).length ≤ k ∧ (r < q → ((linesN (usedIn T)).filter (fun x => x % n == r)).length = 0) := by
    intro T
    induction T with
    | nil => intro q _ _; exact ⟨by simp [usedIn, linesN], by simp [usedIn, linesN]⟩
    | cons t T ih =>
      intro q hT hl
      have ih' := ih (q + 1) (fun r s hs => by
        have := hT (r + 1) s (by simpa using hs)
        rw [show q + 1 + r = q + (r + 1) by omega]
        exact this) fun s hs => hl s (by simp [hs])
      have e : linesN (usedIn (t :: T)) = linesN (usedOf t.es) ++ linesN (usedIn T) := by rw [usedIn_cons]; simp [linesN]
      have h0 : ∀ x ∈ linesN (usedOf t.es), x % n = q := by
        intro x hx
        simp only [linesN, List.mem_map] at hx
        obtain ⟨a, ha, rfl⟩ := hx
        obtain ⟨ha1, ha2⟩ := mem_usedOf.1 ha
        obtain ⟨x, _, hx, hxr⟩ := (hT 0 t rfl).home a ha1 ha2
        simp only [lineN, hx, Int.toNat_natCast]
        omega
      have h1 : (linesN (usedOf t.es)).length ≤ k := by
        have := hl t (by simp)
        have h2 : (usedOf t.es).length ≤ t.es.length := List.length_filter_le _ _
        simp [linesN]; omega
      rw [e, List.filter_append, List.length_append]
      have h2 := List.length_filter_le (fun x => x % n == r) (linesN (usedOf t.es))
      by_cases hr : r = q
      · subst hr
        have := ih'.2 (by omega)
        exact ⟨by omega, fun h => by omega⟩
      · have h3 : ((linesN (usedOf t.es)).filter (fun x => x % n == r)).length = 0 := by
          rw [List.length_eq_zero_iff, List.filter_eq_nil_iff]
          intro x hx
          have := h0 x hx
          simp
          omega
        rw [h3]
        exact ⟨by have := ih'.1; omega, fun h => by have := ih'.2 (by omega); omega⟩
  exact (key S 0 (fun r s hs => by rw [Nat.zero_add]; exact h.2 r s hs) hk).1
/-- Which lines were seen; how many of each set. -/
def seenV (ls : List Nat) : List Value := (List.range 32).map fun x => Value.bool (ls.contains x)
def manyV (n : Nat) (ls : List Nat) : List Value := (List.range 8).map fun r => Value.int .i64 ((ls.filter (fun x => x % n == r)).length : Nat)
theorem seenV_get (ls : List Nat) (x : Nat) (h : x < 32) : (seenV ls)[x]? = some (.bool (ls.contains x)) := by simp [seenV, h]
theorem manyV_get (n : Nat) (ls : List Nat) (r : Nat) (h : r < 8) : (manyV n ls)[r]? = some (.int .i64 ((ls.filter (fun x => x % n == r)).length : Nat)) := by simp [manyV, h]
theorem seenV_snoc (ls : List Nat) (x : Nat) (_h : x < 32) : seenV (ls ++ [x]) = (seenV ls).set x (.bool true) := by
  apply List.ext_getElem?
  intro i
  rw [List.getElem?_set]
  by_cases hi : i < 32
  · rw [seenV_get _ i hi]
    by_cases e : x = i
    · subst e
      rw [if_pos rfl, if_pos (by simp [seenV]; omega)]
      simp
    · rw [if_neg e, seenV_get _ i hi]
      have : (i == x) = false := by simp; omega
      simp
      omega
  · have e1 : (seenV (ls ++ [x]))[i]? = none := by simp [seenV]; omega
    have e2 : (seenV ls)[i]? = none := by simp [seenV]; omega
    rw [e1, e2]
    by_cases e : x = i
    · omega
    · rw [if_neg e]
theorem manyV_snoc (n : Nat) (ls : List Nat) (x : Nat) (_h : x % n < 8) : manyV n (ls ++ [x]) = (manyV n ls).set (x % n) (.int .i64 (((ls ++ [x]).filter (fun y => y % n == x % n)).length : Nat)) := by
  apply List.ext_getElem?
  intro i
  rw [List.getElem?_set]
  by_cases hi : i < 8
  · rw [manyV_get n _ i hi]
    by_cases e : x % n = i
    · subst e
      rw [if_pos rfl, if_pos (by simp [manyV]; omega)]
    · rw [if_neg e, manyV_get n _ i hi, List.filter_append]
      have : (x % n == i) = false := by simp; omega
      simp [this]
  · have e1 : (manyV n (ls ++ [x]))[i]? = none := by simp [manyV]; omega
    have e2 : (manyV n ls)[i]? = none := by simp [manyV]; omega
    rw [e1, e2]
    by_cases e : x % n = i
    · omega
    · rw [if_neg e]
theorem many_succ (n : Nat) (ls : List Nat) (x : Nat) : ((ls ++ [x]).filter (fun y => y % n == x % n)).length = (ls.filter (fun y => y % n == x % n)).length + 1 := by
  rw [List.filter_append]; simp
theorem many_take {n k : Nat} {ls : List Nat} (r : Nat) (h : (ls.filter (fun x => x % n == r)).length ≤ k) (i : Nat) : ((ls.take i).filter (fun x => x % n == r)).length ≤ k :=
  Nat.le_trans ((List.take_sublist i ls).filter _).length_le h
theorem seen_take {ls : List Nat} (h : ls.Nodup) (i : Nat) (x : Nat) (hx : ls[i]? = some x) : (ls.take i).contains x = false := by
  cases hc : (ls.take i).contains x with
  | false => rfl
  | true =>
    rw [List.contains_iff_mem] at hc
    obtain ⟨j, hj, e⟩ := List.getElem_of_mem hc
    rw [List.length_take] at hj
    rw [List.getElem_take] at e
    obtain ⟨hi, ei⟩ := List.getElem?_eq_some_iff.1 hx
    have := (List.getElem_inj (i := j) (j := i) (h₀ := by omega) (h₁ := hi) h).1 (by rw [e, ei])
    omega
/-- What is seen of entries of the call's own. -/
theorem EntRow.cells {B : Nat} {w : World} {v : Value} {l : List Ent} (h : EntRow B w v l) {i : Nat} {e : Ent} (he : l[i]? = some e) : ∃ g c, v = .slice (some ⟨g, 0, none⟩) l.length c ∧ B ≤ g ∧ g < w.heap.size ∧ ∀ j u, e.cells[j]? = some u → w.cell? ⟨g, i * 10 + j, none⟩ = some u := by
  have hlt := World.ownsRow.lt h
  have hi := (List.getElem?_eq_some_iff.1 he).1
  rcases h.2 with ⟨rfl, h0⟩ | ⟨g, cap, cur, rfl, hB, hgg, hcc, hcm, hcs, ht⟩
  · omega
  · refine ⟨g, cap, rfl, (hlt g rfl).1, (hlt g rfl).2, fun j u hu => ?_⟩
    have hj : j < 10 := (List.getElem?_eq_some_iff.1 hu).1
    have h1 := World.ownsRow.cells h (g := g) rfl (i * 10 + j) u (by rw [entCells_get l i j e he hj]; exact hu)
    have e2 : (⟨g, 0, none⟩ : Addr).add (i * 10 + j) = ⟨g, i * 10 + j, none⟩ := by unfold Addr.add; split <;> simp_all
    rw [e2] at h1
    exact h1
theorem EntRow.shape {B : Nat} {w : World} {v : Value} {l : List Ent} (h : EntRow B w v l) : ∃ A c, v = .slice A l.length c := by
  rcases h.2 with ⟨rfl, h0⟩ | ⟨g, cap, cur, rfl, hB, hgg, hcc, hcm, hcs, ht⟩
  · exact ⟨none, 0, by rw [h0]⟩
  · exact ⟨_, _, rfl⟩
end Go.Proofs.YtfaihaknibmcpaaGreatDoor
