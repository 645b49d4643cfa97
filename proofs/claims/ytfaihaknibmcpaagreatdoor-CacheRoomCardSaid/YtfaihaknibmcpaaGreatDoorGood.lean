/- What holds of the ways of a set: each line once, each in its own set; what Put, Drop make of it. -/
import Derived.Test.YtfaihaknibmcpaaGreatDoorArrO
namespace Go.Proofs.YtfaihaknibmcpaaGreatDoor
open Go.RowKit Go.Extern.Stop Go.Stop Go.Extern

def Unlike (a b : Ent) : Prop := isFree a = false → isFree b = false → a.line ≠ b.line
structure GoodE (n r : Nat) (es : List Ent) : Prop where
  home : ∀ e ∈ es, isFree e = false → ∃ x : Nat, x < 32 ∧ e.line = (x : Nat) ∧ x % n = r
  unlike : es.Pairwise Unlike
theorem isAt_iff (x : Int) (e : Ent) : isAt x e = true ↔ isFree e = false ∧ e.line = x := by
  unfold isAt isFree
  simp
theorem pairwise_set {α : Type} {R : α → α → Prop} {l : List α} {j : Nat} {e : α} (h : l.Pairwise R) (h1 : ∀ i, i ≠ j → ∀ a, l[i]? = some a → R a e ∧ R e a) : (l.set j e).Pairwise R := by
  rw [List.pairwise_iff_getElem] at h ⊢
  intro a b ha hb hab
  rw [List.length_set] at ha hb
  rw [List.getElem_set, List.getElem_set]
  by_cases e1 : j = a
  · rw [if_pos e1, if_neg (by omega)]
    exact (h1 b (by omega) _ (List.getElem?_eq_getElem hb)).2
  · rw [if_neg e1]
    by_cases e2 : j = b
    · rw [if_pos e2]
      exact (h1 a (by omega) _ (List.getElem?_eq_getElem ha)).1
    · rw [if_neg e2]
      exact h a b ha hb hab
theorem mem_setE {α : Type} {l : List α} {j : Nat} {x t : α} (h : x ∈ l.set j t) : x = t ∨ ∃ i : Nat, l[i]? = some x := by
  obtain ⟨i, hi, e⟩ := List.getElem_of_mem h
  rw [List.getElem_set] at e
  by_cases hj : j = i
  · rw [if_pos hj] at e
    exact .inl e.symm
  · rw [if_neg hj] at e
    rw [List.length_set] at hi
    exact .inr ⟨i, by rw [← e]; exact List.getElem?_eq_getElem hi⟩
theorem find_set_same {α : Type} (p : α → Bool) (l : List α) : ∀ (j : Nat) (a e : α), l[j]? = some a → p a = false → p e = false → (l.set j e).find? p = l.find? p := by
  induction l with
  | nil => intro j a e h; simp at h
  | cons b l ih =>
    intro j a e h ha he
    cases j with
    | zero =>
      simp at h
      subst h
      simp [ha, he]
    | succ j =>
      simp only [List.set_cons_succ, List.find?_cons]
      rw [ih j a e (by simpa using h) ha he]
theorem find_set_first {α : Type} (p : α → Bool) (l : List α) : ∀ (j : Nat) (e : α), j < l.length → (∀ i, i < j → ∀ a, l[i]? = some a → p a = false) → p e = true → (l.set j e).find? p = some e ∧ (l.set j e).findIdx? p = some j := by
  induction l with
  | nil => intro j e h; simp at h
  | cons b l ih =>
    intro j e h h1 he
    cases j with
    | zero => exact ⟨by simp [he], by simp [List.findIdx?_cons, he]⟩
    | succ j =>
      have hb := h1 0 (by omega) b rfl
      have h2 := ih j e (by simpa using h) (fun i hi a ha => h1 (i + 1) (by omega) a (by simpa using ha)) he
      simp only [List.set_cons_succ, List.find?_cons, List.findIdx?_cons, hb]
      rw [h2.1, h2.2]
      simp
theorem findIdx_some {α : Type} (p : α → Bool) (l : List α) : ∀ (j : Nat), l.findIdx? p = some j → ∃ e, l[j]? = some e ∧ p e = true ∧ l.find? p = some e ∧ ∀ i, i < j → ∀ a, l[i]? = some a → p a = false := by
  induction l with
  | nil => intro j h; simp at h
  | cons b l ih =>
    intro j h
    rw [List.findIdx?_cons] at h
    by_cases hb : p b = true
    · rw [if_pos hb] at h
      simp at h
      subst h
      exact ⟨b, rfl, hb, by simp [hb], fun i hi => by omega⟩
    · rw [if_neg hb] at h
      simp only [Bool.not_eq_true] at hb
      cases h3 : l.findIdx? p with
      | none => rw [h3] at h; simp at h
      | some q =>
        rw [h3] at h
        simp at h
        subst h
        obtain ⟨e, g1, g2, g3, g4⟩ := ih q h3
        refine ⟨e, by simpa using g1, g2, by simp [hb, g3], ?_⟩
        intro i hi a ha
        cases i with
        | zero => simp at ha; rw [← ha]; exact hb
        | succ i => exact g4 i (by omega) a (by simpa using ha)
theorem findIdx_none {α : Type} (p : α → Bool) (l : List α) (h : l.findIdx? p = none) : l.find? p = none ∧ ∀ a ∈ l, p a = false := by
  rw [List.findIdx?_eq_none_iff] at h
  exact ⟨by rw [List.find?_eq_none]; intro a ha; simp [h a ha], h⟩
theorem findIdx_of_mem {α : Type} (p : α → Bool) (l : List α) (a : α) (ha : a ∈ l) (hp : p a = true) : ∃ j, l.findIdx? p = some j := by
  cases h : l.findIdx? p with
  | some j => exact ⟨j, rfl⟩
  | none =>
    have := (findIdx_none p l h).2 a ha
    rw [hp] at this
    cases this
/-- Where an entry of a line goes: that line's way, or one that is free. -/
theorem placeE_some {l : Int} {es : List Ent} {j : Nat} (h : placeE l es = some j) : ∃ a, es[j]? = some a ∧ (isAt l a = true ∨ isFree a = true ∧ ∀ b ∈ es, isAt l b = false) ∧ ∀ i, i < j → ∀ b, es[i]? = some b → isAt l b = false := by
  unfold placeE at h
  cases h1 : es.findIdx? (isAt l) with
  | some q =>
    rw [h1] at h
    simp at h
    subst h
    obtain ⟨a, g1, g2, _, g4⟩ := findIdx_some _ es q h1
    exact ⟨a, g1, .inl g2, g4⟩
  | none =>
    rw [h1] at h
    simp only at h
    obtain ⟨a, g1, g2, _, _⟩ := findIdx_some _ es j h
    have h2 := (findIdx_none _ es h1).2
    exact ⟨a, g1, .inr ⟨g2, h2⟩, fun i _ b hb => h2 b (List.mem_of_getElem? hb)⟩
theorem GoodE.set_none {n r : Nat} {es : List Ent} (h : GoodE n r es) (j : Nat) : GoodE n r (es.set j Ent.none) := by
  refine ⟨?_, pairwise_set h.unlike ?_⟩
  rotate_left
  · intro i _ a _
    exact ⟨fun _ hf => by simp [isFree, Ent.none] at hf, fun hf => by simp [isFree, Ent.none] at hf⟩
  intro e he hf
  rcases mem_setE he with rfl | ⟨i, hx⟩
  · simp [isFree, Ent.none] at hf
  · exact h.home e (List.mem_of_getElem? hx) hf
theorem GoodE.put {n r : Nat} {es : List Ent} (h : GoodE n r es) {l j : Nat} {e : Ent} (hl : l < 32) (hr : l % n = r) (he : e.line = (l : Nat)) (hj : placeE (l : Nat) es = some j) : GoodE n r (es.set j e) := by
  obtain ⟨a, ha, hc, _⟩ := placeE_some hj
  refine ⟨?_, pairwise_set h.unlike ?_⟩
  · intro x hx hf
    rcases mem_setE hx with rfl | ⟨i, hx⟩
    · exact ⟨l, hl, he, hr⟩
    · exact h.home x (List.mem_of_getElem? hx) hf
  · intro i hi b hb
    have key : isFree b = false → b.line ≠ e.line := by
      intro hbf
      rw [he]
      rcases hc with hc | ⟨_, hc⟩
      · obtain ⟨g1, g2⟩ := (isAt_iff _ _).1 hc
        have hp := List.pairwise_iff_getElem.1 h.unlike
        obtain ⟨hi', ei⟩ := List.getElem?_eq_some_iff.1 hb
        obtain ⟨hj', ej⟩ := List.getElem?_eq_some_iff.1 ha
        rcases Nat.lt_or_gt_of_ne hi with hlt | hgt
        · have := hp i j hi' hj' hlt
          rw [ei, ej] at this
          intro e2
          exact this hbf g1 (by rw [e2, g2])
        · have := hp j i hj' hi' hgt
          rw [ei, ej] at this
          intro e2
          exact this g1 hbf (by rw [e2, g2])
      · have := hc b (List.mem_of_getElem? hb)
        intro e2
        rw [(isAt_iff _ _).2 ⟨hbf, e2⟩] at this
        cases this
    exact ⟨fun hbf _ => key hbf, fun _ hbf e2 => key hbf e2.symm⟩
theorem put_find_self {es : List Ent} {l : Int} {j : Nat} {e : Ent} (he : e.line = l) (hf : isFree e = false) (hj : placeE l es = some j) : (es.set j e).find? (isAt l) = some e ∧ (es.set j e).findIdx? (isAt l) = some j := by
  obtain ⟨a, ha, _, h4⟩ := placeE_some hj
  exact find_set_first _ es j e (List.getElem?_eq_some_iff.1 ha).1 h4 ((isAt_iff _ _).2 ⟨hf, he⟩)
theorem put_find_other {es : List Ent} {l y : Int} {j : Nat} {e : Ent} (he : e.line = l) (hj : placeE l es = some j) (hy : y ≠ l) : (es.set j e).find? (isAt y) = es.find? (isAt y) := by
  obtain ⟨a, ha, hc, _⟩ := placeE_some hj
  refine find_set_same _ es j a e ha ?_ ?_
  · cases h : isAt y a with
    | false => rfl
    | true =>
      obtain ⟨g1, g2⟩ := (isAt_iff _ _).1 h
      rcases hc with hc | ⟨hc, _⟩
      · exact absurd (g2.symm.trans ((isAt_iff _ _).1 hc).2) hy
      · rw [g1] at hc; cases hc
  · cases h : isAt y e with
    | false => rfl
    | true => exact absurd (((isAt_iff _ _).1 h).2.symm.trans he) hy
theorem GoodE.drop_find_self {n r : Nat} {es : List Ent} (h : GoodE n r es) {l : Int} {j : Nat} (hj : es.findIdx? (isAt l) = some j) : (es.set j Ent.none).find? (isAt l) = none := by
  obtain ⟨a, ha, hp, _, _⟩ := findIdx_some _ es j hj
  obtain ⟨g1, g2⟩ := (isAt_iff _ _).1 hp
  rw [List.find?_eq_none]
  intro b hb hq
  obtain ⟨q1, q2⟩ := (isAt_iff _ _).1 hq
  obtain ⟨i, hi, e⟩ := List.getElem_of_mem hb
  rw [List.length_set] at hi
  rw [List.getElem_set] at e
  by_cases hij : j = i
  · rw [if_pos hij] at e
    rw [← e] at q1
    cases q1
  · rw [if_neg hij] at e
    obtain ⟨hj', ej⟩ := List.getElem?_eq_some_iff.1 ha
    have hpw := List.pairwise_iff_getElem.1 h.unlike
    rcases Nat.lt_or_gt_of_ne hij with hlt | hgt
    · have := hpw j i hj' hi hlt
      rw [e, ej] at this
      exact this g1 q1 (by rw [g2, q2])
    · have := hpw i j hi hj' hgt
      rw [e, ej] at this
      exact this q1 g1 (by rw [g2, q2])
theorem drop_find_other {es : List Ent} {l y : Int} {j : Nat} (hj : es.findIdx? (isAt l) = some j) (hy : y ≠ l) : (es.set j Ent.none).find? (isAt y) = es.find? (isAt y) := by
  obtain ⟨a, ha, hp, _, _⟩ := findIdx_some _ es j hj
  refine find_set_same _ es j a _ ha ?_ rfl
  cases h : isAt y a with
  | false => rfl
  | true => exact absurd (((isAt_iff _ _).1 h).2.symm.trans ((isAt_iff _ _).1 hp).2) hy
theorem goodE_free (n r k : Nat) : GoodE n r (freeWays k) := by
  refine ⟨fun e he hf => ?_, ?_⟩
  · simp only [freeWays, List.mem_replicate] at he
    rw [he.2] at hf
    cases hf
  · rw [List.pairwise_iff_getElem]
    intro i j hi hj _ hf
    simp [freeWays, isFree, Ent.none] at hf
/-- All sets: each line once, each in its own. -/
def GoodS (n : Nat) (S : List SetSt) : Prop := S.length = n ∧ ∀ r s, S[r]? = some s → GoodE n r s.es
theorem goodS_new (g k n : Nat) : GoodS n (newSets g k n) := by
  refine ⟨newSets_length g k n, fun r s hs => ?_⟩
  have := List.mem_of_getElem? hs
  simp only [newSets, List.mem_map] at this
  obtain ⟨j, _, rfl⟩ := this
  exact goodE_free n r k
theorem GoodS.set {n r : Nat} {S : List SetSt} {s t : SetSt} (h : GoodS n S) (_hs : S[r]? = some s) (ht : GoodE n r t.es) : GoodS n (S.set r t) := by
  refine ⟨by rw [List.length_set]; exact h.1, fun i u hu => ?_⟩
  rw [List.getElem?_set] at hu
  by_cases e : r = i
  · subst e
    rw [if_pos rfl] at hu
    split at hu
    · cases hu; exact ht
    · cases hu
  · rw [if_neg e] at hu
    exact h.2 i u hu
theorem GoodS.at {n : Nat} {S : List SetSt} (h : GoodS n S) (hn : 0 < n) (l : Nat) : ∃ s, S[l % S.length]? = some s ∧ GoodE n (l % n) s.es := by
  have hlt : l % n < n := Nat.mod_lt _ hn
  obtain ⟨s, hs⟩ : ∃ s, S[l % n]? = some s := ⟨_, List.getElem?_eq_getElem (by rw [h.1]; exact hlt)⟩
  rw [h.1]
  exact ⟨s, hs, h.2 _ _ hs⟩
end Go.Proofs.YtfaihaknibmcpaaGreatDoor
