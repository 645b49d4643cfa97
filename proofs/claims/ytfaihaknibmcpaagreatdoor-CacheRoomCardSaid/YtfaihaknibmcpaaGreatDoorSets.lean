/- What an array's calls make of its sets, told by what stands where: which entry a line has, whether there is room. -/
import Derived.Test.YtfaihaknibmcpaaGreatDoorTot
namespace Go.Proofs.YtfaihaknibmcpaaGreatDoor
open Go.RowKit Go.Extern.Stop Go.Stop Go.Extern

/-- n sets of k ways, each line once and in its own set. -/
structure OkS (n k : Nat) (S : List SetSt) : Prop where
  good : GoodS n S
  len : ∀ s ∈ S, s.es.length = k
  pos : 0 < n
theorem okS_new (g k n : Nat) (h : 0 < n) : OkS n k (newSets g k n) := by
  refine ⟨goodS_new g k n, fun s hs => ?_, h⟩
  simp only [newSets, List.mem_map] at hs
  obtain ⟨j, _, rfl⟩ := hs
  simp [freeWays]
section
variable {n k : Nat} {S : List SetSt}
theorem OkS.at (h : OkS n k S) {x : Int} (hx : isLine x = true) : ∃ s, setOf S x = some s ∧ S[x.toNat % n]? = some s ∧ GoodE n (x.toNat % n) s.es ∧ s.es.length = k ∧ x.toNat % n < S.length := by
  obtain ⟨s, hs, hg⟩ := h.good.at h.pos x.toNat
  have hs' := hs
  rw [h.good.1] at hs'
  refine ⟨s, ?_, hs', hg, h.len s (List.mem_of_getElem? hs), ?_⟩
  · unfold setOf
    rw [if_pos hx, hs]
  · rw [h.good.1]
    exact Nat.mod_lt _ h.pos
theorem setOf_out {x : Int} (hx : isLine x = false) : setOf S x = none := by
  unfold setOf
  rw [hx]
  rfl
theorem getS_out {x : Int} (hx : isLine x = false) : getS S x = none := by
  unfold getS
  rw [setOf_out hx]
  rfl
theorem getS_facts {x : Int} {e : Ent} (h : getS S x = some e) : e.line = x ∧ isFree e = false ∧ isLine x = true := by
  unfold getS at h
  cases hs : setOf S x with
  | none => rw [hs] at h; cases h
  | some s =>
    rw [hs] at h
    have h2 := List.find?_some h
    have h3 := (isAt_iff _ _).1 h2
    refine ⟨h3.2, h3.1, ?_⟩
    cases hx : isLine x with
    | true => rfl
    | false => rw [setOf_out hx] at hs; cases hs
theorem idxS_some (S : List SetSt) (x : Int) : (idxS S x).isSome = (getS S x).isSome := by
  unfold idxS getS
  cases setOf S x with
  | none => rfl
  | some s =>
    simp only [Option.bind_some]
    cases hj : s.es.findIdx? (isAt x) with
    | none =>
      rw [(findIdx_none _ _ hj).1]
      rfl
    | some j =>
      obtain ⟨e, _, _, g3, _⟩ := findIdx_some _ _ _ hj
      rw [g3]
      rfl
/-- A set in its place. -/
theorem setOf_set (h : OkS n k S) {x : Int} (hx : isLine x = true) (t : SetSt) (y : Int) : setOf (S.set (x.toNat % n) t) y = if isLine y = true ∧ y.toNat % n = x.toNat % n then some t else setOf S y := by
  obtain ⟨s, h1, h2, h3, h4, h5⟩ := h.at hx
  unfold setOf
  rw [List.length_set, h.good.1]
  cases hy : isLine y with
  | false => simp
  | true =>
    simp only [if_true, true_and]
    rw [List.getElem?_set]
    by_cases e : x.toNat % n = y.toNat % n
    · rw [if_pos e, if_pos h5, if_pos e.symm]
    · rw [if_neg e, if_neg (fun e2 => e e2.symm)]
theorem OkS.set (h : OkS n k S) {x : Int} (hx : isLine x = true) {t : SetSt} (ht : GoodE n (x.toNat % n) t.es) (hl : t.es.length = k) : OkS n k (S.set (x.toNat % n) t) := by
  obtain ⟨s, h1, h2, h3, h4, h5⟩ := h.at hx
  refine ⟨h.good.set h2 ht, fun u hu => ?_, h.pos⟩
  rcases List.mem_or_eq_of_mem_set hu with hu | rfl
  · exact h.len u hu
  · exact hl
/-- Put. -/
theorem putCode_parts {S : List SetSt} {e : Ent} (h : putCode S e = 0) : isLine e.line = true ∧ rightE e = true ∧ ∃ s j, setOf S e.line = some s ∧ placeE e.line s.es = some j := by
  unfold putCode at h
  cases hs : setOf S e.line with
  | none => rw [hs] at h; cases h
  | some s =>
    rw [hs] at h
    simp only at h
    cases hr : rightE e with
    | false => rw [hr] at h; cases h
    | true =>
      rw [hr] at h
      simp only [if_true] at h
      cases hp : placeE e.line s.es with
      | none => rw [hp] at h; cases h
      | some j =>
        refine ⟨?_, rfl, s, j, rfl, hp⟩
        cases hx : isLine e.line with
        | true => rfl
        | false => rw [setOf_out hx] at hs; cases hs
theorem right_free {e : Ent} (h : rightE e = true) : isFree e = false := by
  simp [rightE] at h
  simp [isFree]
  omega
theorem putS_is (h : OkS n k S) {e : Ent} (hc : putCode S e = 0) : ∃ s j, setOf S e.line = some s ∧ placeE e.line s.es = some j ∧ putS S e = S.set (e.line.toNat % n) { s with es := s.es.set j e } := by
  obtain ⟨hx, hr, s, j, h1, h2⟩ := putCode_parts hc
  refine ⟨s, j, h1, h2, ?_⟩
  unfold putS
  rw [h1]
  simp only [Option.bind_some, h2, hr, if_true]
  unfold modS
  rw [h1, h.good.1]
theorem OkS.put (h : OkS n k S) (e : Ent) : OkS n k (putS S e) := by
  by_cases hc : putCode S e = 0
  · obtain ⟨hx, hr, _⟩ := putCode_parts hc
    obtain ⟨s, j, h1, h2, h3⟩ := putS_is h hc
    obtain ⟨s', g1, g2, g3, g4, g5⟩ := h.at hx
    obtain rfl : s = s' := by rw [h1] at g1; exact Option.some.inj g1
    rw [h3]
    refine h.set hx ?_ (by rw [List.length_set]; exact g4)
    obtain ⟨l, hl, h32⟩ := isLine_nat hx
    have e2 : e.line.toNat = l := by rw [hl]; simp
    rw [e2] at g3 ⊢
    exact g3.put h32 rfl hl (by rw [← hl]; exact h2)
  · have : putS S e = S := by
      unfold putCode at hc
      unfold putS
      cases hs : setOf S e.line with
      | none => rfl
      | some s =>
        rw [hs] at hc
        simp only [Option.bind_some] at hc ⊢
        cases hp : placeE e.line s.es with
        | none => rfl
        | some j =>
          rw [hp] at hc
          cases hr : rightE e with
          | false => simp
          | true => rw [hr] at hc; simp at hc
    rw [this]
    exact h
theorem getS_put (h : OkS n k S) {e : Ent} (hc : putCode S e = 0) (y : Int) : getS (putS S e) y = if y = e.line then some e else getS S y := by
  obtain ⟨hx, hr, _⟩ := putCode_parts hc
  obtain ⟨s, j, h1, h2, h3⟩ := putS_is h hc
  rw [h3]
  unfold getS
  rw [setOf_set h hx]
  by_cases hy : isLine y = true ∧ y.toNat % n = e.line.toNat % n
  · rw [if_pos hy]
    have hsy : setOf S y = some s := by
      unfold setOf at h1 ⊢
      rw [if_pos hx] at h1
      rw [if_pos hy.1, h.good.1, hy.2, ← h.good.1]
      exact h1
    rw [hsy]
    simp only [Option.bind_some]
    by_cases e1 : y = e.line
    · rw [if_pos e1, e1]
      exact (put_find_self rfl (right_free hr) h2).1
    · rw [if_neg e1]
      exact put_find_other rfl h2 e1
  · rw [if_neg hy, if_neg]
    rintro rfl
    exact hy ⟨hx, rfl⟩
/-- Drop. -/
theorem dropS_is (h : OkS n k S) {x : Int} {e : Ent} (he : getS S x = some e) : ∃ s j, setOf S x = some s ∧ s.es.findIdx? (isAt x) = some j ∧ dropS S x = S.set (x.toNat % n) { s with es := s.es.set j Ent.none } := by
  have h0 : (idxS S x).isSome = true := by rw [idxS_some, he]; rfl
  unfold idxS at h0
  cases hs : setOf S x with
  | none => rw [hs] at h0; cases h0
  | some s =>
    rw [hs] at h0
    simp only [Option.bind_some] at h0
    obtain ⟨j, hj⟩ := Option.isSome_iff_exists.1 h0
    refine ⟨s, j, rfl, hj, ?_⟩
    unfold dropS idxS modS
    rw [hs, h.good.1]
    simp only [Option.bind_some, hj]
theorem dropS_none {x : Int} (he : getS S x = none) : dropS S x = S := by
  have h0 : (idxS S x).isSome = false := by rw [idxS_some, he]; rfl
  unfold dropS
  cases hi : idxS S x with
  | none => rfl
  | some j => rw [hi] at h0; cases h0
theorem OkS.drop (h : OkS n k S) (x : Int) : OkS n k (dropS S x) := by
  cases he : getS S x with
  | none => rw [dropS_none he]; exact h
  | some e =>
    obtain ⟨s, j, h1, h2, h3⟩ := dropS_is h he
    have hx := (getS_facts he).2.2
    obtain ⟨s', g1, g2, g3, g4, g5⟩ := h.at hx
    obtain rfl : s = s' := by rw [h1] at g1; exact Option.some.inj g1
    rw [h3]
    exact h.set hx (g3.set_none j) (by rw [List.length_set]; exact g4)
theorem getS_drop (h : OkS n k S) (x y : Int) : getS (dropS S x) y = if y = x then none else getS S y := by
  cases he : getS S x with
  | none =>
    rw [dropS_none he]
    by_cases e : y = x
    · rw [if_pos e, e, he]
    · rw [if_neg e]
  | some e =>
    obtain ⟨s, j, h1, h2, h3⟩ := dropS_is h he
    have hx := (getS_facts he).2.2
    obtain ⟨s', g1, g2, g3, g4, g5⟩ := h.at hx
    obtain rfl : s = s' := by rw [h1] at g1; exact Option.some.inj g1
    rw [h3]
    unfold getS
    rw [setOf_set h hx]
    by_cases hy : isLine y = true ∧ y.toNat % n = x.toNat % n
    · rw [if_pos hy]
      have hsy : setOf S y = some s := by
        unfold setOf at h1 ⊢
        rw [if_pos hx] at h1
        rw [if_pos hy.1, h.good.1, hy.2, ← h.good.1]
        exact h1
      rw [hsy]
      simp only [Option.bind_some]
      by_cases e1 : y = x
      · rw [if_pos e1, e1]
        exact g3.drop_find_self h2
      · rw [if_neg e1]
        exact drop_find_other h2 e1
    · rw [if_neg hy, if_neg]
      rintro rfl
      exact hy ⟨hx, rfl⟩
/-- Touch. -/
theorem touchS_is (h : OkS n k S) (j : Nat) (x : Int) : touchS j S x = S ∨ ∃ s b, isLine x = true ∧ setOf S x = some s ∧ touchS j S x = S.set (x.toNat % n) { s with bits := b } := by
  unfold touchS
  cases hi : idxS S x with
  | none => exact .inl rfl
  | some i =>
    unfold modS
    cases hs : setOf S x with
    | none => exact .inl rfl
    | some s =>
      refine .inr ⟨s, _, ?_, rfl, by rw [h.good.1]⟩
      cases hx : isLine x with
      | true => rfl
      | false => rw [setOf_out hx] at hs; cases hs
theorem OkS.touch (h : OkS n k S) (j : Nat) (x : Int) : OkS n k (touchS j S x) := by
  rcases touchS_is h j x with e | ⟨s, b, hx, hs, e⟩
  · rw [e]; exact h
  · obtain ⟨s', g1, g2, g3, g4, g5⟩ := h.at hx
    obtain rfl : s = s' := by rw [hs] at g1; exact Option.some.inj g1
    rw [e]
    exact h.set hx (t := { s with bits := b }) g3 g4
theorem getS_touch (h : OkS n k S) (j : Nat) (x y : Int) : getS (touchS j S x) y = getS S y := by
  rcases touchS_is h j x with e | ⟨s, b, hx, hs, e⟩
  · rw [e]
  · rw [e]
    unfold getS
    rw [setOf_set h hx]
    by_cases hy : isLine y = true ∧ y.toNat % n = x.toNat % n
    · rw [if_pos hy]
      have hsy : setOf S y = some s := by
        unfold setOf at hs ⊢
        rw [if_pos hx] at hs
        rw [if_pos hy.1, h.good.1, hy.2, ← h.good.1]
        exact hs
      rw [hsy]
      rfl
    · rw [if_neg hy]
/-- Room. -/
theorem putCode_room (_h : OkS n k S) {e : Ent} (hr : rightE e = true) (hroom : roomS S e.line = true) : putCode S e = 0 := by
  unfold roomS at hroom
  unfold putCode
  cases hs : setOf S e.line with
  | none => rw [hs] at hroom; cases hroom
  | some s =>
    rw [hs] at hroom
    simp only at hroom ⊢
    rw [hr]
    simp only [if_true]
    unfold roomIn at hroom
    unfold placeE
    cases h1 : s.es.findIdx? (isAt e.line) with
    | some j => rfl
    | none =>
      cases h2 : s.es.findIdx? isFree with
      | some j => rfl
      | none => simp [h1, h2] at hroom
theorem room_there (_h : OkS n k S) {x : Int} {e : Ent} (he : getS S x = some e) : roomS S x = true := by
  have h0 : (idxS S x).isSome = true := by rw [idxS_some, he]; rfl
  unfold idxS at h0
  unfold roomS roomIn
  cases hs : setOf S x with
  | none => rw [hs] at h0; cases h0
  | some s =>
    rw [hs] at h0
    simp only [Option.bind_some] at h0
    simp [h0]
/-- How many ways of a line's set are taken. -/
def takenS (S : List SetSt) (x : Int) : Nat := match setOf S x with
  | some s => (s.es.filter fun e => !isFree e).length
  | none => 0
theorem free_iff (es : List Ent) : (es.findIdx? isFree).isSome = decide ((es.filter fun e => !isFree e).length < es.length) := by
  rw [Bool.eq_iff_iff]
  simp only [List.findIdx?_isSome, List.any_eq_true, decide_eq_true_eq]
  constructor
  · rintro ⟨e, he, hf⟩
    have h1 := List.length_filter_lt_length_iff_exists (p := fun e => !isFree e) (l := es)
    exact h1.2 ⟨e, he, by simp [hf]⟩
  · intro h
    obtain ⟨e, he, hf⟩ := (List.length_filter_lt_length_iff_exists (p := fun e => !isFree e) (l := es)).1 h
    exact ⟨e, he, by simpa using hf⟩
theorem roomS_is (h : OkS n k S) {x : Int} (hx : isLine x = true) : roomS S x = ((getS S x).isSome || decide (takenS S x < k)) := by
  obtain ⟨s, g1, g2, g3, g4, g5⟩ := h.at hx
  rw [← idxS_some]
  unfold roomS roomIn idxS takenS
  rw [g1]
  simp only [Option.bind_some]
  rw [free_iff, g4]
end
end Go.Proofs.YtfaihaknibmcpaaGreatDoor
