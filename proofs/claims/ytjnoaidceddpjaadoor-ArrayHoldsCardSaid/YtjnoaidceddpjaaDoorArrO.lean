/- The lines of a cache: an array made in the course of a law, and what each call leaves of it. -/
import Derived.Test.YtjnoaidceddpjaaDoorArrM
import Derived.Test.YtjnoaidceddpjaaDoorArrN
namespace Go.Proofs.YtjnoaidceddpjaaDoor
open Go.RowKit Go.Extern.Stop Go.Stop Go.Extern Go.Proofs.YtjnoaidceddpjaaDoor.PArrayPlays Go.Proofs.YtjnoaidceddpjaaDoorW.PrintWords

/-- The blocks that an array's calls write. -/
def Mine (gs : Nat) (gl : List Nat) (q : Nat) : Prop := q = gs ∨ q ∈ gl
/-- An array that was made after w0. -/
structure Arr (w0 w : World) (a gs k : Nat) (gl : List Nat) (S : List SetSt) : Prop where
  arr : ArrAt w0.heap.size w a gs k S
  base : Below w0.heap.size w0 w
  gl : S.map (·.g) = gl
  bits : ∀ s ∈ S, s.bits < 256
theorem Arr.below {w0 w w' : World} {a gs k : Nat} {gl : List Nat} {S : List SetSt} (h : Arr w0 w a gs k gl S) (hb : Below w.heap.size w w') : Arr w0 w' a gs k gl S :=
  ⟨h.arr.below hb, h.base.trans (hb.mono h.base.size), h.gl, h.bits⟩
theorem Arr.far {w0 w : World} {a gs k : Nat} {gl : List Nat} {S : List SetSt} (h : Arr w0 w a gs k gl S) (q : Nat) (hq : Mine gs gl q) : w0.heap.size ≤ q ∧ q < w.heap.size := by
  rcases hq with rfl | hq
  · exact ⟨h.arr.above.2.1, lt_of_heap h.arr.sets⟩
  · rw [← h.gl, List.mem_map] at hq
    obtain ⟨s, hs, rfl⟩ := hq
    exact ⟨h.arr.above.2.2 s hs, lt_of_heap (h.arr.ways s hs)⟩
theorem Arr.of_turned {w0 w w' : World} {a gs k : Nat} {gl : List Nat} {S S' : List SetSt} (h : Arr w0 w a gs k gl S) (h' : ArrAt w0.heap.size w' a gs k S') (hT : Turned (Mine gs gl) w w') (hg : S'.map (·.g) = gl) (hb : ∀ s ∈ S', s.bits < 256) : Arr w0 w' a gs k gl S' :=
  ⟨h', h.base.trans (hT.below h.base.size fun q hq e => by have := (h.far q e).1; omega), hg, hb⟩
theorem Arr.mem {w0 w : World} {a gs k : Nat} {gl : List Nat} {S : List SetSt} (h : Arr w0 w a gs k gl S) {s : SetSt} (hs : s ∈ S) : s.g ∈ gl := by
  rw [← h.gl]; exact List.mem_map_of_mem hs
theorem set_gl {S : List SetSt} {r : Nat} {s t : SetSt} {gl : List Nat} (hs : S[r]? = some s) (hg : t.g = s.g) (h : S.map (·.g) = gl) : (S.set r t).map (·.g) = gl := by
  rw [set_g S r s t hs hg]; exact h
theorem set_bits {S : List SetSt} {r : Nat} {t : SetSt} (h : ∀ s ∈ S, s.bits < 256) (ht : t.bits < 256) : ∀ s ∈ S.set r t, s.bits < 256 := by
  intro s hs
  rcases mem_set hs with rfl | ⟨i, _, hx⟩
  · exact ht
  · exact h s (List.mem_of_getElem? hx)
theorem arr_new (n k : Nat) (w : World) (hn : isPow (n : Nat) = true) (hk : isPow (k : Nat) = true) :
    Calls Tryd.prog 14 #[.int .i64 (n : Nat), .int .i64 (k : Nat)] w fun e w' => ∃ a gs g gl, e = .returned (.tuple #[.pointer (some ⟨a, 0, none⟩), .nilIface]) ∧ Arr w w' a gs k gl (newSets g k n) := by
  refine (newArr_ok n k w hn hk).mono ?_
  rintro e w' ⟨a, gs, g, rfl, hA, hb⟩
  refine ⟨a, gs, g, _, rfl, hA, hb, rfl, ?_⟩
  intro s hs
  simp only [newSets, List.mem_map] at hs
  obtain ⟨j, _, rfl⟩ := hs
  show 0 < 256
  omega
theorem arr_put {w0 w : World} {a gs k : Nat} {gl : List Nat} {S : List SetSt} (H : Arr w0 w a gs k gl S) (l : Nat) (s : SetSt) (hl : l < 32) (hs : S[l % S.length]? = some s) (e : Ent) (hline : e.line = (l : Nat)) (hr : rightE e = true) (j : Nat) (hj : placeE (l : Nat) s.es = some j) :
    Calls Tryd.prog 15 #[.pointer (some ⟨a, 0, none⟩), e.val] w fun x w' => x = .returned .nilIface ∧ Arr w0 w' a gs k gl (S.set (l % S.length) { s with es := s.es.set j e }) ∧ Turned (Mine gs gl) w w' := by
  have hm := List.mem_of_getElem? hs
  refine (put_ok _ a gs k S l s w H.arr hl hs e hline hr j hj).mono ?_
  rintro x w' ⟨rfl, hA, hT⟩
  have hT' : Turned (Mine gs gl) w w' := hT.mono fun q _ hq => .inr (by rw [hq]; exact H.mem hm)
  exact ⟨rfl, H.of_turned hA hT' (set_gl hs rfl H.gl) (set_bits H.bits (H.bits s hm)), hT'⟩
theorem arr_put_full {w0 w : World} {a gs k : Nat} {gl : List Nat} {S : List SetSt} (H : Arr w0 w a gs k gl S) (l : Nat) (s : SetSt) (ad : Nat → Addr) (HSE : Sents w0 ad) (hl : l < 32) (hs : S[l % S.length]? = some s) (e : Ent) (hline : e.line = (l : Nat)) (hr : rightE e = true) (hj : placeE (l : Nat) s.es = none) :
    Calls Tryd.prog 15 #[.pointer (some ⟨a, 0, none⟩), e.val] w fun x w' => x = .returned (sayPut e.line (ad 6)) ∧ Arr w0 w' a gs k gl S ∧ Below w.heap.size w w' := by
  refine (put_full _ a gs k S l s w ad (HSE.of_below H.base) H.arr hl hs e hline hr hj).mono ?_
  rintro x w' ⟨rfl, hb⟩
  exact ⟨rfl, H.below hb, hb⟩
theorem arr_drop {w0 w : World} {a gs k : Nat} {gl : List Nat} {S : List SetSt} (H : Arr w0 w a gs k gl S) (l : Nat) (s : SetSt) (hl : l < 32) (hs : S[l % S.length]? = some s) (j : Nat) (hj : s.es.findIdx? (isAt (l : Nat)) = some j) :
    Calls Tryd.prog 19 #[.pointer (some ⟨a, 0, none⟩), .int .i64 (l : Nat)] w fun x w' => x = .returned (.bool true) ∧ Arr w0 w' a gs k gl (S.set (l % S.length) { s with es := s.es.set j Ent.none }) ∧ Turned (Mine gs gl) w w' := by
  have hm := List.mem_of_getElem? hs
  refine (drop_in _ a gs k S l s w H.arr hl hs j hj).mono ?_
  rintro x w' ⟨rfl, hA, hT⟩
  have hT' : Turned (Mine gs gl) w w' := hT.mono fun q _ hq => .inr (by rw [hq]; exact H.mem hm)
  exact ⟨rfl, H.of_turned hA hT' (set_gl hs rfl H.gl) (set_bits H.bits (H.bits s hm)), hT'⟩
theorem arr_drop_miss {w0 w : World} {a gs k : Nat} {gl : List Nat} {S : List SetSt} (H : Arr w0 w a gs k gl S) (l : Nat) (s : SetSt) (hl : l < 32) (hs : S[l % S.length]? = some s) (hj : s.es.findIdx? (isAt (l : Nat)) = none) :
    Calls Tryd.prog 19 #[.pointer (some ⟨a, 0, none⟩), .int .i64 (l : Nat)] w fun x w' => x = .returned (.bool false) ∧ Arr w0 w' a gs k gl S ∧ Below w.heap.size w w' := by
  refine (drop_miss a _ _ w (missing_in H.arr hl hs hj)).mono ?_
  rintro x w' ⟨rfl, hb⟩
  exact ⟨rfl, H.below hb, hb⟩
theorem arr_room {w0 w : World} {a gs k : Nat} {gl : List Nat} {S : List SetSt} (H : Arr w0 w a gs k gl S) (l : Nat) (s : SetSt) (hl : l < 32) (hs : S[l % S.length]? = some s) :
    Calls Tryd.prog 21 #[.pointer (some ⟨a, 0, none⟩), .int .i64 (l : Nat)] w fun x w' => x = .returned (.bool (roomIn (l : Nat) s.es)) ∧ Arr w0 w' a gs k gl S ∧ Below w.heap.size w w' := by
  refine (room_in _ a gs k S l s w H.arr hl hs).mono ?_
  rintro x w' ⟨rfl, hb⟩
  exact ⟨rfl, H.below hb, hb⟩
theorem arr_get {w0 w : World} {a gs k : Nat} {gl : List Nat} {S : List SetSt} (H : Arr w0 w a gs k gl S) (l : Nat) (s : SetSt) (hl : l < 32) (hs : S[l % S.length]? = some s) (j : Nat) (e : Ent) (hj : s.es.findIdx? (isAt (l : Nat)) = some j) (he : s.es[j]? = some e) :
    Calls Tryd.prog 23 #[.pointer (some ⟨a, 0, none⟩), .int .i64 (l : Nat)] w fun x w' => x = .returned (.tuple #[e.val, .bool true]) ∧ Arr w0 w' a gs k gl S ∧ Below w.heap.size w w' := by
  refine (get_in _ a gs k S l s w H.arr hl hs j e hj he).mono ?_
  rintro x w' ⟨rfl, hb⟩
  exact ⟨rfl, H.below hb, hb⟩
theorem arr_get_miss {w0 w : World} {a gs k : Nat} {gl : List Nat} {S : List SetSt} (H : Arr w0 w a gs k gl S) (l : Nat) (s : SetSt) (hl : l < 32) (hs : S[l % S.length]? = some s) (hj : s.es.findIdx? (isAt (l : Nat)) = none) :
    Calls Tryd.prog 23 #[.pointer (some ⟨a, 0, none⟩), .int .i64 (l : Nat)] w fun x w' => x = .returned (.tuple #[Ent.none.val, .bool false]) ∧ Arr w0 w' a gs k gl S ∧ Below w.heap.size w w' := by
  refine (get_miss a _ (some ⟨gs, l % S.length * 2, none⟩) w fun o => missing_in (H.arr.below ((Below.refl _ _).alloc (Nat.le_refl _) _)) hl hs hj).mono ?_
  rintro x w' ⟨rfl, hb⟩
  exact ⟨rfl, H.below hb, hb⟩
theorem touchB_lt {b k j : Nat} (hb : b < 256) (hk : isPow (k : Nat) = true) (hj : j < k) : touchB k b j < 256 := (touch_all b hb k (pow_mem hk) j hj).2
theorem arr_touch {w0 w : World} {a gs k : Nat} {gl : List Nat} {S : List SetSt} (H : Arr w0 w a gs k gl S) (l : Nat) (s : SetSt) (hl : l < 32) (hs : S[l % S.length]? = some s) (j : Nat) (hj : s.es.findIdx? (isAt (l : Nat)) = some j) :
    Calls Tryd.prog 17 #[.pointer (some ⟨a, 0, none⟩), .int .i64 (l : Nat)] w fun x w' => x = .returned (.bool true) ∧ Arr w0 w' a gs k gl (S.set (l % S.length) { s with bits := touchB k s.bits j }) ∧ Turned (Mine gs gl) w w' := by
  have hm := List.mem_of_getElem? hs
  have hjk := (ent_facts H.arr hs hj).1
  refine (touch_in _ a gs k S l s w H.arr hl hs (H.bits s hm) j hj).mono ?_
  rintro x w' ⟨rfl, hA, hT⟩
  have hT' : Turned (Mine gs gl) w w' := hT.mono fun q _ hq => .inl hq
  exact ⟨rfl, H.of_turned hA hT' (set_gl hs rfl H.gl) (set_bits H.bits (touchB_lt (H.bits s hm) H.arr.many.2 hjk)), hT'⟩
theorem arr_touch_miss {w0 w : World} {a gs k : Nat} {gl : List Nat} {S : List SetSt} (H : Arr w0 w a gs k gl S) (l : Nat) (s : SetSt) (hl : l < 32) (hs : S[l % S.length]? = some s) (hj : s.es.findIdx? (isAt (l : Nat)) = none) :
    Calls Tryd.prog 17 #[.pointer (some ⟨a, 0, none⟩), .int .i64 (l : Nat)] w fun x w' => x = .returned (.bool false) ∧ Arr w0 w' a gs k gl S ∧ Below w.heap.size w w' := by
  refine (touch_miss a _ _ w (missing_in H.arr hl hs hj)).mono ?_
  rintro x w' ⟨rfl, hb⟩
  exact ⟨rfl, H.below hb, hb⟩
theorem arr_victim {w0 w : World} {a gs k : Nat} {gl : List Nat} {S : List SetSt} (H : Arr w0 w a gs k gl S) (l : Nat) (s : SetSt) (hl : l < 32) (hs : S[l % S.length]? = some s) (hroom : roomIn (l : Nat) s.es = false) (A : Option Addr) (c : Nat) (zs : List Int) (hr : Kd.C (Kd.int .i64) w A zs.length zs) (hc : zs.length ≤ c) (hz : zs.length < 1000) :
    Calls Tryd.prog 18 #[.pointer (some ⟨a, 0, none⟩), .int .i64 (l : Nat), .slice A zs.length c] w fun x w' => x = .returned (.int .i64 (victimOf s.es (victimB k s.bits) zs)) ∧ Arr w0 w' a gs k gl S ∧ Below w.heap.size w w' := by
  refine (victim_in _ a gs k S l s w H.arr hl hs (H.bits s (List.mem_of_getElem? hs)) hroom A c zs hr hc hz).mono ?_
  rintro x w' ⟨rfl, hb⟩
  exact ⟨rfl, H.below hb, hb⟩
theorem arr_victim_room {w0 w : World} {a gs k : Nat} {gl : List Nat} {S : List SetSt} (H : Arr w0 w a gs k gl S) (l : Nat) (s : SetSt) (hl : l < 32) (hs : S[l % S.length]? = some s) (hroom : roomIn (l : Nat) s.es = true) (A : Option Addr) (n c : Nat) :
    Calls Tryd.prog 18 #[.pointer (some ⟨a, 0, none⟩), .int .i64 (l : Nat), .slice A n c] w fun x w' => x = .returned (.int .i64 (-1)) ∧ Arr w0 w' a gs k gl S ∧ Below w.heap.size w w' := by
  refine (victim_room _ a gs k S l s w H.arr hl hs hroom A n c).mono ?_
  rintro x w' ⟨rfl, hb⟩
  exact ⟨rfl, H.below hb, hb⟩
theorem arr_list {w0 w : World} {a gs k : Nat} {gl : List Nat} {S : List SetSt} (H : Arr w0 w a gs k gl S) :
    Calls Tryd.prog 24 #[.pointer (some ⟨a, 0, none⟩)] w fun x w' => ∃ v, x = .returned v ∧ EntRow w.heap.size w' v (usedIn S) ∧ Arr w0 w' a gs k gl S ∧ Below w.heap.size w w' := by
  refine (arrList_is _ a gs k S w H.arr).mono ?_
  rintro x w' ⟨v, rfl, hr, hb⟩
  exact ⟨v, rfl, hr, H.below hb, hb⟩
end Go.Proofs.YtjnoaidceddpjaaDoor
