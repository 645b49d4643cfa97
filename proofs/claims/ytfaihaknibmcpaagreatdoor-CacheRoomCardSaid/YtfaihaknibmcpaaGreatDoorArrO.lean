/- The lines of a cache: List. The lines of a cache: an array made in the course of a law, and what each call leaves of it. -/
import Derived.Test.YtfaihaknibmcpaaGreatDoorArrL
import Derived.Laws.AppendOwn
import Derived.OwnWalk
namespace Go.Proofs.YtfaihaknibmcpaaGreatDoor
open Go.RowKit Go.Extern.Stop Go.Stop Go.Extern

/-- The entries that are there, of a set's ways; of all sets. -/
def usedOf (es : List Ent) : List Ent := es.filter fun e => !isFree e
def usedIn (S : List SetSt) : List Ent := S.flatMap fun s => usedOf s.es
theorem usedIn_le (k : Nat) (S : List SetSt) (h : ∀ s ∈ S, s.es.length = k) : (usedIn S).length ≤ S.length * k := by
  induction S with
  | nil => simp [usedIn]
  | cons a l ih =>
    have h1 := ih fun s hs => h s (by simp [hs])
    have h2 : (usedOf a.es).length ≤ a.es.length := List.length_filter_le _ _
    rw [h a (by simp)] at h2
    simp only [usedIn, List.flatMap_cons, List.length_append, List.length_cons, Nat.succ_mul] at h1 ⊢
    omega
theorem usedIn_take (S : List SetSt) (i : Nat) (s : SetSt) (h : S[i]? = some s) : usedIn (S.take (i + 1)) = usedIn (S.take i) ++ usedOf s.es := by
  rw [List.take_add_one, h]
  simp [usedIn]
theorem usedOf_take (es : List Ent) (j : Nat) (e : Ent) (h : es[j]? = some e) : usedOf (es.take (j + 1)) = usedOf (es.take j) ++ (if isFree e then [] else [e]) := by
  rw [List.take_add_one, h]
  unfold usedOf
  rw [List.filter_append]
  cases hf : isFree e <;> simp [hf]
/-- A row of entries of the call's own. -/
def EntRow (B : Nat) (w : World) (v : Value) (l : List Ent) : Prop := w.ownsRow B 65 10 v l.length (entCells l)
theorem EntRow.below {B : Nat} {w w' : World} {v : Value} {l : List Ent} (h : EntRow B w v l) (hb : Below w.heap.size w w') : EntRow B w' v l := by
  refine ⟨h.1, ?_⟩
  rcases h.2 with hn | ⟨g, cap, cur, rfl, hB, hgg, rest⟩
  · exact .inl hn
  · exact .inr ⟨g, cap, cur, rfl, hB, (hb.block g (lt_of_heap hgg)).trans hgg, rest⟩
theorem new_at {w : World} {n : Nat} {l : List Value} {t : TypeId} (hn : w.heap.size = n) : ∀ q u, l[q]? = some u → (w.alloc (.cells l.toArray t)).cell? ((⟨n, 0, none⟩ : Addr).add q) = some u := by
  subst hn
  intro q u hu
  have h10 := heap_alloc_new w (.cells l.toArray t)
  by_cases hq : q = 0
  · subst hq
    simp only [World.cell?, Addr.add, if_true]
    rw [h10]
    simpa using hu
  · simp only [World.cell?, Addr.add, if_neg hq, Nat.zero_add]
    rw [h10]
    simpa using hu
set_option maxRecDepth 100000 in
set_option maxHeartbeats 16000000 in
theorem arrList_is (B a gs k : Nat) (S : List SetSt) (w : World) (h : ArrAt B w a gs k S) :
    Calls Tryz.prog 47 #[.pointer (some ⟨a, 0, none⟩)] w fun x w' => ∃ v, x = .returned v ∧ EntRow w.heap.size w' v (usedIn S) ∧ Below w.heap.size w w' := by
  obtain ⟨i0, hi0, hz0, hz1, hz2⟩ := info_parts Tryz.infoEnt
  have HAT : Hid (∀ w', Below w.heap.size w w' → ArrAt B w' a gs k S) := fun w' hb => h.below hb
  obtain ⟨n, hn⟩ : ∃ n, n = S.length := ⟨_, rfl⟩
  have HLE : Hid (∀ i, (usedIn (S.take i)).length ≤ 64) := fun i => by
    have h1 := usedIn_le k (S.take i) fun s hs => h.len s (List.mem_of_mem_take hs)
    have h2 := h.pos
    have h3 : (S.take i).length ≤ 8 := by simp; omega
    exact Nat.le_trans h1 (Nat.mul_le_mul h3 h2.2.2.2)
  have HLEN : Hid (∀ s ∈ S, s.es.length = k) := h.len
  have HK8 := Lib.hid h.pos
  have hbox := h.box_cell
  rw [← hn] at hbox
  have HN := Lib.hid hn
  have n8 : n ≤ 8 := by have := h.pos; omega
  have k8 : k ≤ 8 := by have := h.pos; omega
  clear hn h
  go_enter Tryz.func47, Tryz.ntmps47
  go_wp2_with fail
  go_loopw [3, 13] (fun v u wr => ∃ (i : Nat) (l : List Ent), i ≤ n ∧ u = .int .i64 i ∧ Hid (Below w.heap.size w wr) ∧ Hid (EntRow w.heap.size wr v l) ∧ Hid (l = usedIn (S.take i))) (fun _ u _ => n - (intOf u).toNat)
  case atStart => exact ⟨0, [], by omega, rfl, Lib.hid (Below.refl _ _), Lib.hid (World.ownsRow_nil _ _ _ _), rfl⟩
  case round =>
    clear hbox
    obtain ⟨i, l, hi, rfl, HB, HR, HL⟩ := hrel
    by_cases hlt : i < n
    · obtain ⟨s, hs⟩ : ∃ s, S[i]? = some s := ⟨_, List.getElem?_eq_getElem (by rw [← HN.out]; exact hlt)⟩
      obtain ⟨c1, c2⟩ := (HAT.out _ HB.out).set_cells hs
      have HS := Lib.hid hs
      clear hs
      go_wp2_with fail
      have hb1 : ∀ o, Below wr.heap.size wr (wr.alloc o) := fun o => (Below.refl _ _).alloc (Nat.le_refl _) _
      have HB1 : Hid (∀ o, Below w.heap.size w (wr.alloc o)) := fun o => HB.out.trans ((hb1 o).mono HB.out.size)
      have HR1 : Hid (∀ o, EntRow w.heap.size (wr.alloc o) u3 l) := fun o => HR.out.below (hb1 o)
      have HL1 : Hid (l = usedIn (S.take i) ++ usedOf (s.es.take 0)) := by show _ = _; rw [HL.out]; simp [usedOf]
      clear hb1 c1 c2 HB HR HL
      go_loopw [3, 20] (fun v u wq => ∃ (j : Nat) (l : List Ent), j ≤ k ∧ u = .int .i64 j ∧ Hid (Below w.heap.size w wq) ∧ Hid (EntRow w.heap.size wq v l) ∧ Hid (l = usedIn (S.take i) ++ usedOf (s.es.take j))) (fun _ u _ => k - (intOf u).toNat)
      case atStart => exact ⟨0, l, by omega, rfl, HB1.out _, HR1.out _, HL1⟩
      case round =>
        clear HB1 HR1 HL1
        obtain ⟨j, l, hj, rfl, HB, HR, HL⟩ := hrel
        by_cases hjk : j < k
        · have hlen := HLEN.out s (List.mem_of_getElem? HS.out)
          obtain ⟨e, he⟩ : ∃ e, s.es[j]? = some e := ⟨_, List.getElem?_eq_getElem (by rw [hlen]; exact hjk)⟩
          obtain ⟨c0, c1, c2, c3, c4, c5, c6, c7, c8, c9⟩ := entCells_at ((HAT.out _ HB.out).ways s (List.mem_of_getElem? HS.out)) he
          have HTK := Lib.hid (usedOf_take s.es j e he)
          have hle : l.length + 1 ≤ 65 := by
            have h1 := HLE.out (i + 1)
            rw [usedIn_take S i s HS.out] at h1
            have h2 : (usedOf (s.es.take j)).length ≤ (usedOf s.es).length := ((List.take_sublist j s.es).filter _).length_le
            rw [HL.out, List.length_append]
            rw [List.length_append] at h1
            omega
          have HLL := Lib.hid hle
          clear hlen he hle
          have hb1 : ∀ o, Below wr.heap.size wr (wr.alloc o) := fun o => (Below.refl _ _).alloc (Nat.le_refl _) _
          have hb2 : ∀ o o', Below wr.heap.size wr ((wr.alloc o).alloc o') := fun o o' => (hb1 o).trans (((Below.refl _ _).alloc (Nat.le_refl _) _).mono (hb1 o).size)
          have HB1 : Hid (∀ o, Below w.heap.size w (wr.alloc o)) := fun o => HB.out.trans ((hb1 o).mono HB.out.size)
          have HB2 : Hid (∀ o o', Below w.heap.size w ((wr.alloc o).alloc o')) := fun o o' => HB.out.trans ((hb2 o o').mono HB.out.size)
          have HR1 : Hid (∀ o, EntRow w.heap.size (wr.alloc o) u3 l) := fun o => HR.out.below (hb1 o)
          have HR2 : Hid (∀ o o', w.heap.size ≤ ((wr.alloc o).alloc o').heap.size ∧ ((wr.alloc o).alloc o').ownsRow w.heap.size 65 10 u3 l.length (entCells l)) := fun o o' => ⟨(HB2.out o o').size, HR.out.below (hb2 o o')⟩
          have HNEW : Hid (∀ o, ∀ q u, e.cells[q]? = some u → ((wr.alloc o).alloc (.cells e.cells.toArray 65)).cell? ((⟨wr.heap.size + 1, 0, none⟩ : Addr).add q) = some u) := fun o q u hu => by
            exact new_at (by simp) q u hu
          have HO : Hid (∀ u ∈ e.cells, u.oneCell' = true) := ent_one e
          clear hb1 hb2 HB HR
          by_cases hs : e.state = 0
          · have HLF : Hid (l = usedIn (S.take i) ++ usedOf (s.es.take (j + 1))) := by
              show _ = _
              rw [HTK.out, if_pos (by simp [isFree, hs]), List.append_nil, HL.out]
            go_wp2_with fail
            go_roundw
            case rel => exact ⟨j + 1, l, by omega, by go_num, HB1.out _, HR1.out _, HLF⟩
            case measure => simp [intOf]; omega
          · have HLF : Hid (l ++ [e] = usedIn (S.take i) ++ usedOf (s.es.take (j + 1))) := by
              show _ = _
              rw [HTK.out, if_neg (by simp [isFree, hs]), HL.out, List.append_assoc]
            have hs' : (e.state != 0) = true := by simpa using hs
            go_wp2_with (at_builtin; refine wpList_append_own _ rfl (.tmp 27) (.tmp 29) 41 rfl w.heap.size 65 i0 Ent.none.val 10 56 Tryz.underlying41 hi0 hz0 hz1 hz2 rfl (by decide) _ l.length (entCells l) rfl (HR2.out _ _).2 ⟨wr.heap.size + 1, 0, none⟩ 1 1 e.cells rfl rfl (HNEW.out _) HO.out (by have := HLL.out; unfold maxLen; omega) (by have := HLL.out; omega) (HR2.out _ _).1 ?_; intro v' w1 hown' hgrow _; have Hown := Lib.hid hown'; have Hg := Lib.hid hgrow; clear hown' hgrow)
            have HB3 : Hid (Below w.heap.size w w1) := (HB2.out _ _).grown Hg.out (HR2.out _ _).1 (fun q hq => ((HR2.out (.cells #[] 0) (.cells #[] 0)).2.lt q hq).1)
            have HR3 : Hid (EntRow w.heap.size w1 v' (l ++ [e])) := by
              have h1 := Hown.out
              show w1.ownsRow _ _ _ _ _ _
              rw [List.length_append, entCells_append]
              exact h1
            clear Hown Hg HR2 HR1 HB1 HB2 HNEW
            go_roundw
            case rel => exact ⟨j + 1, _, by omega, by go_num, HB3, HR3, HLF⟩
            case measure => simp [intOf]; omega
        · obtain rfl : j = k := by omega
          have HLF : Hid (l = usedIn (S.take (i + 1))) := by
            show _ = _
            have h1 := HLEN.out s (List.mem_of_getElem? HS.out)
            rw [HL.out, usedIn_take S i s HS.out, List.take_of_length_le (l := s.es) (by omega)]
          go_wp2_with fail
          go_roundw
          case rel => exact ⟨i + 1, l, by omega, by go_num, HB, HR, HLF⟩
          case measure => simp [intOf]; omega
    · obtain rfl : i = n := by omega
      have HLF : Hid (l = usedIn S) := by
        show _ = _
        rw [HL.out, List.take_of_length_le (l := S) (by rw [← HN.out]; omega)]
      go_wp2_with fail
      go_ret
      exact ⟨u3, rfl, HLF.out ▸ HR.out, HB.out⟩
end Go.Proofs.YtfaihaknibmcpaaGreatDoor
namespace Go.Proofs.YtfaihaknibmcpaaGreatDoor
open Go.RowKit Go.Extern.Stop Go.Stop Go.Extern Go.Proofs.YtfaihaknibmcpaaGreatDoor.PCacheFull Go.Proofs.YtfaihaknibmcpaaGreatDoorW.PrintWords

/-- The blocks that an array's calls write. -/
def Mine (gs : Nat) (gl : List Nat) (q : Nat) : Prop := q = gs ∨ q ∈ gl
/-- An array that was made after w0. -/
structure Arr (w0 w : World) (a gs k : Nat) (gl : List Nat) (S : List SetSt) : Prop where
  arr : ArrAt w0.heap.size w a gs k S
  base : Below w0.heap.size w0 w
  gl : S.map (·.g) = gl
  bits : ∀ s ∈ S, s.bits < 256
theorem Arr.below {w0 w w' : World} {a gs k : Nat} {gl : List Nat} {S : List SetSt} (h : Arr w0 w a gs k gl S) (hb : Below w.heap.size w w') : Arr w0 w' a gs k gl S :=
  ⟨h.arr.below hb, h.base.trans (hb.mono h.base.size), h.gl, h.bits⟩
theorem Arr.far {w0 w : World} {a gs k : Nat} {gl : List Nat} {S : List SetSt} (h : Arr w0 w a gs k gl S) (q : Nat) (hq : Mine gs gl q) : w0.heap.size ≤ q ∧ q < w.heap.size := by
  rcases hq with rfl | hq
  · exact ⟨h.arr.above.2.1, lt_of_heap h.arr.sets⟩
  · rw [← h.gl, List.mem_map] at hq
    obtain ⟨s, hs, rfl⟩ := hq
    exact ⟨h.arr.above.2.2 s hs, lt_of_heap (h.arr.ways s hs)⟩
theorem Arr.of_turned {w0 w w' : World} {a gs k : Nat} {gl : List Nat} {S S' : List SetSt} (h : Arr w0 w a gs k gl S) (h' : ArrAt w0.heap.size w' a gs k S') (hT : Turned (Mine gs gl) w w') (hg : S'.map (·.g) = gl) (hb : ∀ s ∈ S', s.bits < 256) : Arr w0 w' a gs k gl S' :=
  ⟨h', h.base.trans (hT.below h.base.size fun q hq e => by have := (h.far q e).1; omega), hg, hb⟩
theorem Arr.mem {w0 w : World} {a gs k : Nat} {gl : List Nat} {S : List SetSt} (h : Arr w0 w a gs k gl S) {s : SetSt} (hs : s ∈ S) : s.g ∈ gl := by
  rw [← h.gl]; exact List.mem_map_of_mem hs
theorem set_gl {S : List SetSt} {r : Nat} {s t : SetSt} {gl : List Nat} (hs : S[r]? = some s) (hg : t.g = s.g) (h : S.map (·.g) = gl) : (S.set r t).map (·.g) = gl := by
  rw [set_g S r s t hs hg]; exact h
theorem set_bits {S : List SetSt} {r : Nat} {t : SetSt} (h : ∀ s ∈ S, s.bits < 256) (ht : t.bits < 256) : ∀ s ∈ S.set r t, s.bits < 256 := by
  intro s hs
  rcases mem_set hs with rfl | ⟨i, _, hx⟩
  · exact ht
  · exact h s (List.mem_of_getElem? hx)
theorem arr_new (n k : Nat) (w : World) (hn : isPow (n : Nat) = true) (hk : isPow (k : Nat) = true) :
    Calls Tryz.prog 35 #[.int .i64 (n : Nat), .int .i64 (k : Nat)] w fun e w' => ∃ a gs g gl, e = .returned (.tuple #[.pointer (some ⟨a, 0, none⟩), .nilIface]) ∧ Arr w w' a gs k gl (newSets g k n) := by
  refine (newArr_ok n k w hn hk).mono ?_
  rintro e w' ⟨a, gs, g, rfl, hA, hb⟩
  refine ⟨a, gs, g, _, rfl, hA, hb, rfl, ?_⟩
  intro s hs
  simp only [newSets, List.mem_map] at hs
  obtain ⟨j, _, rfl⟩ := hs
  show 0 < 256
  omega
theorem arr_put {w0 w : World} {a gs k : Nat} {gl : List Nat} {S : List SetSt} (H : Arr w0 w a gs k gl S) (l : Nat) (s : SetSt) (hl : l < 32) (hs : S[l % S.length]? = some s) (e : Ent) (hline : e.line = (l : Nat)) (hr : rightE e = true) (j : Nat) (hj : placeE (l : Nat) s.es = some j) :
    Calls Tryz.prog 69 #[.pointer (some ⟨a, 0, none⟩), e.val] w fun x w' => x = .returned .nilIface ∧ Arr w0 w' a gs k gl (S.set (l % S.length) { s with es := s.es.set j e }) ∧ Turned (Mine gs gl) w w' := by
  have hm := List.mem_of_getElem? hs
  refine (put_ok _ a gs k S l s w H.arr hl hs e hline hr j hj).mono ?_
  rintro x w' ⟨rfl, hA, hT⟩
  have hT' : Turned (Mine gs gl) w w' := hT.mono fun q _ hq => .inr (by rw [hq]; exact H.mem hm)
  exact ⟨rfl, H.of_turned hA hT' (set_gl hs rfl H.gl) (set_bits H.bits (H.bits s hm)), hT'⟩
theorem arr_put_full {w0 w : World} {a gs k : Nat} {gl : List Nat} {S : List SetSt} (H : Arr w0 w a gs k gl S) (l : Nat) (s : SetSt) (ad : Nat → Addr) (HSE : Sents w0 ad) (hl : l < 32) (hs : S[l % S.length]? = some s) (e : Ent) (hline : e.line = (l : Nat)) (hr : rightE e = true) (hj : placeE (l : Nat) s.es = none) :
    Calls Tryz.prog 69 #[.pointer (some ⟨a, 0, none⟩), e.val] w fun x w' => x = .returned (sayPut e.line (ad 6)) ∧ Arr w0 w' a gs k gl S ∧ Below w.heap.size w w' := by
  refine (put_full _ a gs k S l s w ad (HSE.of_below H.base) H.arr hl hs e hline hr hj).mono ?_
  rintro x w' ⟨rfl, hb⟩
  exact ⟨rfl, H.below hb, hb⟩
theorem arr_drop {w0 w : World} {a gs k : Nat} {gl : List Nat} {S : List SetSt} (H : Arr w0 w a gs k gl S) (l : Nat) (s : SetSt) (hl : l < 32) (hs : S[l % S.length]? = some s) (j : Nat) (hj : s.es.findIdx? (isAt (l : Nat)) = some j) :
    Calls Tryz.prog 68 #[.pointer (some ⟨a, 0, none⟩), .int .i64 (l : Nat)] w fun x w' => x = .returned (.bool true) ∧ Arr w0 w' a gs k gl (S.set (l % S.length) { s with es := s.es.set j Ent.none }) ∧ Turned (Mine gs gl) w w' := by
  have hm := List.mem_of_getElem? hs
  refine (drop_in _ a gs k S l s w H.arr hl hs j hj).mono ?_
  rintro x w' ⟨rfl, hA, hT⟩
  have hT' : Turned (Mine gs gl) w w' := hT.mono fun q _ hq => .inr (by rw [hq]; exact H.mem hm)
  exact ⟨rfl, H.of_turned hA hT' (set_gl hs rfl H.gl) (set_bits H.bits (H.bits s hm)), hT'⟩
theorem arr_drop_miss {w0 w : World} {a gs k : Nat} {gl : List Nat} {S : List SetSt} (H : Arr w0 w a gs k gl S) (l : Nat) (s : SetSt) (hl : l < 32) (hs : S[l % S.length]? = some s) (hj : s.es.findIdx? (isAt (l : Nat)) = none) :
    Calls Tryz.prog 68 #[.pointer (some ⟨a, 0, none⟩), .int .i64 (l : Nat)] w fun x w' => x = .returned (.bool false) ∧ Arr w0 w' a gs k gl S ∧ Below w.heap.size w w' := by
  refine (drop_miss a _ _ w (missing_in H.arr hl hs hj)).mono ?_
  rintro x w' ⟨rfl, hb⟩
  exact ⟨rfl, H.below hb, hb⟩
theorem arr_room {w0 w : World} {a gs k : Nat} {gl : List Nat} {S : List SetSt} (H : Arr w0 w a gs k gl S) (l : Nat) (s : SetSt) (hl : l < 32) (hs : S[l % S.length]? = some s) :
    Calls Tryz.prog 40 #[.pointer (some ⟨a, 0, none⟩), .int .i64 (l : Nat)] w fun x w' => x = .returned (.bool (roomIn (l : Nat) s.es)) ∧ Arr w0 w' a gs k gl S ∧ Below w.heap.size w w' := by
  refine (room_in _ a gs k S l s w H.arr hl hs).mono ?_
  rintro x w' ⟨rfl, hb⟩
  exact ⟨rfl, H.below hb, hb⟩
theorem arr_get {w0 w : World} {a gs k : Nat} {gl : List Nat} {S : List SetSt} (H : Arr w0 w a gs k gl S) (l : Nat) (s : SetSt) (hl : l < 32) (hs : S[l % S.length]? = some s) (j : Nat) (e : Ent) (hj : s.es.findIdx? (isAt (l : Nat)) = some j) (he : s.es[j]? = some e) :
    Calls Tryz.prog 38 #[.pointer (some ⟨a, 0, none⟩), .int .i64 (l : Nat)] w fun x w' => x = .returned (.tuple #[e.val, .bool true]) ∧ Arr w0 w' a gs k gl S ∧ Below w.heap.size w w' := by
  refine (get_in _ a gs k S l s w H.arr hl hs j e hj he).mono ?_
  rintro x w' ⟨rfl, hb⟩
  exact ⟨rfl, H.below hb, hb⟩
theorem arr_get_miss {w0 w : World} {a gs k : Nat} {gl : List Nat} {S : List SetSt} (H : Arr w0 w a gs k gl S) (l : Nat) (s : SetSt) (hl : l < 32) (hs : S[l % S.length]? = some s) (hj : s.es.findIdx? (isAt (l : Nat)) = none) :
    Calls Tryz.prog 38 #[.pointer (some ⟨a, 0, none⟩), .int .i64 (l : Nat)] w fun x w' => x = .returned (.tuple #[Ent.none.val, .bool false]) ∧ Arr w0 w' a gs k gl S ∧ Below w.heap.size w w' := by
  refine (get_miss a _ (some ⟨gs, l % S.length * 2, none⟩) w fun o => missing_in (H.arr.below ((Below.refl _ _).alloc (Nat.le_refl _) _)) hl hs hj).mono ?_
  rintro x w' ⟨rfl, hb⟩
  exact ⟨rfl, H.below hb, hb⟩
theorem touchB_lt {b k j : Nat} (hb : b < 256) (hk : isPow (k : Nat) = true) (hj : j < k) : touchB k b j < 256 := (touch_all b hb k (pow_mem hk) j hj).2
theorem arr_touch {w0 w : World} {a gs k : Nat} {gl : List Nat} {S : List SetSt} (H : Arr w0 w a gs k gl S) (l : Nat) (s : SetSt) (hl : l < 32) (hs : S[l % S.length]? = some s) (j : Nat) (hj : s.es.findIdx? (isAt (l : Nat)) = some j) :
    Calls Tryz.prog 75 #[.pointer (some ⟨a, 0, none⟩), .int .i64 (l : Nat)] w fun x w' => x = .returned (.bool true) ∧ Arr w0 w' a gs k gl (S.set (l % S.length) { s with bits := touchB k s.bits j }) ∧ Turned (Mine gs gl) w w' := by
  have hm := List.mem_of_getElem? hs
  have hjk := (ent_facts H.arr hs hj).1
  refine (touch_in _ a gs k S l s w H.arr hl hs (H.bits s hm) j hj).mono ?_
  rintro x w' ⟨rfl, hA, hT⟩
  have hT' : Turned (Mine gs gl) w w' := hT.mono fun q _ hq => .inl hq
  exact ⟨rfl, H.of_turned hA hT' (set_gl hs rfl H.gl) (set_bits H.bits (touchB_lt (H.bits s hm) H.arr.many.2 hjk)), hT'⟩
theorem arr_touch_miss {w0 w : World} {a gs k : Nat} {gl : List Nat} {S : List SetSt} (H : Arr w0 w a gs k gl S) (l : Nat) (s : SetSt) (hl : l < 32) (hs : S[l % S.length]? = some s) (hj : s.es.findIdx? (isAt (l : Nat)) = none) :
    Calls Tryz.prog 75 #[.pointer (some ⟨a, 0, none⟩), .int .i64 (l : Nat)] w fun x w' => x = .returned (.bool false) ∧ Arr w0 w' a gs k gl S ∧ Below w.heap.size w w' := by
  refine (touch_miss a _ _ w (missing_in H.arr hl hs hj)).mono ?_
  rintro x w' ⟨rfl, hb⟩
  exact ⟨rfl, H.below hb, hb⟩
theorem arr_victim {w0 w : World} {a gs k : Nat} {gl : List Nat} {S : List SetSt} (H : Arr w0 w a gs k gl S) (l : Nat) (s : SetSt) (hl : l < 32) (hs : S[l % S.length]? = some s) (hroom : roomIn (l : Nat) s.es = false) (A : Option Addr) (c : Nat) (zs : List Int) (hr : Kd.C (Kd.int .i64) w A zs.length zs) (hc : zs.length ≤ c) (hz : zs.length < 1000) :
    Calls Tryz.prog 84 #[.pointer (some ⟨a, 0, none⟩), .int .i64 (l : Nat), .slice A zs.length c] w fun x w' => x = .returned (.int .i64 (victimOf s.es (victimB k s.bits) zs)) ∧ Arr w0 w' a gs k gl S ∧ Below w.heap.size w w' := by
  refine (victim_in _ a gs k S l s w H.arr hl hs (H.bits s (List.mem_of_getElem? hs)) hroom A c zs hr hc hz).mono ?_
  rintro x w' ⟨rfl, hb⟩
  exact ⟨rfl, H.below hb, hb⟩
theorem arr_victim_room {w0 w : World} {a gs k : Nat} {gl : List Nat} {S : List SetSt} (H : Arr w0 w a gs k gl S) (l : Nat) (s : SetSt) (hl : l < 32) (hs : S[l % S.length]? = some s) (hroom : roomIn (l : Nat) s.es = true) (A : Option Addr) (n c : Nat) :
    Calls Tryz.prog 84 #[.pointer (some ⟨a, 0, none⟩), .int .i64 (l : Nat), .slice A n c] w fun x w' => x = .returned (.int .i64 (-1)) ∧ Arr w0 w' a gs k gl S ∧ Below w.heap.size w w' := by
  refine (victim_room _ a gs k S l s w H.arr hl hs hroom A n c).mono ?_
  rintro x w' ⟨rfl, hb⟩
  exact ⟨rfl, H.below hb, hb⟩
theorem arr_list {w0 w : World} {a gs k : Nat} {gl : List Nat} {S : List SetSt} (H : Arr w0 w a gs k gl S) :
    Calls Tryz.prog 47 #[.pointer (some ⟨a, 0, none⟩)] w fun x w' => ∃ v, x = .returned v ∧ EntRow w.heap.size w' v (usedIn S) ∧ Arr w0 w' a gs k gl S ∧ Below w.heap.size w w' := by
  refine (arrList_is _ a gs k S w H.arr).mono ?_
  rintro x w' ⟨v, rfl, hr, hb⟩
  exact ⟨v, rfl, hr, H.below hb, hb⟩
end Go.Proofs.YtfaihaknibmcpaaGreatDoor
