/- The lines of a cache: List. -/
import Derived.Test.YtjnoaidceddpjaaDoorArrL
import Derived.Laws.AppendOwn
import Derived.OwnWalk
namespace Go.Proofs.YtjnoaidceddpjaaDoor
open Go.RowKit Go.Extern.Stop Go.Stop Go.Extern

/-- The entries that are there, of a set's ways; of all sets. -/
def usedOf (es : List Ent) : List Ent := es.filter fun e => !isFree e
def usedIn (S : List SetSt) : List Ent := S.flatMap fun s => usedOf s.es
theorem usedIn_le (k : Nat) (S : List SetSt) (h : ∀ s ∈ S, s.es.length = k) : (usedIn S).length ≤ S.length * k := by
  induction S with
  | nil => simp [usedIn]
  | cons a l ih =>
    have h1 := ih fun s hs => h s (by simp [hs])
    have h2 : (usedOf a.es).length ≤ a.es.length := List.length_filter_le _ _
    rw [h a (by simp)] at h2
    simp only [usedIn, List.flatMap_cons, List.length_append, List.length_cons, Nat.succ_mul] at h1 ⊢
    omega
theorem usedIn_take (S : List SetSt) (i : Nat) (s : SetSt) (h : S[i]? = some s) : usedIn (S.take (i + 1)) = usedIn (S.take i) ++ usedOf s.es := by
  rw [List.take_add_one, h]
  simp [usedIn]
theorem usedOf_take (es : List Ent) (j : Nat) (e : Ent) (h : es[j]? = some e) : usedOf (es.take (j + 1)) = usedOf (es.take j) ++ (if isFree e then [] else [e]) := by
  rw [List.take_add_one, h]
  unfold usedOf
  rw [List.filter_append]
  cases hf : isFree e <;> simp [hf]
/-- A row of entries of the call's own. -/
def EntRow (B : Nat) (w : World) (v : Value) (l : List Ent) : Prop := w.ownsRow B 32 10 v l.length (entCells l)
theorem EntRow.below {B : Nat} {w w' : World} {v : Value} {l : List Ent} (h : EntRow B w v l) (hb : Below w.heap.size w w') : EntRow B w' v l := by
  refine ⟨h.1, ?_⟩
  rcases h.2 with hn | ⟨g, cap, cur, rfl, hB, hgg, rest⟩
  · exact .inl hn
  · exact .inr ⟨g, cap, cur, rfl, hB, (hb.block g (lt_of_heap hgg)).trans hgg, rest⟩
theorem new_at {w : World} {n : Nat} {l : List Value} {t : TypeId} (hn : w.heap.size = n) : ∀ q u, l[q]? = some u → (w.alloc (.cells l.toArray t)).cell? ((⟨n, 0, none⟩ : Addr).add q) = some u := by
  subst hn
  intro q u hu
  have h10 := heap_alloc_new w (.cells l.toArray t)
  by_cases hq : q = 0
  · subst hq
    simp only [World.cell?, Addr.add, if_true]
    rw [h10]
    simpa using hu
  · simp only [World.cell?, Addr.add, if_neg hq, Nat.zero_add]
    rw [h10]
    simpa using hu
set_option maxRecDepth 100000 in
set_option maxHeartbeats 16000000 in
theorem arrList_is (B a gs k : Nat) (S : List SetSt) (w : World) (h : ArrAt B w a gs k S) :
    Calls Tryd.prog 24 #[.pointer (some ⟨a, 0, none⟩)] w fun x w' => ∃ v, x = .returned v ∧ EntRow w.heap.size w' v (usedIn S) ∧ Below w.heap.size w w' := by
  obtain ⟨i0, hi0, hz0, hz1, hz2⟩ := info_parts Tryd.infoEnt
  have HAT : Hid (∀ w', Below w.heap.size w w' → ArrAt B w' a gs k S) := fun w' hb => h.below hb
  obtain ⟨n, hn⟩ : ∃ n, n = S.length := ⟨_, rfl⟩
  have HLE : Hid (∀ i, (usedIn (S.take i)).length ≤ 64) := fun i => by
    have h1 := usedIn_le k (S.take i) fun s hs => h.len s (List.mem_of_mem_take hs)
    have h2 := h.pos
    have h3 : (S.take i).length ≤ 8 := by simp; omega
    exact Nat.le_trans h1 (Nat.mul_le_mul h3 h2.2.2.2)
  have HLEN : Hid (∀ s ∈ S, s.es.length = k) := h.len
  have HK8 := Lib.hid h.pos
  have hbox := h.box_cell
  rw [← hn] at hbox
  have HN := Lib.hid hn
  have n8 : n ≤ 8 := by have := h.pos; omega
  have k8 : k ≤ 8 := by have := h.pos; omega
  clear hn h
  go_enter Tryd.func24, Tryd.ntmps24
  go_wp2_with fail
  go_loopw [3, 13] (fun v u wr => ∃ (i : Nat) (l : List Ent), i ≤ n ∧ u = .int .i64 i ∧ Hid (Below w.heap.size w wr) ∧ Hid (EntRow w.heap.size wr v l) ∧ Hid (l = usedIn (S.take i))) (fun _ u _ => n - (intOf u).toNat)
  case atStart => exact ⟨0, [], by omega, rfl, Lib.hid (Below.refl _ _), Lib.hid (World.ownsRow_nil _ _ _ _), rfl⟩
  case round =>
    clear hbox
    obtain ⟨i, l, hi, rfl, HB, HR, HL⟩ := hrel
    by_cases hlt : i < n
    · obtain ⟨s, hs⟩ : ∃ s, S[i]? = some s := ⟨_, List.getElem?_eq_getElem (by rw [← HN.out]; exact hlt)⟩
      obtain ⟨c1, c2⟩ := (HAT.out _ HB.out).set_cells hs
      have HS := Lib.hid hs
      clear hs
      go_wp2_with fail
      have hb1 : ∀ o, Below wr.heap.size wr (wr.alloc o) := fun o => (Below.refl _ _).alloc (Nat.le_refl _) _
      have HB1 : Hid (∀ o, Below w.heap.size w (wr.alloc o)) := fun o => HB.out.trans ((hb1 o).mono HB.out.size)
      have HR1 : Hid (∀ o, EntRow w.heap.size (wr.alloc o) u3 l) := fun o => HR.out.below (hb1 o)
      have HL1 : Hid (l = usedIn (S.take i) ++ usedOf (s.es.take 0)) := by show _ = _; rw [HL.out]; simp [usedOf]
      clear hb1 c1 c2 HB HR HL
      go_loopw [3, 20] (fun v u wq => ∃ (j : Nat) (l : List Ent), j ≤ k ∧ u = .int .i64 j ∧ Hid (Below w.heap.size w wq) ∧ Hid (EntRow w.heap.size wq v l) ∧ Hid (l = usedIn (S.take i) ++ usedOf (s.es.take j))) (fun _ u _ => k - (intOf u).toNat)
      case atStart => exact ⟨0, l, by omega, rfl, HB1.out _, HR1.out _, HL1⟩
      case round =>
        clear HB1 HR1 HL1
        obtain ⟨j, l, hj, rfl, HB, HR, HL⟩ := hrel
        by_cases hjk : j < k
        · have hlen := HLEN.out s (List.mem_of_getElem? HS.out)
          obtain ⟨e, he⟩ : ∃ e, s.es[j]? = some e := ⟨_, List.getElem?_eq_getElem (by rw [hlen]; exact hjk)⟩
          obtain ⟨c0, c1, c2, c3, c4, c5, c6, c7, c8, c9⟩ := entCells_at ((HAT.out _ HB.out).ways s (List.mem_of_getElem? HS.out)) he
          have HTK := Lib.hid (usedOf_take s.es j e he)
          have hle : l.length + 1 ≤ 65 := by
            have h1 := HLE.out (i + 1)
            rw [usedIn_take S i s HS.out] at h1
            have h2 : (usedOf (s.es.take j)).length ≤ (usedOf s.es).length := ((List.take_sublist j s.es).filter _).length_le
            rw [HL.out, List.length_append]
            rw [List.length_append] at h1
            omega
          have HLL := Lib.hid hle
          clear hlen he hle
          have hb1 : ∀ o, Below wr.heap.size wr (wr.alloc o) := fun o => (Below.refl _ _).alloc (Nat.le_refl _) _
          have hb2 : ∀ o o', Below wr.heap.size wr ((wr.alloc o).alloc o') := fun o o' => (hb1 o).trans (((Below.refl _ _).alloc (Nat.le_refl _) _).mono (hb1 o).size)
          have HB1 : Hid (∀ o, Below w.heap.size w (wr.alloc o)) := fun o => HB.out.trans ((hb1 o).mono HB.out.size)
          have HB2 : Hid (∀ o o', Below w.heap.size w ((wr.alloc o).alloc o')) := fun o o' => HB.out.trans ((hb2 o o').mono HB.out.size)
          have HR1 : Hid (∀ o, EntRow w.heap.size (wr.alloc o) u3 l) := fun o => HR.out.below (hb1 o)
          have HR2 : Hid (∀ o o', w.heap.size ≤ ((wr.alloc o).alloc o').heap.size ∧ ((wr.alloc o).alloc o').ownsRow w.heap.size 32 10 u3 l.length (entCells l)) := fun o o' => ⟨(HB2.out o o').size, HR.out.below (hb2 o o')⟩
          have HNEW : Hid (∀ o, ∀ q u, e.cells[q]? = some u → ((wr.alloc o).alloc (.cells e.cells.toArray 32)).cell? ((⟨wr.heap.size + 1, 0, none⟩ : Addr).add q) = some u) := fun o q u hu => by
            exact new_at (by simp) q u hu
          have HO : Hid (∀ u ∈ e.cells, u.oneCell' = true) := ent_one e
          clear hb1 hb2 HB HR
          by_cases hs : e.state = 0
          · have HLF : Hid (l = usedIn (S.take i) ++ usedOf (s.es.take (j + 1))) := by
              show _ = _
              rw [HTK.out, if_pos (by simp [isFree, hs]), List.append_nil, HL.out]
            go_wp2_with fail
            go_roundw
            case rel => exact ⟨j + 1, l, by omega, by go_num, HB1.out _, HR1.out _, HLF⟩
            case measure => simp [intOf]; omega
          · have HLF : Hid (l ++ [e] = usedIn (S.take i) ++ usedOf (s.es.take (j + 1))) := by
              show _ = _
              rw [HTK.out, if_neg (by simp [isFree, hs]), HL.out, List.append_assoc]
            have hs' : (e.state != 0) = true := by simpa using hs
            go_wp2_with (at_builtin; refine wpList_append_own _ rfl (.tmp 27) (.tmp 29) 49 rfl w.heap.size 32 i0 Ent.none.val 10 56 Tryd.underlying49 hi0 hz0 hz1 hz2 rfl (by decide) _ l.length (entCells l) rfl (HR2.out _ _).2 ⟨wr.heap.size + 1, 0, none⟩ 1 1 e.cells rfl rfl (HNEW.out _) HO.out (by have := HLL.out; unfold maxLen; omega) (by have := HLL.out; omega) (HR2.out _ _).1 ?_; intro v' w1 hown' hgrow _; have Hown := Lib.hid hown'; have Hg := Lib.hid hgrow; clear hown' hgrow)
            have HB3 : Hid (Below w.heap.size w w1) := (HB2.out _ _).grown Hg.out (HR2.out _ _).1 (fun q hq => ((HR2.out (.cells #[] 0) (.cells #[] 0)).2.lt q hq).1)
            have HR3 : Hid (EntRow w.heap.size w1 v' (l ++ [e])) := by
              have h1 := Hown.out
              show w1.ownsRow _ _ _ _ _ _
              rw [List.length_append, entCells_append]
              exact h1
            clear Hown Hg HR2 HR1 HB1 HB2 HNEW
            go_roundw
            case rel => exact ⟨j + 1, _, by omega, by go_num, HB3, HR3, HLF⟩
            case measure => simp [intOf]; omega
        · obtain rfl : j = k := by omega
          have HLF : Hid (l = usedIn (S.take (i + 1))) := by
            show _ = _
            have h1 := HLEN.out s (List.mem_of_getElem? HS.out)
            rw [HL.out, usedIn_take S i s HS.out, List.take_of_length_le (l := s.es) (by omega)]
          go_wp2_with fail
          go_roundw
          case rel => exact ⟨i + 1, l, by omega, by go_num, HB, HR, HLF⟩
          case measure => simp [intOf]; omega
    · obtain rfl : i = n := by omega
      have HLF : Hid (l = usedIn S) := by
        show _ = _
        rw [HL.out, List.take_of_length_le (l := S) (by rw [← HN.out]; omega)]
      go_wp2_with fail
      go_ret
      exact ⟨u3, rfl, HLF.out ▸ HR.out, HB.out⟩
end Go.Proofs.YtjnoaidceddpjaaDoor
