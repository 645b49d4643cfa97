/- The lines of a cache: Put. -/
import Derived.Test.YtjnoaidceddpjaaDoorArrG
import Derived.StillTailTactics
namespace Go.Proofs.YtjnoaidceddpjaaDoor
open Go.RowKit Go.Extern.Stop Go.Stop Go.Extern

def sayPut (line : Int) (a : Addr) : Value := .iface 111 (.agg #[.string ⟨#[97, 114, 114, 97, 121, 46, 80, 117, 116]⟩, .int .i64 line, .iface 165 (.pointer (some a))])
/-- May an entry be put? -/
def rightE (e : Ent) : Bool := decide (1 ≤ e.state ∧ e.state ≤ 4 ∧ 0 ≤ e.mode ∧ e.mode ≤ 3 ∧ 0 ≤ e.epoch ∧ e.epoch ≤ 255)
/-- Where an entry of a line goes. -/
def placeE (l : Int) (es : List Ent) : Option Nat := match es.findIdx? (isAt l) with
  | some j => some j
  | none => es.findIdx? isFree
theorem box_cells {w : World} {g : Nat} {e : Ent} (h : w.heap[g]? = some (.cells e.cells.toArray 32 (0, 0))) :
    w.cell? ⟨g, 0, none⟩ = some (.int .i64 e.line) ∧ w.cell? ⟨g, 1, none⟩ = some (.int .i64 e.state) ∧ w.cell? ⟨g, 2, none⟩ = some (.int .i64 e.mode) ∧ w.cell? ⟨g, 3, none⟩ = some (.int .i64 e.epoch) ∧ w.cell? ⟨g, 4, none⟩ = some (.int .u32 e.d0) ∧ w.cell? ⟨g, 5, none⟩ = some (.int .u32 e.d1) ∧ w.cell? ⟨g, 6, none⟩ = some (.int .u32 e.d2) ∧ w.cell? ⟨g, 7, none⟩ = some (.int .u32 e.d3) ∧ w.cell? ⟨g, 8, none⟩ = some (.bool e.h) ∧ w.cell? ⟨g, 9, none⟩ = some (.bool e.f) := by
  have h' : w.heap[g]? = some (.cells (entCells [e]).toArray 32 (0, 0)) := by
    rw [h]; simp [entCells]
  have := entCells_at (i := 0) (e := e) h' rfl
  simpa using this
set_option maxRecDepth 100000 in
set_option maxHeartbeats 8000000 in
theorem put_ok (B a gs k : Nat) (S : List SetSt) (l : Nat) (s : SetSt) (w : World) (h : ArrAt B w a gs k S) (hl : l < 32) (hs : S[l % S.length]? = some s) (e : Ent) (hline : e.line = (l : Nat)) (hr : rightE e = true) (j : Nat) (hj : placeE (l : Nat) s.es = some j) :
    Calls Tryd.prog 15 #[.pointer (some ⟨a, 0, none⟩), e.val] w fun x w' => x = .returned .nilIface ∧ ArrAt B w' a gs k (S.set (l % S.length) { s with es := s.es.set j e }) ∧ Turned (fun q => q = s.g) w w' := by
  have hA : ∀ o, Below w.heap.size w (w.alloc o) := fun o => (Below.refl _ _).alloc (Nat.le_refl _) _
  have HA := Lib.hid hA
  have HF : Hid (∀ o, _) := fun o => find_in B a gs k S l s (w.alloc o) (h.below (hA o)) hl hs
  have HX : Hid (∀ w', Below w.heap.size w w' → ArrAt B w' a gs k S) := fun w' hb => h.below hb
  have HFREE : Hid (∀ w', Below w.heap.size w w' → _) := fun w' hb => free_is B a gs k S (l % S.length) s w' (h.below hb) hs
  have hm := List.mem_of_getElem? hs
  have hlen := h.len s hm
  have hjk : j < k := by
    unfold placeE at hj
    cases h1 : s.es.findIdx? (isAt (l : Nat)) with
    | some q => rw [h1] at hj; simp at hj; subst hj; exact (ent_facts h hs h1).1
    | none => rw [h1] at hj; simp at hj; exact (ent_facts h hs hj).1
  have HS := Lib.hid hs
  have HSET := Lib.hid (entCells_set s.es j e (by omega))
  have HL : Hid (j * 10 + 10 ≤ (entCells s.es).length) := by show _ ≤ _; rw [entCells_length]; omega
  have HONE := Lib.hid (ent_one e)
  have HLEN : Hid ((s.es.set j e).length = k) := by show _ = _; rw [List.length_set]; exact hlen
  obtain ⟨r1, r2, r3, r4, r5, r6⟩ : 1 ≤ e.state ∧ e.state ≤ 4 ∧ 0 ≤ e.mode ∧ e.mode ≤ 3 ∧ 0 ≤ e.epoch ∧ e.epoch ≤ 255 := by simpa [rightE] using hr
  clear hA h hs hlen hm hr
  generalize l % S.length = r at *
  rw [← hline] at HF hj
  unfold placeE at hj
  simp only [Ent.val]
  clear hline
  have f1 : ¬ e.state < 1 := by omega
  have f2 : ¬ 4 < e.state := by omega
  have f3 : ¬ e.mode < 0 := by omega
  have f4 : ¬ 3 < e.mode := by omega
  have f5 : ¬ e.epoch < 0 := by omega
  have f6 : ¬ 255 < e.epoch := by omega
  clear r1 r2 r3 r4 r5 r6
  cases hi : s.es.findIdx? (isAt e.line) with
  | some q =>
    rw [hi] at HF hj
    obtain rfl : j = q := by simpa using hj.symm
    clear hi hj
    simp only [idxI] at HF
    go_enter Tryd.func15, Tryd.ntmps15
    go_wp2_with fail
    refine (HF.out _).mono ?_
    rintro x w1 ⟨rfl, hb⟩
    have HB1 := Lib.hid ((HA.out _).trans (hb.mono (HA.out _).size))
    have hbox : w1.heap[w.heap.size]? = some (.cells e.cells.toArray 32 (0, 0)) := by
      rw [hb.block _ (by simp)]
      exact heap_alloc_new _ _
    have HBOX := Lib.hid hbox
    obtain ⟨c0, c1, c2, c3, c4, c5, c6, c7, c8, c9⟩ := box_cells hbox
    clear hb HF HA hbox
    go_wp2_with fail
    have hAt := HX.out w1 HB1.out
    obtain ⟨-, cw⟩ := hAt.set_cells HS.out
    have hw := hAt.ways s (List.mem_of_getElem? HS.out)
    have HAT := Lib.hid hAt
    clear hAt HX HFREE
    go_still_tail 7, (by kernel_rfl)
    change wpList _ _ _ _ _ w1.drew
    have hw' : w1.drew.heap[s.g]? = some (.cells (entCells s.es).toArray 32 (0, 0)) := hw
    have HAD : Hid (ArrAt B w1.drew a gs k S) := HAT.out.below ((Below.refl _ _).drew)
    have HBD : Hid (Below w.heap.size w w1.drew) := HB1.out.drew
    clear c0 c1 c2 c3 c4 c5 c6 c7 c8 c9 cw hw HAT HB1 HBOX
    generalize w1.drew = w4 at *
    go_wp2_with (refine wpList_store_at rfl 32 (.tmp 66) (.tmp 65) rfl s.g (j * 10) e.cells.toArray rfl rfl 32 (entCells s.es).toArray hw' Tryd.sizeEnt HL.out HONE.out (entCells (s.es.set j e)) HSET.out ?_)
    have hput := HAD.out.put HS.out (s.es.set j e) HLEN.out
    have hT : Turned (fun q => q = s.g) w (w4.setRow s.g (entCells (s.es.set j e)).toArray) := (Turned.of_below (S := fun q => q = s.g) HBD.out).setRow (.inl rfl) _
    have HP := Lib.hid hput
    have HT := Lib.hid hT
    clear hput hT hw'
    go_wp2
    go_ret
    exact ⟨rfl, HP.out, HT.out⟩
  | none =>
    rw [hi] at HF hj
    simp only at hj
    rw [hj] at HFREE
    clear hi hj
    simp only [idxI] at HF HFREE
    go_enter Tryd.func15, Tryd.ntmps15
    go_wp2_with fail
    refine (HF.out _).mono ?_
    rintro x w1 ⟨rfl, hb⟩
    have HB1 := Lib.hid ((HA.out _).trans (hb.mono (HA.out _).size))
    have hbox : w1.heap[w.heap.size]? = some (.cells e.cells.toArray 32 (0, 0)) := by
      rw [hb.block _ (by simp)]
      exact heap_alloc_new _ _
    have hsz := lt_of_heap hbox
    have HBOX := Lib.hid hbox
    obtain ⟨c0, c1, c2, c3, c4, c5, c6, c7, c8, c9⟩ := box_cells hbox
    clear hb HF HA hbox
    go_wp2_with fail
    refine (HFREE.out w1 HB1.out).mono ?_
    rintro x w2 ⟨rfl, hb⟩
    have HB2 := Lib.hid (HB1.out.trans (hb.mono HB1.out.size))
    have hbox2 : w2.heap[w.heap.size]? = some (.cells e.cells.toArray 32 (0, 0)) := (hb.block _ hsz).trans HBOX.out
    clear c0 c1 c2 c3 c4 c5 c6 c7 c8 c9 hb HB1 HBOX hsz
    have HBOX := Lib.hid hbox2
    obtain ⟨c0, c1, c2, c3, c4, c5, c6, c7, c8, c9⟩ := box_cells hbox2
    clear hbox2
    go_wp2_with fail
    have hAt := HX.out w2 HB2.out
    obtain ⟨-, cw⟩ := hAt.set_cells HS.out
    have hw := hAt.ways s (List.mem_of_getElem? HS.out)
    have HAT := Lib.hid hAt
    clear hAt HX HFREE
    go_still_tail 7, (by kernel_rfl)
    change wpList _ _ _ _ _ w2.drew
    have hw' : w2.drew.heap[s.g]? = some (.cells (entCells s.es).toArray 32 (0, 0)) := hw
    have HAD : Hid (ArrAt B w2.drew a gs k S) := HAT.out.below ((Below.refl _ _).drew)
    have HBD : Hid (Below w.heap.size w w2.drew) := HB2.out.drew
    clear c0 c1 c2 c3 c4 c5 c6 c7 c8 c9 cw hw HAT HB2 HBOX
    generalize w2.drew = w4 at *
    go_wp2_with (refine wpList_store_at rfl 32 (.tmp 66) (.tmp 65) rfl s.g (j * 10) e.cells.toArray rfl rfl 32 (entCells s.es).toArray hw' Tryd.sizeEnt HL.out HONE.out (entCells (s.es.set j e)) HSET.out ?_)
    have hput := HAD.out.put HS.out (s.es.set j e) HLEN.out
    have hT : Turned (fun q => q = s.g) w (w4.setRow s.g (entCells (s.es.set j e)).toArray) := (Turned.of_below (S := fun q => q = s.g) HBD.out).setRow (.inl rfl) _
    have HP := Lib.hid hput
    have HT := Lib.hid hT
    clear hput hT hw'
    go_wp2
    go_ret
    exact ⟨rfl, HP.out, HT.out⟩
end Go.Proofs.YtjnoaidceddpjaaDoor
