/- The lines of a cache: Put of what is refused. -/
import Derived.Test.YtjnoaidceddpjaaDoorArrH
namespace Go.Proofs.YtjnoaidceddpjaaDoor
open Go.RowKit Go.Extern.Stop Go.Stop Go.Extern

set_option maxRecDepth 100000 in
set_option maxHeartbeats 8000000 in
theorem put_full (B a gs k : Nat) (S : List SetSt) (l : Nat) (s : SetSt) (w : World) (ad : Nat → Addr) (HSE : Sents w ad) (h : ArrAt B w a gs k S) (hl : l < 32) (hs : S[l % S.length]? = some s) (e : Ent) (hline : e.line = (l : Nat)) (hr : rightE e = true) (hj : placeE (l : Nat) s.es = none) :
    Calls Tryd.prog 15 #[.pointer (some ⟨a, 0, none⟩), e.val] w fun x w' => x = .returned (sayPut e.line (ad 6)) ∧ Below w.heap.size w w' := by
  have hA : ∀ o, Below w.heap.size w (w.alloc o) := fun o => (Below.refl _ _).alloc (Nat.le_refl _) _
  have HA := Lib.hid hA
  have HF : Hid (∀ o, _) := fun o => find_in B a gs k S l s (w.alloc o) (h.below (hA o)) hl hs
  have HFREE : Hid (∀ w', Below w.heap.size w w' → _) := fun w' hb => free_is B a gs k S (l % S.length) s w' (h.below hb) hs
  have HSENT := Lib.hid HSE
  obtain ⟨r1, r2, r3, r4, r5, r6⟩ : 1 ≤ e.state ∧ e.state ≤ 4 ∧ 0 ≤ e.mode ∧ e.mode ≤ 3 ∧ 0 ≤ e.epoch ∧ e.epoch ≤ 255 := by simpa [rightE] using hr
  clear hA h hs hr HSE
  generalize l % S.length = r at *
  rw [← hline] at HF hj
  unfold placeE at hj
  simp only [Ent.val]
  clear hline
  have f1 : ¬ e.state < 1 := by omega
  have f2 : ¬ 4 < e.state := by omega
  have f3 : ¬ e.mode < 0 := by omega
  have f4 : ¬ 3 < e.mode := by omega
  have f5 : ¬ e.epoch < 0 := by omega
  have f6 : ¬ 255 < e.epoch := by omega
  clear r1 r2 r3 r4 r5 r6
  cases hi : s.es.findIdx? (isAt e.line) with
  | some q =>
    rw [hi] at hj
    simp at hj
  | none =>
    rw [hi] at HF hj
    simp only at hj
    rw [hj] at HFREE
    clear hi hj
    simp only [idxI] at HF HFREE
    go_enter Tryd.func15, Tryd.ntmps15
    go_wp2_with fail
    refine (HF.out _).mono ?_
    rintro x w1 ⟨rfl, hb⟩
    have HB1 := Lib.hid ((HA.out _).trans (hb.mono (HA.out _).size))
    have hbox : w1.heap[w.heap.size]? = some (.cells e.cells.toArray 32 (0, 0)) := by
      rw [hb.block _ (by simp)]
      exact heap_alloc_new _ _
    have hsz := lt_of_heap hbox
    have HBOX := Lib.hid hbox
    obtain ⟨c0, c1, c2, c3, c4, c5, c6, c7, c8, c9⟩ := box_cells hbox
    clear hb HF HA hbox
    go_wp2_with fail
    refine (HFREE.out w1 HB1.out).mono ?_
    rintro x w2 ⟨rfl, hb⟩
    have HB2 := Lib.hid (HB1.out.trans (hb.mono HB1.out.size))
    have hbox2 : w2.heap[w.heap.size]? = some (.cells e.cells.toArray 32 (0, 0)) := (hb.block _ hsz).trans HBOX.out
    clear c0 c1 c2 c3 c4 c5 c6 c7 c8 c9 hb HB1 HBOX hsz
    obtain ⟨c0, c1, c2, c3, c4, c5, c6, c7, c8, c9⟩ := box_cells hbox2
    have g6 := (HSENT.out.of_below HB2.out).c6
    clear hbox2
    go_wp2_with fail
    refine (wrap_some _ e.line _ _ _).mono ?_
    rintro x w3 ⟨rfl, hb⟩
    have HB3 := Lib.hid (HB2.out.trans (hb.mono HB2.out.size))
    clear hb
    go_wp2
    go_ret
    exact ⟨rfl, HB3.out⟩
set_option maxRecDepth 100000 in
set_option maxHeartbeats 8000000 in
theorem put_out (a : Nat) (w : World) (ad : Nat → Addr) (HSE : Sents w ad) (e : Ent) (x0 : Int) (hf : ∀ o, Calls Tryd.prog 48 #[.pointer (some ⟨a, 0, none⟩), .int .i64 e.line] (w.alloc o) fun r w' => r = .returned (.tuple #[.pointer none, .int .i64 x0]) ∧ Below (w.alloc o).heap.size (w.alloc o) w') :
    Calls Tryd.prog 15 #[.pointer (some ⟨a, 0, none⟩), e.val] w fun x w' => x = .returned (sayPut e.line (ad 1)) ∧ Below w.heap.size w w' := by
  have hA : ∀ o, Below w.heap.size w (w.alloc o) := fun o => (Below.refl _ _).alloc (Nat.le_refl _) _
  have HA := Lib.hid hA
  have HF := Lib.hid hf
  have HSENT := Lib.hid HSE
  clear hA hf HSE
  simp only [Ent.val]
  have hone : True := trivial
  all_goals
    go_enter Tryd.func15, Tryd.ntmps15
    go_wp2_with fail
    refine (HF.out _).mono ?_
    rintro x w1 ⟨rfl, hb⟩
    have HB1 := Lib.hid ((HA.out _).trans (hb.mono (HA.out _).size))
    have hbox : w1.heap[w.heap.size]? = some (.cells e.cells.toArray 32 (0, 0)) := by
      rw [hb.block _ (by simp)]
      exact heap_alloc_new _ _
    obtain ⟨c0, c1, c2, c3, c4, c5, c6, c7, c8, c9⟩ := box_cells hbox
    have g1 := (HSENT.out.of_below HB1.out).c1
    clear hb HF HA hbox
    go_wp2_with fail
    refine (wrap_some _ e.line _ _ _).mono ?_
    rintro x w3 ⟨rfl, hb⟩
    have HB3 := Lib.hid (HB1.out.trans (hb.mono HB1.out.size))
    clear hb
    go_wp2
    go_ret
    exact ⟨rfl, HB3.out⟩
set_option maxRecDepth 100000 in
set_option maxHeartbeats 8000000 in
theorem put_wrong (a : Nat) (w : World) (ad : Nat → Addr) (HSE : Sents w ad) (e : Ent) (q : Addr) (x0 : Int) (hf : ∀ o, Calls Tryd.prog 48 #[.pointer (some ⟨a, 0, none⟩), .int .i64 e.line] (w.alloc o) fun r w' => r = .returned (.tuple #[.pointer (some q), .int .i64 x0]) ∧ Below (w.alloc o).heap.size (w.alloc o) w') (hr : rightE e = false) :
    Calls Tryd.prog 15 #[.pointer (some ⟨a, 0, none⟩), e.val] w fun x w' => x = .returned (sayPut e.line (ad 1)) ∧ Below w.heap.size w w' := by
  have hA : ∀ o, Below w.heap.size w (w.alloc o) := fun o => (Below.refl _ _).alloc (Nat.le_refl _) _
  have HA := Lib.hid hA
  have HF := Lib.hid hf
  have HSENT := Lib.hid HSE
  clear hA hf HSE
  simp only [Ent.val]
  have hr' : ¬ (1 ≤ e.state ∧ e.state ≤ 4 ∧ 0 ≤ e.mode ∧ e.mode ≤ 3 ∧ 0 ≤ e.epoch ∧ e.epoch ≤ 255) := by simpa [rightE] using hr
  clear hr
  have hcase : (e.state < 1) ∨ (¬ e.state < 1 ∧ 4 < e.state) ∨ (¬ e.state < 1 ∧ ¬ 4 < e.state ∧ e.mode < 0) ∨ (¬ e.state < 1 ∧ ¬ 4 < e.state ∧ ¬ e.mode < 0 ∧ 3 < e.mode) ∨ (¬ e.state < 1 ∧ ¬ 4 < e.state ∧ ¬ e.mode < 0 ∧ ¬ 3 < e.mode ∧ e.epoch < 0) ∨ (¬ e.state < 1 ∧ ¬ 4 < e.state ∧ ¬ e.mode < 0 ∧ ¬ 3 < e.mode ∧ ¬ e.epoch < 0 ∧ 255 < e.epoch) := by omega
  clear hr'
  rcases hcase with f1 | ⟨f1, f2⟩ | ⟨f1, f2, f3⟩ | ⟨f1, f2, f3, f4⟩ | ⟨f1, f2, f3, f4, f5⟩ | ⟨f1, f2, f3, f4, f5, f6⟩
  all_goals
    go_enter Tryd.func15, Tryd.ntmps15
    go_wp2_with fail
    refine (HF.out _).mono ?_
    rintro x w1 ⟨rfl, hb⟩
    have HB1 := Lib.hid ((HA.out _).trans (hb.mono (HA.out _).size))
    have hbox : w1.heap[w.heap.size]? = some (.cells e.cells.toArray 32 (0, 0)) := by
      rw [hb.block _ (by simp)]
      exact heap_alloc_new _ _
    obtain ⟨c0, c1, c2, c3, c4, c5, c6, c7, c8, c9⟩ := box_cells hbox
    have g1 := (HSENT.out.of_below HB1.out).c1
    clear hb HF HA hbox
    go_wp2_with fail
    refine (wrap_some _ e.line _ _ _).mono ?_
    rintro x w3 ⟨rfl, hb⟩
    have HB3 := Lib.hid (HB1.out.trans (hb.mono HB1.out.size))
    clear hb
    go_wp2
    go_ret
    exact ⟨rfl, HB3.out⟩
end Go.Proofs.YtjnoaidceddpjaaDoor
