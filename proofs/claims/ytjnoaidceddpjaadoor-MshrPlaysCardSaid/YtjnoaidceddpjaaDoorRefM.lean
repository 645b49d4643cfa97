/- The reference's table of misses: New, Get, Add, Drop. -/
import Derived.Test.YtjnoaidceddpjaaDoorMshrK
import Derived.Test.YtjnoaidceddpjaaDoorHeldG
import Derived.Deep.Cut
namespace Go.Proofs.YtjnoaidceddpjaaDoor
open Go.RowKit Go.Extern.Stop Go.Stop Go.Extern

/-- The reference's misses lie behind a slice. -/
def RRow (w : World) (v : Value) (l : List (Int × Int)) : Prop := w.ownsRow 0 90 2 v l.length (missCells l)
theorem RRow.cells {w : World} {v : Value} {l : List (Int × Int)} (h : RRow w v l) : (v = .slice none 0 0 ∧ l = []) ∨ ∃ g cap, v = .slice (some ⟨g, 0, none⟩) l.length cap ∧ g < w.heap.size ∧ l.length ≤ cap ∧ ∀ j u, (missCells l)[j]? = some u → w.cell? ⟨g, j, none⟩ = some u := by
  rcases h.2 with ⟨h1, h2⟩ | ⟨g, cap, cur, hv, hg, hh, h1, h2, h3, h4⟩
  · exact .inl ⟨h1, List.length_eq_zero_iff.1 h2⟩
  · refine .inr ⟨g, cap, hv, lt_of_heap hh, h1, fun j u hu => ?_⟩
    have hj := (List.getElem?_eq_some_iff.1 hu).1
    rw [missCells_length] at hj
    rw [← h4, List.getElem?_take_of_lt hj] at hu
    simp [World.cell?, hh]
    simpa using hu
theorem owns_of_block {w w' : World} {base : Nat} {e : TypeId} {size : Nat} {v : Value} {n : Nat} {xs : List Value} (h : w.ownsRow base e size v n xs) (hg : ∀ k, v.ownBlock = some k → w'.heap[k]? = w.heap[k]?) : w'.ownsRow base e size v n xs := by
  refine ⟨h.1, ?_⟩
  rcases h.2 with hn | ⟨g, cap, cur, rfl, hb, hgg, rest⟩
  · exact .inl hn
  · exact .inr ⟨g, cap, cur, rfl, hb, by rw [hg g (by simp [Value.ownBlock])]; exact hgg, rest⟩
theorem owns_lt {w : World} {base : Nat} {e : TypeId} {size : Nat} {v : Value} {n : Nat} {xs : List Value} (h : w.ownsRow base e size v n xs) {k : Nat} (hk : v.ownBlock = some k) : k < w.heap.size := by
  rcases h.2 with ⟨rfl, _⟩ | ⟨g, cap, cur, rfl, hb, hgg, rest⟩
  · simp [Value.ownBlock] at hk
  · simp [Value.ownBlock] at hk
    subst hk
    exact lt_of_heap hgg
theorem owns_below {w w' : World} {base : Nat} {e : TypeId} {size : Nat} {v : Value} {n : Nat} {xs : List Value} (h : w.ownsRow base e size v n xs) (hb : Below w.heap.size w w') : w'.ownsRow base e size v n xs :=
  owns_of_block h fun k hk => hb.block k (owns_lt h hk)
/-- The reference's table at r. -/
structure RefM (w : World) (r most : Nat) (l : List (Int × Int)) (v : Value) : Prop where
  box : w.heap[r]? = some (.cells #[.int .i64 (most : Nat), v] 88 (0, 0))
  row : RRow w v l
  ne : v.ownBlock ≠ some r
  few : l.length ≤ 1000
theorem RefM.of_same {w w' : World} {r most : Nat} {l : List (Int × Int)} {v : Value} (h : RefM w r most l v) (hs : ∀ q, q = r ∨ v.ownBlock = some q → w'.heap[q]? = w.heap[q]?) : RefM w' r most l v :=
  ⟨(hs r (.inl rfl)).trans h.box, owns_of_block h.row fun k hk => hs k (.inr hk), h.ne, h.few⟩
theorem RefM.lt {w : World} {r most : Nat} {l : List (Int × Int)} {v : Value} (h : RefM w r most l v) {q : Nat} (hq : q = r ∨ v.ownBlock = some q) : q < w.heap.size := by
  rcases hq with rfl | hq
  · exact lt_of_heap h.box
  · exact owns_lt h.row hq
theorem RefM.below {w w' : World} {r most : Nat} {l : List (Int × Int)} {v : Value} (h : RefM w r most l v) (hb : Below w.heap.size w w') : RefM w' r most l v := h.of_same fun q hq => hb.block q (h.lt hq)
theorem RefM.aside {w w' : World} {r most : Nat} {l : List (Int × Int)} {v : Value} (h : RefM w r most l v) {T : Nat → Prop} (hT : Turned T w w') (hd : ∀ q, T q → ¬ (q = r ∨ v.ownBlock = some q)) : RefM w' r most l v := h.of_same fun q hq => hT.block q (h.lt hq) fun e => hd q e hq
theorem RefM.c0 {w : World} {r most : Nat} {l : List (Int × Int)} {v : Value} (h : RefM w r most l v) : w.cell? ⟨r, 0, none⟩ = some (.int .i64 (most : Nat)) := by simp [World.cell?, h.box]
theorem RefM.c1 {w : World} {r most : Nat} {l : List (Int × Int)} {v : Value} (h : RefM w r most l v) : w.cell? ⟨r, 1, none⟩ = some v := by simp [World.cell?, h.box]
theorem has_step (line : Int) (l : List (Int × Int)) (i : Nat) (m : Int × Int) (h : l[i]? = some m) : has line (l.drop i) = (m.1 == line || has line (l.drop (i + 1))) := by
  have hi := (List.getElem?_eq_some_iff.1 h)
  rw [List.drop_eq_getElem_cons hi.1, hi.2]; rfl
theorem kind_step (line : Int) (l : List (Int × Int)) (i : Nat) (m : Int × Int) (h : l[i]? = some m) : kindOf line (l.drop i) = if m.1 == line then m.2 else kindOf line (l.drop (i + 1)) := by
  have hi := (List.getElem?_eq_some_iff.1 h)
  rw [List.drop_eq_getElem_cons hi.1, hi.2]; rfl
set_option maxRecDepth 100000 in
set_option maxHeartbeats 1000000 in
theorem rnewM_ok (most : Nat) (w : World) (h1 : 1 ≤ most) (h2 : most ≤ 8) :
    Calls Tryd.prog 40 #[.int .i64 most] w fun e w' => e = .returned (.tuple #[.pointer (some ⟨w.heap.size, 0, none⟩), .int .i64 0]) ∧ RefM w' w.heap.size most [] (.slice none 0 0) ∧ Below w.heap.size w w' := by
  go_enter Tryd.func40, Tryd.ntmps40
  go_wp2
  go_ret2
  exact ⟨rfl, ⟨heap_alloc_new _ _, World.ownsRow_nil _ _ _ _, by simp [Value.ownBlock], by simp⟩, (Below.refl _ _).alloc (Nat.le_refl _) _⟩
set_option maxRecDepth 100000 in
set_option maxHeartbeats 1000000 in
theorem rnewM_no (most : Int) (w : World) (h : most < 1 ∨ 8 < most) :
    Calls Tryd.prog 40 #[.int .i64 most] w fun e w' => e = .returned (.tuple #[.pointer none, .int .i64 1]) ∧ w' = w := by
  rcases h with h | h
  all_goals
    go_enter Tryd.func40, Tryd.ntmps40
    go_wp2
    go_ret2
    exact ⟨rfl, rfl⟩
theorem below_store {w w' : World} (h : Below w.heap.size w w') {T : TypeId} {cs ds : Array Value} : Below w.heap.size w ((w'.alloc (.cells cs T)).setRow w'.heap.size ds) := below_setRow (h.alloc h.size _) h.size ds
set_option maxRecDepth 100000 in
set_option maxHeartbeats 4000000 in
theorem rgetM (r most : Nat) (l : List (Int × Int)) (v : Value) (line : Int) (w : World) (h : RefM w r most l v) :
    Calls Tryd.prog 43 #[.pointer (some ⟨r, 0, none⟩), .int .i64 line] w fun e w' => e = .returned (.tuple #[.int .i64 (kindOf line l), .bool (has line l)]) ∧ Below w.heap.size w w' := by
  have c0 := h.c0
  have c1 := h.c1
  have few := h.few
  rcases h.row.cells with ⟨rfl, rfl⟩ | ⟨g, cap, rfl, hg, hlc, hc⟩
  · clear h
    go_enter Tryd.func43, Tryd.ntmps43
    go_wp2
    refine wp_loop_rounds 1 ?_
    rw [rounds_succ]
    go_wp2
    go_ret2
    exact ⟨rfl, Below.refl _ _⟩
  · have HC := Lib.hid hc
    clear h hc
    go_enter Tryd.func43, Tryd.ntmps43
    go_wp2_with fail
    go_loopw [13] (fun v wr => ∃ i : Nat, i ≤ l.length ∧ v = .int .i64 i ∧ Hid (has line l = has line (l.drop i)) ∧ Hid (kindOf line l = kindOf line (l.drop i)) ∧ Hid (Below w.heap.size w wr)) (fun v _ => l.length - (intOf v).toNat)
    case atStart => exact ⟨0, by omega, rfl, rfl, rfl, Below.refl _ _⟩
    case round =>
      obtain ⟨i, hi, rfl, hp, hk, hbel⟩ := hrel
      by_cases hlt : i < l.length
      · obtain ⟨⟨x, y⟩, hxy⟩ : ∃ m, l[i]? = some m := ⟨_, List.getElem?_eq_getElem hlt⟩
        have hst := Lib.hid (has_step line l i (x, y) hxy)
        have hkt := Lib.hid (kind_step line l i (x, y) hxy)
        have d0 := HC.out _ _ (missCells_get l i _ hxy).1
        have d1 := HC.out _ _ (missCells_get l i _ hxy).2
        have e0 := (hbel.out.cell (cell_lt d0)).trans d0
        have e1 := (hbel.out.cell (cell_lt d1)).trans d1
        have er := (hbel.out.cell (cell_lt c1)).trans c1
        have es := (hbel.out.cell (cell_lt c0)).trans c0
        clear hxy d0 d1
        by_cases hx : x = line
        · subst hx
          have hh : Hid (has x l = true) := by
            show _ = _
            rw [hp.out, hst.out]
            simp
          have hkk : Hid (kindOf x l = y) := by
            show _ = _
            rw [hk.out, hkt.out]
            simp
          go_wp2_with fail
          go_ret2
          exact ⟨by rw [hh.out, hkk.out]; rfl, hbel.out.alloc hbel.out.size _⟩
        · have hx' : (x == line) = false := by simpa using hx
          have hp2 : Hid (has line l = has line (l.drop (i + 1))) := by
            show _ = _
            rw [hp.out, hst.out]
            simp [hx']
          have hk2 : Hid (kindOf line l = kindOf line (l.drop (i + 1))) := by
            show _ = _
            rw [hk.out, hkt.out]
            simp [hx']
          go_wp2_with fail
          go_roundw
          case rel => exact ⟨i + 1, by omega, by go_num, hp2, hk2, hbel.out.alloc hbel.out.size _⟩
          case measure => simp [intOf]; omega
      · have hil : i = l.length := by omega
        have hh : Hid (has line l = false) := by
          show _ = _
          rw [hp.out, hil, List.drop_length]
          rfl
        have hkk : Hid (kindOf line l = 0) := by
          show _ = _
          rw [hk.out, hil, List.drop_length]
          rfl
        subst hil
        go_wp2_with fail
        go_ret2
        exact ⟨by rw [hh.out, hkk.out]; rfl, hbel.out⟩

set_option maxRecDepth 100000 in
set_option maxHeartbeats 4000000 in
theorem raddM_arg (r : Nat) (line kind : Int) (w : World) (h : line < 0 ∨ 32 ≤ line ∨ kind < 1 ∨ 4 < kind) :
    Calls Tryd.prog 41 #[.pointer (some ⟨r, 0, none⟩), .int .i64 line, .int .i64 kind] w fun e w' => e = .returned (.int .i64 1) ∧ w' = w := by
  by_cases f0 : line < 0
  · clear h
    go_enter Tryd.func41, Tryd.ntmps41
    go_wp2
    go_ret
    exact ⟨rfl, rfl⟩
  by_cases f1 : 32 ≤ line
  · clear h
    go_enter Tryd.func41, Tryd.ntmps41
    go_wp2
    go_ret
    exact ⟨rfl, rfl⟩
  by_cases f2 : kind < 1
  · clear h
    go_enter Tryd.func41, Tryd.ntmps41
    go_wp2
    go_ret
    exact ⟨rfl, rfl⟩
  have f3 : 4 < kind := by omega
  clear h
  go_enter Tryd.func41, Tryd.ntmps41
  go_wp2
  go_ret
  exact ⟨rfl, rfl⟩
set_option maxRecDepth 100000 in
set_option maxHeartbeats 8000000 in
theorem raddM_busy (r most : Nat) (l : List (Int × Int)) (v : Value) (line kind : Int) (w : World) (h : RefM w r most l v) (h1 : 0 ≤ line) (h2 : line < 32) (h3 : 1 ≤ kind) (h4 : kind ≤ 4) (hh : has line l = true) :
    Calls Tryd.prog 41 #[.pointer (some ⟨r, 0, none⟩), .int .i64 line, .int .i64 kind] w fun e w' => e = .returned (.int .i64 7) ∧ Below w.heap.size w w' := by
  have c0 := h.c0
  have c1 := h.c1
  have few := h.few
  have f0 : ¬ line < 0 := by omega
  have f1 : ¬ 32 ≤ line := by omega
  have f2 : ¬ kind < 1 := by omega
  have f3 : ¬ 4 < kind := by omega
  rcases h.row.cells with ⟨rfl, rfl⟩ | ⟨g, cap, rfl, hg, hlc, hc⟩
  · cases hh
  · have HC := Lib.hid hc
    have HH := Lib.hid hh
    clear h hc hh
    go_enter Tryd.func41, Tryd.ntmps41
    go_wp2_with fail
    go_loopw [29] (fun v wr => ∃ i : Nat, i ≤ l.length ∧ v = .int .i64 i ∧ Hid (has line l = has line (l.drop i)) ∧ Hid (Below w.heap.size w wr)) (fun v _ => l.length - (intOf v).toNat)
    case atStart => exact ⟨0, by omega, rfl, rfl, Below.refl _ _⟩
    case round =>
      obtain ⟨i, hi, rfl, hp, hbel⟩ := hrel
      by_cases hlt : i < l.length
      · obtain ⟨⟨x, y⟩, hxy⟩ : ∃ m, l[i]? = some m := ⟨_, List.getElem?_eq_getElem hlt⟩
        have hst := Lib.hid (has_step line l i (x, y) hxy)
        have hkt := Lib.hid (kind_step line l i (x, y) hxy)
        have d0 := HC.out _ _ (missCells_get l i _ hxy).1
        have d1 := HC.out _ _ (missCells_get l i _ hxy).2
        have e0 := (hbel.out.cell (cell_lt d0)).trans d0
        have e1 := (hbel.out.cell (cell_lt d1)).trans d1
        have er := (hbel.out.cell (cell_lt c1)).trans c1
        have es := (hbel.out.cell (cell_lt c0)).trans c0
        clear hxy d0 d1
        by_cases hx : x = line
        · subst hx
          go_wp2_with fail
          go_ret
          exact ⟨rfl, hbel.out.alloc hbel.out.size _⟩
        · have hx' : (x == line) = false := by simpa using hx
          have hp2 : Hid (has line l = has line (l.drop (i + 1))) := by
            show _ = _
            rw [hp.out, hst.out]
            simp [hx']
          go_wp2_with fail
          go_roundw
          case rel => exact ⟨i + 1, by omega, by go_num, hp2, hbel.out.alloc hbel.out.size _⟩
          case measure => simp [intOf]; omega
      · have hil : i = l.length := by omega
        exact absurd HH.out (by rw [hp.out, hil, List.drop_length]; simp [has])
set_option maxRecDepth 100000 in
set_option maxHeartbeats 8000000 in
theorem raddM_full (r most : Nat) (l : List (Int × Int)) (v : Value) (line kind : Int) (w : World) (h : RefM w r most l v) (h1 : 0 ≤ line) (h2 : line < 32) (h3 : 1 ≤ kind) (h4 : kind ≤ 4) (hh : has line l = false) (hf : most ≤ l.length) :
    Calls Tryd.prog 41 #[.pointer (some ⟨r, 0, none⟩), .int .i64 line, .int .i64 kind] w fun e w' => e = .returned (.int .i64 6) ∧ Below w.heap.size w w' := by
  have c0 := h.c0
  have c1 := h.c1
  have few := h.few
  have f0 : ¬ line < 0 := by omega
  have f1 : ¬ 32 ≤ line := by omega
  have f2 : ¬ kind < 1 := by omega
  have f3 : ¬ 4 < kind := by omega
  rcases h.row.cells with ⟨rfl, rfl⟩ | ⟨g, cap, rfl, hg, hlc, hc⟩
  · have hm : most = 0 := by simpa using hf
    clear h hh hf
    subst hm
    go_enter Tryd.func41, Tryd.ntmps41
    go_wp2
    refine wp_loop_rounds 1 ?_
    rw [rounds_succ]
    go_wp2
    go_quiet (fail)
    go_wp2
    go_ret
    exact ⟨rfl, below_drewN _ _ _⟩
  · have HC := Lib.hid hc
    have HH := Lib.hid hh
    clear h hc hh
    go_enter Tryd.func41, Tryd.ntmps41
    go_wp2_with fail
    go_loopw [29] (fun v wr => ∃ i : Nat, i ≤ l.length ∧ v = .int .i64 i ∧ Hid (has line l = has line (l.drop i)) ∧ Hid (Below w.heap.size w wr)) (fun v _ => l.length - (intOf v).toNat)
    case atStart => exact ⟨0, by omega, rfl, rfl, Below.refl _ _⟩
    case round =>
      obtain ⟨i, hi, rfl, hp, hbel⟩ := hrel
      by_cases hlt : i < l.length
      · obtain ⟨⟨x, y⟩, hxy⟩ : ∃ m, l[i]? = some m := ⟨_, List.getElem?_eq_getElem hlt⟩
        have hst := Lib.hid (has_step line l i (x, y) hxy)
        have hkt := Lib.hid (kind_step line l i (x, y) hxy)
        have d0 := HC.out _ _ (missCells_get l i _ hxy).1
        have d1 := HC.out _ _ (missCells_get l i _ hxy).2
        have e0 := (hbel.out.cell (cell_lt d0)).trans d0
        have e1 := (hbel.out.cell (cell_lt d1)).trans d1
        have er := (hbel.out.cell (cell_lt c1)).trans c1
        have es := (hbel.out.cell (cell_lt c0)).trans c0
        clear hxy d0 d1
        by_cases hx : x = line
        · subst hx
          exact absurd (hp.out.symm.trans HH.out) (by rw [hst.out]; simp)
        · have hx' : (x == line) = false := by simpa using hx
          have hp2 : Hid (has line l = has line (l.drop (i + 1))) := by
            show _ = _
            rw [hp.out, hst.out]
            simp [hx']
          go_wp2_with fail
          go_roundw
          case rel => exact ⟨i + 1, by omega, by go_num, hp2, hbel.out.alloc hbel.out.size _⟩
          case measure => simp [intOf]; omega
      · have hil : i = l.length := by omega
        subst hil
        have er := (hbel.out.cell (cell_lt c1)).trans c1
        have es := (hbel.out.cell (cell_lt c0)).trans c0
        have hf' : (most : Int) ≤ (l.length : Int) := by omega
        go_wp2_with fail
        go_quiet (fail)
        go_wp2
        go_ret
        exact ⟨rfl, hbel.out.trans ((below_drewN _ _ _).mono (Nat.le_refl _) |>.mono hbel.out.size)⟩
theorem held_of {w W : World} {r : Nat} {v : Value} (hb : Below w.heap.size w W) (c1 : w.cell? ⟨r, 1, none⟩ = some v) : W.cell? ⟨r, 1, none⟩ = some v := (hb.cell (cell_lt c1)).trans c1
theorem below_grown {B : Nat} {w W W' : World} {row : Option Nat} (h : Below B w W) (g : W.grownBy W' row) (hB : B ≤ W.heap.size) (hr : ∀ k, row = some k → B ≤ k) : Below B w W' :=
  h.trans ⟨g.os, g.tape, g.output, g.size, fun k hk => g.block k (by omega) fun e => by
    have := hr k e.symm
    omega⟩
theorem own_ge {w : World} {base : Nat} {e : TypeId} {size : Nat} {v : Value} {n : Nat} {xs : List Value} (h : w.ownsRow base e size v n xs) : ∀ k, v.ownBlock = some k → base ≤ k := by
  intro k hk
  rcases h.2 with ⟨rfl, _⟩ | ⟨g, cap, cur, rfl, hb, hgg, rest⟩
  · simp [Value.ownBlock] at hk
  · simp [Value.ownBlock] at hk
    subst hk
    exact hb
theorem grown_keep {W W' : World} {row : Option Nat} {b : Nat} {x : Obj} (hg : W.grownBy W' row) (hN : W.heap[b]? = some x) (hne : row ≠ some b) : W'.heap[b]? = some x := by
  rw [hg.block b (lt_of_heap hN) (fun e => hne e.symm)]; exact hN
theorem own_ne_after {W : World} {v v' : Value} {b : Nat} (ho : v'.ownBlock = v.ownBlock ∨ v'.ownBlock = some W.heap.size) (hne : v.ownBlock ≠ some b) (hlt : b < W.heap.size) : v'.ownBlock ≠ some b := by
  rcases ho with h | h
  · rw [h]; exact hne
  · rw [h]; intro e; injection e with e; omega
theorem own_some_after {W : World} {v v' : Value} (ho : v'.ownBlock = v.ownBlock ∨ v'.ownBlock = some W.heap.size) (hne : v.ownBlock ≠ none) : v'.ownBlock ≠ none := by
  rcases ho with h | h
  · rw [h]; exact hne
  · rw [h]; exact fun e => by cases e
theorem step_append_own {P : Program} {ops : Array Oper} {o : Oper} {a : Act} {w : World} {K : Act → World → Prop} {Q : Exit → Act → World → Prop} {E : Prop}
    (hg : o.guard = none) (s x : Operand) (t : TypeId) (hop : o.op = Op.call { callee := Callee.builtin Builtin.append, args := #[s, x], argTypes := #[t, t] })
    (base : Nat) (e : TypeId) (i : TypeInfo) (z : Value) (size bytes : Nat) (ht : P.underlying t = some (.slice e)) (hi : P.info? e = some i) (hz : i.zero = some z)
    (hsize : i.size = size) (hby : i.bytes = bytes) (hzs : z.cells.size = size) (hsz : 0 < size)
    (v : Value) (n : Nat) (xs : List Value) (hs : a.eval s = v) (hown : w.ownsRow base e size v n xs)
    (ad : Addr) (m c : Nat) (news : List Value) (hx : a.eval x = .slice (some ad) m c) (hl : news.length = m * size) (hnews : ∀ j u, news[j]? = some u → w.cell? (ad.add j) = some u) (h1 : ∀ u ∈ news, u.oneCell' = true)
    (h63 : n + m ≤ maxLen) (hbytes : (n + m) * bytes ≤ 140737488355328) (hbase : base ≤ w.heap.size)
    (h : ∀ v' w', w'.ownsRow base e size v' (n + m) (xs ++ news) → w.grownBy w' v.ownBlock → (v'.ownBlock = v.ownBlock ∨ v'.ownBlock = some w.heap.size) → K (a.put o.dst v') w') :
    if Region.wanted o (yielded ops a.tmps) = true then Oper.wp P o a w K Q else E := by
  have hw : Region.wanted o (yielded ops a.tmps) = true := by simp [Region.wanted, hg]
  rw [if_pos hw]
  obtain ⟨v', w', hr, h2, h3, h4, h5⟩ := run_append_own_at (P := P) w base t o.type e i z size bytes ht hi hz hsize hby hzs hsz v n xs hown ad m c news hl hnews h1 h63 hbytes hbase
  unfold Oper.wp execOp
  simp only [hop, resolve, invoke, builtin, Sem.run_bind, Sem.run_pure, Result.andThen_ok, List.map_toArray, List.map_cons, List.map_nil, hs, hx, hr]
  exact h v' w' h2 h3 h5
theorem step_append_nil {P : Program} {ops : Array Oper} {o : Oper} {a : Act} {w : World} {K : Act → World → Prop} {Q : Exit → Act → World → Prop} {E : Prop}
    (hg : o.guard = none) (s x : Operand) (t : TypeId) (hop : o.op = Op.call { callee := Callee.builtin Builtin.append, args := #[s, x], argTypes := #[t, t] })
    (base : Nat) (e : TypeId) (i : TypeInfo) (size : Nat) (ht : P.underlying t = some (.slice e)) (hi : P.info? e = some i) (v : Value) (n : Nat) (xs : List Value) (hs : a.eval s = v) (hown : w.ownsRow base e size v n xs) (hx : a.eval x = .slice none 0 0)
    (h : K (a.put o.dst v) w) :
    if Region.wanted o (yielded ops a.tmps) = true then Oper.wp P o a w K Q else E := by
  have hw : Region.wanted o (yielded ops a.tmps) = true := by simp [Region.wanted, hg]
  rw [if_pos hw]
  have hr : (Builtin.append_ #[t, t] o.type #[v, .slice none 0 0]).run P w = .ok v w := by
    rcases hown.2 with ⟨rfl, rfl⟩ | ⟨g, cap, cur, rfl, hb, hgg, h1, rest⟩
    · simp [Builtin.append_, run_underlying ht, sizeOf, typeInfo, hi, Builtin.lenOf, Builtin.firstCells]
    · simp [Builtin.append_, run_underlying ht, sizeOf, typeInfo, hi, Builtin.lenOf, Builtin.firstCells, loadCells, h1, storeCells, Addr.add_lit]
  unfold Oper.wp execOp
  simp only [hop, resolve, invoke, builtin, Sem.run_bind, Sem.run_pure, Result.andThen_ok, List.map_toArray, List.map_cons, List.map_nil, hs, hx, hr]
  exact h
theorem Tryd.infoRMiss : (Tryd.prog.info? 90).map (fun i => (i.zero, i.size, i.bytes)) = some (some (.agg #[.int .i64 0, .int .i64 0]), 2, 16) := by kernel_rfl
theorem RRow.of_owns {w : World} {v : Value} {l : List (Int × Int)} {base n : Nat} {xs : List Value} (h : w.ownsRow base 90 2 v n xs) (hn : n = l.length) (hx : xs = missCells l) : RRow w v l := by
  subst hn
  subst hx
  refine ⟨h.1, ?_⟩
  rcases h.2 with hn | ⟨g, cap, cur, hv, hb, rest⟩
  · exact .inl hn
  · exact .inr ⟨g, cap, cur, hv, Nat.zero_le _, rest⟩
end Go.Proofs.YtjnoaidceddpjaaDoor
