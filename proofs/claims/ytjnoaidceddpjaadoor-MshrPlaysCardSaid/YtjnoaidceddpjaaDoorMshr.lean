/- The table of misses (package mshr): what each call answers and leaves. -/
import Derived.Test.YtjnoaidceddpjaaDoorBase
import Derived.Laws.AppendOwn
import Derived.Laws.OwnMore
import Derived.Laws.MakeOwn
import Derived.Deep.LoopGhost
namespace Go.Proofs.YtjnoaidceddpjaaDoor
open Go.RowKit Go.Extern.Stop Go.Stop Go.Extern

/-- The cells of misses. -/
def missCells (l : List (Int × Int)) : List Value := l.flatMap fun m => [.int .i64 m.1, .int .i64 m.2]
theorem missCells_length (l : List (Int × Int)) : (missCells l).length = l.length * 2 := by
  induction l with
  | nil => rfl
  | cons a l ih => simp [missCells] at ih ⊢; omega
theorem missCells_get (l : List (Int × Int)) : ∀ (i : Nat) (m : Int × Int), l[i]? = some m → (missCells l)[i * 2]? = some (.int .i64 m.1) ∧ (missCells l)[i * 2 + 1]? = some (.int .i64 m.2) := by
  induction l with
  | nil => intro i m h; simp at h
  | cons a l ih =>
    intro i m h
    cases i with
    | zero => simp at h; subst h; simp [missCells]
    | succ i =>
      simp at h
      have := ih i m h
      simpa [missCells, Nat.add_mul] using this
/-- The misses lie behind a slice. -/
def MissRow (w : World) (v : Value) (l : List (Int × Int)) : Prop := w.ownsRow 0 91 2 v l.length (missCells l)
theorem MissRow.cells {w : World} {v : Value} {l : List (Int × Int)} (h : MissRow w v l) : (v = .slice none 0 0 ∧ l = []) ∨ ∃ g cap, v = .slice (some ⟨g, 0, none⟩) l.length cap ∧ ∀ i m, l[i]? = some m → w.cell? ⟨g, i * 2, none⟩ = some (.int .i64 m.1) ∧ w.cell? ⟨g, i * 2 + 1, none⟩ = some (.int .i64 m.2) := by
  rcases h.2 with ⟨h1, h2⟩ | ⟨g, cap, cur, hv, hg, hh, h1, h2, h3, h4⟩
  · exact .inl ⟨h1, List.length_eq_zero_iff.1 h2⟩
  · refine .inr ⟨g, cap, hv, fun i m hm => ?_⟩
    have hc := missCells_get l i m hm
    have hi : i < l.length := (List.getElem?_eq_some_iff.1 hm).1
    have key : ∀ j u, j < l.length * 2 → (missCells l)[j]? = some u → w.cell? ⟨g, j, none⟩ = some u := by
      intro j u hj hu
      rw [← h4, List.getElem?_take_of_lt hj] at hu
      simp [World.cell?, hh]
      simpa using hu
    exact ⟨key _ _ (by omega) hc.1, key _ _ (by omega) hc.2⟩

set_option maxRecDepth 100000 in
/-- The question of known: is it that line's? -/
theorem known1 (x y line : Int) (b : Nat) (w : World) (hb : w.cell? ⟨b, 0, none⟩ = some (.int .i64 line)) :
    Calls Tryd.prog 83 #[.agg #[.int .i64 x, .int .i64 y], .pointer (some ⟨b, 0, none⟩)] w fun e w' => e = .returned (.bool (x == line)) ∧ Below w.heap.size w w' := by
  have hlt := cell_lt hb
  have hb1 : ∀ o, (w.alloc o).cell? ⟨b, 0, none⟩ = some (.int .i64 line) := fun o => by rw [World.cell?_alloc_lt _ _ _ hlt]; exact hb
  go_enter Tryd.func83, Tryd.ntmps83
  go_wp2
  go_ret
  exact ⟨rfl, (Below.refl _ _).alloc (Nat.le_refl _) _⟩

/-- Where a line's miss stands; -1: nowhere. -/
def place (line : Int) : List (Int × Int) → Nat → Int
  | [], _ => -1
  | m :: l, i => if m.1 == line then (i : Int) else place line l (i + 1)
theorem place_step (line : Int) (l : List (Int × Int)) (i : Nat) (m : Int × Int) (h : l[i]? = some m) : place line (l.drop i) i = if m.1 == line then (i : Int) else place line (l.drop (i + 1)) (i + 1) := by
  have hi := (List.getElem?_eq_some_iff.1 h)
  rw [List.drop_eq_getElem_cons hi.1, hi.2]; rfl
set_option maxRecDepth 100000 in
set_option maxHeartbeats 2000000 in
theorem indexFunc (v : Value) (l : List (Int × Int)) (line : Int) (b : Nat) (w : World) (hv : MissRow w v l) (hl : l.length ≤ 1000) (hb : w.cell? ⟨b, 0, none⟩ = some (.int .i64 line)) :
    Calls Tryd.prog 82 #[v, .func (.func 83) #[] #[.pointer (some ⟨b, 0, none⟩)]] w fun e w' => e = .returned (.int .i64 (place line l 0)) ∧ Below w.heap.size w w' := by
  rcases hv.cells with ⟨rfl, rfl⟩ | ⟨g, cap, rfl, hc⟩
  · go_enter Tryd.func82, Tryd.ntmps82
    go_wp2
    refine wp_loop_rounds 1 ?_
    rw [rounds_succ]
    go_wp2
    go_ret
    exact ⟨rfl, Below.refl _ _⟩
  · have hblt := cell_lt hb
    have Hc := Lib.hid hc
    have Hv := Lib.hid hv
    clear hc hv
    go_enter Tryd.func82, Tryd.ntmps82
    go_wp2
    go_loopw [8] (fun v wr => ∃ i : Nat, i ≤ l.length ∧ v = .int .i64 i ∧ Hid (place line l 0 = place line (l.drop i) i) ∧ Hid (Below w.heap.size w wr)) (fun v _ => l.length - (intOf v).toNat)
    case atStart => exact ⟨0, by omega, rfl, rfl, Below.refl _ _⟩
    case round =>
      obtain ⟨i, hi, rfl, hp, hbel⟩ := hrel
      by_cases hlt : i < l.length
      · have hm := List.getElem?_eq_getElem hlt
        obtain ⟨⟨x, y⟩, hxy⟩ : ∃ m, l[i]? = some m := ⟨_, hm⟩
        have hst := Lib.hid (place_step line l i (x, y) hxy)
        obtain ⟨d0, d1⟩ := Hc.out i _ hxy
        have e0 := (hbel.out.cell (cell_lt d0)).trans d0
        have e1 := (hbel.out.cell (cell_lt d1)).trans d1
        have eb := (hbel.out.cell hblt).trans hb
        clear hm hxy d0 d1
        by_cases hx : (x == line) = true
        · go_wp2_with fail
          refine (known1 x y line b _ eb).mono ?_
          rintro e w1 ⟨rfl, hb2⟩
          have hb3 : Hid (Below w.heap.size w w1) := hbel.out.trans (hb2.mono hbel.out.size)
          clear hb2
          go_wp2
          go_ret
          exact ⟨by rw [hp.out, hst.out]; simp [hx], hb3.out⟩
        · have hx' : (x == line) = false := by simpa using hx
          clear hx
          go_wp2_with fail
          refine (known1 x y line b _ eb).mono ?_
          rintro e w1 ⟨rfl, hb2⟩
          have hb3 : Hid (Below w.heap.size w w1) := hbel.out.trans (hb2.mono hbel.out.size)
          clear hb2
          go_wp2
          go_roundw
          case rel => exact ⟨i + 1, by omega, by go_num, (hp.out.trans hst.out).trans (by simp [hx']), hb3⟩
          case measure => simp [intOf]; omega
      · go_wp2
        go_ret
        refine ⟨?_, hbel.out⟩
        rw [hp.out, List.drop_of_length_le (by omega)]; rfl

/-- The table of misses at t: so many at most, these are under way; its list's slice is v. -/
structure TabAt (w : World) (t : Nat) (most : Nat) (l : List (Int × Int)) (v : Value) : Prop where
  box : w.heap[t]? = some (.cells #[.int .i64 most, v] 119 (0, 0))
  row : MissRow w v l
  ne : v.ownBlock ≠ some t
  few : l.length ≤ 1000
theorem MissRow.of_block {w w' : World} {v : Value} {l : List (Int × Int)} (h : MissRow w v l) (hg : ∀ k, v.ownBlock = some k → w'.heap[k]? = w.heap[k]?) : MissRow w' v l := by
  refine ⟨h.1, ?_⟩
  rcases h.2 with hn | ⟨g, cap, cur, rfl, hb, hgg, rest⟩
  · exact .inl hn
  · exact .inr ⟨g, cap, cur, rfl, hb, by rw [hg g (by simp [Value.ownBlock])]; exact hgg, rest⟩
theorem MissRow.lt {w : World} {v : Value} {l : List (Int × Int)} (h : MissRow w v l) {k : Nat} (hk : v.ownBlock = some k) : k < w.heap.size := by
  rcases h.2 with ⟨rfl, _⟩ | ⟨g, cap, cur, rfl, hb, hgg, rest⟩
  · simp [Value.ownBlock] at hk
  · simp [Value.ownBlock] at hk
    subst hk
    exact lt_of_heap hgg
theorem MissRow.below {w w' : World} {v : Value} {l : List (Int × Int)} (h : MissRow w v l) (hb : Below w.heap.size w w') : MissRow w' v l :=
  h.of_block (fun k hk => hb.block k (h.lt hk))
theorem TabAt.below {w w' : World} {t most : Nat} {l : List (Int × Int)} {v : Value} (h : TabAt w t most l v) (hb : Below w.heap.size w w') : TabAt w' t most l v :=
  ⟨by rw [hb.block t (lt_of_heap h.box)]; exact h.box, h.row.below hb, h.ne, h.few⟩
theorem TabAt.most_cell {w : World} {t most : Nat} {l : List (Int × Int)} {v : Value} (h : TabAt w t most l v) : w.cell? ⟨t, 0, none⟩ = some (.int .i64 most) := by simp [World.cell?, h.box]
theorem TabAt.list_cell {w : World} {t most : Nat} {l : List (Int × Int)} {v : Value} (h : TabAt w t most l v) : w.cell? ⟨t, 1, none⟩ = some v := by simp [World.cell?, h.box]
set_option maxRecDepth 100000 in
set_option maxHeartbeats 1000000 in
theorem known_is (t most : Nat) (l : List (Int × Int)) (v : Value) (line : Int) (w : World) (h : TabAt w t most l v) :
    Calls Tryd.prog 63 #[.pointer (some ⟨t, 0, none⟩), .int .i64 line] w fun e w' => e = .returned (.int .i64 (place line l 0)) ∧ Below w.heap.size w w' := by
  have hc := (h.below (w' := w.alloc (.cells #[.int .i64 line] 3)) ((Below.refl _ _).alloc (Nat.le_refl _) _))
  have h1 := hc.list_cell
  have hr := Lib.hid hc.row
  have hfew := h.few
  clear hc h
  go_enter Tryd.func63, Tryd.ntmps63
  go_wp2_with fail
  refine (indexFunc v l line w.heap.size _ hr.out hfew (by simp)).mono ?_
  rintro e w1 ⟨rfl, hb⟩
  have hb' : Hid (Below w.heap.size w w1) := ((Below.refl _ _).alloc (Nat.le_refl _) _).trans (hb.mono (by simp))
  go_wp2
  go_ret
  exact ⟨rfl, hb'.out⟩
set_option maxRecDepth 100000 in
/-- Full: are there most? -/
theorem full_is (t most : Nat) (l : List (Int × Int)) (v : Value) (w : World) (h : TabAt w t most l v) :
    Calls Tryd.prog 37 #[.pointer (some ⟨t, 0, none⟩)] w fun e w' => e = .returned (.bool (decide (most ≤ l.length))) ∧ ∃ n, w' = w.drewN n := by
  have h0 := h.most_cell
  have h1 := h.list_cell
  rcases h.row.cells with ⟨rfl, rfl⟩ | ⟨g, cap, rfl, hc⟩
  · clear h
    go_enter Tryd.func37, Tryd.ntmps37
    go_wp2
    go_quiet (fail)
    go_wp2
    go_ret
    refine ⟨by simp, _, rfl⟩
  · clear h hc
    go_enter Tryd.func37, Tryd.ntmps37
    go_wp2
    go_quiet (fail)
    go_wp2
    go_ret
    refine ⟨by simp, _, rfl⟩
/-- The kind of what is under way for a line; 0: nothing. -/
def kindOf (line : Int) : List (Int × Int) → Int
  | [] => 0
  | m :: l => if m.1 == line then m.2 else kindOf line l
def has (line : Int) : List (Int × Int) → Bool
  | [] => false
  | m :: l => m.1 == line || has line l
theorem place_get (line : Int) : ∀ (l : List (Int × Int)) (i : Nat), (has line l = false ∧ place line l i = -1 ∧ kindOf line l = 0) ∨ ∃ j : Nat, ∃ m, l[j]? = some m ∧ m.1 = line ∧ m.2 = kindOf line l ∧ place line l i = ((i + j : Nat) : Int) ∧ has line l = true := by
  intro l
  induction l with
  | nil => intro i; exact .inl ⟨rfl, rfl, rfl⟩
  | cons a l ih =>
    intro i
    by_cases h : (a.1 == line) = true
    · refine .inr ⟨0, a, rfl, by simpa using h, by simp [kindOf, h], by simp [place, h], by simp [has, h]⟩
    · have h' : (a.1 == line) = false := by simpa using h
      rcases ih (i + 1) with ⟨h1, h2, h3⟩ | ⟨j, m, hm, h1, h2, h3, h4⟩
      · exact .inl ⟨by simp [has, h', h1], by simp [place, h', h2], by simp [kindOf, h', h3]⟩
      · exact .inr ⟨j + 1, m, by simpa using hm, h1, by simpa [kindOf, h'] using h2, by simp only [place, h']; simp; rw [h3]; omega, by simp [has, h4]⟩
set_option maxRecDepth 100000 in
set_option maxHeartbeats 1000000 in
/-- Get: what is under way for a line. -/
theorem get_is (t most : Nat) (l : List (Int × Int)) (v : Value) (line : Int) (w : World) (h : TabAt w t most l v) :
    Calls Tryd.prog 36 #[.pointer (some ⟨t, 0, none⟩), .int .i64 line] w fun e w' => e = .returned (.tuple #[.int .i64 (kindOf line l), .bool (has line l)]) ∧ Below w.heap.size w w' := by
  rcases place_get line l 0 with ⟨h1, h2, h3⟩ | ⟨j, m, hm, h1, h2, h3, h4⟩
  · have hk := known_is t most l v line w h
    rw [h2] at hk
    have Hk := Lib.hid hk
    rw [h1, h3]
    clear hk h h1 h2 h3
    go_enter Tryd.func36, Tryd.ntmps36
    go_wp2_with fail
    refine (Hk.out).mono ?_
    rintro e w1 ⟨rfl, hb⟩
    have hb' := Lib.hid hb
    clear hb
    go_wp2
    go_ret2
    exact ⟨rfl, hb'.out⟩
  · have hk := known_is t most l v line w h
    rw [h3] at hk
    have Hk := Lib.hid hk
    have Hm := Lib.hid hm
    have Ht := Lib.hid h
    have hjl : j < l.length := (List.getElem?_eq_some_iff.1 hm).1
    have hfew := h.few
    rw [h4, ← h2]
    clear hk h h1 h2 h3 h4 hm
    go_enter Tryd.func36, Tryd.ntmps36
    go_wp2_with fail
    refine (Hk.out).mono ?_
    rintro e w1 ⟨rfl, hb⟩
    have T1 := Ht.out.below hb
    have d1 := T1.list_cell
    rcases T1.row.cells with ⟨_, rfl⟩ | ⟨g, cap, rfl, hc⟩
    · simp at hjl
    · obtain ⟨e0, e1⟩ := hc j m Hm.out
      have hb' := Lib.hid hb
      clear hb T1 hc
      have hz : ((0 + j : Nat) : Int) = (j : Int) := by simp
      rw [hz]
      go_wp2
      go_ret2
      exact ⟨rfl, hb'.out⟩
end Go.Proofs.YtjnoaidceddpjaaDoor
