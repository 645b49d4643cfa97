/- The table of misses (package mshr): where a line's miss stands, or would. -/
import Derived.Test.YtjnoaidceddpjaaDoorMshrD
namespace Go.Proofs.YtjnoaidceddpjaaDoor
open Go.RowKit Go.Extern.Stop Go.Stop Go.Extern

/-- The lines rise, and are lines. -/
def Rising (l : List (Int × Int)) : Prop := l.Pairwise (fun a b => a.1 < b.1) ∧ ∀ m ∈ l, 0 ≤ m.1 ∧ m.1 < 32
def lbOf (line : Int) : List (Int × Int) → Nat
  | [] => 0
  | m :: l => if m.1 < line then lbOf line l + 1 else 0
theorem lb_le (line : Int) : ∀ l, lbOf line l ≤ l.length := by
  intro l
  induction l with
  | nil => simp [lbOf]
  | cons a l ih =>
    simp only [lbOf]
    split
    · simp; omega
    · simp
theorem lb_below (line : Int) : ∀ (l : List (Int × Int)) (k : Nat) (m : Int × Int), l[k]? = some m → k < lbOf line l → m.1 < line := by
  intro l
  induction l with
  | nil => intro k m h; simp at h
  | cons a l ih =>
    intro k m hk hlt
    simp only [lbOf] at hlt
    split at hlt
    · cases k with
      | zero => simp at hk; subst hk; assumption
      | succ k => exact ih k m (by simpa using hk) (by omega)
    · omega
theorem lb_above (line : Int) : ∀ (l : List (Int × Int)), Rising l → ∀ (k : Nat) (m : Int × Int), l[k]? = some m → lbOf line l ≤ k → line ≤ m.1 := by
  intro l
  induction l with
  | nil => intro _ k m h; simp at h
  | cons a l ih =>
    intro hr k m hk hle
    have hr2 : Rising l := ⟨(List.pairwise_cons.1 hr.1).2, fun m hm => hr.2 m (by simp [hm])⟩
    simp only [lbOf] at hle
    split at hle
    · cases k with
      | zero => omega
      | succ k => exact ih hr2 k m (by simpa using hk) (by omega)
    · rename_i hge
      cases k with
      | zero => simp at hk; subst hk; omega
      | succ k =>
        have hm : m ∈ l := List.mem_of_getElem? (by simpa using hk)
        have := (List.pairwise_cons.1 hr.1).1 m hm
        omega
theorem lb_unique (line : Int) (l : List (Int × Int)) (hr : Rising l) (i : Nat) (hi : i ≤ l.length) (h1 : ∀ k m, l[k]? = some m → k < i → m.1 < line) (h2 : ∀ k m, l[k]? = some m → i ≤ k → line ≤ m.1) : i = lbOf line l := by
  have hle := lb_le line l
  rcases Nat.lt_trichotomy i (lbOf line l) with h | h | h
  · have hg := List.getElem?_eq_getElem (show i < l.length by omega)
    have := h2 i _ hg (Nat.le_refl _)
    have := lb_below line l i _ hg h
    omega
  · exact h
  · have hg := List.getElem?_eq_getElem (show lbOf line l < l.length by omega)
    have := h1 _ _ hg h
    have := lb_above line l hr _ _ hg (Nat.le_refl _)
    omega
theorem lb_has (line : Int) (l : List (Int × Int)) (hr : Rising l) : has line l = true ↔ ∃ m, l[lbOf line l]? = some m ∧ m.1 = line := by
  constructor
  · intro h
    rcases place_get line l 0 with ⟨h1, _, _⟩ | ⟨j, m, hm, h1, _, _, _⟩
    · rw [h1] at h; cases h
    · have hj : ¬ j < lbOf line l := fun hlt => by have := lb_below line l j m hm hlt; omega
      have hjl : j < l.length := (List.getElem?_eq_some_iff.1 hm).1
      rcases Nat.lt_or_ge (lbOf line l) j with hlt | hge
      · have hg := List.getElem?_eq_getElem (show lbOf line l < l.length by omega)
        have h3 := lb_above line l hr _ _ hg (Nat.le_refl _)
        have h4 := List.pairwise_iff_getElem.1 hr.1 (lbOf line l) j (by omega) hjl hlt
        have h5 : l[j] = m := (List.getElem?_eq_some_iff.1 hm).2
        rw [h5] at h4
        omega
      · have e : j = lbOf line l := by omega
        subst e
        exact ⟨m, hm, h1⟩
  · rintro ⟨m, hm, he⟩
    have : ∀ (l : List (Int × Int)) (k : Nat), l[k]? = some m → has line l = true := by
      intro l
      induction l with
      | nil => intro k h; simp at h
      | cons a l ih =>
        intro k hk
        cases k with
        | zero => simp at hk; subst hk; simp [has, he]
        | succ k => simp [has, ih k (by simpa using hk)]
    exact this l _ hm

set_option maxRecDepth 100000 in
/-- The comparison that at hands over. -/
theorem at1 (x y line : Int) (w : World) (h1 : 0 ≤ x) (h2 : x < 32) (h3 : 0 ≤ line) (h4 : line < 32) :
    Calls Tryd.prog 79 #[.agg #[.int .i64 x, .int .i64 y], .int .i64 line] w fun e w' => e = .returned (.int .i64 (x - line)) ∧ Below w.heap.size w w' := by
  go_enter Tryd.func79, Tryd.ntmps79
  go_wp2
  go_ret
  exact ⟨rfl, (Below.refl _ _).alloc (Nat.le_refl _) _⟩
set_option maxRecDepth 100000 in
set_option maxHeartbeats 2000000 in
theorem search_is (v : Value) (l : List (Int × Int)) (line : Int) (w : World) (hv : MissRow w v l) (hl : l.length ≤ 1000) (hr : Rising l) (h3 : 0 ≤ line) (h4 : line < 32) :
    Calls Tryd.prog 78 #[v, .int .i64 line, .func (.func 79) #[] #[]] w fun e w' => e = .returned (.tuple #[.int .i64 (lbOf line l), .bool (has line l)]) ∧ Below w.heap.size w w' := by
  rcases hv.cells with ⟨rfl, rfl⟩ | ⟨g, cap, rfl, hc⟩
  · go_enter Tryd.func78, Tryd.ntmps78
    go_wp2
    refine wp_loop_rounds 1 ?_
    rw [rounds_succ]
    go_wp2
    go_ret2
    exact ⟨rfl, Below.refl _ _⟩
  · have Hc := Lib.hid hc
    have Hv := Lib.hid hv
    have Hr := Lib.hid hr
    clear hc hv hr
    generalize hn : l.length = n at *
    have Hn := Lib.hid hn
    clear hn
    go_enter Tryd.func78, Tryd.ntmps78
    go_wp2
    go_loopw [9, 10] (fun vi vj wr => ∃ i j : Nat, i ≤ j ∧ j ≤ n ∧ vi = .int .i64 i ∧ vj = .int .i64 j ∧ Hid (∀ k m, l[k]? = some m → k < i → m.1 < line) ∧ Hid (∀ k m, l[k]? = some m → j ≤ k → line ≤ m.1) ∧ Hid (Below w.heap.size w wr)) (fun vi vj _ => (intOf vj - intOf vi).toNat)
    case atStart => exact ⟨0, n, by omega, by omega, rfl, rfl, fun k m _ h => by omega, fun k m hk h => by have := (List.getElem?_eq_some_iff.1 hk).1; have := Hn.out; omega, Below.refl _ _⟩
    case round =>
      obtain ⟨i, j, hij, hjn, rfl, rfl, H1, H2, hbel⟩ := hrel
      by_cases hlt : i < j
      · have hh1 : (i + j) / 2 < n := by omega
        obtain ⟨⟨x, y⟩, hm⟩ : ∃ m, l[(i + j) / 2]? = some m := ⟨_, List.getElem?_eq_getElem (by have := Hn.out; omega)⟩
        obtain ⟨d0, d1⟩ := Hc.out _ _ hm
        have e0 := (hbel.out.cell (cell_lt d0)).trans d0
        have e1 := (hbel.out.cell (cell_lt d1)).trans d1
        have hx := Hr.out.2 _ (List.mem_of_getElem? hm)
        have hx1 : 0 ≤ x := hx.1
        have hx2 : x < 32 := hx.2
        have Hm := Lib.hid hm
        clear hm d0 d1 hx
        by_cases hxl : x < line
        · have hsign : decide (x - line < 0) = true := by simp; omega
          go_wp2_with fail
          refine (at1 x y line _ hx1 hx2 h3 h4).mono ?_
          rintro e w1 ⟨rfl, hb2⟩
          have hb3 : Hid (Below w.heap.size w w1) := hbel.out.trans (hb2.mono hbel.out.size)
          clear hb2
          go_wp2
          go_roundw
          case rel => exact ⟨(i + j) / 2 + 1, j, by omega, hjn, by go_num, rfl, fun k m hk hki => by
            rcases Nat.lt_or_ge k ((i + j) / 2) with h | h
            · have h5 := List.pairwise_iff_getElem.1 Hr.out.1 k ((i + j) / 2) (List.getElem?_eq_some_iff.1 hk).1 (List.getElem?_eq_some_iff.1 Hm.out).1 h
              rw [(List.getElem?_eq_some_iff.1 hk).2, (List.getElem?_eq_some_iff.1 Hm.out).2] at h5
              have h6 : m.1 < x := h5
              omega
            · obtain rfl : k = (i + j) / 2 := by omega
              rw [Hm.out] at hk
              injection hk with hk
              subst hk
              exact hxl, H2, hb3⟩
          case measure => simp [intOf]; omega
        · have hsign : decide (x - line < 0) = false := by simp; omega
          go_wp2_with fail
          refine (at1 x y line _ hx1 hx2 h3 h4).mono ?_
          rintro e w1 ⟨rfl, hb2⟩
          have hb3 : Hid (Below w.heap.size w w1) := hbel.out.trans (hb2.mono hbel.out.size)
          clear hb2
          go_wp2
          go_roundw
          case rel => exact ⟨i, (i + j) / 2, by omega, by omega, rfl, by go_num, H1, fun k m hk hki => by
            rcases Nat.lt_or_ge ((i + j) / 2) k with h | h
            · have h5 := List.pairwise_iff_getElem.1 Hr.out.1 ((i + j) / 2) k (List.getElem?_eq_some_iff.1 Hm.out).1 (List.getElem?_eq_some_iff.1 hk).1 h
              rw [(List.getElem?_eq_some_iff.1 hk).2, (List.getElem?_eq_some_iff.1 Hm.out).2] at h5
              have h6 : x < m.1 := h5
              omega
            · obtain rfl : k = (i + j) / 2 := by omega
              rw [Hm.out] at hk
              injection hk with hk
              subst hk
              show line ≤ x
              omega, hb3⟩
          case measure => simp [intOf]; omega
      · obtain rfl : i = j := by omega
        have hu := lb_unique line l Hr.out i (by have := Hn.out; omega) H1.out H2.out
        have hlb := lb_has line l Hr.out
        rw [← hu] at hlb
        have Hu := Lib.hid hu
        clear hu
        by_cases hin : i < n
        · obtain ⟨⟨x, y⟩, hm⟩ : ∃ m, l[i]? = some m := ⟨_, List.getElem?_eq_getElem (by have := Hn.out; omega)⟩
          obtain ⟨d0, d1⟩ := Hc.out _ _ hm
          have e0 := (hbel.out.cell (cell_lt d0)).trans d0
          have e1 := (hbel.out.cell (cell_lt d1)).trans d1
          have hx := Hr.out.2 _ (List.mem_of_getElem? hm)
          have hx1 : 0 ≤ x := hx.1
          have hx2 : x < 32 := hx.2
          have hres : (x - line == 0) = has line l := by
            rw [Bool.eq_iff_iff, hlb]
            constructor
            · intro h
              exact ⟨_, hm, by simp at h; show x = line; omega⟩
            · rintro ⟨m, hm2, he⟩
              rw [hm] at hm2
              injection hm2 with hm2
              subst hm2
              have he' : x = line := he
              simp; omega
          have Hres := Lib.hid hres
          clear hm d0 d1 hx hres hlb
          go_wp2_with fail
          refine (at1 x y line _ hx1 hx2 h3 h4).mono ?_
          rintro e w1 ⟨rfl, hb2⟩
          have hb3 : Hid (Below w.heap.size w w1) := hbel.out.trans (hb2.mono hbel.out.size)
          clear hb2
          go_wp2
          go_ret2
          exact ⟨by show Ending.returned (.tuple #[.int .i64 (i : Int), .bool (x - line == 0)]) = _; rw [← Hu.out, ← Hres.out], hb3.out⟩
        · have hno : has line l = false := by
            rw [Bool.eq_false_iff]
            intro h
            obtain ⟨m, hm, _⟩ := hlb.1 h
            have := (List.getElem?_eq_some_iff.1 hm).1
            have := Hn.out
            omega
          have Hno := Lib.hid hno
          clear hno hlb
          go_wp2
          go_ret2
          exact ⟨by show Ending.returned (.tuple #[.int .i64 (i : Int), .bool false]) = _; rw [← Hu.out, Hno.out], hbel.out⟩
set_option maxRecDepth 100000 in
set_option maxHeartbeats 400000 in
/-- at: where a line's miss stands, or would. -/
theorem at_is (t most : Nat) (l : List (Int × Int)) (v : Value) (line : Int) (w : World) (h : TabAt w t most l v) (hr : Rising l) (h3 : 0 ≤ line) (h4 : line < 32) :
    Calls Tryd.prog 61 #[.pointer (some ⟨t, 0, none⟩), .int .i64 line] w fun e w' => e = .returned (.tuple #[.int .i64 (lbOf line l), .bool (has line l)]) ∧ Below w.heap.size w w' := by
  have h1 := h.list_cell
  have hrow := Lib.hid h.row
  have hfew := h.few
  have Hr := Lib.hid hr
  clear h hr
  go_enter Tryd.func61, Tryd.ntmps61
  go_wp2_with fail
  refine (search_is v l line _ hrow.out hfew Hr.out h3 h4).mono ?_
  rintro e w1 ⟨rfl, hb⟩
  have hb' := Lib.hid hb
  clear hb
  go_wp2
  go_ret2
  exact ⟨rfl, hb'.out⟩
end Go.Proofs.YtjnoaidceddpjaaDoor
