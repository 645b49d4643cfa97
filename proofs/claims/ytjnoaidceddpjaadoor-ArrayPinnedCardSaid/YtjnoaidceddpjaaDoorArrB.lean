/- The lines of a cache: slices.IndexFunc over entries, for the two questions that are asked. -/
import Derived.Test.YtjnoaidceddpjaaDoorArr
namespace Go.Proofs.YtjnoaidceddpjaaDoor
open Go.RowKit Go.Extern.Stop Go.Stop Go.Extern

/-- Where the first entry of a kind stands; -1: nowhere. -/
def whereE (p : Ent → Bool) : List Ent → Nat → Int
  | [], _ => -1
  | m :: l, i => if p m then (i : Int) else whereE p l (i + 1)
theorem whereE_step (p : Ent → Bool) (l : List Ent) (i : Nat) (m : Ent) (h : l[i]? = some m) : whereE p (l.drop i) i = if p m then (i : Int) else whereE p (l.drop (i + 1)) (i + 1) := by
  have hi := (List.getElem?_eq_some_iff.1 h)
  rw [List.drop_eq_getElem_cons hi.1, hi.2]; rfl
theorem whereE_cases (p : Ent → Bool) : ∀ (l : List Ent) (i : Nat), (whereE p l i = -1 ∧ ∀ m ∈ l, p m = false) ∨ ∃ j : Nat, ∃ m, l[j]? = some m ∧ p m = true ∧ whereE p l i = ((i + j : Nat) : Int) ∧ ∀ q m', q < j → l[q]? = some m' → p m' = false := by
  intro l
  induction l with
  | nil => intro i; exact .inl ⟨rfl, by simp⟩
  | cons a l ih =>
    intro i
    by_cases h : p a = true
    · exact .inr ⟨0, a, rfl, h, by simp [whereE, h], by omega⟩
    · have h' : p a = false := by simpa using h
      rcases ih (i + 1) with ⟨h1, h2⟩ | ⟨j, m, hm, h1, h2, h3⟩
      · exact .inl ⟨by simp [whereE, h', h1], by simp [h']; exact h2⟩
      · refine .inr ⟨j + 1, m, by simpa using hm, h1, by simp only [whereE, h']; simp; rw [h2]; omega, fun q m' hq hm' => ?_⟩
        cases q with
        | zero => simp at hm'; rw [← hm']; exact h'
        | succ q => exact h3 q m' (by omega) (by simpa using hm')
set_option maxRecDepth 100000 in
set_option maxHeartbeats 4000000 in
theorem indexFind (g n cap : Nat) (l : List Ent) (line : Int) (b : Nat) (w : World) (hg : w.heap[g]? = some (.cells (entCells l).toArray 32 (0, 0))) (hn : l.length = n) (hl : n ≤ 8) (hb : w.cell? ⟨b, 0, none⟩ = some (.int .i64 line)) :
    Calls Tryd.prog 67 #[.slice (some ⟨g, 0, none⟩) n cap, .func (.func 68) #[] #[.pointer (some ⟨b, 0, none⟩)]] w fun e w' => e = .returned (.int .i64 (whereE (fun e => (e.state != 0) && (e.line == line)) l 0)) ∧ Below w.heap.size w w' := by
  have HG := Lib.hid hg
  have HN := Lib.hid hn
  have hblt := cell_lt hb
  have HBB := Lib.hid hb
  clear hb
  clear hg hn
  go_enter Tryd.func67, Tryd.ntmps67
  go_wp2
  go_loopw [8] (fun v wr => ∃ i : Nat, i ≤ n ∧ v = .int .i64 i ∧ Hid (whereE (fun e => (e.state != 0) && (e.line == line)) l 0 = whereE (fun e => (e.state != 0) && (e.line == line)) (l.drop i) i) ∧ Hid (Below w.heap.size w wr)) (fun v _ => n - (intOf v).toNat)
  case atStart => exact ⟨0, by omega, rfl, rfl, Below.refl _ _⟩
  case round =>
    obtain ⟨i, hi, rfl, hp, hbel⟩ := hrel
    by_cases hlt : i < n
    · obtain ⟨e, hxy⟩ : ∃ m, l[i]? = some m := ⟨_, List.getElem?_eq_getElem (by rw [HN.out]; exact hlt)⟩
      have hst := Lib.hid (whereE_step (fun e => (e.state != 0) && (e.line == line)) l i e hxy)
      have hgr := (hbel.out.block g (lt_of_heap HG.out)).trans HG.out
      obtain ⟨c0, c1, c2, c3, c4, c5, c6, c7, c8, c9⟩ := entCells_at hgr hxy
      have HC : Hid (∀ w : World, w.cell? ⟨b, 0, none⟩ = some (.int .i64 line) → _) := fun w hw => find1 e line b w hw
      clear hxy hgr
      obtain ⟨x, s, m, ep, d0, d1, d2, d3, hh, ff⟩ := e
      simp only [Ent.val] at HC hst c0 c1 c2 c3 c4 c5 c6 c7 c8 c9
      generalize hk : ((s != 0) && (x == line)) = b at *
      clear hk
      cases b with
      | true =>
        go_wp2_with fail
        refine (HC.out _ ((hbel.out.cell hblt).trans HBB.out)).mono ?_
        rintro e w1 ⟨rfl, hb2⟩
        have hb3 : Hid (Below w.heap.size w w1) := hbel.out.trans (hb2.mono hbel.out.size)
        clear hb2 HC
        go_wp2
        go_ret
        exact ⟨by rw [hp.out, hst.out]; rfl, hb3.out⟩
      | false =>
        go_wp2_with fail
        refine (HC.out _ ((hbel.out.cell hblt).trans HBB.out)).mono ?_
        rintro e w1 ⟨rfl, hb2⟩
        have hb3 : Hid (Below w.heap.size w w1) := hbel.out.trans (hb2.mono hbel.out.size)
        clear hb2 HC
        go_wp2
        go_roundw
        case rel => exact ⟨i + 1, by omega, by go_num, (hp.out.trans hst.out).trans rfl, hb3⟩
        case measure => simp [intOf]; omega
    · go_wp2
      go_ret
      refine ⟨?_, hbel.out⟩
      rw [hp.out, List.drop_of_length_le (by rw [HN.out]; omega)]; rfl
set_option maxRecDepth 100000 in
set_option maxHeartbeats 4000000 in
theorem indexFree (g n cap : Nat) (l : List Ent) (w : World) (hg : w.heap[g]? = some (.cells (entCells l).toArray 32 (0, 0))) (hn : l.length = n) (hl : n ≤ 8) :
    Calls Tryd.prog 67 #[.slice (some ⟨g, 0, none⟩) n cap, .func (.func 69) #[] #[]] w fun e w' => e = .returned (.int .i64 (whereE (fun e => e.state == 0) l 0)) ∧ Below w.heap.size w w' := by
  have HG := Lib.hid hg
  have HN := Lib.hid hn
  skip
  clear hg hn
  go_enter Tryd.func67, Tryd.ntmps67
  go_wp2
  go_loopw [8] (fun v wr => ∃ i : Nat, i ≤ n ∧ v = .int .i64 i ∧ Hid (whereE (fun e => e.state == 0) l 0 = whereE (fun e => e.state == 0) (l.drop i) i) ∧ Hid (Below w.heap.size w wr)) (fun v _ => n - (intOf v).toNat)
  case atStart => exact ⟨0, by omega, rfl, rfl, Below.refl _ _⟩
  case round =>
    obtain ⟨i, hi, rfl, hp, hbel⟩ := hrel
    by_cases hlt : i < n
    · obtain ⟨e, hxy⟩ : ∃ m, l[i]? = some m := ⟨_, List.getElem?_eq_getElem (by rw [HN.out]; exact hlt)⟩
      have hst := Lib.hid (whereE_step (fun e => e.state == 0) l i e hxy)
      have hgr := (hbel.out.block g (lt_of_heap HG.out)).trans HG.out
      obtain ⟨c0, c1, c2, c3, c4, c5, c6, c7, c8, c9⟩ := entCells_at hgr hxy
      have HC : Hid (∀ w : World,  _) := fun w => free1 e w
      clear hxy hgr
      obtain ⟨x, s, m, ep, d0, d1, d2, d3, hh, ff⟩ := e
      simp only [Ent.val] at HC hst c0 c1 c2 c3 c4 c5 c6 c7 c8 c9
      generalize hk : (s == 0) = b at *
      clear hk
      cases b with
      | true =>
        go_wp2_with fail
        refine (HC.out _).mono ?_
        rintro e w1 ⟨rfl, hb2⟩
        have hb3 : Hid (Below w.heap.size w w1) := hbel.out.trans (hb2.mono hbel.out.size)
        clear hb2 HC
        go_wp2
        go_ret
        exact ⟨by rw [hp.out, hst.out]; rfl, hb3.out⟩
      | false =>
        go_wp2_with fail
        refine (HC.out _).mono ?_
        rintro e w1 ⟨rfl, hb2⟩
        have hb3 : Hid (Below w.heap.size w w1) := hbel.out.trans (hb2.mono hbel.out.size)
        clear hb2 HC
        go_wp2
        go_roundw
        case rel => exact ⟨i + 1, by omega, by go_num, (hp.out.trans hst.out).trans rfl, hb3⟩
        case measure => simp [intOf]; omega
    · go_wp2
      go_ret
      refine ⟨?_, hbel.out⟩
      rw [hp.out, List.drop_of_length_le (by rw [HN.out]; omega)]; rfl
end Go.Proofs.YtjnoaidceddpjaaDoor
