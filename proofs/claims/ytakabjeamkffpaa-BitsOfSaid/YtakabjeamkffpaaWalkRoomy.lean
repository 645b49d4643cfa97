/- A list in new memory with 80 marks behind it: the walk of assentbook.Roomy at numbers. For any list of at most 100 numbers and any mark. -/
import Derived.Test.YtakabjeamkffpaaFactBitsOf
import Derived.Laws.CopyOwn
import Derived.Laws.MakeOwn
import Derived.Lib.Hide
import Derived.Deep.LoopGhost
import Derived.Deep.QuietTactic
import Derived.OwnWalk
namespace Go.Proofs.Ytakabjeamkffpaa.OfSet
open Go.RowKit Go.Proofs.YtakabjeamkffpaaW.PrintWords Go.Proofs.YtakabjeamkffpaaW.PrintLast Go.Proofs.YtakabjeamkffpaaW.PrintMore Go.Proofs.Ytakabjeamkffpaa.PBitsOf
theorem cell_lt {w : World} {p : Addr} {v : Value} (h : w.cell? p = some v) : p.block < w.heap.size := by
  by_cases hlt : p.block < w.heap.size
  · exact hlt
  · simp [World.cell?, Array.getElem?_eq_none (Nat.le_of_not_lt hlt)] at h
theorem lt_of_heap {w : World} {k : Nat} {x : Obj} (h : w.heap[k]? = some x) : k < w.heap.size := (Array.getElem?_eq_some_iff.1 h).1
theorem heap_setCell {w : World} {t o : Nat} {arr : Array Value} {ty : TypeId} (h : w.heap[t]? = some (.cells arr ty (0, 0))) (u : Value) : (w.setCell ⟨t, o, none⟩ u).heap[t]? = some (.cells (arr.setIfInBounds o u) ty (0, 0)) := by
  rw [setCell_eq_setRow w t o arr ty (0, 0) u h]; exact setRow_heap w t arr _ ty (0, 0) h
def numbers (l : List Int) : List Value := l.map (Value.int .i64)
/-- So many marks are written. -/
def part (l : List Int) (m : Int) (j : Nat) : List Value := numbers l ++ (List.replicate j (.int .i64 m) ++ List.replicate (80 - j) (.int .i64 0))
theorem numbers_length (l : List Int) : (numbers l).length = l.length := by simp [numbers]
theorem part_length (l : List Int) (m : Int) (j : Nat) (h : j ≤ 80) : (part l m j).length = l.length + 80 := by
  simp [part, numbers]; omega
theorem part_get (l : List Int) (m : Int) (j : Nat) (h : j < 80) : (part l m j)[l.length + j]? = some (.int .i64 0) := by
  unfold part
  rw [List.getElem?_append_right (by rw [numbers_length]; omega), numbers_length, List.getElem?_append_right (by simp), List.getElem?_replicate, if_pos (by simp; omega)]
theorem part_set (l : List Int) (m : Int) (j : Nat) (h : j < 80) : (part l m j).set (l.length + j) (.int .i64 m) = part l m (j + 1) := by
  unfold part
  have e1 : List.replicate (80 - j) (Value.int .i64 0) = .int .i64 0 :: List.replicate (80 - (j + 1)) (.int .i64 0) := by
    rw [show 80 - j = (80 - (j + 1)) + 1 by omega, List.replicate_succ]
  rw [e1, List.set_append, if_neg (by rw [numbers_length]; omega), numbers_length, List.set_append, if_neg (by simp), List.length_replicate, show l.length + j - l.length - j = 0 by omega, List.set_cons_zero, List.replicate_succ']
  simp
theorem made (n : Nat) : madeCells (Value.int .i64 0).cells n = (List.replicate n (Value.int .i64 0)).toArray := by
  apply Array.ext
  · simp [madeCells]
  · intro i h1 h2
    simp [madeCells, Value.cells, Nat.mod_one]
set_option maxRecDepth 100000 in
set_option maxHeartbeats 4000000 in
theorem roomy (A : Option Addr) (c : Nat) (l : List Int) (m : Int) (w : World) (hr : Kd.C (Kd.int .i64) w A l.length l) (hc : l.length ≤ c) (hl : l.length ≤ 100) :
    Calls Try.prog 30 #[.slice A l.length c, .int .i64 m] w fun e w' => ∃ g, e = .returned (.slice (some ⟨g, 0, none⟩) (l.length + 80) (l.length + 80)) ∧ w.heap.size ≤ g ∧ w'.heap[g]? = some (.cells (part l m 80).toArray 3 (0, 0)) ∧ Below w.heap.size w w' := by
  have HC : Hid (0 < l.length → ∃ ad, A = some ad ∧ ∀ j v, (numbers l)[j]? = some v → w.cell? (ad.add j) = some v) := by
    intro hn
    obtain ⟨ad, e, hcell⟩ := hr.2.2 hn
    refine ⟨ad, e, fun j v hv => ?_⟩
    simp only [numbers, List.getElem?_map, Option.map_eq_some_iff] at hv
    obtain ⟨x, hx, rfl⟩ := hv
    obtain ⟨cs, h1, h2, h3⟩ := hcell j x hx
    have h4 := h3 0 (.int .i64 x) (by
      have : cs = [.int .i64 x] := h2
      rw [this]; rfl)
    rw [show (Kd.int IntKind.i64).sz = 1 from rfl, Nat.mul_one, Nat.add_zero] at h4
    exact h4
  clear hr
  generalize hN : l.length = N at *
  have HN := Lib.hid hN
  clear hN
  have q1 : wrap64 ((N : Int) + 80) = (N : Int) + 80 := by unfold wrap64; omega
  have q2 : ((N : Int) + 80).toNat = N + 80 := by omega
  have HM : Hid (∀ W : World, (Instr.makeSlice 26 (.int .i64 ((N : Int) + 80)) (.int .i64 ((N : Int) + 80))).run Try.prog W = .ok (.slice (some ⟨W.heap.size, 0, none⟩) (N + 80) (N + 80)) (W.alloc (.cells (List.replicate (N + 80) (Value.int .i64 0)).toArray 3))) := by
    intro W
    obtain ⟨i, hi, hz, hs, hb⟩ := info_parts info3
    have := run_make (P := Try.prog) W 26 3 i (.int .i64 0) Try.underlying26 hi hz .i64 .i64 ((N : Int) + 80) ((N : Int) + 80) (by omega) (by omega) (by rw [hb]; omega) (by omega)
    rw [q2, hs, Nat.mul_one, made] at this
    exact this
  have hmk := HM.out
  clear HM q2
  go_enter Try.func30, Try.ntmps30
  have HO : Hid (∀ v ∈ numbers l, v.oneCell' = true) := fun v hv => by
    simp only [numbers, List.mem_map] at hv
    obtain ⟨x, -, rfl⟩ := hv
    rfl
  have HP : Hid (∀ o, 0 < (numbers l).length → ∃ ad, A = some ad ∧ ∀ j v, (numbers l)[j]? = some v → (w.alloc o).cell? (ad.add j) = some v) := fun o h0 => by
    rw [numbers_length, HN.out] at h0
    obtain ⟨ad, e, hh⟩ := HC.out h0
    refine ⟨ad, e, fun j v hv => ?_⟩
    rw [World.cell?_alloc_lt _ _ _ (cell_lt (hh j v hv))]
    exact hh j v hv
  have h1 : (numbers l).length = Nat.min N (N + 80) := by rw [numbers_length, HN.out]; exact (Nat.min_eq_left (by omega)).symm
  have h2 : 0 + (numbers l).length ≤ (List.replicate (N + 80) (Value.int .i64 0)).length := by rw [numbers_length, HN.out]; simp
  have H1 := Lib.hid h1
  have H2 := Lib.hid h2
  have H3 : Hid (∀ o, Below w.heap.size w (w.alloc o)) := fun o => (Below.refl _ _).alloc (Nat.le_refl _) _
  clear h1 h2
  go_wp2_with (refine wpList_copy_splice rfl (.tmp 11) (.tmp 12) 26 26 rfl 3 (by kernel_rfl) (by kernel_rfl) (some ⟨w.heap.size, 0, none⟩) A (N + 80) (N + 80) N c rfl rfl w.heap.size 0 (List.replicate (N + 80) (Value.int .i64 0)) 3 (heap_alloc_new _ _) (numbers l) H1.out (fun h0 => ⟨rfl, HP.out _ h0⟩) H2.out HO.out w.heap.size w (H3.out _) (Nat.le_refl _) ?_; intro w2 HK HB2)
  have HB2' := Lib.hid HB2
  have HK2 : Hid (w2.heap[w.heap.size]? = some (.cells (part l m 0).toArray 3 (0, 0))) := by
    have h := HK.out
    have e : splice (List.replicate (N + 80) (Value.int .i64 0)) 0 (numbers l) = part l m 0 := by
      unfold splice part
      rw [numbers_length, HN.out]
      simp
    rw [e] at h
    exact h
  clear HK HB2 HP H1 H2 H3 HO hmk HC
  have hg : w.heap.size ≤ w.heap.size := Nat.le_refl _
  have HP1 : Hid (∀ j, j < 80 → (part l m j)[N + j]? = some (.int .i64 0)) := fun j hj => by rw [← HN.out]; exact part_get l m j hj
  have HP2 : Hid (∀ j, j < 80 → (part l m j).set (N + j) (.int .i64 m) = part l m (j + 1)) := fun j hj => by rw [← HN.out]; exact part_set l m j hj
  generalize hgs : w.heap.size = g at hg HK2 ⊢
  have HB3 : Hid (Below w.heap.size w w2) := HB2'
  have hge : w.heap.size ≤ g := by omega
  clear hgs hg HB2'
  go_loopw [6] (fun v wr => ∃ j : Nat, j ≤ 80 ∧ v = .int .i64 ((N + j : Nat) : Int) ∧ Hid (Below w.heap.size w wr) ∧ Hid (wr.heap[g]? = some (.cells (part l m j).toArray 3 (0, 0)))) (fun v _ => N + 80 - (intOf v).toNat)
  case atStart => exact ⟨0, by omega, rfl, HB3, HK2⟩
  case round =>
    obtain ⟨j, hj, rfl, HB, HK⟩ := hrel
    by_cases hlt : j < 80
    · have hc1 : wr.cell? ⟨g, N + j, none⟩ = some (.int .i64 0) := by simp [World.cell?, HK.out, HP1.out j hlt]
      have hfz : wr.frozen? ⟨g, N + j, none⟩ = false := by simp [World.frozen?, HK.out]
      have HK' : Hid ((wr.setCell ⟨g, N + j, none⟩ (.int .i64 m)).heap[g]? = some (.cells (part l m (j + 1)).toArray 3 (0, 0))) := by
        rw [← HP2.out j hlt, ← List.setIfInBounds_toArray]
        exact heap_setCell HK.out _
      have HB' : Hid (Below w.heap.size w (wr.setCell ⟨g, N + j, none⟩ (.int .i64 m))) := HB.out.setCell hge _
      clear HK HB
      go_wp2_with fail
      go_roundw
      case rel => exact ⟨j + 1, by omega, by go_num, HB', HK'⟩
      case measure => simp [intOf]; omega
    · obtain rfl : j = 80 := by omega
      go_wp2_with fail
      go_ret
      exact ⟨g, rfl, hge, HK.out, HB.out⟩
end Go.Proofs.Ytakabjeamkffpaa.OfSet
