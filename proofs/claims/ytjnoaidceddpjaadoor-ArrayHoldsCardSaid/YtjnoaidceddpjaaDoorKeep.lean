/- What fault.Wrap and assentkeep's Error, Is and Only answer. The sentinels' cells are conditions, told once in Sents. -/
import Derived.Test.YtjnoaidceddpjaaDoorAs
import Derived.WideLaws
import Derived.Lib.Hide
namespace Go.Proofs.YtjnoaidceddpjaaDoor
open Go.RowKit Go.Extern.Stop Go.Stop Go.Extern

/-- The sentinels of package api lie where the variables say: a k is the address of the one of code k. -/
structure Sents (w : World) (a : Nat → Addr) : Prop where
  c1 : w.cell? ⟨0, 0, none⟩ = some (.iface 165 (.pointer (some (a 1))))
  c2 : w.cell? ⟨3, 0, none⟩ = some (.iface 165 (.pointer (some (a 2))))
  c3 : w.cell? ⟨4, 0, none⟩ = some (.iface 165 (.pointer (some (a 3))))
  c4 : w.cell? ⟨5, 0, none⟩ = some (.iface 165 (.pointer (some (a 4))))
  c5 : w.cell? ⟨6, 0, none⟩ = some (.iface 165 (.pointer (some (a 5))))
  c6 : w.cell? ⟨1, 0, none⟩ = some (.iface 165 (.pointer (some (a 6))))
  c7 : w.cell? ⟨2, 0, none⟩ = some (.iface 165 (.pointer (some (a 7))))
  c8 : w.cell? ⟨7, 0, none⟩ = some (.iface 165 (.pointer (some (a 8))))
  c9 : w.cell? ⟨8, 0, none⟩ = some (.iface 165 (.pointer (some (a 9))))
  c10 : w.cell? ⟨9, 0, none⟩ = some (.iface 165 (.pointer (some (a 10))))
  ety : w.cell? ⟨10, 0, none⟩ = some (.iface 149 (.agg #[.pointer (some ⟨11, 24, none⟩)]))
  row : ∀ k, 1 ≤ k → k ≤ 10 → ∃ c t, w.heap[(a k).block]? = some (.cells c t (0, 0))
  ne : ∀ i j, 1 ≤ i → i ≤ 10 → 1 ≤ j → j ≤ 10 → i ≠ j → a i ≠ a j
  big : 11 ≤ w.heap.size
theorem cell_lt {w : World} {p : Addr} {v : Value} (h : w.cell? p = some v) : p.block < w.heap.size := World.block_lt_of_cell? w p h
theorem Sents.of_below {w w' : World} {a : Nat → Addr} (h : Sents w a) (hb : Below w.heap.size w w') : Sents w' a where
  c1 := (hb.cell (cell_lt h.c1)).trans h.c1
  c2 := (hb.cell (cell_lt h.c2)).trans h.c2
  c3 := (hb.cell (cell_lt h.c3)).trans h.c3
  c4 := (hb.cell (cell_lt h.c4)).trans h.c4
  c5 := (hb.cell (cell_lt h.c5)).trans h.c5
  c6 := (hb.cell (cell_lt h.c6)).trans h.c6
  c7 := (hb.cell (cell_lt h.c7)).trans h.c7
  c8 := (hb.cell (cell_lt h.c8)).trans h.c8
  c9 := (hb.cell (cell_lt h.c9)).trans h.c9
  c10 := (hb.cell (cell_lt h.c10)).trans h.c10
  ety := (hb.cell (cell_lt h.ety)).trans h.ety
  row := fun k h1 h2 => by
    obtain ⟨c, t, hc⟩ := h.row k h1 h2
    exact ⟨c, t, by rw [hb.block _ (lt_of_heap hc)]; exact hc⟩
  ne := h.ne
  big := Nat.le_trans h.big hb.size

set_option maxRecDepth 100000 in
/-- fault.Wrap(op, at, nil). -/
theorem wrap_nil (op : ByteArray) (n : Int) (w : World) : Calls Tryd.prog 47 #[.string op, .int .i64 n, .nilIface] w fun e w' => e = .returned .nilIface ∧ w' = w := by
  go_enter Tryd.func47, Tryd.ntmps47
  go_wp2
  go_ret
  exact ⟨rfl, rfl⟩
set_option maxRecDepth 100000 in
/-- fault.Wrap(op, at, e), e no nil. -/
theorem wrap_some (op : ByteArray) (n : Int) (te : TypeId) (ve : Value) (w : World) : Calls Tryd.prog 47 #[.string op, .int .i64 n, .iface te ve] w fun e w' => e = .returned (.iface 111 (.agg #[.string op, .int .i64 n, .iface te ve])) ∧ Below w.heap.size w w' := by
  have hn := fun w : World => run_eql_held_nil (P := Tryd.prog) w 24 te ve (by kernel_rfl)
  go_enter Tryd.func47, Tryd.ntmps47
  go_wp2
  go_ret
  exact ⟨rfl, by first | exact Below.refl _ _ | exact (Below.refl _ _).alloc (Nat.le_refl _) _⟩
set_option maxRecDepth 100000 in
/-- assentkeep.Error of a code. -/
theorem error_of (k : Nat) (a : Nat → Addr) (w : World) (h1 : 1 ≤ k) (h2 : k ≤ 10) (S : Sents w a) : Calls Tryd.prog 54 #[.int .i64 k] w fun e w' => e = .returned (.iface 165 (.pointer (some (a k)))) ∧ w' = w := by
  have g1 := S.c1
  have g2 := S.c2
  have g3 := S.c3
  have g4 := S.c4
  have g5 := S.c5
  have g6 := S.c6
  have g7 := S.c7
  have g8 := S.c8
  have g9 := S.c9
  have g10 := S.c10
  obtain rfl | rfl | rfl | rfl | rfl | rfl | rfl | rfl | rfl | rfl : k = 1 ∨ k = 2 ∨ k = 3 ∨ k = 4 ∨ k = 5 ∨ k = 6 ∨ k = 7 ∨ k = 8 ∨ k = 9 ∨ k = 10 := by omega
  all_goals
    go_enter Tryd.func54, Tryd.ntmps54
    go_wp2
    go_ret
    exact ⟨rfl, rfl⟩
set_option maxRecDepth 100000 in
set_option maxHeartbeats 2000000 in
/-- assentkeep.Is(nil, 0, ..). -/
theorem keepIs_nil (op : ByteArray) (n : Int) (w : World) : Calls Tryd.prog 20 #[.nilIface, .int .i64 0, .string op, .int .i64 n] w fun e w' => e = .returned (.bool true) ∧ w' = w := by
  go_enter Tryd.func20, Tryd.ntmps20
  go_wp2
  go_ret
  exact ⟨rfl, rfl⟩
set_option maxRecDepth 100000 in
set_option maxHeartbeats 4000000 in
/-- assentkeep.Is of a Fault over the sentinel of that code, with that Op and that place. -/
theorem keepIs_one (op : ByteArray) (n : Int) (k : Nat) (a : Nat → Addr) (w : World) (h1 : 1 ≤ k) (h2 : k ≤ 10) (S : Sents w a) : Calls Tryd.prog 20 #[.iface 111 (.agg #[.string op, .int .i64 n, .iface 165 (.pointer (some (a k)))]), .int .i64 k, .string op, .int .i64 n] w fun e w' => e = .returned (.bool true) ∧ Below w.heap.size w w' := by
  have hk : ((k : Int) == 0) = false := by simp; omega
  have hn := fun w : World => run_neq_held_nil (P := Tryd.prog) w 24 111 (.agg #[.string op, .int .i64 n, .iface 165 (.pointer (some (a k)))]) (by kernel_rfl)
  go_enter Tryd.func20, Tryd.ntmps20
  go_wp2_with fail
  refine (error_of k a _ h1 h2 (S.of_below ((Below.refl _ _).alloc (Nat.le_refl _) _))).mono ?_
  rintro e w1 ⟨rfl, rfl⟩
  go_wp2_with fail
  refine (is1_same op n (a k) _).mono ?_
  rintro e w1 ⟨rfl, hb⟩
  have hB : w1.heap[w.heap.size]? = some (.cells #[.string ByteArray.empty, .int .i64 0, .nilIface] 111 (0, 0)) := by
    rw [hb.block _ (by simp)]
    exact heap_alloc_new _ _
  have hb1 : Below w.heap.size w w1 := ((Below.refl _ _).alloc (Nat.le_refl _) _).trans (hb.mono (by simp))
  have S1 := S.of_below hb1
  have hz : w.heap.size < w1.heap.size := lt_of_heap hB
  go_wp2_with fail
  refine (as_hit op n _ _ w.heap.size _ _ _ _ _ S1.ety hB S.big).mono ?_
  rintro e w2 ⟨rfl, hB2, hb2⟩
  have d0 : w2.cell? ⟨w.heap.size, 0, none⟩ = some (.string op) := by simp [World.cell?, hB2]
  have d1 : w2.cell? ⟨w.heap.size, 1, none⟩ = some (.int .i64 n) := by simp [World.cell?, hB2]
  go_wp2
  go_ret
  exact ⟨rfl, hb1.trans hb2⟩
theorem Sents.heap_row {w : World} {a : Nat → Addr} (S : Sents w a) (k : Nat) (h1 : 1 ≤ k) (h2 : k ≤ 10) : ∃ c t, w.heap[(a k).block]? = some (.cells c t (0, 0)) := S.row k h1 h2
set_option maxRecDepth 100000 in
set_option maxHeartbeats 4000000 in
/-- assentkeep.Only of a Fault over the sentinel of that code. -/
theorem only_one (op : ByteArray) (n : Int) (k : Nat) (a : Nat → Addr) (w : World) (h1 : 1 ≤ k) (h2 : k ≤ 10) (S : Sents w a) : Calls Tryd.prog 42 #[.iface 111 (.agg #[.string op, .int .i64 n, .iface 165 (.pointer (some (a k)))]), .int .i64 k] w fun e w' => e = .returned (.bool true) ∧ Below w.heap.size w w' := by
  have hn := fun w : World => run_eql_held_nil (P := Tryd.prog) w 24 111 (.agg #[.string op, .int .i64 n, .iface 165 (.pointer (some (a k)))]) (by kernel_rfl)
  have hk : ((k : Int) == 0) = false := by simp; omega
  go_enter Tryd.func42, Tryd.ntmps42
  go_wp2
  go_loopw [5] (fun v wr => ∃ c : Nat, 1 ≤ c ∧ c ≤ 11 ∧ v = .int .i64 c ∧ Hid (Below w.heap.size w wr)) (fun v _ => 11 - (intOf v).toNat)
  case atStart => exact ⟨1, by omega, by omega, rfl, Below.refl _ _⟩
  case round =>
    obtain ⟨c, hc1, hc2, rfl, hb⟩ := hrel
    by_cases hlt : c ≤ 10
    · have S1 := S.of_below hb.out
      by_cases hck : c = k
      · subst hck
        have he : ((c : Int) == (c : Int)) = true := by simp
        go_wp2_with fail
        refine (error_of c a _ hc1 hlt S1).mono ?_
        rintro e w1 ⟨rfl, rfl⟩
        go_wp2_with fail
        refine (is1_same op n (a c) _).mono ?_
        rintro e w1 ⟨rfl, hb2⟩
        have hb3 : Hid (Below w.heap.size w w1) := hb.out.trans (hb2.mono hb.out.size)
        clear hb2
        go_wp2
        go_roundw
        case rel => exact ⟨c + 1, by omega, by omega, by go_num, hb3⟩
        case measure => simp [intOf]; omega
      · have he : ((c : Int) == (k : Int)) = false := by simp; omega
        obtain ⟨ca, ta, hra⟩ := S1.row k h1 h2
        obtain ⟨cb, tb, hrb⟩ := S1.row c hc1 hlt
        have Hra := Lib.hid hra
        have Hrb := Lib.hid hrb
        clear hra hrb
        go_wp2_with fail
        refine (error_of c a _ hc1 hlt S1).mono ?_
        rintro e w1 ⟨rfl, rfl⟩
        go_wp2_with fail
        refine (is1_other op n (a c) (a k) ca cb ta tb _ (S.ne k c h1 h2 hc1 hlt (fun h => hck h.symm)) Hra.out Hrb.out).mono ?_
        rintro e w1 ⟨rfl, hb2⟩
        have hb3 : Hid (Below w.heap.size w w1) := hb.out.trans (hb2.mono hb.out.size)
        clear hb2
        go_wp2
        go_roundw
        case rel => exact ⟨c + 1, by omega, by omega, by go_num, hb3⟩
        case measure => simp [intOf]; omega
    · go_wp2
      go_ret
      exact ⟨rfl, hb.out⟩
set_option maxRecDepth 100000 in
set_option maxHeartbeats 4000000 in
/-- assentkeep.Only(nil, 0). -/
theorem only_nil (a : Nat → Addr) (w : World) (S : Sents w a) : Calls Tryd.prog 42 #[.nilIface, .int .i64 0] w fun e w' => e = .returned (.bool true) ∧ Below w.heap.size w w' := by
  go_enter Tryd.func42, Tryd.ntmps42
  go_wp2
  go_loopw [5] (fun v wr => ∃ c : Nat, 1 ≤ c ∧ c ≤ 11 ∧ v = .int .i64 c ∧ Hid (Below w.heap.size w wr)) (fun v _ => 11 - (intOf v).toNat)
  case atStart => exact ⟨1, by omega, by omega, rfl, Below.refl _ _⟩
  case round =>
    obtain ⟨c, hc1, hc2, rfl, hb⟩ := hrel
    by_cases hlt : c ≤ 10
    · have S1 := S.of_below hb.out
      have he : ((c : Int) == 0) = false := by simp; omega
      go_wp2_with fail
      refine (error_of c a _ hc1 hlt S1).mono ?_
      rintro e w1 ⟨rfl, rfl⟩
      go_wp2_with fail
      refine (is_nil (a c) _).mono ?_
      rintro e w1 ⟨rfl, hb2⟩
      have hb3 : Hid (Below w.heap.size w w1) := hb.out.trans (hb2.mono hb.out.size)
      clear hb2
      go_wp2
      go_roundw
      case rel => exact ⟨c + 1, by omega, by omega, by go_num, hb3⟩
      case measure => simp [intOf]; omega
    · go_wp2
      go_ret
      exact ⟨rfl, hb.out⟩
end Go.Proofs.YtjnoaidceddpjaaDoor
