/- What assentkeep's Is and Only answer of a Fault over a Fault over a sentinel. -/
import Derived.Test.YtfaihaknibmcpaaGreatDoorKit
namespace Go.Proofs.YtfaihaknibmcpaaGreatDoor
open Go.RowKit Go.Extern.Stop Go.Stop Go.Extern

set_option maxRecDepth 100000 in
set_option maxHeartbeats 4000000 in
theorem keepIs_two (op op1 : ByteArray) (n n1 : Int) (k : Nat) (a : Nat → Addr) (w : World) (h1 : 1 ≤ k) (h2 : k ≤ 10) (S : Sents w a) : Calls Tryz.prog 13 #[.iface 91 (.agg #[.string op, .int .i64 n, .iface 91 (.agg #[.string op1, .int .i64 n1, .iface 195 (.pointer (some (a k)))])]), .int .i64 k, .string op, .int .i64 n] w fun e w' => e = .returned (.bool true) ∧ Below w.heap.size w w' := by
  have hk : ((k : Int) == 0) = false := by simp; omega
  have hn := fun w : World => run_neq_held_nil (P := Tryz.prog) w 25 91 (.agg #[.string op, .int .i64 n, .iface 91 (.agg #[.string op1, .int .i64 n1, .iface 195 (.pointer (some (a k)))])]) (by kernel_rfl)
  go_enter Tryz.func13, Tryz.ntmps13
  go_wp2_with fail
  refine (error_of k a _ h1 h2 (S.of_below ((Below.refl _ _).alloc (Nat.le_refl _) _))).mono ?_
  rintro e w1 ⟨rfl, rfl⟩
  go_wp2_with fail
  refine (is2_same op n op1 n1 (a k) _).mono ?_
  rintro e w1 ⟨rfl, hb⟩
  have hB : w1.heap[w.heap.size]? = some (.cells #[.string ByteArray.empty, .int .i64 0, .nilIface] 91 (0, 0)) := by
    rw [hb.block _ (by simp)]
    exact heap_alloc_new _ _
  have hb1 : Below w.heap.size w w1 := ((Below.refl _ _).alloc (Nat.le_refl _) _).trans (hb.mono (by simp))
  have S1 := S.of_below hb1
  have hz : w.heap.size < w1.heap.size := lt_of_heap hB
  go_wp2_with fail
  refine (as_hit op n _ _ w.heap.size _ _ _ _ _ S1.ety hB S.big).mono ?_
  rintro e w2 ⟨rfl, hB2, hb2⟩
  have d0 : w2.cell? ⟨w.heap.size, 0, none⟩ = some (.string op) := by simp [World.cell?, hB2]
  have d1 : w2.cell? ⟨w.heap.size, 1, none⟩ = some (.int .i64 n) := by simp [World.cell?, hB2]
  go_wp2
  go_ret
  exact ⟨rfl, hb1.trans hb2⟩
set_option maxRecDepth 100000 in
set_option maxHeartbeats 4000000 in
theorem only_two (op op1 : ByteArray) (n n1 : Int) (k : Nat) (a : Nat → Addr) (w : World) (h1 : 1 ≤ k) (h2 : k ≤ 10) (S : Sents w a) : Calls Tryz.prog 14 #[.iface 91 (.agg #[.string op, .int .i64 n, .iface 91 (.agg #[.string op1, .int .i64 n1, .iface 195 (.pointer (some (a k)))])]), .int .i64 k] w fun e w' => e = .returned (.bool true) ∧ Below w.heap.size w w' := by
  have hn := fun w : World => run_eql_held_nil (P := Tryz.prog) w 25 91 (.agg #[.string op, .int .i64 n, .iface 91 (.agg #[.string op1, .int .i64 n1, .iface 195 (.pointer (some (a k)))])]) (by kernel_rfl)
  have hk : ((k : Int) == 0) = false := by simp; omega
  go_enter Tryz.func14, Tryz.ntmps14
  go_wp2
  go_loopw [5] (fun v wr => ∃ c : Nat, 1 ≤ c ∧ c ≤ 11 ∧ v = .int .i64 c ∧ Hid (Below w.heap.size w wr)) (fun v _ => 11 - (intOf v).toNat)
  case atStart => exact ⟨1, by omega, by omega, rfl, Below.refl _ _⟩
  case round =>
    obtain ⟨c, hc1, hc2, rfl, hb⟩ := hrel
    by_cases hlt : c ≤ 10
    · have S1 := S.of_below hb.out
      by_cases hck : c = k
      · subst hck
        have he : ((c : Int) == (c : Int)) = true := by simp
        go_wp2_with fail
        refine (error_of c a _ hc1 hlt S1).mono ?_
        rintro e w1 ⟨rfl, rfl⟩
        go_wp2_with fail
        refine (is2_same op n op1 n1 (a c) _).mono ?_
        rintro e w1 ⟨rfl, hb2⟩
        have hb3 : Hid (Below w.heap.size w w1) := hb.out.trans (hb2.mono hb.out.size)
        clear hb2
        go_wp2
        go_roundw
        case rel => exact ⟨c + 1, by omega, by omega, by go_num, hb3⟩
        case measure => simp [intOf]; omega
      · have he : ((c : Int) == (k : Int)) = false := by simp; omega
        obtain ⟨ca, ta, hra⟩ := S1.row k h1 h2
        obtain ⟨cb, tb, hrb⟩ := S1.row c hc1 hlt
        have Hra := Lib.hid hra
        have Hrb := Lib.hid hrb
        clear hra hrb
        go_wp2_with fail
        refine (error_of c a _ hc1 hlt S1).mono ?_
        rintro e w1 ⟨rfl, rfl⟩
        go_wp2_with fail
        refine (is2_other op n op1 n1 (a c) (a k) ca cb ta tb _ (S.ne k c h1 h2 hc1 hlt (fun h => hck h.symm)) Hra.out Hrb.out).mono ?_
        rintro e w1 ⟨rfl, hb2⟩
        have hb3 : Hid (Below w.heap.size w w1) := hb.out.trans (hb2.mono hb.out.size)
        clear hb2
        go_wp2
        go_roundw
        case rel => exact ⟨c + 1, by omega, by omega, by go_num, hb3⟩
        case measure => simp [intOf]; omega
    · go_wp2
      go_ret
      exact ⟨rfl, hb.out⟩
theorem keepIs_in (x y : Int) (k : Nat) (ad : Nat → Addr) (w : World) (h1 : 1 ≤ k) (h2 : k ≤ 10) (S : Sents w ad) : Calls Tryz.prog 13 #[faultIn x (sayAdd y (ad k)), .int .i64 k, .string ⟨#[99, 97, 99, 104, 101, 46, 87, 97, 110, 116]⟩, .int .i64 x] w fun e w' => e = .returned (.bool true) ∧ Below w.heap.size w w' := keepIs_two _ _ x y k ad w h1 h2 S
theorem only_in (x y : Int) (k : Nat) (ad : Nat → Addr) (w : World) (h1 : 1 ≤ k) (h2 : k ≤ 10) (S : Sents w ad) : Calls Tryz.prog 14 #[faultIn x (sayAdd y (ad k)), .int .i64 k] w fun e w' => e = .returned (.bool true) ∧ Below w.heap.size w w' := only_two _ _ x y k ad w h1 h2 S
theorem only_want (x : Int) (k : Nat) (ad : Nat → Addr) (w : World) (h1 : 1 ≤ k) (h2 : k ≤ 10) (S : Sents w ad) : Calls Tryz.prog 14 #[faultIn x (sentV (ad k)), .int .i64 k] w fun e w' => e = .returned (.bool true) ∧ Below w.heap.size w w' := only_one _ x k ad w h1 h2 S
end Go.Proofs.YtfaihaknibmcpaaGreatDoor
