/- The victim is a way; what was touched last isn't it; touching each victim goes through all ways, once each. For any bits, any number of ways, any list of touches: the walk over the printed contracts. -/
import Derived.Test.YtakabjeamkffpaaFactPlruTurns
namespace Go.Proofs.Ytakabjeamkffpaa.Turns
open Go.RowKit Go.Proofs.YtakabjeamkffpaaW.PrintWords Go.Proofs.YtakabjeamkffpaaW.PrintLast Go.Proofs.YtakabjeamkffpaaW.PrintMore Go.Proofs.Ytakabjeamkffpaa.PPlruTurns
theorem cell_lt {w : World} {p : Addr} {v : Value} (h : w.cell? p = some v) : p.block < w.heap.size := by
  by_cases hlt : p.block < w.heap.size
  · exact hlt
  · simp [World.cell?, Array.getElem?_eq_none (Nat.le_of_not_lt hlt)] at h
theorem lt_of_heap {w : World} {k : Nat} {x : Obj} (h : w.heap[k]? = some x) : k < w.heap.size := (Array.getElem?_eq_some_iff.1 h).1
theorem heap_setCell {w : World} {t o : Nat} {arr : Array Value} {ty : TypeId} (h : w.heap[t]? = some (.cells arr ty (0, 0))) (u : Value) : (w.setCell ⟨t, o, none⟩ u).heap[t]? = some (.cells (arr.setIfInBounds o u) ty (0, 0)) := by
  rw [setCell_eq_setRow w t o arr ty (0, 0) u h]; exact setRow_heap w t arr _ ty (0, 0) h
set_option maxRecDepth 100000 in
set_option maxHeartbeats 8000000 in
theorem walk (b0 : Nat) (hb0 : b0 < 256) (n : Int) (A : Option Addr) (len cap : Nat) (w : World) (hz : ∀ i : Nat, i < len → ∃ x : Int, ∃ ad, A = some ad ∧ w.cell? (ad.add i) = some (.int .i64 x)) :
    Calls Try.prog 5 #[.int .u8 (b0 : Nat), .int .i64 n, .slice A len cap] w fun e w' => e = .returned (.bool true) ∧ Below w.heap.size w w' := by
  have HZ := Lib.hid hz
  clear hz
  obtain ⟨r, hr, r0, r3⟩ := within_some n 0 3 (by omega) (by omega) (by omega)
  have HW := Lib.hid hr
  clear hr
  obtain ⟨m, hm, hsh⟩ : ∃ m : Int, m ∈ [(1 : Int), 2, 4, 8] ∧ wrap64 (2 ^ r.toNat) = m := by
    obtain rfl | rfl | rfl | rfl : r = 0 ∨ r = 1 ∨ r = 2 ∨ r = 3 := by omega
    · exact ⟨1, by simp, by decide +kernel⟩
    · exact ⟨2, by simp, by decide +kernel⟩
    · exact ⟨4, by simp, by decide +kernel⟩
    · exact ⟨8, by simp, by decide +kernel⟩
  go_enter Try.func5, Try.ntmps5
  go_wp2_with fail
  refine (assentbook_Within.calls n 0 3 r w HW.out).mono ?_
  rintro e w1 ⟨rfl, ⟨nd, rfl⟩⟩
  have m1 : 1 ≤ m ∧ m ≤ 8 := by simp at hm; omega
  have HM := Lib.hid hm
  clear hm
  have HR : Hid (∀ w, _) := fun w => assentlaw5_PlruRuns.calls 10 true w runs
  have sw : wrap64 (m - 1) = m - 1 := by unfold wrap64; omega
  go_wp2_with fail
  have HB1 : Hid (Below w.heap.size w (w.drewN nd)) := (Drawn0.step (Drawn0.refl w) nd).below
  generalize w.drewN nd = w1 at *
  simp only [hsh]
  clear hsh
  go_loopw [0, 8] (fun v0 v8 wr => ∃ b i : Nat, b < 256 ∧ i ≤ len ∧ i ≤ 60 ∧ v0 = .int .u8 (b : Nat) ∧ v8 = .int .i64 i ∧ Hid (Below w.heap.size w wr)) (fun _ v8 _ => 60 - (intOf v8).toNat)
  case atStart => exact ⟨b0, 0, hb0, by omega, by omega, rfl, rfl, HB1⟩
  case round =>
    obtain ⟨b, i, hb, hi, hi6, rfl, rfl, HB⟩ := hrel
    by_cases hlt : i < len
    · by_cases h60 : i < 60
      · obtain ⟨x, ad, rfl, hx⟩ := HZ.out i hlt
        have hx1 := (HB.out.cell (cell_lt hx)).trans hx
        clear hx
        obtain ⟨y, hy, y0, y1⟩ := within_some x 0 (m - 1) (by omega) (by omega) (by omega)
        have HY := Lib.hid hy
        clear hy
        obtain ⟨y, rfl⟩ : ∃ k : Nat, y = (k : Int) := ⟨y.toNat, by omega⟩
        obtain ⟨c, hc, ht, v, hv8, hv, hvm, hne⟩ := touch_all b hb m HM.out y (by omega) (by omega)
        have HT := Lib.hid ht
        have HV := Lib.hid hv
        clear ht hv
        go_wp2_with fail
        refine (assentbook_Within.calls x 0 (m - 1) y wr HY.out).mono ?_
        rintro e w2 ⟨rfl, hd2⟩
        have HB2 := Lib.hid (HB.out.trans (hd2.below.mono HB.out.size))
        clear hd2
        go_wp2_with fail
        refine (plru_Touch.calls 20 b m y c w2 HT.out).mono ?_
        rintro e w3 ⟨rfl, hd3⟩
        have HB3 := Lib.hid (HB2.out.trans (hd3.below.mono HB2.out.size))
        clear hd3
        go_wp2_with fail
        refine (plru_Victim.calls 20 c m v w3 HV.out).mono ?_
        rintro e w4 ⟨rfl, hd4⟩
        have HB4 := Lib.hid (HB3.out.trans (hd4.below.mono HB3.out.size))
        clear hd4
        have f1 : ¬ (v : Int) < 0 := by omega
        have f2 : decide (m ≤ (v : Int)) = false := by simp; omega
        by_cases hm1 : 1 < m
        · have f3 : ((v : Int) == (y : Int)) = false := by have := hne hm1; simp; omega
          clear hne
          go_wp2_with fail
          go_roundw
          case rel => exact ⟨c, i + 1, hc, by omega, by omega, rfl, by go_num, HB4⟩
          case measure => simp [intOf]; omega
        · clear hne
          have f3 : decide (1 < m) = false := by simpa using hm1
          go_wp2_with fail
          go_roundw
          case rel => exact ⟨c, i + 1, hc, by omega, by omega, rfl, by go_num, HB4⟩
          case measure => simp [intOf]; omega
      · have g1 : ¬ (i : Int) < 60 := by omega
        have HB1 := HB
        clear HB
        go_wp2_with fail
        generalize hW : wr.alloc _ = w2
        have hblk : w2.heap[wr.heap.size]? = some (.cells #[.bool false, .bool false, .bool false, .bool false, .bool false, .bool false, .bool false, .bool false] 28 (0, 0)) := by rw [← hW]; exact heap_alloc_new _ _
        have HB2 : Hid (Below w.heap.size w w2) := by rw [← hW]; exact HB1.out.alloc HB1.out.size _
        have hg : w.heap.size ≤ wr.heap.size := HB1.out.size
        have HK0 := Lib.hid hblk
        clear hW hblk HB1 HZ hi hi6
        generalize wr.heap.size = g at *
        go_loopw [0, 12] (fun v0 v12 wq => ∃ j : Nat, (j : Int) ≤ m ∧ v0 = .int .u8 ((turned m b j).1 : Nat) ∧ v12 = .int .i64 j ∧ Hid (Below w.heap.size w wq) ∧ Hid (wq.heap[g]? = some (.cells ((turned m b j).2.map Value.bool).toArray 28 (0, 0)))) (fun _ v12 _ => 8 - (intOf v12).toNat)
        case atStart => exact ⟨0, by omega, rfl, rfl, HB2, HK0⟩
        case round =>
          obtain ⟨j, hj, rfl, rfl, HB, HK⟩ := hrel
          by_cases hlt2 : (j : Int) < m
          · obtain ⟨v, hv8, hvm, hvic, hfree, htch, hset, hlen⟩ := turn_all b hb m HM.out j (by omega) hlt2
            have HV := Lib.hid hvic
            have HT := Lib.hid htch
            have HS := Lib.hid hset
            have hcell : wr.cell? ⟨g, v, none⟩ = some (.bool false) := by
              have hk := HK.out
              have e : (turned m b j).2[v]? = some false := by
                have hl : v < (turned m b j).2.length := by omega
                rw [List.getElem?_eq_getElem hl]
                rw [List.getD_eq_getElem?_getD, List.getElem?_eq_getElem hl] at hfree
                simpa using hfree
              simp [World.cell?, hk, e]
            clear hvic htch hset hfree hlen
            generalize hc1 : (turned m b j).1 = c at *
            generalize hc2 : (turned m b (j + 1)).1 = c' at *
            have HC2 := Lib.hid hc2
            clear hc1 hc2
            go_wp2_with fail
            refine (plru_Victim.calls 20 c m v _ HV.out).mono ?_
            rintro e w3 ⟨rfl, hd3⟩
            have hcell3 := (hd3.below.cell (cell_lt hcell)).trans hcell
            have HB3 := Lib.hid (HB.out.trans (hd3.below.mono HB.out.size))
            have HK3 := Lib.hid ((hd3.below.block g (lt_of_heap HK.out)).trans HK.out)
            clear hd3 hcell
            have f1 : decide ((v : Int) < 0) = false := by simp
            have f2 : decide (m ≤ (v : Int)) = false := by simp; omega
            have f3 : (v : Int) < 8 := by omega
            have hfz : w3.frozen? ⟨g, v, none⟩ = false := by simp [World.frozen?, HK3.out]
            go_wp2_with fail
            refine (plru_Touch.calls 20 c m v c' _ HT.out).mono ?_
            rintro e w4 ⟨rfl, hd4⟩
            have HB4 : Hid (Below w.heap.size w (w3.setCell ⟨g, v, none⟩ (.bool true))) := HB3.out.setCell hg _
            have HB5 := Lib.hid (HB4.out.trans (hd4.below.mono HB4.out.size))
            have hk4 := heap_setCell (o := v) HK3.out (.bool true)
            have HK5 := Lib.hid ((hd4.below.block g (lt_of_heap hk4)).trans hk4)
            clear hd4 hk4 HB4 hcell3 hfz
            go_wp2_with fail
            go_roundw
            case rel => exact ⟨j + 1, by omega, by rw [HC2.out], by go_num, HB5, by have h5 := HK5.out; have hs := HS.out; refine h5.trans ?_; rw [hs, List.setIfInBounds_toArray, List.map_set]⟩
            case measure => simp [intOf]; omega
          · go_wp2_with fail
            refine (HR.out _).mono ?_
            rintro e w5 ⟨rfl, hd5⟩
            have HB5 := Lib.hid (HB.out.trans (hd5.below.mono HB.out.size))
            clear hd5
            go_wp2
            go_ret
            exact ⟨rfl, HB5.out⟩
    · have g1 : ¬ (i : Int) < (len : Int) := by omega
      have HB1 := HB
      clear HB
      go_wp2_with fail
      generalize hW : wr.alloc _ = w2
      have hblk : w2.heap[wr.heap.size]? = some (.cells #[.bool false, .bool false, .bool false, .bool false, .bool false, .bool false, .bool false, .bool false] 28 (0, 0)) := by rw [← hW]; exact heap_alloc_new _ _
      have HB2 : Hid (Below w.heap.size w w2) := by rw [← hW]; exact HB1.out.alloc HB1.out.size _
      have hg : w.heap.size ≤ wr.heap.size := HB1.out.size
      have HK0 := Lib.hid hblk
      clear hW hblk HB1 HZ hi hi6
      generalize wr.heap.size = g at *
      go_loopw [0, 12] (fun v0 v12 wq => ∃ j : Nat, (j : Int) ≤ m ∧ v0 = .int .u8 ((turned m b j).1 : Nat) ∧ v12 = .int .i64 j ∧ Hid (Below w.heap.size w wq) ∧ Hid (wq.heap[g]? = some (.cells ((turned m b j).2.map Value.bool).toArray 28 (0, 0)))) (fun _ v12 _ => 8 - (intOf v12).toNat)
      case atStart => exact ⟨0, by omega, rfl, rfl, HB2, HK0⟩
      case round =>
        obtain ⟨j, hj, rfl, rfl, HB, HK⟩ := hrel
        by_cases hlt2 : (j : Int) < m
        · obtain ⟨v, hv8, hvm, hvic, hfree, htch, hset, hlen⟩ := turn_all b hb m HM.out j (by omega) hlt2
          have HV := Lib.hid hvic
          have HT := Lib.hid htch
          have HS := Lib.hid hset
          have hcell : wr.cell? ⟨g, v, none⟩ = some (.bool false) := by
            have hk := HK.out
            have e : (turned m b j).2[v]? = some false := by
              have hl : v < (turned m b j).2.length := by omega
              rw [List.getElem?_eq_getElem hl]
              rw [List.getD_eq_getElem?_getD, List.getElem?_eq_getElem hl] at hfree
              simpa using hfree
            simp [World.cell?, hk, e]
          clear hvic htch hset hfree hlen
          generalize hc1 : (turned m b j).1 = c at *
          generalize hc2 : (turned m b (j + 1)).1 = c' at *
          have HC2 := Lib.hid hc2
          clear hc1 hc2
          go_wp2_with fail
          refine (plru_Victim.calls 20 c m v _ HV.out).mono ?_
          rintro e w3 ⟨rfl, hd3⟩
          have hcell3 := (hd3.below.cell (cell_lt hcell)).trans hcell
          have HB3 := Lib.hid (HB.out.trans (hd3.below.mono HB.out.size))
          have HK3 := Lib.hid ((hd3.below.block g (lt_of_heap HK.out)).trans HK.out)
          clear hd3 hcell
          have f1 : decide ((v : Int) < 0) = false := by simp
          have f2 : decide (m ≤ (v : Int)) = false := by simp; omega
          have f3 : (v : Int) < 8 := by omega
          have hfz : w3.frozen? ⟨g, v, none⟩ = false := by simp [World.frozen?, HK3.out]
          go_wp2_with fail
          refine (plru_Touch.calls 20 c m v c' _ HT.out).mono ?_
          rintro e w4 ⟨rfl, hd4⟩
          have HB4 : Hid (Below w.heap.size w (w3.setCell ⟨g, v, none⟩ (.bool true))) := HB3.out.setCell hg _
          have HB5 := Lib.hid (HB4.out.trans (hd4.below.mono HB4.out.size))
          have hk4 := heap_setCell (o := v) HK3.out (.bool true)
          have HK5 := Lib.hid ((hd4.below.block g (lt_of_heap hk4)).trans hk4)
          clear hd4 hk4 HB4 hcell3 hfz
          go_wp2_with fail
          go_roundw
          case rel => exact ⟨j + 1, by omega, by rw [HC2.out], by go_num, HB5, by have h5 := HK5.out; have hs := HS.out; refine h5.trans ?_; rw [hs, List.setIfInBounds_toArray, List.map_set]⟩
          case measure => simp [intOf]; omega
        · go_wp2_with fail
          refine (HR.out _).mono ?_
          rintro e w5 ⟨rfl, hd5⟩
          have HB5 := Lib.hid (HB.out.trans (hd5.below.mono HB.out.size))
          clear hd5
          go_wp2
          go_ret
          exact ⟨rfl, HB5.out⟩
end Go.Proofs.Ytakabjeamkffpaa.Turns
