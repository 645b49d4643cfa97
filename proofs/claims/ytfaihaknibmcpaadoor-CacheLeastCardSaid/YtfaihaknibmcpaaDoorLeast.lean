/- The law CacheLeast, walked. -/
import Derived.Test.YtfaihaknibmcpaaDoorSteps
import Derived.Test.YtfaihaknibmcpaaDoorRuns
namespace Go.Proofs.YtfaihaknibmcpaaDoor
open Go.RowKit Go.Extern.Stop Go.Stop Go.Extern

/-- What a law's row wants of an argument that is a list of bools. -/
def IsBools (w : World) (A : Option Addr) (len : Nat) : Prop := ∀ i, i < len → ∃ x b, A = some x ∧ w.cell? (x.add i) = some (.bool b)
def b2i (b : Bool) : Int := if b then 1 else 0
def lE (i : Int) (x : Int) (f : Bool) : Ent := ⟨i, 4, 0, 0, 0, x, 0, 0, false, f⟩
def lQ (g b : Nat) (e0 e1 : Ent) (l : List (Int × Int)) : CSt := ⟨0, 1, 2, 2, [⟨b, g, [e0, e1]⟩], l⟩
def lc (g i : Nat) : CSt := if i = 0 then lQ g 0 Ent.none Ent.none [] else if i = 1 then lQ g 1 (lE 0 0 true) Ent.none [] else lQ g 0 (lE 0 0 true) (lE 1 0 true) []
def lm (g i : Nat) : CSt := if i = 0 then lQ g 0 Ent.none Ent.none [(0, 2)] else lQ g 1 (lE 0 0 true) Ent.none [(1, 2)]
def lS (g : Nat) (last x0 x1 : Bool) : CSt := lQ g (if last then 0 else 1) (lE 0 (b2i x0) false) (lE 1 (b2i x1) false) []
theorem l_round (g i : Nat) (hi : i < 2) : wantTo (lc g i) (i : Nat) 2 0 = lm g i ∧ answerOk (lm g i) (dataM (i : Nat) 4 0 0 0 0) = true ∧ answerTo (lm g i) (dataM (i : Nat) 4 0 0 0 0) = lc g (i + 1) := by
  have : i = 0 ∨ i = 1 := by omega
  rcases this with rfl | rfl
  · exact ⟨by kernel_rfl, by kernel_rfl, by kernel_rfl⟩
  · exact ⟨by kernel_rfl, by kernel_rfl, by kernel_rfl⟩
theorem l_first (g : Nat) : readTo (lc g 2) 0 0 = lQ g 1 (lE 0 0 false) (lE 1 0 true) [] ∧ readTo (lQ g 1 (lE 0 0 false) (lE 1 0 true) []) 1 0 = lS g true false false := ⟨by kernel_rfl, by kernel_rfl⟩
theorem l_write (g : Nat) (last x0 x1 nl : Bool) : writeTo (lS g last x0 x1) (b2i nl) 1 1 = lS g nl (x0 || !nl) (x1 || nl) := by
  cases last <;> cases x0 <;> cases x1 <;> cases nl <;> kernel_rfl
theorem l_read (g : Nat) (last x0 x1 nl : Bool) : readTo (lS g last x0 x1) (b2i nl) 1 = lS g nl x0 x1 := by
  cases last <;> cases x0 <;> cases x1 <;> cases nl <;> kernel_rfl
theorem l_end (g : Nat) (last x0 x1 : Bool) (ad : Nat → Addr) : wantSays (lS g last x0 x1) 9 1 0 0 = ⟨4, 0, b2i (!last), 0, 0, 0, 0, 0, 0, 0, 0, 0, false⟩ ∧ wantErr ad (lS g last x0 x1) 9 1 0 = .nilIface := by
  cases last <;> cases x0 <;> cases x1 <;> exact ⟨by kernel_rfl, by kernel_rfl⟩
set_option maxRecDepth 100000 in
set_option maxHeartbeats 8000000 in
theorem cacheLeast_is (A0 : Option Addr) (len0 cap0 : Nat) (write : Bool) (w : World) (hrow : IsBools w A0 len0) (ad : Nat → Addr) (HSE : Sents w ad) :
    Calls Tryd.prog 9 #[.slice A0 len0 cap0, .bool write] w fun e w' => e = .returned (.bool true) ∧ Below w.heap.size w w' := by
  have HS := Lib.hid HSE
  have HZ := Lib.hid hrow
  clear HSE hrow
  go_enter Tryd.func9, Tryd.ntmps9
  go_wp2_with fail
  refine (new_ok ⟨1, 32, 1, 2, 2, 1, 1, 1, 0⟩ 0 1 2 2 (by kernel_rfl) rfl rfl rfl (by omega) (by show (0 : Int) < 1; omega) w ad HS.out).mono ?_
  rintro r w1 ⟨A, g, rfl, hC⟩
  have F1 : Hid (FrameAt (fun _ => False) w w1 w1 A (lc g 0) []) := FrameAt.start hC
  clear hC
  go_wp2_with fail
  go_loopw [7] (fun v wr => ∃ i : Nat, i ≤ 2 ∧ v = .int .i64 i ∧ Hid (FrameAt (fun _ => False) w w1 wr A (lc g i) [])) (fun v _ => 2 - (intOf v).toNat)
  case atStart => exact ⟨0, by omega, rfl, F1⟩
  case round =>
    clear F1
    obtain ⟨i, hi, rfl, F1⟩ := hrel
    have F1 : Hid _ := F1
    by_cases hlt : i < 2
    · obtain ⟨e1, e2, e3⟩ := l_round g i hlt
      have HW := want_is F1.out.cache ad HS.out (i : Nat) 2 0 0
      rw [e1] at HW
      have HW1 := Lib.hid HW
      have E2 := Lib.hid e2
      have E3 := Lib.hid e3
      clear HW e1 e2 e3
      go_wp2_with fail
      refine HW1.out.mono ?_
      rintro r w2 ⟨rfl, hA, hk⟩
      have F2 := Lib.hid (F1.out.step hA hk)
      clear hA hk F1 HW1
      go_wp2_with fail
      have HW := data_is (i : Nat) 4 0 0 0 0 w2
      simp only [Mg.val, dataM] at HW
      refine HW.mono ?_
      clear HW
      rintro r w3 ⟨rfl, hb⟩
      have F3 := Lib.hid (F2.out.below hb)
      clear hb F2
      go_wp2_with fail
      have HW := answer_is F3.out.cache ad HS.out (dataM (i : Nat) 4 0 0 0 0)
      rw [E2.out, E3.out] at HW
      simp only [Mg.val, dataM] at HW
      refine HW.mono ?_
      clear HW
      rintro r w4 ⟨rfl, hA, hk⟩
      have F4 := Lib.hid (F3.out.step hA hk)
      clear hA hk F3 E2 E3
      generalize answerSays _ _ = y at *
      go_upto_region 9 with fail
      generalize hW : w4.alloc _ = w5
      have F5 := Lib.hid (F4.out.skip hW)
      clear hW F4
      go_wp2_with fail
      go_roundw
      case rel => exact ⟨i + 1, by omega, by go_num, F5⟩
      case measure => simp [intOf]; omega
    · obtain rfl : i = 2 := by omega
      go_wp2_with fail
      have HW := read_is F1.out.cache ad HS.out 0 0
      rw [(l_first g).1] at HW
      refine HW.mono ?_
      clear HW
      rintro r w2 ⟨rfl, hA, hk⟩
      have F2 := Lib.hid (F1.out.step hA hk)
      clear hA hk F1
      go_wp2_with fail
      have HW := read_is F2.out.cache ad HS.out 1 0
      rw [(l_first g).2] at HW
      refine HW.mono ?_
      clear HW
      rintro r w3 ⟨rfl, hA, hk⟩
      have F3 := Lib.hid (F2.out.step hA hk)
      clear hA hk F2
      go_wp2_with fail
      go_loopw [10, 11] (fun u v wr => ∃ (i : Nat) (z : Int) (last x0 x1 : Bool), i ≤ 20 ∧ v = .int .i64 i ∧ u = .int .i64 z ∧ Hid (z = b2i last) ∧ Hid (FrameAt (fun _ => False) w w1 wr A (lS g last x0 x1) [])) (fun _ v _ => 20 - (intOf v).toNat)
      case atStart => exact ⟨0, 1, true, false, false, by omega, rfl, rfl, rfl, F3⟩
      case round =>
        clear F3
        obtain ⟨i, z, last, x0, x1, hi, rfl, rfl, HL, F4⟩ := hrel
        have F4 : Hid _ := F4
        by_cases hlt : i < len0
        · by_cases h20 : i < 20
          · obtain ⟨xa, b, rfl, hx⟩ := HZ.out i hlt
            have hx1 := (F4.out.based.cell (cell_lt hx)).trans hx
            clear hx HL
            cases b
            all_goals cases write
            · go_wp2_with fail
              have HW := read_is F4.out.cache ad HS.out 0 1
              rw [show readTo (lS g last x0 x1) 0 1 = lS g false x0 x1 from l_read g last x0 x1 false] at HW
              refine HW.mono ?_
              clear HW
              rintro r w5 ⟨rfl, hA, hk⟩
              have F5 := Lib.hid (F4.out.step hA hk)
              clear hA hk F4 hx1
              go_wp2_with fail
              go_roundw
              case rel => exact ⟨i + 1, 0, false, _, _, by omega, by go_num, rfl, rfl, F5⟩
              case measure => simp [intOf]; omega
            · go_wp2_with fail
              have HW := write_is F4.out.cache ad HS.out 0 1 1
              rw [show writeTo (lS g last x0 x1) 0 1 1 = lS g false (x0 || !false) (x1 || false) from l_write g last x0 x1 false] at HW
              refine HW.mono ?_
              clear HW
              rintro r w5 ⟨rfl, hA, hk⟩
              have F5 := Lib.hid (F4.out.step hA hk)
              clear hA hk F4 hx1
              go_wp2_with fail
              go_roundw
              case rel => exact ⟨i + 1, 0, false, _, _, by omega, by go_num, rfl, rfl, F5⟩
              case measure => simp [intOf]; omega
            · go_wp2_with fail
              have HW := read_is F4.out.cache ad HS.out 1 1
              rw [show readTo (lS g last x0 x1) 1 1 = lS g true x0 x1 from l_read g last x0 x1 true] at HW
              refine HW.mono ?_
              clear HW
              rintro r w5 ⟨rfl, hA, hk⟩
              have F5 := Lib.hid (F4.out.step hA hk)
              clear hA hk F4 hx1
              go_wp2_with fail
              go_roundw
              case rel => exact ⟨i + 1, 1, true, _, _, by omega, by go_num, rfl, rfl, F5⟩
              case measure => simp [intOf]; omega
            · go_wp2_with fail
              have HW := write_is F4.out.cache ad HS.out 1 1 1
              rw [show writeTo (lS g last x0 x1) 1 1 1 = lS g true (x0 || !true) (x1 || true) from l_write g last x0 x1 true] at HW
              refine HW.mono ?_
              clear HW
              rintro r w5 ⟨rfl, hA, hk⟩
              have F5 := Lib.hid (F4.out.step hA hk)
              clear hA hk F4 hx1
              go_wp2_with fail
              go_roundw
              case rel => exact ⟨i + 1, 1, true, _, _, by omega, by go_num, rfl, rfl, F5⟩
              case measure => simp [intOf]; omega
          · have hEX : i = 20 := by omega
            subst hEX
            clear hi h20 HZ
            cases last with
            | false =>
              obtain rfl : z = 0 := HL.out
              clear HL
              have hy : wantSays (lS g false x0 x1) 9 1 0 0 = ⟨4, 0, 1, 0, 0, 0, 0, 0, 0, 0, 0, 0, false⟩ := (l_end g false x0 x1 ad).1
              have HW := want_is F4.out.cache ad HS.out 9 1 0 0
              rw [hy, (l_end g false x0 x1 ad).2] at HW
              simp only [Mg.val] at HW
              have HW1 := Lib.hid HW
              clear HW hy
              go_wp2_with fail
              refine HW1.out.mono ?_
              clear HW1
              rintro r w5 ⟨rfl, hA, hk⟩
              have F5 := Lib.hid (F4.out.step hA hk)
              clear hA hk F4
              go_upto_region 24 with fail
              generalize hW : w5.alloc _ = w6
              have F6 := Lib.hid (F5.out.layAs (cs := (Mg.cells ⟨4, 0, 1, 0, 0, 0, 0, 0, 0, 0, 0, 0, false⟩).toArray) (t := 33) hW)
              clear hW F5
              generalize w5.heap.size = b12 at *
              have he := fun w : World => eqMsg_same ⟨4, 0, 1, 0, 0, 0, 0, 0, 0, 0, 0, 0, false⟩ w
              simp only [Mg.val] at he
              obtain ⟨p0, p1, p2, p3, p4, p5, p6, p7, p8, p9, p10, p11, p12⟩ := msg_cells (F6.out.at 0 rfl)
              have FZ := Lib.hid F6.out.based
              go_wp2_with fail
              refine (cacheRuns_is w6 ad (HS.out.of_below FZ.out)).mono ?_
              rintro r wz ⟨rfl, hb⟩
              have HZZ := Lib.hid (FZ.out.trans (hb.mono FZ.out.size))
              clear hb F6 FZ he p0 p1 p2 p3 p4 p5 p6 p7 p8 p9 p10 p11 p12
              go_wp2
              go_ret
              exact ⟨rfl, HZZ.out⟩
            | true =>
              obtain rfl : z = 1 := HL.out
              clear HL
              have hy : wantSays (lS g true x0 x1) 9 1 0 0 = ⟨4, 0, 0, 0, 0, 0, 0, 0, 0, 0, 0, 0, false⟩ := (l_end g true x0 x1 ad).1
              have HW := want_is F4.out.cache ad HS.out 9 1 0 0
              rw [hy, (l_end g true x0 x1 ad).2] at HW
              simp only [Mg.val] at HW
              have HW1 := Lib.hid HW
              clear HW hy
              go_wp2_with fail
              refine HW1.out.mono ?_
              clear HW1
              rintro r w5 ⟨rfl, hA, hk⟩
              have F5 := Lib.hid (F4.out.step hA hk)
              clear hA hk F4
              go_upto_region 24 with fail
              generalize hW : w5.alloc _ = w6
              have F6 := Lib.hid (F5.out.layAs (cs := (Mg.cells ⟨4, 0, 0, 0, 0, 0, 0, 0, 0, 0, 0, 0, false⟩).toArray) (t := 33) hW)
              clear hW F5
              generalize w5.heap.size = b12 at *
              have he := fun w : World => eqMsg_same ⟨4, 0, 0, 0, 0, 0, 0, 0, 0, 0, 0, 0, false⟩ w
              simp only [Mg.val] at he
              obtain ⟨p0, p1, p2, p3, p4, p5, p6, p7, p8, p9, p10, p11, p12⟩ := msg_cells (F6.out.at 0 rfl)
              have FZ := Lib.hid F6.out.based
              go_wp2_with fail
              refine (cacheRuns_is w6 ad (HS.out.of_below FZ.out)).mono ?_
              rintro r wz ⟨rfl, hb⟩
              have HZZ := Lib.hid (FZ.out.trans (hb.mono FZ.out.size))
              clear hb F6 FZ he p0 p1 p2 p3 p4 p5 p6 p7 p8 p9 p10 p11 p12
              go_wp2
              go_ret
              exact ⟨rfl, HZZ.out⟩
        · clear HZ
          cases last with
          | false =>
            obtain rfl : z = 0 := HL.out
            clear HL
            have hy : wantSays (lS g false x0 x1) 9 1 0 0 = ⟨4, 0, 1, 0, 0, 0, 0, 0, 0, 0, 0, 0, false⟩ := (l_end g false x0 x1 ad).1
            have HW := want_is F4.out.cache ad HS.out 9 1 0 0
            rw [hy, (l_end g false x0 x1 ad).2] at HW
            simp only [Mg.val] at HW
            have HW1 := Lib.hid HW
            clear HW hy
            go_wp2_with fail
            refine HW1.out.mono ?_
            clear HW1
            rintro r w5 ⟨rfl, hA, hk⟩
            have F5 := Lib.hid (F4.out.step hA hk)
            clear hA hk F4
            go_upto_region 24 with fail
            generalize hW : w5.alloc _ = w6
            have F6 := Lib.hid (F5.out.layAs (cs := (Mg.cells ⟨4, 0, 1, 0, 0, 0, 0, 0, 0, 0, 0, 0, false⟩).toArray) (t := 33) hW)
            clear hW F5
            generalize w5.heap.size = b12 at *
            have he := fun w : World => eqMsg_same ⟨4, 0, 1, 0, 0, 0, 0, 0, 0, 0, 0, 0, false⟩ w
            simp only [Mg.val] at he
            obtain ⟨p0, p1, p2, p3, p4, p5, p6, p7, p8, p9, p10, p11, p12⟩ := msg_cells (F6.out.at 0 rfl)
            have FZ := Lib.hid F6.out.based
            go_wp2_with fail
            refine (cacheRuns_is w6 ad (HS.out.of_below FZ.out)).mono ?_
            rintro r wz ⟨rfl, hb⟩
            have HZZ := Lib.hid (FZ.out.trans (hb.mono FZ.out.size))
            clear hb F6 FZ he p0 p1 p2 p3 p4 p5 p6 p7 p8 p9 p10 p11 p12
            go_wp2
            go_ret
            exact ⟨rfl, HZZ.out⟩
          | true =>
            obtain rfl : z = 1 := HL.out
            clear HL
            have hy : wantSays (lS g true x0 x1) 9 1 0 0 = ⟨4, 0, 0, 0, 0, 0, 0, 0, 0, 0, 0, 0, false⟩ := (l_end g true x0 x1 ad).1
            have HW := want_is F4.out.cache ad HS.out 9 1 0 0
            rw [hy, (l_end g true x0 x1 ad).2] at HW
            simp only [Mg.val] at HW
            have HW1 := Lib.hid HW
            clear HW hy
            go_wp2_with fail
            refine HW1.out.mono ?_
            clear HW1
            rintro r w5 ⟨rfl, hA, hk⟩
            have F5 := Lib.hid (F4.out.step hA hk)
            clear hA hk F4
            go_upto_region 24 with fail
            generalize hW : w5.alloc _ = w6
            have F6 := Lib.hid (F5.out.layAs (cs := (Mg.cells ⟨4, 0, 0, 0, 0, 0, 0, 0, 0, 0, 0, 0, false⟩).toArray) (t := 33) hW)
            clear hW F5
            generalize w5.heap.size = b12 at *
            have he := fun w : World => eqMsg_same ⟨4, 0, 0, 0, 0, 0, 0, 0, 0, 0, 0, 0, false⟩ w
            simp only [Mg.val] at he
            obtain ⟨p0, p1, p2, p3, p4, p5, p6, p7, p8, p9, p10, p11, p12⟩ := msg_cells (F6.out.at 0 rfl)
            have FZ := Lib.hid F6.out.based
            go_wp2_with fail
            refine (cacheRuns_is w6 ad (HS.out.of_below FZ.out)).mono ?_
            rintro r wz ⟨rfl, hb⟩
            have HZZ := Lib.hid (FZ.out.trans (hb.mono FZ.out.size))
            clear hb F6 FZ he p0 p1 p2 p3 p4 p5 p6 p7 p8 p9 p10 p11 p12
            go_wp2
            go_ret
            exact ⟨rfl, HZZ.out⟩
end Go.Proofs.YtfaihaknibmcpaaDoor
