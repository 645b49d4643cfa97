/- The law CacheRuns, walked. -/
import Derived.Test.YtfaihaknibmcpaaGreatDoorKit
namespace Go.Proofs.YtfaihaknibmcpaaGreatDoor
open Go.RowKit Go.Extern.Stop Go.Stop Go.Extern

def r0 (g : Nat) : CSt := ⟨0, 1, 1, 2, newSets g 1 1, []⟩
def r1 (g : Nat) : CSt := ⟨0, 1, 1, 2, [⟨0, g, [Ent.none]⟩], [(3, 1)]⟩
def r2 (g : Nat) : CSt := ⟨0, 1, 1, 2, [⟨0, g, [⟨3, 2, 0, 0, 7, 0, 0, 0, false, true⟩]⟩], []⟩
def r3 (g : Nat) : CSt := ⟨0, 1, 1, 2, [⟨0, g, [⟨3, 2, 0, 0, 7, 0, 0, 0, false, false⟩]⟩], []⟩
def r4 (g : Nat) : CSt := ⟨0, 1, 1, 2, [⟨0, g, [⟨3, 4, 0, 0, 7, 9, 0, 0, false, false⟩]⟩], []⟩
def r5 (g : Nat) : CSt := ⟨0, 1, 1, 2, [⟨0, g, [⟨3, 1, 0, 0, 7, 9, 0, 0, false, false⟩]⟩], []⟩
def r6 (g : Nat) : CSt := ⟨0, 1, 1, 2, [⟨0, g, [⟨3, 1, 0, 0, 7, 9, 0, 0, false, false⟩]⟩], [(3, 4)]⟩
def r7 (g : Nat) : CSt := ⟨0, 1, 1, 2, [⟨0, g, [Ent.none]⟩], []⟩
theorem run1 (g : Nat) (ad : Nat → Addr) : wantTo (r0 g) 3 1 0 = r1 g ∧ wantSays (r0 g) 3 1 0 0 = ⟨1, 0, 3, 0, 0, 0, 0, 0, 0, 0, 0, 0, false⟩ ∧ wantErr ad (r0 g) 3 1 0 = .nilIface := ⟨by kernel_rfl, by kernel_rfl, by kernel_rfl⟩
theorem run2 (g : Nat) (ad : Nat → Addr) : wantTo (r1 g) 3 2 0 = r1 g ∧ wantSays (r1 g) 3 2 0 0 = Mg.zero ∧ wantErr ad (r1 g) 3 2 0 = faultIn 3 (sentV (ad 7)) := ⟨by kernel_rfl, by kernel_rfl, by kernel_rfl⟩
theorem run3 (g : Nat) : answerTo (r1 g) (dataM 3 2 7 0 0 0) = r2 g ∧ answerSays (r1 g) (dataM 3 2 7 0 0 0) = ⟨12, 0, 3, 0, 0, 0, 0, 0, 0, 0, 0, 0, false⟩ ∧ answerOk (r1 g) (dataM 3 2 7 0 0 0) = true := ⟨by kernel_rfl, by kernel_rfl, by kernel_rfl⟩
theorem run4 (g : Nat) : readTo (r2 g) 3 0 = r3 g ∧ readV (r2 g) 3 0 = 7 ∧ okE (getS (r2 g).S 3) 0 = true := ⟨by kernel_rfl, by kernel_rfl, by kernel_rfl⟩
theorem run5 (g : Nat) : writeTo (r3 g) 3 1 9 = r4 g ∧ writeOk (r3 g) 3 1 = true := ⟨by kernel_rfl, by kernel_rfl⟩
theorem run6 (g : Nat) : forwardTo (r4 g) ⟨5, 0, 3, 0, 0, 0, 0, 0, 0, 0, 0, 0, false⟩ = r5 g ∧ forwardSays (r4 g) ⟨5, 0, 3, 0, 0, 0, 0, 0, 0, 0, 0, 0, false⟩ = ⟨11, 0, 3, 1, 0, 0, 0, 0, 7, 9, 0, 0, true⟩ ∧ forwardOk (r4 g) ⟨5, 0, 3, 0, 0, 0, 0, 0, 0, 0, 0, 0, false⟩ = true := ⟨by kernel_rfl, by kernel_rfl, by kernel_rfl⟩
theorem run7 (g : Nat) (ad : Nat → Addr) : wantTo (r5 g) 4 1 0 = r6 g ∧ wantSays (r5 g) 4 1 0 0 = ⟨4, 0, 3, 0, 0, 0, 0, 0, 0, 0, 0, 0, false⟩ ∧ wantErr ad (r5 g) 4 1 0 = .nilIface := ⟨by kernel_rfl, by kernel_rfl, by kernel_rfl⟩
theorem run8 (g : Nat) : forwardTo (r6 g) ⟨10, 0, 3, 0, 0, 0, 0, 0, 0, 0, 0, 0, false⟩ = r7 g ∧ forwardSays (r6 g) ⟨10, 0, 3, 0, 0, 0, 0, 0, 0, 0, 0, 0, false⟩ = ⟨11, 0, 3, 0, 0, 0, 0, 0, 0, 0, 0, 0, false⟩ ∧ forwardOk (r6 g) ⟨10, 0, 3, 0, 0, 0, 0, 0, 0, 0, 0, 0, false⟩ = true := ⟨by kernel_rfl, by kernel_rfl, by kernel_rfl⟩
set_option maxRecDepth 100000 in
set_option maxHeartbeats 4000000 in
theorem cacheRuns_is (w : World) (ad : Nat → Addr) (HSE : Sents w ad) :
    Calls Tryz.prog 17 #[] w fun e w' => e = .returned (.bool true) ∧ Below w.heap.size w w' := by
  have HS := Lib.hid HSE
  clear HSE
  go_enter Tryz.func17, Tryz.ntmps17
  go_wp2_with fail
  refine (new_ok ⟨1, 8, 1, 1, 2, 1, 1, 1, 0⟩ 0 1 1 2 (by kernel_rfl) rfl rfl rfl (by omega) (by show (0 : Int) < 1; omega) w ad HS.out).mono ?_
  rintro r w1 ⟨A, g, rfl, hC⟩
  have F1 : Hid (FrameAt (fun _ => False) w w1 w1 A (r0 g) []) := FrameAt.start hC
  clear hC
  go_wp2_with fail
  have HW := want_is F1.out.cache ad HS.out 3 1 0 0
  rw [(run1 g ad).1, (run1 g ad).2.1, (run1 g ad).2.2] at HW
  simp only [Mg.val] at HW
  refine HW.mono ?_
  clear HW
  rintro r w2 ⟨rfl, hA, hk⟩
  have F2 := Lib.hid (F1.out.step hA hk)
  clear hA hk F1
  go_upto_region 5 with fail
  generalize hW : w2.alloc _ = w3
  have F3 := Lib.hid (F2.out.layAs (cs := (Mg.cells ⟨1, 0, 3, 0, 0, 0, 0, 0, 0, 0, 0, 0, false⟩).toArray) (t := 34) hW)
  clear hW F2
  generalize w2.heap.size = b3 at *
  go_wp2_with fail
  have HW := want_is F3.out.cache ad HS.out 3 2 0 0
  rw [(run2 g ad).1, (run2 g ad).2.1, (run2 g ad).2.2] at HW
  simp only [Mg.val, Mg.zero] at HW
  refine HW.mono ?_
  clear HW
  rintro r w4 ⟨rfl, hA, hk⟩
  have F4 := Lib.hid (F3.out.step hA hk)
  clear hA hk F3
  go_upto_region 6 with fail
  generalize hW : w4.alloc _ = w5
  have F5 := Lib.hid (F4.out.layAs (cs := (Mg.cells Mg.zero).toArray) (t := 34) hW)
  clear hW F4
  generalize w4.heap.size = b5 at *
  go_wp2_with fail
  have HW := data_is 3 2 7 0 0 0 w5
  simp only [Mg.val, dataM] at HW
  refine HW.mono ?_
  clear HW
  rintro r w6 ⟨rfl, hb⟩
  have F6 := Lib.hid (F5.out.below hb)
  clear hb F5
  go_wp2_with fail
  have HW := answer_is F6.out.cache ad HS.out (dataM 3 2 7 0 0 0)
  rw [(run3 g).1, (run3 g).2.1, (run3 g).2.2] at HW
  simp only [Mg.val, dataM] at HW
  refine HW.mono ?_
  clear HW
  rintro r w7 ⟨rfl, hA, hk⟩
  have F7 := Lib.hid (F6.out.step hA hk)
  clear hA hk F6
  go_upto_region 7 with fail
  generalize hW : w7.alloc _ = w8
  have F8 := Lib.hid (F7.out.layAs (cs := (Mg.cells ⟨12, 0, 3, 0, 0, 0, 0, 0, 0, 0, 0, 0, false⟩).toArray) (t := 34) hW)
  clear hW F7
  generalize w7.heap.size = b7 at *
  go_wp2_with fail
  have HW := read_is F8.out.cache ad HS.out 3 0
  rw [(run4 g).1, (run4 g).2.1, (run4 g).2.2] at HW
  refine HW.mono ?_
  clear HW
  rintro r w9 ⟨rfl, hA, hk⟩
  have F9 := Lib.hid (F8.out.step hA hk)
  clear hA hk F8
  go_wp2_with fail
  have HW := write_is F9.out.cache ad HS.out 3 1 9
  rw [(run5 g).1, (run5 g).2] at HW
  refine HW.mono ?_
  clear HW
  rintro r w10 ⟨rfl, hA, hk⟩
  have F10 := Lib.hid (F9.out.step hA hk)
  clear hA hk F9
  go_wp2_with fail
  have HW := forward_is F10.out.cache ad HS.out ⟨5, 0, 3, 0, 0, 0, 0, 0, 0, 0, 0, 0, false⟩
  rw [(run6 g).1, (run6 g).2.1, (run6 g).2.2] at HW
  simp only [Mg.val] at HW
  refine HW.mono ?_
  clear HW
  rintro r w11 ⟨rfl, hA, hk⟩
  have F11 := Lib.hid (F10.out.step hA hk)
  clear hA hk F10
  go_upto_region 10 with fail
  generalize hW : w11.alloc _ = w12
  have F12 := Lib.hid (F11.out.layAs (cs := (Mg.cells ⟨11, 0, 3, 1, 0, 0, 0, 0, 7, 9, 0, 0, true⟩).toArray) (t := 34) hW)
  clear hW F11
  generalize w11.heap.size = b12 at *
  go_wp2_with fail
  have HW := want_is F12.out.cache ad HS.out 4 1 0 0
  rw [(run7 g ad).1, (run7 g ad).2.1, (run7 g ad).2.2] at HW
  simp only [Mg.val] at HW
  refine HW.mono ?_
  clear HW
  rintro r w13 ⟨rfl, hA, hk⟩
  have F13 := Lib.hid (F12.out.step hA hk)
  clear hA hk F12
  go_upto_region 11 with fail
  generalize hW : w13.alloc _ = w14
  have F14 := Lib.hid (F13.out.layAs (cs := (Mg.cells ⟨4, 0, 3, 0, 0, 0, 0, 0, 0, 0, 0, 0, false⟩).toArray) (t := 34) hW)
  clear hW F13
  generalize w13.heap.size = b14 at *
  go_wp2_with fail
  have HW := forward_is F14.out.cache ad HS.out ⟨10, 0, 3, 0, 0, 0, 0, 0, 0, 0, 0, 0, false⟩
  rw [(run8 g).1, (run8 g).2.1, (run8 g).2.2] at HW
  simp only [Mg.val] at HW
  refine HW.mono ?_
  clear HW
  rintro r w15 ⟨rfl, hA, hk⟩
  have F15 := Lib.hid (F14.out.step hA hk)
  clear hA hk F14
  go_upto_region 12 with fail
  generalize hW : w15.alloc _ = w16
  have F16 := Lib.hid (F15.out.layAs (cs := (Mg.cells ⟨11, 0, 3, 0, 0, 0, 0, 0, 0, 0, 0, 0, false⟩).toArray) (t := 34) hW)
  clear hW F15
  generalize w15.heap.size = b16 at *
  have q1 := fun w => eqMsg_same ⟨1, 0, 3, 0, 0, 0, 0, 0, 0, 0, 0, 0, false⟩ w
  have q2 := fun w => eqMsg_same ⟨12, 0, 3, 0, 0, 0, 0, 0, 0, 0, 0, 0, false⟩ w
  simp only [Mg.val] at q1 q2
  obtain ⟨a0, a1, a2, a3, a4, a5, a6, a7, a8, a9, a10, a11, a12⟩ := msg_cells (F16.out.at 5 rfl)
  go_wp2_with fail
  have HW := keepIs_want 3 7 ad w16 (by omega) (by omega) (HS.out.of_below F16.out.based)
  refine HW.mono ?_
  clear HW
  rintro r w17 ⟨rfl, hb⟩
  have F17 := Lib.hid (F16.out.below hb)
  clear hb F16
  clear a0 a1 a2 a3 a4 a5 a6 a7 a8 a9 a10 a11 a12
  obtain ⟨a0, a1, a2, a3, a4, a5, a6, a7, a8, a9, a10, a11, a12⟩ := msg_cells (F17.out.at 3 rfl)
  go_upto_region 13 with fail
  clear a0 a1 a2 a3 a4 a5 a6 a7 a8 a9 a10 a11 a12 q1 q2
  have q1 := fun w => eqMsg_same ⟨11, 0, 3, 1, 0, 0, 0, 0, 7, 9, 0, 0, true⟩ w
  have q2 := fun w => eqMsg_same ⟨4, 0, 3, 0, 0, 0, 0, 0, 0, 0, 0, 0, false⟩ w
  have q3 := fun w => eqMsg_same ⟨11, 0, 3, 0, 0, 0, 0, 0, 0, 0, 0, 0, false⟩ w
  simp only [Mg.val] at q1 q2 q3
  obtain ⟨a0, a1, a2, a3, a4, a5, a6, a7, a8, a9, a10, a11, a12⟩ := msg_cells (F17.out.at 2 rfl)
  obtain ⟨d0, d1, d2, d3, d4, d5, d6, d7, d8, d9, d10, d11, d12⟩ := msg_cells (F17.out.at 1 rfl)
  obtain ⟨e0, e1, e2, e3, e4, e5, e6, e7, e8, e9, e10, e11, e12⟩ := msg_cells (F17.out.at 0 rfl)
  go_wp2_with fail
  refine (entries_is F17.out.cache).mono ?_
  rintro r wE ⟨v, rfl, hr, hb⟩
  obtain ⟨AE, cE, rfl⟩ := hr.none (by rfl)
  have FE := Lib.hid (F17.out.below hb)
  clear hr hb F17 q1 q2 q3 a0 a1 a2 a3 a4 a5 a6 a7 a8 a9 a10 a11 a12 d0 d1 d2 d3 d4 d5 d6 d7 d8 d9 d10 d11 d12 e0 e1 e2 e3 e4 e5 e6 e7 e8 e9 e10 e11 e12
  go_wp2_with fail
  refine (misses_is FE.out.cache).mono ?_
  rintro r wM ⟨v, rfl, hr, -, hb⟩
  obtain ⟨AM, cM, rfl⟩ := hr.none (by rfl)
  have FM := Lib.hid (FE.out.below hb)
  clear hr hb FE
  go_wp2
  go_ret
  exact ⟨rfl, FM.out.based⟩
end Go.Proofs.YtfaihaknibmcpaaGreatDoor
