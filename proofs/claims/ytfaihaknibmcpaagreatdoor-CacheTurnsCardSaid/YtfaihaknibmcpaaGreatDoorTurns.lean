/- The law CacheTurns, walked. -/
import Derived.Test.YtfaihaknibmcpaaGreatDoorOne
import Derived.Test.YtfaihaknibmcpaaGreatDoorRuns
namespace Go.Proofs.YtfaihaknibmcpaaGreatDoor
open Go.RowKit Go.Extern.Stop Go.Stop Go.Extern

def stOf (j : Nat) : Int := if j = 0 then 1 else if j = 1 then 2 else 4
theorem st_in (j : Nat) : stOf j = 1 ∨ stOf j = 2 ∨ stOf j = 4 := by unfold stOf; repeat' split; all_goals omega
theorem t_right {n s l0 l1 l2 l3 : Int} (hs : s = 1 ∨ s = 2 ∨ s = 4) (f : Bool) : rightE ⟨n, s, 0, 0, l0, l1, l2, l3, false, f⟩ = true := by simp [rightE]; omega
theorem t_clean (g m : Nat) (n s mo ep l0 l1 l2 l3 : Int) (l : List (Int × Int)) (n0 : 0 ≤ n) (hn : n ≤ 31) (hs : s = 1 ∨ s = 2 ∨ s = 4) (m0 : 0 ≤ mo) (m3 : mo ≤ 3) (p0 : 0 ≤ ep) (p1 : ep ≤ 255) :
    ∃ y0 y1 y2 y3, forwardOk (oneQ g m ⟨n, s, 0, 0, l0, l1, l2, l3, false, false⟩ l) ⟨9, 0, n, 0, mo, ep, 0, 0, 0, 0, 0, 0, false⟩ = true ∧ forwardSays (oneQ g m ⟨n, s, 0, 0, l0, l1, l2, l3, false, false⟩ l) ⟨9, 0, n, 0, mo, ep, 0, 0, 0, 0, 0, 0, false⟩ = ⟨11, 0, n, 1, 0, 0, 0, 0, y0, y1, y2, y3, (s == 4)⟩ ∧ forwardTo (oneQ g m ⟨n, s, 0, 0, l0, l1, l2, l3, false, false⟩ l) ⟨9, 0, n, 0, mo, ep, 0, 0, 0, 0, 0, 0, false⟩ = oneQ g m ⟨n, 1, mo, ep, l0, l1, l2, l3, false, false⟩ l := by
  obtain ⟨r1, r2⟩ := right_clean (c := 0) (x := n) (mo := mo) (ep := ep) (by omega) ⟨n0, hn⟩ ⟨m0, m3⟩ ⟨p0, p1⟩
  have hx : isLine n = true := (isLine_iff n).2 ⟨n0, hn⟩
  have hnx : nextOf s 9 mo = (1, dirtyB s) := by
    unfold nextOf
    rw [if_pos (by omega)]
    rfl
  have he : fwdE ⟨9, 0, n, 0, mo, ep, 0, 0, 0, 0, 0, 0, false⟩ ⟨n, s, 0, 0, l0, l1, l2, l3, false, false⟩ = ⟨n, 1, mo, ep, l0, l1, l2, l3, false, false⟩ := by
    unfold fwdE
    simp only [hnx]
    rfl
  have hre : rightE ⟨n, 1, mo, ep, l0, l1, l2, l3, false, false⟩ = true := by simp [rightE]; omega
  obtain ⟨a1, a2, a3⟩ := sole_forward (g := g) (m := m) (l := l) (e := ⟨n, s, 0, 0, l0, l1, l2, l3, false, false⟩) hx rfl (t_right hs false) rfl (M := ⟨9, 0, n, 0, mo, ep, 0, 0, 0, 0, 0, 0, false⟩) rfl r1 r2 rfl (fun _ => by rw [he]; exact hre) (by rw [he])
  have hl : fwdL (oneQ g m ⟨n, s, 0, 0, l0, l1, l2, l3, false, false⟩ l) ⟨9, 0, n, 0, mo, ep, 0, 0, 0, 0, 0, 0, false⟩ = l := by
    unfold fwdL
    rw [if_neg (fun h => by cases h.1)]
    rfl
  rw [he, hl, if_neg (by show ¬ (1 : Int) = 0; omega)] at a3
  have ht : ∃ y0 y1 y2 y3, fwdM 0 ⟨9, 0, n, 0, mo, ep, 0, 0, 0, 0, 0, 0, false⟩ ⟨n, s, 0, 0, l0, l1, l2, l3, false, false⟩ = ⟨11, 0, n, 1, 0, 0, 0, 0, y0, y1, y2, y3, (s == 4)⟩ := by
    unfold fwdM
    simp only [hnx]
    rcases hs with rfl | rfl | rfl
    · exact ⟨0, 0, 0, 0, rfl⟩
    · exact ⟨0, 0, 0, 0, rfl⟩
    · exact ⟨l0, l1, l2, l3, rfl⟩
  obtain ⟨y0, y1, y2, y3, hy⟩ := ht
  exact ⟨y0, y1, y2, y3, a1, a2.trans hy, a3⟩
theorem t_no (g m : Nat) (n mo ep l0 l1 l2 l3 : Int) (l : List (Int × Int)) (hx : isLine n = true) (wd _v : Int) : writeOk (oneQ g m ⟨n, 1, mo, ep, l0, l1, l2, l3, false, false⟩ l) n wd = false := by
  unfold writeOk
  rw [sole_at hx rfl rfl]
  simp [writesB]
set_option maxRecDepth 100000 in
set_option maxHeartbeats 8000000 in
theorem cacheTurns_is (line st mode epoch l0 l1 l2 l3 : Int) (w : World) (ad : Nat → Addr) (HSE : Sents w ad) :
    Calls Tryz.prog 7 #[.int .i64 line, .int .i64 st, .int .i64 mode, .int .i64 epoch, .agg #[.int .u32 l0, .int .u32 l1, .int .u32 l2, .int .u32 l3]] w fun e w' => e = .returned (.bool true) ∧ Below w.heap.size w w' := by
  have HS := Lib.hid HSE
  clear HSE
  obtain ⟨n, n0, n31, N1⟩ := within_int line 31 (by omega)
  obtain ⟨j, hj, J1⟩ := within_nat st 2 (by omega)
  obtain ⟨mo, m0, m3, M1⟩ := within_int mode 3 (by omega)
  obtain ⟨ep, p0, p1, P1⟩ := within_int epoch 255 (by omega)
  have HN := Lib.hid N1
  have HJ := Lib.hid J1
  have HM := Lib.hid M1
  have HP := Lib.hid P1
  clear N1 J1 M1 P1
  have HX : Hid (isLine n = true) := (isLine_iff n).2 ⟨n0, n31⟩
  have HFK : Hid (∀ b (w' : World), w'.heap[b]? = some (.cells #[.int .i64 1, .int .i64 2, .int .i64 4] 3 (0, 0)) → w'.cell? ⟨b, j, none⟩ = some (.int .i64 (stOf j))) := fun b w' hb => by
    have h5 : j = 0 ∨ j = 1 ∨ j = 2 := by omega
    rcases h5 with rfl | rfl | rfl
    all_goals simp [World.cell?, hb, stOf]
  have HST := Lib.hid (st_in j)
  have j3 : (j : Int) < 3 := by omega
  have j0 : j < 3 := by omega
  go_enter Tryz.func7, Tryz.ntmps7
  go_wp2_with fail
  generalize hW : w.alloc _ = wa
  have hb0 : Below w.heap.size w wa := by rw [← hW]; exact (Below.refl _ _).alloc (Nat.le_refl _) _
  have hbx : wa.heap[w.heap.size]? = some (.cells #[.int .u32 l0, .int .u32 l1, .int .u32 l2, .int .u32 l3] 32 (0, 0)) := by rw [← hW]; exact heap_alloc_new _ _
  have HBX := Lib.hid hbx
  have HB0 := Lib.hid hb0
  have HSA := Lib.hid (HS.out.of_below hb0)
  clear hW hbx hb0
  obtain ⟨b9, hb9⟩ : ∃ b, b = w.heap.size := ⟨_, rfl⟩
  rw [← hb9] at HBX
  have HB9 := Lib.hid hb9
  have HLB : Hid (∀ w', Below wa.heap.size wa w' → w'.cell? ⟨b9, 0, none⟩ = some (.int .u32 l0) ∧ w'.cell? ⟨b9, 1, none⟩ = some (.int .u32 l1) ∧ w'.cell? ⟨b9, 2, none⟩ = some (.int .u32 l2) ∧ w'.cell? ⟨b9, 3, none⟩ = some (.int .u32 l3)) := fun w' hb => by
    have := (hb.block b9 (lt_of_heap HBX.out)).trans HBX.out
    simp [World.cell?, this]
  rw [← hb9]
  clear hb9
  refine (new_ok ⟨1, 32, 1, 1, 2, 1, 1, 1, 0⟩ 0 1 1 2 (by kernel_rfl) rfl rfl rfl (by omega) (by show (0 : Int) < 1; omega) wa ad HSA.out).mono ?_
  rintro r w1 ⟨A, g, rfl, hC⟩
  have F1 : Hid (FrameAt (fun _ => False) wa w1 w1 A (oneQ g 2 Ent.none []) []) := FrameAt.start hC
  clear hC
  go_wp2_with fail
  refine (HN.out _).mono ?_
  rintro r w1 ⟨rfl, rfl⟩
  clear HN
  go_wp2_with fail
  generalize hW : w1.alloc _ = w2
  have hc5 := HFK.out w1.heap.size w2 (by rw [← hW]; exact heap_alloc_new _ _)
  have F2 := Lib.hid (F1.out.skip hW)
  clear hW F1 HFK
  generalize w1.heap.size = b40 at *
  refine (HJ.out _).mono ?_
  rintro r w2 ⟨rfl, rfl⟩
  clear HJ
  go_wp2_with fail
  refine (HM.out _).mono ?_
  rintro r w2 ⟨rfl, rfl⟩
  go_wp2_with fail
  refine (HP.out _).mono ?_
  rintro r w2 ⟨rfl, rfl⟩
  go_upto_region 7 with fail
  clear hc5 j3 j0 hj HM HP
  generalize stOf j = s at *
  go_wp2_with fail
  have HW := want_is F2.out.cache ad HSA.out n 2 0 0
  rw [(sole_want (g := g) (m := 2) (e := Ent.none) HX.out (kind := 2) 0 ad (by omega) (by omega) (by omega) (.inl rfl) (fun _ => rfl)).1] at HW
  refine HW.mono ?_
  clear HW
  rintro r w3 ⟨rfl, hA, hk⟩
  have F3 := Lib.hid (F2.out.step hA hk)
  clear hA hk F2
  obtain ⟨q0, q1, q2, q3⟩ := HLB.out w3 F3.out.based
  go_wp2_with fail
  clear q0 q1 q2 q3
  have HW := data_is n s l0 l1 l2 l3 w3
  simp only [Mg.val, dataM] at HW
  refine HW.mono ?_
  clear HW
  rintro r w4 ⟨rfl, hb⟩
  have F4 := Lib.hid (F3.out.below hb)
  clear hb F3
  go_wp2_with fail
  have a3 := (sole_data (g := g) (m := 2) (e := Ent.none) (l := [(n, 2)]) (x := n) (st := s) (mo := 0) (ep := 0) (d0 := l0) (d1 := l1) (d2 := l2) (d3 := l3) HX.out HST.out (by omega) (by omega) (.inr rfl)).2.2
  rw [show dropOf n [(n, (2 : Int))] = [] by simp [dropOf]] at a3
  have HW := answer_is F4.out.cache ad HSA.out ⟨13, 0, n, s, 0, 0, 0, 0, l0, l1, l2, l3, true⟩
  rw [a3] at HW
  simp only [Mg.val] at HW
  refine HW.mono ?_
  clear HW
  rintro r w5 ⟨rfl, hA, hk⟩
  have F5 := Lib.hid (F4.out.step hA hk)
  clear hA hk F4
  clear a3
  generalize answerSays _ _ = y3 at *
  generalize answerOk _ _ = o3 at *
  go_wp2_with fail
  obtain ⟨-, -, a3⟩ := sole_read (g := g) (m := 2) (l := []) HX.out rfl (t_right (n := n) (l0 := l0) (l1 := l1) (l2 := l2) (l3 := l3) HST.out true) rfl (wd := 0) (by omega) (by omega)
  have HW := read_is F5.out.cache ad HSA.out n 0
  rw [a3] at HW
  refine HW.mono ?_
  clear HW
  rintro r w6 ⟨rfl, hA, hk⟩
  have F6 := Lib.hid (F5.out.step hA hk)
  clear hA hk F5
  clear a3
  go_wp2_with fail
  obtain ⟨y0, y1, y2, y3', a1, a2, a3⟩ := t_clean g 2 n s mo ep l0 l1 l2 l3 [] n0 n31 HST.out m0 m3 p0 p1
  have HW := forward_is F6.out.cache ad HSA.out ⟨9, 0, n, 0, mo, ep, 0, 0, 0, 0, 0, 0, false⟩
  rw [a1, a2, a3] at HW
  simp only [Mg.val] at HW
  refine HW.mono ?_
  clear HW
  rintro r w7 ⟨rfl, hA, hk⟩
  have F7 := Lib.hid (F6.out.step hA hk)
  clear hA hk F6
  clear a1 a2 a3
  go_upto_region 11 with fail
  generalize hW : w7.alloc _ = w8
  have F8 := Lib.hid (F7.out.layAs (cs := (Mg.cells ⟨11, 0, n, 1, 0, 0, 0, 0, y0, y1, y2, y3', (s == 4)⟩).toArray) (t := 34) hW)
  clear hW F7
  generalize w7.heap.size = b17 at *
  go_wp2_with fail
  have hpk := sole_at (g := g) (m := 2) (l := []) (e := ⟨n, 1, mo, ep, l0, l1, l2, l3, false, false⟩) HX.out rfl rfl
  have HW := peek_is F8.out.cache n
  rw [hpk] at HW
  simp only [Option.getD_some, Option.isSome_some, Ent.val] at HW
  refine HW.mono ?_
  clear HW
  rintro r w9 ⟨rfl, hb⟩
  have F9 := Lib.hid (F8.out.below hb)
  clear hb F8
  clear hpk
  go_upto_region 12 with fail
  generalize hW : w9.alloc _ = w10
  have F10 := Lib.hid (F9.out.layAs (cs := (Ent.cells ⟨n, 1, mo, ep, l0, l1, l2, l3, false, false⟩).toArray) (t := 65) hW)
  clear hW F9
  generalize w9.heap.size = b19 at *
  go_wp2_with fail
  have hre : rightE ⟨n, 1, mo, ep, l0, l1, l2, l3, false, false⟩ = true := by simp [rightE]; omega
  obtain ⟨a1, a2, a3⟩ := sole_read (g := g) (m := 2) (l := []) HX.out rfl hre rfl (wd := 3) (by omega) (by omega)
  simp only [wordE] at a2
  have HW := read_is F10.out.cache ad HSA.out n 3
  rw [a1, a2, a3] at HW
  simp only [reduceIte, Int.reduceEq] at HW
  refine HW.mono ?_
  clear HW
  rintro r w11 ⟨rfl, hA, hk⟩
  have F11 := Lib.hid (F10.out.step hA hk)
  clear hA hk F10
  clear a1 a2 a3 hre
  have he := fun w : World => eqLine_same l0 l1 l2 l3 w
  obtain ⟨-, -, -, p3, -, -, -, -, -, -, -, -, p12⟩ := msg_cells (F11.out.at 1 rfl)
  obtain ⟨-, e1, e2, e3, e4, e5, e6, e7, -, -⟩ := box_cells (F11.out.at 0 rfl)
  obtain ⟨q0, q1, q2, q3⟩ := HLB.out w11 F11.out.based
  go_wp2_with fail
  clear he p3 p12 e1 e2 e3 e4 e5 e6 e7 q0 q1 q2 q3
  have a1 := t_no g 2 n mo ep l0 l1 l2 l3 [] HX.out 0 1
  have HW := write_is F11.out.cache ad HSA.out n 0 1
  rw [a1] at HW
  refine HW.mono ?_
  clear HW
  rintro r w12 ⟨rfl, hA, hk⟩
  have F12 := Lib.hid (F11.out.step hA hk)
  clear hA hk F11
  clear a1
  go_wp2_with fail
  refine (cacheRuns_is w12 ad (HSA.out.of_below F12.out.based)).mono ?_
  rintro r wz ⟨rfl, hb⟩
  have HZ := Lib.hid (HB0.out.trans ((F12.out.based.trans (hb.mono F12.out.based.size)).mono HB0.out.size))
  clear hb F12
  go_wp2
  go_ret
  exact ⟨rfl, HZ.out⟩
end Go.Proofs.YtfaihaknibmcpaaGreatDoor
