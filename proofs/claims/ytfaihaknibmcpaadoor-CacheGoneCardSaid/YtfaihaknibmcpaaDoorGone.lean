/- The law CacheGone, walked. -/
import Derived.Test.YtfaihaknibmcpaaDoorOne
import Derived.Test.YtfaihaknibmcpaaDoorRuns
namespace Go.Proofs.YtfaihaknibmcpaaDoor
open Go.RowKit Go.Extern.Stop Go.Stop Go.Extern

def dirtySt (d : Bool) : Int := if d then 4 else 1
theorem g_away (g : Nat) (n k : Int) (n0 : 0 ≤ n) (hn : n ≤ 31) (hk : 5 ≤ k ∧ k ≤ 10) :
    forwardOk (oneQ g 2 Ent.none []) ⟨k, 0, n, 0, 0, 0, 0, 0, 0, 0, 0, 0, false⟩ = true ∧ forwardSays (oneQ g 2 Ent.none []) ⟨k, 0, n, 0, 0, 0, 0, 0, 0, 0, 0, 0, false⟩ = ⟨11, 0, n, 0, 0, 0, 0, 0, 0, 0, 0, 0, false⟩ ∧ forwardTo (oneQ g 2 Ent.none []) ⟨k, 0, n, 0, 0, 0, 0, 0, 0, 0, 0, 0, false⟩ = oneQ g 2 Ent.none [] := by
  obtain ⟨r1, r2⟩ := right_fwd (c := 0) (x := n) hk (by omega) ⟨n0, hn⟩
  have hx : isLine n = true := (isLine_iff n).2 ⟨n0, hn⟩
  obtain ⟨a1, a2, a3⟩ := forward_away (q := oneQ g 2 Ent.none []) (okQ_new 0 g 1 1 2 [] (by omega)) (m := ⟨k, 0, n, 0, 0, 0, 0, 0, 0, 0, 0, 0, false⟩) (fwd_mine r1 r2 rfl) (sole_none hx rfl)
  refine ⟨a1, a2, a3.trans ?_⟩
  have e : fwdL (oneQ g 2 Ent.none []) ⟨k, 0, n, 0, 0, 0, 0, 0, 0, 0, 0, 0, false⟩ = [] := by
    unfold fwdL
    split
    · rfl
    · rfl
  rw [e]
  rfl
theorem g_inval (g : Nat) (n : Int) (d : Bool) (n0 : 0 ≤ n) (hn : n ≤ 31) :
    ∃ y0, forwardOk (oneQ g 2 ⟨n, dirtySt d, 0, 0, 7, 0, 0, 0, false, false⟩ [(n, 4)]) ⟨6, 0, n, 0, 0, 0, 0, 0, 0, 0, 0, 0, false⟩ = true ∧ forwardSays (oneQ g 2 ⟨n, dirtySt d, 0, 0, 7, 0, 0, 0, false, false⟩ [(n, 4)]) ⟨6, 0, n, 0, 0, 0, 0, 0, 0, 0, 0, 0, false⟩ = ⟨11, 0, n, 0, 0, 0, 0, 0, y0, 0, 0, 0, d⟩ ∧ forwardTo (oneQ g 2 ⟨n, dirtySt d, 0, 0, 7, 0, 0, 0, false, false⟩ [(n, 4)]) ⟨6, 0, n, 0, 0, 0, 0, 0, 0, 0, 0, 0, false⟩ = oneQ g 2 Ent.none [(n, 4)] := by
  obtain ⟨r1, r2⟩ := right_fwd (k := 6) (c := 0) (x := n) (by omega) (by omega) ⟨n0, hn⟩
  have hx : isLine n = true := (isLine_iff n).2 ⟨n0, hn⟩
  cases d
  · obtain ⟨a1, a2, a3⟩ := sole_forward (g := g) (m := 2) (l := [(n, 4)]) (e := ⟨n, dirtySt false, 0, 0, 7, 0, 0, 0, false, false⟩) hx rfl rfl rfl (M := ⟨6, 0, n, 0, 0, 0, 0, 0, 0, 0, 0, 0, false⟩) rfl r1 r2 rfl (fun h => absurd rfl h) rfl
    exact ⟨0, a1, a2, a3⟩
  · obtain ⟨a1, a2, a3⟩ := sole_forward (g := g) (m := 2) (l := [(n, 4)]) (e := ⟨n, dirtySt true, 0, 0, 7, 0, 0, 0, false, false⟩) hx rfl rfl rfl (M := ⟨6, 0, n, 0, 0, 0, 0, 0, 0, 0, 0, 0, false⟩) rfl r1 r2 rfl (fun h => absurd rfl h) rfl
    exact ⟨7, a1, a2, a3⟩
theorem g_gone (g : Nat) (n : Int) (n0 : 0 ≤ n) (hn : n ≤ 31) :
    answerOk (oneQ g 2 Ent.none [(n, 4)]) ⟨15, 0, n, 0, 0, 0, 0, 0, 0, 0, 0, 0, false⟩ = true ∧ answerSays (oneQ g 2 Ent.none [(n, 4)]) ⟨15, 0, n, 0, 0, 0, 0, 0, 0, 0, 0, 0, false⟩ = Mg.zero ∧ answerTo (oneQ g 2 Ent.none [(n, 4)]) ⟨15, 0, n, 0, 0, 0, 0, 0, 0, 0, 0, 0, false⟩ = oneQ g 2 Ent.none [] := by
  have hm : rightM ⟨15, 0, n, 0, 0, 0, 0, 0, 0, 0, 0, 0, false⟩ = true := by
    simp [rightM, headB, poolOf, inB, bareM, bareS, bareE, bareX, bareW, bareK, limitsB, grantedB, Mg.zero, n0, hn, nWord, nMode, nEpoch, nState]
  have h1 : ansMine (oneQ g 2 Ent.none [(n, 4)]) ⟨15, 0, n, 0, 0, 0, 0, 0, 0, 0, 0, 0, false⟩ = true := by unfold ansMine mineB; rw [hm]; rfl
  refine ⟨by unfold answerOk; rw [h1]; rfl, by unfold answerSays; rw [h1]; rfl, ?_⟩
  unfold answerTo
  rw [if_pos h1, if_pos rfl]
  show CSt.mk 0 1 1 2 _ (dropOf n [(n, 4)]) = _
  rw [show dropOf n [(n, (4 : Int))] = [] by simp [dropOf]]
  rfl
set_option maxRecDepth 100000 in
set_option maxHeartbeats 8000000 in
theorem cacheGone_is (line kind : Int) (dirty : Bool) (w : World) (ad : Nat → Addr) (HSE : Sents w ad) :
    Calls Tryd.prog 8 #[.int .i64 line, .int .i64 kind, .bool dirty] w fun e w' => e = .returned (.bool true) ∧ Below w.heap.size w w' := by
  have HS := Lib.hid HSE
  clear HSE
  obtain ⟨n, n0, n30, N1⟩ := within_int line 30 (by omega)
  obtain ⟨j, j0, j5, J1⟩ := within_int kind 5 (by omega)
  have HN := Lib.hid N1
  have HJ := Lib.hid J1
  clear N1 J1
  have hx : isLine n = true := (isLine_iff n).2 ⟨n0, by omega⟩
  have hx1 : isLine (n + 1) = true := (isLine_iff (n + 1)).2 ⟨by omega, by omega⟩
  have HX := Lib.hid hx
  have HX1 := Lib.hid hx1
  have HST : Hid (dirtySt dirty = 1 ∨ dirtySt dirty = 2 ∨ dirtySt dirty = 4) := by
    show _ ∨ _
    cases dirty
    · exact .inl rfl
    · exact .inr (.inr rfl)
  have HRE : Hid (rightE ⟨n, dirtySt dirty, 0, 0, 7, 0, 0, 0, false, true⟩ = true ∧ isFree ⟨n, dirtySt dirty, 0, 0, 7, 0, 0, 0, false, false⟩ = false) := by
    show _ ∧ _
    cases dirty <;> exact ⟨rfl, rfl⟩
  clear hx hx1
  go_enter Tryd.func8, Tryd.ntmps8
  go_wp2_with fail
  refine (new_ok ⟨1, 32, 1, 1, 2, 1, 1, 1, 0⟩ 0 1 1 2 (by kernel_rfl) rfl rfl rfl (by omega) (by show (0 : Int) < 1; omega) w ad HS.out).mono ?_
  rintro r w1 ⟨A, g, rfl, hC⟩
  have F1 : Hid (FrameAt (fun _ => False) w w1 w1 A (oneQ g 2 Ent.none []) []) := FrameAt.start hC
  clear hC
  go_wp2_with fail
  refine (HN.out _).mono ?_
  rintro r w1 ⟨rfl, rfl⟩
  clear HN
  go_upto_if 33 with fail
  go_cut [10] (fun u wx => u = .int .i64 (dirtySt dirty) ∧ wx = w1)
  case first =>
    cases dirty
    all_goals
      go_wp2_with fail
      go_meet
      exact ⟨rfl, rfl⟩
  case rest =>
    obtain ⟨rfl, rfl⟩ := hcut
    generalize hst : dirtySt dirty = st at *
    have HDS := Lib.hid hst
    clear hst
    go_wp2_with fail
    refine (HJ.out _).mono ?_
    rintro r wc ⟨rfl, rfl⟩
    clear HJ
    obtain ⟨k, hk⟩ : ∃ k : Int, k = 5 + j := ⟨_, rfl⟩
    have hk1 : 5 ≤ k ∧ k ≤ 10 := by omega
    have HK := Lib.hid hk.symm
    have hw : wrap64 (5 + j) = k := by rw [hk]; unfold wrap64; omega
    have hw2 : (5 + j : Int) = k := hk.symm
    clear hk
    go_wp2_with fail
    obtain ⟨a1, a2, a3⟩ := g_away g n k n0 (by omega) hk1
    have HW := forward_is F1.out.cache ad HS.out ⟨k, 0, n, 0, 0, 0, 0, 0, 0, 0, 0, 0, false⟩
    rw [a1, a2, a3] at HW
    simp only [Mg.val] at HW
    refine HW.mono ?_
    clear HW
    rintro r w2 ⟨rfl, hA, hk⟩
    have F2 := Lib.hid (F1.out.step hA hk)
    clear hA hk F1
    clear a1 a2 a3 hw hw2 hk1 j0 j5
    go_upto_region 10 with fail
    generalize hW : w2.alloc _ = w3
    have F3 := Lib.hid (F2.out.layAs (cs := (Mg.cells ⟨11, 0, n, 0, 0, 0, 0, 0, 0, 0, 0, 0, false⟩).toArray) (t := 33) hW)
    clear hW F2
    generalize w2.heap.size = b12 at *
    have he : ∀ w : World, (binOp .neq 33 (Mg.val ⟨11, 0, n, 0, 0, 0, 0, 0, 0, 0, 0, 0, false⟩) (Mg.val ⟨11, 0, n, 0, 0, 0, 0, 0, 0, 0, 0, 0, false⟩)).run Tryd.prog w = .ok (.bool false) w := fun w => by rw [neMsg]; simp
    simp only [Mg.val] at he
    obtain ⟨p0, p1, p2, p3, p4, p5, p6, p7, p8, p9, p10, p11, p12⟩ := msg_cells (F3.out.at 0 rfl)
    go_wp2_with fail
    clear he p0 p1 p2 p3 p4 p5 p6 p7 p8 p9 p10 p11 p12
    have FF := Lib.hid F3.out.rest
    clear F3
    have F3 := FF
    clear FF
    have HW := want_is F3.out.cache ad HS.out n 2 0 0
    rw [(sole_want (g := g) (m := 2) (e := Ent.none) HX.out (kind := 2) 0 ad (by omega) (by omega) (by omega) (.inl rfl) (fun _ => rfl)).1] at HW
    refine HW.mono ?_
    clear HW
    rintro r w4 ⟨rfl, hA, hk⟩
    have F4 := Lib.hid (F3.out.step hA hk)
    clear hA hk F3
    go_wp2_with fail
    have HW := data_is n st 7 0 0 0 w4
    simp only [Mg.val, dataM] at HW
    refine HW.mono ?_
    clear HW
    rintro r w5 ⟨rfl, hb⟩
    have F5 := Lib.hid (F4.out.below hb)
    clear hb F4
    go_wp2_with fail
    have a3 := (sole_data (g := g) (m := 2) (e := Ent.none) (l := [(n, 2)]) (x := n) (st := st) (mo := 0) (ep := 0) (d0 := 7) (d1 := 0) (d2 := 0) (d3 := 0) HX.out HST.out (by omega) (by omega) (.inr rfl)).2.2
    rw [show dropOf n [(n, (2 : Int))] = [] by simp [dropOf]] at a3
    have HW := answer_is F5.out.cache ad HS.out ⟨13, 0, n, st, 0, 0, 0, 0, 7, 0, 0, 0, true⟩
    rw [a3] at HW
    simp only [Mg.val] at HW
    refine HW.mono ?_
    clear HW
    rintro r w6 ⟨rfl, hA, hk⟩
    have F6 := Lib.hid (F5.out.step hA hk)
    clear hA hk F5
    clear a3
    generalize answerSays _ _ = y3 at *
    generalize answerOk _ _ = o3 at *
    go_wp2_with fail
    obtain ⟨a1, a2, a3⟩ := sole_read (g := g) (m := 2) (l := []) HX.out rfl HRE.out.1 rfl (wd := 0) (by omega) (by omega)
    have HW := read_is F6.out.cache ad HS.out n 0
    rw [a3] at HW
    refine HW.mono ?_
    clear HW
    rintro r w7 ⟨rfl, hA, hk⟩
    have F7 := Lib.hid (F6.out.step hA hk)
    clear hA hk F6
    clear a1 a2 a3
    have hwn : wrap64 (n + 1) = n + 1 := by unfold wrap64; omega
    go_wp2_with fail
    obtain ⟨a1, a2, a3⟩ := sole_evict (g := g) (m := 2) (e := ⟨n, st, 0, 0, 7, 0, 0, 0, false, false⟩) HX1.out HX.out HRE.out.2 (by show n ≠ n + 1; omega) (by omega) 0 ad (kind := 1) (wd := 0) (by omega) (by omega) (by omega) (by omega)
    have HW := want_is F7.out.cache ad HS.out (n + 1) 1 0 0
    rw [a1, a2, a3] at HW
    simp only [Mg.val, Mg.zero] at HW
    refine HW.mono ?_
    clear HW
    rintro r w8 ⟨rfl, hA, hk⟩
    have F8 := Lib.hid (F7.out.step hA hk)
    clear hA hk F7
    clear a1 a2 a3 hwn
    go_upto_region 16 with fail
    generalize hW : w8.alloc _ = w9
    have F9 := Lib.hid (F8.out.layAs (cs := (Mg.cells ⟨4, 0, n, 0, 0, 0, 0, 0, 0, 0, 0, 0, false⟩).toArray) (t := 33) hW)
    clear hW F8
    generalize w8.heap.size = b14 at *
    obtain ⟨p0, -, p2, -⟩ := msg_cells (F9.out.at 0 rfl)
    go_wp2_with fail
    clear p0 p2
    have FF := Lib.hid F9.out.rest
    clear F9
    have F9 := FF
    clear FF
    obtain ⟨y0, a1, a2, a3⟩ := g_inval g n dirty n0 (by omega)
    rw [HDS.out] at a1 a2 a3
    have HW := forward_is F9.out.cache ad HS.out ⟨6, 0, n, 0, 0, 0, 0, 0, 0, 0, 0, 0, false⟩
    rw [a1, a2, a3] at HW
    simp only [Mg.val] at HW
    refine HW.mono ?_
    clear HW
    rintro r w10 ⟨rfl, hA, hk⟩
    have F10 := Lib.hid (F9.out.step hA hk)
    clear hA hk F9
    clear a1 a2 a3
    go_upto_region 19 with fail
    generalize hW : w10.alloc _ = w11
    have F11 := Lib.hid (F10.out.layAs (cs := (Mg.cells ⟨11, 0, n, 0, 0, 0, 0, 0, y0, 0, 0, 0, dirty⟩).toArray) (t := 33) hW)
    clear hW F10
    generalize w10.heap.size = b16 at *
    have p12 := (msg_cells (F11.out.at 0 rfl)).2.2.2.2.2.2.2.2.2.2.2.2
    go_wp2_with fail
    refine (misses_is F11.out.cache).mono ?_
    rintro r wM ⟨v', rfl, hr, -, hb⟩
    obtain ⟨AM, cM, rfl⟩ := hr.many (n := 1) rfl
    have FM := Lib.hid (F11.out.rest.below hb)
    clear hr hb p12 F11
    go_wp2_with fail
    obtain ⟨a1, a2, a3⟩ := g_gone g n n0 (by omega)
    have HW := answer_is FM.out.cache ad HS.out ⟨15, 0, n, 0, 0, 0, 0, 0, 0, 0, 0, 0, false⟩
    rw [a1, a2, a3] at HW
    simp only [Mg.val, Mg.zero] at HW
    refine HW.mono ?_
    clear HW
    rintro r wN ⟨rfl, hA, hk⟩
    have FN := Lib.hid (FM.out.step hA hk)
    clear hA hk FM a1 a2 a3
    go_upto_region 22 with fail
    generalize hW : wN.alloc _ = wO
    have FO := Lib.hid (FN.out.layAs (cs := Mg.zero.cells.toArray) (t := 33) hW)
    clear hW FN
    generalize wN.heap.size = b18 at *
    have he := fun w : World => eqMsg_same Mg.zero w
    simp only [Mg.val, Mg.zero] at he
    obtain ⟨p0, p1, p2, p3, p4, p5, p6, p7, p8, p9, p10, p11, p12⟩ := msg_cells (FO.out.at 0 rfl)
    simp only [Mg.zero] at p0 p1 p2 p3 p4 p5 p6 p7 p8 p9 p10 p11 p12
    go_wp2_with fail
    refine (misses_is FO.out.cache).mono ?_
    rintro r wP ⟨v', rfl, hr, -, hb⟩
    obtain ⟨AP, cP, rfl⟩ := hr.many (n := 0) rfl
    have FP := Lib.hid (FO.out.rest.below hb)
    clear hr hb FO he p0 p1 p2 p3 p4 p5 p6 p7 p8 p9 p10 p11 p12
    go_wp2_with fail
    refine (entries_is FP.out.cache).mono ?_
    rintro r wQ ⟨v', rfl, hr, hb⟩
    obtain ⟨AQ, cQ, rfl⟩ := hr.none rfl
    have FQ := Lib.hid (FP.out.below hb)
    clear hr hb FP
    go_wp2_with fail
    refine (cacheRuns_is wQ ad (HS.out.of_below FQ.out.based)).mono ?_
    rintro r wz ⟨rfl, hb⟩
    have HZ := Lib.hid (FQ.out.based.trans (hb.mono FQ.out.based.size))
    clear hb FQ
    go_wp2
    go_ret
    exact ⟨rfl, HZ.out⟩
end Go.Proofs.YtfaihaknibmcpaaDoor
