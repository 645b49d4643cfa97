/- The law CacheAsks, walked. -/
import Derived.Test.YtfaihaknibmcpaaDoorSteps
import Derived.Test.YtfaihaknibmcpaaDoorRuns
namespace Go.Proofs.YtfaihaknibmcpaaDoor
open Go.RowKit Go.Extern.Stop Go.Stop Go.Extern

def a0 (g : Nat) : CSt := ⟨2, 4, 2, 4, newSets g 2 4, []⟩
def a1 (g : Nat) (n k : Int) : CSt := ⟨2, 4, 2, 4, newSets g 2 4, [(n, k)]⟩
theorem a_line {n : Int} (h0 : 0 ≤ n) (h : n ≤ 31) : isLine n = true := (isLine_iff n).2 ⟨h0, by omega⟩
/-- What isn't there: it is asked for to read, or else to write. -/
theorem a_first (g : Nat) (n k wd v : Int) (ad : Nat → Addr) (h0 : 0 ≤ n) (h : n ≤ 31) (hk1 : 1 ≤ k) (hk3 : k ≤ 3) (hw0 : 0 ≤ wd) (hw : wd ≤ 3) (kd : Int) (hkd : kd = if k = 1 then 1 else 2) :
    wantTo (a0 g) n k wd = a1 g n kd ∧ wantSays (a0 g) n k wd v = ⟨kd, 2, n, 0, 0, 0, 0, 0, 0, 0, 0, 0, false⟩ ∧ wantErr ad (a0 g) n k wd = .nilIface := by
  have hg := getS_new g 2 4 (by omega) n
  have hr := roomS_new g 2 4 (by omega) (by omega) (a_line h0 h)
  have hwk : wantKind (a0 g) n k = kd := by
    unfold wantKind
    rw [show getS (a0 g).S n = none from hg, hkd]
    have : k = 1 ∨ k = 2 ∨ k = 3 := by omega
    rcases this with rfl | rfl | rfl <;> rfl
  have := want_ask (q := a0 g) v ad (bad_no h0 (by omega) hk1 hk3 hw0 (by omega)) rfl (.inl ⟨hg, rfl, hr⟩) (by rw [hwk]; exact add_ok h0 (by omega) (by rw [hkd]; split <;> omega) (by rw [hkd]; split <;> omega) rfl (by show 0 < 4; omega))
  rw [hwk] at this
  refine ⟨this.1, this.2.1.trans ?_, this.2.2⟩
  have : k = 1 ∨ k = 2 ∨ k = 3 := by omega
  rcases this with rfl | rfl | rfl <;> (subst hkd; rfl)
theorem a_busy (q : CSt) (n wd v : Int) (ad : Nat → Addr) (h0 : 0 ≤ n) (h : n ≤ 31) (hw0 : 0 ≤ wd) (hw : wd ≤ 3) (kd : Int) (hl : q.l = [(n, kd)]) :
    wantTo q n 2 wd = q ∧ wantSays q n 2 wd v = Mg.zero ∧ wantErr ad q n 2 wd = faultIn n (sentV (ad 7)) :=
  want_no v ad (want_busy (bad_no h0 (by omega) (by omega) (by omega) hw0 (by omega)) (by rw [hl]; simp [has]))
theorem a_answer (g : Nat) (n m : Int) (h0 : 0 ≤ n) (h : n ≤ 31) (hm0 : 0 ≤ m) (hm : m ≤ 3) :
    answerOk (a1 g n 1) ⟨13, 2, n, 1, m, 0, 0, 0, 0, 0, 0, 0, true⟩ = true ∧ answerSays (a1 g n 1) ⟨13, 2, n, 1, m, 0, 0, 0, 0, 0, 0, 0, true⟩ = { Mg.zero with kind := 12, core := 2, line := n } ∧ Has (answerTo (a1 g n 1) ⟨13, 2, n, 1, m, 0, 0, 0, 0, 0, 0, 0, true⟩) 2 n ⟨n, 1, m, 0, 0, 0, 0, 0, false, true⟩ [] ∧ (answerTo (a1 g n 1) ⟨13, 2, n, 1, m, 0, 0, 0, 0, 0, 0, 0, true⟩).most = 4 := by
  have hd := answer_data (q := a1 g n 1) (m := ⟨13, 2, n, 1, m, 0, 0, 0, 0, 0, 0, 0, true⟩) (okQ_new 2 g 2 4 4 _ (by omega)) (right_data (by omega) ⟨h0, h⟩ (.inl rfl) ⟨hm0, hm⟩ (by omega)) rfl rfl rfl (roomS_new g 2 4 (by omega) (by omega) (a_line h0 h)) (by simp [rightE]; omega)
  have := has_data (q := a1 g n 1) (c := 2) (l := [(n, 1)]) (x := n) (st := 1) (mo := m) (ep := 0) (d0 := 0) (d1 := 0) (d2 := 0) (d3 := 0) (okQ_new 2 g 2 4 4 _ (by omega)) rfl rfl (by omega) ⟨h0, h⟩ (.inl rfl) ⟨hm0, hm⟩ (by omega) (roomS_new g 2 4 (by omega) (by omega) (a_line h0 h))
  rw [show dropOf n [(n, (1 : Int))] = [] by simp [dropOf]] at this
  exact ⟨this.1, this.2.1, this.2.2, by rw [hd.2.2.2.2]; rfl⟩
/-- What is there: it is asked for to be written, or updated. -/
theorem a_there {q : CSt} {n m : Int} (h : Has q 2 n ⟨n, 1, m, 0, 0, 0, 0, 0, false, true⟩ []) (hmo : q.most = 4) (k wd v : Int) (ad : Nat → Addr) (h0 : 0 ≤ n) (hn : n ≤ 31) (hk1 : 2 ≤ k) (hk3 : k ≤ 3) (hw0 : 0 ≤ wd) (hw : wd ≤ 3) (kd : Int) (hkd : kd = if k = 3 ∧ m = 2 then 3 else 2) :
    wantTo q n k wd = { q with l := [(n, kd)] } ∧ wantSays q n k wd v = askM 2 n kd wd v ∧ wantErr ad q n k wd = .nilIface := by
  have hwk : wantKind q n k = kd := by
    unfold wantKind
    rw [h.at', hkd]
    have : k = 2 ∨ k = 3 := by omega
    rcases this with rfl | rfl
    · rfl
    · by_cases hm : m = 2
      · simp [hm]
      · simp [hm]
  have := want_ask (q := q) v ad (bad_no h0 (by omega) (by omega) hk3 hw0 (by omega)) (by rw [h.l]; rfl) (.inr ⟨by rw [h.at']; rfl, by omega⟩) (by rw [hwk, h.l, hmo]; exact add_ok h0 (by omega) (by rw [hkd]; split <;> omega) (by rw [hkd]; split <;> omega) rfl (by show 0 < 4; omega))
  rw [hwk, h.l] at this
  exact ⟨this.1, this.2.1.trans (by rw [h.core]), this.2.2⟩
theorem a_has {q : CSt} {n m : Int} (h : Has q 2 n ⟨n, 1, m, 0, 0, 0, 0, 0, false, true⟩ []) (wd v : Int) (ad : Nat → Addr) (h0 : 0 ≤ n) (hn : n ≤ 31) (hw0 : 0 ≤ wd) (hw : wd ≤ 3) :
    wantTo q n 1 wd = q ∧ wantSays q n 1 wd v = Mg.zero ∧ wantErr ad q n 1 wd = faultIn n (sentV (ad 7)) :=
  want_no v ad (want_has (bad_no h0 (by omega) (by omega) (by omega) hw0 (by omega)) (by rw [h.l]; rfl) (by rw [h.at']; rfl))
set_option maxRecDepth 100000 in
set_option maxHeartbeats 8000000 in
theorem cacheAsks_is (line kind word v mode : Int) (there : Bool) (w : World) (ad : Nat → Addr) (HSE : Sents w ad) :
    Calls Tryd.prog 5 #[.int .i64 line, .int .i64 kind, .int .i64 word, .int .u32 v, .int .i64 mode, .bool there] w fun e w' => e = .returned (.bool true) ∧ Below w.heap.size w w' := by
  have HS := Lib.hid HSE
  clear HSE
  obtain ⟨n, n0, n31, N1⟩ := within_int line 31 (by omega)
  obtain ⟨d, d0, d3, D1⟩ := within_int word 3 (by omega)
  obtain ⟨m, m0, m3, M1⟩ := within_int mode 3 (by omega)
  obtain ⟨j, j0, j2, J1⟩ := within_int kind 2 (by omega)
  have HN := Lib.hid N1
  have HD := Lib.hid D1
  have HM := Lib.hid M1
  have HJ := Lib.hid J1
  clear N1 D1 J1 M1
  go_enter Tryd.func5, Tryd.ntmps5
  go_wp2_with fail
  refine (new_ok ⟨3, 32, 4, 2, 4, 1, 1, 1, 0⟩ 2 4 2 4 (by kernel_rfl) rfl rfl rfl (by omega) (by show (2 : Int) < 3; omega) w ad HS.out).mono ?_
  rintro r w1 ⟨A, g, rfl, hC⟩
  have F1 : Hid (FrameAt (fun _ => False) w w1 w1 A (a0 g) []) := FrameAt.start hC
  clear hC
  go_wp2_with fail
  refine (HN.out _).mono ?_
  rintro r w1 ⟨rfl, rfl⟩
  go_wp2_with fail
  refine (HD.out _).mono ?_
  rintro r w1 ⟨rfl, rfl⟩
  go_wp2_with fail
  refine (HM.out _).mono ?_
  rintro r w1 ⟨rfl, rfl⟩
  clear HN HD HM
  have hj : j = 0 ∨ j = 1 ∨ j = 2 := by omega
  clear j0 j2
  rcases hj with rfl | rfl | rfl
  · go_wp2_with fail
    refine (HJ.out _).mono ?_
    rintro r w1 ⟨rfl, rfl⟩
    clear HJ
    cases there with
    | false =>
      go_wp2_with fail
      obtain ⟨e1, e2, e3⟩ := a_first g n 1 d v ad n0 n31 (by omega) (by omega) d0 d3 1 (by rfl)
      have e2' : wantSays _ n 1 d v = ⟨1, 2, n, 0, 0, 0, 0, 0, 0, 0, 0, 0, false⟩ := e2
      have HW := want_is F1.out.cache ad HS.out n 1 d v
      rw [e1, e2', e3] at HW
      simp only [Mg.val] at HW
      refine HW.mono ?_
      clear HW
      rintro r w2 ⟨rfl, hA, hk⟩
      have F2 := Lib.hid (F1.out.step hA hk)
      clear hA hk F1
      clear e1 e2 e2' e3
      have HL : Hid ((a1 g n 1).l = [(n, 1)]) := rfl
      generalize a1 g n 1 = q3 at *
      go_upto_region 12 with fail
      generalize hW : w2.alloc _ = w3
      have F3 := Lib.hid (F2.out.layAs (cs := (Mg.cells ⟨1, 2, n, 0, 0, 0, 0, 0, 0, 0, 0, 0, false⟩).toArray) (t := 33) hW)
      clear hW F2
      generalize w2.heap.size = b21 at *
      go_upto_region 13 with fail
      generalize hW : w3.alloc _ = w4
      have F4 := Lib.hid (F3.out.layAs (cs := (Mg.cells ⟨1, 2, n, 0, 0, 0, 0, 0, 0, 0, 0, 0, false⟩).toArray) (t := 33) hW)
      clear hW F3
      generalize w3.heap.size = b23 at *
      go_wp2_with fail
      obtain ⟨e1, e2, e3⟩ := a_busy q3 n d v ad n0 n31 d0 d3 1 HL.out
      have HW := want_is F4.out.cache ad HS.out n 2 d v
      rw [e1, e2, e3] at HW
      simp only [Mg.val, Mg.zero] at HW
      refine HW.mono ?_
      clear HW
      rintro r w5 ⟨rfl, hA, hk⟩
      have F5 := Lib.hid (F4.out.step hA hk)
      clear hA hk F4
      clear e1 e2 e3
      go_upto_region 20 with fail
      generalize hW : w5.alloc _ = w6
      have F6 := Lib.hid (F5.out.skip hW)
      clear hW F5
      have he := fun w : World => eqMsg_same ⟨1, 2, n, 0, 0, 0, 0, 0, 0, 0, 0, 0, false⟩ w
      simp only [Mg.val] at he
      obtain ⟨p0, p1, p2, p3, p4, p5, p6, p7, p8, p9, p10, p11, p12⟩ := msg_cells (F6.out.at 1 rfl)
      obtain ⟨r0, r1, r2, r3, r4, r5, r6, r7, r8, r9, r10, r11, r12⟩ := msg_cells (F6.out.at 0 rfl)
      go_wp2_with fail
      have HW := keepIs_want n 7 ad w6 (by omega) (by omega) (HS.out.of_below F6.out.based)
      refine HW.mono ?_
      clear HW
      rintro r w7 ⟨rfl, hb⟩
      have F7 := Lib.hid (F6.out.below hb)
      clear hb F6
      clear he p0 p1 p2 p3 p4 p5 p6 p7 p8 p9 p10 p11 p12 r0 r1 r2 r3 r4 r5 r6 r7 r8 r9 r10 r11 r12
      go_wp2_with fail
      refine (misses_is F7.out.cache).mono ?_
      rintro r wM ⟨v', rfl, hr, -, hb⟩
      obtain ⟨AM, cM, rfl⟩ := hr.many (n := 1) (by rw [show q3.l = [(n, 1)] from HL.out]; rfl)
      have FM := Lib.hid (F7.out.below hb)
      clear hr hb F7
      go_wp2_with fail
      refine (cacheRuns_is wM ad (HS.out.of_below FM.out.based)).mono ?_
      rintro r wz ⟨rfl, hb⟩
      have HZ := Lib.hid (FM.out.based.trans (hb.mono FM.out.based.size))
      clear hb FM
      go_wp2
      go_ret
      exact ⟨rfl, HZ.out⟩
    | true =>
      go_wp2_with fail
      obtain ⟨e1, e2, e3⟩ := a_first g n 1 0 0 ad n0 n31 (by omega) (by omega) (by omega) (by omega) 1 (by rfl)
      have HW := want_is F1.out.cache ad HS.out n 1 0 0
      rw [e1, e2, e3] at HW
      simp only [Mg.val] at HW
      refine HW.mono ?_
      clear HW
      rintro r w2 ⟨rfl, hA, hk⟩
      have F2 := Lib.hid (F1.out.step hA hk)
      clear hA hk F1
      clear e1 e2 e3
      go_wp2_with fail
      obtain ⟨e1, e2, e3, e4⟩ := a_answer g n m n0 n31 m0 m3
      have HW := answer_is F2.out.cache ad HS.out ⟨13, 2, n, 1, m, 0, 0, 0, 0, 0, 0, 0, true⟩
      rw [e1, e2] at HW
      simp only [Mg.val, Mg.zero] at HW
      refine HW.mono ?_
      clear HW
      rintro r w3 ⟨rfl, hA, hk⟩
      have F3 := Lib.hid (F2.out.step hA hk)
      clear hA hk F2
      have H3 := Lib.hid e3
      have H4 := Lib.hid e4
      clear e1 e2 e3 e4
      generalize answerTo (a1 g n 1) _ = q2 at *
      go_upto_region 9 with fail
      generalize hW : w3.alloc _ = w4
      have F4 := Lib.hid (F3.out.skip hW)
      clear hW F3
      go_wp2_with fail
      obtain ⟨e1, e2, e3⟩ := a_has H3.out d v ad n0 n31 d0 d3
      have HW := want_is F4.out.cache ad HS.out n 1 d v
      rw [e1, e2, e3] at HW
      simp only [Mg.val, Mg.zero] at HW
      refine HW.mono ?_
      clear HW
      rintro r w5 ⟨rfl, hA, hk⟩
      have F5 := Lib.hid (F4.out.step hA hk)
      clear hA hk F4
      clear e1 e2 e3
      go_upto_region 12 with fail
      generalize hW : w5.alloc _ = w6
      have F6 := Lib.hid (F5.out.layAs (cs := (Mg.cells Mg.zero).toArray) (t := 33) hW)
      clear hW F5
      generalize w5.heap.size = b21 at *
      go_upto_region 13 with fail
      generalize hW : w6.alloc _ = w7
      have F7 := Lib.hid (F6.out.skip hW)
      clear hW F6
      have he := fun w : World => eqMsg_same Mg.zero w
      simp only [Mg.val, Mg.zero] at he
      obtain ⟨p0, p1, p2, p3, p4, p5, p6, p7, p8, p9, p10, p11, p12⟩ := msg_cells (F7.out.at 0 rfl)
      simp only [Mg.zero] at p0 p1 p2 p3 p4 p5 p6 p7 p8 p9 p10 p11 p12
      go_wp2_with fail
      have HW := keepIs_want n 7 ad w7 (by omega) (by omega) (HS.out.of_below F7.out.based)
      refine HW.mono ?_
      clear HW
      rintro r w8 ⟨rfl, hb⟩
      have F8 := Lib.hid (F7.out.below hb)
      clear hb F7
      obtain ⟨p0, p1, p2, p3, p4, p5, p6, p7, p8, p9, p10, p11, p12⟩ := msg_cells (F8.out.at 0 rfl)
      simp only [Mg.zero] at p0 p1 p2 p3 p4 p5 p6 p7 p8 p9 p10 p11 p12
      go_wp2_with fail
      refine (misses_is F8.out.cache).mono ?_
      rintro r wM ⟨v', rfl, hr, -, hb⟩
      obtain ⟨AM, cM, rfl⟩ := hr.many (n := 0) (by rw [H3.out.l]; rfl)
      have FM := Lib.hid (F8.out.below hb)
      clear hr hb F8
      go_wp2_with fail
      refine (cacheRuns_is wM ad (HS.out.of_below FM.out.based)).mono ?_
      rintro r wz ⟨rfl, hb⟩
      have HZ := Lib.hid (FM.out.based.trans (hb.mono FM.out.based.size))
      clear hb FM
      go_wp2
      go_ret
      exact ⟨rfl, HZ.out⟩
  · go_wp2_with fail
    refine (HJ.out _).mono ?_
    rintro r w1 ⟨rfl, rfl⟩
    clear HJ
    cases there with
    | false =>
      go_wp2_with fail
      obtain ⟨e1, e2, e3⟩ := a_first g n 2 d v ad n0 n31 (by omega) (by omega) d0 d3 2 (by rfl)
      have e2' : wantSays _ n 2 d v = ⟨2, 2, n, 0, 0, 0, 0, 0, 0, 0, 0, 0, false⟩ := e2
      have HW := want_is F1.out.cache ad HS.out n 2 d v
      rw [e1, e2', e3] at HW
      simp only [Mg.val] at HW
      refine HW.mono ?_
      clear HW
      rintro r w2 ⟨rfl, hA, hk⟩
      have F2 := Lib.hid (F1.out.step hA hk)
      clear hA hk F1
      clear e1 e2 e2' e3
      have HL : Hid ((a1 g n 2).l = [(n, 2)]) := rfl
      generalize a1 g n 2 = q3 at *
      go_upto_region 12 with fail
      generalize hW : w2.alloc _ = w3
      have F3 := Lib.hid (F2.out.layAs (cs := (Mg.cells ⟨2, 2, n, 0, 0, 0, 0, 0, 0, 0, 0, 0, false⟩).toArray) (t := 33) hW)
      clear hW F2
      generalize w2.heap.size = b21 at *
      go_upto_region 13 with fail
      generalize hW : w3.alloc _ = w4
      have F4 := Lib.hid (F3.out.layAs (cs := (Mg.cells ⟨1, 2, n, 0, 0, 0, 0, 0, 0, 0, 0, 0, false⟩).toArray) (t := 33) hW)
      clear hW F3
      generalize w3.heap.size = b23 at *
      have hfz : ∀ c, w4.frozen? ⟨b23, c, none⟩ = false := fun c => nofreeze (F4.out.at 0 rfl)
      obtain ⟨m0', m1', m2', m3', m4', m5', m6', m7', m8', m9', m10', m11', m12'⟩ := msg_cells (F4.out.at 0 rfl)
      go_upto_region 19 with fail
      have F5 : Hid (FrameAt (fun _ => False) w w1 (w4.setCell ⟨b23, 0, none⟩ (.int .i64 2)) A q3 [⟨b23, (Mg.cells ⟨2, 2, n, 0, 0, 0, 0, 0, 0, 0, 0, 0, false⟩).toArray, 33⟩, ⟨b21, (Mg.cells ⟨2, 2, n, 0, 0, 0, 0, 0, 0, 0, 0, 0, false⟩).toArray, 33⟩]) := F4.out.setCell 0 b23 _ _ rfl 0 (.int .i64 2)
      clear F4 hfz m0' m1' m2' m3' m4' m5' m6' m7' m8' m9' m10' m11' m12'
      generalize w4.setCell _ _ = w5 at *
      go_wp2_with fail
      obtain ⟨e1, e2, e3⟩ := a_busy q3 n d v ad n0 n31 d0 d3 2 HL.out
      have HW := want_is F5.out.cache ad HS.out n 2 d v
      rw [e1, e2, e3] at HW
      simp only [Mg.val, Mg.zero] at HW
      refine HW.mono ?_
      clear HW
      rintro r w6 ⟨rfl, hA, hk⟩
      have F6 := Lib.hid (F5.out.step hA hk)
      clear hA hk F5
      clear e1 e2 e3
      go_upto_region 20 with fail
      generalize hW : w6.alloc _ = w7
      have F7 := Lib.hid (F6.out.skip hW)
      clear hW F6
      have he := fun w : World => eqMsg_same ⟨2, 2, n, 0, 0, 0, 0, 0, 0, 0, 0, 0, false⟩ w
      simp only [Mg.val] at he
      obtain ⟨p0, p1, p2, p3, p4, p5, p6, p7, p8, p9, p10, p11, p12⟩ := msg_cells (F7.out.at 1 rfl)
      obtain ⟨r0, r1, r2, r3, r4, r5, r6, r7, r8, r9, r10, r11, r12⟩ := msg_cells (F7.out.at 0 rfl)
      go_wp2_with fail
      have HW := keepIs_want n 7 ad w7 (by omega) (by omega) (HS.out.of_below F7.out.based)
      refine HW.mono ?_
      clear HW
      rintro r w8 ⟨rfl, hb⟩
      have F8 := Lib.hid (F7.out.below hb)
      clear hb F7
      clear he p0 p1 p2 p3 p4 p5 p6 p7 p8 p9 p10 p11 p12 r0 r1 r2 r3 r4 r5 r6 r7 r8 r9 r10 r11 r12
      go_wp2_with fail
      refine (misses_is F8.out.cache).mono ?_
      rintro r wM ⟨v', rfl, hr, -, hb⟩
      obtain ⟨AM, cM, rfl⟩ := hr.many (n := 1) (by rw [show q3.l = [(n, 2)] from HL.out]; rfl)
      have FM := Lib.hid (F8.out.below hb)
      clear hr hb F8
      go_wp2_with fail
      refine (cacheRuns_is wM ad (HS.out.of_below FM.out.based)).mono ?_
      rintro r wz ⟨rfl, hb⟩
      have HZ := Lib.hid (FM.out.based.trans (hb.mono FM.out.based.size))
      clear hb FM
      go_wp2
      go_ret
      exact ⟨rfl, HZ.out⟩
    | true =>
      go_wp2_with fail
      obtain ⟨e1, e2, e3⟩ := a_first g n 1 0 0 ad n0 n31 (by omega) (by omega) (by omega) (by omega) 1 (by rfl)
      have HW := want_is F1.out.cache ad HS.out n 1 0 0
      rw [e1, e2, e3] at HW
      simp only [Mg.val] at HW
      refine HW.mono ?_
      clear HW
      rintro r w2 ⟨rfl, hA, hk⟩
      have F2 := Lib.hid (F1.out.step hA hk)
      clear hA hk F1
      clear e1 e2 e3
      go_wp2_with fail
      obtain ⟨e1, e2, e3, e4⟩ := a_answer g n m n0 n31 m0 m3
      have HW := answer_is F2.out.cache ad HS.out ⟨13, 2, n, 1, m, 0, 0, 0, 0, 0, 0, 0, true⟩
      rw [e1, e2] at HW
      simp only [Mg.val, Mg.zero] at HW
      refine HW.mono ?_
      clear HW
      rintro r w3 ⟨rfl, hA, hk⟩
      have F3 := Lib.hid (F2.out.step hA hk)
      clear hA hk F2
      have H3 := Lib.hid e3
      have H4 := Lib.hid e4
      clear e1 e2 e3 e4
      generalize answerTo (a1 g n 1) _ = q2 at *
      go_upto_region 9 with fail
      generalize hW : w3.alloc _ = w4
      have F4 := Lib.hid (F3.out.skip hW)
      clear hW F3
      go_wp2_with fail
      obtain ⟨e1, e2, e3⟩ := a_there H3.out H4.out 2 d v ad n0 n31 (by omega) (by omega) d0 d3 2 (by rw [if_neg (by omega)])
      have e2' : wantSays _ n 2 d v = ⟨2, 2, n, 0, 0, 0, 0, 0, 0, 0, 0, 0, false⟩ := e2
      have HW := want_is F4.out.cache ad HS.out n 2 d v
      rw [e1, e2', e3] at HW
      simp only [Mg.val] at HW
      refine HW.mono ?_
      clear HW
      rintro r w5 ⟨rfl, hA, hk⟩
      have F5 := Lib.hid (F4.out.step hA hk)
      clear hA hk F4
      clear e1 e2 e2' e3
      have HL : Hid (({ q2 with l := [(n, 2)] } : CSt).l = [(n, 2)]) := rfl
      generalize ({ q2 with l := [(n, 2)] } : CSt) = q3 at *
      go_upto_region 12 with fail
      generalize hW : w5.alloc _ = w6
      have F6 := Lib.hid (F5.out.layAs (cs := (Mg.cells ⟨2, 2, n, 0, 0, 0, 0, 0, 0, 0, 0, 0, false⟩).toArray) (t := 33) hW)
      clear hW F5
      generalize w5.heap.size = b21 at *
      go_upto_region 13 with fail
      generalize hW : w6.alloc _ = w7
      have F7 := Lib.hid (F6.out.layAs (cs := (Mg.cells ⟨1, 2, n, 0, 0, 0, 0, 0, 0, 0, 0, 0, false⟩).toArray) (t := 33) hW)
      clear hW F6
      generalize w6.heap.size = b23 at *
      have hfz : ∀ c, w7.frozen? ⟨b23, c, none⟩ = false := fun c => nofreeze (F7.out.at 0 rfl)
      obtain ⟨m0', m1', m2', m3', m4', m5', m6', m7', m8', m9', m10', m11', m12'⟩ := msg_cells (F7.out.at 0 rfl)
      go_upto_region 19 with fail
      have F8 : Hid (FrameAt (fun _ => False) w w1 (w7.setCell ⟨b23, 0, none⟩ (.int .i64 2)) A q3 [⟨b23, (Mg.cells ⟨2, 2, n, 0, 0, 0, 0, 0, 0, 0, 0, 0, false⟩).toArray, 33⟩, ⟨b21, (Mg.cells ⟨2, 2, n, 0, 0, 0, 0, 0, 0, 0, 0, 0, false⟩).toArray, 33⟩]) := F7.out.setCell 0 b23 _ _ rfl 0 (.int .i64 2)
      clear F7 hfz m0' m1' m2' m3' m4' m5' m6' m7' m8' m9' m10' m11' m12'
      generalize w7.setCell _ _ = w8 at *
      go_wp2_with fail
      obtain ⟨e1, e2, e3⟩ := a_busy q3 n d v ad n0 n31 d0 d3 2 HL.out
      have HW := want_is F8.out.cache ad HS.out n 2 d v
      rw [e1, e2, e3] at HW
      simp only [Mg.val, Mg.zero] at HW
      refine HW.mono ?_
      clear HW
      rintro r w9 ⟨rfl, hA, hk⟩
      have F9 := Lib.hid (F8.out.step hA hk)
      clear hA hk F8
      clear e1 e2 e3
      go_upto_region 20 with fail
      generalize hW : w9.alloc _ = w10
      have F10 := Lib.hid (F9.out.skip hW)
      clear hW F9
      have he := fun w : World => eqMsg_same ⟨2, 2, n, 0, 0, 0, 0, 0, 0, 0, 0, 0, false⟩ w
      simp only [Mg.val] at he
      obtain ⟨p0, p1, p2, p3, p4, p5, p6, p7, p8, p9, p10, p11, p12⟩ := msg_cells (F10.out.at 1 rfl)
      obtain ⟨r0, r1, r2, r3, r4, r5, r6, r7, r8, r9, r10, r11, r12⟩ := msg_cells (F10.out.at 0 rfl)
      go_wp2_with fail
      have HW := keepIs_want n 7 ad w10 (by omega) (by omega) (HS.out.of_below F10.out.based)
      refine HW.mono ?_
      clear HW
      rintro r w11 ⟨rfl, hb⟩
      have F11 := Lib.hid (F10.out.below hb)
      clear hb F10
      clear he p0 p1 p2 p3 p4 p5 p6 p7 p8 p9 p10 p11 p12 r0 r1 r2 r3 r4 r5 r6 r7 r8 r9 r10 r11 r12
      go_wp2_with fail
      refine (misses_is F11.out.cache).mono ?_
      rintro r wM ⟨v', rfl, hr, -, hb⟩
      obtain ⟨AM, cM, rfl⟩ := hr.many (n := 1) (by rw [show q3.l = [(n, 2)] from HL.out]; rfl)
      have FM := Lib.hid (F11.out.below hb)
      clear hr hb F11
      go_wp2_with fail
      refine (cacheRuns_is wM ad (HS.out.of_below FM.out.based)).mono ?_
      rintro r wz ⟨rfl, hb⟩
      have HZ := Lib.hid (FM.out.based.trans (hb.mono FM.out.based.size))
      clear hb FM
      go_wp2
      go_ret
      exact ⟨rfl, HZ.out⟩
  · go_wp2_with fail
    refine (HJ.out _).mono ?_
    rintro r w1 ⟨rfl, rfl⟩
    clear HJ
    cases there with
    | false =>
      go_wp2_with fail
      obtain ⟨e1, e2, e3⟩ := a_first g n 3 d v ad n0 n31 (by omega) (by omega) d0 d3 2 (by rfl)
      have e2' : wantSays _ n 3 d v = ⟨2, 2, n, 0, 0, 0, 0, 0, 0, 0, 0, 0, false⟩ := e2
      have HW := want_is F1.out.cache ad HS.out n 3 d v
      rw [e1, e2', e3] at HW
      simp only [Mg.val] at HW
      refine HW.mono ?_
      clear HW
      rintro r w2 ⟨rfl, hA, hk⟩
      have F2 := Lib.hid (F1.out.step hA hk)
      clear hA hk F1
      clear e1 e2 e2' e3
      have HL : Hid ((a1 g n 2).l = [(n, 2)]) := rfl
      generalize a1 g n 2 = q3 at *
      go_upto_region 12 with fail
      generalize hW : w2.alloc _ = w3
      have F3 := Lib.hid (F2.out.layAs (cs := (Mg.cells ⟨2, 2, n, 0, 0, 0, 0, 0, 0, 0, 0, 0, false⟩).toArray) (t := 33) hW)
      clear hW F2
      generalize w2.heap.size = b21 at *
      go_upto_region 13 with fail
      generalize hW : w3.alloc _ = w4
      have F4 := Lib.hid (F3.out.layAs (cs := (Mg.cells ⟨1, 2, n, 0, 0, 0, 0, 0, 0, 0, 0, 0, false⟩).toArray) (t := 33) hW)
      clear hW F3
      generalize w3.heap.size = b23 at *
      have hfz : ∀ c, w4.frozen? ⟨b23, c, none⟩ = false := fun c => nofreeze (F4.out.at 0 rfl)
      obtain ⟨m0', m1', m2', m3', m4', m5', m6', m7', m8', m9', m10', m11', m12'⟩ := msg_cells (F4.out.at 0 rfl)
      go_upto_region 19 with fail
      have F5 : Hid (FrameAt (fun _ => False) w w1 (w4.setCell ⟨b23, 0, none⟩ (.int .i64 2)) A q3 [⟨b23, (Mg.cells ⟨2, 2, n, 0, 0, 0, 0, 0, 0, 0, 0, 0, false⟩).toArray, 33⟩, ⟨b21, (Mg.cells ⟨2, 2, n, 0, 0, 0, 0, 0, 0, 0, 0, 0, false⟩).toArray, 33⟩]) := F4.out.setCell 0 b23 _ _ rfl 0 (.int .i64 2)
      clear F4 hfz m0' m1' m2' m3' m4' m5' m6' m7' m8' m9' m10' m11' m12'
      generalize w4.setCell _ _ = w5 at *
      go_wp2_with fail
      obtain ⟨e1, e2, e3⟩ := a_busy q3 n d v ad n0 n31 d0 d3 2 HL.out
      have HW := want_is F5.out.cache ad HS.out n 2 d v
      rw [e1, e2, e3] at HW
      simp only [Mg.val, Mg.zero] at HW
      refine HW.mono ?_
      clear HW
      rintro r w6 ⟨rfl, hA, hk⟩
      have F6 := Lib.hid (F5.out.step hA hk)
      clear hA hk F5
      clear e1 e2 e3
      go_upto_region 20 with fail
      generalize hW : w6.alloc _ = w7
      have F7 := Lib.hid (F6.out.skip hW)
      clear hW F6
      have he := fun w : World => eqMsg_same ⟨2, 2, n, 0, 0, 0, 0, 0, 0, 0, 0, 0, false⟩ w
      simp only [Mg.val] at he
      obtain ⟨p0, p1, p2, p3, p4, p5, p6, p7, p8, p9, p10, p11, p12⟩ := msg_cells (F7.out.at 1 rfl)
      obtain ⟨r0, r1, r2, r3, r4, r5, r6, r7, r8, r9, r10, r11, r12⟩ := msg_cells (F7.out.at 0 rfl)
      go_wp2_with fail
      have HW := keepIs_want n 7 ad w7 (by omega) (by omega) (HS.out.of_below F7.out.based)
      refine HW.mono ?_
      clear HW
      rintro r w8 ⟨rfl, hb⟩
      have F8 := Lib.hid (F7.out.below hb)
      clear hb F7
      clear he p0 p1 p2 p3 p4 p5 p6 p7 p8 p9 p10 p11 p12 r0 r1 r2 r3 r4 r5 r6 r7 r8 r9 r10 r11 r12
      go_wp2_with fail
      refine (misses_is F8.out.cache).mono ?_
      rintro r wM ⟨v', rfl, hr, -, hb⟩
      obtain ⟨AM, cM, rfl⟩ := hr.many (n := 1) (by rw [show q3.l = [(n, 2)] from HL.out]; rfl)
      have FM := Lib.hid (F8.out.below hb)
      clear hr hb F8
      go_wp2_with fail
      refine (cacheRuns_is wM ad (HS.out.of_below FM.out.based)).mono ?_
      rintro r wz ⟨rfl, hb⟩
      have HZ := Lib.hid (FM.out.based.trans (hb.mono FM.out.based.size))
      clear hb FM
      go_wp2
      go_ret
      exact ⟨rfl, HZ.out⟩
    | true =>
      go_wp2_with fail
      obtain ⟨e1, e2, e3⟩ := a_first g n 1 0 0 ad n0 n31 (by omega) (by omega) (by omega) (by omega) 1 (by rfl)
      have HW := want_is F1.out.cache ad HS.out n 1 0 0
      rw [e1, e2, e3] at HW
      simp only [Mg.val] at HW
      refine HW.mono ?_
      clear HW
      rintro r w2 ⟨rfl, hA, hk⟩
      have F2 := Lib.hid (F1.out.step hA hk)
      clear hA hk F1
      clear e1 e2 e3
      go_wp2_with fail
      obtain ⟨e1, e2, e3, e4⟩ := a_answer g n m n0 n31 m0 m3
      have HW := answer_is F2.out.cache ad HS.out ⟨13, 2, n, 1, m, 0, 0, 0, 0, 0, 0, 0, true⟩
      rw [e1, e2] at HW
      simp only [Mg.val, Mg.zero] at HW
      refine HW.mono ?_
      clear HW
      rintro r w3 ⟨rfl, hA, hk⟩
      have F3 := Lib.hid (F2.out.step hA hk)
      clear hA hk F2
      have H3 := Lib.hid e3
      have H4 := Lib.hid e4
      clear e1 e2 e3 e4
      generalize answerTo (a1 g n 1) _ = q2 at *
      go_upto_region 9 with fail
      generalize hW : w3.alloc _ = w4
      have F4 := Lib.hid (F3.out.skip hW)
      clear hW F3
      by_cases hm : m = 2
      · subst hm
        go_wp2_with fail
        obtain ⟨e1, e2, e3⟩ := a_there H3.out H4.out 3 d v ad n0 n31 (by omega) (by omega) d0 d3 3 (by rw [if_pos ⟨rfl, rfl⟩])
        have e2' : wantSays _ n 3 d v = ⟨3, 2, n, 0, 0, 0, d, v, 0, 0, 0, 0, false⟩ := e2
        have HW := want_is F4.out.cache ad HS.out n 3 d v
        rw [e1, e2', e3] at HW
        simp only [Mg.val] at HW
        refine HW.mono ?_
        clear HW
        rintro r w5 ⟨rfl, hA, hk⟩
        have F5 := Lib.hid (F4.out.step hA hk)
        clear hA hk F4
        clear e1 e2 e2' e3
        have HL : Hid (({ q2 with l := [(n, 3)] } : CSt).l = [(n, 3)]) := rfl
        generalize ({ q2 with l := [(n, 3)] } : CSt) = q3 at *
        go_upto_region 12 with fail
        generalize hW : w5.alloc _ = w6
        have F6 := Lib.hid (F5.out.layAs (cs := (Mg.cells ⟨3, 2, n, 0, 0, 0, d, v, 0, 0, 0, 0, false⟩).toArray) (t := 33) hW)
        clear hW F5
        generalize w5.heap.size = b21 at *
        go_upto_region 13 with fail
        generalize hW : w6.alloc _ = w7
        have F7 := Lib.hid (F6.out.layAs (cs := (Mg.cells ⟨1, 2, n, 0, 0, 0, 0, 0, 0, 0, 0, 0, false⟩).toArray) (t := 33) hW)
        clear hW F6
        generalize w6.heap.size = b23 at *
        have hfz : ∀ c, w7.frozen? ⟨b23, c, none⟩ = false := fun c => nofreeze (F7.out.at 0 rfl)
        obtain ⟨m0', m1', m2', m3', m4', m5', m6', m7', m8', m9', m10', m11', m12'⟩ := msg_cells (F7.out.at 0 rfl)
        go_upto_region 19 with fail
        have F8 : Hid (FrameAt (fun _ => False) w w1 (((w7.setCell ⟨b23, 0, none⟩ (.int .i64 3)).setCell ⟨b23, 6, none⟩ (.int .i64 d)).setCell ⟨b23, 7, none⟩ (.int .u32 v)) A q3 [⟨b23, (Mg.cells ⟨3, 2, n, 0, 0, 0, d, v, 0, 0, 0, 0, false⟩).toArray, 33⟩, ⟨b21, (Mg.cells ⟨3, 2, n, 0, 0, 0, d, v, 0, 0, 0, 0, false⟩).toArray, 33⟩]) := ((F7.out.setCell 0 b23 _ _ rfl 0 (.int .i64 3)).setCell 0 b23 _ _ rfl 6 (.int .i64 d)).setCell 0 b23 _ _ rfl 7 (.int .u32 v)
        clear F7 hfz m0' m1' m2' m3' m4' m5' m6' m7' m8' m9' m10' m11' m12'
        generalize (((w7.setCell _ _).setCell _ _).setCell _ _) = w8 at *
        go_wp2_with fail
        obtain ⟨e1, e2, e3⟩ := a_busy q3 n d v ad n0 n31 d0 d3 3 HL.out
        have HW := want_is F8.out.cache ad HS.out n 2 d v
        rw [e1, e2, e3] at HW
        simp only [Mg.val, Mg.zero] at HW
        refine HW.mono ?_
        clear HW
        rintro r w9 ⟨rfl, hA, hk⟩
        have F9 := Lib.hid (F8.out.step hA hk)
        clear hA hk F8
        clear e1 e2 e3
        go_upto_region 20 with fail
        generalize hW : w9.alloc _ = w10
        have F10 := Lib.hid (F9.out.skip hW)
        clear hW F9
        have he := fun w : World => eqMsg_same ⟨3, 2, n, 0, 0, 0, d, v, 0, 0, 0, 0, false⟩ w
        simp only [Mg.val] at he
        obtain ⟨p0, p1, p2, p3, p4, p5, p6, p7, p8, p9, p10, p11, p12⟩ := msg_cells (F10.out.at 1 rfl)
        obtain ⟨r0, r1, r2, r3, r4, r5, r6, r7, r8, r9, r10, r11, r12⟩ := msg_cells (F10.out.at 0 rfl)
        go_wp2_with fail
        have HW := keepIs_want n 7 ad w10 (by omega) (by omega) (HS.out.of_below F10.out.based)
        refine HW.mono ?_
        clear HW
        rintro r w11 ⟨rfl, hb⟩
        have F11 := Lib.hid (F10.out.below hb)
        clear hb F10
        clear he p0 p1 p2 p3 p4 p5 p6 p7 p8 p9 p10 p11 p12 r0 r1 r2 r3 r4 r5 r6 r7 r8 r9 r10 r11 r12
        go_wp2_with fail
        refine (misses_is F11.out.cache).mono ?_
        rintro r wM ⟨v', rfl, hr, -, hb⟩
        obtain ⟨AM, cM, rfl⟩ := hr.many (n := 1) (by rw [show q3.l = [(n, 3)] from HL.out]; rfl)
        have FM := Lib.hid (F11.out.below hb)
        clear hr hb F11
        go_wp2_with fail
        refine (cacheRuns_is wM ad (HS.out.of_below FM.out.based)).mono ?_
        rintro r wz ⟨rfl, hb⟩
        have HZ := Lib.hid (FM.out.based.trans (hb.mono FM.out.based.size))
        clear hb FM
        go_wp2
        go_ret
        exact ⟨rfl, HZ.out⟩
      · have hmb : (m == 2) = false := by simpa using hm
        go_wp2_with fail
        obtain ⟨e1, e2, e3⟩ := a_there H3.out H4.out 3 d v ad n0 n31 (by omega) (by omega) d0 d3 2 (by rw [if_neg (fun h => hm h.2)])
        clear hm
        have e2' : wantSays _ n 3 d v = ⟨2, 2, n, 0, 0, 0, 0, 0, 0, 0, 0, 0, false⟩ := e2
        have HW := want_is F4.out.cache ad HS.out n 3 d v
        rw [e1, e2', e3] at HW
        simp only [Mg.val] at HW
        refine HW.mono ?_
        clear HW
        rintro r w5 ⟨rfl, hA, hk⟩
        have F5 := Lib.hid (F4.out.step hA hk)
        clear hA hk F4
        clear e1 e2 e2' e3
        have HL : Hid (({ q2 with l := [(n, 2)] } : CSt).l = [(n, 2)]) := rfl
        generalize ({ q2 with l := [(n, 2)] } : CSt) = q3 at *
        go_upto_region 12 with fail
        generalize hW : w5.alloc _ = w6
        have F6 := Lib.hid (F5.out.layAs (cs := (Mg.cells ⟨2, 2, n, 0, 0, 0, 0, 0, 0, 0, 0, 0, false⟩).toArray) (t := 33) hW)
        clear hW F5
        generalize w5.heap.size = b21 at *
        go_upto_region 13 with fail
        generalize hW : w6.alloc _ = w7
        have F7 := Lib.hid (F6.out.layAs (cs := (Mg.cells ⟨1, 2, n, 0, 0, 0, 0, 0, 0, 0, 0, 0, false⟩).toArray) (t := 33) hW)
        clear hW F6
        generalize w6.heap.size = b23 at *
        have hfz : ∀ c, w7.frozen? ⟨b23, c, none⟩ = false := fun c => nofreeze (F7.out.at 0 rfl)
        obtain ⟨m0', m1', m2', m3', m4', m5', m6', m7', m8', m9', m10', m11', m12'⟩ := msg_cells (F7.out.at 0 rfl)
        go_upto_region 19 with fail
        have F8 : Hid (FrameAt (fun _ => False) w w1 (w7.setCell ⟨b23, 0, none⟩ (.int .i64 2)) A q3 [⟨b23, (Mg.cells ⟨2, 2, n, 0, 0, 0, 0, 0, 0, 0, 0, 0, false⟩).toArray, 33⟩, ⟨b21, (Mg.cells ⟨2, 2, n, 0, 0, 0, 0, 0, 0, 0, 0, 0, false⟩).toArray, 33⟩]) := F7.out.setCell 0 b23 _ _ rfl 0 (.int .i64 2)
        clear F7 hfz m0' m1' m2' m3' m4' m5' m6' m7' m8' m9' m10' m11' m12'
        generalize w7.setCell _ _ = w8 at *
        go_wp2_with fail
        obtain ⟨e1, e2, e3⟩ := a_busy q3 n d v ad n0 n31 d0 d3 2 HL.out
        have HW := want_is F8.out.cache ad HS.out n 2 d v
        rw [e1, e2, e3] at HW
        simp only [Mg.val, Mg.zero] at HW
        refine HW.mono ?_
        clear HW
        rintro r w9 ⟨rfl, hA, hk⟩
        have F9 := Lib.hid (F8.out.step hA hk)
        clear hA hk F8
        clear e1 e2 e3
        go_upto_region 20 with fail
        generalize hW : w9.alloc _ = w10
        have F10 := Lib.hid (F9.out.skip hW)
        clear hW F9
        have he := fun w : World => eqMsg_same ⟨2, 2, n, 0, 0, 0, 0, 0, 0, 0, 0, 0, false⟩ w
        simp only [Mg.val] at he
        obtain ⟨p0, p1, p2, p3, p4, p5, p6, p7, p8, p9, p10, p11, p12⟩ := msg_cells (F10.out.at 1 rfl)
        obtain ⟨r0, r1, r2, r3, r4, r5, r6, r7, r8, r9, r10, r11, r12⟩ := msg_cells (F10.out.at 0 rfl)
        go_wp2_with fail
        have HW := keepIs_want n 7 ad w10 (by omega) (by omega) (HS.out.of_below F10.out.based)
        refine HW.mono ?_
        clear HW
        rintro r w11 ⟨rfl, hb⟩
        have F11 := Lib.hid (F10.out.below hb)
        clear hb F10
        clear he p0 p1 p2 p3 p4 p5 p6 p7 p8 p9 p10 p11 p12 r0 r1 r2 r3 r4 r5 r6 r7 r8 r9 r10 r11 r12
        go_wp2_with fail
        refine (misses_is F11.out.cache).mono ?_
        rintro r wM ⟨v', rfl, hr, -, hb⟩
        obtain ⟨AM, cM, rfl⟩ := hr.many (n := 1) (by rw [show q3.l = [(n, 2)] from HL.out]; rfl)
        have FM := Lib.hid (F11.out.below hb)
        clear hr hb F11
        go_wp2_with fail
        refine (cacheRuns_is wM ad (HS.out.of_below FM.out.based)).mono ?_
        rintro r wz ⟨rfl, hb⟩
        have HZ := Lib.hid (FM.out.based.trans (hb.mono FM.out.based.size))
        clear hb FM
        go_wp2
        go_ret
        exact ⟨rfl, HZ.out⟩
end Go.Proofs.YtfaihaknibmcpaaDoor
