/- The law CacheFresh, walked. -/
import Derived.Test.YtfaihaknibmcpaaDoorSteps
import Derived.Test.YtfaihaknibmcpaaDoorRuns
namespace Go.Proofs.YtfaihaknibmcpaaDoor
open Go.RowKit Go.Extern.Stop Go.Stop Go.Extern

def f0 (g : Nat) : CSt := ⟨0, 2, 2, 2, newSets g 2 2, []⟩
def f1 (g : Nat) (n : Int) : CSt := ⟨0, 2, 2, 2, newSets g 2 2, [(n, 2)]⟩
def fkOf (j : Nat) : Int := if j = 0 then 5 else if j = 1 then 6 else if j = 2 then 9 else if j = 3 then 10 else 7
theorem fk_in (j : Nat) : 5 ≤ fkOf j ∧ fkOf j ≤ 10 := by unfold fkOf; repeat' split; all_goals omega
theorem isLine_of {n : Int} (h0 : 0 ≤ n) (h : n < 32) : isLine n = true := (isLine_iff n).2 ⟨h0, by omega⟩
theorem f_want (g : Nat) (n : Int) (h0 : 0 ≤ n) (h : n < 32) (ad : Nat → Addr) : wantTo (f0 g) n 2 0 = f1 g n :=
  (want_first (q := f0 g) 0 ad h0 h (by omega) (by omega) (by omega) (by omega) rfl (by show 0 < 2; omega) (.inl ⟨getS_new g 2 2 (by omega) n, roomS_new g 2 2 (by omega) (by omega) (isLine_of h0 h)⟩)).1
theorem f_answer (g : Nat) (n : Int) (h0 : 0 ≤ n) (h : n < 32) (st d0 d1 d2 d3 : Int) (hs : st = 1 ∨ st = 2 ∨ st = 4) :
    answerOk (f1 g n) (dataM n st d0 d1 d2 d3) = true ∧ answerSays (f1 g n) (dataM n st d0 d1 d2 d3) = { Mg.zero with kind := 12, line := n } ∧ Has (answerTo (f1 g n) (dataM n st d0 d1 d2 d3)) 0 n ⟨n, st, 0, 0, d0, d1, d2, d3, false, true⟩ [] := by
  have := has_data (q := f1 g n) (c := 0) (l := [(n, 2)]) (x := n) (st := st) (mo := 0) (ep := 0) (d0 := d0) (d1 := d1) (d2 := d2) (d3 := d3) (okQ_new 0 g 2 2 2 _ (by omega)) rfl rfl (by omega) ⟨h0, by omega⟩ hs (by omega) (by omega) (roomS_new g 2 2 (by omega) (by omega) (isLine_of h0 h))
  rw [show dropOf n [(n, (2 : Int))] = [] by simp [dropOf]] at this
  exact this
theorem f_out (j : Nat) (n x0 x1 x2 x3 : Int) : ∃ st y0 y1 y2 y3, fwdM 0 ⟨fkOf j, 0, n, 0, 0, 0, 0, 0, 0, 0, 0, 0, false⟩ ⟨n, 4, 0, 0, x0, x1, x2, x3, false, false⟩ = ⟨11, 0, n, st, 0, 0, 0, 0, y0, y1, y2, y3, (fkOf j != 7)⟩ ∧ ((fkOf j != 7) = true → y0 = x0 ∧ y1 = x1 ∧ y2 = x2 ∧ y3 = x3) := by
  unfold fkOf
  split
  · exact ⟨1, x0, x1, x2, x3, rfl, fun _ => ⟨rfl, rfl, rfl, rfl⟩⟩
  · split
    · exact ⟨0, x0, x1, x2, x3, rfl, fun _ => ⟨rfl, rfl, rfl, rfl⟩⟩
    · split
      · exact ⟨1, x0, x1, x2, x3, rfl, fun _ => ⟨rfl, rfl, rfl, rfl⟩⟩
      · split
        · exact ⟨0, x0, x1, x2, x3, rfl, fun _ => ⟨rfl, rfl, rfl, rfl⟩⟩
        · exact ⟨4, 0, 0, 0, 0, rfl, fun h => by cases h⟩
theorem f_right (j : Nat) (n x0 x1 x2 x3 : Int) : (fwdE ⟨fkOf j, 0, n, 0, 0, 0, 0, 0, 0, 0, 0, 0, false⟩ ⟨n, 4, 0, 0, x0, x1, x2, x3, false, false⟩).state ≠ 0 → rightE (fwdE ⟨fkOf j, 0, n, 0, 0, 0, 0, 0, 0, 0, 0, 0, false⟩ ⟨n, 4, 0, 0, x0, x1, x2, x3, false, false⟩) = true := by
  unfold fkOf
  repeat' split
  all_goals intro h
  all_goals first | rfl | exact absurd rfl h
/-- What goes along when a line that was used is given up. -/
theorem f_says {q : CSt} {n x0 x1 x2 x3 : Int} {l : List (Int × Int)} (h : Has q 0 n ⟨n, 4, 0, 0, x0, x1, x2, x3, false, false⟩ l) (j : Nat) : ∃ st y0 y1 y2 y3, forwardOk q ⟨fkOf j, 0, n, 0, 0, 0, 0, 0, 0, 0, 0, 0, false⟩ = true ∧ forwardSays q ⟨fkOf j, 0, n, 0, 0, 0, 0, 0, 0, 0, 0, 0, false⟩ = ⟨11, 0, n, st, 0, 0, 0, 0, y0, y1, y2, y3, (fkOf j != 7)⟩ ∧ ((fkOf j != 7) = true → y0 = x0 ∧ y1 = x1 ∧ y2 = x2 ∧ y3 = x3) := by
  obtain ⟨st, y0, y1, y2, y3, h1, h2⟩ := f_out j n x0 x1 x2 x3
  have hx := (isLine_iff n).1 h.facts.2.1
  obtain ⟨r1, r2⟩ := right_fwd (c := 0) (x := n) (fk_in j) (by omega) hx
  obtain ⟨a1, a2⟩ := has_says h (m := ⟨fkOf j, 0, n, 0, 0, 0, 0, 0, 0, 0, 0, 0, false⟩) rfl r1 r2 rfl rfl (f_right j n x0 x1 x2 x3)
  exact ⟨st, y0, y1, y2, y3, a1, a2.trans h1, h2⟩
set_option maxRecDepth 100000 in
set_option maxHeartbeats 8000000 in
theorem cacheFresh_is (line kind word v : Int) (write : Bool) (w : World) (ad : Nat → Addr) (HSE : Sents w ad) :
    Calls Tryd.prog 4 #[.int .i64 line, .int .i64 kind, .int .i64 word, .int .u32 v, .bool write] w fun e w' => e = .returned (.bool true) ∧ Below w.heap.size w w' := by
  have HS := Lib.hid HSE
  clear HSE
  obtain ⟨n, hn, N1⟩ := within_nat line 31 (by omega)
  obtain ⟨d, hd, D1⟩ := within_nat word 3 (by omega)
  obtain ⟨j, hj, J1⟩ := within_nat kind 4 (by omega)
  have HN := Lib.hid N1
  have HD := Lib.hid D1
  have HJ := Lib.hid J1
  clear N1 D1 J1
  have n0 : (0 : Int) ≤ (n : Int) := by omega
  have n32 : (n : Int) < 32 := by omega
  have HFK : Hid (∀ b (w' : World), w'.heap[b]? = some (.cells #[.int .i64 5, .int .i64 6, .int .i64 9, .int .i64 10, .int .i64 7] 3 (0, 0)) → w'.cell? ⟨b, j, none⟩ = some (.int .i64 (fkOf j))) := fun b w' hb => by
    have h5 : j = 0 ∨ j = 1 ∨ j = 2 ∨ j = 3 ∨ j = 4 := by omega
    rcases h5 with rfl | rfl | rfl | rfl | rfl
    all_goals simp [World.cell?, hb, fkOf]
  have HSY : Hid (∀ (q : CSt) (x0 x1 x2 x3 : Int) (l : List (Int × Int)), Has q 0 n ⟨n, 4, 0, 0, x0, x1, x2, x3, false, false⟩ l → _) := fun q x0 x1 x2 x3 l h => f_says h j
  have HFW := Lib.hid (f_want · n n0 n32 ad)
  have HFA := Lib.hid (f_answer · n n0 n32 4 1 2 3 4 (.inr (.inr rfl)))
  have j5 : (j : Int) < 5 := by omega
  have j0 : j < 5 := by omega
  go_enter Tryd.func4, Tryd.ntmps4
  go_wp2_with fail
  refine (new_ok ⟨1, 32, 2, 2, 2, 1, 1, 1, 0⟩ 0 2 2 2 (by kernel_rfl) rfl rfl rfl (by omega) (by show (0 : Int) < 1; omega) w ad HS.out).mono ?_
  rintro r w1 ⟨A, g, rfl, hC⟩
  have F1 : Hid (FrameAt (fun _ => False) w w1 w1 A (f0 g) []) := FrameAt.start hC
  clear hC
  go_wp2_with fail
  refine (HN.out _).mono ?_
  rintro r w1 ⟨rfl, rfl⟩
  go_wp2_with fail
  refine (HD.out _).mono ?_
  rintro r w1 ⟨rfl, rfl⟩
  clear HN HD
  go_wp2_with fail
  generalize hW : w1.alloc _ = w2
  have hc5 := HFK.out w1.heap.size w2 (by rw [← hW]; exact heap_alloc_new _ _)
  have F2 := Lib.hid (F1.out.skip hW)
  clear hW F1 HFK
  generalize w1.heap.size = b40 at *
  refine (HJ.out _).mono ?_
  rintro r w2 ⟨rfl, rfl⟩
  clear HJ
  go_upto_region 6 with fail
  clear hc5 j5 j0 hj
  go_wp2_with fail
  have HW := want_is F2.out.cache ad HS.out n 2 0 0
  rw [HFW.out g] at HW
  refine HW.mono ?_
  clear HW
  rintro r w3 ⟨rfl, hA, hk⟩
  have F3 := Lib.hid (F2.out.step hA hk)
  clear hA hk F2
  clear HFW
  go_wp2_with fail
  have HW := data_is n 4 1 2 3 4 w3
  simp only [Mg.val, dataM] at HW
  refine HW.mono ?_
  clear HW
  rintro r w4 ⟨rfl, hb⟩
  have F4 := Lib.hid (F3.out.below hb)
  clear hb F3
  go_wp2_with fail
  obtain ⟨a1, a2, a3⟩ := HFA.out g
  have HW := answer_is F4.out.cache ad HS.out (dataM n 4 1 2 3 4)
  rw [a1, a2] at HW
  simp only [Mg.val, dataM, Mg.zero] at HW
  refine HW.mono ?_
  clear HW
  rintro r w5 ⟨rfl, hA, hk⟩
  have F5 := Lib.hid (F4.out.step hA hk)
  clear hA hk F4
  have H3 := Lib.hid a3
  clear a1 a2 a3 HFA
  simp only [dataM] at H3
  generalize answerTo (f1 g n) _ = q3 at *
  go_upto_region 8 with fail
  generalize hW : w5.alloc _ = w6
  have F6 := Lib.hid (F5.out.skip hW)
  clear hW F5
  go_wp2_with fail
  obtain ⟨a1, a2, a3⟩ := has_fresh H3.out (m := ⟨fkOf j, 0, n, 0, 0, 0, 0, 0, 0, 0, 0, 0, false⟩) rfl rfl
  have HW := forward_is F6.out.cache ad HS.out ⟨fkOf j, 0, n, 0, 0, 0, 0, 0, 0, 0, 0, 0, false⟩
  rw [a1, a2, a3] at HW
  simp only [Mg.val, Mg.zero] at HW
  refine HW.mono ?_
  clear HW
  rintro r w7 ⟨rfl, hA, hk⟩
  have F7 := Lib.hid (F6.out.step hA hk)
  clear hA hk F6
  clear a1 a2 a3
  go_upto_region 11 with fail
  generalize hW : w7.alloc _ = w8
  have F8 := Lib.hid (F7.out.skip hW)
  clear hW F7
  go_upto_region 14 with fail
  generalize hW : w8.alloc _ = w9
  have F9 := Lib.hid (F8.out.layAs (cs := #[.int .u32 1, .int .u32 2, .int .u32 3, .int .u32 4]) (t := 31) hW)
  clear hW F8
  generalize w8.heap.size = b20 at *
  have hd4 : d = 0 ∨ d = 1 ∨ d = 2 ∨ d = 3 := by omega
  clear hd
  cases write
  · rcases hd4 with rfl | rfl | rfl | rfl
    · obtain ⟨a1, a2, a3⟩ := has_read H3.out rfl (wd := 0) (by omega) (by omega)
      have H4 := Lib.hid a3
      simp only [wordE] at a2
      have hbx := F9.out.at 0 rfl
      have l0 : w9.cell? ⟨b20, 0, none⟩ = some (.int .u32 1) := by simp [World.cell?, hbx]
      have l1 : w9.cell? ⟨b20, 1, none⟩ = some (.int .u32 2) := by simp [World.cell?, hbx]
      have l2 : w9.cell? ⟨b20, 2, none⟩ = some (.int .u32 3) := by simp [World.cell?, hbx]
      have l3 : w9.cell? ⟨b20, 3, none⟩ = some (.int .u32 4) := by simp [World.cell?, hbx]
      clear hbx
      go_wp2_with fail
      have HW := read_is F9.out.cache ad HS.out n 0
      rw [a1, a2] at HW
      simp only [reduceIte] at HW
      refine HW.mono ?_
      clear HW
      rintro r w10 ⟨rfl, hA, hk⟩
      have F10 := Lib.hid (F9.out.step hA hk)
      clear hA hk F9
      clear a1 a2 a3 H3 l0 l1 l2 l3
      generalize readTo _ _ _ = q4 at *
      have hbx := F10.out.at 0 rfl
      have l0 : w10.cell? ⟨b20, 0, none⟩ = some (.int .u32 1) := by simp [World.cell?, hbx]
      have l1 : w10.cell? ⟨b20, 1, none⟩ = some (.int .u32 2) := by simp [World.cell?, hbx]
      have l2 : w10.cell? ⟨b20, 2, none⟩ = some (.int .u32 3) := by simp [World.cell?, hbx]
      have l3 : w10.cell? ⟨b20, 3, none⟩ = some (.int .u32 4) := by simp [World.cell?, hbx]
      clear hbx
      go_wp2_with fail
      clear l0 l1 l2 l3
      obtain ⟨st, y0, y1, y2, y3, s1, s2, s3⟩ := HSY.out _ _ _ _ _ _ H4.out
      have HW := forward_is F10.out.cache ad HS.out ⟨fkOf j, 0, n, 0, 0, 0, 0, 0, 0, 0, 0, 0, false⟩
      rw [s1, s2] at HW
      simp only [Mg.val] at HW
      refine HW.mono ?_
      clear HW
      rintro r w11 ⟨rfl, hA, hk⟩
      have F11 := Lib.hid (F10.out.step hA hk)
      clear hA hk F10
      have HS3 := Lib.hid s3
      clear s1 s2 s3 HSY H4
      generalize forwardTo _ _ = q5 at *
      go_upto_region 22 with fail
      generalize hW : w11.alloc _ = w12
      have F12 := Lib.hid (F11.out.layAs (cs := (Mg.cells ⟨11, 0, n, st, 0, 0, 0, 0, y0, y1, y2, y3, (fkOf j != 7)⟩).toArray) (t := 33) hW)
      clear hW F11
      generalize w11.heap.size = b23 at *
      obtain ⟨m0, m1, m2, m3, m4, m5, m6, m7, m8, m9, m10, m11, m12⟩ := msg_cells (F12.out.at 0 rfl)
      have hbx := F12.out.at 1 rfl
      have l0 : w12.cell? ⟨b20, 0, none⟩ = some (.int .u32 1) := by simp [World.cell?, hbx]
      have l1 : w12.cell? ⟨b20, 1, none⟩ = some (.int .u32 2) := by simp [World.cell?, hbx]
      have l2 : w12.cell? ⟨b20, 2, none⟩ = some (.int .u32 3) := by simp [World.cell?, hbx]
      have l3 : w12.cell? ⟨b20, 3, none⟩ = some (.int .u32 4) := by simp [World.cell?, hbx]
      have HCR := Lib.hid (cacheRuns_is w12 ad (HS.out.of_below F12.out.based))
      have FZ := Lib.hid F12.out.based
      clear hbx F12
      cases hb : (fkOf j != 7)
      · rw [hb] at m12 HS3
        have HB := Lib.hid hb
        clear HS3
        go_wp2_with fail
        refine HCR.out.mono ?_
        rintro r wz ⟨rfl, hb⟩
        have HZ := Lib.hid (FZ.out.trans (hb.mono FZ.out.size))
        clear hb
        go_wp2
        go_ret
        exact ⟨rfl, HZ.out⟩
      · rw [hb] at m12 HS3
        have HB := Lib.hid hb
        obtain ⟨z0, z1, z2, z3⟩ := HS3.out rfl
        have z0 := z0.symm
        have z1 := z1.symm
        have z2 := z2.symm
        have z3 := z3.symm
        subst z0 z1 z2 z3
        have he := fun w : World => eqLine_same 1 2 3 4 w
        clear HS3
        go_wp2_with fail
        refine HCR.out.mono ?_
        rintro r wz ⟨rfl, hb⟩
        have HZ := Lib.hid (FZ.out.trans (hb.mono FZ.out.size))
        clear hb
        go_wp2
        go_ret
        exact ⟨rfl, HZ.out⟩
    · obtain ⟨a1, a2, a3⟩ := has_read H3.out rfl (wd := 1) (by omega) (by omega)
      have H4 := Lib.hid a3
      simp only [wordE] at a2
      have hbx := F9.out.at 0 rfl
      have l0 : w9.cell? ⟨b20, 0, none⟩ = some (.int .u32 1) := by simp [World.cell?, hbx]
      have l1 : w9.cell? ⟨b20, 1, none⟩ = some (.int .u32 2) := by simp [World.cell?, hbx]
      have l2 : w9.cell? ⟨b20, 2, none⟩ = some (.int .u32 3) := by simp [World.cell?, hbx]
      have l3 : w9.cell? ⟨b20, 3, none⟩ = some (.int .u32 4) := by simp [World.cell?, hbx]
      clear hbx
      go_wp2_with fail
      have HW := read_is F9.out.cache ad HS.out n 1
      rw [a1, a2] at HW
      simp only [reduceIte, Int.reduceEq] at HW
      refine HW.mono ?_
      clear HW
      rintro r w10 ⟨rfl, hA, hk⟩
      have F10 := Lib.hid (F9.out.step hA hk)
      clear hA hk F9
      clear a1 a2 a3 H3 l0 l1 l2 l3
      generalize readTo _ _ _ = q4 at *
      have hbx := F10.out.at 0 rfl
      have l0 : w10.cell? ⟨b20, 0, none⟩ = some (.int .u32 1) := by simp [World.cell?, hbx]
      have l1 : w10.cell? ⟨b20, 1, none⟩ = some (.int .u32 2) := by simp [World.cell?, hbx]
      have l2 : w10.cell? ⟨b20, 2, none⟩ = some (.int .u32 3) := by simp [World.cell?, hbx]
      have l3 : w10.cell? ⟨b20, 3, none⟩ = some (.int .u32 4) := by simp [World.cell?, hbx]
      clear hbx
      go_wp2_with fail
      clear l0 l1 l2 l3
      obtain ⟨st, y0, y1, y2, y3, s1, s2, s3⟩ := HSY.out _ _ _ _ _ _ H4.out
      have HW := forward_is F10.out.cache ad HS.out ⟨fkOf j, 0, n, 0, 0, 0, 0, 0, 0, 0, 0, 0, false⟩
      rw [s1, s2] at HW
      simp only [Mg.val] at HW
      refine HW.mono ?_
      clear HW
      rintro r w11 ⟨rfl, hA, hk⟩
      have F11 := Lib.hid (F10.out.step hA hk)
      clear hA hk F10
      have HS3 := Lib.hid s3
      clear s1 s2 s3 HSY H4
      generalize forwardTo _ _ = q5 at *
      go_upto_region 22 with fail
      generalize hW : w11.alloc _ = w12
      have F12 := Lib.hid (F11.out.layAs (cs := (Mg.cells ⟨11, 0, n, st, 0, 0, 0, 0, y0, y1, y2, y3, (fkOf j != 7)⟩).toArray) (t := 33) hW)
      clear hW F11
      generalize w11.heap.size = b23 at *
      obtain ⟨m0, m1, m2, m3, m4, m5, m6, m7, m8, m9, m10, m11, m12⟩ := msg_cells (F12.out.at 0 rfl)
      have hbx := F12.out.at 1 rfl
      have l0 : w12.cell? ⟨b20, 0, none⟩ = some (.int .u32 1) := by simp [World.cell?, hbx]
      have l1 : w12.cell? ⟨b20, 1, none⟩ = some (.int .u32 2) := by simp [World.cell?, hbx]
      have l2 : w12.cell? ⟨b20, 2, none⟩ = some (.int .u32 3) := by simp [World.cell?, hbx]
      have l3 : w12.cell? ⟨b20, 3, none⟩ = some (.int .u32 4) := by simp [World.cell?, hbx]
      have HCR := Lib.hid (cacheRuns_is w12 ad (HS.out.of_below F12.out.based))
      have FZ := Lib.hid F12.out.based
      clear hbx F12
      cases hb : (fkOf j != 7)
      · rw [hb] at m12 HS3
        have HB := Lib.hid hb
        clear HS3
        go_wp2_with fail
        refine HCR.out.mono ?_
        rintro r wz ⟨rfl, hb⟩
        have HZ := Lib.hid (FZ.out.trans (hb.mono FZ.out.size))
        clear hb
        go_wp2
        go_ret
        exact ⟨rfl, HZ.out⟩
      · rw [hb] at m12 HS3
        have HB := Lib.hid hb
        obtain ⟨z0, z1, z2, z3⟩ := HS3.out rfl
        have z0 := z0.symm
        have z1 := z1.symm
        have z2 := z2.symm
        have z3 := z3.symm
        subst z0 z1 z2 z3
        have he := fun w : World => eqLine_same 1 2 3 4 w
        clear HS3
        go_wp2_with fail
        refine HCR.out.mono ?_
        rintro r wz ⟨rfl, hb⟩
        have HZ := Lib.hid (FZ.out.trans (hb.mono FZ.out.size))
        clear hb
        go_wp2
        go_ret
        exact ⟨rfl, HZ.out⟩
    · obtain ⟨a1, a2, a3⟩ := has_read H3.out rfl (wd := 2) (by omega) (by omega)
      have H4 := Lib.hid a3
      simp only [wordE] at a2
      have hbx := F9.out.at 0 rfl
      have l0 : w9.cell? ⟨b20, 0, none⟩ = some (.int .u32 1) := by simp [World.cell?, hbx]
      have l1 : w9.cell? ⟨b20, 1, none⟩ = some (.int .u32 2) := by simp [World.cell?, hbx]
      have l2 : w9.cell? ⟨b20, 2, none⟩ = some (.int .u32 3) := by simp [World.cell?, hbx]
      have l3 : w9.cell? ⟨b20, 3, none⟩ = some (.int .u32 4) := by simp [World.cell?, hbx]
      clear hbx
      go_wp2_with fail
      have HW := read_is F9.out.cache ad HS.out n 2
      rw [a1, a2] at HW
      simp only [reduceIte, Int.reduceEq] at HW
      refine HW.mono ?_
      clear HW
      rintro r w10 ⟨rfl, hA, hk⟩
      have F10 := Lib.hid (F9.out.step hA hk)
      clear hA hk F9
      clear a1 a2 a3 H3 l0 l1 l2 l3
      generalize readTo _ _ _ = q4 at *
      have hbx := F10.out.at 0 rfl
      have l0 : w10.cell? ⟨b20, 0, none⟩ = some (.int .u32 1) := by simp [World.cell?, hbx]
      have l1 : w10.cell? ⟨b20, 1, none⟩ = some (.int .u32 2) := by simp [World.cell?, hbx]
      have l2 : w10.cell? ⟨b20, 2, none⟩ = some (.int .u32 3) := by simp [World.cell?, hbx]
      have l3 : w10.cell? ⟨b20, 3, none⟩ = some (.int .u32 4) := by simp [World.cell?, hbx]
      clear hbx
      go_wp2_with fail
      clear l0 l1 l2 l3
      obtain ⟨st, y0, y1, y2, y3, s1, s2, s3⟩ := HSY.out _ _ _ _ _ _ H4.out
      have HW := forward_is F10.out.cache ad HS.out ⟨fkOf j, 0, n, 0, 0, 0, 0, 0, 0, 0, 0, 0, false⟩
      rw [s1, s2] at HW
      simp only [Mg.val] at HW
      refine HW.mono ?_
      clear HW
      rintro r w11 ⟨rfl, hA, hk⟩
      have F11 := Lib.hid (F10.out.step hA hk)
      clear hA hk F10
      have HS3 := Lib.hid s3
      clear s1 s2 s3 HSY H4
      generalize forwardTo _ _ = q5 at *
      go_upto_region 22 with fail
      generalize hW : w11.alloc _ = w12
      have F12 := Lib.hid (F11.out.layAs (cs := (Mg.cells ⟨11, 0, n, st, 0, 0, 0, 0, y0, y1, y2, y3, (fkOf j != 7)⟩).toArray) (t := 33) hW)
      clear hW F11
      generalize w11.heap.size = b23 at *
      obtain ⟨m0, m1, m2, m3, m4, m5, m6, m7, m8, m9, m10, m11, m12⟩ := msg_cells (F12.out.at 0 rfl)
      have hbx := F12.out.at 1 rfl
      have l0 : w12.cell? ⟨b20, 0, none⟩ = some (.int .u32 1) := by simp [World.cell?, hbx]
      have l1 : w12.cell? ⟨b20, 1, none⟩ = some (.int .u32 2) := by simp [World.cell?, hbx]
      have l2 : w12.cell? ⟨b20, 2, none⟩ = some (.int .u32 3) := by simp [World.cell?, hbx]
      have l3 : w12.cell? ⟨b20, 3, none⟩ = some (.int .u32 4) := by simp [World.cell?, hbx]
      have HCR := Lib.hid (cacheRuns_is w12 ad (HS.out.of_below F12.out.based))
      have FZ := Lib.hid F12.out.based
      clear hbx F12
      cases hb : (fkOf j != 7)
      · rw [hb] at m12 HS3
        have HB := Lib.hid hb
        clear HS3
        go_wp2_with fail
        refine HCR.out.mono ?_
        rintro r wz ⟨rfl, hb⟩
        have HZ := Lib.hid (FZ.out.trans (hb.mono FZ.out.size))
        clear hb
        go_wp2
        go_ret
        exact ⟨rfl, HZ.out⟩
      · rw [hb] at m12 HS3
        have HB := Lib.hid hb
        obtain ⟨z0, z1, z2, z3⟩ := HS3.out rfl
        have z0 := z0.symm
        have z1 := z1.symm
        have z2 := z2.symm
        have z3 := z3.symm
        subst z0 z1 z2 z3
        have he := fun w : World => eqLine_same 1 2 3 4 w
        clear HS3
        go_wp2_with fail
        refine HCR.out.mono ?_
        rintro r wz ⟨rfl, hb⟩
        have HZ := Lib.hid (FZ.out.trans (hb.mono FZ.out.size))
        clear hb
        go_wp2
        go_ret
        exact ⟨rfl, HZ.out⟩
    · obtain ⟨a1, a2, a3⟩ := has_read H3.out rfl (wd := 3) (by omega) (by omega)
      have H4 := Lib.hid a3
      simp only [wordE] at a2
      have hbx := F9.out.at 0 rfl
      have l0 : w9.cell? ⟨b20, 0, none⟩ = some (.int .u32 1) := by simp [World.cell?, hbx]
      have l1 : w9.cell? ⟨b20, 1, none⟩ = some (.int .u32 2) := by simp [World.cell?, hbx]
      have l2 : w9.cell? ⟨b20, 2, none⟩ = some (.int .u32 3) := by simp [World.cell?, hbx]
      have l3 : w9.cell? ⟨b20, 3, none⟩ = some (.int .u32 4) := by simp [World.cell?, hbx]
      clear hbx
      go_wp2_with fail
      have HW := read_is F9.out.cache ad HS.out n 3
      rw [a1, a2] at HW
      simp only [reduceIte, Int.reduceEq] at HW
      refine HW.mono ?_
      clear HW
      rintro r w10 ⟨rfl, hA, hk⟩
      have F10 := Lib.hid (F9.out.step hA hk)
      clear hA hk F9
      clear a1 a2 a3 H3 l0 l1 l2 l3
      generalize readTo _ _ _ = q4 at *
      have hbx := F10.out.at 0 rfl
      have l0 : w10.cell? ⟨b20, 0, none⟩ = some (.int .u32 1) := by simp [World.cell?, hbx]
      have l1 : w10.cell? ⟨b20, 1, none⟩ = some (.int .u32 2) := by simp [World.cell?, hbx]
      have l2 : w10.cell? ⟨b20, 2, none⟩ = some (.int .u32 3) := by simp [World.cell?, hbx]
      have l3 : w10.cell? ⟨b20, 3, none⟩ = some (.int .u32 4) := by simp [World.cell?, hbx]
      clear hbx
      go_wp2_with fail
      clear l0 l1 l2 l3
      obtain ⟨st, y0, y1, y2, y3, s1, s2, s3⟩ := HSY.out _ _ _ _ _ _ H4.out
      have HW := forward_is F10.out.cache ad HS.out ⟨fkOf j, 0, n, 0, 0, 0, 0, 0, 0, 0, 0, 0, false⟩
      rw [s1, s2] at HW
      simp only [Mg.val] at HW
      refine HW.mono ?_
      clear HW
      rintro r w11 ⟨rfl, hA, hk⟩
      have F11 := Lib.hid (F10.out.step hA hk)
      clear hA hk F10
      have HS3 := Lib.hid s3
      clear s1 s2 s3 HSY H4
      generalize forwardTo _ _ = q5 at *
      go_upto_region 22 with fail
      generalize hW : w11.alloc _ = w12
      have F12 := Lib.hid (F11.out.layAs (cs := (Mg.cells ⟨11, 0, n, st, 0, 0, 0, 0, y0, y1, y2, y3, (fkOf j != 7)⟩).toArray) (t := 33) hW)
      clear hW F11
      generalize w11.heap.size = b23 at *
      obtain ⟨m0, m1, m2, m3, m4, m5, m6, m7, m8, m9, m10, m11, m12⟩ := msg_cells (F12.out.at 0 rfl)
      have hbx := F12.out.at 1 rfl
      have l0 : w12.cell? ⟨b20, 0, none⟩ = some (.int .u32 1) := by simp [World.cell?, hbx]
      have l1 : w12.cell? ⟨b20, 1, none⟩ = some (.int .u32 2) := by simp [World.cell?, hbx]
      have l2 : w12.cell? ⟨b20, 2, none⟩ = some (.int .u32 3) := by simp [World.cell?, hbx]
      have l3 : w12.cell? ⟨b20, 3, none⟩ = some (.int .u32 4) := by simp [World.cell?, hbx]
      have HCR := Lib.hid (cacheRuns_is w12 ad (HS.out.of_below F12.out.based))
      have FZ := Lib.hid F12.out.based
      clear hbx F12
      cases hb : (fkOf j != 7)
      · rw [hb] at m12 HS3
        have HB := Lib.hid hb
        clear HS3
        go_wp2_with fail
        refine HCR.out.mono ?_
        rintro r wz ⟨rfl, hb⟩
        have HZ := Lib.hid (FZ.out.trans (hb.mono FZ.out.size))
        clear hb
        go_wp2
        go_ret
        exact ⟨rfl, HZ.out⟩
      · rw [hb] at m12 HS3
        have HB := Lib.hid hb
        obtain ⟨z0, z1, z2, z3⟩ := HS3.out rfl
        have z0 := z0.symm
        have z1 := z1.symm
        have z2 := z2.symm
        have z3 := z3.symm
        subst z0 z1 z2 z3
        have he := fun w : World => eqLine_same 1 2 3 4 w
        clear HS3
        go_wp2_with fail
        refine HCR.out.mono ?_
        rintro r wz ⟨rfl, hb⟩
        have HZ := Lib.hid (FZ.out.trans (hb.mono FZ.out.size))
        clear hb
        go_wp2
        go_ret
        exact ⟨rfl, HZ.out⟩
  · rcases hd4 with rfl | rfl | rfl | rfl
    · obtain ⟨a1, a3⟩ := has_write H3.out rfl (wd := 0) (v := v) (by omega) (by omega) rfl
      have H4 : Hid (Has _ 0 n ⟨n, 4, 0, 0, v, 2, 3, 4, false, false⟩ []) := a3
      have hbx := F9.out.at 0 rfl
      have hfz : ∀ c, w9.frozen? ⟨b20, c, none⟩ = false := fun c => nofreeze hbx
      have l0 : w9.cell? ⟨b20, 0, none⟩ = some (.int .u32 1) := by simp [World.cell?, hbx]
      have l1 : w9.cell? ⟨b20, 1, none⟩ = some (.int .u32 2) := by simp [World.cell?, hbx]
      have l2 : w9.cell? ⟨b20, 2, none⟩ = some (.int .u32 3) := by simp [World.cell?, hbx]
      have l3 : w9.cell? ⟨b20, 3, none⟩ = some (.int .u32 4) := by simp [World.cell?, hbx]
      clear hbx
      go_upto_region 16 with fail
      have F10 : Hid (FrameAt (fun _ => False) w w1 (w9.setCell ⟨b20, 0, none⟩ (.int .u32 v)) A q3 [⟨b20, #[.int .u32 v, .int .u32 2, .int .u32 3, .int .u32 4], 31⟩]) := F9.out.setCell 0 b20 _ _ rfl 0 (.int .u32 v)
      clear F9 hfz l0 l1 l2 l3
      generalize w9.setCell _ _ = w10 at *
      go_wp2_with fail
      have HW := write_is F10.out.cache ad HS.out n 0 v
      rw [a1] at HW
      refine HW.mono ?_
      clear HW
      rintro r w11 ⟨rfl, hA, hk⟩
      have F11 := Lib.hid (F10.out.step hA hk)
      clear hA hk F10
      clear a1 a3 H3
      generalize writeTo _ _ _ _ = q4 at *
      go_wp2_with fail
      obtain ⟨st, y0, y1, y2, y3, s1, s2, s3⟩ := HSY.out _ _ _ _ _ _ H4.out
      have HW := forward_is F11.out.cache ad HS.out ⟨fkOf j, 0, n, 0, 0, 0, 0, 0, 0, 0, 0, 0, false⟩
      rw [s1, s2] at HW
      simp only [Mg.val] at HW
      refine HW.mono ?_
      clear HW
      rintro r w12 ⟨rfl, hA, hk⟩
      have F12 := Lib.hid (F11.out.step hA hk)
      clear hA hk F11
      have HS3 := Lib.hid s3
      clear s1 s2 s3 HSY H4
      generalize forwardTo _ _ = q5 at *
      go_upto_region 22 with fail
      generalize hW : w12.alloc _ = w13
      have F13 := Lib.hid (F12.out.layAs (cs := (Mg.cells ⟨11, 0, n, st, 0, 0, 0, 0, y0, y1, y2, y3, (fkOf j != 7)⟩).toArray) (t := 33) hW)
      clear hW F12
      generalize w12.heap.size = b23 at *
      obtain ⟨m0, m1, m2, m3, m4, m5, m6, m7, m8, m9, m10, m11, m12⟩ := msg_cells (F13.out.at 0 rfl)
      have hbx := F13.out.at 1 rfl
      have l0 : w13.cell? ⟨b20, 0, none⟩ = some (.int .u32 v) := by simp [World.cell?, hbx]
      have l1 : w13.cell? ⟨b20, 1, none⟩ = some (.int .u32 2) := by simp [World.cell?, hbx]
      have l2 : w13.cell? ⟨b20, 2, none⟩ = some (.int .u32 3) := by simp [World.cell?, hbx]
      have l3 : w13.cell? ⟨b20, 3, none⟩ = some (.int .u32 4) := by simp [World.cell?, hbx]
      have HCR := Lib.hid (cacheRuns_is w13 ad (HS.out.of_below F13.out.based))
      have FZ := Lib.hid F13.out.based
      clear hbx F13
      cases hb : (fkOf j != 7)
      · rw [hb] at m12 HS3
        have HB := Lib.hid hb
        clear HS3
        go_wp2_with fail
        refine HCR.out.mono ?_
        rintro r wz ⟨rfl, hb⟩
        have HZ := Lib.hid (FZ.out.trans (hb.mono FZ.out.size))
        clear hb
        go_wp2
        go_ret
        exact ⟨rfl, HZ.out⟩
      · rw [hb] at m12 HS3
        have HB := Lib.hid hb
        obtain ⟨z0, z1, z2, z3⟩ := HS3.out rfl
        have z0 := z0.symm
        have z1 := z1.symm
        have z2 := z2.symm
        have z3 := z3.symm
        subst z0 z1 z2 z3
        have he := fun w : World => eqLine_same v 2 3 4 w
        clear HS3
        go_wp2_with fail
        refine HCR.out.mono ?_
        rintro r wz ⟨rfl, hb⟩
        have HZ := Lib.hid (FZ.out.trans (hb.mono FZ.out.size))
        clear hb
        go_wp2
        go_ret
        exact ⟨rfl, HZ.out⟩
    · obtain ⟨a1, a3⟩ := has_write H3.out rfl (wd := 1) (v := v) (by omega) (by omega) rfl
      have H4 : Hid (Has _ 0 n ⟨n, 4, 0, 0, 1, v, 3, 4, false, false⟩ []) := a3
      have hbx := F9.out.at 0 rfl
      have hfz : ∀ c, w9.frozen? ⟨b20, c, none⟩ = false := fun c => nofreeze hbx
      have l0 : w9.cell? ⟨b20, 0, none⟩ = some (.int .u32 1) := by simp [World.cell?, hbx]
      have l1 : w9.cell? ⟨b20, 1, none⟩ = some (.int .u32 2) := by simp [World.cell?, hbx]
      have l2 : w9.cell? ⟨b20, 2, none⟩ = some (.int .u32 3) := by simp [World.cell?, hbx]
      have l3 : w9.cell? ⟨b20, 3, none⟩ = some (.int .u32 4) := by simp [World.cell?, hbx]
      clear hbx
      go_upto_region 16 with fail
      have F10 : Hid (FrameAt (fun _ => False) w w1 (w9.setCell ⟨b20, 1, none⟩ (.int .u32 v)) A q3 [⟨b20, #[.int .u32 1, .int .u32 v, .int .u32 3, .int .u32 4], 31⟩]) := F9.out.setCell 0 b20 _ _ rfl 1 (.int .u32 v)
      clear F9 hfz l0 l1 l2 l3
      generalize w9.setCell _ _ = w10 at *
      go_wp2_with fail
      have HW := write_is F10.out.cache ad HS.out n 1 v
      rw [a1] at HW
      refine HW.mono ?_
      clear HW
      rintro r w11 ⟨rfl, hA, hk⟩
      have F11 := Lib.hid (F10.out.step hA hk)
      clear hA hk F10
      clear a1 a3 H3
      generalize writeTo _ _ _ _ = q4 at *
      go_wp2_with fail
      obtain ⟨st, y0, y1, y2, y3, s1, s2, s3⟩ := HSY.out _ _ _ _ _ _ H4.out
      have HW := forward_is F11.out.cache ad HS.out ⟨fkOf j, 0, n, 0, 0, 0, 0, 0, 0, 0, 0, 0, false⟩
      rw [s1, s2] at HW
      simp only [Mg.val] at HW
      refine HW.mono ?_
      clear HW
      rintro r w12 ⟨rfl, hA, hk⟩
      have F12 := Lib.hid (F11.out.step hA hk)
      clear hA hk F11
      have HS3 := Lib.hid s3
      clear s1 s2 s3 HSY H4
      generalize forwardTo _ _ = q5 at *
      go_upto_region 22 with fail
      generalize hW : w12.alloc _ = w13
      have F13 := Lib.hid (F12.out.layAs (cs := (Mg.cells ⟨11, 0, n, st, 0, 0, 0, 0, y0, y1, y2, y3, (fkOf j != 7)⟩).toArray) (t := 33) hW)
      clear hW F12
      generalize w12.heap.size = b23 at *
      obtain ⟨m0, m1, m2, m3, m4, m5, m6, m7, m8, m9, m10, m11, m12⟩ := msg_cells (F13.out.at 0 rfl)
      have hbx := F13.out.at 1 rfl
      have l0 : w13.cell? ⟨b20, 0, none⟩ = some (.int .u32 1) := by simp [World.cell?, hbx]
      have l1 : w13.cell? ⟨b20, 1, none⟩ = some (.int .u32 v) := by simp [World.cell?, hbx]
      have l2 : w13.cell? ⟨b20, 2, none⟩ = some (.int .u32 3) := by simp [World.cell?, hbx]
      have l3 : w13.cell? ⟨b20, 3, none⟩ = some (.int .u32 4) := by simp [World.cell?, hbx]
      have HCR := Lib.hid (cacheRuns_is w13 ad (HS.out.of_below F13.out.based))
      have FZ := Lib.hid F13.out.based
      clear hbx F13
      cases hb : (fkOf j != 7)
      · rw [hb] at m12 HS3
        have HB := Lib.hid hb
        clear HS3
        go_wp2_with fail
        refine HCR.out.mono ?_
        rintro r wz ⟨rfl, hb⟩
        have HZ := Lib.hid (FZ.out.trans (hb.mono FZ.out.size))
        clear hb
        go_wp2
        go_ret
        exact ⟨rfl, HZ.out⟩
      · rw [hb] at m12 HS3
        have HB := Lib.hid hb
        obtain ⟨z0, z1, z2, z3⟩ := HS3.out rfl
        have z0 := z0.symm
        have z1 := z1.symm
        have z2 := z2.symm
        have z3 := z3.symm
        subst z0 z1 z2 z3
        have he := fun w : World => eqLine_same 1 v 3 4 w
        clear HS3
        go_wp2_with fail
        refine HCR.out.mono ?_
        rintro r wz ⟨rfl, hb⟩
        have HZ := Lib.hid (FZ.out.trans (hb.mono FZ.out.size))
        clear hb
        go_wp2
        go_ret
        exact ⟨rfl, HZ.out⟩
    · obtain ⟨a1, a3⟩ := has_write H3.out rfl (wd := 2) (v := v) (by omega) (by omega) rfl
      have H4 : Hid (Has _ 0 n ⟨n, 4, 0, 0, 1, 2, v, 4, false, false⟩ []) := a3
      have hbx := F9.out.at 0 rfl
      have hfz : ∀ c, w9.frozen? ⟨b20, c, none⟩ = false := fun c => nofreeze hbx
      have l0 : w9.cell? ⟨b20, 0, none⟩ = some (.int .u32 1) := by simp [World.cell?, hbx]
      have l1 : w9.cell? ⟨b20, 1, none⟩ = some (.int .u32 2) := by simp [World.cell?, hbx]
      have l2 : w9.cell? ⟨b20, 2, none⟩ = some (.int .u32 3) := by simp [World.cell?, hbx]
      have l3 : w9.cell? ⟨b20, 3, none⟩ = some (.int .u32 4) := by simp [World.cell?, hbx]
      clear hbx
      go_upto_region 16 with fail
      have F10 : Hid (FrameAt (fun _ => False) w w1 (w9.setCell ⟨b20, 2, none⟩ (.int .u32 v)) A q3 [⟨b20, #[.int .u32 1, .int .u32 2, .int .u32 v, .int .u32 4], 31⟩]) := F9.out.setCell 0 b20 _ _ rfl 2 (.int .u32 v)
      clear F9 hfz l0 l1 l2 l3
      generalize w9.setCell _ _ = w10 at *
      go_wp2_with fail
      have HW := write_is F10.out.cache ad HS.out n 2 v
      rw [a1] at HW
      refine HW.mono ?_
      clear HW
      rintro r w11 ⟨rfl, hA, hk⟩
      have F11 := Lib.hid (F10.out.step hA hk)
      clear hA hk F10
      clear a1 a3 H3
      generalize writeTo _ _ _ _ = q4 at *
      go_wp2_with fail
      obtain ⟨st, y0, y1, y2, y3, s1, s2, s3⟩ := HSY.out _ _ _ _ _ _ H4.out
      have HW := forward_is F11.out.cache ad HS.out ⟨fkOf j, 0, n, 0, 0, 0, 0, 0, 0, 0, 0, 0, false⟩
      rw [s1, s2] at HW
      simp only [Mg.val] at HW
      refine HW.mono ?_
      clear HW
      rintro r w12 ⟨rfl, hA, hk⟩
      have F12 := Lib.hid (F11.out.step hA hk)
      clear hA hk F11
      have HS3 := Lib.hid s3
      clear s1 s2 s3 HSY H4
      generalize forwardTo _ _ = q5 at *
      go_upto_region 22 with fail
      generalize hW : w12.alloc _ = w13
      have F13 := Lib.hid (F12.out.layAs (cs := (Mg.cells ⟨11, 0, n, st, 0, 0, 0, 0, y0, y1, y2, y3, (fkOf j != 7)⟩).toArray) (t := 33) hW)
      clear hW F12
      generalize w12.heap.size = b23 at *
      obtain ⟨m0, m1, m2, m3, m4, m5, m6, m7, m8, m9, m10, m11, m12⟩ := msg_cells (F13.out.at 0 rfl)
      have hbx := F13.out.at 1 rfl
      have l0 : w13.cell? ⟨b20, 0, none⟩ = some (.int .u32 1) := by simp [World.cell?, hbx]
      have l1 : w13.cell? ⟨b20, 1, none⟩ = some (.int .u32 2) := by simp [World.cell?, hbx]
      have l2 : w13.cell? ⟨b20, 2, none⟩ = some (.int .u32 v) := by simp [World.cell?, hbx]
      have l3 : w13.cell? ⟨b20, 3, none⟩ = some (.int .u32 4) := by simp [World.cell?, hbx]
      have HCR := Lib.hid (cacheRuns_is w13 ad (HS.out.of_below F13.out.based))
      have FZ := Lib.hid F13.out.based
      clear hbx F13
      cases hb : (fkOf j != 7)
      · rw [hb] at m12 HS3
        have HB := Lib.hid hb
        clear HS3
        go_wp2_with fail
        refine HCR.out.mono ?_
        rintro r wz ⟨rfl, hb⟩
        have HZ := Lib.hid (FZ.out.trans (hb.mono FZ.out.size))
        clear hb
        go_wp2
        go_ret
        exact ⟨rfl, HZ.out⟩
      · rw [hb] at m12 HS3
        have HB := Lib.hid hb
        obtain ⟨z0, z1, z2, z3⟩ := HS3.out rfl
        have z0 := z0.symm
        have z1 := z1.symm
        have z2 := z2.symm
        have z3 := z3.symm
        subst z0 z1 z2 z3
        have he := fun w : World => eqLine_same 1 2 v 4 w
        clear HS3
        go_wp2_with fail
        refine HCR.out.mono ?_
        rintro r wz ⟨rfl, hb⟩
        have HZ := Lib.hid (FZ.out.trans (hb.mono FZ.out.size))
        clear hb
        go_wp2
        go_ret
        exact ⟨rfl, HZ.out⟩
    · obtain ⟨a1, a3⟩ := has_write H3.out rfl (wd := 3) (v := v) (by omega) (by omega) rfl
      have H4 : Hid (Has _ 0 n ⟨n, 4, 0, 0, 1, 2, 3, v, false, false⟩ []) := a3
      have hbx := F9.out.at 0 rfl
      have hfz : ∀ c, w9.frozen? ⟨b20, c, none⟩ = false := fun c => nofreeze hbx
      have l0 : w9.cell? ⟨b20, 0, none⟩ = some (.int .u32 1) := by simp [World.cell?, hbx]
      have l1 : w9.cell? ⟨b20, 1, none⟩ = some (.int .u32 2) := by simp [World.cell?, hbx]
      have l2 : w9.cell? ⟨b20, 2, none⟩ = some (.int .u32 3) := by simp [World.cell?, hbx]
      have l3 : w9.cell? ⟨b20, 3, none⟩ = some (.int .u32 4) := by simp [World.cell?, hbx]
      clear hbx
      go_upto_region 16 with fail
      have F10 : Hid (FrameAt (fun _ => False) w w1 (w9.setCell ⟨b20, 3, none⟩ (.int .u32 v)) A q3 [⟨b20, #[.int .u32 1, .int .u32 2, .int .u32 3, .int .u32 v], 31⟩]) := F9.out.setCell 0 b20 _ _ rfl 3 (.int .u32 v)
      clear F9 hfz l0 l1 l2 l3
      generalize w9.setCell _ _ = w10 at *
      go_wp2_with fail
      have HW := write_is F10.out.cache ad HS.out n 3 v
      rw [a1] at HW
      refine HW.mono ?_
      clear HW
      rintro r w11 ⟨rfl, hA, hk⟩
      have F11 := Lib.hid (F10.out.step hA hk)
      clear hA hk F10
      clear a1 a3 H3
      generalize writeTo _ _ _ _ = q4 at *
      go_wp2_with fail
      obtain ⟨st, y0, y1, y2, y3, s1, s2, s3⟩ := HSY.out _ _ _ _ _ _ H4.out
      have HW := forward_is F11.out.cache ad HS.out ⟨fkOf j, 0, n, 0, 0, 0, 0, 0, 0, 0, 0, 0, false⟩
      rw [s1, s2] at HW
      simp only [Mg.val] at HW
      refine HW.mono ?_
      clear HW
      rintro r w12 ⟨rfl, hA, hk⟩
      have F12 := Lib.hid (F11.out.step hA hk)
      clear hA hk F11
      have HS3 := Lib.hid s3
      clear s1 s2 s3 HSY H4
      generalize forwardTo _ _ = q5 at *
      go_upto_region 22 with fail
      generalize hW : w12.alloc _ = w13
      have F13 := Lib.hid (F12.out.layAs (cs := (Mg.cells ⟨11, 0, n, st, 0, 0, 0, 0, y0, y1, y2, y3, (fkOf j != 7)⟩).toArray) (t := 33) hW)
      clear hW F12
      generalize w12.heap.size = b23 at *
      obtain ⟨m0, m1, m2, m3, m4, m5, m6, m7, m8, m9, m10, m11, m12⟩ := msg_cells (F13.out.at 0 rfl)
      have hbx := F13.out.at 1 rfl
      have l0 : w13.cell? ⟨b20, 0, none⟩ = some (.int .u32 1) := by simp [World.cell?, hbx]
      have l1 : w13.cell? ⟨b20, 1, none⟩ = some (.int .u32 2) := by simp [World.cell?, hbx]
      have l2 : w13.cell? ⟨b20, 2, none⟩ = some (.int .u32 3) := by simp [World.cell?, hbx]
      have l3 : w13.cell? ⟨b20, 3, none⟩ = some (.int .u32 v) := by simp [World.cell?, hbx]
      have HCR := Lib.hid (cacheRuns_is w13 ad (HS.out.of_below F13.out.based))
      have FZ := Lib.hid F13.out.based
      clear hbx F13
      cases hb : (fkOf j != 7)
      · rw [hb] at m12 HS3
        have HB := Lib.hid hb
        clear HS3
        go_wp2_with fail
        refine HCR.out.mono ?_
        rintro r wz ⟨rfl, hb⟩
        have HZ := Lib.hid (FZ.out.trans (hb.mono FZ.out.size))
        clear hb
        go_wp2
        go_ret
        exact ⟨rfl, HZ.out⟩
      · rw [hb] at m12 HS3
        have HB := Lib.hid hb
        obtain ⟨z0, z1, z2, z3⟩ := HS3.out rfl
        have z0 := z0.symm
        have z1 := z1.symm
        have z2 := z2.symm
        have z3 := z3.symm
        subst z0 z1 z2 z3
        have he := fun w : World => eqLine_same 1 2 3 v w
        clear HS3
        go_wp2_with fail
        refine HCR.out.mono ?_
        rintro r wz ⟨rfl, hb⟩
        have HZ := Lib.hid (FZ.out.trans (hb.mono FZ.out.size))
        clear hb
        go_wp2
        go_ret
        exact ⟨rfl, HZ.out⟩
end Go.Proofs.YtfaihaknibmcpaaDoor
