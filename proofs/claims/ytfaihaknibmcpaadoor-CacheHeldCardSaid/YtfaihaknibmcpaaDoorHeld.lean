/- The law CacheHeld, walked. -/
import Derived.Test.YtfaihaknibmcpaaDoorSteps
import Derived.Test.YtfaihaknibmcpaaDoorRuns
namespace Go.Proofs.YtfaihaknibmcpaaDoor
open Go.RowKit Go.Extern.Stop Go.Stop Go.Extern

def h0 (g : Nat) : CSt := ⟨0, 4, 2, 4, newSets g 2 4, []⟩
def h1 (g : Nat) (n : Int) : CSt := ⟨0, 4, 2, 4, newSets g 2 4, [(n, 1)]⟩
theorem h_line {n : Int} (h0 : 0 ≤ n) (h : n ≤ 31) : isLine n = true := (isLine_iff n).2 ⟨h0, by omega⟩
theorem h_want (g : Nat) (n : Int) (n0 : 0 ≤ n) (h : n ≤ 31) (ad : Nat → Addr) : wantTo (h0 g) n 1 0 = h1 g n :=
  (want_first (q := h0 g) 0 ad n0 (by omega) (by omega) (by omega) (by omega) (by omega) rfl (by show 0 < 4; omega) (.inl ⟨getS_new g 2 4 (by omega) n, roomS_new g 2 4 (by omega) (by omega) (h_line n0 h)⟩)).1
theorem h_answer (g : Nat) (n : Int) (n0 : 0 ≤ n) (h : n ≤ 31) :
    Has (answerTo (h1 g n) ⟨13, 0, n, 1, 2, 0, 0, 0, 1, 2, 3, 4, true⟩) 0 n ⟨n, 1, 2, 0, 1, 2, 3, 4, false, true⟩ [] := by
  have := has_data (q := h1 g n) (c := 0) (l := [(n, 1)]) (x := n) (st := 1) (mo := 2) (ep := 0) (d0 := 1) (d1 := 2) (d2 := 3) (d3 := 4) (okQ_new 0 g 2 4 4 _ (by omega)) rfl rfl (by omega) ⟨n0, h⟩ (.inl rfl) (by omega) (by omega) (roomS_new g 2 4 (by omega) (by omega) (h_line n0 h))
  rw [show dropOf n [(n, (1 : Int))] = [] by simp [dropOf]] at this
  exact this.2.2
theorem h_hold {q : CSt} {n : Int} (n0 : 0 ≤ n) (hn : n ≤ 31) (h : Has q 0 n ⟨n, 1, 2, 0, 1, 2, 3, 4, false, false⟩ []) :
    forwardOk q ⟨7, 0, n, 0, 0, 0, 0, 0, 0, 0, 0, 0, false⟩ = true ∧ forwardSays q ⟨7, 0, n, 0, 0, 0, 0, 0, 0, 0, 0, 0, false⟩ = ⟨11, 0, n, 1, 0, 0, 0, 0, 0, 0, 0, 0, false⟩ ∧ Has (forwardTo q ⟨7, 0, n, 0, 0, 0, 0, 0, 0, 0, 0, 0, false⟩) 0 n ⟨n, 1, 2, 0, 1, 2, 3, 4, true, false⟩ [] := by
  obtain ⟨r1, r2⟩ := right_fwd (k := 7) (c := 0) (x := n) (by omega) (by omega) ⟨n0, hn⟩
  obtain ⟨a1, a2, a3⟩ := has_forward h (m := ⟨7, 0, n, 0, 0, 0, 0, 0, 0, 0, 0, 0, false⟩) rfl r1 r2 rfl rfl (by show (1 : Int) ≠ 0; omega) rfl
  refine ⟨a1, a2, ?_⟩
  have e : fwdL q ⟨7, 0, n, 0, 0, 0, 0, 0, 0, 0, 0, 0, false⟩ = [] := by
    unfold fwdL
    rw [if_neg (fun h => by cases h.1)]
    exact h.l
  rw [e] at a3
  exact a3
theorem h_update {q : CSt} {n d v : Int} (n0 : 0 ≤ n) (hn : n ≤ 31) (d0 : 0 ≤ d) (d3 : d ≤ 3) (h : Has q 0 n ⟨n, 1, 2, 0, 1, 2, 3, 4, true, false⟩ []) :
    forwardOk q ⟨8, 0, n, 0, 0, 0, d, v, 0, 0, 0, 0, false⟩ = true ∧ Has (forwardTo q ⟨8, 0, n, 0, 0, 0, d, v, 0, 0, 0, 0, false⟩) 0 n (setWordE ⟨n, 1, 2, 0, 1, 2, 3, 4, false, false⟩ d v) [] := by
  have e1 : fwdE ⟨8, 0, n, 0, 0, 0, d, v, 0, 0, 0, 0, false⟩ ⟨n, 1, 2, 0, 1, 2, 3, 4, true, false⟩ = setWordE ⟨n, 1, 2, 0, 1, 2, 3, 4, false, false⟩ d v := rfl
  obtain ⟨a1, a2, a3⟩ := has_forward h (m := ⟨8, 0, n, 0, 0, 0, d, v, 0, 0, 0, 0, false⟩) rfl (right_update (by omega) ⟨n0, hn⟩ ⟨d0, d3⟩).1 rfl rfl rfl (by rw [e1, (setWord_line _ _ _).2.1]; show (1 : Int) ≠ 0; omega) (by rw [e1]; exact setWord_right _ _ rfl)
  refine ⟨a1, ?_⟩
  have e : fwdL q ⟨8, 0, n, 0, 0, 0, d, v, 0, 0, 0, 0, false⟩ = [] := by
    unfold fwdL
    rw [if_neg (fun h => by cases h.1)]
    exact h.l
  rw [e, e1] at a3
  exact a3
theorem h_apply {q : CSt} {n d v : Int} (d0 : 0 ≤ d) (d3 : d ≤ 3) (h : Has q 0 n ⟨n, 1, 2, 0, 1, 2, 3, 4, true, false⟩ []) :
    answerOk q ⟨14, 0, n, 0, 0, 0, d, v, 0, 0, 0, 0, false⟩ = true ∧ answerSays q ⟨14, 0, n, 0, 0, 0, d, v, 0, 0, 0, 0, false⟩ = { Mg.zero with kind := 12, core := 0, line := n } ∧ Has (answerTo q ⟨14, 0, n, 0, 0, 0, d, v, 0, 0, 0, 0, false⟩) 0 n (setWordE ⟨n, 1, 2, 0, 1, 2, 3, 4, false, false⟩ d v) [] :=
  has_apply h (by omega) ⟨d0, d3⟩
set_option maxRecDepth 100000 in
set_option maxHeartbeats 8000000 in
theorem cacheHeld_is (line word v : Int) (mine : Bool) (w : World) (ad : Nat → Addr) (HSE : Sents w ad) :
    Calls Tryd.prog 6 #[.int .i64 line, .int .i64 word, .int .u32 v, .bool mine] w fun e w' => e = .returned (.bool true) ∧ Below w.heap.size w w' := by
  have HS := Lib.hid HSE
  clear HSE
  obtain ⟨n, n0, n31, N1⟩ := within_int line 31 (by omega)
  obtain ⟨d, d0, d3, D1⟩ := within_int word 3 (by omega)
  have HN := Lib.hid N1
  have HD := Lib.hid D1
  clear N1 D1
  go_enter Tryd.func6, Tryd.ntmps6
  go_wp2_with fail
  refine (new_ok ⟨1, 32, 4, 2, 4, 1, 1, 1, 0⟩ 0 4 2 4 (by kernel_rfl) rfl rfl rfl (by omega) (by show (0 : Int) < 1; omega) w ad HS.out).mono ?_
  rintro r w1 ⟨A, g, rfl, hC⟩
  have F1 : Hid (FrameAt (fun _ => False) w w1 w1 A (h0 g) []) := FrameAt.start hC
  clear hC
  go_wp2_with fail
  refine (HN.out _).mono ?_
  rintro r w1 ⟨rfl, rfl⟩
  go_wp2_with fail
  refine (HD.out _).mono ?_
  rintro r w1 ⟨rfl, rfl⟩
  clear HN HD
  go_wp2_with fail
  have HW := want_is F1.out.cache ad HS.out n 1 0 0
  rw [h_want g n n0 n31 ad] at HW
  refine HW.mono ?_
  clear HW
  rintro r w2 ⟨rfl, hA, hk⟩
  have F2 := Lib.hid (F1.out.step hA hk)
  clear hA hk F1
  go_wp2_with fail
  have a3 := h_answer g n n0 n31
  have HW := answer_is F2.out.cache ad HS.out ⟨13, 0, n, 1, 2, 0, 0, 0, 1, 2, 3, 4, true⟩
  simp only [Mg.val] at HW
  refine HW.mono ?_
  clear HW
  rintro r w3 ⟨rfl, hA, hk⟩
  have F3 := Lib.hid (F2.out.step hA hk)
  clear hA hk F2
  have H3 := Lib.hid a3
  clear a3
  generalize answerTo (h1 g n) _ = q3 at *
  generalize answerSays (h1 g n) _ = y3 at *
  generalize answerOk (h1 g n) _ = o3 at *
  go_wp2_with fail
  obtain ⟨a1, a2, a3⟩ := has_read H3.out rfl (wd := 0) (by omega) (by omega)
  simp only [wordE] at a2
  have HW := read_is F3.out.cache ad HS.out n 0
  rw [a1, a2] at HW
  simp only [reduceIte] at HW
  refine HW.mono ?_
  clear HW
  rintro r w4 ⟨rfl, hA, hk⟩
  have F4 := Lib.hid (F3.out.step hA hk)
  clear hA hk F3
  have H4 := Lib.hid a3
  clear a1 a2 a3 H3
  generalize readTo _ _ _ = q4 at *
  go_wp2_with fail
  obtain ⟨a1, a2, a3⟩ := h_hold n0 n31 H4.out
  have HW := forward_is F4.out.cache ad HS.out ⟨7, 0, n, 0, 0, 0, 0, 0, 0, 0, 0, 0, false⟩
  rw [a1, a2] at HW
  simp only [Mg.val] at HW
  refine HW.mono ?_
  clear HW
  rintro r w5 ⟨rfl, hA, hk⟩
  have F5 := Lib.hid (F4.out.step hA hk)
  clear hA hk F4
  have H5 := Lib.hid a3
  clear a1 a2 a3 H4
  generalize forwardTo _ _ = q5 at *
  go_upto_region 11 with fail
  generalize hW : w5.alloc _ = w6
  have F6 := Lib.hid (F5.out.layAs (cs := (Mg.cells ⟨11, 0, n, 1, 0, 0, 0, 0, 0, 0, 0, 0, false⟩).toArray) (t := 33) hW)
  clear hW F5
  generalize w5.heap.size = b15 at *
  obtain ⟨p0, p1, p2, p3, p4, p5, p6, p7, p8, p9, p10, p11, p12⟩ := msg_cells (F6.out.at 0 rfl)
  have FF := Lib.hid F6.out.rest
  clear F6
  have F6 := FF
  clear FF
  clear p0 p1 p2 p4 p5 p6 p7 p8 p9 p10 p11
  go_wp2_with fail
  clear p3 p12
  obtain ⟨a1, a2, a3, -, -⟩ := has_held H5.out rfl d 0
  have HW := read_is F6.out.cache ad HS.out n d
  rw [a1, a2, a3] at HW
  refine HW.mono ?_
  clear HW
  rintro r w7 ⟨rfl, hA, hk⟩
  have F7 := Lib.hid (F6.out.step hA hk)
  clear hA hk F6
  clear a1 a2 a3
  go_wp2_with fail
  obtain ⟨-, -, -, a1, a2⟩ := has_held H5.out rfl d 9
  have HW := write_is F7.out.cache ad HS.out n d 9
  rw [a1, a2] at HW
  refine HW.mono ?_
  clear HW
  rintro r w8 ⟨rfl, hA, hk⟩
  have F8 := Lib.hid (F7.out.step hA hk)
  clear hA hk F7
  clear a1 a2
  have hd4 : d = 0 ∨ d = 1 ∨ d = 2 ∨ d = 3 := by omega
  have HD4 := Lib.hid hd4
  clear hd4
  go_upto_if 92 with fail
  go_cut [] (fun wx => ∃ q6, Hid (Has q6 0 n (setWordE ⟨n, 1, 2, 0, 1, 2, 3, 4, false, false⟩ d v) []) ∧ Hid (FrameAt (fun _ => False) w w1 wx A q6 []))
  case first =>
    cases mine with
    | true =>
      go_wp2_with fail
      obtain ⟨a1, a2, a3⟩ := h_apply (v := v) d0 d3 H5.out
      have HW := answer_is F8.out.cache ad HS.out ⟨14, 0, n, 0, 0, 0, d, v, 0, 0, 0, 0, false⟩
      rw [a1, a2] at HW
      simp only [Mg.val, Mg.zero] at HW
      refine HW.mono ?_
      clear HW
      rintro r w9 ⟨rfl, hA, hk⟩
      have F9 := Lib.hid (F8.out.step hA hk)
      clear hA hk F8
      have H6 := Lib.hid a3
      clear a1 a2 a3 H5
      generalize answerTo _ _ = q6 at *
      go_upto_region 19 with fail
      generalize hW : w9.alloc _ = w10
      have F10 := Lib.hid (F9.out.layAs (cs := (Mg.cells { Mg.zero with kind := 12, core := 0, line := n }).toArray) (t := 33) hW)
      clear hW F9
      generalize w9.heap.size = b20 at *
      obtain ⟨p0, -⟩ := msg_cells (F10.out.at 0 rfl)
      have FF := Lib.hid F10.out.rest
      clear F10
      go_wp2_with fail
      go_meet
      exact ⟨_, H6, FF⟩
    | false =>
      go_wp2_with fail
      obtain ⟨a1, a3⟩ := h_update (v := v) n0 n31 d0 d3 H5.out
      have HW := forward_is F8.out.cache ad HS.out ⟨8, 0, n, 0, 0, 0, d, v, 0, 0, 0, 0, false⟩
      rw [a1] at HW
      simp only [Mg.val] at HW
      refine HW.mono ?_
      clear HW
      rintro r w9 ⟨rfl, hA, hk⟩
      have F9 := Lib.hid (F8.out.step hA hk)
      clear hA hk F8
      have H6 := Lib.hid a3
      clear a1 a3 H5
      generalize forwardTo _ _ = q6 at *
      generalize forwardSays _ _ = y6 at *
      obtain ⟨y0, y1, y2, y3', y4, y5, y6', y7, y8, y9, y10, y11, y12⟩ := y6
      go_upto_region 22 with fail
      generalize hW : w9.alloc _ = w10
      have F10 := Lib.hid (F9.out.skip hW)
      clear hW F9
      go_wp2_with fail
      go_meet
      exact ⟨_, H6, F10⟩
  case rest =>
    obtain ⟨q6, H6, F1⟩ := hcut
    have H6 : Hid _ := H6
    have F1 : Hid _ := F1
    clear H5 F8
    go_upto_region 25 with fail
    generalize hW : wc.alloc _ = w2
    have F2 := Lib.hid (F1.out.layAs (cs := #[.int .u32 1, .int .u32 2, .int .u32 3, .int .u32 4]) (t := 31) hW)
    clear hW F1
    generalize wc.heap.size = b24 at *
    have hbx := F2.out.at 0 rfl
    have hfz : ∀ c, w2.frozen? ⟨b24, c, none⟩ = false := fun c => nofreeze hbx
    have l0 : w2.cell? ⟨b24, 0, none⟩ = some (.int .u32 1) := by simp [World.cell?, hbx]
    have l1 : w2.cell? ⟨b24, 1, none⟩ = some (.int .u32 2) := by simp [World.cell?, hbx]
    have l2 : w2.cell? ⟨b24, 2, none⟩ = some (.int .u32 3) := by simp [World.cell?, hbx]
    have l3 : w2.cell? ⟨b24, 3, none⟩ = some (.int .u32 4) := by simp [World.cell?, hbx]
    clear hbx
    rcases HD4.out with rfl | rfl | rfl | rfl
    · clear HD4
      have H7 : Hid (Has q6 0 n ⟨n, 1, 2, 0, v, 2, 3, 4, false, false⟩ []) := H6.out
      clear H6
      go_upto_region 26 with fail
      have F3 : Hid (FrameAt (fun _ => False) w w1 (w2.setCell ⟨b24, 0, none⟩ (.int .u32 v)) A q6 [⟨b24, #[.int .u32 v, .int .u32 2, .int .u32 3, .int .u32 4], 31⟩]) := F2.out.setCell 0 b24 _ _ rfl 0 (.int .u32 v)
      clear F2 hfz l0 l1 l2 l3
      generalize w2.setCell _ _ = w3 at *
      go_wp2_with fail
      go_loopw [25] (fun u wr => ∃ i : Nat, i ≤ 4 ∧ u = .int .i64 i ∧ ∃ qr, Hid (Has qr 0 n ⟨n, 1, 2, 0, v, 2, 3, 4, false, false⟩ []) ∧ Hid (FrameAt (fun _ => False) w w1 wr A qr [⟨b24, #[.int .u32 v, .int .u32 2, .int .u32 3, .int .u32 4], 31⟩])) (fun u _ => 4 - (intOf u).toNat)
      case atStart => exact ⟨0, by omega, rfl, _, H7, F3⟩
      case round =>
        obtain ⟨i, hi, rfl, qr, HR, FR⟩ := hrel
        have HR : Hid _ := HR
        have FR : Hid _ := FR
        clear H7 F3
        by_cases hlt : i < 4
        · have hi4 : i = 0 ∨ i = 1 ∨ i = 2 ∨ i = 3 := by omega
          clear hi hlt
          rcases hi4 with rfl | rfl | rfl | rfl
          · obtain ⟨a1, a2, a3⟩ := has_read HR.out rfl (wd := 0) (by omega) (by omega)
            simp only [wordE] at a2
            go_wp2_with fail
            have HW := read_is FR.out.cache ad HS.out n 0
            rw [a1, a2] at HW
            simp only [reduceIte] at HW
            refine HW.mono ?_
            clear HW
            rintro r w5 ⟨rfl, hA, hk⟩
            have F5 := Lib.hid (FR.out.step hA hk)
            have H5 := Lib.hid a3
            clear hA hk FR HR a1 a2 a3
            generalize readTo _ _ _ = q7 at *
            have hbx := F5.out.at 0 rfl
            have lx : w5.cell? ⟨b24, 0, none⟩ = some (.int .u32 v) := by simp [World.cell?, hbx]
            clear hbx
            go_wp2_with fail
            go_roundw
            case rel => exact ⟨1, by omega, by rfl, _, H5, F5⟩
            case measure => simp [intOf]
          · obtain ⟨a1, a2, a3⟩ := has_read HR.out rfl (wd := 1) (by omega) (by omega)
            simp only [wordE] at a2
            go_wp2_with fail
            have HW := read_is FR.out.cache ad HS.out n 1
            rw [a1, a2] at HW
            simp only [reduceIte, Int.reduceEq] at HW
            refine HW.mono ?_
            clear HW
            rintro r w5 ⟨rfl, hA, hk⟩
            have F5 := Lib.hid (FR.out.step hA hk)
            have H5 := Lib.hid a3
            clear hA hk FR HR a1 a2 a3
            generalize readTo _ _ _ = q7 at *
            have hbx := F5.out.at 0 rfl
            have lx : w5.cell? ⟨b24, 1, none⟩ = some (.int .u32 2) := by simp [World.cell?, hbx]
            clear hbx
            go_wp2_with fail
            go_roundw
            case rel => exact ⟨2, by omega, by rfl, _, H5, F5⟩
            case measure => simp [intOf]
          · obtain ⟨a1, a2, a3⟩ := has_read HR.out rfl (wd := 2) (by omega) (by omega)
            simp only [wordE] at a2
            go_wp2_with fail
            have HW := read_is FR.out.cache ad HS.out n 2
            rw [a1, a2] at HW
            simp only [reduceIte, Int.reduceEq] at HW
            refine HW.mono ?_
            clear HW
            rintro r w5 ⟨rfl, hA, hk⟩
            have F5 := Lib.hid (FR.out.step hA hk)
            have H5 := Lib.hid a3
            clear hA hk FR HR a1 a2 a3
            generalize readTo _ _ _ = q7 at *
            have hbx := F5.out.at 0 rfl
            have lx : w5.cell? ⟨b24, 2, none⟩ = some (.int .u32 3) := by simp [World.cell?, hbx]
            clear hbx
            go_wp2_with fail
            go_roundw
            case rel => exact ⟨3, by omega, by rfl, _, H5, F5⟩
            case measure => simp [intOf]
          · obtain ⟨a1, a2, a3⟩ := has_read HR.out rfl (wd := 3) (by omega) (by omega)
            simp only [wordE] at a2
            go_wp2_with fail
            have HW := read_is FR.out.cache ad HS.out n 3
            rw [a1, a2] at HW
            simp only [reduceIte, Int.reduceEq] at HW
            refine HW.mono ?_
            clear HW
            rintro r w5 ⟨rfl, hA, hk⟩
            have F5 := Lib.hid (FR.out.step hA hk)
            have H5 := Lib.hid a3
            clear hA hk FR HR a1 a2 a3
            generalize readTo _ _ _ = q7 at *
            have hbx := F5.out.at 0 rfl
            have lx : w5.cell? ⟨b24, 3, none⟩ = some (.int .u32 4) := by simp [World.cell?, hbx]
            clear hbx
            go_wp2_with fail
            go_roundw
            case rel => exact ⟨4, by omega, by rfl, _, H5, F5⟩
            case measure => simp [intOf]
        · obtain rfl : i = 4 := by omega
          go_wp2_with fail
          refine (cacheRuns_is wr ad (HS.out.of_below FR.out.based)).mono ?_
          rintro r wz ⟨rfl, hb⟩
          have HZ := Lib.hid (FR.out.based.trans (hb.mono FR.out.based.size))
          clear hb FR
          go_wp2
          go_ret
          exact ⟨rfl, HZ.out⟩
    · clear HD4
      have H7 : Hid (Has q6 0 n ⟨n, 1, 2, 0, 1, v, 3, 4, false, false⟩ []) := H6.out
      clear H6
      go_upto_region 26 with fail
      have F3 : Hid (FrameAt (fun _ => False) w w1 (w2.setCell ⟨b24, 1, none⟩ (.int .u32 v)) A q6 [⟨b24, #[.int .u32 1, .int .u32 v, .int .u32 3, .int .u32 4], 31⟩]) := F2.out.setCell 0 b24 _ _ rfl 1 (.int .u32 v)
      clear F2 hfz l0 l1 l2 l3
      generalize w2.setCell _ _ = w3 at *
      go_wp2_with fail
      go_loopw [25] (fun u wr => ∃ i : Nat, i ≤ 4 ∧ u = .int .i64 i ∧ ∃ qr, Hid (Has qr 0 n ⟨n, 1, 2, 0, 1, v, 3, 4, false, false⟩ []) ∧ Hid (FrameAt (fun _ => False) w w1 wr A qr [⟨b24, #[.int .u32 1, .int .u32 v, .int .u32 3, .int .u32 4], 31⟩])) (fun u _ => 4 - (intOf u).toNat)
      case atStart => exact ⟨0, by omega, rfl, _, H7, F3⟩
      case round =>
        obtain ⟨i, hi, rfl, qr, HR, FR⟩ := hrel
        have HR : Hid _ := HR
        have FR : Hid _ := FR
        clear H7 F3
        by_cases hlt : i < 4
        · have hi4 : i = 0 ∨ i = 1 ∨ i = 2 ∨ i = 3 := by omega
          clear hi hlt
          rcases hi4 with rfl | rfl | rfl | rfl
          · obtain ⟨a1, a2, a3⟩ := has_read HR.out rfl (wd := 0) (by omega) (by omega)
            simp only [wordE] at a2
            go_wp2_with fail
            have HW := read_is FR.out.cache ad HS.out n 0
            rw [a1, a2] at HW
            simp only [reduceIte] at HW
            refine HW.mono ?_
            clear HW
            rintro r w5 ⟨rfl, hA, hk⟩
            have F5 := Lib.hid (FR.out.step hA hk)
            have H5 := Lib.hid a3
            clear hA hk FR HR a1 a2 a3
            generalize readTo _ _ _ = q7 at *
            have hbx := F5.out.at 0 rfl
            have lx : w5.cell? ⟨b24, 0, none⟩ = some (.int .u32 1) := by simp [World.cell?, hbx]
            clear hbx
            go_wp2_with fail
            go_roundw
            case rel => exact ⟨1, by omega, by rfl, _, H5, F5⟩
            case measure => simp [intOf]
          · obtain ⟨a1, a2, a3⟩ := has_read HR.out rfl (wd := 1) (by omega) (by omega)
            simp only [wordE] at a2
            go_wp2_with fail
            have HW := read_is FR.out.cache ad HS.out n 1
            rw [a1, a2] at HW
            simp only [reduceIte, Int.reduceEq] at HW
            refine HW.mono ?_
            clear HW
            rintro r w5 ⟨rfl, hA, hk⟩
            have F5 := Lib.hid (FR.out.step hA hk)
            have H5 := Lib.hid a3
            clear hA hk FR HR a1 a2 a3
            generalize readTo _ _ _ = q7 at *
            have hbx := F5.out.at 0 rfl
            have lx : w5.cell? ⟨b24, 1, none⟩ = some (.int .u32 v) := by simp [World.cell?, hbx]
            clear hbx
            go_wp2_with fail
            go_roundw
            case rel => exact ⟨2, by omega, by rfl, _, H5, F5⟩
            case measure => simp [intOf]
          · obtain ⟨a1, a2, a3⟩ := has_read HR.out rfl (wd := 2) (by omega) (by omega)
            simp only [wordE] at a2
            go_wp2_with fail
            have HW := read_is FR.out.cache ad HS.out n 2
            rw [a1, a2] at HW
            simp only [reduceIte, Int.reduceEq] at HW
            refine HW.mono ?_
            clear HW
            rintro r w5 ⟨rfl, hA, hk⟩
            have F5 := Lib.hid (FR.out.step hA hk)
            have H5 := Lib.hid a3
            clear hA hk FR HR a1 a2 a3
            generalize readTo _ _ _ = q7 at *
            have hbx := F5.out.at 0 rfl
            have lx : w5.cell? ⟨b24, 2, none⟩ = some (.int .u32 3) := by simp [World.cell?, hbx]
            clear hbx
            go_wp2_with fail
            go_roundw
            case rel => exact ⟨3, by omega, by rfl, _, H5, F5⟩
            case measure => simp [intOf]
          · obtain ⟨a1, a2, a3⟩ := has_read HR.out rfl (wd := 3) (by omega) (by omega)
            simp only [wordE] at a2
            go_wp2_with fail
            have HW := read_is FR.out.cache ad HS.out n 3
            rw [a1, a2] at HW
            simp only [reduceIte, Int.reduceEq] at HW
            refine HW.mono ?_
            clear HW
            rintro r w5 ⟨rfl, hA, hk⟩
            have F5 := Lib.hid (FR.out.step hA hk)
            have H5 := Lib.hid a3
            clear hA hk FR HR a1 a2 a3
            generalize readTo _ _ _ = q7 at *
            have hbx := F5.out.at 0 rfl
            have lx : w5.cell? ⟨b24, 3, none⟩ = some (.int .u32 4) := by simp [World.cell?, hbx]
            clear hbx
            go_wp2_with fail
            go_roundw
            case rel => exact ⟨4, by omega, by rfl, _, H5, F5⟩
            case measure => simp [intOf]
        · obtain rfl : i = 4 := by omega
          go_wp2_with fail
          refine (cacheRuns_is wr ad (HS.out.of_below FR.out.based)).mono ?_
          rintro r wz ⟨rfl, hb⟩
          have HZ := Lib.hid (FR.out.based.trans (hb.mono FR.out.based.size))
          clear hb FR
          go_wp2
          go_ret
          exact ⟨rfl, HZ.out⟩
    · clear HD4
      have H7 : Hid (Has q6 0 n ⟨n, 1, 2, 0, 1, 2, v, 4, false, false⟩ []) := H6.out
      clear H6
      go_upto_region 26 with fail
      have F3 : Hid (FrameAt (fun _ => False) w w1 (w2.setCell ⟨b24, 2, none⟩ (.int .u32 v)) A q6 [⟨b24, #[.int .u32 1, .int .u32 2, .int .u32 v, .int .u32 4], 31⟩]) := F2.out.setCell 0 b24 _ _ rfl 2 (.int .u32 v)
      clear F2 hfz l0 l1 l2 l3
      generalize w2.setCell _ _ = w3 at *
      go_wp2_with fail
      go_loopw [25] (fun u wr => ∃ i : Nat, i ≤ 4 ∧ u = .int .i64 i ∧ ∃ qr, Hid (Has qr 0 n ⟨n, 1, 2, 0, 1, 2, v, 4, false, false⟩ []) ∧ Hid (FrameAt (fun _ => False) w w1 wr A qr [⟨b24, #[.int .u32 1, .int .u32 2, .int .u32 v, .int .u32 4], 31⟩])) (fun u _ => 4 - (intOf u).toNat)
      case atStart => exact ⟨0, by omega, rfl, _, H7, F3⟩
      case round =>
        obtain ⟨i, hi, rfl, qr, HR, FR⟩ := hrel
        have HR : Hid _ := HR
        have FR : Hid _ := FR
        clear H7 F3
        by_cases hlt : i < 4
        · have hi4 : i = 0 ∨ i = 1 ∨ i = 2 ∨ i = 3 := by omega
          clear hi hlt
          rcases hi4 with rfl | rfl | rfl | rfl
          · obtain ⟨a1, a2, a3⟩ := has_read HR.out rfl (wd := 0) (by omega) (by omega)
            simp only [wordE] at a2
            go_wp2_with fail
            have HW := read_is FR.out.cache ad HS.out n 0
            rw [a1, a2] at HW
            simp only [reduceIte] at HW
            refine HW.mono ?_
            clear HW
            rintro r w5 ⟨rfl, hA, hk⟩
            have F5 := Lib.hid (FR.out.step hA hk)
            have H5 := Lib.hid a3
            clear hA hk FR HR a1 a2 a3
            generalize readTo _ _ _ = q7 at *
            have hbx := F5.out.at 0 rfl
            have lx : w5.cell? ⟨b24, 0, none⟩ = some (.int .u32 1) := by simp [World.cell?, hbx]
            clear hbx
            go_wp2_with fail
            go_roundw
            case rel => exact ⟨1, by omega, by rfl, _, H5, F5⟩
            case measure => simp [intOf]
          · obtain ⟨a1, a2, a3⟩ := has_read HR.out rfl (wd := 1) (by omega) (by omega)
            simp only [wordE] at a2
            go_wp2_with fail
            have HW := read_is FR.out.cache ad HS.out n 1
            rw [a1, a2] at HW
            simp only [reduceIte, Int.reduceEq] at HW
            refine HW.mono ?_
            clear HW
            rintro r w5 ⟨rfl, hA, hk⟩
            have F5 := Lib.hid (FR.out.step hA hk)
            have H5 := Lib.hid a3
            clear hA hk FR HR a1 a2 a3
            generalize readTo _ _ _ = q7 at *
            have hbx := F5.out.at 0 rfl
            have lx : w5.cell? ⟨b24, 1, none⟩ = some (.int .u32 2) := by simp [World.cell?, hbx]
            clear hbx
            go_wp2_with fail
            go_roundw
            case rel => exact ⟨2, by omega, by rfl, _, H5, F5⟩
            case measure => simp [intOf]
          · obtain ⟨a1, a2, a3⟩ := has_read HR.out rfl (wd := 2) (by omega) (by omega)
            simp only [wordE] at a2
            go_wp2_with fail
            have HW := read_is FR.out.cache ad HS.out n 2
            rw [a1, a2] at HW
            simp only [reduceIte, Int.reduceEq] at HW
            refine HW.mono ?_
            clear HW
            rintro r w5 ⟨rfl, hA, hk⟩
            have F5 := Lib.hid (FR.out.step hA hk)
            have H5 := Lib.hid a3
            clear hA hk FR HR a1 a2 a3
            generalize readTo _ _ _ = q7 at *
            have hbx := F5.out.at 0 rfl
            have lx : w5.cell? ⟨b24, 2, none⟩ = some (.int .u32 v) := by simp [World.cell?, hbx]
            clear hbx
            go_wp2_with fail
            go_roundw
            case rel => exact ⟨3, by omega, by rfl, _, H5, F5⟩
            case measure => simp [intOf]
          · obtain ⟨a1, a2, a3⟩ := has_read HR.out rfl (wd := 3) (by omega) (by omega)
            simp only [wordE] at a2
            go_wp2_with fail
            have HW := read_is FR.out.cache ad HS.out n 3
            rw [a1, a2] at HW
            simp only [reduceIte, Int.reduceEq] at HW
            refine HW.mono ?_
            clear HW
            rintro r w5 ⟨rfl, hA, hk⟩
            have F5 := Lib.hid (FR.out.step hA hk)
            have H5 := Lib.hid a3
            clear hA hk FR HR a1 a2 a3
            generalize readTo _ _ _ = q7 at *
            have hbx := F5.out.at 0 rfl
            have lx : w5.cell? ⟨b24, 3, none⟩ = some (.int .u32 4) := by simp [World.cell?, hbx]
            clear hbx
            go_wp2_with fail
            go_roundw
            case rel => exact ⟨4, by omega, by rfl, _, H5, F5⟩
            case measure => simp [intOf]
        · obtain rfl : i = 4 := by omega
          go_wp2_with fail
          refine (cacheRuns_is wr ad (HS.out.of_below FR.out.based)).mono ?_
          rintro r wz ⟨rfl, hb⟩
          have HZ := Lib.hid (FR.out.based.trans (hb.mono FR.out.based.size))
          clear hb FR
          go_wp2
          go_ret
          exact ⟨rfl, HZ.out⟩
    · clear HD4
      have H7 : Hid (Has q6 0 n ⟨n, 1, 2, 0, 1, 2, 3, v, false, false⟩ []) := H6.out
      clear H6
      go_upto_region 26 with fail
      have F3 : Hid (FrameAt (fun _ => False) w w1 (w2.setCell ⟨b24, 3, none⟩ (.int .u32 v)) A q6 [⟨b24, #[.int .u32 1, .int .u32 2, .int .u32 3, .int .u32 v], 31⟩]) := F2.out.setCell 0 b24 _ _ rfl 3 (.int .u32 v)
      clear F2 hfz l0 l1 l2 l3
      generalize w2.setCell _ _ = w3 at *
      go_wp2_with fail
      go_loopw [25] (fun u wr => ∃ i : Nat, i ≤ 4 ∧ u = .int .i64 i ∧ ∃ qr, Hid (Has qr 0 n ⟨n, 1, 2, 0, 1, 2, 3, v, false, false⟩ []) ∧ Hid (FrameAt (fun _ => False) w w1 wr A qr [⟨b24, #[.int .u32 1, .int .u32 2, .int .u32 3, .int .u32 v], 31⟩])) (fun u _ => 4 - (intOf u).toNat)
      case atStart => exact ⟨0, by omega, rfl, _, H7, F3⟩
      case round =>
        obtain ⟨i, hi, rfl, qr, HR, FR⟩ := hrel
        have HR : Hid _ := HR
        have FR : Hid _ := FR
        clear H7 F3
        by_cases hlt : i < 4
        · have hi4 : i = 0 ∨ i = 1 ∨ i = 2 ∨ i = 3 := by omega
          clear hi hlt
          rcases hi4 with rfl | rfl | rfl | rfl
          · obtain ⟨a1, a2, a3⟩ := has_read HR.out rfl (wd := 0) (by omega) (by omega)
            simp only [wordE] at a2
            go_wp2_with fail
            have HW := read_is FR.out.cache ad HS.out n 0
            rw [a1, a2] at HW
            simp only [reduceIte] at HW
            refine HW.mono ?_
            clear HW
            rintro r w5 ⟨rfl, hA, hk⟩
            have F5 := Lib.hid (FR.out.step hA hk)
            have H5 := Lib.hid a3
            clear hA hk FR HR a1 a2 a3
            generalize readTo _ _ _ = q7 at *
            have hbx := F5.out.at 0 rfl
            have lx : w5.cell? ⟨b24, 0, none⟩ = some (.int .u32 1) := by simp [World.cell?, hbx]
            clear hbx
            go_wp2_with fail
            go_roundw
            case rel => exact ⟨1, by omega, by rfl, _, H5, F5⟩
            case measure => simp [intOf]
          · obtain ⟨a1, a2, a3⟩ := has_read HR.out rfl (wd := 1) (by omega) (by omega)
            simp only [wordE] at a2
            go_wp2_with fail
            have HW := read_is FR.out.cache ad HS.out n 1
            rw [a1, a2] at HW
            simp only [reduceIte, Int.reduceEq] at HW
            refine HW.mono ?_
            clear HW
            rintro r w5 ⟨rfl, hA, hk⟩
            have F5 := Lib.hid (FR.out.step hA hk)
            have H5 := Lib.hid a3
            clear hA hk FR HR a1 a2 a3
            generalize readTo _ _ _ = q7 at *
            have hbx := F5.out.at 0 rfl
            have lx : w5.cell? ⟨b24, 1, none⟩ = some (.int .u32 2) := by simp [World.cell?, hbx]
            clear hbx
            go_wp2_with fail
            go_roundw
            case rel => exact ⟨2, by omega, by rfl, _, H5, F5⟩
            case measure => simp [intOf]
          · obtain ⟨a1, a2, a3⟩ := has_read HR.out rfl (wd := 2) (by omega) (by omega)
            simp only [wordE] at a2
            go_wp2_with fail
            have HW := read_is FR.out.cache ad HS.out n 2
            rw [a1, a2] at HW
            simp only [reduceIte, Int.reduceEq] at HW
            refine HW.mono ?_
            clear HW
            rintro r w5 ⟨rfl, hA, hk⟩
            have F5 := Lib.hid (FR.out.step hA hk)
            have H5 := Lib.hid a3
            clear hA hk FR HR a1 a2 a3
            generalize readTo _ _ _ = q7 at *
            have hbx := F5.out.at 0 rfl
            have lx : w5.cell? ⟨b24, 2, none⟩ = some (.int .u32 3) := by simp [World.cell?, hbx]
            clear hbx
            go_wp2_with fail
            go_roundw
            case rel => exact ⟨3, by omega, by rfl, _, H5, F5⟩
            case measure => simp [intOf]
          · obtain ⟨a1, a2, a3⟩ := has_read HR.out rfl (wd := 3) (by omega) (by omega)
            simp only [wordE] at a2
            go_wp2_with fail
            have HW := read_is FR.out.cache ad HS.out n 3
            rw [a1, a2] at HW
            simp only [reduceIte, Int.reduceEq] at HW
            refine HW.mono ?_
            clear HW
            rintro r w5 ⟨rfl, hA, hk⟩
            have F5 := Lib.hid (FR.out.step hA hk)
            have H5 := Lib.hid a3
            clear hA hk FR HR a1 a2 a3
            generalize readTo _ _ _ = q7 at *
            have hbx := F5.out.at 0 rfl
            have lx : w5.cell? ⟨b24, 3, none⟩ = some (.int .u32 v) := by simp [World.cell?, hbx]
            clear hbx
            go_wp2_with fail
            go_roundw
            case rel => exact ⟨4, by omega, by rfl, _, H5, F5⟩
            case measure => simp [intOf]
        · obtain rfl : i = 4 := by omega
          go_wp2_with fail
          refine (cacheRuns_is wr ad (HS.out.of_below FR.out.based)).mono ?_
          rintro r wz ⟨rfl, hb⟩
          have HZ := Lib.hid (FR.out.based.trans (hb.mono FR.out.based.size))
          clear hb FR
          go_wp2
          go_ret
          exact ⟨rfl, HZ.out⟩
end Go.Proofs.YtfaihaknibmcpaaDoor
