/- The law CacheWrites, walked. -/
import Derived.Test.YtfaihaknibmcpaaGreatDoorTurns
namespace Go.Proofs.YtfaihaknibmcpaaGreatDoor
open Go.RowKit Go.Extern.Stop Go.Stop Go.Extern

def wS (g : Nat) (l : List (Int × Int)) : CSt := ⟨0, 1, 2, 2, newSets g 2 1, l⟩
theorem w_want (g : Nat) (n : Int) (hx : isLine n = true) (ad : Nat → Addr) : wantTo (wS g []) n 2 0 = wS g [(n, 2)] :=
  (want_first (q := wS g []) 0 ad ((isLine_iff n).1 hx).1 (by have := ((isLine_iff n).1 hx).2; omega) (by omega) (by omega) (by omega) (by omega) rfl (by show 0 < 2; omega) (.inl ⟨getS_new g 2 1 (by omega) n, roomS_new g 2 1 (by omega) (by omega) hx⟩)).1
theorem w_answer (g : Nat) (n s : Int) (hx : isLine n = true) (hs : s = 1 ∨ s = 2 ∨ s = 4) : Has (answerTo (wS g [(n, 2)]) ⟨13, 0, n, s, 0, 0, 0, 0, 1, 2, 3, 4, true⟩) 0 n ⟨n, s, 0, 0, 1, 2, 3, 4, false, true⟩ [] := by
  have := (has_data (q := wS g [(n, 2)]) (c := 0) (l := [(n, 2)]) (x := n) (st := s) (mo := 0) (ep := 0) (d0 := 1) (d1 := 2) (d2 := 3) (d3 := 4) (okQ_new 0 g 2 1 2 _ (by omega)) rfl rfl (by omega) ((isLine_iff n).1 hx) hs (by omega) (by omega) (roomS_new g 2 1 (by omega) (by omega) hx)).2.2
  rw [show dropOf n [(n, (2 : Int))] = [] by simp [dropOf]] at this
  exact this
theorem w_none (g : Nat) (n d v : Int) : writeOk (wS g []) n d = false ∧ writeTo (wS g []) n d v = wS g [] := by
  have h : writeOk (wS g []) n d = false := by
    unfold writeOk
    rw [show getS (wS g []).S n = none from getS_new g 2 1 (by omega) n]
    rfl
  exact ⟨h, write_no h⟩
theorem has_nowrite {q : CSt} {c x : Int} {e : Ent} {l : List (Int × Int)} (h : Has q c x e l) (hw : writesB e.state = false) (d v : Int) : writeOk q x d = false ∧ writeTo q x d v = q := by
  have h1 : writeOk q x d = false := by
    unfold writeOk
    rw [h.at', Option.getD_some, hw, Bool.and_false]
  exact ⟨h1, write_no h1⟩
theorem has_noword {q : CSt} {c x : Int} {e : Ent} {l : List (Int × Int)} (h : Has q c x e l) {d : Int} (hd : d < 0 ∨ 4 ≤ d) (v : Int) : writeOk q x d = false ∧ writeTo q x d v = q := by
  have ho : okE (getS q.S x) d = false := by
    rw [h.at']
    simp [okE]
    intros
    omega
  have h1 : writeOk q x d = false := by
    unfold writeOk
    rw [ho]
    rfl
  exact ⟨h1, write_no h1⟩
set_option maxRecDepth 100000 in
set_option maxHeartbeats 8000000 in
theorem cacheWrites_is (line st word v : Int) (w : World) (ad : Nat → Addr) (HSE : Sents w ad) :
    Calls Tryz.prog 6 #[.int .i64 line, .int .i64 st, .int .i64 word, .int .u32 v] w fun e w' => e = .returned (.bool true) ∧ Below w.heap.size w w' := by
  have HS := Lib.hid HSE
  clear HSE
  obtain ⟨n, n0, n31, N1⟩ := within_int line 31 (by omega)
  obtain ⟨d, d0, d3, D1⟩ := within_int word 3 (by omega)
  obtain ⟨j, hj, J1⟩ := within_nat st 2 (by omega)
  have HN := Lib.hid N1
  have HJ := Lib.hid J1
  have HD := Lib.hid D1
  clear N1 J1 D1
  have HX : Hid (isLine n = true) := (isLine_iff n).2 ⟨n0, n31⟩
  have HFK : Hid (∀ b (w' : World), w'.heap[b]? = some (.cells #[.int .i64 1, .int .i64 2, .int .i64 4] 3 (0, 0)) → w'.cell? ⟨b, j, none⟩ = some (.int .i64 (stOf j))) := fun b w' hb => by
    have h5 : j = 0 ∨ j = 1 ∨ j = 2 := by omega
    rcases h5 with rfl | rfl | rfl
    all_goals simp [World.cell?, hb, stOf]
  have HST := Lib.hid (st_in j)
  have j3 : (j : Int) < 3 := by omega
  have j0 : j < 3 := by omega
  have HD4 : Hid (d = 0 ∨ d = 1 ∨ d = 2 ∨ d = 3) := by
    show _ ∨ _
    omega
  go_enter Tryz.func6, Tryz.ntmps6
  go_wp2_with fail
  refine (new_ok ⟨1, 32, 1, 2, 2, 1, 1, 1, 0⟩ 0 1 2 2 (by kernel_rfl) rfl rfl rfl (by omega) (by show (0 : Int) < 1; omega) w ad HS.out).mono ?_
  rintro r w1 ⟨A, g, rfl, hC⟩
  have F1 : Hid (FrameAt (fun _ => False) w w1 w1 A (wS g []) []) := FrameAt.start hC
  clear hC
  go_wp2_with fail
  refine (HN.out _).mono ?_
  rintro r w1 ⟨rfl, rfl⟩
  go_wp2_with fail
  refine (HD.out _).mono ?_
  rintro r w1 ⟨rfl, rfl⟩
  clear HN HD
  go_wp2_with fail
  generalize hW : w1.alloc _ = w2
  have hc5 := HFK.out w1.heap.size w2 (by rw [← hW]; exact heap_alloc_new _ _)
  have F2 := Lib.hid (F1.out.skip hW)
  clear hW F1 HFK
  generalize w1.heap.size = b40 at *
  refine (HJ.out _).mono ?_
  rintro r w2 ⟨rfl, rfl⟩
  clear HJ
  go_upto_region 6 with fail
  clear hc5 j3 j0 hj
  generalize stOf j = s at *
  go_wp2_with fail
  obtain ⟨a1, a2⟩ := w_none g n d v
  have HW := write_is F2.out.cache ad HS.out n d v
  rw [a1, a2] at HW
  refine HW.mono ?_
  clear HW
  rintro r w3 ⟨rfl, hA, hk⟩
  have F3 := Lib.hid (F2.out.step hA hk)
  clear hA hk F2
  clear a1 a2
  go_wp2_with fail
  have HW := want_is F3.out.cache ad HS.out n 2 0 0
  rw [w_want g n HX.out ad] at HW
  refine HW.mono ?_
  clear HW
  rintro r w4 ⟨rfl, hA, hk⟩
  have F4 := Lib.hid (F3.out.step hA hk)
  clear hA hk F3
  go_wp2_with fail
  have HW := data_is n s 1 2 3 4 w4
  simp only [Mg.val, dataM] at HW
  refine HW.mono ?_
  clear HW
  rintro r w5 ⟨rfl, hb⟩
  have F5 := Lib.hid (F4.out.below hb)
  clear hb F4
  go_wp2_with fail
  have a3 := w_answer g n s HX.out HST.out
  have HW := answer_is F5.out.cache ad HS.out ⟨13, 0, n, s, 0, 0, 0, 0, 1, 2, 3, 4, true⟩
  simp only [Mg.val] at HW
  refine HW.mono ?_
  clear HW
  rintro r w6 ⟨rfl, hA, hk⟩
  have F6 := Lib.hid (F5.out.step hA hk)
  clear hA hk F5
  have H3 := Lib.hid a3
  clear a3
  generalize answerTo _ _ = q3 at *
  generalize answerSays _ _ = y3 at *
  generalize answerOk _ _ = o3 at *
  go_wp2_with fail
  rcases HST.out with rfl | rfl | rfl
  · clear HST HD4
    have H4 := H3
    obtain ⟨a1, a2⟩ := has_nowrite H3.out rfl d v
    have HW := write_is F6.out.cache ad HS.out n d v
    rw [a1, a2] at HW
    refine HW.mono ?_
    clear HW
    rintro r w7 ⟨rfl, hA, hk⟩
    have F7 := Lib.hid (F6.out.step hA hk)
    clear hA hk F6
    clear a1 a2 H3
    go_wp2_with fail
    have hpk := H4.out.at'
    have HW := peek_is F7.out.cache n
    rw [hpk] at HW
    simp only [Option.getD_some, Option.isSome_some, Ent.val] at HW
    refine HW.mono ?_
    clear HW
    rintro r w8 ⟨rfl, hb⟩
    have F8 := Lib.hid (F7.out.below hb)
    clear hb F7
    clear hpk
    go_upto_region 12 with fail
    generalize hW : w8.alloc _ = w9
    have F9 := Lib.hid (F8.out.layAs (cs := (Ent.cells ⟨n, 1, 0, 0, 1, 2, 3, 4, false, true⟩).toArray) (t := 65) hW)
    clear hW F8
    generalize w8.heap.size = b15 at *
    go_upto_region 13 with fail
    generalize hW : w9.alloc _ = w10
    have F10 := Lib.hid (F9.out.layAs (cs := #[.int .u32 1, .int .u32 2, .int .u32 3, .int .u32 4]) (t := 32) hW)
    clear hW F9
    generalize w9.heap.size = b17 at *
    have hbx := F10.out.at 0 rfl
    obtain ⟨-, e1, -, -, e4, e5, e6, e7, -, -⟩ := box_cells (F10.out.at 1 rfl)
    have he := fun w : World => eqLine_same 1 2 3 4 w
    have l0 : w10.cell? ⟨b17, 0, none⟩ = some (.int .u32 1) := by simp [World.cell?, hbx]
    have l1 : w10.cell? ⟨b17, 1, none⟩ = some (.int .u32 2) := by simp [World.cell?, hbx]
    have l2 : w10.cell? ⟨b17, 2, none⟩ = some (.int .u32 3) := by simp [World.cell?, hbx]
    have l3 : w10.cell? ⟨b17, 3, none⟩ = some (.int .u32 4) := by simp [World.cell?, hbx]
    clear hbx
    go_wp2_with fail
    clear he e1 e4 e5 e6 e7 l0 l1 l2 l3
    refine (cacheRuns_is w10 ad (HS.out.of_below F10.out.based)).mono ?_
    rintro r wz ⟨rfl, hb⟩
    have HZ := Lib.hid (F10.out.based.trans (hb.mono F10.out.based.size))
    clear hb F10
    go_wp2
    go_ret
    exact ⟨rfl, HZ.out⟩
  · clear HST
    rcases HD4.out with rfl | rfl | rfl | rfl
    · clear HD4
      obtain ⟨a1, a3⟩ := has_write H3.out rfl (wd := 0) (v := v) (by omega) (by omega) rfl
      have H4 : Hid (Has _ 0 n ⟨n, 4, 0, 0, v, 2, 3, 4, false, false⟩ []) := a3
      have HW := write_is F6.out.cache ad HS.out n 0 v
      rw [a1] at HW
      refine HW.mono ?_
      clear HW
      rintro r w7 ⟨rfl, hA, hk⟩
      have F7 := Lib.hid (F6.out.step hA hk)
      clear hA hk F6
      clear a1 a3 H3
      generalize writeTo _ _ _ _ = q4 at *
      go_wp2_with fail
      have hpk := H4.out.at'
      have HW := peek_is F7.out.cache n
      rw [hpk] at HW
      simp only [Option.getD_some, Option.isSome_some, Ent.val] at HW
      refine HW.mono ?_
      clear HW
      rintro r w8 ⟨rfl, hb⟩
      have F8 := Lib.hid (F7.out.below hb)
      clear hb F7
      clear hpk
      go_upto_region 12 with fail
      generalize hW : w8.alloc _ = w9
      have F9 := Lib.hid (F8.out.layAs (cs := (Ent.cells ⟨n, 4, 0, 0, v, 2, 3, 4, false, false⟩).toArray) (t := 65) hW)
      clear hW F8
      generalize w8.heap.size = b15 at *
      go_upto_region 13 with fail
      generalize hW : w9.alloc _ = w10
      have F10 := Lib.hid (F9.out.layAs (cs := #[.int .u32 1, .int .u32 2, .int .u32 3, .int .u32 4]) (t := 32) hW)
      clear hW F9
      generalize w9.heap.size = b17 at *
      have hbx := F10.out.at 0 rfl
      have hfz : ∀ c, w10.frozen? ⟨b17, c, none⟩ = false := fun c => nofreeze hbx
      have l0 : w10.cell? ⟨b17, 0, none⟩ = some (.int .u32 1) := by simp [World.cell?, hbx]
      have l1 : w10.cell? ⟨b17, 1, none⟩ = some (.int .u32 2) := by simp [World.cell?, hbx]
      have l2 : w10.cell? ⟨b17, 2, none⟩ = some (.int .u32 3) := by simp [World.cell?, hbx]
      have l3 : w10.cell? ⟨b17, 3, none⟩ = some (.int .u32 4) := by simp [World.cell?, hbx]
      clear hbx
      go_upto_region 18 with fail
      have F11 : Hid (FrameAt (fun _ => False) w w1 (w10.setCell ⟨b17, 0, none⟩ (.int .u32 v)) A q4 [⟨b17, #[.int .u32 v, .int .u32 2, .int .u32 3, .int .u32 4], 32⟩, ⟨b15, (Ent.cells ⟨n, 4, 0, 0, v, 2, 3, 4, false, false⟩).toArray, 65⟩]) := F10.out.setCell 0 b17 _ _ rfl 0 (.int .u32 v)
      clear F10 hfz l0 l1 l2 l3
      generalize w10.setCell _ _ = w11 at *
      have hbx := F11.out.at 0 rfl
      obtain ⟨-, e1, -, -, e4, e5, e6, e7, -, -⟩ := box_cells (F11.out.at 1 rfl)
      have he := fun w : World => eqLine_same v 2 3 4 w
      have l0 : w11.cell? ⟨b17, 0, none⟩ = some (.int .u32 v) := by simp [World.cell?, hbx]
      have l1 : w11.cell? ⟨b17, 1, none⟩ = some (.int .u32 2) := by simp [World.cell?, hbx]
      have l2 : w11.cell? ⟨b17, 2, none⟩ = some (.int .u32 3) := by simp [World.cell?, hbx]
      have l3 : w11.cell? ⟨b17, 3, none⟩ = some (.int .u32 4) := by simp [World.cell?, hbx]
      clear hbx
      go_wp2_with fail
      clear he e1 e4 e5 e6 e7 l0 l1 l2 l3
      obtain ⟨a1, a2⟩ := has_noword H4.out (d := 4) (by omega) v
      have HW := write_is F11.out.cache ad HS.out n 4 v
      rw [a1, a2] at HW
      refine HW.mono ?_
      clear HW
      rintro r w12 ⟨rfl, hA, hk⟩
      have F12 := Lib.hid (F11.out.step hA hk)
      clear hA hk F11
      clear a1 a2
      go_wp2_with fail
      obtain ⟨a1, a2⟩ := has_noword H4.out (d := (-1)) (by omega) v
      have HW := write_is F12.out.cache ad HS.out n (-1) v
      rw [a1, a2] at HW
      refine HW.mono ?_
      clear HW
      rintro r w13 ⟨rfl, hA, hk⟩
      have F13 := Lib.hid (F12.out.step hA hk)
      clear hA hk F12
      clear a1 a2
      go_wp2_with fail
      refine (cacheRuns_is w13 ad (HS.out.of_below F13.out.based)).mono ?_
      rintro r wz ⟨rfl, hb⟩
      have HZ := Lib.hid (F13.out.based.trans (hb.mono F13.out.based.size))
      clear hb F13
      go_wp2
      go_ret
      exact ⟨rfl, HZ.out⟩
    · clear HD4
      obtain ⟨a1, a3⟩ := has_write H3.out rfl (wd := 1) (v := v) (by omega) (by omega) rfl
      have H4 : Hid (Has _ 0 n ⟨n, 4, 0, 0, 1, v, 3, 4, false, false⟩ []) := a3
      have HW := write_is F6.out.cache ad HS.out n 1 v
      rw [a1] at HW
      refine HW.mono ?_
      clear HW
      rintro r w7 ⟨rfl, hA, hk⟩
      have F7 := Lib.hid (F6.out.step hA hk)
      clear hA hk F6
      clear a1 a3 H3
      generalize writeTo _ _ _ _ = q4 at *
      go_wp2_with fail
      have hpk := H4.out.at'
      have HW := peek_is F7.out.cache n
      rw [hpk] at HW
      simp only [Option.getD_some, Option.isSome_some, Ent.val] at HW
      refine HW.mono ?_
      clear HW
      rintro r w8 ⟨rfl, hb⟩
      have F8 := Lib.hid (F7.out.below hb)
      clear hb F7
      clear hpk
      go_upto_region 12 with fail
      generalize hW : w8.alloc _ = w9
      have F9 := Lib.hid (F8.out.layAs (cs := (Ent.cells ⟨n, 4, 0, 0, 1, v, 3, 4, false, false⟩).toArray) (t := 65) hW)
      clear hW F8
      generalize w8.heap.size = b15 at *
      go_upto_region 13 with fail
      generalize hW : w9.alloc _ = w10
      have F10 := Lib.hid (F9.out.layAs (cs := #[.int .u32 1, .int .u32 2, .int .u32 3, .int .u32 4]) (t := 32) hW)
      clear hW F9
      generalize w9.heap.size = b17 at *
      have hbx := F10.out.at 0 rfl
      have hfz : ∀ c, w10.frozen? ⟨b17, c, none⟩ = false := fun c => nofreeze hbx
      have l0 : w10.cell? ⟨b17, 0, none⟩ = some (.int .u32 1) := by simp [World.cell?, hbx]
      have l1 : w10.cell? ⟨b17, 1, none⟩ = some (.int .u32 2) := by simp [World.cell?, hbx]
      have l2 : w10.cell? ⟨b17, 2, none⟩ = some (.int .u32 3) := by simp [World.cell?, hbx]
      have l3 : w10.cell? ⟨b17, 3, none⟩ = some (.int .u32 4) := by simp [World.cell?, hbx]
      clear hbx
      go_upto_region 18 with fail
      have F11 : Hid (FrameAt (fun _ => False) w w1 (w10.setCell ⟨b17, 1, none⟩ (.int .u32 v)) A q4 [⟨b17, #[.int .u32 1, .int .u32 v, .int .u32 3, .int .u32 4], 32⟩, ⟨b15, (Ent.cells ⟨n, 4, 0, 0, 1, v, 3, 4, false, false⟩).toArray, 65⟩]) := F10.out.setCell 0 b17 _ _ rfl 1 (.int .u32 v)
      clear F10 hfz l0 l1 l2 l3
      generalize w10.setCell _ _ = w11 at *
      have hbx := F11.out.at 0 rfl
      obtain ⟨-, e1, -, -, e4, e5, e6, e7, -, -⟩ := box_cells (F11.out.at 1 rfl)
      have he := fun w : World => eqLine_same 1 v 3 4 w
      have l0 : w11.cell? ⟨b17, 0, none⟩ = some (.int .u32 1) := by simp [World.cell?, hbx]
      have l1 : w11.cell? ⟨b17, 1, none⟩ = some (.int .u32 v) := by simp [World.cell?, hbx]
      have l2 : w11.cell? ⟨b17, 2, none⟩ = some (.int .u32 3) := by simp [World.cell?, hbx]
      have l3 : w11.cell? ⟨b17, 3, none⟩ = some (.int .u32 4) := by simp [World.cell?, hbx]
      clear hbx
      go_wp2_with fail
      clear he e1 e4 e5 e6 e7 l0 l1 l2 l3
      obtain ⟨a1, a2⟩ := has_noword H4.out (d := 4) (by omega) v
      have HW := write_is F11.out.cache ad HS.out n 4 v
      rw [a1, a2] at HW
      refine HW.mono ?_
      clear HW
      rintro r w12 ⟨rfl, hA, hk⟩
      have F12 := Lib.hid (F11.out.step hA hk)
      clear hA hk F11
      clear a1 a2
      go_wp2_with fail
      obtain ⟨a1, a2⟩ := has_noword H4.out (d := (-1)) (by omega) v
      have HW := write_is F12.out.cache ad HS.out n (-1) v
      rw [a1, a2] at HW
      refine HW.mono ?_
      clear HW
      rintro r w13 ⟨rfl, hA, hk⟩
      have F13 := Lib.hid (F12.out.step hA hk)
      clear hA hk F12
      clear a1 a2
      go_wp2_with fail
      refine (cacheRuns_is w13 ad (HS.out.of_below F13.out.based)).mono ?_
      rintro r wz ⟨rfl, hb⟩
      have HZ := Lib.hid (F13.out.based.trans (hb.mono F13.out.based.size))
      clear hb F13
      go_wp2
      go_ret
      exact ⟨rfl, HZ.out⟩
    · clear HD4
      obtain ⟨a1, a3⟩ := has_write H3.out rfl (wd := 2) (v := v) (by omega) (by omega) rfl
      have H4 : Hid (Has _ 0 n ⟨n, 4, 0, 0, 1, 2, v, 4, false, false⟩ []) := a3
      have HW := write_is F6.out.cache ad HS.out n 2 v
      rw [a1] at HW
      refine HW.mono ?_
      clear HW
      rintro r w7 ⟨rfl, hA, hk⟩
      have F7 := Lib.hid (F6.out.step hA hk)
      clear hA hk F6
      clear a1 a3 H3
      generalize writeTo _ _ _ _ = q4 at *
      go_wp2_with fail
      have hpk := H4.out.at'
      have HW := peek_is F7.out.cache n
      rw [hpk] at HW
      simp only [Option.getD_some, Option.isSome_some, Ent.val] at HW
      refine HW.mono ?_
      clear HW
      rintro r w8 ⟨rfl, hb⟩
      have F8 := Lib.hid (F7.out.below hb)
      clear hb F7
      clear hpk
      go_upto_region 12 with fail
      generalize hW : w8.alloc _ = w9
      have F9 := Lib.hid (F8.out.layAs (cs := (Ent.cells ⟨n, 4, 0, 0, 1, 2, v, 4, false, false⟩).toArray) (t := 65) hW)
      clear hW F8
      generalize w8.heap.size = b15 at *
      go_upto_region 13 with fail
      generalize hW : w9.alloc _ = w10
      have F10 := Lib.hid (F9.out.layAs (cs := #[.int .u32 1, .int .u32 2, .int .u32 3, .int .u32 4]) (t := 32) hW)
      clear hW F9
      generalize w9.heap.size = b17 at *
      have hbx := F10.out.at 0 rfl
      have hfz : ∀ c, w10.frozen? ⟨b17, c, none⟩ = false := fun c => nofreeze hbx
      have l0 : w10.cell? ⟨b17, 0, none⟩ = some (.int .u32 1) := by simp [World.cell?, hbx]
      have l1 : w10.cell? ⟨b17, 1, none⟩ = some (.int .u32 2) := by simp [World.cell?, hbx]
      have l2 : w10.cell? ⟨b17, 2, none⟩ = some (.int .u32 3) := by simp [World.cell?, hbx]
      have l3 : w10.cell? ⟨b17, 3, none⟩ = some (.int .u32 4) := by simp [World.cell?, hbx]
      clear hbx
      go_upto_region 18 with fail
      have F11 : Hid (FrameAt (fun _ => False) w w1 (w10.setCell ⟨b17, 2, none⟩ (.int .u32 v)) A q4 [⟨b17, #[.int .u32 1, .int .u32 2, .int .u32 v, .int .u32 4], 32⟩, ⟨b15, (Ent.cells ⟨n, 4, 0, 0, 1, 2, v, 4, false, false⟩).toArray, 65⟩]) := F10.out.setCell 0 b17 _ _ rfl 2 (.int .u32 v)
      clear F10 hfz l0 l1 l2 l3
      generalize w10.setCell _ _ = w11 at *
      have hbx := F11.out.at 0 rfl
      obtain ⟨-, e1, -, -, e4, e5, e6, e7, -, -⟩ := box_cells (F11.out.at 1 rfl)
      have he := fun w : World => eqLine_same 1 2 v 4 w
      have l0 : w11.cell? ⟨b17, 0, none⟩ = some (.int .u32 1) := by simp [World.cell?, hbx]
      have l1 : w11.cell? ⟨b17, 1, none⟩ = some (.int .u32 2) := by simp [World.cell?, hbx]
      have l2 : w11.cell? ⟨b17, 2, none⟩ = some (.int .u32 v) := by simp [World.cell?, hbx]
      have l3 : w11.cell? ⟨b17, 3, none⟩ = some (.int .u32 4) := by simp [World.cell?, hbx]
      clear hbx
      go_wp2_with fail
      clear he e1 e4 e5 e6 e7 l0 l1 l2 l3
      obtain ⟨a1, a2⟩ := has_noword H4.out (d := 4) (by omega) v
      have HW := write_is F11.out.cache ad HS.out n 4 v
      rw [a1, a2] at HW
      refine HW.mono ?_
      clear HW
      rintro r w12 ⟨rfl, hA, hk⟩
      have F12 := Lib.hid (F11.out.step hA hk)
      clear hA hk F11
      clear a1 a2
      go_wp2_with fail
      obtain ⟨a1, a2⟩ := has_noword H4.out (d := (-1)) (by omega) v
      have HW := write_is F12.out.cache ad HS.out n (-1) v
      rw [a1, a2] at HW
      refine HW.mono ?_
      clear HW
      rintro r w13 ⟨rfl, hA, hk⟩
      have F13 := Lib.hid (F12.out.step hA hk)
      clear hA hk F12
      clear a1 a2
      go_wp2_with fail
      refine (cacheRuns_is w13 ad (HS.out.of_below F13.out.based)).mono ?_
      rintro r wz ⟨rfl, hb⟩
      have HZ := Lib.hid (F13.out.based.trans (hb.mono F13.out.based.size))
      clear hb F13
      go_wp2
      go_ret
      exact ⟨rfl, HZ.out⟩
    · clear HD4
      obtain ⟨a1, a3⟩ := has_write H3.out rfl (wd := 3) (v := v) (by omega) (by omega) rfl
      have H4 : Hid (Has _ 0 n ⟨n, 4, 0, 0, 1, 2, 3, v, false, false⟩ []) := a3
      have HW := write_is F6.out.cache ad HS.out n 3 v
      rw [a1] at HW
      refine HW.mono ?_
      clear HW
      rintro r w7 ⟨rfl, hA, hk⟩
      have F7 := Lib.hid (F6.out.step hA hk)
      clear hA hk F6
      clear a1 a3 H3
      generalize writeTo _ _ _ _ = q4 at *
      go_wp2_with fail
      have hpk := H4.out.at'
      have HW := peek_is F7.out.cache n
      rw [hpk] at HW
      simp only [Option.getD_some, Option.isSome_some, Ent.val] at HW
      refine HW.mono ?_
      clear HW
      rintro r w8 ⟨rfl, hb⟩
      have F8 := Lib.hid (F7.out.below hb)
      clear hb F7
      clear hpk
      go_upto_region 12 with fail
      generalize hW : w8.alloc _ = w9
      have F9 := Lib.hid (F8.out.layAs (cs := (Ent.cells ⟨n, 4, 0, 0, 1, 2, 3, v, false, false⟩).toArray) (t := 65) hW)
      clear hW F8
      generalize w8.heap.size = b15 at *
      go_upto_region 13 with fail
      generalize hW : w9.alloc _ = w10
      have F10 := Lib.hid (F9.out.layAs (cs := #[.int .u32 1, .int .u32 2, .int .u32 3, .int .u32 4]) (t := 32) hW)
      clear hW F9
      generalize w9.heap.size = b17 at *
      have hbx := F10.out.at 0 rfl
      have hfz : ∀ c, w10.frozen? ⟨b17, c, none⟩ = false := fun c => nofreeze hbx
      have l0 : w10.cell? ⟨b17, 0, none⟩ = some (.int .u32 1) := by simp [World.cell?, hbx]
      have l1 : w10.cell? ⟨b17, 1, none⟩ = some (.int .u32 2) := by simp [World.cell?, hbx]
      have l2 : w10.cell? ⟨b17, 2, none⟩ = some (.int .u32 3) := by simp [World.cell?, hbx]
      have l3 : w10.cell? ⟨b17, 3, none⟩ = some (.int .u32 4) := by simp [World.cell?, hbx]
      clear hbx
      go_upto_region 18 with fail
      have F11 : Hid (FrameAt (fun _ => False) w w1 (w10.setCell ⟨b17, 3, none⟩ (.int .u32 v)) A q4 [⟨b17, #[.int .u32 1, .int .u32 2, .int .u32 3, .int .u32 v], 32⟩, ⟨b15, (Ent.cells ⟨n, 4, 0, 0, 1, 2, 3, v, false, false⟩).toArray, 65⟩]) := F10.out.setCell 0 b17 _ _ rfl 3 (.int .u32 v)
      clear F10 hfz l0 l1 l2 l3
      generalize w10.setCell _ _ = w11 at *
      have hbx := F11.out.at 0 rfl
      obtain ⟨-, e1, -, -, e4, e5, e6, e7, -, -⟩ := box_cells (F11.out.at 1 rfl)
      have he := fun w : World => eqLine_same 1 2 3 v w
      have l0 : w11.cell? ⟨b17, 0, none⟩ = some (.int .u32 1) := by simp [World.cell?, hbx]
      have l1 : w11.cell? ⟨b17, 1, none⟩ = some (.int .u32 2) := by simp [World.cell?, hbx]
      have l2 : w11.cell? ⟨b17, 2, none⟩ = some (.int .u32 3) := by simp [World.cell?, hbx]
      have l3 : w11.cell? ⟨b17, 3, none⟩ = some (.int .u32 v) := by simp [World.cell?, hbx]
      clear hbx
      go_wp2_with fail
      clear he e1 e4 e5 e6 e7 l0 l1 l2 l3
      obtain ⟨a1, a2⟩ := has_noword H4.out (d := 4) (by omega) v
      have HW := write_is F11.out.cache ad HS.out n 4 v
      rw [a1, a2] at HW
      refine HW.mono ?_
      clear HW
      rintro r w12 ⟨rfl, hA, hk⟩
      have F12 := Lib.hid (F11.out.step hA hk)
      clear hA hk F11
      clear a1 a2
      go_wp2_with fail
      obtain ⟨a1, a2⟩ := has_noword H4.out (d := (-1)) (by omega) v
      have HW := write_is F12.out.cache ad HS.out n (-1) v
      rw [a1, a2] at HW
      refine HW.mono ?_
      clear HW
      rintro r w13 ⟨rfl, hA, hk⟩
      have F13 := Lib.hid (F12.out.step hA hk)
      clear hA hk F12
      clear a1 a2
      go_wp2_with fail
      refine (cacheRuns_is w13 ad (HS.out.of_below F13.out.based)).mono ?_
      rintro r wz ⟨rfl, hb⟩
      have HZ := Lib.hid (F13.out.based.trans (hb.mono F13.out.based.size))
      clear hb F13
      go_wp2
      go_ret
      exact ⟨rfl, HZ.out⟩
  · clear HST
    rcases HD4.out with rfl | rfl | rfl | rfl
    · clear HD4
      obtain ⟨a1, a3⟩ := has_write H3.out rfl (wd := 0) (v := v) (by omega) (by omega) rfl
      have H4 : Hid (Has _ 0 n ⟨n, 4, 0, 0, v, 2, 3, 4, false, false⟩ []) := a3
      have HW := write_is F6.out.cache ad HS.out n 0 v
      rw [a1] at HW
      refine HW.mono ?_
      clear HW
      rintro r w7 ⟨rfl, hA, hk⟩
      have F7 := Lib.hid (F6.out.step hA hk)
      clear hA hk F6
      clear a1 a3 H3
      generalize writeTo _ _ _ _ = q4 at *
      go_wp2_with fail
      have hpk := H4.out.at'
      have HW := peek_is F7.out.cache n
      rw [hpk] at HW
      simp only [Option.getD_some, Option.isSome_some, Ent.val] at HW
      refine HW.mono ?_
      clear HW
      rintro r w8 ⟨rfl, hb⟩
      have F8 := Lib.hid (F7.out.below hb)
      clear hb F7
      clear hpk
      go_upto_region 12 with fail
      generalize hW : w8.alloc _ = w9
      have F9 := Lib.hid (F8.out.layAs (cs := (Ent.cells ⟨n, 4, 0, 0, v, 2, 3, 4, false, false⟩).toArray) (t := 65) hW)
      clear hW F8
      generalize w8.heap.size = b15 at *
      go_upto_region 13 with fail
      generalize hW : w9.alloc _ = w10
      have F10 := Lib.hid (F9.out.layAs (cs := #[.int .u32 1, .int .u32 2, .int .u32 3, .int .u32 4]) (t := 32) hW)
      clear hW F9
      generalize w9.heap.size = b17 at *
      have hbx := F10.out.at 0 rfl
      have hfz : ∀ c, w10.frozen? ⟨b17, c, none⟩ = false := fun c => nofreeze hbx
      have l0 : w10.cell? ⟨b17, 0, none⟩ = some (.int .u32 1) := by simp [World.cell?, hbx]
      have l1 : w10.cell? ⟨b17, 1, none⟩ = some (.int .u32 2) := by simp [World.cell?, hbx]
      have l2 : w10.cell? ⟨b17, 2, none⟩ = some (.int .u32 3) := by simp [World.cell?, hbx]
      have l3 : w10.cell? ⟨b17, 3, none⟩ = some (.int .u32 4) := by simp [World.cell?, hbx]
      clear hbx
      go_upto_region 18 with fail
      have F11 : Hid (FrameAt (fun _ => False) w w1 (w10.setCell ⟨b17, 0, none⟩ (.int .u32 v)) A q4 [⟨b17, #[.int .u32 v, .int .u32 2, .int .u32 3, .int .u32 4], 32⟩, ⟨b15, (Ent.cells ⟨n, 4, 0, 0, v, 2, 3, 4, false, false⟩).toArray, 65⟩]) := F10.out.setCell 0 b17 _ _ rfl 0 (.int .u32 v)
      clear F10 hfz l0 l1 l2 l3
      generalize w10.setCell _ _ = w11 at *
      have hbx := F11.out.at 0 rfl
      obtain ⟨-, e1, -, -, e4, e5, e6, e7, -, -⟩ := box_cells (F11.out.at 1 rfl)
      have he := fun w : World => eqLine_same v 2 3 4 w
      have l0 : w11.cell? ⟨b17, 0, none⟩ = some (.int .u32 v) := by simp [World.cell?, hbx]
      have l1 : w11.cell? ⟨b17, 1, none⟩ = some (.int .u32 2) := by simp [World.cell?, hbx]
      have l2 : w11.cell? ⟨b17, 2, none⟩ = some (.int .u32 3) := by simp [World.cell?, hbx]
      have l3 : w11.cell? ⟨b17, 3, none⟩ = some (.int .u32 4) := by simp [World.cell?, hbx]
      clear hbx
      go_wp2_with fail
      clear he e1 e4 e5 e6 e7 l0 l1 l2 l3
      obtain ⟨a1, a2⟩ := has_noword H4.out (d := 4) (by omega) v
      have HW := write_is F11.out.cache ad HS.out n 4 v
      rw [a1, a2] at HW
      refine HW.mono ?_
      clear HW
      rintro r w12 ⟨rfl, hA, hk⟩
      have F12 := Lib.hid (F11.out.step hA hk)
      clear hA hk F11
      clear a1 a2
      go_wp2_with fail
      obtain ⟨a1, a2⟩ := has_noword H4.out (d := (-1)) (by omega) v
      have HW := write_is F12.out.cache ad HS.out n (-1) v
      rw [a1, a2] at HW
      refine HW.mono ?_
      clear HW
      rintro r w13 ⟨rfl, hA, hk⟩
      have F13 := Lib.hid (F12.out.step hA hk)
      clear hA hk F12
      clear a1 a2
      go_wp2_with fail
      refine (cacheRuns_is w13 ad (HS.out.of_below F13.out.based)).mono ?_
      rintro r wz ⟨rfl, hb⟩
      have HZ := Lib.hid (F13.out.based.trans (hb.mono F13.out.based.size))
      clear hb F13
      go_wp2
      go_ret
      exact ⟨rfl, HZ.out⟩
    · clear HD4
      obtain ⟨a1, a3⟩ := has_write H3.out rfl (wd := 1) (v := v) (by omega) (by omega) rfl
      have H4 : Hid (Has _ 0 n ⟨n, 4, 0, 0, 1, v, 3, 4, false, false⟩ []) := a3
      have HW := write_is F6.out.cache ad HS.out n 1 v
      rw [a1] at HW
      refine HW.mono ?_
      clear HW
      rintro r w7 ⟨rfl, hA, hk⟩
      have F7 := Lib.hid (F6.out.step hA hk)
      clear hA hk F6
      clear a1 a3 H3
      generalize writeTo _ _ _ _ = q4 at *
      go_wp2_with fail
      have hpk := H4.out.at'
      have HW := peek_is F7.out.cache n
      rw [hpk] at HW
      simp only [Option.getD_some, Option.isSome_some, Ent.val] at HW
      refine HW.mono ?_
      clear HW
      rintro r w8 ⟨rfl, hb⟩
      have F8 := Lib.hid (F7.out.below hb)
      clear hb F7
      clear hpk
      go_upto_region 12 with fail
      generalize hW : w8.alloc _ = w9
      have F9 := Lib.hid (F8.out.layAs (cs := (Ent.cells ⟨n, 4, 0, 0, 1, v, 3, 4, false, false⟩).toArray) (t := 65) hW)
      clear hW F8
      generalize w8.heap.size = b15 at *
      go_upto_region 13 with fail
      generalize hW : w9.alloc _ = w10
      have F10 := Lib.hid (F9.out.layAs (cs := #[.int .u32 1, .int .u32 2, .int .u32 3, .int .u32 4]) (t := 32) hW)
      clear hW F9
      generalize w9.heap.size = b17 at *
      have hbx := F10.out.at 0 rfl
      have hfz : ∀ c, w10.frozen? ⟨b17, c, none⟩ = false := fun c => nofreeze hbx
      have l0 : w10.cell? ⟨b17, 0, none⟩ = some (.int .u32 1) := by simp [World.cell?, hbx]
      have l1 : w10.cell? ⟨b17, 1, none⟩ = some (.int .u32 2) := by simp [World.cell?, hbx]
      have l2 : w10.cell? ⟨b17, 2, none⟩ = some (.int .u32 3) := by simp [World.cell?, hbx]
      have l3 : w10.cell? ⟨b17, 3, none⟩ = some (.int .u32 4) := by simp [World.cell?, hbx]
      clear hbx
      go_upto_region 18 with fail
      have F11 : Hid (FrameAt (fun _ => False) w w1 (w10.setCell ⟨b17, 1, none⟩ (.int .u32 v)) A q4 [⟨b17, #[.int .u32 1, .int .u32 v, .int .u32 3, .int .u32 4], 32⟩, ⟨b15, (Ent.cells ⟨n, 4, 0, 0, 1, v, 3, 4, false, false⟩).toArray, 65⟩]) := F10.out.setCell 0 b17 _ _ rfl 1 (.int .u32 v)
      clear F10 hfz l0 l1 l2 l3
      generalize w10.setCell _ _ = w11 at *
      have hbx := F11.out.at 0 rfl
      obtain ⟨-, e1, -, -, e4, e5, e6, e7, -, -⟩ := box_cells (F11.out.at 1 rfl)
      have he := fun w : World => eqLine_same 1 v 3 4 w
      have l0 : w11.cell? ⟨b17, 0, none⟩ = some (.int .u32 1) := by simp [World.cell?, hbx]
      have l1 : w11.cell? ⟨b17, 1, none⟩ = some (.int .u32 v) := by simp [World.cell?, hbx]
      have l2 : w11.cell? ⟨b17, 2, none⟩ = some (.int .u32 3) := by simp [World.cell?, hbx]
      have l3 : w11.cell? ⟨b17, 3, none⟩ = some (.int .u32 4) := by simp [World.cell?, hbx]
      clear hbx
      go_wp2_with fail
      clear he e1 e4 e5 e6 e7 l0 l1 l2 l3
      obtain ⟨a1, a2⟩ := has_noword H4.out (d := 4) (by omega) v
      have HW := write_is F11.out.cache ad HS.out n 4 v
      rw [a1, a2] at HW
      refine HW.mono ?_
      clear HW
      rintro r w12 ⟨rfl, hA, hk⟩
      have F12 := Lib.hid (F11.out.step hA hk)
      clear hA hk F11
      clear a1 a2
      go_wp2_with fail
      obtain ⟨a1, a2⟩ := has_noword H4.out (d := (-1)) (by omega) v
      have HW := write_is F12.out.cache ad HS.out n (-1) v
      rw [a1, a2] at HW
      refine HW.mono ?_
      clear HW
      rintro r w13 ⟨rfl, hA, hk⟩
      have F13 := Lib.hid (F12.out.step hA hk)
      clear hA hk F12
      clear a1 a2
      go_wp2_with fail
      refine (cacheRuns_is w13 ad (HS.out.of_below F13.out.based)).mono ?_
      rintro r wz ⟨rfl, hb⟩
      have HZ := Lib.hid (F13.out.based.trans (hb.mono F13.out.based.size))
      clear hb F13
      go_wp2
      go_ret
      exact ⟨rfl, HZ.out⟩
    · clear HD4
      obtain ⟨a1, a3⟩ := has_write H3.out rfl (wd := 2) (v := v) (by omega) (by omega) rfl
      have H4 : Hid (Has _ 0 n ⟨n, 4, 0, 0, 1, 2, v, 4, false, false⟩ []) := a3
      have HW := write_is F6.out.cache ad HS.out n 2 v
      rw [a1] at HW
      refine HW.mono ?_
      clear HW
      rintro r w7 ⟨rfl, hA, hk⟩
      have F7 := Lib.hid (F6.out.step hA hk)
      clear hA hk F6
      clear a1 a3 H3
      generalize writeTo _ _ _ _ = q4 at *
      go_wp2_with fail
      have hpk := H4.out.at'
      have HW := peek_is F7.out.cache n
      rw [hpk] at HW
      simp only [Option.getD_some, Option.isSome_some, Ent.val] at HW
      refine HW.mono ?_
      clear HW
      rintro r w8 ⟨rfl, hb⟩
      have F8 := Lib.hid (F7.out.below hb)
      clear hb F7
      clear hpk
      go_upto_region 12 with fail
      generalize hW : w8.alloc _ = w9
      have F9 := Lib.hid (F8.out.layAs (cs := (Ent.cells ⟨n, 4, 0, 0, 1, 2, v, 4, false, false⟩).toArray) (t := 65) hW)
      clear hW F8
      generalize w8.heap.size = b15 at *
      go_upto_region 13 with fail
      generalize hW : w9.alloc _ = w10
      have F10 := Lib.hid (F9.out.layAs (cs := #[.int .u32 1, .int .u32 2, .int .u32 3, .int .u32 4]) (t := 32) hW)
      clear hW F9
      generalize w9.heap.size = b17 at *
      have hbx := F10.out.at 0 rfl
      have hfz : ∀ c, w10.frozen? ⟨b17, c, none⟩ = false := fun c => nofreeze hbx
      have l0 : w10.cell? ⟨b17, 0, none⟩ = some (.int .u32 1) := by simp [World.cell?, hbx]
      have l1 : w10.cell? ⟨b17, 1, none⟩ = some (.int .u32 2) := by simp [World.cell?, hbx]
      have l2 : w10.cell? ⟨b17, 2, none⟩ = some (.int .u32 3) := by simp [World.cell?, hbx]
      have l3 : w10.cell? ⟨b17, 3, none⟩ = some (.int .u32 4) := by simp [World.cell?, hbx]
      clear hbx
      go_upto_region 18 with fail
      have F11 : Hid (FrameAt (fun _ => False) w w1 (w10.setCell ⟨b17, 2, none⟩ (.int .u32 v)) A q4 [⟨b17, #[.int .u32 1, .int .u32 2, .int .u32 v, .int .u32 4], 32⟩, ⟨b15, (Ent.cells ⟨n, 4, 0, 0, 1, 2, v, 4, false, false⟩).toArray, 65⟩]) := F10.out.setCell 0 b17 _ _ rfl 2 (.int .u32 v)
      clear F10 hfz l0 l1 l2 l3
      generalize w10.setCell _ _ = w11 at *
      have hbx := F11.out.at 0 rfl
      obtain ⟨-, e1, -, -, e4, e5, e6, e7, -, -⟩ := box_cells (F11.out.at 1 rfl)
      have he := fun w : World => eqLine_same 1 2 v 4 w
      have l0 : w11.cell? ⟨b17, 0, none⟩ = some (.int .u32 1) := by simp [World.cell?, hbx]
      have l1 : w11.cell? ⟨b17, 1, none⟩ = some (.int .u32 2) := by simp [World.cell?, hbx]
      have l2 : w11.cell? ⟨b17, 2, none⟩ = some (.int .u32 v) := by simp [World.cell?, hbx]
      have l3 : w11.cell? ⟨b17, 3, none⟩ = some (.int .u32 4) := by simp [World.cell?, hbx]
      clear hbx
      go_wp2_with fail
      clear he e1 e4 e5 e6 e7 l0 l1 l2 l3
      obtain ⟨a1, a2⟩ := has_noword H4.out (d := 4) (by omega) v
      have HW := write_is F11.out.cache ad HS.out n 4 v
      rw [a1, a2] at HW
      refine HW.mono ?_
      clear HW
      rintro r w12 ⟨rfl, hA, hk⟩
      have F12 := Lib.hid (F11.out.step hA hk)
      clear hA hk F11
      clear a1 a2
      go_wp2_with fail
      obtain ⟨a1, a2⟩ := has_noword H4.out (d := (-1)) (by omega) v
      have HW := write_is F12.out.cache ad HS.out n (-1) v
      rw [a1, a2] at HW
      refine HW.mono ?_
      clear HW
      rintro r w13 ⟨rfl, hA, hk⟩
      have F13 := Lib.hid (F12.out.step hA hk)
      clear hA hk F12
      clear a1 a2
      go_wp2_with fail
      refine (cacheRuns_is w13 ad (HS.out.of_below F13.out.based)).mono ?_
      rintro r wz ⟨rfl, hb⟩
      have HZ := Lib.hid (F13.out.based.trans (hb.mono F13.out.based.size))
      clear hb F13
      go_wp2
      go_ret
      exact ⟨rfl, HZ.out⟩
    · clear HD4
      obtain ⟨a1, a3⟩ := has_write H3.out rfl (wd := 3) (v := v) (by omega) (by omega) rfl
      have H4 : Hid (Has _ 0 n ⟨n, 4, 0, 0, 1, 2, 3, v, false, false⟩ []) := a3
      have HW := write_is F6.out.cache ad HS.out n 3 v
      rw [a1] at HW
      refine HW.mono ?_
      clear HW
      rintro r w7 ⟨rfl, hA, hk⟩
      have F7 := Lib.hid (F6.out.step hA hk)
      clear hA hk F6
      clear a1 a3 H3
      generalize writeTo _ _ _ _ = q4 at *
      go_wp2_with fail
      have hpk := H4.out.at'
      have HW := peek_is F7.out.cache n
      rw [hpk] at HW
      simp only [Option.getD_some, Option.isSome_some, Ent.val] at HW
      refine HW.mono ?_
      clear HW
      rintro r w8 ⟨rfl, hb⟩
      have F8 := Lib.hid (F7.out.below hb)
      clear hb F7
      clear hpk
      go_upto_region 12 with fail
      generalize hW : w8.alloc _ = w9
      have F9 := Lib.hid (F8.out.layAs (cs := (Ent.cells ⟨n, 4, 0, 0, 1, 2, 3, v, false, false⟩).toArray) (t := 65) hW)
      clear hW F8
      generalize w8.heap.size = b15 at *
      go_upto_region 13 with fail
      generalize hW : w9.alloc _ = w10
      have F10 := Lib.hid (F9.out.layAs (cs := #[.int .u32 1, .int .u32 2, .int .u32 3, .int .u32 4]) (t := 32) hW)
      clear hW F9
      generalize w9.heap.size = b17 at *
      have hbx := F10.out.at 0 rfl
      have hfz : ∀ c, w10.frozen? ⟨b17, c, none⟩ = false := fun c => nofreeze hbx
      have l0 : w10.cell? ⟨b17, 0, none⟩ = some (.int .u32 1) := by simp [World.cell?, hbx]
      have l1 : w10.cell? ⟨b17, 1, none⟩ = some (.int .u32 2) := by simp [World.cell?, hbx]
      have l2 : w10.cell? ⟨b17, 2, none⟩ = some (.int .u32 3) := by simp [World.cell?, hbx]
      have l3 : w10.cell? ⟨b17, 3, none⟩ = some (.int .u32 4) := by simp [World.cell?, hbx]
      clear hbx
      go_upto_region 18 with fail
      have F11 : Hid (FrameAt (fun _ => False) w w1 (w10.setCell ⟨b17, 3, none⟩ (.int .u32 v)) A q4 [⟨b17, #[.int .u32 1, .int .u32 2, .int .u32 3, .int .u32 v], 32⟩, ⟨b15, (Ent.cells ⟨n, 4, 0, 0, 1, 2, 3, v, false, false⟩).toArray, 65⟩]) := F10.out.setCell 0 b17 _ _ rfl 3 (.int .u32 v)
      clear F10 hfz l0 l1 l2 l3
      generalize w10.setCell _ _ = w11 at *
      have hbx := F11.out.at 0 rfl
      obtain ⟨-, e1, -, -, e4, e5, e6, e7, -, -⟩ := box_cells (F11.out.at 1 rfl)
      have he := fun w : World => eqLine_same 1 2 3 v w
      have l0 : w11.cell? ⟨b17, 0, none⟩ = some (.int .u32 1) := by simp [World.cell?, hbx]
      have l1 : w11.cell? ⟨b17, 1, none⟩ = some (.int .u32 2) := by simp [World.cell?, hbx]
      have l2 : w11.cell? ⟨b17, 2, none⟩ = some (.int .u32 3) := by simp [World.cell?, hbx]
      have l3 : w11.cell? ⟨b17, 3, none⟩ = some (.int .u32 v) := by simp [World.cell?, hbx]
      clear hbx
      go_wp2_with fail
      clear he e1 e4 e5 e6 e7 l0 l1 l2 l3
      obtain ⟨a1, a2⟩ := has_noword H4.out (d := 4) (by omega) v
      have HW := write_is F11.out.cache ad HS.out n 4 v
      rw [a1, a2] at HW
      refine HW.mono ?_
      clear HW
      rintro r w12 ⟨rfl, hA, hk⟩
      have F12 := Lib.hid (F11.out.step hA hk)
      clear hA hk F11
      clear a1 a2
      go_wp2_with fail
      obtain ⟨a1, a2⟩ := has_noword H4.out (d := (-1)) (by omega) v
      have HW := write_is F12.out.cache ad HS.out n (-1) v
      rw [a1, a2] at HW
      refine HW.mono ?_
      clear HW
      rintro r w13 ⟨rfl, hA, hk⟩
      have F13 := Lib.hid (F12.out.step hA hk)
      clear hA hk F12
      clear a1 a2
      go_wp2_with fail
      refine (cacheRuns_is w13 ad (HS.out.of_below F13.out.based)).mono ?_
      rintro r wz ⟨rfl, hb⟩
      have HZ := Lib.hid (F13.out.based.trans (hb.mono F13.out.based.size))
      clear hb F13
      go_wp2
      go_ret
      exact ⟨rfl, HZ.out⟩
end Go.Proofs.YtfaihaknibmcpaaGreatDoor
