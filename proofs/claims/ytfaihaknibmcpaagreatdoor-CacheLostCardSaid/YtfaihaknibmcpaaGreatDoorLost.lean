/- The law CacheLost, walked. -/
import Derived.Test.YtfaihaknibmcpaaGreatDoorOne
import Derived.Test.YtfaihaknibmcpaaGreatDoorRuns
namespace Go.Proofs.YtfaihaknibmcpaaGreatDoor
open Go.RowKit Go.Extern.Stop Go.Stop Go.Extern

theorem l_right {n s l0 l1 l2 l3 : Int} (hs : s = 1 ∨ s = 2 ∨ s = 4) (f : Bool) : rightE ⟨n, s, 0, 0, l0, l1, l2, l3, false, f⟩ = true := by simp [rightE]; omega
theorem only_want (x : Int) (k : Nat) (ad : Nat → Addr) (w : World) (h1 : 1 ≤ k) (h2 : k ≤ 10) (S : Sents w ad) : Calls Tryz.prog 14 #[faultIn x (sentV (ad k)), .int .i64 k] w fun e w' => e = .returned (.bool true) ∧ Below w.heap.size w w' := only_one _ x k ad w h1 h2 S
theorem o_busy (g : Nat) (n x : Int) (hn : isLine n = true) (hx : isLine x = true) (hne : n ≠ x) (v : Int) (ad : Nat → Addr) :
    wantTo (oneQ g 1 Ent.none [(n, 2)]) x 1 0 = oneQ g 1 Ent.none [(n, 2)] ∧ wantSays (oneQ g 1 Ent.none [(n, 2)]) x 1 0 v = Mg.zero ∧ wantErr ad (oneQ g 1 Ent.none [(n, 2)]) x 1 0 = faultIn x (sentV (ad 7)) := by
  have hxi := (isLine_iff x).1 hx
  have hni := (isLine_iff n).1 hn
  refine want_no v ad (want_absent (bad_no hxi.1 (by omega) (by omega) (by omega) (by omega) (by omega)) ?_ (sole_none hx rfl) ?_)
  · show has x [(n, 2)] = false
    simp [has]
    omega
  · show List.any [(n, 2)] (awayB _ x) = true
    have hg : getS (oneQ g 1 Ent.none [(n, 2)]).S n = none := sole_none hn rfl
    simp only [List.any_cons, List.any_nil, Bool.or_false]
    unfold awayB
    rw [hg]
    show (true && (setNo 1 n == setNo 1 x)) = true
    unfold setNo
    rw [if_pos hni, if_pos hxi]
    simp [Nat.mod_one]
theorem o_inval (g : Nat) (n d0 d1 d2 d3 : Int) (hx : isLine n = true) :
    forwardOk (oneQ g 1 ⟨n, 1, 0, 0, d0, d1, d2, d3, false, false⟩ [(n, 2)]) ⟨6, 0, n, 0, 0, 0, 0, 0, 0, 0, 0, 0, false⟩ = true ∧ forwardSays (oneQ g 1 ⟨n, 1, 0, 0, d0, d1, d2, d3, false, false⟩ [(n, 2)]) ⟨6, 0, n, 0, 0, 0, 0, 0, 0, 0, 0, 0, false⟩ = ⟨11, 0, n, 0, 0, 0, 0, 0, 0, 0, 0, 0, false⟩ ∧ forwardTo (oneQ g 1 ⟨n, 1, 0, 0, d0, d1, d2, d3, false, false⟩ [(n, 2)]) ⟨6, 0, n, 0, 0, 0, 0, 0, 0, 0, 0, 0, false⟩ = oneQ g 1 Ent.none [(n, 2)] := by
  obtain ⟨r1, r2⟩ := right_fwd (k := 6) (c := 0) (x := n) (by omega) (by omega) ((isLine_iff n).1 hx)
  exact sole_forward (g := g) (m := 1) (l := [(n, 2)]) (e := ⟨n, 1, 0, 0, d0, d1, d2, d3, false, false⟩) hx rfl rfl rfl (M := ⟨6, 0, n, 0, 0, 0, 0, 0, 0, 0, 0, 0, false⟩) rfl r1 r2 rfl (fun h => absurd rfl h) rfl
set_option maxRecDepth 100000 in
set_option maxHeartbeats 8000000 in
theorem cacheLost_is (line b0 b1 b2 b3 c0 c1 c2 c3 : Int) (w : World) (ad : Nat → Addr) (HSE : Sents w ad) :
    Calls Tryz.prog 8 #[.int .i64 line, .agg #[.int .u32 b0, .int .u32 b1, .int .u32 b2, .int .u32 b3], .agg #[.int .u32 c0, .int .u32 c1, .int .u32 c2, .int .u32 c3]] w fun e w' => e = .returned (.bool true) ∧ Below w.heap.size w w' := by
  have HS := Lib.hid HSE
  clear HSE
  obtain ⟨n, n0, n31, N1⟩ := within_int line 31 (by omega)
  have HN := Lib.hid N1
  clear N1
  have HX : Hid (isLine n = true) := (isLine_iff n).2 ⟨n0, n31⟩
  obtain ⟨x, hx⟩ : ∃ x : Int, x = (n + 1) % 32 := ⟨_, rfl⟩
  have hxr : 0 ≤ x ∧ x ≤ 31 ∧ n ≠ x := by omega
  have HXX : Hid (isLine x = true ∧ n ≠ x) := ⟨(isLine_iff x).2 ⟨hxr.1, hxr.2.1⟩, hxr.2.2⟩
  have HXE := Lib.hid hx
  clear hx hxr
  go_enter Tryz.func8, Tryz.ntmps8
  go_wp2_with fail
  generalize hW : (w.alloc _).alloc _ = wa
  have hb0 : Below w.heap.size w wa := by rw [← hW]; exact ((Below.refl _ _).alloc (Nat.le_refl _) _).alloc (by simp) _
  have hbx : wa.heap[w.heap.size]? = some (.cells #[.int .u32 b0, .int .u32 b1, .int .u32 b2, .int .u32 b3] 32 (0, 0)) ∧ wa.heap[w.heap.size + 1]? = some (.cells #[.int .u32 c0, .int .u32 c1, .int .u32 c2, .int .u32 c3] 32 (0, 0)) := by
    rw [← hW]
    constructor
    · rw [((Below.refl (w.alloc (.cells #[.int .u32 b0, .int .u32 b1, .int .u32 b2, .int .u32 b3] 32)).heap.size _).alloc (Nat.le_refl _) _).block w.heap.size (by simp)]
      exact heap_alloc_new _ _
    · have := heap_alloc_new (w.alloc (.cells #[.int .u32 b0, .int .u32 b1, .int .u32 b2, .int .u32 b3] 32)) (.cells #[.int .u32 c0, .int .u32 c1, .int .u32 c2, .int .u32 c3] 32)
      simp only [World.size_alloc] at this
      exact this
  have HBX := Lib.hid hbx
  have HB0 := Lib.hid hb0
  have HSA := Lib.hid (HS.out.of_below hb0)
  clear hW hbx hb0
  obtain ⟨k4, hk4⟩ : ∃ b, b = w.heap.size := ⟨_, rfl⟩
  obtain ⟨k5, hk5⟩ : ∃ b, b = w.heap.size + 1 := ⟨_, rfl⟩
  rw [← hk5, ← hk4] at HBX
  have HLB : Hid (∀ w', Below wa.heap.size wa w' → (w'.cell? ⟨k4, 0, none⟩ = some (.int .u32 b0) ∧ w'.cell? ⟨k4, 1, none⟩ = some (.int .u32 b1) ∧ w'.cell? ⟨k4, 2, none⟩ = some (.int .u32 b2) ∧ w'.cell? ⟨k4, 3, none⟩ = some (.int .u32 b3)) ∧ w'.cell? ⟨k5, 0, none⟩ = some (.int .u32 c0) ∧ w'.cell? ⟨k5, 1, none⟩ = some (.int .u32 c1) ∧ w'.cell? ⟨k5, 2, none⟩ = some (.int .u32 c2) ∧ w'.cell? ⟨k5, 3, none⟩ = some (.int .u32 c3)) := fun w' hb => by
    have h1 := (hb.block k4 (lt_of_heap HBX.out.1)).trans HBX.out.1
    have h2 := (hb.block k5 (lt_of_heap HBX.out.2)).trans HBX.out.2
    simp [World.cell?, h1, h2]
  rw [← hk5, ← hk4]
  clear hk4 hk5
  refine (new_ok ⟨1, 32, 1, 1, 1, 1, 1, 1, 0⟩ 0 1 1 1 (by kernel_rfl) rfl rfl rfl (by omega) (by show (0 : Int) < 1; omega) wa ad HSA.out).mono ?_
  rintro r w1 ⟨A, g, rfl, hC⟩
  have F1 : Hid (FrameAt (fun _ => False) wa w1 w1 A (oneQ g 1 Ent.none []) []) := FrameAt.start hC
  clear hC
  go_wp2_with fail
  refine (HN.out _).mono ?_
  rintro r w1 ⟨rfl, rfl⟩
  clear HN
  go_wp2_with fail
  have HW := want_is F1.out.cache ad HSA.out n 1 0 0
  rw [(sole_want (g := g) (m := 1) (e := Ent.none) HX.out (kind := 1) 0 ad (by omega) (by omega) (by omega) (.inl rfl) (fun _ => rfl)).1] at HW
  refine HW.mono ?_
  clear HW
  rintro r w2 ⟨rfl, hA, hk⟩
  have F2 := Lib.hid (F1.out.step hA hk)
  clear hA hk F1
  obtain ⟨⟨q0, q1, q2, q3⟩, -⟩ := HLB.out w2 F2.out.based
  go_wp2_with fail
  clear q0 q1 q2 q3
  have HW := data_is n 1 b0 b1 b2 b3 w2
  simp only [Mg.val, dataM] at HW
  refine HW.mono ?_
  clear HW
  rintro r w3 ⟨rfl, hb⟩
  have F3 := Lib.hid (F2.out.below hb)
  clear hb F2
  go_wp2_with fail
  have a3 := (sole_data (g := g) (m := 1) (e := Ent.none) (l := [(n, 1)]) (x := n) (st := 1) (mo := 0) (ep := 0) (d0 := b0) (d1 := b1) (d2 := b2) (d3 := b3) HX.out (.inl rfl) (by omega) (by omega) (.inr rfl)).2.2
  rw [show dropOf n [(n, (1 : Int))] = [] by simp [dropOf]] at a3
  have HW := answer_is F3.out.cache ad HSA.out ⟨13, 0, n, 1, 0, 0, 0, 0, b0, b1, b2, b3, true⟩
  rw [a3] at HW
  simp only [Mg.val] at HW
  refine HW.mono ?_
  clear HW
  rintro r w4 ⟨rfl, hA, hk⟩
  have F4 := Lib.hid (F3.out.step hA hk)
  clear hA hk F3
  clear a3
  generalize answerSays _ _ = y3 at *
  generalize answerOk _ _ = o3 at *
  go_wp2_with fail
  obtain ⟨-, -, a3⟩ := sole_read (g := g) (m := 1) (l := []) HX.out rfl (l_right (n := n) (l0 := b0) (l1 := b1) (l2 := b2) (l3 := b3) (.inl rfl) true) rfl (wd := 0) (by omega) (by omega)
  have HW := read_is F4.out.cache ad HSA.out n 0
  rw [a3] at HW
  refine HW.mono ?_
  clear HW
  rintro r w5 ⟨rfl, hA, hk⟩
  have F5 := Lib.hid (F4.out.step hA hk)
  clear hA hk F4
  clear a3
  go_wp2_with fail
  obtain ⟨a1, a2, a3⟩ := sole_want (g := g) (m := 1) (e := ⟨n, 1, 0, 0, b0, b1, b2, b3, false, false⟩) HX.out (kind := 2) 0 ad (by omega) (by omega) (by omega) (.inr ⟨rfl, rfl, by omega⟩) (fun h => by cases h)
  have a2' : wantSays _ n 2 0 0 = ⟨2, 0, n, 0, 0, 0, 0, 0, 0, 0, 0, 0, false⟩ := a2
  have HW := want_is F5.out.cache ad HSA.out n 2 0 0
  rw [a1, a2', a3] at HW
  simp only [Mg.val] at HW
  refine HW.mono ?_
  clear HW
  rintro r w6 ⟨rfl, hA, hk⟩
  have F6 := Lib.hid (F5.out.step hA hk)
  clear hA hk F5
  clear a1 a2 a2' a3
  go_upto_region 9 with fail
  generalize hW : w6.alloc _ = w7
  have F7 := Lib.hid (F6.out.layAs (cs := (Mg.cells ⟨2, 0, n, 0, 0, 0, 0, 0, 0, 0, 0, 0, false⟩).toArray) (t := 34) hW)
  clear hW F6
  generalize w6.heap.size = b10 at *
  go_wp2_with fail
  obtain ⟨a1, a2, a3⟩ := o_inval g n b0 b1 b2 b3 HX.out
  have HW := forward_is F7.out.cache ad HSA.out ⟨6, 0, n, 0, 0, 0, 0, 0, 0, 0, 0, 0, false⟩
  rw [a1, a2, a3] at HW
  simp only [Mg.val] at HW
  refine HW.mono ?_
  clear HW
  rintro r w8 ⟨rfl, hA, hk⟩
  have F8 := Lib.hid (F7.out.step hA hk)
  clear hA hk F7
  clear a1 a2 a3
  go_upto_region 10 with fail
  generalize hW : w8.alloc _ = w9
  have F9 := Lib.hid (F8.out.layAs (cs := (Mg.cells ⟨11, 0, n, 0, 0, 0, 0, 0, 0, 0, 0, 0, false⟩).toArray) (t := 34) hW)
  clear hW F8
  generalize w8.heap.size = b12 at *
  go_wp2_with fail
  have hpk : getS (oneQ g 1 Ent.none [(n, 2)]).S n = none := sole_none HX.out rfl
  have HW := peek_is F9.out.cache n
  rw [hpk] at HW
  simp only [Option.getD_none, Option.isSome_none, Ent.val, Ent.none] at HW
  refine HW.mono ?_
  clear HW
  rintro r w10 ⟨rfl, hb⟩
  have F10 := Lib.hid (F9.out.below hb)
  clear hb F9
  clear hpk
  go_upto_region 11 with fail
  generalize hW : w10.alloc _ = w11
  have F11 := Lib.hid (F10.out.skip hW)
  clear hW F10
  have hr1 : Int.tmod (n + 1) 32 = x := by rw [Int.tmod_eq_emod_of_nonneg (by omega)]; exact HXE.out.symm
  have hr2 : (n + 1) % 32 = x := HXE.out.symm
  have hwn : wrap64 (n + 1) = n + 1 := by unfold wrap64; omega
  go_wp2_with fail
  clear hr1 hr2 hwn
  obtain ⟨a1, a2, a3⟩ := o_busy g n x HX.out HXX.out.1 HXX.out.2 0 ad
  have HW := want_is F11.out.cache ad HSA.out x 1 0 0
  rw [a1, a2, a3] at HW
  simp only [Mg.val, Mg.zero] at HW
  refine HW.mono ?_
  clear HW
  rintro r w12 ⟨rfl, hA, hk⟩
  have F12 := Lib.hid (F11.out.step hA hk)
  clear hA hk F11
  clear a1 a2 a3
  go_upto_region 12 with fail
  generalize hW : w12.alloc _ = w13
  have F13 := Lib.hid (F12.out.skip hW)
  clear hW F12
  obtain ⟨-, q0, q1, q2, q3⟩ := HLB.out w13 F13.out.based
  go_wp2_with fail
  clear q0 q1 q2 q3
  have HW := data_is n 4 c0 c1 c2 c3 w13
  simp only [Mg.val, dataM] at HW
  refine HW.mono ?_
  clear HW
  rintro r w14 ⟨rfl, hb⟩
  have F14 := Lib.hid (F13.out.below hb)
  clear hb F13
  go_wp2_with fail
  obtain ⟨a1, a2, a3⟩ := sole_data (g := g) (m := 1) (e := Ent.none) (l := [(n, 2)]) (x := n) (st := 4) (mo := 0) (ep := 0) (d0 := c0) (d1 := c1) (d2 := c2) (d3 := c3) HX.out (.inr (.inr rfl)) (by omega) (by omega) (.inr rfl)
  rw [show dropOf n [(n, (2 : Int))] = [] by simp [dropOf]] at a3
  have HW := answer_is F14.out.cache ad HSA.out ⟨13, 0, n, 4, 0, 0, 0, 0, c0, c1, c2, c3, true⟩
  rw [a1, a2, a3] at HW
  simp only [Mg.val, Mg.zero] at HW
  refine HW.mono ?_
  clear HW
  rintro r w15 ⟨rfl, hA, hk⟩
  have F15 := Lib.hid (F14.out.step hA hk)
  clear hA hk F14
  clear a1 a2 a3
  go_upto_region 13 with fail
  generalize hW : w15.alloc _ = w16
  have F16 := Lib.hid (F15.out.layAs (cs := (Mg.cells ⟨12, 0, n, 0, 0, 0, 0, 0, 0, 0, 0, 0, false⟩).toArray) (t := 34) hW)
  clear hW F15
  generalize w15.heap.size = b18 at *
  go_wp2_with fail
  have hpk := sole_at (g := g) (m := 1) (l := []) (e := ⟨n, 4, 0, 0, c0, c1, c2, c3, false, true⟩) HX.out rfl rfl
  have HW := peek_is F16.out.cache n
  rw [hpk] at HW
  simp only [Option.getD_some, Option.isSome_some, Ent.val] at HW
  refine HW.mono ?_
  clear HW
  rintro r w17 ⟨rfl, hb⟩
  have F17 := Lib.hid (F16.out.below hb)
  clear hb F16
  clear hpk
  go_upto_region 14 with fail
  generalize hW : w17.alloc _ = w18
  have F18 := Lib.hid (F17.out.layAs (cs := (Ent.cells ⟨n, 4, 0, 0, c0, c1, c2, c3, false, true⟩).toArray) (t := 65) hW)
  clear hW F17
  generalize w17.heap.size = b20 at *
  have he := fun w : World => eqMsg_same ⟨11, 0, n, 0, 0, 0, 0, 0, 0, 0, 0, 0, false⟩ w
  simp only [Mg.val] at he
  have hl := fun w : World => eqLine_same c0 c1 c2 c3 w
  obtain ⟨p0, -⟩ := msg_cells (F18.out.at 3 rfl)
  obtain ⟨r0, r1, r2, r3, r4, r5, r6, r7, r8, r9, r10, r11, r12⟩ := msg_cells (F18.out.at 2 rfl)
  go_wp2_with fail
  clear he r0 r1 r2 r3 r4 r5 r6 r7 r8 r9 r10 r11 r12 p0
  have HW := only_want x 7 ad w18 (by omega) (by omega) (HSA.out.of_below F18.out.based)
  refine HW.mono ?_
  clear HW
  rintro r w19 ⟨rfl, hb⟩
  have F19 := Lib.hid (F18.out.below hb)
  clear hb F18
  obtain ⟨s0, -⟩ := msg_cells (F19.out.at 1 rfl)
  obtain ⟨-, e1, -, -, e4, e5, e6, e7, -, -⟩ := box_cells (F19.out.at 0 rfl)
  obtain ⟨-, q0, q1, q2, q3⟩ := HLB.out w19 F19.out.based
  go_wp2_with fail
  clear hl s0 e1 e4 e5 e6 e7 q0 q1 q2 q3
  refine (cacheRuns_is w19 ad (HSA.out.of_below F19.out.based)).mono ?_
  rintro r wz ⟨rfl, hb⟩
  have HZ := Lib.hid (HB0.out.trans ((F19.out.based.trans (hb.mono F19.out.based.size)).mono HB0.out.size))
  clear hb F19
  go_wp2
  go_ret
  exact ⟨rfl, HZ.out⟩
end Go.Proofs.YtfaihaknibmcpaaGreatDoor
