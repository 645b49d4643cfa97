/- The law CacheRoom, walked. CacheRoom: whatever is asked for and answered, forwarded and taken, each answer to what is under way finds room; never is more under way than Mshrs. Whatever the configuration and the calls, whatever the world, the package variables as the program's text lays them. The row and the card. -/
import Derived.Test.YtfaihaknibmcpaaGreatDoorNewLaw
import Derived.Test.YtfaihaknibmcpaaGreatDoorRoomLaw
import Derived.Test.YtfaihaknibmcpaaGreatDoorArgs
import Derived.Deep.RegionHeld3
import Derived.Deep.MidRow
import Derived.IntWalk
import Derived.Test.YtfaihaknibmcpaaGreatDoorRowKit
import Derived.ProofKit
import Derived.OpenShut
import Derived.ShutString
import Derived.ChangeOld
import Derived.SizedLaws
namespace Go.Proofs.YtfaihaknibmcpaaGreatDoor
open Go.RowKit Go.Extern.Stop Go.Stop Go.Extern

/-- A struct is read out of an array's element. -/
theorem wpList_load_elem {P : Program} {ops : Array Oper} {rest : List Oper} {op : Oper} {a : Act} {w : World} {Q : Exit → Act → World → Prop} (hgd : op.guard = none) (ty : TypeId) (x : Operand) (ho : op.op = .load ty x)
    (y : Addr) (hx : a.eval x = .pointer (some y)) (vs : Array Value) (d : TypeDesc) (hc : ∀ j v, vs.toList[j]? = some v → w.cell? (y.add j) = some v)
    (hu : P.underlying ty = some d) (hd : d.isRow = true) (hi : (P.info? ty).map (·.size) = some vs.size)
    (h : wpList P ops Q rest (a.put op.dst (.agg vs)) w) : wpList P ops Q (op :: rest) a w := by
  refine wpList_plain hgd fun K hK => ?_
  obtain ⟨cs⟩ := vs
  have hl : (loadCells y cs.length).run P w = .ok cs.toArray w := run_loadCells_list (P := P) w y cs hc
  have hv : (loadVar ty y).run P w = .ok (.agg ⟨cs⟩) w := by
    cases hq : P.info? ty with
    | none => simp [hq] at hi
    | some i =>
      have hs : i.size = cs.length := by simpa [hq] using hi
      have hagg : (isAgg ty).run P w = .ok true w := by
        unfold isAgg
        rw [Sem.run_bind, run_underlying hu w]
        cases d <;> simp_all
      simp [loadVar, Sem.run_bind, hagg, sizeOf, typeInfo, hq, hs, hl]
  unfold Oper.wp execOp
  simp only [ho, hx, Instr.loadAt, Instr.sureAddr, Sem.run_bind, Sem.run_pure, Result.andThen_ok, hv]
  exact hK _ _ h
theorem Tryz.sizeCall : (Tryz.prog.info? 52).map (·.size) = some 18 := by kernel_rfl
theorem CallAt.elem {w : World} {x : Addr} {i : Nat} {q : Ask14} (h : CallAt w x i q) : ∀ j v, q.cells[j]? = some v → w.cell? ((x.add (i * 18)).add j) = some v := fun j v hv => by
  rw [Go.Deep.add_add]
  exact h j v hv

theorem nk_facts {n kw : Nat} (hn : n = 1 ∨ n = 2) (hk : kw = 1 ∨ kw = 2) : ∃ NK : Nat, n * kw = NK ∧ NK ≤ 4 ∧ wrap64 ((n : Int) * (kw : Int)) = (NK : Int) ∧ IntKind.i64.wrap ((n : Int) * (kw : Int)) = (NK : Int) := by
  rcases hn with rfl | rfl <;> rcases hk with rfl | rfl
  · exact ⟨1, rfl, by omega, by kernel_rfl, by kernel_rfl⟩
  · exact ⟨2, rfl, by omega, by kernel_rfl, by kernel_rfl⟩
  · exact ⟨2, rfl, by omega, by kernel_rfl, by kernel_rfl⟩
  · exact ⟨4, rfl, by omega, by kernel_rfl, by kernel_rfl⟩
theorem less_no {a b : Nat} (h : b ≤ a) : decide ((a : Int) < (b : Int)) = false ∧ decide (a < b) = false ∧ ((a : Int) < (b : Int)) = False ∧ (a < b) = False := by
  have h1 : ¬ ((a : Int) < (b : Int)) := by omega
  have h2 : ¬ (a < b) := by omega
  exact ⟨decide_eq_false h1, decide_eq_false h2, eq_false h1, eq_false h2⟩
theorem miss_cells {w : World} {g : Nat} {x y : Int} {t : TypeId} (h : w.heap[g]? = some (.cells #[.int .i64 x, .int .i64 y] t (0, 0))) : w.cell? ⟨g, 0, none⟩ = some (.int .i64 x) ∧ w.cell? ⟨g, 1, none⟩ = some (.int .i64 y) := by
  simp [World.cell?, h]
theorem call_cells {w : World} {g : Nat} {q : Ask14} {t : TypeId} (h : w.heap[g]? = some (.cells q.cells.toArray t (0, 0))) :
    w.cell? ⟨g, 0, none⟩ = some (.int .i64 q.kind) ∧ w.cell? ⟨g, 1, none⟩ = some (.int .i64 q.line) ∧ w.cell? ⟨g, 2, none⟩ = some (.int .i64 q.word) ∧ w.cell? ⟨g, 3, none⟩ = some (.int .i64 q.miss) ∧ w.cell? ⟨g, 4, none⟩ = some (.int .u32 q.value) := by
  simp [World.cell?, h, Ask14.cells]
set_option maxRecDepth 100000 in
set_option maxHeartbeats 8000000 in
theorem cacheRoom_is (cf : Cfg) (A1 : Option Addr) (len1 cap1 : Nat) (w : World) (hrow : IsCalls w A1 len1) (ad : Nat → Addr) (HSE : Sents w ad) :
    Calls Tryz.prog 5 #[cf.val, .slice A1 len1 cap1] w fun e w' => e = .returned (.bool true) ∧ Below w.heap.size w w' := by
  have HS := Lib.hid HSE
  have HZ := Lib.hid hrow
  clear HSE hrow
  obtain ⟨cf', n, kw, m, o, ln, ⟨hln, l1, l6, mm1, mm3⟩, hbad, hs, hk, hm, ho, o1, o4, hn, hkw, C1⟩ := config_more cf
  have HC := Lib.hid (small_is cf cf' C1)
  have HN : Hid (n = 1 ∨ n = 2) := hn
  have HW : Hid (kw = 1 ∨ kw = 2) := hkw
  have HN0 : Hid (0 < n) := by show 0 < n; omega
  have HNW : Hid (∀ w ad, Sents w ad → _) := fun w ad S => new_ok cf' 0 n kw m hbad hs hk hm (by omega) (by rw [ho]; omega) w ad S
  obtain ⟨q1, q2, q3, q4, q5, q6, q7, q8, q9⟩ := cf
  obtain ⟨z1, z2, z3, z4, z5, z6, z7, z8, z9⟩ := cf'
  have hln : z2 = ln := hln
  have hs : z3 = (n : Nat) := hs
  have hk : z4 = (kw : Nat) := hk
  have hm : z5 = (m : Nat) := hm
  subst hln hs hk hm
  clear C1 hn hkw hbad ho
  simp only [Cfg.val] at *
  go_enter Tryz.func5, Tryz.ntmps5
  go_wp2_with fail
  generalize hW : w.alloc _ = wa
  have hb0 : Below w.heap.size w wa := by rw [← hW]; exact (Below.refl _ _).alloc (Nat.le_refl _) _
  have hbx : wa.heap[w.heap.size]? = some (.cells (Cfg.cells ⟨q1, q2, q3, q4, q5, q6, q7, q8, q9⟩).toArray 29 (0, 0)) := by rw [← hW]; exact heap_alloc_new _ _
  have HB0 := Lib.hid hb0
  clear hW hbx hb0
  refine (HC.out _).mono ?_
  rintro r wcc ⟨rfl, hb⟩
  have HB1 := Lib.hid (HB0.out.trans (hb.mono HB0.out.size))
  clear hb HC HB0
  go_upto_region 2 with fail
  generalize hW : wcc.alloc _ = wd
  have hbx : wd.heap[wcc.heap.size]? = some (.cells (Cfg.cells ⟨z1, z2, (n : Nat), (kw : Nat), (m : Nat), z6, z7, z8, z9⟩).toArray 29 (0, 0)) := by rw [← hW]; exact heap_alloc_new _ _
  have HB2 : Hid (Below w.heap.size w wd) := by rw [← hW]; exact HB1.out.alloc HB1.out.size _
  clear hW HB1
  have HCF : Hid (∀ wx, Below wd.heap.size wd wx → wx.cell? ⟨wcc.heap.size, 1, none⟩ = some (.int .i64 z2) ∧ wx.cell? ⟨wcc.heap.size, 2, none⟩ = some (.int .i64 (n : Nat)) ∧ wx.cell? ⟨wcc.heap.size, 3, none⟩ = some (.int .i64 (kw : Nat)) ∧ wx.cell? ⟨wcc.heap.size, 4, none⟩ = some (.int .i64 (m : Nat))) := fun wx hb => by
    have hy := cfg_cells ((hb.block _ (lt_of_heap hbx)).trans hbx)
    exact ⟨hy.2.1, hy.2.2.1, hy.2.2.2.1, hy.2.2.2.2.1⟩
  obtain ⟨m0, m1, m2, m3, m4, m5, m6, m7, m8⟩ := cfg_cells hbx
  clear hbx
  simp only at m0 m1 m2 m3 m4 m5 m6 m7 m8
  have HSD := Lib.hid (HS.out.of_below HB2.out)
  clear HS
  generalize wcc.heap.size = b5 at *
  go_wp2_with fail
  refine (HNW.out _ ad HSD.out).mono ?_
  rintro r w1 ⟨A, g, rfl, hC⟩
  have F1 : Hid (FrameAt (fun _ => False) wd w1 w1 A (nS 0 n kw m g) []) := FrameAt.start hC
  have R1 : Hid (RoomOk n kw m (nS 0 n kw m g)) := room_new g n kw m HN0.out
  clear hC HNW m0 m1 m2 m3 m4 m5 m6 m7 m8
  generalize nS 0 n kw m g = qs at *
  go_wp2_with fail
  go_loopw [8] (fun v wr => ∃ (i : Nat) (q : CSt), i ≤ 60 ∧ v = .int .i64 i ∧ Hid (RoomOk n kw m q) ∧ Hid (FrameAt (fun _ => False) wd w1 wr A q [])) (fun v _ => 60 - (intOf v).toNat)
  case atStart => exact ⟨0, _, by omega, rfl, R1, F1⟩
  case round =>
    clear F1 R1
    obtain ⟨i, q, hi, rfl, RQ, F1⟩ := hrel
    have RQ : Hid _ := RQ
    have F1 : Hid _ := F1
    by_cases hlt : i < len1
    · by_cases h60 : i < 60
      · obtain ⟨x, ⟨k, l, wo, ms, v, ⟨M0, M1, M2, M3, M4, M5, M6, M7, M8, M9, M10, M11, M12⟩⟩, rfl, hcells⟩ := HZ.out i hlt
        have hbw := HB2.out.trans (F1.out.based.mono HB2.out.size)
        have HCC : Hid (∀ j u, (#[.int .i64 k, .int .i64 l, .int .i64 wo, .int .i64 ms, .int .u32 v, .int .i64 M0, .int .i64 M1, .int .i64 M2, .int .i64 M3, .int .i64 M4, .int .i64 M5, .int .i64 M6, .int .u32 M7, .int .u32 M8, .int .u32 M9, .int .u32 M10, .int .u32 M11, .bool M12] : Array Value).toList[j]? = some u → wr.cell? ((x.add (i * 18)).add j) = some u) := fun j u hu => by
          have h := hcells.elem j u hu
          exact (hbw.cell (cell_lt h)).trans h
        clear hcells hbw
        go_upto_region 9 with (refine wpList_load_elem rfl 52 (.tmp 55) rfl (x.add (i * 18)) rfl #[.int .i64 k, .int .i64 l, .int .i64 wo, .int .i64 ms, .int .u32 v, .int .i64 M0, .int .i64 M1, .int .i64 M2, .int .i64 M3, .int .i64 M4, .int .i64 M5, .int .i64 M6, .int .u32 M7, .int .u32 M8, .int .u32 M9, .int .u32 M10, .int .u32 M11, .bool M12] _ HCC.out Tryz.underlying52 rfl Tryz.sizeCall ?_)
        generalize hWA : wr.alloc _ = w2
        have F2 := Lib.hid (F1.out.layAs (cs := (Ask14.cells ⟨k, l, wo, ms, v, ⟨M0, M1, M2, M3, M4, M5, M6, M7, M8, M9, M10, M11, M12⟩⟩).toArray) (t := 52) hWA)
        clear hWA F1 HCC
        generalize wr.heap.size = b9 at *
        obtain ⟨c1, -, -, -⟩ := HCF.out w2 F2.out.based
        obtain ⟨e0, e1, -, -, -⟩ := call_cells (F2.out.at 0 rfl)
        simp only at e0 e1
        obtain ⟨x1, x10, x11, X1⟩ := within_int l (z2 - 1) (by omega)
        obtain ⟨x2, x20, X2⟩ := within_nat k 3 (by omega)
        have HX1 := Lib.hid X1
        have HX2 := Lib.hid X2
        clear X1 X2
        have hw0 : wrap64 (z2 - 1) = z2 - 1 := by unfold wrap64; omega
        go_wp2_with fail
        refine (HX1.out _).mono ?_
        rintro r wx ⟨rfl, rfl⟩
        go_wp2_with fail
        refine (HX2.out _).mono ?_
        rintro r wx ⟨rfl, rfl⟩
        clear HX1 HX2 hw0 e0 e1 c1
        have HXL : Hid (isLine x1 = true) := (isLine_iff x1).2 ⟨x10, by omega⟩
        go_upto_block 2 with fail
        go_cut [] (fun wx => ∃ q' : CSt, Hid (RoomOk n kw m q') ∧ Hid (FrameAt (fun _ => False) wd w1 wx A q' []))
        case first =>
          rcases (show x2 = 0 ∨ x2 = 1 ∨ x2 = 2 ∨ x2 = 3 by omega) with rfl | rfl | rfl | rfl
          · as_aux_lemma =>
              obtain ⟨-, -, -, e3, -⟩ := call_cells (F2.out.at 0 rfl)
              simp only at e3
              obtain ⟨x3, x30, X3⟩ := within_nat ms 1 (by omega)
              have HX3 := Lib.hid X3
              clear X3
              have hw0 : wrap64 ((x3 : Int) + 1) = (x3 : Int) + 1 := by unfold wrap64; omega
              go_wp2_with fail
              refine (HX3.out _).mono ?_
              rintro r wx ⟨rfl, rfl⟩
              go_wp2_with fail
              have HW := want_is F2.out.cache ad HSD.out x1 ((x3 : Int) + 1) 0 0
              have R3 := Lib.hid (RQ.out.want HXL.out (kind := (x3 : Int) + 1) (by omega))
              refine HW.mono ?_
              clear HW
              rintro r w3 ⟨rfl, hA, hk⟩
              have F3 := Lib.hid (F2.out.step hA hk)
              clear hA hk F2 RQ HX3 hw0 e3
              generalize wantSays q x1 ((x3 : Int) + 1) 0 0 = M at *
              generalize wantErr ad q x1 ((x3 : Int) + 1) 0 = E at *
              generalize wantTo q x1 ((x3 : Int) + 1) 0 = q' at *
              go_wp2_with fail
              go_meet
              exact ⟨q', R3, F3.out.rest⟩
          · as_aux_lemma =>
              go_wp2_with fail
              refine (misses_is F2.out.cache).mono ?_
              rintro r w3 ⟨v', rfl, hr, -, hb⟩
              obtain ⟨AM, cM, rfl, hm⟩ := hr.form
              have HMR := Lib.hid hm
              have F3 := Lib.hid (F2.out.below hb)
              have hLm := RQ.out.few
              obtain ⟨L, hL⟩ : ∃ L : Nat, q.l.length = L := ⟨_, rfl⟩
              have HL := Lib.hid hL
              rw [hL] at hLm ⊢
              clear hr hb hm hL F2
              by_cases h0 : L = 0
              · subst h0
                go_wp2_with fail
                go_roundw
                case rel => exact ⟨i + 1, q, by omega, by go_num, RQ, F3.out.rest⟩
                case measure => simp [intOf]; omega
              · obtain ⟨x4, x40, X4⟩ := within_nat wo ((L : Int) - 1) (by omega)
                have HX4 := Lib.hid X4
                obtain ⟨⟨px, pk⟩, hp⟩ : ∃ p, q.l[x4]? = some p := ⟨_, List.getElem?_eq_getElem (by have := HL.out; omega)⟩
                obtain ⟨gM, rfl, k0, k1⟩ := HMR.out x4 _ hp
                have HPM := Lib.hid (List.mem_of_getElem? hp)
                obtain ⟨⟨px0, px1⟩, hpk⟩ := RQ.out.kinds _ HPM.out
                simp only at px0 px1 hpk k0 k1
                clear X4 hp HMR
                obtain ⟨-, -, e2, -, -⟩ := call_cells (F3.out.at 0 rfl)
                simp only at e2
                have hw0 : wrap64 ((L : Int) - 1) = (L : Int) - 1 := by unfold wrap64; omega
                have h0' : ¬ (L : Int) = 0 := by omega
                have x4L : (x4 : Int) < L := by omega
                have x4N : x4 < L := by omega
                go_wp2_with fail
                refine (HX4.out _).mono ?_
                rintro r w3 ⟨rfl, rfl⟩
                clear HX4
                go_upto_region 17 with fail
                generalize hWA : w3.alloc _ = w4
                have F4 := Lib.hid (F3.out.layAs (cs := #[.int .i64 px, .int .i64 pk]) (t := 63) hWA)
                clear hWA F3 k0 k1 hw0 e2 h0'
                generalize w3.heap.size = b12 at *
                obtain ⟨d0, d1⟩ := miss_cells (F4.out.at 0 rfl)
                rcases hpk with rfl | rfl | rfl
                · as_aux_lemma =>
                    obtain ⟨-, -, -, -, e4⟩ := call_cells (F4.out.at 1 rfl)
                    simp only at e4
                    go_wp2_with fail
                    refine (data_is px 1 v 0 0 0 _).mono ?_
                    rintro r w5 ⟨rfl, hb⟩
                    have F5 := Lib.hid (F4.out.below hb)
                    clear hb F4
                    go_wp2_with fail
                    have HW := answer_is F5.out.cache ad HSD.out (dataM px 1 v 0 0 0)
                    obtain ⟨g1, g2, g3, g4⟩ := RQ.out.data F5.out.cache.rise HPM.out (by simp) (s := 1) (v := v) (by omega)
                    simp only at g1 g2 g3 g4
                    rw [g1, g2] at HW
                    have RB := Lib.hid g3
                    have HG4 := Lib.hid g4
                    clear g1 g2 g3 g4
                    generalize answerTo q (dataM px 1 v 0 0 0) = qb at *
                    simp only [Mg.val, Mg.zero] at HW
                    refine HW.mono ?_
                    clear HW
                    rintro r w6 ⟨rfl, hA, hk⟩
                    have F6 := Lib.hid (F5.out.step hA hk)
                    clear hA hk F5 RQ
                    go_upto_region 28 with fail
                    generalize hWA : w6.alloc _ = w7
                    have F7 := Lib.hid (F6.out.layAs (cs := (Mg.cells ⟨12, 0, px, 0, 0, 0, 0, 0, 0, 0, 0, 0, false⟩).toArray) (t := 34) hWA)
                    clear hWA F6 e4
                    generalize w6.heap.size = b18 at *
                    obtain ⟨n0, -, n2, -, -, -, -, -, -, -, -, -, -⟩ := msg_cells (F7.out.at 0 rfl)
                    obtain ⟨d0, d1⟩ := miss_cells (F7.out.at 1 rfl)
                    simp only at n0 n2
                    go_wp2_with fail
                    have HW := peek_is F7.out.cache px
                    rw [HG4.out] at HW
                    simp only [Option.getD_some, Option.isSome_some, Ent.val] at HW
                    refine HW.mono ?_
                    clear HW
                    rintro r w8 ⟨rfl, hb⟩
                    have F8 := Lib.hid (F7.out.below hb)
                    clear hb F7 n0 n2 d0 d1 HG4
                    go_upto_region 31 with fail
                    generalize hWA : w8.alloc _ = w9
                    have F9 := Lib.hid (F8.out.layAs (cs := (Ent.cells ⟨px, 1, 0, 0, v, 0, 0, 0, false, true⟩).toArray) (t := 65) hWA)
                    clear hWA F8
                    generalize w8.heap.size = b20 at *
                    obtain ⟨-, f1, -, -, -, -, -, -, -, f9⟩ := box_cells (F9.out.at 0 rfl)
                    go_wp2_with fail
                    go_meet
                    exact ⟨qb, RB, F9.out.rest.rest.rest.rest⟩
                · as_aux_lemma =>
                    obtain ⟨-, -, -, -, e4⟩ := call_cells (F4.out.at 1 rfl)
                    simp only at e4
                    go_wp2_with fail
                    refine (data_is px 4 v 0 0 0 _).mono ?_
                    rintro r w5 ⟨rfl, hb⟩
                    have F5 := Lib.hid (F4.out.below hb)
                    clear hb F4
                    go_wp2_with fail
                    have HW := answer_is F5.out.cache ad HSD.out (dataM px 4 v 0 0 0)
                    obtain ⟨g1, g2, g3, g4⟩ := RQ.out.data F5.out.cache.rise HPM.out (by simp) (s := 4) (v := v) (by omega)
                    simp only at g1 g2 g3 g4
                    rw [g1, g2] at HW
                    have RB := Lib.hid g3
                    have HG4 := Lib.hid g4
                    clear g1 g2 g3 g4
                    generalize answerTo q (dataM px 4 v 0 0 0) = qb at *
                    simp only [Mg.val, Mg.zero] at HW
                    refine HW.mono ?_
                    clear HW
                    rintro r w6 ⟨rfl, hA, hk⟩
                    have F6 := Lib.hid (F5.out.step hA hk)
                    clear hA hk F5 RQ
                    go_upto_region 28 with fail
                    generalize hWA : w6.alloc _ = w7
                    have F7 := Lib.hid (F6.out.layAs (cs := (Mg.cells ⟨12, 0, px, 0, 0, 0, 0, 0, 0, 0, 0, 0, false⟩).toArray) (t := 34) hWA)
                    clear hWA F6 e4
                    generalize w6.heap.size = b18 at *
                    obtain ⟨n0, -, n2, -, -, -, -, -, -, -, -, -, -⟩ := msg_cells (F7.out.at 0 rfl)
                    obtain ⟨d0, d1⟩ := miss_cells (F7.out.at 1 rfl)
                    simp only at n0 n2
                    go_wp2_with fail
                    have HW := peek_is F7.out.cache px
                    rw [HG4.out] at HW
                    simp only [Option.getD_some, Option.isSome_some, Ent.val] at HW
                    refine HW.mono ?_
                    clear HW
                    rintro r w8 ⟨rfl, hb⟩
                    have F8 := Lib.hid (F7.out.below hb)
                    clear hb F7 n0 n2 d0 d1 HG4
                    go_upto_region 31 with fail
                    generalize hWA : w8.alloc _ = w9
                    have F9 := Lib.hid (F8.out.layAs (cs := (Ent.cells ⟨px, 4, 0, 0, v, 0, 0, 0, false, true⟩).toArray) (t := 65) hWA)
                    clear hWA F8
                    generalize w8.heap.size = b20 at *
                    obtain ⟨-, f1, -, -, -, -, -, -, -, f9⟩ := box_cells (F9.out.at 0 rfl)
                    go_wp2_with fail
                    go_meet
                    exact ⟨qb, RB, F9.out.rest.rest.rest.rest⟩
                · as_aux_lemma =>
                    go_wp2_with fail
                    have HW := peek_is F4.out.cache px
                    have HF0 : Hid (∀ e, getS (readTo q px 0).S px = some e → e.f = true → False) := fun e he hf => by
                      have := (RQ.out.read px).2.2.2.2 e he
                      rw [this] at hf
                      cases hf
                    cases his : (getS q.S px).isSome
                    all_goals
                      rw [his] at HW
                      generalize (getS q.S px).getD Ent.none = e at *
                      obtain ⟨E0, E1, E2, E3, E4, E5, E6, E7, E8, E9⟩ := e
                      simp only [Ent.val] at HW
                      refine HW.mono ?_
                      clear HW
                      rintro r w5 ⟨rfl, hb⟩
                      have F5 := Lib.hid (F4.out.below hb)
                      clear hb F4
                      go_upto_region 19 with fail
                      generalize hWA : w5.alloc _ = w6
                      have F6 := Lib.hid (F5.out.skip hWA)
                      clear hWA F5
                      obtain ⟨d0, d1⟩ := miss_cells (F6.out.at 0 rfl)
                    · have HIS := Lib.hid his
                      clear his HF0
                      go_wp2_with fail
                      have HF : Hid (∀ e, getS q.S px = some e → e.f = true → False) := fun e he _ => by
                        have := HIS.out
                        rw [he] at this
                        cases this
                      have FA := F6
                      have RA := RQ
                      clear F6 RQ HIS
                      generalize q = qa at *
                      have HW := forward_is FA.out.cache ad HSD.out ⟨10, 0, px, 0, 0, 0, 0, 0, 0, 0, 0, 0, false⟩
                      obtain ⟨g1, -, g3⟩ := fwd_facts RA.out FA.out.cache.rise (x := px) (kd := 10) (by omega) ⟨by omega, by omega⟩
                      rw [isSome_fresh HF.out] at g1
                      rw [g1] at HW
                      have RB := Lib.hid g3
                      clear g1 g3
                      generalize forwardSays qa ⟨10, 0, px, 0, 0, 0, 0, 0, 0, 0, 0, 0, false⟩ = M at *
                      generalize forwardTo qa ⟨10, 0, px, 0, 0, 0, 0, 0, 0, 0, 0, 0, false⟩ = qb at *
                      obtain ⟨N0, N1, N2, N3, N4, N5, N6, N7, N8, N9, N10, N11, N12⟩ := M
                      simp only [Mg.val, Bool.not_false] at HW
                      refine HW.mono ?_
                      clear HW
                      rintro r w7 ⟨rfl, hA, hk⟩
                      have FB := Lib.hid (FA.out.step hA hk)
                      clear hA hk FA RA HF
                      go_upto_region 22 with fail
                      generalize hWA : w7.alloc _ = w8
                      have FC := Lib.hid (FB.out.skip hWA)
                      clear hWA FB
                      go_wp2_with fail
                      go_roundw
                      case rel => exact ⟨i + 1, qb, by omega, by go_num, RB, FC.out.rest.rest⟩
                      case measure => simp [intOf]; omega

                    · clear his
                      go_wp2_with fail
                      obtain ⟨r1, r2, r3, r4, r5⟩ := RQ.out.read px
                      have HW := read_is F6.out.cache ad HSD.out px 0
                      refine HW.mono ?_
                      clear HW
                      rintro r w9 ⟨rfl, hA, hk⟩
                      have FA := Lib.hid (F6.out.step hA hk)
                      have RA := Lib.hid r3
                      have HF := HF0
                      clear hA hk F6 RQ HF0 r1 r2 r3 r4 r5
                      generalize readTo q px 0 = qa at *
                      generalize readV q px 0 = rv at *
                      generalize okE (getS q.S px) 0 = ro at *
                      clear d0 d1
                      obtain ⟨d0, d1⟩ := miss_cells (FA.out.at 0 rfl)
                      go_wp2_with fail
                      have HW := forward_is FA.out.cache ad HSD.out ⟨10, 0, px, 0, 0, 0, 0, 0, 0, 0, 0, 0, false⟩
                      obtain ⟨g1, -, g3⟩ := fwd_facts RA.out FA.out.cache.rise (x := px) (kd := 10) (by omega) ⟨by omega, by omega⟩
                      rw [isSome_fresh HF.out] at g1
                      rw [g1] at HW
                      have RB := Lib.hid g3
                      clear g1 g3
                      generalize forwardSays qa ⟨10, 0, px, 0, 0, 0, 0, 0, 0, 0, 0, 0, false⟩ = M at *
                      generalize forwardTo qa ⟨10, 0, px, 0, 0, 0, 0, 0, 0, 0, 0, 0, false⟩ = qb at *
                      obtain ⟨N0, N1, N2, N3, N4, N5, N6, N7, N8, N9, N10, N11, N12⟩ := M
                      simp only [Mg.val, Bool.not_false] at HW
                      refine HW.mono ?_
                      clear HW
                      rintro r w7 ⟨rfl, hA, hk⟩
                      have FB := Lib.hid (FA.out.step hA hk)
                      clear hA hk FA RA HF
                      go_upto_region 22 with fail
                      generalize hWA : w7.alloc _ = w8
                      have FC := Lib.hid (FB.out.skip hWA)
                      clear hWA FB
                      go_wp2_with fail
                      go_roundw
                      case rel => exact ⟨i + 1, qb, by omega, by go_num, RB, FC.out.rest.rest⟩
                      case measure => simp [intOf]; omega
          · as_aux_lemma =>
              go_wp2_with fail
              have HW := peek_is F2.out.cache x1
              obtain ⟨r1, r2, r3, -, -⟩ := RQ.out.read x1
              have R3 := Lib.hid r3
              cases his : (getS q.S x1).isSome
              all_goals
                rw [his] at HW r1
                generalize (getS q.S x1).getD Ent.none = e at *
                obtain ⟨E0, E1, E2, E3, E4, E5, E6, E7, E8, E9⟩ := e
                simp only [Ent.val] at HW
                have HR1 := Lib.hid r1
                refine HW.mono ?_
                clear HW r1
                rintro r w3 ⟨rfl, hb⟩
                have F3 := Lib.hid (F2.out.below hb)
                clear hb F2
                go_upto_region 35 with fail
                generalize hWA : w3.alloc _ = w4
                have F4 := Lib.hid (F3.out.skip hWA)
                clear hWA F3
              · have HR2 := Lib.hid (r2 his)
                clear r2 r3 his
                go_wp2_with fail
                have HW := read_is F4.out.cache ad HSD.out x1 0
                rw [HR1.out, HR2.out] at HW
                generalize readTo q x1 0 = q' at *
                refine HW.mono ?_
                clear HW HR1 HR2
                rintro r w5 ⟨rfl, hA, hk⟩
                have F5 := Lib.hid (F4.out.step hA hk)
                clear hA hk F4
                go_wp2_with fail
                go_meet
                exact ⟨q', R3, F5.out.rest⟩
              · clear r2 r3 his
                go_wp2_with fail
                have HW := read_is F4.out.cache ad HSD.out x1 0
                rw [HR1.out] at HW
                generalize readTo q x1 0 = q' at *
                generalize readV q x1 0 = rv at *
                refine HW.mono ?_
                clear HW HR1
                rintro r w5 ⟨rfl, hA, hk⟩
                have F5 := Lib.hid (F4.out.step hA hk)
                clear hA hk F4
                go_wp2_with fail
                go_meet
                exact ⟨q', R3, F5.out.rest⟩
          · as_aux_lemma =>
              go_wp2_with fail
              have HW := peek_is F2.out.cache x1
              obtain ⟨g1, g2, g3⟩ := fwd_facts RQ.out F2.out.cache.rise (x := x1) (kd := 6) (by omega) ⟨by omega, by omega⟩
              have RB := Lib.hid g3
              clear g3
              cases his : (getS q.S x1).isSome
              all_goals
                rw [his] at HW g1 g2
                generalize (getS q.S x1).getD Ent.none = e at *
                obtain ⟨E0, E1, E2, E3, E4, E5, E6, E7, E8, E9⟩ := e
                simp only [Ent.val] at HW
                simp only at g1
                have HG1 := Lib.hid g1
                rw [g1] at g2
                have HG3 : Hid (_ → (forwardSays q ⟨6, 0, x1, 0, 0, 0, 0, 0, 0, 0, 0, 0, false⟩).has = _) := g2
                refine HW.mono ?_
                clear HW g1 g2 his
                rintro r w3 ⟨rfl, hb⟩
                have F3 := Lib.hid (F2.out.below hb)
                clear hb F2
                go_upto_region 40 with fail
                generalize hWA : w3.alloc _ = w4
                have F4 := Lib.hid (F3.out.layAs (cs := (Ent.cells ⟨E0, E1, E2, E3, E4, E5, E6, E7, E8, E9⟩).toArray) (t := 65) hWA)
                clear hWA F3
                generalize w3.heap.size = b26 at *
                go_wp2_with fail
                have HW := forward_is F4.out.cache ad HSD.out ⟨6, 0, x1, 0, 0, 0, 0, 0, 0, 0, 0, 0, false⟩
                rw [HG1.out] at HW
                generalize forwardSays q ⟨6, 0, x1, 0, 0, 0, 0, 0, 0, 0, 0, 0, false⟩ = M at *
                generalize forwardTo q ⟨6, 0, x1, 0, 0, 0, 0, 0, 0, 0, 0, 0, false⟩ = qb at *
                obtain ⟨N0, N1, N2, N3, N4, N5, N6, N7, N8, N9, N10, N11, N12⟩ := M
                simp only [Mg.val] at HW
                have HG3 : Hid (_ → N12 = _) := HG3.out
                clear HG1
              · obtain rfl : N12 = false := HG3.out rfl
                clear HG3
                simp only [Bool.false_and, Bool.not_false] at HW
                refine HW.mono ?_
                clear HW
                rintro r w5 ⟨rfl, hA, hk⟩
                have F5 := Lib.hid (F4.out.step hA hk)
                clear hA hk F4
                go_upto_region 41 with fail
                generalize hWA : w5.alloc _ = w6
                have F6 := Lib.hid (F5.out.layAs (cs := (Mg.cells ⟨N0, N1, N2, N3, N4, N5, N6, N7, N8, N9, N10, N11, false⟩).toArray) (t := 34) hWA)
                clear hWA F5
                generalize w5.heap.size = b28 at *
                obtain ⟨-, -, -, -, -, -, -, -, -, -, -, -, n12⟩ := msg_cells (F6.out.at 0 rfl)
                obtain ⟨-, f1, -, -, -, -, -, -, -, f9⟩ := box_cells (F6.out.at 1 rfl)
                simp only at n12
                go_wp2_with fail
                go_meet
                exact ⟨qb, RB, F6.out.rest.rest.rest⟩

              · cases E9
                · by_cases hst : E1 = 4
                  · obtain rfl : N12 = true := (HG3.out rfl).trans (by simp [hst])
                    clear HG3
                    subst hst
                    simp only [Bool.and_false, Bool.not_false] at HW
                    refine HW.mono ?_
                    clear HW
                    rintro r w5 ⟨rfl, hA, hk⟩
                    have F5 := Lib.hid (F4.out.step hA hk)
                    clear hA hk F4
                    go_upto_region 41 with fail
                    generalize hWA : w5.alloc _ = w6
                    have F6 := Lib.hid (F5.out.layAs (cs := (Mg.cells ⟨N0, N1, N2, N3, N4, N5, N6, N7, N8, N9, N10, N11, true⟩).toArray) (t := 34) hWA)
                    clear hWA F5
                    generalize w5.heap.size = b28 at *
                    obtain ⟨-, -, -, -, -, -, -, -, -, -, -, -, n12⟩ := msg_cells (F6.out.at 0 rfl)
                    obtain ⟨-, f1, -, -, -, -, -, -, -, f9⟩ := box_cells (F6.out.at 1 rfl)
                    simp only at n12
                    go_wp2_with fail
                    go_meet
                    exact ⟨qb, RB, F6.out.rest.rest.rest⟩

                  · obtain rfl : N12 = false := (HG3.out rfl).trans (by simp [hst])
                    clear HG3
                    simp only [Bool.and_false, Bool.not_false] at HW
                    refine HW.mono ?_
                    clear HW
                    rintro r w5 ⟨rfl, hA, hk⟩
                    have F5 := Lib.hid (F4.out.step hA hk)
                    clear hA hk F4
                    go_upto_region 41 with fail
                    generalize hWA : w5.alloc _ = w6
                    have F6 := Lib.hid (F5.out.layAs (cs := (Mg.cells ⟨N0, N1, N2, N3, N4, N5, N6, N7, N8, N9, N10, N11, false⟩).toArray) (t := 34) hWA)
                    clear hWA F5
                    generalize w5.heap.size = b28 at *
                    obtain ⟨-, -, -, -, -, -, -, -, -, -, -, -, n12⟩ := msg_cells (F6.out.at 0 rfl)
                    obtain ⟨-, f1, -, -, -, -, -, -, -, f9⟩ := box_cells (F6.out.at 1 rfl)
                    simp only at n12
                    have hdst : decide (E1 = 4) = false := by simpa using hst
                    go_wp2_with fail
                    go_meet
                    exact ⟨qb, RB, F6.out.rest.rest.rest⟩

                · clear HG3
                  simp only [Bool.and_true, Bool.not_true] at HW
                  refine HW.mono ?_
                  clear HW
                  rintro r w5 ⟨rfl, hA, hk⟩
                  have F5 := Lib.hid (F4.out.step hA hk)
                  clear hA hk F4
                  go_upto_region 41 with fail
                  generalize hWA : w5.alloc _ = w6
                  have F6 := Lib.hid (F5.out.layAs (cs := (Mg.cells ⟨N0, N1, N2, N3, N4, N5, N6, N7, N8, N9, N10, N11, N12⟩).toArray) (t := 34) hWA)
                  clear hWA F5
                  generalize w5.heap.size = b28 at *
                  obtain ⟨-, -, -, -, -, -, -, -, -, -, -, -, n12⟩ := msg_cells (F6.out.at 0 rfl)
                  obtain ⟨-, f1, -, -, -, -, -, -, -, f9⟩ := box_cells (F6.out.at 1 rfl)
                  simp only at n12
                  go_wp2_with fail
                  go_meet
                  exact ⟨qb, RB, F6.out.rest.rest.rest⟩
        case rest =>
          as_aux_lemma =>
            obtain ⟨q', RQ2, F3⟩ := hcut
            have RQ2 : Hid _ := RQ2
            have F3 : Hid _ := F3
            clear F2 RQ HXL
            have hl0 := RQ2.out.few
            have hu0 := usedIn_le kw q'.S (fun s hs => by have := F3.out.cache.arr.arr.len s hs; rw [RQ2.out.k] at this; exact this)
            rw [F3.out.cache.len, RQ2.out.n] at hu0
            have hm1 : ∀ wx, Below wc.heap.size wc wx → _ := fun wx hb => misses_is (F3.out.below hb).cache
            have he1 : ∀ wx, Below wc.heap.size wc wx → _ := fun wx hb => entries_is (F3.out.below hb).cache
            have hS : ∀ wx, Below wc.heap.size wc wx → _ := fun wx hb => HCF.out wx (F3.out.based.trans (hb.mono F3.out.based.size))
            obtain ⟨-, c2, c3, c4⟩ := hS wc (Below.refl _ _)
            generalize hL : q'.l.length = L at *
            generalize hE : (usedIn q'.S).length = E at *
            have HM : Hid (∀ wx, Below wc.heap.size wc wx → Calls Tryz.prog 15 #[.pointer (some ⟨A.c, 0, none⟩)] wx fun e w' => ∃ AM cM, e = .returned (.slice AM L cM) ∧ Below wc.heap.size wc w' ∧ w'.cell? ⟨b5, 2, none⟩ = some (.int .i64 (n : Nat)) ∧ w'.cell? ⟨b5, 3, none⟩ = some (.int .i64 (kw : Nat)) ∧ w'.cell? ⟨b5, 4, none⟩ = some (.int .i64 (m : Nat))) := fun wx hb => (hm1 wx hb).mono fun e w' ⟨v, he, hr, _, hb'⟩ => by
              obtain ⟨AM, cM, hv⟩ := hr.many hL
              have hb2 := hb.trans (hb'.mono hb.size)
              obtain ⟨-, y2, y3, y4⟩ := hS w' hb2
              exact ⟨AM, cM, by rw [he, hv], hb2, y2, y3, y4⟩
            have HE : Hid (∀ wx, Below wc.heap.size wc wx → Calls Tryz.prog 16 #[.pointer (some ⟨A.c, 0, none⟩)] wx fun e w' => ∃ AM cM, e = .returned (.slice AM E cM) ∧ Below wc.heap.size wc w' ∧ w'.cell? ⟨b5, 2, none⟩ = some (.int .i64 (n : Nat)) ∧ w'.cell? ⟨b5, 3, none⟩ = some (.int .i64 (kw : Nat)) ∧ w'.cell? ⟨b5, 4, none⟩ = some (.int .i64 (m : Nat))) := fun wx hb => (he1 wx hb).mono fun e w' ⟨v, he, hr, hb'⟩ => by
              obtain ⟨AM, cM, hv⟩ := hr.shape
              rw [hE] at hv
              have hb2 := hb.trans (hb'.mono hb.size)
              obtain ⟨-, y2, y3, y4⟩ := hS w' hb2
              exact ⟨AM, cM, by rw [he, hv], hb2, y2, y3, y4⟩
            obtain ⟨NK, hNK, hN4, hw1, hw2⟩ := nk_facts HN.out HW.out
            rw [hNK] at hu0
            obtain ⟨hd1, hd3, hd5, hd7⟩ := less_no hl0
            obtain ⟨hd2, hd4, hd6, hd8⟩ := less_no hu0
            clear hm1 he1 hS hL hE hNK hl0 hu0 HCF
            go_upto_region 43 with fail
            first
              | (go_region_held3 (fun w' => w'.cell? ⟨b5, 2, none⟩ = some (.int .i64 (n : Nat)) ∧ w'.cell? ⟨b5, 3, none⟩ = some (.int .i64 (kw : Nat)) ∧ w'.cell? ⟨b5, 4, none⟩ = some (.int .i64 (m : Nat))) (go_keep) (first | (go_at_call 15; refine (HM.out _ ?_).mono ?_; (repeat (first | exact Below.refl _ _ | refine Below.drew ?_)); rintro r w6 ⟨AM, cM, rfl, hb6, p2, p3, p4⟩; have H6 := Lib.hid hb6; clear hb6) | (go_at_call 16; refine (HE.out _ ?_).mono ?_; (exact H6.out); rintro r w7 ⟨AE, cE, rfl, hb7, s2, s3, s4⟩; have H7 := Lib.hid hb7; clear hb7 H6)))
              | fail
            clear HM HE hd1 hd2 hd3 hd4 hd5 hd6 hd7 hd8 hw1 hw2
            go_wp2_with fail
            go_roundw
            case rel => exact ⟨i + 1, q', by omega, by go_num, RQ2, F3.out.below H7.out⟩
            case measure => simp [intOf]; omega
      · as_aux_lemma =>
          go_wp2_with fail
          refine (cacheRuns_is wr ad (HSD.out.of_below F1.out.based)).mono ?_
          rintro r wz ⟨rfl, hb⟩
          have HZZ := Lib.hid (HB2.out.trans ((F1.out.based.trans (hb.mono F1.out.based.size)).mono HB2.out.size))
          clear hb F1
          go_wp2
          go_ret
          exact ⟨rfl, HZZ.out⟩
    · as_aux_lemma =>
        go_wp2_with fail
        refine (cacheRuns_is wr ad (HSD.out.of_below F1.out.based)).mono ?_
        rintro r wz ⟨rfl, hb⟩
        have HZZ := Lib.hid (HB2.out.trans ((F1.out.based.trans (hb.mono F1.out.based.size)).mono HB2.out.size))
        clear hb F1
        go_wp2
        go_ret
        exact ⟨rfl, HZZ.out⟩
end Go.Proofs.YtfaihaknibmcpaaGreatDoor
namespace Go.Proofs.YtfaihaknibmcpaaGreatDoor
open Go.ChangeShapes Go.WideShapes Go.RowKit
set_option maxRecDepth 100000 in
theorem cacheRoom_lifted (os : Os) (started : os.Started) (H : Type) (enc : TypeId × Value → H) :
    ReturnsInHanded {} Tryz.checked os 5 .any (fun w args => (Rows.cacheRoomSpec.pre enc Tryz.prog Tryz.f5 [] false w args ∧ laidMetH Tryz.prog laidList w) ∧ sizedMet enc Tryz.prog Tryz.f5 (OpenSpec.ofChange Rows.cacheRoomSpec) false w args)
      (Rows.cacheRoomSpec.post enc Tryz.prog Tryz.f5 false true false false) := by
  refine returnsInHanded_of_change_and (C := Tryz.checked) (X := fun w _ => laidMetH Tryz.prog laidList w) (fun _ _ _ hh h => h.of_heap hh) Tryz.own1 started (by kernel_rfl) Tryz.func5
    (ChangeSpec.witness_at (enc := enc) (C := Tryz.checked) (os := os) (X := fun w _ => laidMetH Tryz.prog laidList w) false (laidWorld os) #[.agg #[.int .i64 0, .int .i64 0, .int .i64 0, .int .i64 0, .int .i64 0, .int .i64 0, .int .i64 0, .int .i64 0, .int .i64 0], .slice none 0 0] 8 rfl (by kernel_rfl) (by kernel_rfl) (by kernel_rfl) (by kernel_rfl) (by kernel_rfl) (laidWorld_met os _)) ?_
  intro W base args ds gs before hval0 hW _ hsz0 hL _
  have hval : ∀ (j : Nat) t v, Tryz.f5.params[j]? = some t → args[j]? = some v → Value.okWide Tryz.prog W .any base t v := hval0
  have hsz : (DataW.weightsEach Tryz.prog (Tryz.f5.params.toList ++ Rows.cacheRoomSpec.plain.varTypes Tryz.prog) (ds ++ gs)).all (· ≤ reachBytes) = true := hsz0
  have hW' := hW
  obtain ⟨p, q, hA0, hV0, rfl, hfz, hnd⟩ := hW
  have hA : DataW.TrodAll enc Tryz.prog W 0 (fun _ => true) true Tryz.f5.params.toList args.toList ds p := hA0
  rw [Tryz.params5] at hA hval hsz
  obtain ⟨v0, vs0, d0, ds0, p0, q0, hargs, rfl, rfl, h0, r0⟩ := trodAll_cons hA
  obtain ⟨v1, vs1, d1, ds1, p1, q1, rfl, rfl, rfl, h1, r1⟩ := trodAll_cons r0
  obtain ⟨rfl, rfl, rfl⟩ := trodAll_nil r1
  obtain rfl : args = #[v0, v1] := by cases args; simp_all
  obtain ⟨rfl, rfl⟩ := trodVars_none hV0
  have u0 := hval 0 29 v0 rfl rfl
  obtain ⟨a0, rfl⟩ := cfg_of u0 h0
  have k0 := h0
  have lt0 : ∀ x ∈ p0, x.block < W.heap.size := by obtain ⟨m, hm⟩ := k0; exact DataW.trod_lt m _ _ _ hm
  obtain ⟨a1, len1, cap1, rfl⟩ := okWide_slice Tryz.underlying45 (hval 1 45 v1 rfl rfl)
  have k1 := h1
  have lt1 : ∀ x ∈ p1, x.block < W.heap.size := by obtain ⟨m, hm⟩ := k1; exact DataW.trod_lt m _ _ _ hm
  have w1 := asks_of k1
  clear hA0 hval0 hsz0 hsz
  refine (cacheRoom_is a0 a1 len1 cap1 W w1 _ (sents_of_laid hL (handle_of_laid hL))).mono fun e W' ⟨he, bel⟩ => ?_
  subst he
  exact ⟨_, rfl, _, _, _, [], _, [], hW', trodAll_mk1 (shut_bool Tryz.underlying4 _), (trodAll_cons_mk (Below.trod laidOut (by kernel_rfl) (of_decide_eq_true (by kernel_rfl)) k0 bel lt0) (trodAll_cons_mk (Below.trod laidOut (by kernel_rfl) (of_decide_eq_true (by kernel_rfl)) k1 bel lt1) trodAll_mk0)), rfl, bel.frame _, fun h => by cases h⟩
theorem cacheRoom_row : Rows.CacheRoomSaid :=
  OpenClaim.holds_of_wide 5 Tryz.f5 rfl rfl rfl rfl rfl rfl rfl ⟨rfl, rfl, rfl, rfl, rfl⟩ rfl rfl rfl rfl rfl (by kernel_rfl) Tryz.func5 (by kernel_rfl)
    (of_decide_eq_true (by kernel_rfl)) (by unfold Func.isWrapper; rw [if_neg (of_decide_eq_false (by kernel_rfl))]; exact ⟨rfl, rfl⟩)
    (fun os started H enc _ => cacheRoom_lifted os started H enc)
theorem cacheRoom_holds : Rows.CacheRoomCardSaid :=
  Claim7.holds_tied_plain_at .later [] [.handle, .sentinel, .sentinel, .sentinel, .sentinel, .sentinel, .sentinel, .sentinel, .sentinel, .sentinel, .sentinel] true (true, "adfb8931d7f5ffe053594f98c23235e2300657f464eb78fdacdcb433702c79f6") true
    cacheRoom_row (fun _ h => by cases h) (by kernel_rfl) (fun _ h => by cases h) cacheRoom_row_tie rfl ⟨rfl, rfl⟩ (by kernel_rfl) rfl
    (fun f fn hf hfn => by
      obtain rfl : f = 5 := Option.some.inj ((show Tryz.prog.funcNamed "assent/assentlaw14.CacheRoom" = some 5 by kernel_rfl).symm.trans hf) |>.symm
      obtain rfl : fn = Tryz.f5 := (Option.some.inj (Tryz.func5.symm.trans hfn)).symm
      exact ⟨by kernel_rfl, fun j t ht => by
        rw [Tryz.params5] at ht
        rcases j with _ | _ | j
        · have h3 : t = 29 := by simpa using ht.symm
          subst h3
          exact (show Tryz.prog.wantsStandIn 29 = false by kernel_rfl)
        · have h3 : t = 45 := by simpa using ht.symm
          subst h3
          exact (show Tryz.prog.wantsStandIn 45 = false by kernel_rfl)
        · simp at ht⟩)
    (by kernel_rfl)
#print axioms cacheRoom_holds
end Go.Proofs.YtfaihaknibmcpaaGreatDoor
