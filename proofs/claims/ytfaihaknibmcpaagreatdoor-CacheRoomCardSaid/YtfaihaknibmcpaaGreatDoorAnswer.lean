/- A cache: Answer. -/
import Derived.Test.YtfaihaknibmcpaaGreatDoorFrame
import Derived.StillTailTactics
namespace Go.Proofs.YtfaihaknibmcpaaGreatDoor
open Go.RowKit Go.Extern.Stop Go.Stop Go.Extern Go.Proofs.YtfaihaknibmcpaaGreatDoor.PCacheFull Go.Proofs.YtfaihaknibmcpaaGreatDoorW.PrintWords

/-- What an answer of the home makes of an entry. -/
def ansE (m : Mg) (e : Ent) : Ent := if m.kind = 14 then setWordE { e with h := false } m.word m.value else if m.has then ⟨m.line, m.state, m.mode, m.epoch, m.d0, m.d1, m.d2, m.d3, false, true⟩ else ⟨m.line, m.state, m.mode, m.epoch, e.d0, e.d1, e.d2, e.d3, false, true⟩
def ansMine (q : CSt) (m : Mg) : Bool := mineB m 3 q.core
/-- Is it refused ahead of all else? -/
def ansNo (q : CSt) (m : Mg) : Bool := !(getS q.S m.line).isSome && !m.has
def ansEnt (q : CSt) (m : Mg) : Ent := ansE m ((getS q.S m.line).getD Ent.none)
def answerTo (q : CSt) (m : Mg) : CSt :=
  if ansMine q m then
    if m.kind = 15 then { q with l := dropOf m.line q.l }
    else if ansNo q m then q
    else if putCode q.S (ansEnt q m) = 0 then { q with S := touchS q.k (putS q.S (ansEnt q m)) m.line, l := dropOf m.line q.l }
    else q
  else q
def answerOk (q : CSt) (m : Mg) : Bool := ansMine q m && (decide (m.kind = 15) || (!ansNo q m && decide (putCode q.S (ansEnt q m) = 0)))
def answerSays (q : CSt) (m : Mg) : Mg := if ansMine q m && (decide (m.kind ≠ 15) && (!ansNo q m && decide (putCode q.S (ansEnt q m) = 0))) then { Mg.zero with kind := 12, core := q.core, line := m.line } else Mg.zero
theorem putS_refused {S : List SetSt} {e : Ent} (h : putCode S e ≠ 0) : putS S e = S := by
  unfold putCode at h
  unfold putS
  cases hs : setOf S e.line with
  | none => rfl
  | some s =>
    rw [hs] at h
    simp only [Option.bind_some] at h ⊢
    cases hp : placeE e.line s.es with
    | none => rfl
    | some j =>
      rw [hp] at h
      cases hr : rightE e with
      | false => simp
      | true => rw [hr] at h; simp at h
theorem putSays_ok {ad : Nat → Addr} {S : List SetSt} {e : Ent} (h : putCode S e = 0) : putSays ad S e = .nilIface := by unfold putSays; rw [if_pos h]
theorem putSays_no {ad : Nat → Addr} {S : List SetSt} {e : Ent} (h : putCode S e ≠ 0) : ∃ v, putSays ad S e = .iface 91 v := by unfold putSays faultV; rw [if_neg h]; exact ⟨_, rfl⟩
theorem right_word {m : Mg} (h : rightM m = true) : m.word = 0 ∨ m.word = 1 ∨ m.word = 2 ∨ m.word = 3 := by
  unfold rightM limitsB inB at h
  simp at h
  omega
section
variable {G : Nat → Prop} {w0 w : World} {A : CAddr} {q : CSt}
set_option maxRecDepth 100000 in
set_option maxHeartbeats 4000000 in
theorem answer_is (h : CacheAt G w0 w A q) (ad : Nat → Addr) (HSE : Sents w0 ad) (m : Mg) :
    Calls Tryz.prog 28 #[.pointer (some ⟨A.c, 0, none⟩), m.val] w fun e w' => e = .returned (.tuple #[(answerSays q m).val, .bool (answerOk q m)]) ∧ CacheAt G w0 w' A (answerTo q m) ∧ ∀ k, G k → w'.heap[k]? = w.heap[k]? := by
  have HS := Lib.hid HSE
  have F0 := Lib.hid (FrameAt.start h)
  clear h HSE
  have HT : Hid (answerTo q m = if ansMine q m then
    if m.kind = 15 then { q with l := dropOf m.line q.l }
    else if ansNo q m then q
    else if putCode q.S (ansEnt q m) = 0 then { q with S := touchS q.k (putS q.S (ansEnt q m)) m.line, l := dropOf m.line q.l }
    else q
  else q) := rfl
  have HO : Hid (answerOk q m = (ansMine q m && (decide (m.kind = 15) || (!ansNo q m && decide (putCode q.S (ansEnt q m) = 0))))) := rfl
  have HY : Hid (answerSays q m = if ansMine q m && (decide (m.kind ≠ 15) && (!ansNo q m && decide (putCode q.S (ansEnt q m) = 0))) then { Mg.zero with kind := 12, core := q.core, line := m.line } else Mg.zero) := rfl
  have HNO : Hid (ansNo q m = (!(getS q.S m.line).isSome && !m.has)) := rfl
  have HEN : Hid (ansEnt q m = ansE m ((getS q.S m.line).getD Ent.none)) := rfl
  have HWD : Hid (ansMine q m = true → m.word = 0 ∨ m.word = 1 ∨ m.word = 2 ∨ m.word = 3) := fun h => right_word (by unfold ansMine mineB at h; simp at h; exact h.1)
  generalize answerTo q m = rt at *
  generalize answerOk q m = ok at *
  generalize answerSays q m = sy at *
  have HMI : Hid (∀ w', CacheAt (fun k => G k ∨ InL ([] : List Loc) k) w0 w' A q → _) := fun w' h' => mine_is (w := w') h' m 3
  have HONE : Hid (∀ m : Mg, (m.cells.toArray.all fun x => x.oneCell') = true) := fun m => all_oneCell_toArray (msg_one m)
  go_enter Tryz.func28, Tryz.ntmps28
  obtain ⟨k, c, l, st, mo, ep, wd, v, d0, d1, d2, d3, hs⟩ := m
  simp only [Mg.val] at *
  go_wp2_with fail
  generalize hW : (w.alloc _).alloc _ = wa
  have F1 : Hid (FrameAt G w0 w wa A q [⟨w.heap.size + 1, Mg.zero.cells.toArray, 34⟩, ⟨w.heap.size, (Mg.cells ⟨k, c, l, st, mo, ep, wd, v, d0, d1, d2, d3, hs⟩).toArray, 34⟩]) := by
    rw [← hW]
    have f := (F0.out.push ((Below.refl _ _).alloc (Nat.le_refl _) _) w.heap.size (Mg.cells ⟨k, c, l, st, mo, ep, wd, v, d0, d1, d2, d3, hs⟩).toArray 34 (heap_alloc_new _ _) (Nat.le_refl _))
    refine f.push ((Below.refl _ _).alloc (Nat.le_refl _) _) (w.heap.size + 1) Mg.zero.cells.toArray 34 ?_ (by simp)
    have := heap_alloc_new (w.alloc (.cells (Mg.cells ⟨k, c, l, st, mo, ep, wd, v, d0, d1, d2, d3, hs⟩).toArray 34)) (.cells Mg.zero.cells.toArray 34)
    simp only [World.size_alloc] at this
    exact this
  clear hW F0 HMI
  have HMI : Hid (∀ w', Below wa.heap.size wa w' → _) := fun w' hb => mine_is (w := w') (F1.out.cache.below hb) ⟨k, c, l, st, mo, ep, wd, v, d0, d1, d2, d3, hs⟩ 3
  have HMN : Hid (mineB ⟨k, c, l, st, mo, ep, wd, v, d0, d1, d2, d3, hs⟩ 3 q.core = ansMine q ⟨k, c, l, st, mo, ep, wd, v, d0, d1, d2, d3, hs⟩) := rfl
  rw [HMN.out] at HMI
  clear HMN
  generalize w.heap.size + 1 = b4 at *
  generalize w.heap.size = b3 at *
  generalize ansMine q ⟨k, c, l, st, mo, ep, wd, v, d0, d1, d2, d3, hs⟩ = mn at *
  obtain ⟨m0, m1, m2, m3, m4, m5, m6, m7, m8, m9, m10, m11, m12⟩ := msg_cells (F1.out.at 1 rfl)
  go_wp2_with fail
  refine (HMI.out _ (Below.refl _ _)).mono ?_
  rintro r w1 ⟨rfl, hb⟩
  have F2 := Lib.hid (F1.out.below hb)
  clear hb F1 HMI m0 m1 m2 m3 m4 m5 m6 m7 m8 m9 m10 m11 m12
  cases mn with
  | false =>
    have e1 : sy = Mg.zero := HY.out
    have e2 : ok = false := HO.out
    have e3 : rt = q := HT.out
    subst e1 e2 e3
    clear HY HO HT HNO HEN HWD
    have h4 := F2.out.at 0 rfl
    go_wp2_with (refine wpList_store_row rfl 34 (.tmp 4) (.tmp 12) rfl b4 Mg.zero.cells.toArray rfl rfl 34 _ h4 Tryz.sizeMsg rfl (HONE.out _) ?_)
    have F3 := Lib.hid (F2.out.setRow 0 b4 _ _ rfl Mg.zero.cells.toArray)
    exact ⟨rfl, _, ret_msg Tryz.results28 _ _ _ _ rfl (F3.out.at 0 rfl) rfl, rfl, F3.out.finish.1, F3.out.finish.2⟩
  | true =>
    have hwd := HWD.out rfl
    have HGT : Hid (∀ w', Below w1.heap.size w1 w' → Calls Tryz.prog 38 #[.pointer (some ⟨A.a, 0, none⟩), .int .i64 l] w' fun x w'' => x = .returned (.tuple #[((getS q.S l).getD Ent.none).val, .bool (getS q.S l).isSome]) ∧ FrameAt G w0 w w'' A q [⟨b4, Mg.zero.cells.toArray, 34⟩, ⟨b3, (Mg.cells ⟨k, c, l, st, mo, ep, wd, v, d0, d1, d2, d3, hs⟩).toArray, 34⟩] ∧ Below w'.heap.size w' w'') := fun w' hb => (c_get (w := w') (F2.out.cache.below hb) l).mono fun e w'' hx => ⟨hx.1, (F2.out.below hb).below hx.2, hx.2⟩
    clear HWD
    obtain ⟨m0, m1, m2, m3, m4, m5, m6, m7, m8, m9, m10, m11, m12⟩ := msg_cells (F2.out.at 1 rfl)
    obtain ⟨-, -, c2, -⟩ := F2.out.cache.cells
    generalize getS q.S l = o at *
    generalize o.isSome = is at *
    generalize o.getD Ent.none = e at *
    obtain ⟨el, es, em, ee, e0, e1, e2, e3, eh, ef⟩ := e
    simp only [Ent.val] at *
    go_upto_region 3 with fail
    go_cut [6, 7] (fun u6 u7 wx => ∃ b6 : Nat, u6 = .pointer (some ⟨b6, 0, none⟩) ∧ u7 = .bool is ∧ Hid (FrameAt G w0 w wx A q [⟨b6, (Ent.cells ⟨el, es, em, ee, e0, e1, e2, e3, eh, ef⟩).toArray, 65⟩, ⟨b4, Mg.zero.cells.toArray, 34⟩, ⟨b3, (Mg.cells ⟨k, c, l, st, mo, ep, wd, v, d0, d1, d2, d3, hs⟩).toArray, 34⟩]))
    case first =>
      have n3 := lt_of_heap (F2.out.at 1 rfl)
      have nc := lt_of_heap F2.out.cache.box
      have hx : ∀ (W : World) (o : Nat) (u : Value), (W.setCell ⟨w1.heap.size, o, none⟩ u).cell? ⟨A.c, 2, none⟩ = W.cell? ⟨A.c, 2, none⟩ := fun W o u => World.cell?_setCell_other W _ _ u (by simp)
      have hy : ∀ (W : World) (o : Nat) (u : Value), (W.setCell ⟨w1.heap.size, o, none⟩ u).cell? ⟨b3, 2, none⟩ = W.cell? ⟨b3, 2, none⟩ := fun W o u => World.cell?_setCell_other W _ _ u (by simp)
      go_region_held3 (fun w' => w'.cell? ⟨A.c, 2, none⟩ = some (.pointer (some ⟨A.a, 0, none⟩)) ∧ w'.cell? ⟨b3, 2, none⟩ = some (.int .i64 l)) (go_keep)
        (first | (go_at_call 38; refine (HGT.out _ ?_).mono ?_; (repeat (first | exact Below.refl _ _ | refine Below.alloc ?_ (by simp) _ | refine Below.drew ?_)); rintro r w3 ⟨rfl, hf, hb⟩; have HB := Lib.hid hb; have p2 := hf.cache.cells.2.2.1; have p3 := (msg_cells (hf.at 1 rfl)).2.2.1; have F3 := Lib.hid hf; clear hf; (try (have hz := zero_after hb; have hfz : ∀ c, w3.frozen? ⟨w1.heap.size, c, none⟩ = false := fun c => nofreeze hz; obtain ⟨g0, g1, g2, g3, g4, g5, g6, g7, g8, g9⟩ := box_cells hz; clear hz)); clear hb))
      · go_wp2_with fail
        go_meet
        exact ⟨w3.heap.size, rfl, rfl, F3.out.push ((Below.refl _ _).alloc (Nat.le_refl _) _) w3.heap.size _ _ (heap_alloc_new _ _) (Nat.le_refl _)⟩
      · go_wp2_with fail
        go_meet
        exact ⟨w1.heap.size, rfl, rfl, (F2.out.made HB.out).fillE el es em ee e0 e1 e2 e3 eh ef⟩
    case rest =>
      obtain ⟨b6, rfl, rfl, F4⟩ := hcut
      have F4 : Hid _ := F4
      have HN2 : Hid (ansNo q ⟨k, c, l, st, mo, ep, wd, v, d0, d1, d2, d3, hs⟩ = (!is && !hs)) := by show _ = _; rw [HNO.out]
      have HE2 : Hid (ansEnt q ⟨k, c, l, st, mo, ep, wd, v, d0, d1, d2, d3, hs⟩ = ansE ⟨k, c, l, st, mo, ep, wd, v, d0, d1, d2, d3, hs⟩ ⟨el, es, em, ee, e0, e1, e2, e3, eh, ef⟩) := by show _ = _; rw [HEN.out]
      clear HNO HEN HGT F2
      generalize ansNo q ⟨k, c, l, st, mo, ep, wd, v, d0, d1, d2, d3, hs⟩ = no at *
      generalize ansEnt q ⟨k, c, l, st, mo, ep, wd, v, d0, d1, d2, d3, hs⟩ = en at *
      go_upto_block 0 with fail
      go_cut [] (fun wx => Hid (k ≠ 15) ∧ Hid (no = false) ∧ Hid (FrameAt G w0 w wx A q [⟨b6, en.cells.toArray, 65⟩, ⟨b4, Mg.zero.cells.toArray, 34⟩, ⟨b3, (Mg.cells ⟨k, c, l, st, mo, ep, wd, v, d0, d1, d2, d3, hs⟩).toArray, 34⟩]))
      case first =>
        obtain ⟨m0, m1, m2, m3, m4, m5, m6, m7, m8, m9, m10, m11, m12⟩ := msg_cells (F4.out.at 2 rfl)
        obtain ⟨-, -, c2, c3⟩ := F4.out.cache.cells
        by_cases hk : k = 15
        · have e1 : sy = Mg.zero := by rw [HY.out, hk]; simp
          have e2 : ok = true := by rw [HO.out, hk]; simp
          have e3 : rt = { q with l := dropOf l q.l } := by rw [HT.out, hk]; simp
          subst e1 e2 e3 hk
          clear HY HO HT HN2 HE2 c2
          go_wp2_with fail
          go_still_tail 6, (by kernel_rfl)
          change wpList _ _ _ _ _ wc.drew
          have F5 := Lib.hid F4.out.drew
          clear m0 m1 m2 m3 m4 m5 m6 m7 m8 m9 m10 m11 m12 c3 F4
          generalize wc.drew = w5 at *
          go_wp2_with fail
          refine (c_end F5.out.cache l).mono ?_
          rintro r w6 ⟨rfl, hA, hk⟩
          have F6 := Lib.hid (F5.out.step hA hk)
          clear hA hk F5
          have h4 := F6.out.at 1 rfl
          go_wp2_with (refine wpList_store_row rfl 34 (.tmp 4) (.tmp 50) rfl b4 Mg.zero.cells.toArray rfl rfl 34 _ h4 Tryz.sizeMsg rfl (HONE.out _) ?_)
          have F7 := Lib.hid (F6.out.setRow 1 b4 _ _ rfl Mg.zero.cells.toArray)
          exact ⟨rfl, _, ret_msg Tryz.results28 _ _ _ _ rfl (F7.out.at 1 rfl) rfl, rfl, F7.out.finish.1, F7.out.finish.2⟩
        · have kb : (k == 15) = false := by simpa using hk
          have KK := Lib.hid hk
          cases hno : no with
          | true =>
            have hh : is = false ∧ hs = false := by have := HN2.out; rw [hno] at this; simp at this; exact this
            obtain ⟨rfl, rfl⟩ := hh
            subst hno
            have e1 : sy = Mg.zero := by rw [HY.out]; simp
            have e2 : ok = false := by rw [HO.out]; simp [hk]
            have e3 : rt = q := by rw [HT.out]; simp [hk]
            subst e1 e2 e3
            clear HY HO HT HN2 HE2 c2 c3 KK
            have h4 := F4.out.at 1 rfl
            go_wp2_with (refine wpList_store_row rfl 34 (.tmp 4) (.tmp 59) rfl b4 Mg.zero.cells.toArray rfl rfl 34 _ h4 Tryz.sizeMsg rfl (HONE.out _) ?_)
            have F7 := Lib.hid (F4.out.setRow 1 b4 _ _ rfl Mg.zero.cells.toArray)
            exact ⟨rfl, _, ret_msg Tryz.results28 _ _ _ _ rfl (F7.out.at 1 rfl) rfl, rfl, F7.out.finish.1, F7.out.finish.2⟩
          | false =>
            have HNF := Lib.hid hno
            have hor : is = true ∨ hs = true := by have := HN2.out; rw [hno] at this; clear hno HN2; revert this; cases is <;> cases hs <;> simp
            clear hno HN2 HY HO HT c2 c3
            have hfz : ∀ c, wc.frozen? ⟨b6, c, none⟩ = false := fun c => nofreeze (F4.out.at 0 rfl)
            obtain ⟨g0, g1, g2, g3, g4, g5, g6, g7, g8, g9⟩ := box_cells (F4.out.at 0 rfl)
            by_cases h14 : k = 14
            · have hen : en = setWordE { (⟨el, es, em, ee, e0, e1, e2, e3, eh, ef⟩ : Ent) with h := false } wd v := by rw [HE2.out, h14]; rfl
              have HEN := Lib.hid hen
              subst h14
              clear HE2 hen
              cases is
              all_goals cases hs
              all_goals try (exfalso; simp at hor; done)
              all_goals
                rcases hwd with rfl | rfl | rfl | rfl
              all_goals
                go_wp2_with fail
                go_meet
                refine ⟨KK, HNF, ?_⟩
                rw [HEN.out]
                exact (F4.out.setCell 0 b6 _ _ rfl 8 (.bool false)).setCell 0 b6 _ _ rfl _ (.int .u32 v)
            · have k14 : (k == 14) = false := by simpa using h14
              cases hs with
              | false =>
                have hen : en = ⟨l, st, mo, ep, e0, e1, e2, e3, false, true⟩ := by rw [HE2.out]; unfold ansE; simp only [if_neg h14]; rfl
                have HEN := Lib.hid hen
                clear HE2 hen
                have h6 := F4.out.at 0 rfl
                have HO2 : Hid _ := all_oneCell_toArray (ent_one ⟨l, st, mo, ep, e0, e1, e2, e3, false, true⟩)
                cases is with
                | false => exfalso; simp at hor
                | true =>
                  go_wp2_with (refine wpList_store_row rfl 65 (.tmp 6) (.tmp 38) rfl b6 (Ent.cells ⟨l, st, mo, ep, e0, e1, e2, e3, false, true⟩).toArray rfl rfl 65 _ h6 Tryz.sizeEnt rfl HO2.out ?_)
                  go_meet
                  refine ⟨KK, HNF, ?_⟩
                  rw [HEN.out]
                  exact F4.out.setRow 0 b6 _ _ rfl _
              | true =>
                have hen : en = ⟨l, st, mo, ep, d0, d1, d2, d3, false, true⟩ := by rw [HE2.out]; unfold ansE; simp only [if_neg h14]; rfl
                have HEN := Lib.hid hen
                clear HE2 hen
                have F5 := Lib.hid (F4.out.dataE d0 d1 d2 d3)
                have n63 : b6 ≠ b3 := by
                  have h1 := F4.out.nodup
                  simp only [List.pairwise_cons, List.mem_cons, List.not_mem_nil, or_false] at h1
                  exact h1.1 _ (.inr rfl)
                have hy : ∀ (W : World) (o j : Nat) (u : Value), (W.setCell ⟨b6, o, none⟩ u).cell? ⟨b3, j, none⟩ = W.cell? ⟨b3, j, none⟩ := fun W o j u => World.cell?_setCell_other W _ _ u (by simp )
                have h6 := F5.out.at 0 rfl
                have HO2 : Hid _ := all_oneCell_toArray (ent_one ⟨l, st, mo, ep, d0, d1, d2, d3, false, true⟩)
                cases is
                all_goals
                  go_upto_region 6 with fail
                  go_wp2_with (refine wpList_store_row rfl 65 (.tmp 6) (.tmp 38) rfl b6 (Ent.cells ⟨l, st, mo, ep, d0, d1, d2, d3, false, true⟩).toArray rfl rfl 65 _ h6 Tryz.sizeEnt rfl HO2.out ?_)
                  go_meet
                  refine ⟨KK, HNF, ?_⟩
                  rw [HEN.out]
                  exact F5.out.setRow 0 b6 _ _ rfl _
      case rest =>
        obtain ⟨KK, HNF, F5⟩ := hcut
        have F5 : Hid _ := F5
        clear F4 HN2 HE2 hwd
        obtain ⟨x, s, em', ep', f0, f1, f2, f3, hh, ff⟩ := en
        obtain ⟨g0, g1, g2, g3, g4, g5, g6, g7, g8, g9⟩ := box_cells (F5.out.at 0 rfl)
        obtain ⟨-, -, c2, -⟩ := F5.out.cache.cells
        go_upto_region 15 with fail
        go_still_tail 5, (by kernel_rfl)
        change wpList _ _ _ _ _ wc.drew
        have F6 := Lib.hid F5.out.drew
        clear g0 g1 g2 g3 g4 g5 g6 g7 g8 g9 c2 F5
        generalize wc.drew = w5 at *
        go_wp2_with fail
        refine (c_put F6.out.cache ad HS.out ⟨x, s, em', ep', f0, f1, f2, f3, hh, ff⟩).mono ?_
        rintro r w6 ⟨rfl, hA, hk⟩
        have F7 := Lib.hid (F6.out.step hA hk)
        clear hA hk F6
        by_cases hpc : putCode q.S ⟨x, s, em', ep', f0, f1, f2, f3, hh, ff⟩ = 0
        · have e1 : sy = { Mg.zero with kind := 12, core := q.core, line := l } := by rw [HY.out, HNF.out, hpc]; simp [KK.out]
          have e2 : ok = true := by rw [HO.out, HNF.out, hpc]; simp [KK.out]
          have e3 : rt = { q with S := touchS q.k (putS q.S ⟨x, s, em', ep', f0, f1, f2, f3, hh, ff⟩) l, l := dropOf l q.l } := by rw [HT.out, HNF.out, hpc]; simp [KK.out]
          rw [putSays_ok hpc]
          subst e1 e2
          have HR3 := Lib.hid e3
          clear HY HO HT KK HNF hpc e3
          generalize putS q.S _ = S2 at *
          obtain ⟨m0, m1, m2, m3, m4, m5, m6, m7, m8, m9, m10, m11, m12⟩ := msg_cells (F7.out.at 2 rfl)
          obtain ⟨-, -, c2, -⟩ := F7.out.cache.cells
          go_upto_region 17 with fail
          go_still_tail 6, (by kernel_rfl)
          change wpList _ _ _ _ _ w6.drew
          have F8 := Lib.hid F7.out.drew
          clear m0 m1 m2 m3 m4 m5 m6 m7 m8 m9 m10 m11 m12 c2 F7
          generalize w6.drew = w7 at *
          go_wp2_with fail
          refine (c_touch F8.out.cache l).mono ?_
          rintro r w8 ⟨rfl, hA, hk⟩
          have F9 := Lib.hid (F8.out.step hA hk)
          clear hA hk F8
          obtain ⟨m0, m1, m2, m3, m4, m5, m6, m7, m8, m9, m10, m11, m12⟩ := msg_cells (F9.out.at 2 rfl)
          obtain ⟨-, -, -, c3⟩ := F9.out.cache.cells
          go_upto_region 18 with fail
          go_still_tail 6, (by kernel_rfl)
          change wpList _ _ _ _ _ w8.drew
          have FA := Lib.hid F9.out.drew
          clear m0 m1 m2 m3 m4 m5 m6 m7 m8 m9 m10 m11 m12 c3 F9
          generalize w8.drew = w9 at *
          go_wp2_with fail
          refine (c_end FA.out.cache l).mono ?_
          rintro r wA ⟨rfl, hA, hk⟩
          have FB := Lib.hid (FA.out.step hA hk)
          clear hA hk FA
          obtain ⟨m0, m1, m2, m3, m4, m5, m6, m7, m8, m9, m10, m11, m12⟩ := msg_cells (FB.out.at 2 rfl)
          obtain ⟨c0, -, -, -⟩ := FB.out.cache.cells
          go_upto_region 19 with fail
          go_still_tail 7, (by kernel_rfl)
          change wpList _ _ _ _ _ wA.drew
          have FC := Lib.hid FB.out.drew
          have h4 := FC.out.at 1 rfl
          clear m0 m1 m2 m3 m4 m5 m6 m7 m8 m9 m10 m11 m12 c0 FB
          generalize wA.drew = wB at *
          go_wp2_with (refine wpList_store_row rfl 34 (.tmp 4) (.tmp 99) rfl b4 (Mg.cells { Mg.zero with kind := 12, core := q.core, line := l }).toArray rfl rfl 34 _ h4 Tryz.sizeMsg rfl (HONE.out _) ?_)
          have FD := Lib.hid (FC.out.setRow 1 b4 _ _ rfl (Mg.cells { Mg.zero with kind := 12, core := q.core, line := l }).toArray)
          exact ⟨rfl, _, ret_msg Tryz.results28 _ _ _ _ rfl (FD.out.at 1 rfl) rfl, rfl, by rw [HR3.out]; exact FD.out.finish.1, FD.out.finish.2⟩
        · have e1 : sy = Mg.zero := by rw [HY.out, HNF.out]; simp [hpc]
          have e2 : ok = false := by rw [HO.out, HNF.out]; simp [hpc, KK.out]
          have e3 : rt = q := by rw [HT.out, HNF.out]; simp [hpc, KK.out]
          obtain ⟨pv, hpv⟩ := putSays_no (ad := ad) hpc
          rw [hpv]
          have hq := putS_refused hpc
          rw [hq] at F7
          have he1 := fun w : World => run_neq_held_nil (P := Tryz.prog) w 25 91 pv (by kernel_rfl)
          subst e1 e2 e3
          clear HY HO HT KK HNF hpc hpv hq
          have h4 := F7.out.at 1 rfl
          go_wp2_with (refine wpList_store_row rfl 34 (.tmp 4) (.tmp 78) rfl b4 Mg.zero.cells.toArray rfl rfl 34 _ h4 Tryz.sizeMsg rfl (HONE.out _) ?_)
          have FD := Lib.hid (F7.out.setRow 1 b4 _ _ rfl Mg.zero.cells.toArray)
          exact ⟨rfl, _, ret_msg Tryz.results28 _ _ _ _ rfl (FD.out.at 1 rfl) rfl, rfl, FD.out.finish.1, FD.out.finish.2⟩
end
end Go.Proofs.YtfaihaknibmcpaaGreatDoor
