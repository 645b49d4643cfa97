/- A cache: Forward. -/
import Derived.Test.YtfaihaknibmcpaaGreatDoorAnswer
import Derived.Test.YtfaihaknibmcpaaGreatDoorNext
namespace Go.Proofs.YtfaihaknibmcpaaGreatDoor
open Go.RowKit Go.Extern.Stop Go.Stop Go.Extern Go.Proofs.YtfaihaknibmcpaaGreatDoor.PCacheFull Go.Proofs.YtfaihaknibmcpaaGreatDoorW.PrintWords

def fwdMine (q : CSt) (m : Mg) : Bool := mineB m 1 q.core
/-- Is it there, and not used yet? -/
def fwdFresh (q : CSt) (m : Mg) : Bool := match getS q.S m.line with
  | some e => e.f
  | none => false
def fwdL (q : CSt) (m : Mg) : List (Int × Int) := if m.kind = 10 ∧ kindOf m.line q.l = 4 then dropOf m.line q.l else q.l
/-- What becomes of an entry. -/
def fwdE (m : Mg) (e : Ent) : Ent :=
  let e1 := { e with state := (nextOf e.state m.kind m.mode).1 }
  if m.kind = 7 then { e1 with h := true } else if m.kind = 8 then setWordE { e1 with h := false } m.word m.value else if m.kind = 9 then { e1 with mode := m.mode, epoch := m.epoch } else e1
/-- What is answered. -/
def fwdM (c : Int) (m : Mg) (e : Ent) : Mg :=
  let r := nextOf e.state m.kind m.mode
  if r.2 then ⟨11, c, m.line, r.1, 0, 0, 0, 0, e.d0, e.d1, e.d2, e.d3, true⟩ else ⟨11, c, m.line, r.1, 0, 0, 0, 0, 0, 0, 0, 0, false⟩
def fwdTurn (q : CSt) (x : Int) (e : Ent) : CSt := { q with S := if e.state = 0 then dropS q.S x else putS q.S e }
def fwdGo (q : CSt) (m : Mg) : CSt := match getS q.S m.line with
  | some e => fwdTurn { q with l := fwdL q m } m.line (fwdE m e)
  | none => { q with l := fwdL q m }
def fwdOut (q : CSt) (m : Mg) : Mg := match getS q.S m.line with
  | some e => fwdM q.core m e
  | none => { Mg.zero with kind := 11, core := q.core, line := m.line }
def forwardTo (q : CSt) (m : Mg) : CSt := if fwdMine q m then (if fwdFresh q m then q else fwdGo q m) else q
def forwardOk (q : CSt) (m : Mg) : Bool := fwdMine q m && !fwdFresh q m
def forwardSays (q : CSt) (m : Mg) : Mg := if fwdMine q m && !fwdFresh q m then fwdOut q m else Mg.zero
section
variable {G : Nat → Prop} {w0 w : World} {A : CAddr} {q : CSt}
set_option maxRecDepth 100000 in
set_option maxHeartbeats 4000000 in
theorem forward_is (h : CacheAt G w0 w A q) (ad : Nat → Addr) (HSE : Sents w0 ad) (m : Mg) :
    Calls Tryz.prog 26 #[.pointer (some ⟨A.c, 0, none⟩), m.val] w fun e w' => e = .returned (.tuple #[(forwardSays q m).val, .bool (forwardOk q m)]) ∧ CacheAt G w0 w' A (forwardTo q m) ∧ ∀ k, G k → w'.heap[k]? = w.heap[k]? := by
  have HS := Lib.hid HSE
  have F0 := Lib.hid (FrameAt.start h)
  clear h HSE
  have HT : Hid (forwardTo q m = if fwdMine q m then (if fwdFresh q m then q else fwdGo q m) else q) := rfl
  have HO : Hid (forwardOk q m = (fwdMine q m && !fwdFresh q m)) := rfl
  have HY : Hid (forwardSays q m = if fwdMine q m && !fwdFresh q m then fwdOut q m else Mg.zero) := rfl
  have HFR : Hid (fwdFresh q m = ((getS q.S m.line).isSome && ((getS q.S m.line).getD Ent.none).f)) := by
    show _ = _
    unfold fwdFresh
    cases getS q.S m.line <;> rfl
  have HGO : Hid (fwdGo q m = if (getS q.S m.line).isSome then fwdTurn { q with l := fwdL q m } m.line (fwdE m ((getS q.S m.line).getD Ent.none)) else { q with l := fwdL q m }) := by
    show _ = _
    unfold fwdGo
    cases getS q.S m.line <;> rfl
  have HOU : Hid (fwdOut q m = if (getS q.S m.line).isSome then fwdM q.core m ((getS q.S m.line).getD Ent.none) else { Mg.zero with kind := 11, core := q.core, line := m.line }) := by
    show _ = _
    unfold fwdOut
    cases getS q.S m.line <;> rfl
  have HLL : Hid (fwdL q m = if m.kind = 10 ∧ kindOf m.line q.l = 4 then dropOf m.line q.l else q.l) := rfl
  have HWD : Hid (fwdMine q m = true → m.word = 0 ∨ m.word = 1 ∨ m.word = 2 ∨ m.word = 3) := fun h => right_word (by unfold fwdMine mineB at h; simp at h; exact h.1)
  generalize forwardTo q m = rt at *
  generalize forwardOk q m = ok at *
  generalize forwardSays q m = sy at *
  have HMI : Hid (∀ w', CacheAt (fun k => G k ∨ InL ([] : List Loc) k) w0 w' A q → _) := fun w' h' => mine_is (w := w') h' m 1
  have HONE : Hid (∀ m : Mg, (m.cells.toArray.all fun x => x.oneCell') = true) := fun m => all_oneCell_toArray (msg_one m)
  go_enter Tryz.func26, Tryz.ntmps26
  obtain ⟨k, c, l, st, mo, ep, wd, v, d0, d1, d2, d3, hs⟩ := m
  simp only [Mg.val] at *
  go_wp2_with fail
  generalize hW : (w.alloc _).alloc _ = wa
  have F1 : Hid (FrameAt G w0 w wa A q [⟨w.heap.size + 1, Mg.zero.cells.toArray, 34⟩, ⟨w.heap.size, (Mg.cells ⟨k, c, l, st, mo, ep, wd, v, d0, d1, d2, d3, hs⟩).toArray, 34⟩]) := by
    rw [← hW]
    have f := (F0.out.push ((Below.refl _ _).alloc (Nat.le_refl _) _) w.heap.size (Mg.cells ⟨k, c, l, st, mo, ep, wd, v, d0, d1, d2, d3, hs⟩).toArray 34 (heap_alloc_new _ _) (Nat.le_refl _))
    refine f.push ((Below.refl _ _).alloc (Nat.le_refl _) _) (w.heap.size + 1) Mg.zero.cells.toArray 34 ?_ (by simp)
    have := heap_alloc_new (w.alloc (.cells (Mg.cells ⟨k, c, l, st, mo, ep, wd, v, d0, d1, d2, d3, hs⟩).toArray 34)) (.cells Mg.zero.cells.toArray 34)
    simp only [World.size_alloc] at this
    exact this
  clear hW F0 HMI
  have HMI : Hid (∀ w', Below wa.heap.size wa w' → _) := fun w' hb => mine_is (w := w') (F1.out.cache.below hb) ⟨k, c, l, st, mo, ep, wd, v, d0, d1, d2, d3, hs⟩ 1
  have HMN : Hid (mineB ⟨k, c, l, st, mo, ep, wd, v, d0, d1, d2, d3, hs⟩ 1 q.core = fwdMine q ⟨k, c, l, st, mo, ep, wd, v, d0, d1, d2, d3, hs⟩) := rfl
  rw [HMN.out] at HMI
  clear HMN
  generalize w.heap.size + 1 = b4 at *
  generalize w.heap.size = b3 at *
  generalize fwdMine q ⟨k, c, l, st, mo, ep, wd, v, d0, d1, d2, d3, hs⟩ = mn at *
  obtain ⟨m0, m1, m2, m3, m4, m5, m6, m7, m8, m9, m10, m11, m12⟩ := msg_cells (F1.out.at 1 rfl)
  go_wp2_with fail
  refine (HMI.out _ (Below.refl _ _)).mono ?_
  rintro r w1 ⟨rfl, hb⟩
  have F2 := Lib.hid (F1.out.below hb)
  clear hb F1 HMI m0 m1 m2 m3 m4 m5 m6 m7 m8 m9 m10 m11 m12
  cases mn with
  | false =>
    have e1 : sy = Mg.zero := HY.out
    have e2 : ok = false := HO.out
    have e3 : rt = q := HT.out
    subst e1 e2 e3
    clear HY HO HT HFR HGO HOU HLL HWD
    have h4 := F2.out.at 0 rfl
    go_wp2_with (refine wpList_store_row rfl 34 (.tmp 4) (.tmp 15) rfl b4 Mg.zero.cells.toArray rfl rfl 34 _ h4 Tryz.sizeMsg rfl (HONE.out _) ?_)
    have F3 := Lib.hid (F2.out.setRow 0 b4 _ _ rfl Mg.zero.cells.toArray)
    exact ⟨rfl, _, ret_msg Tryz.results26 _ _ _ _ rfl (F3.out.at 0 rfl) rfl, rfl, F3.out.finish.1, F3.out.finish.2⟩
  | true =>
    have hwd := HWD.out rfl
    have HGT : Hid (∀ w', Below w1.heap.size w1 w' → Calls Tryz.prog 38 #[.pointer (some ⟨A.a, 0, none⟩), .int .i64 l] w' fun x w'' => x = .returned (.tuple #[((getS q.S l).getD Ent.none).val, .bool (getS q.S l).isSome]) ∧ FrameAt G w0 w w'' A q [⟨b4, Mg.zero.cells.toArray, 34⟩, ⟨b3, (Mg.cells ⟨k, c, l, st, mo, ep, wd, v, d0, d1, d2, d3, hs⟩).toArray, 34⟩] ∧ Below w'.heap.size w' w'') := fun w' hb => (c_get (w := w') (F2.out.cache.below hb) l).mono fun e w'' hx => ⟨hx.1, (F2.out.below hb).below hx.2, hx.2⟩
    clear HWD
    obtain ⟨m0, m1, m2, m3, m4, m5, m6, m7, m8, m9, m10, m11, m12⟩ := msg_cells (F2.out.at 1 rfl)
    obtain ⟨-, -, c2, -⟩ := F2.out.cache.cells
    generalize getS q.S l = o at *
    generalize o.isSome = is at *
    generalize o.getD Ent.none = e at *
    obtain ⟨el, es, em, ee, e0, e1, e2, e3, eh, ef⟩ := e
    simp only [Ent.val] at *
    go_upto_region 3 with fail
    go_cut [6, 7] (fun u6 u7 wx => ∃ b6 : Nat, u6 = .pointer (some ⟨b6, 0, none⟩) ∧ u7 = .bool is ∧ Hid (FrameAt G w0 w wx A q [⟨b6, (Ent.cells ⟨el, es, em, ee, e0, e1, e2, e3, eh, ef⟩).toArray, 65⟩, ⟨b4, Mg.zero.cells.toArray, 34⟩, ⟨b3, (Mg.cells ⟨k, c, l, st, mo, ep, wd, v, d0, d1, d2, d3, hs⟩).toArray, 34⟩]))
    case first =>
      have n3 := lt_of_heap (F2.out.at 1 rfl)
      have nc := lt_of_heap F2.out.cache.box
      have hx : ∀ (W : World) (o : Nat) (u : Value), (W.setCell ⟨w1.heap.size, o, none⟩ u).cell? ⟨A.c, 2, none⟩ = W.cell? ⟨A.c, 2, none⟩ := fun W o u => World.cell?_setCell_other W _ _ u (by simp)
      have hy : ∀ (W : World) (o : Nat) (u : Value), (W.setCell ⟨w1.heap.size, o, none⟩ u).cell? ⟨b3, 2, none⟩ = W.cell? ⟨b3, 2, none⟩ := fun W o u => World.cell?_setCell_other W _ _ u (by simp)
      go_region_held3 (fun w' => w'.cell? ⟨A.c, 2, none⟩ = some (.pointer (some ⟨A.a, 0, none⟩)) ∧ w'.cell? ⟨b3, 2, none⟩ = some (.int .i64 l)) (go_keep)
        (first | (go_at_call 38; refine (HGT.out _ ?_).mono ?_; (repeat (first | exact Below.refl _ _ | refine Below.alloc ?_ (by simp) _ | refine Below.drew ?_)); rintro r w3 ⟨rfl, hf, hb⟩; have HB := Lib.hid hb; have p2 := hf.cache.cells.2.2.1; have p3 := (msg_cells (hf.at 1 rfl)).2.2.1; have F3 := Lib.hid hf; clear hf; (try (have hz := zero_after hb; have hfz : ∀ c, w3.frozen? ⟨w1.heap.size, c, none⟩ = false := fun c => nofreeze hz; obtain ⟨g0, g1, g2, g3, g4, g5, g6, g7, g8, g9⟩ := box_cells hz; clear hz)); clear hb))
      · go_wp2_with fail
        go_meet
        exact ⟨w3.heap.size, rfl, rfl, F3.out.push ((Below.refl _ _).alloc (Nat.le_refl _) _) w3.heap.size _ _ (heap_alloc_new _ _) (Nat.le_refl _)⟩
      · go_wp2_with fail
        go_meet
        exact ⟨w1.heap.size, rfl, rfl, (F2.out.made HB.out).fillE el es em ee e0 e1 e2 e3 eh ef⟩
    case rest =>
      obtain ⟨b6, rfl, rfl, F4⟩ := hcut
      have F4 : Hid _ := F4
      clear HGT F2
      go_upto_region 4 with fail
      go_cut [30] (fun u wx => u = .bool (is && ef) ∧ Hid (FrameAt G w0 w wx A q [⟨b6, (Ent.cells ⟨el, es, em, ee, e0, e1, e2, e3, eh, ef⟩).toArray, 65⟩, ⟨b4, Mg.zero.cells.toArray, 34⟩, ⟨b3, (Mg.cells ⟨k, c, l, st, mo, ep, wd, v, d0, d1, d2, d3, hs⟩).toArray, 34⟩]))
      case first =>
        obtain ⟨g0, g1, g2, g3, g4, g5, g6, g7, g8, g9⟩ := box_cells (F4.out.at 0 rfl)
        clear g0 g1 g2 g3 g4 g5 g6 g7 g8
        cases is
        all_goals cases ef
        all_goals
          go_wp2_with fail
          go_meet
          exact ⟨rfl, F4⟩
      case rest =>
        obtain ⟨rfl, F5⟩ := hcut
        have F5 : Hid _ := F5
        clear F4
        go_upto_if 30 with fail
        go_cut [] (fun wx => Hid ((is && ef) = false) ∧ Hid (FrameAt G w0 w wx A q [⟨b6, (Ent.cells ⟨el, es, em, ee, e0, e1, e2, e3, eh, ef⟩).toArray, 65⟩, ⟨b4, Mg.zero.cells.toArray, 34⟩, ⟨b3, (Mg.cells ⟨k, c, l, st, mo, ep, wd, v, d0, d1, d2, d3, hs⟩).toArray, 34⟩]))
        case first =>
          cases hfr : (is && ef) with
          | true =>
            have e0' : fwdFresh q ⟨k, c, l, st, mo, ep, wd, v, d0, d1, d2, d3, hs⟩ = true := by rw [HFR.out, hfr]
            have e1' : sy = Mg.zero := by rw [HY.out, e0']; simp
            have e2' : ok = false := by rw [HO.out, e0']; simp
            have e3' : rt = q := by rw [HT.out, e0']; simp
            subst e1' e2' e3'
            clear HY HO HT HFR HGO HOU HLL e0' hfr
            have h4 := F5.out.at 1 rfl
            go_wp2_with (refine wpList_store_row rfl 34 (.tmp 4) (.tmp 31) rfl b4 Mg.zero.cells.toArray rfl rfl 34 _ h4 Tryz.sizeMsg rfl (HONE.out _) ?_)
            have F7 := Lib.hid (F5.out.setRow 1 b4 _ _ rfl Mg.zero.cells.toArray)
            exact ⟨rfl, _, ret_msg Tryz.results26 _ _ _ _ rfl (F7.out.at 1 rfl) rfl, rfl, F7.out.finish.1, F7.out.finish.2⟩
          | false =>
            have HF2 := Lib.hid hfr
            clear hfr
            go_wp2_with fail
            go_meet
            exact ⟨HF2, F5⟩
        case rest =>
          obtain ⟨HF2, F6⟩ := hcut
          have F6 : Hid _ := F6
          have e0' : fwdFresh q ⟨k, c, l, st, mo, ep, wd, v, d0, d1, d2, d3, hs⟩ = false := by rw [HFR.out, HF2.out]
          have e1' : sy = fwdOut q ⟨k, c, l, st, mo, ep, wd, v, d0, d1, d2, d3, hs⟩ := by rw [HY.out, e0']; simp
          have e2' : ok = true := by rw [HO.out, e0']; simp
          have e3' : rt = fwdGo q ⟨k, c, l, st, mo, ep, wd, v, d0, d1, d2, d3, hs⟩ := by rw [HT.out, e0']; simp
          subst e2'
          have HSY := Lib.hid e1'
          have HRT := Lib.hid e3'
          clear F5 HF2 HFR HY HO HT e0' e1' e3'
          generalize fwdOut q ⟨k, c, l, st, mo, ep, wd, v, d0, d1, d2, d3, hs⟩ = ou at *
          generalize fwdGo q ⟨k, c, l, st, mo, ep, wd, v, d0, d1, d2, d3, hs⟩ = gq at *
          go_upto_region 6 with fail
          have zt : ∀ z : Wld (Below wc.heap.size wc), z.w.cell? ⟨A.c, 3, none⟩ = some (.pointer (some ⟨A.t, 0, none⟩)) := fun z => (F6.out.cache.below z.h).cells.2.2.2
          have zl : ∀ z : Wld (Below wc.heap.size wc), z.w.cell? ⟨b3, 2, none⟩ = some (.int .i64 l) := fun z => (msg_cells ((F6.out.below z.h).at 2 rfl)).2.2.1
          have HU : Hid (∀ z : Wld (Below wc.heap.size wc), _) := fun z => c_under (w := z.w) (F6.out.cache.below z.h) l
          have hnon : Nonempty (Wld (Below wc.heap.size wc)) := ⟨⟨wc, Below.refl _ _⟩⟩
          generalize hkk : kindOf l q.l = kk at *
          have HKK := Lib.hid hkk
          clear hkk
          refine wp_region_under (R := Below wc.heap.size wc) (by kernel_rfl) (by kernel_rfl) (Below.refl _ _).drew ?_
          repeat (go_big_quiet_step (first | (go_at_call 37; exact Calls.under _ (HU.out _))))
          refine wpQuiet_nil ?_
          rintro _ ⟨z, rfl⟩
          have F7 := Lib.hid (F6.out.below z.h)
          clear zt zl HU hnon F6
          obtain ⟨m0, m1, m2, m3, m4, m5, m6, m7, m8, m9, m10, m11, m12⟩ := msg_cells (F7.out.at 2 rfl)
          generalize z.w = w7 at *
          go_upto_region 7 with fail
          go_cut [48] (fun u wx => u = .bool (decide (k = 10) && decide (kk = 4)) ∧ Hid (FrameAt G w0 w wx A q [⟨b6, (Ent.cells ⟨el, es, em, ee, e0, e1, e2, e3, eh, ef⟩).toArray, 65⟩, ⟨b4, Mg.zero.cells.toArray, 34⟩, ⟨b3, (Mg.cells ⟨k, c, l, st, mo, ep, wd, v, d0, d1, d2, d3, hs⟩).toArray, 34⟩]))
          case first =>
            by_cases h10 : k = 10
            · by_cases h4 : kk = 4
              · have d : (decide (k = 10) && decide (kk = 4)) = true := by simp [h10, h4]
                have D := Lib.hid d
                subst h10
                clear d
                have b4' : (kk == 4) = true := by simpa using h4
                clear h4
                go_wp2_with fail
                go_meet
                exact ⟨by rw [D.out], F7⟩
              · have d : (decide (k = 10) && decide (kk = 4)) = false := by simp [h4]
                have D := Lib.hid d
                subst h10
                clear d
                have b4' : (kk == 4) = false := by simpa using h4
                go_wp2_with fail
                go_meet
                exact ⟨by rw [D.out], F7⟩
            · have d : (decide (k = 10) && decide (kk = 4)) = false := by simp [h10]
              have D := Lib.hid d
              have b10' : (k == 10) = false := by simpa using h10
              clear d
              go_wp2_with fail
              go_meet
              exact ⟨by rw [D.out], F7⟩
          case rest =>
            obtain ⟨rfl, F8⟩ := hcut
            have F8 : Hid _ := F8
            clear F7 m0 m1 m2 m3 m4 m5 m6 m7 m8 m9 m10 m11 m12
            go_upto_if 48 with fail
            go_cut [] (fun wx => Hid (FrameAt G w0 w wx A { q with l := fwdL q ⟨k, c, l, st, mo, ep, wd, v, d0, d1, d2, d3, hs⟩ } [⟨b6, (Ent.cells ⟨el, es, em, ee, e0, e1, e2, e3, eh, ef⟩).toArray, 65⟩, ⟨b4, Mg.zero.cells.toArray, 34⟩, ⟨b3, (Mg.cells ⟨k, c, l, st, mo, ep, wd, v, d0, d1, d2, d3, hs⟩).toArray, 34⟩]))
            case first =>
              cases hc : (decide (k = 10) && decide (kk = 4)) with
              | true =>
                have hl : fwdL q ⟨k, c, l, st, mo, ep, wd, v, d0, d1, d2, d3, hs⟩ = dropOf l q.l := by
                  simp only [Bool.and_eq_true, decide_eq_true_eq] at hc
                  rw [HLL.out, if_pos ⟨hc.1, hc.2⟩]
                have HL := Lib.hid hl
                clear hc hl
                obtain ⟨m0, m1, m2, m3, m4, m5, m6, m7, m8, m9, m10, m11, m12⟩ := msg_cells (F8.out.at 2 rfl)
                obtain ⟨-, -, -, c3⟩ := F8.out.cache.cells
                go_wp2_with fail
                go_still_tail 6, (by kernel_rfl)
                change wpList _ _ _ _ _ wc.drew
                have F9 := Lib.hid F8.out.drew
                clear m0 m1 m2 m3 m4 m5 m6 m7 m8 m9 m10 m11 m12 c3 F8
                generalize wc.drew = w9 at *
                go_wp2_with fail
                refine (c_end F9.out.cache l).mono ?_
                rintro r wA ⟨rfl, hA, hk⟩
                have FA := Lib.hid (F9.out.step hA hk)
                clear hA hk F9
                go_wp2_with fail
                go_meet
                rw [HL.out]
                exact FA
              | false =>
                have hl : fwdL q ⟨k, c, l, st, mo, ep, wd, v, d0, d1, d2, d3, hs⟩ = q.l := by
                  rw [HLL.out, if_neg (fun h => by simp [h.1, h.2] at hc)]
                have HL := Lib.hid hl
                clear hc hl
                go_wp2_with fail
                go_meet
                rw [HL.out]
                exact F8
            case rest =>
              have F9 : Hid _ := hcut
              clear hcut F8 HLL HKK
              generalize fwdL q ⟨k, c, l, st, mo, ep, wd, v, d0, d1, d2, d3, hs⟩ = l1 at *
              obtain ⟨m0, m1, m2, m3, m4, m5, m6, m7, m8, m9, m10, m11, m12⟩ := msg_cells (F9.out.at 2 rfl)
              obtain ⟨c0, -, -, -⟩ := F9.out.cache.cells
              go_upto_region 9 with fail
              go_cut [10] (fun u wx => ∃ b10 : Nat, u = .pointer (some ⟨b10, 0, none⟩) ∧ Hid (FrameAt G w0 w wx A { q with l := l1 } [⟨b10, (Mg.cells ⟨11, q.core, l, 0, 0, 0, 0, 0, 0, 0, 0, 0, false⟩).toArray, 34⟩, ⟨b6, (Ent.cells ⟨el, es, em, ee, e0, e1, e2, e3, eh, ef⟩).toArray, 65⟩, ⟨b4, Mg.zero.cells.toArray, 34⟩, ⟨b3, (Mg.cells ⟨k, c, l, st, mo, ep, wd, v, d0, d1, d2, d3, hs⟩).toArray, 34⟩]))
              case first =>
                clear m0 m1 m3 m4 m5 m6 m7 m8 m9 m10 m11 m12 HGO HOU HSY HRT
                go_region_held3 (fun w' => w'.cell? ⟨A.c, 0, none⟩ = some (.int .i64 q.core) ∧ w'.cell? ⟨b3, 2, none⟩ = some (.int .i64 l)) (go_keep) (fail)
                go_wp2_with fail
                go_meet
                exact ⟨wc.heap.size, rfl, F9.out.push (((Below.refl _ _).alloc (Nat.le_refl _) _).drew) wc.heap.size _ _ (heap_alloc_new _ _) (Nat.le_refl _)⟩
              case rest =>
                obtain ⟨b10, rfl, FA⟩ := hcut
                have FA : Hid _ := FA
                clear F9 m0 m1 m2 m3 m4 m5 m6 m7 m8 m9 m10 m11 m12 c0
                cases is with
                | false =>
                  have e1' : sy = ⟨11, q.core, l, 0, 0, 0, 0, 0, 0, 0, 0, 0, false⟩ := by rw [HSY.out, HOU.out]; rfl
                  have e2' : rt = { q with l := l1 } := by rw [HRT.out, HGO.out]; simp
                  subst e1' e2'
                  clear HSY HOU HRT HGO
                  have h4 := FA.out.at 2 rfl
                  obtain ⟨a0, a1, a2, a3, a4, a5, a6, a7, a8, a9, a10, a11, a12⟩ := msg_cells (FA.out.at 0 rfl)
                  go_upto_region 11 with fail
                  go_wp2_with (refine wpList_store_row rfl 34 (.tmp 4) (.tmp 65) rfl b4 (Mg.cells ⟨11, q.core, l, 0, 0, 0, 0, 0, 0, 0, 0, 0, false⟩).toArray rfl rfl 34 _ h4 Tryz.sizeMsg rfl (HONE.out _) ?_)
                  have FB := Lib.hid (FA.out.setRow 2 b4 _ _ rfl (Mg.cells ⟨11, q.core, l, 0, 0, 0, 0, 0, 0, 0, 0, 0, false⟩).toArray)
                  exact ⟨rfl, _, ret_msg Tryz.results26 _ _ _ _ rfl (FB.out.at 2 rfl) rfl, rfl, FB.out.finish.1, FB.out.finish.2⟩
                | true =>
                  have HNX : Hid (∀ w' : World, Calls Tryz.prog 67 #[.int .i64 es, .int .i64 k, .int .i64 mo] w' fun x w'' => x = .returned (.tuple #[.int .i64 (nextOf es k mo).1, .bool (nextOf es k mo).2]) ∧ Below w'.heap.size w' w'') := fun w' => next_is es k mo w'
                  have e1' : sy = if (nextOf es k mo).2 then ⟨11, q.core, l, (nextOf es k mo).1, 0, 0, 0, 0, e0, e1, e2, e3, true⟩ else ⟨11, q.core, l, (nextOf es k mo).1, 0, 0, 0, 0, 0, 0, 0, 0, false⟩ := by rw [HSY.out, HOU.out]; rfl
                  have e2' : rt = fwdTurn { q with l := l1 } l (if k = 7 then ⟨el, (nextOf es k mo).1, em, ee, e0, e1, e2, e3, true, ef⟩ else if k = 8 then setWordE ⟨el, (nextOf es k mo).1, em, ee, e0, e1, e2, e3, false, ef⟩ wd v else if k = 9 then ⟨el, (nextOf es k mo).1, mo, ep, e0, e1, e2, e3, eh, ef⟩ else ⟨el, (nextOf es k mo).1, em, ee, e0, e1, e2, e3, eh, ef⟩) := by rw [HRT.out, HGO.out]; rfl
                  clear HSY HOU HRT HGO
                  have HSY := Lib.hid e1'
                  have HRT := Lib.hid e2'
                  clear e1' e2'
                  generalize (nextOf es k mo).1 = ns at *
                  generalize (nextOf es k mo).2 = nh at *
                  obtain ⟨m0, m1, m2, m3, m4, m5, m6, m7, m8, m9, m10, m11, m12⟩ := msg_cells (FA.out.at 3 rfl)
                  obtain ⟨g0, g1, g2, g3, g4, g5, g6, g7, g8, g9⟩ := box_cells (FA.out.at 1 rfl)
                  go_upto_region 12 with fail
                  go_wp2_with fail
                  refine (HNX.out _).mono ?_
                  rintro r wB ⟨rfl, hb⟩
                  have FB := Lib.hid (FA.out.below hb)
                  clear hb FA HNX m0 m1 m2 m3 m4 m5 m6 m7 m8 m9 m10 m11 m12 g0 g1 g2 g3 g4 g5 g6 g7 g8 g9
                  have hfz : ∀ c, wB.frozen? ⟨b10, c, none⟩ = false := fun c => nofreeze (FB.out.at 0 rfl)
                  obtain ⟨a0, a1, a2, a3, a4, a5, a6, a7, a8, a9, a10, a11, a12⟩ := msg_cells (FB.out.at 0 rfl)
                  go_upto_region 13 with fail
                  have FC : Hid (FrameAt G w0 w ((wB.setCell ⟨b10, 3, none⟩ (.int .i64 ns)).setCell ⟨b10, 12, none⟩ (.bool nh)) A { q with l := l1 } [⟨b10, (Mg.cells ⟨11, q.core, l, ns, 0, 0, 0, 0, 0, 0, 0, 0, nh⟩).toArray, 34⟩, ⟨b6, (Ent.cells ⟨el, es, em, ee, e0, e1, e2, e3, eh, ef⟩).toArray, 65⟩, ⟨b4, Mg.zero.cells.toArray, 34⟩, ⟨b3, (Mg.cells ⟨k, c, l, st, mo, ep, wd, v, d0, d1, d2, d3, hs⟩).toArray, 34⟩]) := (FB.out.setCell 0 b10 _ _ rfl 3 (.int .i64 ns)).setCell 0 b10 _ _ rfl 12 (.bool nh)
                  clear FB hfz a0 a1 a2 a3 a4 a5 a6 a7 a8 a9 a10 a11 a12
                  generalize (wB.setCell ⟨b10, 3, none⟩ (.int .i64 ns)).setCell ⟨b10, 12, none⟩ (.bool nh) = wC at *
                  obtain ⟨a0, a1, a2, a3, a4, a5, a6, a7, a8, a9, a10, a11, a12⟩ := msg_cells (FC.out.at 0 rfl)
                  go_upto_if 79 with fail
                  go_cut [] (fun wx => Hid (FrameAt G w0 w wx A { q with l := l1 } [⟨b10, sy.cells.toArray, 34⟩, ⟨b6, (Ent.cells ⟨el, es, em, ee, e0, e1, e2, e3, eh, ef⟩).toArray, 65⟩, ⟨b4, Mg.zero.cells.toArray, 34⟩, ⟨b3, (Mg.cells ⟨k, c, l, st, mo, ep, wd, v, d0, d1, d2, d3, hs⟩).toArray, 34⟩]))
                  case first =>
                    clear HRT
                    cases nh with
                    | true =>
                      have e1' : sy = ⟨11, q.core, l, ns, 0, 0, 0, 0, e0, e1, e2, e3, true⟩ := HSY.out
                      subst e1'
                      clear HSY
                      have hfz : ∀ c, wC.frozen? ⟨b10, c, none⟩ = false := fun c => nofreeze (FC.out.at 0 rfl)
                      obtain ⟨g0, g1, g2, g3, g4, g5, g6, g7, g8, g9⟩ := box_cells (FC.out.at 1 rfl)
                      go_wp2_with fail
                      go_meet
                      exact (((FC.out.setCell 0 b10 _ _ rfl 8 (.int .u32 e0)).setCell 0 b10 _ _ rfl 9 (.int .u32 e1)).setCell 0 b10 _ _ rfl 10 (.int .u32 e2)).setCell 0 b10 _ _ rfl 11 (.int .u32 e3)
                    | false =>
                      have e1' : sy = ⟨11, q.core, l, ns, 0, 0, 0, 0, 0, 0, 0, 0, false⟩ := HSY.out
                      subst e1'
                      clear HSY
                      go_wp2_with fail
                      go_meet
                      exact FC
                  case rest =>
                    have FD : Hid _ := hcut
                    clear hcut FC a0 a1 a2 a3 a4 a5 a6 a7 a8 a9 a10 a11 a12
                    have hs3 : sy.state = ns := by have := HSY.out; rw [this]; cases nh <;> rfl
                    clear HSY
                    have a3 : wc.cell? ⟨b10, 3, none⟩ = some (.int .i64 ns) := by rw [← hs3]; exact (msg_cells (FD.out.at 0 rfl)).2.2.2.1
                    clear hs3
                    have hfz : ∀ c, wc.frozen? ⟨b6, c, none⟩ = false := fun c => nofreeze (FD.out.at 1 rfl)
                    obtain ⟨g0, g1, g2, g3, g4, g5, g6, g7, g8, g9⟩ := box_cells (FD.out.at 1 rfl)
                    go_upto_region 16 with fail
                    have FE : Hid (FrameAt G w0 w (wc.setCell ⟨b6, 1, none⟩ (.int .i64 ns)) A { q with l := l1 } [⟨b10, sy.cells.toArray, 34⟩, ⟨b6, (Ent.cells ⟨el, ns, em, ee, e0, e1, e2, e3, eh, ef⟩).toArray, 65⟩, ⟨b4, Mg.zero.cells.toArray, 34⟩, ⟨b3, (Mg.cells ⟨k, c, l, st, mo, ep, wd, v, d0, d1, d2, d3, hs⟩).toArray, 34⟩]) := FD.out.setCell 1 b6 _ _ rfl 1 (.int .i64 ns)
                    clear FD hfz a3 g0 g1 g2 g3 g4 g5 g6 g7 g8 g9
                    generalize wc.setCell ⟨b6, 1, none⟩ (.int .i64 ns) = wE at *
                    obtain ⟨m0, m1, m2, m3, m4, m5, m6, m7, m8, m9, m10, m11, m12⟩ := msg_cells (FE.out.at 3 rfl)
                    go_upto_block 0 with fail
                    go_cut [] (fun wx => ∃ en : Ent, Hid (rt = fwdTurn { q with l := l1 } l en) ∧ Hid (FrameAt G w0 w wx A { q with l := l1 } [⟨b10, sy.cells.toArray, 34⟩, ⟨b6, en.cells.toArray, 65⟩, ⟨b4, Mg.zero.cells.toArray, 34⟩, ⟨b3, (Mg.cells ⟨k, c, l, st, mo, ep, wd, v, d0, d1, d2, d3, hs⟩).toArray, 34⟩]))
                    case first =>
                      have hfz : ∀ c, wE.frozen? ⟨b6, c, none⟩ = false := fun c => nofreeze (FE.out.at 1 rfl)
                      obtain ⟨g0, g1, g2, g3, g4, g5, g6, g7, g8, g9⟩ := box_cells (FE.out.at 1 rfl)
                      by_cases h7 : k = 7
                      · subst h7
                        have hr : rt = fwdTurn { q with l := l1 } l ⟨el, ns, em, ee, e0, e1, e2, e3, true, ef⟩ := HRT.out
                        have HR := Lib.hid hr
                        clear hr HRT m0 m1 m2 m3 m4 m5 m6 m7 m8 m9 m10 m11 m12
                        obtain ⟨m0, m1, m2, m3, m4, m5, m6, m7, m8, m9, m10, m11, m12⟩ := msg_cells (FE.out.at 3 rfl)
                        go_wp2_with fail
                        go_meet
                        exact ⟨_, HR, FE.out.setCell 1 b6 _ _ rfl 8 (.bool true)⟩
                      · have k7 : (k == 7) = false := by simpa using h7
                        by_cases h8 : k = 8
                        · subst h8
                          have hr : rt = fwdTurn { q with l := l1 } l (setWordE ⟨el, ns, em, ee, e0, e1, e2, e3, false, ef⟩ wd v) := HRT.out
                          have HR := Lib.hid hr
                          clear hr HRT h7 k7
                          rcases hwd with rfl | rfl | rfl | rfl
                          all_goals
                            go_wp2_with fail
                            go_meet
                            exact ⟨_, HR, (FE.out.setCell 1 b6 _ _ rfl 8 (.bool false)).setCell 1 b6 _ _ rfl _ (.int .u32 v)⟩
                        · have k8 : (k == 8) = false := by simpa using h8
                          by_cases h9 : k = 9
                          · subst h9
                            have hr : rt = fwdTurn { q with l := l1 } l ⟨el, ns, mo, ep, e0, e1, e2, e3, eh, ef⟩ := HRT.out
                            have HR := Lib.hid hr
                            clear hr HRT h7 k7 h8 k8
                            have n63 : b6 ≠ b3 := by
                              have h1 := FE.out.nodup
                              simp only [List.pairwise_cons, List.mem_cons, List.not_mem_nil, or_false] at h1
                              exact h1.2.1 _ (.inr rfl)
                            have hy : ∀ (W : World) (o j : Nat) (u : Value), (W.setCell ⟨b6, o, none⟩ u).cell? ⟨b3, j, none⟩ = W.cell? ⟨b3, j, none⟩ := fun W o j u => World.cell?_setCell_other W _ _ u (by simp )
                            go_upto_region 23 with fail
                            clear m0 m1 m2 m3 m6 m7 m8 m9 m10 m11 m12
                            go_region
                            all_goals
                              go_wp2_with fail
                              go_meet
                              refine ⟨_, HR, ?_⟩
                              first
                                | exact (FE.out.drew.setCell 1 b6 _ _ rfl 2 (.int .i64 mo)).setCell 1 b6 _ _ rfl 3 (.int .i64 ep)
                                | exact (FE.out.drew.setCell 1 b6 _ _ rfl 3 (.int .i64 ep)).setCell 1 b6 _ _ rfl 2 (.int .i64 mo)
                                | exact ((FE.out.setCell 1 b6 _ _ rfl 2 (.int .i64 mo)).setCell 1 b6 _ _ rfl 3 (.int .i64 ep)).drew
                                | exact ((FE.out.setCell 1 b6 _ _ rfl 3 (.int .i64 ep)).setCell 1 b6 _ _ rfl 2 (.int .i64 mo)).drew
                          · have k9 : (k == 9) = false := by simpa using h9
                            have hr : rt = fwdTurn { q with l := l1 } l ⟨el, ns, em, ee, e0, e1, e2, e3, eh, ef⟩ := by rw [HRT.out, if_neg h7, if_neg h8, if_neg h9]
                            have HR := Lib.hid hr
                            clear hr HRT h7 h8 h9
                            go_wp2_with fail
                            go_meet
                            exact ⟨_, HR, FE⟩
                    case rest =>
                      obtain ⟨en, HRT, FF⟩ := hcut
                      have FF : Hid _ := FF
                      have HR : Hid _ := HRT
                      clear FE HRT m0 m1 m2 m3 m4 m5 m6 m7 m8 m9 m10 m11 m12
                      obtain ⟨x, s, em', ep', f0, f1, f2, f3, hh, ff⟩ := en
                      obtain ⟨y0, y1, y2, y3, y4, y5, y6, y7, y8, y9, y10, y11, y12⟩ := sy
                      obtain ⟨m0, m1, m2, m3, m4, m5, m6, m7, m8, m9, m10, m11, m12⟩ := msg_cells (FF.out.at 3 rfl)
                      obtain ⟨g0, g1, g2, g3, g4, g5, g6, g7, g8, g9⟩ := box_cells (FF.out.at 1 rfl)
                      obtain ⟨-, -, c2, -⟩ := FF.out.cache.cells
                      by_cases hz : s = 0
                      · subst hz
                        have hr : rt = { q with l := l1, S := dropS q.S l } := HR.out
                        subst hr
                        clear HR
                        go_upto_region 25 with fail
                        go_still_tail 6, (by kernel_rfl)
                        change wpList _ _ _ _ _ wc.drew
                        have FG := Lib.hid FF.out.drew
                        clear m0 m1 m2 m3 m4 m5 m6 m7 m8 m9 m10 m11 m12 g0 g1 g2 g3 g4 g5 g6 g7 g8 g9 c2 FF
                        generalize wc.drew = wG at *
                        go_wp2_with fail
                        refine (c_drop FG.out.cache l).mono ?_
                        rintro r wH ⟨rfl, hA, hk⟩
                        have FH := Lib.hid (FG.out.step hA hk)
                        clear hA hk FG
                        have h4 := FH.out.at 2 rfl
                        obtain ⟨a0, a1, a2, a3, a4, a5, a6, a7, a8, a9, a10, a11, a12⟩ := msg_cells (FH.out.at 0 rfl)
                        go_wp2_with (refine wpList_store_row rfl 34 (.tmp 4) (.tmp 124) rfl b4 (Mg.cells ⟨y0, y1, y2, y3, y4, y5, y6, y7, y8, y9, y10, y11, y12⟩).toArray rfl rfl 34 _ h4 Tryz.sizeMsg rfl (HONE.out _) ?_)
                        have FI := Lib.hid (FH.out.setRow 2 b4 _ _ rfl (Mg.cells ⟨y0, y1, y2, y3, y4, y5, y6, y7, y8, y9, y10, y11, y12⟩).toArray)
                        exact ⟨rfl, _, ret_msg Tryz.results26 _ _ _ _ rfl (FI.out.at 2 rfl) rfl, rfl, FI.out.finish.1, FI.out.finish.2⟩
                      · have sz : (s == 0) = false := by simpa using hz
                        have hr : rt = { q with l := l1, S := putS q.S ⟨x, s, em', ep', f0, f1, f2, f3, hh, ff⟩ } := by rw [HR.out]; unfold fwdTurn; rw [if_neg hz]
                        subst hr
                        clear HR hz
                        go_upto_region 26 with fail
                        go_still_tail 5, (by kernel_rfl)
                        change wpList _ _ _ _ _ wc.drew
                        have FG := Lib.hid FF.out.drew
                        clear m0 m1 m2 m3 m4 m5 m6 m7 m8 m9 m10 m11 m12 g0 g1 g2 g3 g4 g5 g6 g7 g8 g9 c2 FF
                        generalize wc.drew = wG at *
                        go_wp2_with fail
                        refine (c_put FG.out.cache ad HS.out ⟨x, s, em', ep', f0, f1, f2, f3, hh, ff⟩).mono ?_
                        rintro r wH ⟨rfl, hA, hk⟩
                        have FH := Lib.hid (FG.out.step hA hk)
                        clear hA hk FG
                        have h4 := FH.out.at 2 rfl
                        obtain ⟨a0, a1, a2, a3, a4, a5, a6, a7, a8, a9, a10, a11, a12⟩ := msg_cells (FH.out.at 0 rfl)
                        go_wp2_with (refine wpList_store_row rfl 34 (.tmp 4) (.tmp 124) rfl b4 (Mg.cells ⟨y0, y1, y2, y3, y4, y5, y6, y7, y8, y9, y10, y11, y12⟩).toArray rfl rfl 34 _ h4 Tryz.sizeMsg rfl (HONE.out _) ?_)
                        have FI := Lib.hid (FH.out.setRow 2 b4 _ _ rfl (Mg.cells ⟨y0, y1, y2, y3, y4, y5, y6, y7, y8, y9, y10, y11, y12⟩).toArray)
                        exact ⟨rfl, _, ret_msg Tryz.results26 _ _ _ _ rfl (FI.out.at 2 rfl) rfl, rfl, FI.out.finish.1, FI.out.finish.2⟩
end
end Go.Proofs.YtfaihaknibmcpaaGreatDoor
