/- A cache: absent. A cache: evict. A cache: Want. -/
import Derived.Test.YtfaihaknibmcpaaGreatDoorFrame
namespace Go.Proofs.YtfaihaknibmcpaaGreatDoor
open Go.RowKit Go.Extern.Stop Go.Stop Go.Extern Go.Proofs.YtfaihaknibmcpaaGreatDoor.PCacheFull Go.Proofs.YtfaihaknibmcpaaGreatDoorW.PrintWords

/-- The number of a line's set; -1: there is none. -/
def setNo (n : Nat) (x : Int) : Int := if 0 ≤ x ∧ x ≤ 31 then ((x.toNat % n : Nat) : Int) else -1
/-- Is a miss of a line of that set that isn't there? -/
def awayB (q : CSt) (x : Int) (m : Int × Int) : Bool := !(getS q.S m.1).isSome && (setNo q.n m.1 == setNo q.n x)
def absentB (q : CSt) (x : Int) : Bool := q.l.any (awayB q x)
theorem any_take {α : Type} (p : α → Bool) (l : List α) (i : Nat) (a : α) (h : l[i]? = some a) : (l.take (i + 1)).any p = ((l.take i).any p || p a) := by
  obtain ⟨hi, rfl⟩ := List.getElem?_eq_some_iff.1 h
  rw [List.take_succ_eq_append_getElem hi, List.any_append]
  simp
theorem any_found {α : Type} (p : α → Bool) (l : List α) (i : Nat) (a : α) (h : l[i]? = some a) (hp : p a = true) : l.any p = true :=
  List.any_eq_true.2 ⟨a, List.mem_of_getElem? h, hp⟩
theorem below_fill {B b : Nat} {a w3 : World} (h : Below B a w3) (hb : B ≤ b) (x s m ep d0 d1 d2 d3 : Int) (hh ff : Bool) : Below B a ((((((((((w3.setCell ⟨b, 0, none⟩ (.int .i64 x)).setCell ⟨b, 1, none⟩ (.int .i64 s)).setCell ⟨b, 2, none⟩ (.int .i64 m)).setCell ⟨b, 3, none⟩ (.int .i64 ep)).setCell ⟨b, 4, none⟩ (.int .u32 d0)).setCell ⟨b, 5, none⟩ (.int .u32 d1)).setCell ⟨b, 6, none⟩ (.int .u32 d2)).setCell ⟨b, 7, none⟩ (.int .u32 d3)).setCell ⟨b, 8, none⟩ (.bool hh)).setCell ⟨b, 9, none⟩ (.bool ff)) :=
  (((((((((h.setCell hb _).setCell hb _).setCell hb _).setCell hb _).setCell hb _).setCell hb _).setCell hb _).setCell hb _).setCell hb _).setCell hb _
section
variable {G : Nat → Prop} {w0 w : World} {A : CAddr} {q : CSt}
theorem CacheAt.few (h : CacheAt G w0 w A q) : q.l.length ≤ 1000 := by
  obtain ⟨v, hO, _⟩ := h.tab
  exact hO.tab.few
set_option maxRecDepth 100000 in
set_option maxHeartbeats 4000000 in
theorem absent_is (h : CacheAt G w0 w A q) (x : Int) :
    Calls Tryz.prog 39 #[.pointer (some ⟨A.c, 0, none⟩), .int .i64 x] w fun e w' => e = .returned (.bool (absentB q x)) ∧ Below w.heap.size w w' := by
  have HL := Lib.hid (ownG_list _ w0 A.t q.most q.l w h.tab)
  have HC : Hid (∀ w', Below w.heap.size w w' → CacheAt G w0 w' A q) := fun w' hb => h.below hb
  have HSN : Hid (∀ (y : Int) (w' : World), Calls Tryz.prog 82 #[.int .i64 y, .int .i64 (q.n : Nat)] w' fun e w'' => e = .returned (.int .i64 (setNo q.n y)) ∧ w'' = w') := fun y w' => geomSet_is y q.n w' (by rw [← h.len]; exact h.arr.arr.many.1)
  have hm8 := h.few
  obtain ⟨-, -, -, c3⟩ := h.cells
  clear h
  have HLN : Hid (q.l.length = q.l.length) := rfl
  have HAB : Hid (absentB q x = q.l.any (awayB q x)) := rfl
  generalize absentB q x = res at *
  generalize hmL : q.l.length = mL at hm8 HLN
  clear HLN
  have HML := Lib.hid hmL
  clear hmL
  go_enter Tryz.func39, Tryz.ntmps39
  go_wp2_with fail
  refine HL.out.mono ?_
  rintro r w1 ⟨v, rfl, hr, -, hb⟩
  obtain ⟨AL, cL, rfl, hcl⟩ := hr.form
  rw [HML.out]
  have HCL := Lib.hid hcl
  have HB1 := Lib.hid hb
  clear hcl hr hb HL c3
  go_wp2_with fail
  go_loopw [15] (fun v wr => ∃ i : Nat, i ≤ mL ∧ v = .int .i64 i ∧ Hid ((q.l.take i).any (awayB q x) = false) ∧ Hid (Below w1.heap.size w1 wr)) (fun v _ => mL - (intOf v).toNat)
  case atStart => exact ⟨0, by omega, rfl, rfl, Below.refl _ _⟩
  case round =>
    obtain ⟨i, hi, rfl, HT, HB⟩ := hrel
    by_cases hlt : i < mL
    · obtain ⟨⟨y, ky⟩, hm⟩ : ∃ m, q.l[i]? = some m := ⟨_, List.getElem?_eq_getElem (by rw [HML.out]; exact hlt)⟩
      obtain ⟨g, rfl, d0, d1⟩ := HCL.out i _ hm
      have e0 := (HB.out.cell (cell_lt d0)).trans d0
      have e1 := (HB.out.cell (cell_lt d1)).trans d1
      have HM := Lib.hid hm
      clear d0 d1 hm
      have HBW : Hid (Below w.heap.size w wr) := HB1.out.trans (HB.out.mono HB1.out.size)
      go_upto_region 4 with fail
      generalize hW : wr.alloc _ = wa
      have HBA : Hid (Below w.heap.size w wa) := by rw [← hW]; exact HBW.out.alloc HBW.out.size _
      have HB2 : Hid (Below w1.heap.size w1 wa) := by rw [← hW]; exact HB.out.alloc HB.out.size _
      have hbox : wa.heap[wr.heap.size]? = some (.cells #[.int .i64 y, .int .i64 ky] 63 (0, 0)) := by rw [← hW]; exact heap_alloc_new _ _
      have HC2 : Hid (∀ w', Below wa.heap.size wa w' → w'.cell? ⟨A.c, 2, none⟩ = some (.pointer (some ⟨A.a, 0, none⟩)) ∧ w'.cell? ⟨A.c, 1, none⟩ = some (.int .i64 (q.n : Nat)) ∧ w'.cell? ⟨wr.heap.size, 0, none⟩ = some (.int .i64 y)) := fun w' hb => by
        have h1 := (HC.out w' (HBA.out.trans (hb.mono HBA.out.size))).cells
        refine ⟨h1.2.2.1, h1.2.1, ?_⟩
        have := (hb.block _ (lt_of_heap hbox)).trans hbox
        simp [World.cell?, this]
      have hsz : wr.heap.size < wa.heap.size := lt_of_heap hbox
      clear hW hbox e0 e1 HBW HB
      generalize wr.heap.size = b6 at *
      have HGT : Hid (∀ w', Below wa.heap.size wa w' → Calls Tryz.prog 38 #[.pointer (some ⟨A.a, 0, none⟩), .int .i64 y] w' fun e w'' => e = .returned (.tuple #[((getS q.S y).getD Ent.none).val, .bool (getS q.S y).isSome]) ∧ Below wa.heap.size wa w'' ∧ Below w'.heap.size w' w'') := fun w' hb => (c_get (w := w') (HC.out w' (HBA.out.trans (hb.mono HBA.out.size))) y).mono fun e w'' hx => ⟨hx.1, hb.trans (hx.2.mono hb.size), hx.2⟩
      have HAW : Hid (awayB q x (y, ky) = (!(getS q.S y).isSome && (setNo q.n y == setNo q.n x))) := rfl
      generalize getS q.S y = o at *
      generalize o.isSome = is at *
      generalize o.getD Ent.none = e at *
      obtain ⟨el, es, em, ee, e0, e1, e2, e3, eh, ef⟩ := e
      simp only [Ent.val] at *
      go_cut [8] (fun u wx => u = .bool is ∧ Hid (Below wa.heap.size wa wx))
      case first =>
        clear HT HAW HSN HCL HB2
        obtain ⟨p2, -, p3⟩ := HC2.out wa (Below.refl _ _)
        have hsc : A.c < wa.heap.size := World.block_lt_of_cell? wa _ p2
        have hx : ∀ (W : World) (o : Nat) (u : Value), (W.setCell ⟨wa.heap.size, o, none⟩ u).cell? ⟨A.c, 2, none⟩ = W.cell? ⟨A.c, 2, none⟩ := fun W o u => World.cell?_setCell_other W _ _ u (by simp)
        have hy : ∀ (W : World) (o : Nat) (u : Value), (W.setCell ⟨wa.heap.size, o, none⟩ u).cell? ⟨b6, 0, none⟩ = W.cell? ⟨b6, 0, none⟩ := fun W o u => World.cell?_setCell_other W _ _ u (by simp)
        go_region_held3 (fun w' => w'.cell? ⟨A.c, 2, none⟩ = some (.pointer (some ⟨A.a, 0, none⟩)) ∧ w'.cell? ⟨b6, 0, none⟩ = some (.int .i64 y)) (go_keep)
          (first | (go_at_call 38; refine (HGT.out _ ?_).mono ?_; (repeat (first | exact Below.refl _ _ | refine Below.alloc ?_ (by simp) _ | refine Below.drew ?_)); rintro r w3 ⟨rfl, hbw, hb⟩; have p2 := (HC2.out _ hbw).1; have p3 := (HC2.out _ hbw).2.2; have HBW3 := Lib.hid hbw; clear hbw; (try (have hz := zero_after hb; have hfz : ∀ c, w3.frozen? ⟨wa.heap.size, c, none⟩ = false := fun c => nofreeze hz; obtain ⟨g0, g1, g2, g3, g4, g5, g6, g7, g8, g9⟩ := box_cells hz; clear hz)); clear hb))
        · go_wp2_with fail
          go_meet
          exact ⟨rfl, HBW3.out.alloc HBW3.out.size _⟩
        · go_wp2_with fail
          go_meet
          exact ⟨rfl, below_fill HBW3.out (Nat.le_refl _) el es em ee e0 e1 e2 e3 eh ef⟩
      case rest =>
        obtain ⟨rfl, HB3⟩ := hcut
        have HB3 : Hid _ := HB3
        clear HGT
        obtain ⟨-, p1, p3⟩ := HC2.out wc HB3.out
        have HSY : Hid (∀ w', _) := fun w' => HSN.out y w'
        have HSX : Hid (∀ w', _) := fun w' => HSN.out x w'
        have HB4 : Hid (∀ nd, Below w1.heap.size w1 (wc.drewN nd) ∧ Below w.heap.size w (wc.drewN nd)) := fun nd => by
          have h1 := HB3.out.trans (below_drewN wa.heap.size wc nd)
          exact ⟨HB2.out.trans (h1.mono HB2.out.size), HBA.out.trans (h1.mono HBA.out.size)⟩
        have HTK := Lib.hid (any_take (awayB q x) q.l i _ HM.out)
        have HFD := Lib.hid (any_found (awayB q x) q.l i _ HM.out)
        generalize awayB q x (y, ky) = aw at *
        generalize setNo q.n y = sy at *
        generalize setNo q.n x = sx at *
        clear HC2 HB3 HB2 HBA HM
        cases is with
        | true =>
          have ha : aw = false := HAW.out
          subst ha
          have HT2 : Hid ((q.l.take (i + 1)).any (awayB q x) = false) := by show _ = _; rw [HTK.out, HT.out]; rfl
          clear HAW HTK HFD HT
          go_wp2_with fail
          go_quiet (fail)
          go_wp2_with fail
          go_roundw
          case rel => exact ⟨i + 1, by omega, by go_num, HT2, (HB4.out _).1⟩
          case measure => simp [intOf]; omega
        | false =>
          by_cases hs : sy = sx
          · subst hs
            have ha : aw = true := by rw [HAW.out]; simp
            subst ha
            have HRS : Hid (res = true) := by show _ = _; rw [HAB.out]; exact HFD.out rfl
            clear HAW HTK HFD HT HAB
            go_wp2_with fail
            go_quiet (first | (go_at_call 82; (with_reducible refine Calls.quiet_of_same (HSY.out _))) | (go_at_call 82; (with_reducible refine Calls.quiet_of_same (HSX.out _))))
            go_wp2_with fail
            go_ret
            exact ⟨by rw [HRS.out]; rfl, (HB4.out _).2⟩
          · have hsb : (sy == sx) = false := by simpa using hs
            have ha : aw = false := by rw [HAW.out, hsb]; rfl
            subst ha
            have HT2 : Hid ((q.l.take (i + 1)).any (awayB q x) = false) := by show _ = _; rw [HTK.out, HT.out]; rfl
            clear HAW HTK HFD HT
            go_wp2_with fail
            go_quiet (first | (go_at_call 82; (with_reducible refine Calls.quiet_of_same (HSY.out _))) | (go_at_call 82; (with_reducible refine Calls.quiet_of_same (HSX.out _))))
            go_wp2_with fail
            go_roundw
            case rel => exact ⟨i + 1, by omega, by go_num, HT2, (HB4.out _).1⟩
            case measure => simp [intOf]; omega
    · have HRS : Hid (res = false) := by
        show _ = _
        rw [HAB.out, ← HT.out, List.take_of_length_le (by rw [HML.out]; omega)]
      have HBW : Hid (Below w.heap.size w wr) := HB1.out.trans (HB.out.mono HB1.out.size)
      clear HT HAB
      go_wp2_with fail
      go_ret
      exact ⟨by rw [HRS.out]; rfl, HBW.out⟩
end
end Go.Proofs.YtfaihaknibmcpaaGreatDoor
namespace Go.Proofs.YtfaihaknibmcpaaGreatDoor
open Go.RowKit Go.Extern.Stop Go.Stop Go.Extern Go.Proofs.YtfaihaknibmcpaaGreatDoor.PCacheFull Go.Proofs.YtfaihaknibmcpaaGreatDoorW.PrintWords

/-- A Fault of Want's, over another error. -/
def faultIn (x : Int) (v : Value) : Value := .iface 91 (.agg #[.string ⟨#[99, 97, 99, 104, 101, 46, 87, 97, 110, 116]⟩, .int .i64 x, v])
def sentV (a : Addr) : Value := .iface 195 (.pointer (some a))
theorem wrap_want (x : Int) (t : TypeId) (v : Value) (w : World) : Calls Tryz.prog 34 #[.string ⟨#[99, 97, 99, 104, 101, 46, 87, 97, 110, 116]⟩, .int .i64 x, .iface t v] w fun e w' => e = .returned (faultIn x (.iface t v)) ∧ Below w.heap.size w w' := wrap_some _ x t v w
def victimQ (q : CSt) (x : Int) : Int := victimS q.k q.S x (q.l.map (·.1))
def evictCode (q : CSt) (x : Int) : Nat := addCode q.most q.l (victimQ q x) 4
def evictTo (q : CSt) (x : Int) : CSt := if victimQ q x < 0 then q else { q with l := addL q.most q.l (victimQ q x) 4 }
def evictErr (ad : Nat → Addr) (q : CSt) (x : Int) : Value := if victimQ q x < 0 then faultIn x (sentV (ad 6)) else if evictCode q x = 0 then .nilIface else faultIn x (sayAdd (victimQ q x) (ad (evictCode q x)))
def evictSays (q : CSt) (x : Int) : Mg := if victimQ q x < 0 then Mg.zero else if evictCode q x = 0 then { Mg.zero with kind := 4, core := q.core, line := victimQ q x } else Mg.zero
theorem addSays_ok {ad : Nat → Addr} {most : Nat} {l : List (Int × Int)} {x k : Int} (h : addCode most l x k = 0) : addSays ad most l x k = .nilIface := by unfold addSays; rw [if_pos h]
theorem addSays_no {ad : Nat → Addr} {most : Nat} {l : List (Int × Int)} {x k : Int} (h : addCode most l x k ≠ 0) : addSays ad most l x k = sayAdd x (ad (addCode most l x k)) := by unfold addSays; rw [if_neg h]
theorem addL_no {most : Nat} {l : List (Int × Int)} {x k : Int} (h : addCode most l x k ≠ 0) : addL most l x k = l := by unfold addL; rw [if_neg h]
theorem sayAdd_form (x : Int) (a : Addr) : ∃ v, sayAdd x a = .iface 91 v := ⟨_, rfl⟩
theorem rising_few {l : List (Int × Int)} (h : Rising l) : l.length ≤ 32 := by
  have key : ∀ (l : List (Int × Int)) (a : Int), (l.Pairwise fun a b => a.1 < b.1) → (∀ m ∈ l, a ≤ m.1 ∧ m.1 < 32) → a ≤ 32 → (l.length : Int) ≤ 32 - a := by
    intro l
    induction l with
    | nil => intro a _ _ ha; simp; omega
    | cons m l ih =>
      intro a hp hm ha
      obtain ⟨h1, h2⟩ := List.pairwise_cons.1 hp
      have h3 := hm m (by simp)
      have := ih (m.1 + 1) h2 (fun b hb => ⟨by have := h1 b hb; omega, (hm b (by simp [hb])).2⟩) (by omega)
      simp
      omega
  have := key l 0 h.1 h.2 (by omega)
  omega
section
variable {G : Nat → Prop} {w0 w : World} {A : CAddr} {q : CSt}
set_option maxRecDepth 100000 in
set_option maxHeartbeats 4000000 in
theorem evict_is (h : CacheAt G w0 w A q) (ad : Nat → Addr) (HSE : Sents w0 ad) (x : Int) :
    Calls Tryz.prog 41 #[.pointer (some ⟨A.c, 0, none⟩), .int .i64 x] w fun e w' => e = .returned (.tuple #[(evictSays q x).val, evictErr ad q x]) ∧ CacheAt G w0 w' A (evictTo q x) ∧ ∀ k, G k → w'.heap[k]? = w.heap[k]? := by
  have HS := Lib.hid HSE
  have F0 := Lib.hid (FrameAt.start h)
  have hlen : Hid (q.l.length < 1000) := by
    have h1 := rising_few h.rise
    show _ < _
    omega
  clear h HSE
  have HV : Hid (victimQ q x = victimS q.k q.S x (q.l.map (·.1))) := rfl
  have HC : Hid (evictCode q x = addCode q.most q.l (victimQ q x) 4) := rfl
  have HT : Hid (evictTo q x = if victimQ q x < 0 then q else { q with l := addL q.most q.l (victimQ q x) 4 }) := rfl
  have HE : Hid (evictErr ad q x = if victimQ q x < 0 then faultIn x (sentV (ad 6)) else if evictCode q x = 0 then .nilIface else faultIn x (sayAdd (victimQ q x) (ad (evictCode q x)))) := rfl
  have HY : Hid (evictSays q x = if victimQ q x < 0 then Mg.zero else if evictCode q x = 0 then { Mg.zero with kind := 4, core := q.core, line := victimQ q x } else Mg.zero) := rfl
  generalize evictTo q x = rt at *
  generalize evictErr ad q x = er at *
  generalize evictSays q x = sy at *
  generalize evictCode q x = cd at *
  generalize victimQ q x = vq at *
  have HONE : Hid (∀ m : Mg, (m.cells.toArray.all fun x => x.oneCell') = true) := fun m => all_oneCell_toArray (msg_one m)
  have HWR : Hid (∀ (t : TypeId) (v : Value) (w : World), _) := fun t v w => wrap_want x t v w
  go_enter Tryz.func41, Tryz.ntmps41
  obtain ⟨-, -, -, c3⟩ := F0.out.cache.cells
  have nc := lt_of_heap F0.out.cache.box
  have b3 : ∀ o, (w.alloc o).cell? ⟨A.c, 3, none⟩ = some (.pointer (some ⟨A.t, 0, none⟩)) := fun o => by rw [World.cell?_alloc_lt _ _ _ nc]; exact c3
  clear c3
  go_upto_region 2 with fail
  generalize hW : w.alloc _ = wa
  have F1 : Hid (FrameAt G w0 w wa A q [⟨w.heap.size, Mg.zero.cells.toArray, 34⟩]) := by
    rw [← hW]
    exact F0.out.push ((Below.refl _ _).alloc (Nat.le_refl _) _) w.heap.size Mg.zero.cells.toArray 34 (heap_alloc_new _ _) (Nat.le_refl _)
  have c3 : wa.cell? ⟨A.c, 3, none⟩ = some (.pointer (some ⟨A.t, 0, none⟩)) := F1.out.cache.cells.2.2.2
  clear hW F0 b3 nc
  generalize w.heap.size = b4 at *
  go_wp2_with fail
  refine (ownG_list _ w0 A.t q.most q.l wa F1.out.cache.tab).mono ?_
  rintro r w1 ⟨v, rfl, hr, -, hb⟩
  obtain ⟨AL, cL, rfl, hcl⟩ := hr.form
  have HCL := Lib.hid hcl
  have F2 := Lib.hid (F1.out.below hb)
  clear hcl hr hb F1 c3
  generalize hmL : q.l.length = mL at *
  have HML := Lib.hid hmL
  clear hmL
  have hm8 : mL < 1000 := hlen.out
  go_wp2_with fail
  go_loopw [6, 17] (fun v u wr => ∃ i : Nat, i ≤ mL ∧ u = .int .i64 i ∧ Hid (IntRow w1.heap.size wr v ((q.l.take i).map (·.1))) ∧ Hid (Below w1.heap.size w1 wr)) (fun _ u _ => mL - (intOf u).toNat)
  case atStart => exact ⟨0, by omega, rfl, IntRow.nil _ _, Below.refl _ _⟩
  case round =>
    obtain ⟨i, hi, rfl, HR, HB⟩ := hrel
    by_cases hlt : i < mL
    · obtain ⟨⟨y, ky⟩, hm⟩ : ∃ m, q.l[i]? = some m := ⟨_, List.getElem?_eq_getElem (by rw [HML.out]; exact hlt)⟩
      obtain ⟨g, rfl, d0, d1⟩ := HCL.out i _ hm
      have e0 := (HB.out.cell (cell_lt d0)).trans d0
      have e1 := (HB.out.cell (cell_lt d1)).trans d1
      have HLL : Hid ((q.l.take i).map (·.1) ++ [y] = (q.l.take (i + 1)).map (·.1)) := by
        show _ = _
        obtain ⟨h1, h2⟩ := List.getElem?_eq_some_iff.1 hm
        rw [List.take_succ_eq_append_getElem h1, List.map_append, h2]
        rfl
      have HLN : Hid (((q.l.take i).map (·.1)).length < 1000) := by
        have := hlen.out
        show _ < _
        rw [List.length_map, List.length_take]
        omega
      clear d0 d1 hm
      go_upto_region 5 with fail
      generalize hW : wr.alloc _ = wb
      have HB2 : Hid (Below w1.heap.size w1 wb) := by rw [← hW]; exact HB.out.alloc HB.out.size _
      have HR2 : Hid (IntRow w1.heap.size wb u6 ((q.l.take i).map (·.1))) := by rw [← hW]; exact HR.out.below ((Below.refl _ _).alloc (Nat.le_refl _) _)
      have hbox : wb.heap[wr.heap.size]? = some (.cells #[.int .i64 y, .int .i64 ky] 63 (0, 0)) := by rw [← hW]; exact heap_alloc_new _ _
      have g0 : wb.cell? ⟨wr.heap.size, 0, none⟩ = some (.int .i64 y) := by simp [World.cell?, hbox]
      clear hW hbox e0 e1 HB HR
      generalize wr.heap.size = b6 at *
      have HN1 : Hid (∀ o, Below w1.heap.size w1 (wb.alloc o) ∧ IntRow w1.heap.size (wb.alloc o) u6 ((q.l.take i).map (·.1))) := fun o => by
        have hb := (Below.refl wb.heap.size wb).alloc (Nat.le_refl _) o
        exact ⟨HB2.out.trans (hb.mono HB2.out.size), HR2.out.below hb⟩
      have HNC : Hid ((wb.alloc (.cells #[.int .i64 y] 3)).cell? ⟨wb.heap.size, 0, none⟩ = some (.int .i64 y)) := new_at rfl 0 (.int .i64 y) rfl
      clear HR2 HB2
      go_wp2_with (at_builtin; refine wpList_append_int rfl (.tmp 21) (.tmp 24) rfl w1.heap.size _ ((q.l.take i).map (·.1)) rfl (HN1.out _).2 wb.heap.size y rfl HNC.out HLN.out (HN1.out _).1.size ?_; intro v' w2 hr hT; have HR3 := Lib.hid hr; have HB3 := Lib.hid ((HN1.out _).1.trans (hT.below (HN1.out _).1.size fun q hq e => by omega)); clear hr hT)
      rw [HLL.out] at HR3
      clear HN1 HNC HLL HLN g0
      go_roundw
      case rel => exact ⟨i + 1, by omega, by go_num, HR3, HB3⟩
      case measure => simp [intOf]; omega
    · have hR : IntRow w1.heap.size wr u6 (q.l.map (·.1)) := by
        have := HR.out
        rw [List.take_of_length_le (by rw [HML.out]; omega)] at this
        exact this
      have F3 := Lib.hid (F2.out.below HB.out)
      have hL2 : (q.l.map (·.1)).length < 1000 := by rw [List.length_map, HML.out]; exact hlen.out
      obtain ⟨A', cp, rfl, hcp, hC, -⟩ := hR.shape
      have HVC := Lib.hid (tot_victim F3.out.cache.arr x A' cp _ hC hcp hL2)
      rw [← HV.out] at HVC
      obtain ⟨-, -, c2, -⟩ := F3.out.cache.cells
      clear hR hC hcp hL2 HR HB F2 HV hlen HML HCL
      generalize (q.l.map (·.1)).length = zl at *
      go_wp2_with fail
      refine HVC.out.mono ?_
      rintro r w4 ⟨rfl, hb⟩
      have F4 := Lib.hid (F3.out.below hb)
      clear hb F3 c2 HVC
      by_cases hv : vq < 0
      · have e1 : sy = Mg.zero := by rw [HY.out, if_pos hv]
        have e2 : er = faultIn x (sentV (ad 6)) := by rw [HE.out, if_pos hv]
        have e3 : rt = q := by rw [HT.out, if_pos hv]
        subst e1 e2 e3
        clear HY HE HT HC
        have s6 := (HS.out.of_below F4.out.cache.base).c6
        go_wp2_with fail
        refine (HWR.out _ _ _).mono ?_
        rintro r w5 ⟨rfl, hb⟩
        have F5 := Lib.hid (F4.out.below hb)
        have h4 := F5.out.at 0 rfl
        clear hb F4 s6 HWR
        go_wp2_with (refine wpList_store_row rfl 34 (.tmp 4) (.tmp 36) rfl b4 Mg.zero.cells.toArray rfl rfl 34 _ h4 Tryz.sizeMsg rfl (HONE.out _) ?_)
        have F6 := Lib.hid (F5.out.setRow 0 b4 _ _ rfl Mg.zero.cells.toArray)
        exact ⟨rfl, _, ret_msg Tryz.results41 _ _ _ _ rfl (F6.out.at 0 rfl) rfl, rfl, F6.out.finish.1, F6.out.finish.2⟩
      · have hv' : decide (vq < 0) = false := by simpa using hv
        have HY2 : Hid (sy = if cd = 0 then { Mg.zero with kind := 4, core := q.core, line := vq } else Mg.zero) := by show _ = _; rw [HY.out, if_neg hv]
        have HE2 : Hid (er = if cd = 0 then .nilIface else faultIn x (sayAdd vq (ad cd))) := by show _ = _; rw [HE.out, if_neg hv]
        have HT2 : Hid (rt = { q with l := addL q.most q.l vq 4 }) := by show _ = _; rw [HT.out, if_neg hv]
        clear hv HY HE HT
        obtain ⟨-, -, -, c3⟩ := F4.out.cache.cells
        go_wp2_with fail
        refine (c_add F4.out.cache ad HS.out vq 4).mono ?_
        rintro r w5 ⟨rfl, hA, hk⟩
        have F5 := Lib.hid (F4.out.step hA hk)
        clear hA hk F4 c3
        by_cases hcd : addCode q.most q.l vq 4 = 0
        · have e1 : sy = { Mg.zero with kind := 4, core := q.core, line := vq } := by rw [HY2.out, HC.out, if_pos hcd]
          have e2 : er = .nilIface := by rw [HE2.out, HC.out, if_pos hcd]
          have e3 : rt = { q with l := addL q.most q.l vq 4 } := by exact HT2.out
          rw [addSays_ok hcd]
          subst e1 e2 e3
          clear HY2 HE2 HT2 HC hcd hv' HWR
          obtain ⟨c0, -, -, -⟩ := F5.out.cache.cells
          have h4 := F5.out.at 0 rfl
          go_wp2_with (refine wpList_store_row rfl 34 (.tmp 4) (.tmp 57) rfl b4 (Mg.cells { Mg.zero with kind := 4, core := q.core, line := vq }).toArray rfl rfl 34 _ h4 Tryz.sizeMsg rfl (HONE.out _) ?_)
          have F6 := Lib.hid (F5.out.setRow 0 b4 _ _ rfl (Mg.cells { Mg.zero with kind := 4, core := q.core, line := vq }).toArray)
          exact ⟨rfl, _, ret_msg Tryz.results41 _ _ _ _ rfl (F6.out.at 0 rfl) rfl, rfl, F6.out.finish.1, F6.out.finish.2⟩
        · have e1 : sy = Mg.zero := by rw [HY2.out, HC.out, if_neg hcd]
          have e2 : er = faultIn x (sayAdd vq (ad (addCode q.most q.l vq 4))) := by rw [HE2.out, HC.out, if_neg hcd]
          have e3 : rt = { q with l := addL q.most q.l vq 4 } := by exact HT2.out
          rw [addSays_no hcd]
          generalize ad (addCode q.most q.l vq 4) = av at *
          obtain ⟨pv, hpv⟩ := sayAdd_form vq av
          rw [hpv] at e2 ⊢
          subst e1 e2 e3
          have he1 := fun w : World => run_neq_held_nil (P := Tryz.prog) w 25 91 pv (by kernel_rfl)
          clear HY2 HE2 HT2 HC hcd hv' hpv
          go_wp2_with fail
          refine (HWR.out _ _ _).mono ?_
          rintro r w6 ⟨rfl, hb⟩
          have F6 := Lib.hid (F5.out.below hb)
          have h4 := F6.out.at 0 rfl
          clear hb F5 HWR
          go_wp2_with (refine wpList_store_row rfl 34 (.tmp 4) (.tmp 48) rfl b4 Mg.zero.cells.toArray rfl rfl 34 _ h4 Tryz.sizeMsg rfl (HONE.out _) ?_)
          have F7 := Lib.hid (F6.out.setRow 0 b4 _ _ rfl Mg.zero.cells.toArray)
          exact ⟨rfl, _, ret_msg Tryz.results41 _ _ _ _ rfl (F7.out.at 0 rfl) rfl, rfl, F7.out.finish.1, F7.out.finish.2⟩
end
end Go.Proofs.YtfaihaknibmcpaaGreatDoor
namespace Go.Proofs.YtfaihaknibmcpaaGreatDoor
open Go.RowKit Go.Extern.Stop Go.Stop Go.Extern Go.Proofs.YtfaihaknibmcpaaGreatDoor.PCacheFull Go.Proofs.YtfaihaknibmcpaaGreatDoorW.PrintWords

def badB (x kind wd : Int) : Bool := decide (x < 0) || (decide (32 ≤ x) || (decide (kind < 1) || (decide (3 < kind) || (decide (wd < 0) || decide (4 ≤ wd)))))
def wantKind (q : CSt) (x kind : Int) : Int := if (decide (kind = 3) && !((getS q.S x).isSome && decide (((getS q.S x).getD Ent.none).mode = 2))) = true then 2 else kind
/-- 0: it is asked for; 2: a line is asked to go; else the code of what is told. -/
def wantWay (q : CSt) (x kind wd : Int) : Nat :=
  if badB x kind wd = true then 1 else if has x q.l = true then 7 else if (getS q.S x).isSome = true then (if kind = 1 then 7 else 0) else if absentB q x = true then 7 else if roomS q.S x = true then 0 else 2
def askM (c x k wd v : Int) : Mg := if k = 3 then { Mg.zero with kind := 3, core := c, line := x, word := wd, value := v } else if k = 2 then { Mg.zero with kind := 2, core := c, line := x } else { Mg.zero with kind := 1, core := c, line := x }
def wantTo (q : CSt) (x kind wd : Int) : CSt := if wantWay q x kind wd = 0 then { q with l := addL q.most q.l x (wantKind q x kind) } else if wantWay q x kind wd = 2 then evictTo q x else q
def wantErr (ad : Nat → Addr) (q : CSt) (x kind wd : Int) : Value := if wantWay q x kind wd = 0 then (if addCode q.most q.l x (wantKind q x kind) = 0 then .nilIface else faultIn x (sayAdd x (ad (addCode q.most q.l x (wantKind q x kind))))) else if wantWay q x kind wd = 2 then evictErr ad q x else faultIn x (sentV (ad (wantWay q x kind wd)))
def wantSays (q : CSt) (x kind wd v : Int) : Mg := if wantWay q x kind wd = 0 then (if addCode q.most q.l x (wantKind q x kind) = 0 then askM q.core x (wantKind q x kind) wd v else Mg.zero) else if wantWay q x kind wd = 2 then evictSays q x else Mg.zero
theorem add_kind {most : Nat} {l : List (Int × Int)} {x k : Int} (h : addCode most l x k = 0) : 1 ≤ k ∧ k ≤ 4 := by
  unfold addCode at h
  split at h
  · cases h
  · omega
section
variable {G : Nat → Prop} {w0 w : World} {A : CAddr} {q : CSt}
set_option maxRecDepth 100000 in
set_option maxHeartbeats 4000000 in
theorem want_is (h : CacheAt G w0 w A q) (ad : Nat → Addr) (HSE : Sents w0 ad) (x kind wd v : Int) :
    Calls Tryz.prog 12 #[.pointer (some ⟨A.c, 0, none⟩), .int .i64 x, .int .i64 kind, .int .i64 wd, .int .u32 v] w fun e w' => e = .returned (.tuple #[(wantSays q x kind wd v).val, wantErr ad q x kind wd]) ∧ CacheAt G w0 w' A (wantTo q x kind wd) ∧ ∀ k, G k → w'.heap[k]? = w.heap[k]? := by
  have HS := Lib.hid HSE
  have F0 := Lib.hid (FrameAt.start h)
  clear h HSE
  have HT : Hid (wantTo q x kind wd = if wantWay q x kind wd = 0 then { q with l := addL q.most q.l x (wantKind q x kind) } else if wantWay q x kind wd = 2 then evictTo q x else q) := rfl
  have HE : Hid (wantErr ad q x kind wd = if wantWay q x kind wd = 0 then (if addCode q.most q.l x (wantKind q x kind) = 0 then .nilIface else faultIn x (sayAdd x (ad (addCode q.most q.l x (wantKind q x kind))))) else if wantWay q x kind wd = 2 then evictErr ad q x else faultIn x (sentV (ad (wantWay q x kind wd)))) := rfl
  have HY : Hid (wantSays q x kind wd v = if wantWay q x kind wd = 0 then (if addCode q.most q.l x (wantKind q x kind) = 0 then askM q.core x (wantKind q x kind) wd v else Mg.zero) else if wantWay q x kind wd = 2 then evictSays q x else Mg.zero) := rfl
  have HW : Hid (wantWay q x kind wd = if badB x kind wd = true then 1 else if has x q.l = true then 7 else if (getS q.S x).isSome = true then (if kind = 1 then 7 else 0) else if absentB q x = true then 7 else if roomS q.S x = true then 0 else 2) := rfl
  have HKD : Hid (wantKind q x kind = if (decide (kind = 3) && !((getS q.S x).isSome && decide (((getS q.S x).getD Ent.none).mode = 2))) = true then 2 else kind) := rfl
  generalize wantTo q x kind wd = rt at *
  generalize wantErr ad q x kind wd = er at *
  generalize wantSays q x kind wd v = sy at *
  generalize wantWay q x kind wd = wy at *
  generalize wantKind q x kind = kd at *
  have HONE : Hid (∀ m : Mg, (m.cells.toArray.all fun x => x.oneCell') = true) := fun m => all_oneCell_toArray (msg_one m)
  have HWR : Hid (∀ (t : TypeId) (v : Value) (w : World), _) := fun t v w => wrap_want x t v w
  have HBD : Hid (badB x kind wd = (decide (x < 0) || (decide (32 ≤ x) || (decide (kind < 1) || (decide (3 < kind) || (decide (wd < 0) || decide (4 ≤ wd))))))) := rfl
  generalize badB x kind wd = bd at *
  go_enter Tryz.func12, Tryz.ntmps12
  go_upto_region 1 with fail
  generalize hW : w.alloc _ = wa
  have F1 : Hid (FrameAt G w0 w wa A q [⟨w.heap.size, Mg.zero.cells.toArray, 34⟩]) := by
    rw [← hW]
    exact F0.out.push ((Below.refl _ _).alloc (Nat.le_refl _) _) w.heap.size Mg.zero.cells.toArray 34 (heap_alloc_new _ _) (Nat.le_refl _)
  clear hW F0
  generalize w.heap.size = b10 at *
  go_cut [39] (fun u wx => u = .bool bd ∧ wx = wa)
  case first =>
    clear HT HE HY HW HKD
    by_cases a1 : x < 0
    · have e : bd = true := by rw [HBD.out]; simp [a1]
      subst e
      clear HBD
      go_wp2_with fail
      go_meet
      exact ⟨rfl, rfl⟩
    · by_cases a2 : 32 ≤ x
      · have e : bd = true := by rw [HBD.out]; simp [a2]
        subst e
        clear HBD
        go_wp2_with fail
        go_meet
        exact ⟨rfl, rfl⟩
      · by_cases a3 : kind < 1
        · have e : bd = true := by rw [HBD.out]; simp [a3]
          subst e
          clear HBD
          go_wp2_with fail
          go_meet
          exact ⟨rfl, rfl⟩
        · by_cases a4 : 3 < kind
          · have e : bd = true := by rw [HBD.out]; simp [a4]
            subst e
            clear HBD
            go_wp2_with fail
            go_meet
            exact ⟨rfl, rfl⟩
          · by_cases a5 : wd < 0
            · have e : bd = true := by rw [HBD.out]; simp [a5]
              subst e
              clear HBD
              go_wp2_with fail
              go_meet
              exact ⟨rfl, rfl⟩
            · by_cases a6 : 4 ≤ wd
              · have e : bd = true := by rw [HBD.out]; simp [a6]
                subst e
                clear HBD
                go_wp2_with fail
                go_meet
                exact ⟨rfl, rfl⟩
              · have e : bd = false := by rw [HBD.out]; simp [a1, a2, a3, a4, a5, a6]
                subst e
                clear HBD
                go_wp2_with fail
                go_meet
                exact ⟨rfl, rfl⟩
  case rest =>
    obtain ⟨rfl, rfl⟩ := hcut
    clear HBD
    cases bd with
    | true =>
      have e0 : wy = 1 := by rw [HW.out]; rfl
      have e1 : sy = Mg.zero := by rw [HY.out, e0]; rfl
      have e2 : er = faultIn x (sentV (ad 1)) := by rw [HE.out, e0]; rfl
      have e3 : rt = q := by rw [HT.out, e0]; rfl
      subst e0 e1 e2 e3
      clear HT HE HY HW HKD
      have s1 := (HS.out.of_below F1.out.cache.base).c1
      go_wp2_with fail
      refine (HWR.out _ _ _).mono ?_
      rintro r w5 ⟨rfl, hb⟩
      have F5 := Lib.hid (F1.out.below hb)
      have h4 := F5.out.at 0 rfl
      clear hb F1 s1 HWR
      go_wp2_with (refine wpList_store_row rfl 34 (.tmp 10) (.tmp 40) rfl b10 Mg.zero.cells.toArray rfl rfl 34 _ h4 Tryz.sizeMsg rfl (HONE.out _) ?_)
      have F6 := Lib.hid (F5.out.setRow 0 b10 _ _ rfl Mg.zero.cells.toArray)
      exact ⟨rfl, _, ret_msg Tryz.results12 _ _ _ _ rfl (F6.out.at 0 rfl) rfl, rfl, F6.out.finish.1, F6.out.finish.2⟩
    | false =>
      have HW2 : Hid (wy = if has x q.l = true then 7 else if (getS q.S x).isSome = true then (if kind = 1 then 7 else 0) else if absentB q x = true then 7 else if roomS q.S x = true then 0 else 2) := HW.out
      have HU := Lib.hid (c_under F1.out.cache x)
      clear HW
      generalize has x q.l = hs at *
      obtain ⟨-, -, -, c3⟩ := F1.out.cache.cells
      go_wp2_with fail
      refine HU.out.mono ?_
      rintro r w2 ⟨rfl, hb⟩
      have F2 := Lib.hid (F1.out.below hb)
      clear hb F1 HU c3
      cases hs with
      | true =>
        have e0 : wy = 7 := by rw [HW2.out]; rfl
        have e1 : sy = Mg.zero := by rw [HY.out, e0]; rfl
        have e2 : er = faultIn x (sentV (ad 7)) := by rw [HE.out, e0]; rfl
        have e3 : rt = q := by rw [HT.out, e0]; rfl
        subst e0 e1 e2 e3
        clear HT HE HY HW2 HKD
        have s1 := (HS.out.of_below F2.out.cache.base).c7
        go_wp2_with fail
        refine (HWR.out _ _ _).mono ?_
        rintro r w5 ⟨rfl, hb⟩
        have F5 := Lib.hid (F2.out.below hb)
        have h4 := F5.out.at 0 rfl
        clear hb F2 s1 HWR
        go_wp2_with (refine wpList_store_row rfl 34 (.tmp 10) (.tmp 54) rfl b10 Mg.zero.cells.toArray rfl rfl 34 _ h4 Tryz.sizeMsg rfl (HONE.out _) ?_)
        have F6 := Lib.hid (F5.out.setRow 0 b10 _ _ rfl Mg.zero.cells.toArray)
        exact ⟨rfl, _, ret_msg Tryz.results12 _ _ _ _ rfl (F6.out.at 0 rfl) rfl, rfl, F6.out.finish.1, F6.out.finish.2⟩
      | false =>
        have HW3 : Hid (wy = if (getS q.S x).isSome = true then (if kind = 1 then 7 else 0) else if absentB q x = true then 7 else if roomS q.S x = true then 0 else 2) := HW2.out
        have HG := Lib.hid (c_get F2.out.cache x)
        clear HW2
        generalize getS q.S x = o at *
        generalize o.isSome = is at *
        generalize o.getD Ent.none = e at *
        obtain ⟨el, es, em, ee, e0, e1, e2, e3, eh, ef⟩ := e
        simp only [Ent.val] at *
        obtain ⟨-, -, c2, -⟩ := F2.out.cache.cells
        go_wp2_with fail
        refine HG.out.mono ?_
        rintro r w3 ⟨rfl, hb⟩
        have F3 := Lib.hid (F2.out.below hb)
        clear hb F2 HG c2
        go_upto_region 7 with fail
        generalize hW : w3.alloc _ = wb
        have F4 : Hid (FrameAt G w0 w wb A q [⟨w3.heap.size, (Ent.cells ⟨el, es, em, ee, e0, e1, e2, e3, eh, ef⟩).toArray, 65⟩, ⟨b10, Mg.zero.cells.toArray, 34⟩]) := by
          rw [← hW]
          exact F3.out.push ((Below.refl _ _).alloc (Nat.le_refl _) _) w3.heap.size _ _ (heap_alloc_new _ _) (Nat.le_refl _)
        clear hW F3
        generalize w3.heap.size = b14 at *
        go_cut [71] (fun u wx => u = .bool (is && decide (kind = 1)) ∧ wx = wb)
        case first =>
          by_cases hk : kind = 1
          · subst hk
            cases is
            all_goals
              go_wp2_with fail
              go_meet
              exact ⟨rfl, rfl⟩
          · have hd : decide (kind = 1) = false := by simpa using hk
            have hb : (kind == 1) = false := by simpa using hk
            have HD := Lib.hid hd
            clear hd
            cases is
            all_goals
              go_wp2_with fail
              go_meet
              exact ⟨by rw [HD.out]; rfl, rfl⟩
        case rest =>
          obtain ⟨rfl, rfl⟩ := hcut
          cases hb1 : (is && decide (kind = 1)) with
          | true =>
            have e0 : wy = 7 := by
              simp at hb1
              rw [HW3.out, hb1.1, hb1.2]; rfl
            have e1 : sy = Mg.zero := by rw [HY.out, e0]; rfl
            have e2 : er = faultIn x (sentV (ad 7)) := by rw [HE.out, e0]; rfl
            have e3 : rt = q := by rw [HT.out, e0]; rfl
            subst e0 e1 e2 e3
            clear HT HE HY HW3 HKD hb1
            have s1 := (HS.out.of_below F4.out.cache.base).c7
            go_wp2_with fail
            refine (HWR.out _ _ _).mono ?_
            rintro r w5 ⟨rfl, hb⟩
            have F5 := Lib.hid (F4.out.below hb)
            have h4 := F5.out.at 1 rfl
            clear hb F4 s1 HWR
            go_wp2_with (refine wpList_store_row rfl 34 (.tmp 10) (.tmp 72) rfl b10 Mg.zero.cells.toArray rfl rfl 34 _ h4 Tryz.sizeMsg rfl (HONE.out _) ?_)
            have F6 := Lib.hid (F5.out.setRow 1 b10 _ _ rfl Mg.zero.cells.toArray)
            exact ⟨rfl, _, ret_msg Tryz.results12 _ _ _ _ rfl (F6.out.at 1 rfl) rfl, rfl, F6.out.finish.1, F6.out.finish.2⟩
          | false =>
            have HB1 := Lib.hid hb1
            clear hb1
            go_upto_if 77 with fail
            go_cut [] (fun wx => Hid (wy = 0) ∧ Hid (FrameAt G w0 w wx A q [⟨b14, (Ent.cells ⟨el, es, em, ee, e0, e1, e2, e3, eh, ef⟩).toArray, 65⟩, ⟨b10, Mg.zero.cells.toArray, 34⟩]))
            case first =>
              cases is with
              | true =>
                have hwy : wy = 0 := by
                  have h1 := HB1.out
                  simp at h1
                  rw [HW3.out, if_pos rfl, if_neg h1]
                have HWY := Lib.hid hwy
                clear hwy
                go_wp2_with fail
                go_meet
                exact ⟨HWY, F4⟩
              | false =>
                have HW4 : Hid (wy = if absentB q x = true then 7 else if roomS q.S x = true then 0 else 2) := HW3.out
                have HAB := Lib.hid (absent_is F4.out.cache x)
                clear HB1 HW3
                generalize absentB q x = ab at *
                go_wp2_with fail
                refine HAB.out.mono ?_
                rintro r w5 ⟨rfl, hb⟩
                have F5 := Lib.hid (F4.out.below hb)
                clear hb F4 HAB
                cases ab with
                | true =>
                  have e0 : wy = 7 := by rw [HW4.out]; rfl
                  have e1 : sy = Mg.zero := by rw [HY.out, e0]; rfl
                  have e2 : er = faultIn x (sentV (ad 7)) := by rw [HE.out, e0]; rfl
                  have e3 : rt = q := by rw [HT.out, e0]; rfl
                  subst e0 e1 e2 e3
                  clear HT HE HY HW4 HKD
                  have s1 := (HS.out.of_below F5.out.cache.base).c7
                  go_wp2_with fail
                  refine (HWR.out _ _ _).mono ?_
                  rintro r w6 ⟨rfl, hb⟩
                  have F6 := Lib.hid (F5.out.below hb)
                  have h4 := F6.out.at 1 rfl
                  clear hb F5 s1 HWR
                  go_wp2_with (refine wpList_store_row rfl 34 (.tmp 10) (.tmp 81) rfl b10 Mg.zero.cells.toArray rfl rfl 34 _ h4 Tryz.sizeMsg rfl (HONE.out _) ?_)
                  have F7 := Lib.hid (F6.out.setRow 1 b10 _ _ rfl Mg.zero.cells.toArray)
                  exact ⟨rfl, _, ret_msg Tryz.results12 _ _ _ _ rfl (F7.out.at 1 rfl) rfl, rfl, F7.out.finish.1, F7.out.finish.2⟩
                | false =>
                  have HW5 : Hid (wy = if roomS q.S x = true then 0 else 2) := HW4.out
                  have HRM := Lib.hid (c_room F5.out.cache x)
                  clear HW4
                  generalize roomS q.S x = rm at *
                  obtain ⟨-, -, c2, -⟩ := F5.out.cache.cells
                  go_wp2_with fail
                  refine HRM.out.mono ?_
                  rintro r w6 ⟨rfl, hb⟩
                  have F6 := Lib.hid (F5.out.below hb)
                  clear hb F5 HRM c2
                  cases rm with
                  | true =>
                    have hwy : wy = 0 := by rw [HW5.out]; rfl
                    have HWY := Lib.hid hwy
                    clear hwy
                    go_wp2_with fail
                    go_meet
                    exact ⟨HWY, F6⟩
                  | false =>
                    have hwy : wy = 2 := by rw [HW5.out]; rfl
                    have e1 : sy = evictSays q x := by rw [HY.out, hwy]; rfl
                    have e2 : er = evictErr ad q x := by rw [HE.out, hwy]; rfl
                    have e3 : rt = evictTo q x := by rw [HT.out, hwy]; rfl
                    have HEV := Lib.hid (evict_is F6.out.cache ad HS.out x)
                    rw [← e1, ← e2, ← e3] at HEV
                    clear HT HE HY HW5 HKD hwy e1 e2 e3
                    obtain ⟨y0, y1, y2, y3, y4, y5, y6, y7, y8, y9, y10, y11, y12⟩ := sy
                    simp only [Mg.val] at *
                    go_wp2_with fail
                    refine HEV.out.mono ?_
                    rintro r w7 ⟨rfl, hA, hk⟩
                    have F7 := Lib.hid (F6.out.step hA hk)
                    have h4 := F7.out.at 1 rfl
                    clear hA hk F6 HEV
                    go_wp2_with (refine wpList_store_row rfl 34 (.tmp 10) (.tmp 95) rfl b10 (Mg.cells ⟨y0, y1, y2, y3, y4, y5, y6, y7, y8, y9, y10, y11, y12⟩).toArray rfl rfl 34 _ h4 Tryz.sizeMsg rfl (HONE.out _) ?_)
                    have F8 := Lib.hid (F7.out.setRow 1 b10 _ _ rfl (Mg.cells ⟨y0, y1, y2, y3, y4, y5, y6, y7, y8, y9, y10, y11, y12⟩).toArray)
                    exact ⟨rfl, _, ret_msg Tryz.results12 _ _ _ _ rfl (F8.out.at 1 rfl) rfl, rfl, F8.out.finish.1, F8.out.finish.2⟩
            case rest =>
              obtain ⟨HWY, F5⟩ := hcut
              have F5 : Hid _ := F5
              have e1' : sy = if addCode q.most q.l x kd = 0 then askM q.core x kd wd v else Mg.zero := by rw [HY.out, HWY.out]; rfl
              have e2' : er = if addCode q.most q.l x kd = 0 then .nilIface else faultIn x (sayAdd x (ad (addCode q.most q.l x kd))) := by rw [HE.out, HWY.out]; rfl
              have e3' : rt = { q with l := addL q.most q.l x kd } := by rw [HT.out, HWY.out]; rfl
              subst e3'
              have HY2 := Lib.hid e1'
              have HE2 := Lib.hid e2'
              clear F4 HB1 HW3 HT HE HY HWY e1' e2'
              go_upto_region 14 with fail
              go_cut [107] (fun u wx => u = .bool (decide (kind = 3) && !(is && decide (em = 2))) ∧ Hid (FrameAt G w0 w wx A q [⟨b14, (Ent.cells ⟨el, es, em, ee, e0, e1, e2, e3, eh, ef⟩).toArray, 65⟩, ⟨b10, Mg.zero.cells.toArray, 34⟩]))
              case first =>
                clear HY2 HE2 HKD
                have g2 := (box_cells (F5.out.at 0 rfl)).2.2.1
                by_cases hk : kind = 3
                · subst hk
                  by_cases h2 : em = 2
                  · subst h2
                    cases is
                    all_goals
                      go_wp2_with fail
                      go_meet
                      exact ⟨rfl, F5⟩
                  · have hb : (em != 2) = true := by simpa using h2
                    have hd : decide (em = 2) = false := by simpa using h2
                    have HD := Lib.hid hd
                    clear hd
                    cases is
                    all_goals
                      go_wp2_with fail
                      go_meet
                      exact ⟨by rw [HD.out]; rfl, F5⟩
                · have hb : (kind == 3) = false := by simpa using hk
                  have hd : decide (kind = 3) = false := by simpa using hk
                  have HD := Lib.hid hd
                  clear hd
                  cases is
                  all_goals
                    go_wp2_with fail
                    go_meet
                    exact ⟨by rw [HD.out]; rfl, F5⟩
              case rest =>
                obtain ⟨rfl, F6⟩ := hcut
                have F6 : Hid _ := F6
                have HKD2 : Hid (kd = if (decide (kind = 3) && !(is && decide (em = 2))) = true then 2 else kind) := HKD.out
                clear F5 HKD
                generalize (decide (kind = 3) && !(is && decide (em = 2))) = tk at *
                go_upto_if 107 with fail
                go_cut [2] (fun u wx => u = .int .i64 kd ∧ wx = wc)
                case first =>
                  cases tk with
                  | true =>
                    have e : kd = 2 := HKD2.out
                    subst e
                    clear HKD2
                    go_wp2_with fail
                    go_meet
                    exact ⟨rfl, rfl⟩
                  | false =>
                    have e : kd = kind := HKD2.out
                    subst e
                    clear HKD2
                    go_wp2_with fail
                    go_meet
                    exact ⟨rfl, rfl⟩
                case rest =>
                  obtain ⟨rfl, rfl⟩ := hcut
                  clear HKD2
                  obtain ⟨-, -, -, c3⟩ := F6.out.cache.cells
                  go_wp2_with fail
                  refine (c_add F6.out.cache ad HS.out x kd).mono ?_
                  rintro r w7 ⟨rfl, hA, hk⟩
                  have F7 := Lib.hid (F6.out.step hA hk)
                  clear hA hk F6 c3
                  by_cases hcd : addCode q.most q.l x kd = 0
                  · have e1' : sy = askM q.core x kd wd v := by rw [HY2.out, if_pos hcd]
                    have e2' : er = .nilIface := by rw [HE2.out, if_pos hcd]
                    have hkd := add_kind hcd
                    rw [addSays_ok hcd]
                    subst e2'
                    have HY3 := Lib.hid e1'
                    obtain ⟨c0, -, -, -⟩ := F7.out.cache.cells
                    clear HY2 HE2 hcd HWR e1'
                    go_upto_region 20 with fail
                    generalize hW : w7.alloc _ = w8
                    have F8 : Hid (FrameAt G w0 w w8 A { q with l := addL q.most q.l x kd } [⟨w7.heap.size, (Mg.cells { Mg.zero with kind := 1, core := q.core, line := x }).toArray, 34⟩, ⟨b14, (Ent.cells ⟨el, es, em, ee, e0, e1, e2, e3, eh, ef⟩).toArray, 65⟩, ⟨b10, Mg.zero.cells.toArray, 34⟩]) := by
                      rw [← hW]
                      exact F7.out.push ((Below.refl _ _).alloc (Nat.le_refl _) _) w7.heap.size _ _ (heap_alloc_new _ _) (Nat.le_refl _)
                    clear hW F7 c0
                    generalize w7.heap.size = b17 at *
                    have hfz : ∀ c, w8.frozen? ⟨b17, c, none⟩ = false := fun c => nofreeze (F8.out.at 0 rfl)
                    obtain ⟨a0, a1, a2, a3, a4, a5, a6, a7, a8, a9, a10, a11, a12⟩ := msg_cells (F8.out.at 0 rfl)
                    simp only [Mg.zero] at a0 a1 a2 a3 a4 a5 a6 a7 a8 a9 a10 a11 a12
                    go_upto_block 0 with fail
                    go_cut [] (fun wx => Hid (FrameAt G w0 w wx A { q with l := addL q.most q.l x kd } [⟨b17, sy.cells.toArray, 34⟩, ⟨b14, (Ent.cells ⟨el, es, em, ee, e0, e1, e2, e3, eh, ef⟩).toArray, 65⟩, ⟨b10, Mg.zero.cells.toArray, 34⟩]))
                    case first =>
                      by_cases k3 : kd = 3
                      · have e : sy = { Mg.zero with kind := 3, core := q.core, line := x, word := wd, value := v } := by rw [HY3.out]; unfold askM; rw [if_pos k3]
                        have b3 : (kd == 3) = true := by simpa using k3
                        subst e
                        clear HY3 k3
                        go_wp2_with fail
                        go_meet
                        exact ((F8.out.setCell 0 b17 _ _ rfl 0 (.int .i64 3)).setCell 0 b17 _ _ rfl 6 (.int .i64 wd)).setCell 0 b17 _ _ rfl 7 (.int .u32 v)
                      · have b3 : (kd == 3) = false := by simpa using k3
                        by_cases k2 : kd = 2
                        · have e : sy = { Mg.zero with kind := 2, core := q.core, line := x } := by rw [HY3.out]; unfold askM; rw [if_neg k3, if_pos k2]
                          have b2 : (kd == 2) = true := by simpa using k2
                          subst e
                          clear HY3 k3 k2
                          go_wp2_with fail
                          go_meet
                          exact F8.out.setCell 0 b17 _ _ rfl 0 (.int .i64 2)
                        · have e : sy = { Mg.zero with kind := 1, core := q.core, line := x } := by rw [HY3.out]; unfold askM; rw [if_neg k3, if_neg k2]
                          have b2 : (kd == 2) = false := by simpa using k2
                          subst e
                          clear HY3 k3 k2
                          go_wp2_with fail
                          go_meet
                          exact F8
                    case rest =>
                      have F9 : Hid _ := hcut
                      clear hcut F8 HY3 a0 a1 a2 a3 a4 a5 a6 a7 a8 a9 a10 a11 a12 hfz
                      obtain ⟨y0, y1, y2, y3, y4, y5, y6, y7, y8, y9, y10, y11, y12⟩ := sy
                      obtain ⟨a0, a1, a2, a3, a4, a5, a6, a7, a8, a9, a10, a11, a12⟩ := msg_cells (F9.out.at 0 rfl)
                      have h4 := F9.out.at 2 rfl
                      go_wp2_with (refine wpList_store_row rfl 34 (.tmp 10) (.tmp 138) rfl b10 (Mg.cells ⟨y0, y1, y2, y3, y4, y5, y6, y7, y8, y9, y10, y11, y12⟩).toArray rfl rfl 34 _ h4 Tryz.sizeMsg rfl (HONE.out _) ?_)
                      have FA := Lib.hid (F9.out.setRow 2 b10 _ _ rfl (Mg.cells ⟨y0, y1, y2, y3, y4, y5, y6, y7, y8, y9, y10, y11, y12⟩).toArray)
                      exact ⟨rfl, _, ret_msg Tryz.results12 _ _ _ _ rfl (FA.out.at 2 rfl) rfl, rfl, FA.out.finish.1, FA.out.finish.2⟩
                  · have e1' : sy = Mg.zero := by rw [HY2.out, if_neg hcd]
                    have e2' : er = faultIn x (sayAdd x (ad (addCode q.most q.l x kd))) := by rw [HE2.out, if_neg hcd]
                    rw [addSays_no hcd]
                    generalize ad (addCode q.most q.l x kd) = av at *
                    obtain ⟨pv, hpv⟩ := sayAdd_form x av
                    rw [hpv] at e2' ⊢
                    subst e1' e2'
                    have he1 := fun w : World => run_neq_held_nil (P := Tryz.prog) w 25 91 pv (by kernel_rfl)
                    clear HY2 HE2 hcd hpv
                    go_wp2_with fail
                    refine (HWR.out _ _ _).mono ?_
                    rintro r w8 ⟨rfl, hb⟩
                    have F8 := Lib.hid (F7.out.below hb)
                    have h4 := F8.out.at 1 rfl
                    clear hb F7 HWR
                    go_wp2_with (refine wpList_store_row rfl 34 (.tmp 10) (.tmp 117) rfl b10 Mg.zero.cells.toArray rfl rfl 34 _ h4 Tryz.sizeMsg rfl (HONE.out _) ?_)
                    have F9 := Lib.hid (F8.out.setRow 1 b10 _ _ rfl Mg.zero.cells.toArray)
                    exact ⟨rfl, _, ret_msg Tryz.results12 _ _ _ _ rfl (F9.out.at 1 rfl) rfl, rfl, F9.out.finish.1, F9.out.finish.2⟩
end
end Go.Proofs.YtfaihaknibmcpaaGreatDoor
