/- Messages: which may be. -/
import Derived.Test.YtfaihaknibmcpaaGreatDoorEqMsg
namespace Go.Proofs.YtfaihaknibmcpaaGreatDoor
open Go.RowKit Go.Extern.Stop Go.Stop Go.Extern Go.Proofs.YtfaihaknibmcpaaGreatDoor.PCacheFull Go.Proofs.YtfaihaknibmcpaaGreatDoorW.PrintWords

/-- A message that bears just what its kind names. -/
def bareK (m : Mg) : Mg := { Mg.zero with kind := m.kind, core := m.core, line := m.line }
def bareW (m : Mg) : Mg := { bareK m with word := if nWord m.kind then m.word else 0, value := if nWord m.kind then m.value else 0 }
def bareX (m : Mg) : Mg := { bareW m with mode := if nMode m.kind then m.mode else 0 }
def bareE (m : Mg) : Mg := { bareX m with epoch := if nEpoch m.kind then m.epoch else 0 }
def bareS (m : Mg) : Mg := { bareE m with state := if nState m.kind then m.state else 0, has := if nState m.kind then m.has else false }
def bareM (m : Mg) : Mg := { bareS m with d0 := if nState m.kind && m.has then m.d0 else 0, d1 := if nState m.kind && m.has then m.d1 else 0, d2 := if nState m.kind && m.has then m.d2 else 0, d3 := if nState m.kind && m.has then m.d3 else 0 }
def limitsB (m : Mg) : Bool := inB m.word 0 3 && (inB m.state 0 4 && (inB m.mode 0 3 && inB m.epoch 0 255))
def grantedB (m : Mg) : Bool := decide (m.kind ≠ 13) || (decide (m.state ≠ 0) && decide (m.state ≠ 3))
def headB (m : Mg) : Bool := decide (0 ≤ poolOf m.kind) && (inB m.core 0 63 && inB m.line 0 31)
def rightM (m : Mg) : Bool := headB m && (decide (m = bareM m) && (limitsB m && grantedB m))
/-- What stands while Right goes on: the message, what its kind names, the bare message. -/
structure RightAt (w wx : World) (b1 b3 b4 : Nat) (m x : Mg) : Prop where
  bel : Below w.heap.size w wx
  h1 : wx.heap[b1]? = some (.cells m.cells.toArray 34 (0, 0))
  h3 : wx.heap[b3]? = some (.cells #[.bool (nWord m.kind), .bool (nMode m.kind), .bool (nEpoch m.kind), .bool (nState m.kind)] 190 (0, 0))
  h4 : wx.heap[b4]? = some (.cells x.cells.toArray 34 (0, 0))
  ne : b1 < b3 ∧ b3 < b4 ∧ w.heap.size ≤ b4
theorem RightAt.write {w wx wy : World} {b1 b3 b4 : Nat} {m x y : Mg} (h : RightAt w wx b1 b3 b4 m x) (hT : Turned (fun q => q = b4) wx wy) (h4 : wy.heap[b4]? = some (.cells y.cells.toArray 34 (0, 0))) : RightAt w wy b1 b3 b4 m y := by
  have hn := h.ne
  exact ⟨h.bel.trans (hT.below h.bel.size fun q hq e => by omega), (hT.block b1 (lt_of_heap h.h1) (by omega)).trans h.h1, (hT.block b3 (lt_of_heap h.h3) (by omega)).trans h.h3, h4, hn⟩
theorem RightAt.one {w wx : World} {b1 b3 b4 : Nat} {m x y : Mg} (h : RightAt w wx b1 b3 b4 m x) (i : Nat) (u : Value) (hy : y.cells.toArray = x.cells.toArray.setIfInBounds i u) : RightAt w (wx.setCell ⟨b4, i, none⟩ u) b1 b3 b4 m y :=
  h.write ((Turned.refl (fun q => q = b4) wx).setCell (p := ⟨b4, i, none⟩) (.inl rfl) u) (by rw [hy]; exact heap_setCell h.h4 u)
theorem RightAt.two {w wx : World} {b1 b3 b4 : Nat} {m x y : Mg} (h : RightAt w wx b1 b3 b4 m x) (i j : Nat) (u v : Value) (hy : y.cells.toArray = (x.cells.toArray.setIfInBounds i u).setIfInBounds j v) : RightAt w ((wx.setCell ⟨b4, i, none⟩ u).setCell ⟨b4, j, none⟩ v) b1 b3 b4 m y :=
  h.write (((Turned.refl (fun q => q = b4) wx).setCell (p := ⟨b4, i, none⟩) (.inl rfl) u).setCell (p := ⟨b4, j, none⟩) (.inl rfl) v) (by rw [hy]; exact heap_setCell (heap_setCell h.h4 u) v)
theorem RightAt.four {w wx : World} {b1 b3 b4 : Nat} {m x y : Mg} (h : RightAt w wx b1 b3 b4 m x) (i j p q : Nat) (u v s t : Value) (hy : y.cells.toArray = (((x.cells.toArray.setIfInBounds i u).setIfInBounds j v).setIfInBounds p s).setIfInBounds q t) : RightAt w ((((wx.setCell ⟨b4, i, none⟩ u).setCell ⟨b4, j, none⟩ v).setCell ⟨b4, p, none⟩ s).setCell ⟨b4, q, none⟩ t) b1 b3 b4 m y :=
  h.write (((((Turned.refl (fun q => q = b4) wx).setCell (p := ⟨b4, i, none⟩) (.inl rfl) u).setCell (p := ⟨b4, j, none⟩) (.inl rfl) v).setCell (p := ⟨b4, p, none⟩) (.inl rfl) s).setCell (p := ⟨b4, q, none⟩) (.inl rfl) t) (by rw [hy]; exact heap_setCell (heap_setCell (heap_setCell (heap_setCell h.h4 u) v) s) t)
theorem RightAt.drew {w wx : World} {b1 b3 b4 : Nat} {m x : Mg} (h : RightAt w wx b1 b3 b4 m x) : RightAt w wx.drew b1 b3 b4 m x := ⟨h.bel.drew, h.h1, h.h3, h.h4, h.ne⟩
theorem RightAt.below {w wx wy : World} {b1 b3 b4 : Nat} {m x : Mg} (h : RightAt w wx b1 b3 b4 m x) (hb : Below wx.heap.size wx wy) : RightAt w wy b1 b3 b4 m x :=
  ⟨h.bel.trans (hb.mono h.bel.size), (hb.block b1 (lt_of_heap h.h1)).trans h.h1, (hb.block b3 (lt_of_heap h.h3)).trans h.h3, (hb.block b4 (lt_of_heap h.h4)).trans h.h4, h.ne⟩
theorem RightAt.flags {w wx : World} {b1 b3 b4 : Nat} {m x : Mg} (h : RightAt w wx b1 b3 b4 m x) : wx.cell? ⟨b3, 0, none⟩ = some (.bool (nWord m.kind)) ∧ wx.cell? ⟨b3, 1, none⟩ = some (.bool (nMode m.kind)) ∧ wx.cell? ⟨b3, 2, none⟩ = some (.bool (nEpoch m.kind)) ∧ wx.cell? ⟨b3, 3, none⟩ = some (.bool (nState m.kind)) := by
  simp [World.cell?, h.h3]
set_option maxRecDepth 100000 in
set_option maxHeartbeats 4000000 in
theorem right_is (m : Mg) (w : World) : Calls Tryz.prog 99 #[m.val] w fun e w' => e = .returned (.bool (rightM m)) ∧ Below w.heap.size w w' := by
  have HP : Hid (∀ w, _) := fun w => pool_is m.kind w
  have HN : Hid (∀ w, _) := fun w => named_is m.kind w
  have HW : Hid (∀ n lo hi w, _) := fun n lo hi w => mwithin_is n lo hi w
  have HR : Hid (rightM m = (decide (0 ≤ poolOf m.kind) && (inB m.core 0 63 && inB m.line 0 31) && (decide (m = bareM m) && (limitsB m && grantedB m)))) := rfl
  generalize rightM m = res at *
  have hbox : ∀ o, (w.alloc o).heap[w.heap.size]? = some o := fun o => heap_alloc_new _ _
  generalize hpl : poolOf m.kind = pl at *
  clear hpl
  by_cases hp : pl < 0
  · have hp2 : ¬ 0 ≤ pl := by omega
    have e : res = false := by rw [HR.out]; simp [hp2]
    subst e
    clear HR
    obtain ⟨k, c, l, st, mo, ep, wd, v, d0, d1, d2, d3, hs⟩ := m
    simp only [Mg.val] at *
    go_enter Tryz.func99, Tryz.ntmps99
    go_wp2_with fail
    refine (HP.out _).mono ?_
    rintro r w1 ⟨rfl, hb⟩
    have HB1 : Hid (Below w.heap.size w w1) := ((Below.refl _ _).alloc (Nat.le_refl _) _).trans (hb.mono (by simp))
    clear hb HP HN HW hbox
    go_wp2
    go_ret
    exact ⟨rfl, HB1.out⟩
  · have hp2 : 0 ≤ pl := by omega
    have HC : Hid (∀ w, _) := fun w => HW.out m.core 0 63 w
    have HL : Hid (∀ w, _) := fun w => HW.out m.line 0 31 w
    cases h1 : inB m.core 0 63 with
    | false =>
      rw [h1] at HC
      have e : res = false := by rw [HR.out, h1]; simp
      subst e
      clear HR HL h1
      obtain ⟨k, c, l, st, mo, ep, wd, v, d0, d1, d2, d3, hs⟩ := m
      simp only [Mg.val] at *
      go_enter Tryz.func99, Tryz.ntmps99
      go_wp2_with fail
      refine (HP.out _).mono ?_
      rintro r w1 ⟨rfl, hb⟩
      have HB1 : Hid (Below w.heap.size w w1) := ((Below.refl _ _).alloc (Nat.le_refl _) _).trans (hb.mono (by simp))
      have hbx := (hb.block w.heap.size (by simp)).trans (hbox _)
      obtain ⟨m0, m1, m2, m3, m4, m5, m6, m7, m8, m9, m10, m11, m12⟩ := msg_cells (m := ⟨k, c, l, st, mo, ep, wd, v, d0, d1, d2, d3, hs⟩) hbx
      clear hb HP HN hbox hbx
      go_wp2_with fail
      refine (HC.out _).mono ?_
      rintro r w2 ⟨rfl, hb⟩
      have HB2 := Lib.hid (HB1.out.trans (hb.mono HB1.out.size))
      clear hb HB1 HC HW m0 m1 m2 m3 m4 m5 m6 m7 m8 m9 m10 m11 m12
      go_wp2
      go_ret
      exact ⟨rfl, HB2.out⟩
    | true =>
      rw [h1] at HC
      cases h2 : inB m.line 0 31 with
      | false =>
        rw [h2] at HL
        have e : res = false := by rw [HR.out, h2]; simp
        subst e
        clear HR h1 h2
        obtain ⟨k, c, l, st, mo, ep, wd, v, d0, d1, d2, d3, hs⟩ := m
        simp only [Mg.val] at *
        go_enter Tryz.func99, Tryz.ntmps99
        go_wp2_with fail
        refine (HP.out _).mono ?_
        rintro r w1 ⟨rfl, hb⟩
        have HB1 : Hid (Below w.heap.size w w1) := ((Below.refl _ _).alloc (Nat.le_refl _) _).trans (hb.mono (by simp))
        have hbx := (hb.block w.heap.size (by simp)).trans (hbox _)
        have HBX := Lib.hid hbx
        obtain ⟨m0, m1, m2, m3, m4, m5, m6, m7, m8, m9, m10, m11, m12⟩ := msg_cells (m := ⟨k, c, l, st, mo, ep, wd, v, d0, d1, d2, d3, hs⟩) hbx
        clear hb HP HN hbox hbx
        go_wp2_with fail
        refine (HC.out _).mono ?_
        rintro r w2 ⟨rfl, hb⟩
        have HB2 := Lib.hid (HB1.out.trans (hb.mono HB1.out.size))
        have hbx := (hb.block w.heap.size (lt_of_heap HBX.out)).trans HBX.out
        clear m0 m1 m2 m3 m4 m5 m6 m7 m8 m9 m10 m11 m12
        obtain ⟨m0, m1, m2, m3, m4, m5, m6, m7, m8, m9, m10, m11, m12⟩ := msg_cells (m := ⟨k, c, l, st, mo, ep, wd, v, d0, d1, d2, d3, hs⟩) hbx
        clear hb HB1 HC hbx HBX
        go_wp2_with fail
        refine (HL.out _).mono ?_
        rintro r w3 ⟨rfl, hb⟩
        have HB3 := Lib.hid (HB2.out.trans (hb.mono HB2.out.size))
        clear hb HB2 HL HW m0 m1 m2 m3 m4 m5 m6 m7 m8 m9 m10 m11 m12
        go_wp2
        go_ret
        exact ⟨rfl, HB3.out⟩
      | true =>
        rw [h2] at HL
        have HR2 : Hid (res = (decide (m = bareM m) && (limitsB m && grantedB m))) := by show _ = _; rw [HR.out, h1, h2]; simp [hp2]
        clear HR h1 h2
        go_enter Tryz.func99, Tryz.ntmps99
        obtain ⟨k, c, l, st, mo, ep, wd, v, d0, d1, d2, d3, hs⟩ := m
        simp only [Mg.val] at *
        go_wp2_with fail
        refine (HP.out _).mono ?_
        rintro r w1 ⟨rfl, hb⟩
        have HB1 : Hid (Below w.heap.size w w1) := ((Below.refl _ _).alloc (Nat.le_refl _) _).trans (hb.mono (by simp))
        have hbx := (hb.block w.heap.size (by simp)).trans (hbox _)
        have HBX := Lib.hid hbx
        obtain ⟨m0, m1, m2, m3, m4, m5, m6, m7, m8, m9, m10, m11, m12⟩ := msg_cells (m := ⟨k, c, l, st, mo, ep, wd, v, d0, d1, d2, d3, hs⟩) hbx
        clear hb HP hbox hbx
        go_wp2_with fail
        refine (HC.out _).mono ?_
        rintro r w2 ⟨rfl, hb⟩
        have HB2 := Lib.hid (HB1.out.trans (hb.mono HB1.out.size))
        have HBX2 := Lib.hid ((hb.block w.heap.size (lt_of_heap HBX.out)).trans HBX.out)
        clear m0 m1 m2 m3 m4 m5 m6 m7 m8 m9 m10 m11 m12
        obtain ⟨m0, m1, m2, m3, m4, m5, m6, m7, m8, m9, m10, m11, m12⟩ := msg_cells (m := ⟨k, c, l, st, mo, ep, wd, v, d0, d1, d2, d3, hs⟩) HBX2.out
        clear hb HB1 HC HBX
        go_wp2_with fail
        refine (HL.out _).mono ?_
        rintro r w3 ⟨rfl, hb⟩
        have HB3 := Lib.hid (HB2.out.trans (hb.mono HB2.out.size))
        have HBX3 := Lib.hid ((hb.block w.heap.size (lt_of_heap HBX2.out)).trans HBX2.out)
        clear m0 m1 m2 m3 m4 m5 m6 m7 m8 m9 m10 m11 m12
        obtain ⟨m0, m1, m2, m3, m4, m5, m6, m7, m8, m9, m10, m11, m12⟩ := msg_cells (m := ⟨k, c, l, st, mo, ep, wd, v, d0, d1, d2, d3, hs⟩) HBX3.out
        clear hb HB2 HL HBX2
        go_wp2_with fail
        refine (HN.out _).mono ?_
        rintro r w4 ⟨rfl, hb⟩
        have HB4 := Lib.hid (HB3.out.trans (hb.mono HB3.out.size))
        have HBX4 := Lib.hid ((hb.block w.heap.size (lt_of_heap HBX3.out)).trans HBX3.out)
        clear m0 m1 m2 m3 m4 m5 m6 m7 m8 m9 m10 m11 m12
        obtain ⟨m0, m1, m2, m3, m4, m5, m6, m7, m8, m9, m10, m11, m12⟩ := msg_cells (m := ⟨k, c, l, st, mo, ep, wd, v, d0, d1, d2, d3, hs⟩) HBX4.out
        clear hb HB3 HN HBX3
        have l4 := lt_of_heap HBX4.out
        have l4' : w.heap.size < w4.heap.size + 1 := by omega
        go_upto_if 34 with fail
        generalize hW : (w4.alloc _).alloc _ = wA
        have hRA : RightAt w wA w.heap.size w4.heap.size (w4.heap.size + 1) ⟨k, c, l, st, mo, ep, wd, v, d0, d1, d2, d3, hs⟩ (bareK ⟨k, c, l, st, mo, ep, wd, v, d0, d1, d2, d3, hs⟩) := by
          have hb : Below w4.heap.size w4 wA := by rw [← hW]; exact ((Below.refl _ _).alloc (Nat.le_refl _) _).alloc (by simp) _
          have hs4 := HB4.out.size
          refine ⟨HB4.out.trans (hb.mono HB4.out.size), (hb.block w.heap.size l4).trans HBX4.out, ?_, ?_, by omega⟩
          · rw [← hW, ((Below.refl (w4.alloc _).heap.size (w4.alloc _)).alloc (Nat.le_refl _) _).block w4.heap.size (by simp)]
            exact heap_alloc_new _ _
          · have := heap_alloc_new (w4.alloc (.cells #[.bool (nWord k), .bool (nMode k), .bool (nEpoch k), .bool (nState k)] 190)) (.cells (bareK ⟨k, c, l, st, mo, ep, wd, v, d0, d1, d2, d3, hs⟩).cells.toArray 34)
            rw [← hW]
            simp only [World.size_alloc] at this
            exact this
        have RA := Lib.hid hRA
        clear hW hRA HB4 HBX4 l4 l4' m0 m1 m2 m3 m4 m5 m6 m7 m8 m9 m10 m11 m12
        generalize w4.heap.size + 1 = b4 at *
        generalize w4.heap.size = b3 at *
        generalize hb1 : w.heap.size = b1 at *
        have HB1 := Lib.hid hb1
        clear hb1
        go_cut [] (fun wx => RightAt w wx b1 b3 b4 ⟨k, c, l, st, mo, ep, wd, v, d0, d1, d2, d3, hs⟩ (bareW ⟨k, c, l, st, mo, ep, wd, v, d0, d1, d2, d3, hs⟩))
        case first =>
          cases hf : nWord k with
          | false =>
            have HE : Hid (bareW ⟨k, c, l, st, mo, ep, wd, v, d0, d1, d2, d3, hs⟩ = bareK ⟨k, c, l, st, mo, ep, wd, v, d0, d1, d2, d3, hs⟩) := by show _ = _; simp [bareW, bareK, Mg.zero, hf]
            clear hf
            go_wp2_with fail
            go_meet
            rw [HE.out]
            exact RA.out
          | true =>
            have HE : Hid (bareW ⟨k, c, l, st, mo, ep, wd, v, d0, d1, d2, d3, hs⟩ = { bareK ⟨k, c, l, st, mo, ep, wd, v, d0, d1, d2, d3, hs⟩ with word := wd, value := v }) := by show _ = _; simp [bareW, bareK, Mg.zero, hf]
            clear hf
            obtain ⟨m0, m1, m2, m3, m4, m5, m6, m7, m8, m9, m10, m11, m12⟩ := msg_cells RA.out.h1
            obtain ⟨z0, z1, z2, z3, z4, z5, z6, z7, z8, z9, z10, z11, z12⟩ := msg_cells RA.out.h4
            have fz : ∀ c, wA.frozen? ⟨b4, c, none⟩ = false := fun c => nofreeze RA.out.h4
            have hne : b1 ≠ b4 := by have := RA.out.ne; omega
            have y1 : ∀ u, (wA.setCell ⟨b4, 7, none⟩ u).cell? ⟨b1, 6, none⟩ = some (.int .i64 wd) := fun u => (World.cell?_setCell_other wA ⟨b4, 7, none⟩ ⟨b1, 6, none⟩ u (by simp)).trans m6
            have y2 : ∀ u, (wA.setCell ⟨b4, 6, none⟩ u).cell? ⟨b1, 7, none⟩ = some (.int .u32 v) := fun u => (World.cell?_setCell_other wA ⟨b4, 6, none⟩ ⟨b1, 7, none⟩ u (by simp)).trans m7
            clear m0 m1 m2 m3 m4 m5 m8 m9 m10 m11 m12 z0 z1 z2 z3 z4 z5 z8 z9 z10 z11 z12
            go_wp2_with fail
            go_region_law (fail)
            all_goals
              go_wp2_with fail
              go_meet
              rw [HE.out]
              first | exact (RA.out.two 6 7 _ _ (by rfl)).drew | exact (RA.out.two 7 6 _ _ (by rfl)).drew
        case rest =>
          have RB := Lib.hid hcut
          clear hcut RA
          obtain ⟨f0, f1, f2, f3⟩ := RB.out.flags
          obtain ⟨m0, m1, m2, m3, m4, m5, m6, m7, m8, m9, m10, m11, m12⟩ := msg_cells RB.out.h1
          simp only at f0 f1 f2 f3
          go_upto_if 42 with fail
          clear f0 f1 f2 f3 m0 m1 m2 m3 m4 m5 m6 m7 m8 m9 m10 m11 m12
          go_cut [] (fun wx => RightAt w wx b1 b3 b4 ⟨k, c, l, st, mo, ep, wd, v, d0, d1, d2, d3, hs⟩ (bareX ⟨k, c, l, st, mo, ep, wd, v, d0, d1, d2, d3, hs⟩))
          case first =>
            cases hf : nMode k with
            | false =>
              have HE : Hid (bareX ⟨k, c, l, st, mo, ep, wd, v, d0, d1, d2, d3, hs⟩ = bareW ⟨k, c, l, st, mo, ep, wd, v, d0, d1, d2, d3, hs⟩) := by show _ = _; simp [bareX, bareW, bareK, Mg.zero, hf]
              clear hf
              go_wp2_with fail
              go_meet
              rw [HE.out]
              exact RB.out
            | true =>
              have HE : Hid (bareX ⟨k, c, l, st, mo, ep, wd, v, d0, d1, d2, d3, hs⟩ = { bareW ⟨k, c, l, st, mo, ep, wd, v, d0, d1, d2, d3, hs⟩ with mode := mo }) := by show _ = _; simp [bareX, bareW, bareK, Mg.zero, hf]
              clear hf
              obtain ⟨m0, m1, m2, m3, m4, m5, m6, m7, m8, m9, m10, m11, m12⟩ := msg_cells RB.out.h1
              obtain ⟨z0, z1, z2, z3, z4, z5, z6, z7, z8, z9, z10, z11, z12⟩ := msg_cells RB.out.h4
              have fz : ∀ c, wc.frozen? ⟨b4, c, none⟩ = false := fun c => nofreeze RB.out.h4
              have hne : b1 ≠ b4 := by have := RB.out.ne; omega
              clear m0 m1 m2 m3 m5 m6 m7 m8 m9 m10 m11 m12 z0 z1 z2 z3 z5 z6 z7 z8 z9 z10 z11 z12
              go_wp2_with fail
              go_meet
              rw [HE.out]
              exact RB.out.one 4 _ (by rfl)
          case rest =>
            have RC := Lib.hid hcut
            clear hcut RB
            obtain ⟨f0, f1, f2, f3⟩ := RC.out.flags
            obtain ⟨m0, m1, m2, m3, m4, m5, m6, m7, m8, m9, m10, m11, m12⟩ := msg_cells RC.out.h1
            simp only at f0 f1 f2 f3
            go_upto_if 47 with fail
            clear f0 f1 f2 f3 m0 m1 m2 m3 m4 m5 m6 m7 m8 m9 m10 m11 m12
            go_cut [] (fun wx => RightAt w wx b1 b3 b4 ⟨k, c, l, st, mo, ep, wd, v, d0, d1, d2, d3, hs⟩ (bareE ⟨k, c, l, st, mo, ep, wd, v, d0, d1, d2, d3, hs⟩))
            case first =>
              cases hf : nEpoch k with
              | false =>
                have HE : Hid (bareE ⟨k, c, l, st, mo, ep, wd, v, d0, d1, d2, d3, hs⟩ = bareX ⟨k, c, l, st, mo, ep, wd, v, d0, d1, d2, d3, hs⟩) := by show _ = _; simp [bareE, bareX, bareW, bareK, Mg.zero, hf]
                clear hf
                go_wp2_with fail
                go_meet
                rw [HE.out]
                exact RC.out
              | true =>
                have HE : Hid (bareE ⟨k, c, l, st, mo, ep, wd, v, d0, d1, d2, d3, hs⟩ = { bareX ⟨k, c, l, st, mo, ep, wd, v, d0, d1, d2, d3, hs⟩ with epoch := ep }) := by show _ = _; simp [bareE, bareX, bareW, bareK, Mg.zero, hf]
                clear hf
                obtain ⟨m0, m1, m2, m3, m4, m5, m6, m7, m8, m9, m10, m11, m12⟩ := msg_cells RC.out.h1
                obtain ⟨z0, z1, z2, z3, z4, z5, z6, z7, z8, z9, z10, z11, z12⟩ := msg_cells RC.out.h4
                have fz : ∀ c, wc.frozen? ⟨b4, c, none⟩ = false := fun c => nofreeze RC.out.h4
                have hne : b1 ≠ b4 := by have := RC.out.ne; omega
                clear m0 m1 m2 m3 m4 m6 m7 m8 m9 m10 m11 m12 z0 z1 z2 z3 z4 z6 z7 z8 z9 z10 z11 z12
                go_wp2_with fail
                go_meet
                rw [HE.out]
                exact RC.out.one 5 _ (by rfl)
            case rest =>
              have RD := Lib.hid hcut
              clear hcut RC
              obtain ⟨f0, f1, f2, f3⟩ := RD.out.flags
              obtain ⟨m0, m1, m2, m3, m4, m5, m6, m7, m8, m9, m10, m11, m12⟩ := msg_cells RD.out.h1
              simp only at f0 f1 f2 f3
              go_upto_if 52 with fail
              clear f0 f1 f2 f3 m0 m1 m2 m3 m4 m5 m6 m7 m8 m9 m10 m11 m12
              go_cut [] (fun wx => RightAt w wx b1 b3 b4 ⟨k, c, l, st, mo, ep, wd, v, d0, d1, d2, d3, hs⟩ (bareS ⟨k, c, l, st, mo, ep, wd, v, d0, d1, d2, d3, hs⟩))
              case first =>
                cases hf : nState k with
                | false =>
                  have HE : Hid (bareS ⟨k, c, l, st, mo, ep, wd, v, d0, d1, d2, d3, hs⟩ = bareE ⟨k, c, l, st, mo, ep, wd, v, d0, d1, d2, d3, hs⟩) := by show _ = _; simp [bareS, bareE, bareX, bareW, bareK, Mg.zero, hf]
                  clear hf
                  go_wp2_with fail
                  go_meet
                  rw [HE.out]
                  exact RD.out
                | true =>
                  have HE : Hid (bareS ⟨k, c, l, st, mo, ep, wd, v, d0, d1, d2, d3, hs⟩ = { bareE ⟨k, c, l, st, mo, ep, wd, v, d0, d1, d2, d3, hs⟩ with state := st, has := hs }) := by show _ = _; simp [bareS, bareE, bareX, bareW, bareK, Mg.zero, hf]
                  clear hf
                  obtain ⟨m0, m1, m2, m3, m4, m5, m6, m7, m8, m9, m10, m11, m12⟩ := msg_cells RD.out.h1
                  obtain ⟨z0, z1, z2, z3, z4, z5, z6, z7, z8, z9, z10, z11, z12⟩ := msg_cells RD.out.h4
                  have fz : ∀ c, wc.frozen? ⟨b4, c, none⟩ = false := fun c => nofreeze RD.out.h4
                  have hne : b1 ≠ b4 := by have := RD.out.ne; omega
                  have y1 : ∀ u, (wc.setCell ⟨b4, 12, none⟩ u).cell? ⟨b1, 3, none⟩ = some (.int .i64 st) := fun u => (World.cell?_setCell_other wc ⟨b4, 12, none⟩ ⟨b1, 3, none⟩ u (by simp)).trans m3
                  have y2 : ∀ u, (wc.setCell ⟨b4, 3, none⟩ u).cell? ⟨b1, 12, none⟩ = some (.bool hs) := fun u => (World.cell?_setCell_other wc ⟨b4, 3, none⟩ ⟨b1, 12, none⟩ u (by simp)).trans m12
                  clear m0 m1 m2 m4 m5 m6 m7 m8 m9 m10 m11 z0 z1 z2 z4 z5 z6 z7 z8 z9 z10 z11
                  go_wp2_with fail
                  go_region_law (fail)
                  all_goals
                    go_wp2_with fail
                    go_meet
                    rw [HE.out]
                    first | exact (RD.out.two 3 12 _ _ (by rfl)).drew | exact (RD.out.two 12 3 _ _ (by rfl)).drew
              case rest =>
                have RE := Lib.hid hcut
                clear hcut RD
                obtain ⟨f0, f1, f2, f3⟩ := RE.out.flags
                obtain ⟨m0, m1, m2, m3, m4, m5, m6, m7, m8, m9, m10, m11, m12⟩ := msg_cells RE.out.h1
                simp only at f0 f1 f2 f3
                go_upto_region 13 with fail
                clear f0 f1 f2 f3 m0 m1 m2 m3 m4 m5 m6 m7 m8 m9 m10 m11 m12
                go_cut [64] (fun u wx => u = .bool (nState k && hs) ∧ RightAt w wx b1 b3 b4 ⟨k, c, l, st, mo, ep, wd, v, d0, d1, d2, d3, hs⟩ (bareS ⟨k, c, l, st, mo, ep, wd, v, d0, d1, d2, d3, hs⟩))
                case first =>
                  obtain ⟨f0, f1, f2, f3⟩ := RE.out.flags
                  obtain ⟨m0, m1, m2, m3, m4, m5, m6, m7, m8, m9, m10, m11, m12⟩ := msg_cells RE.out.h1
                  simp only at f0 f1 f2 f3 m12
                  cases hns : nState k
                  all_goals cases hs
                  all_goals
                    have HNS := Lib.hid hns
                    rw [hns] at f3
                    clear hns
                    go_wp2_with fail
                    go_meet
                    exact ⟨by rw [HNS.out]; rfl, RE.out⟩
                case rest =>
                  obtain ⟨rfl, hc2⟩ := hcut
                  have RF := Lib.hid hc2
                  clear hc2 RE
                  go_upto_if 64 with fail
                  go_cut [] (fun wx => RightAt w wx b1 b3 b4 ⟨k, c, l, st, mo, ep, wd, v, d0, d1, d2, d3, hs⟩ (bareM ⟨k, c, l, st, mo, ep, wd, v, d0, d1, d2, d3, hs⟩))
                  case first =>
                    cases hf : (nState k && hs) with
                    | false =>
                      have HE : Hid (bareM ⟨k, c, l, st, mo, ep, wd, v, d0, d1, d2, d3, hs⟩ = bareS ⟨k, c, l, st, mo, ep, wd, v, d0, d1, d2, d3, hs⟩) := by show _ = _; simp only [bareM, hf]; rfl
                      clear hf
                      go_wp2_with fail
                      go_meet
                      rw [HE.out]
                      exact RF.out
                    | true =>
                      have HE : Hid (bareM ⟨k, c, l, st, mo, ep, wd, v, d0, d1, d2, d3, hs⟩ = { bareS ⟨k, c, l, st, mo, ep, wd, v, d0, d1, d2, d3, hs⟩ with d0 := d0, d1 := d1, d2 := d2, d3 := d3 }) := by show _ = _; simp only [bareM, hf]; rfl
                      clear hf
                      obtain ⟨m0, m1, m2, m3, m4, m5, m6, m7, m8, m9, m10, m11, m12⟩ := msg_cells RF.out.h1
                      obtain ⟨z0, z1, z2, z3, z4, z5, z6, z7, z8, z9, z10, z11, z12⟩ := msg_cells RF.out.h4
                      have fz : ∀ c, wc.frozen? ⟨b4, c, none⟩ = false := fun c => nofreeze RF.out.h4
                      have hne : b1 ≠ b4 := by have := RF.out.ne; omega
                      clear m0 m1 m2 m3 m4 m5 m6 m7 m12 z0 z1 z2 z3 z4 z5 z6 z7 z12
                      go_wp2_with fail
                      go_meet
                      rw [HE.out]
                      exact RF.out.four 8 9 10 11 _ _ _ _ (by rfl)
                  case rest =>
                    have RG := Lib.hid hcut
                    clear hcut RF
                    go_upto_region 15 with fail
                    go_cut [5] (fun u wx => u = .bool (limitsB ⟨k, c, l, st, mo, ep, wd, v, d0, d1, d2, d3, hs⟩) ∧ RightAt w wx b1 b3 b4 ⟨k, c, l, st, mo, ep, wd, v, d0, d1, d2, d3, hs⟩ (bareM ⟨k, c, l, st, mo, ep, wd, v, d0, d1, d2, d3, hs⟩))
                    case first =>
                      have HLM : Hid (limitsB ⟨k, c, l, st, mo, ep, wd, v, d0, d1, d2, d3, hs⟩ = (inB wd 0 3 && (inB st 0 4 && (inB mo 0 3 && inB ep 0 255)))) := rfl
                      generalize limitsB ⟨k, c, l, st, mo, ep, wd, v, d0, d1, d2, d3, hs⟩ = lb at *
                      have R0 := RG
                      clear RG
                      obtain ⟨m0, m1, m2, m3, m4, m5, m6, m7, m8, m9, m10, m11, m12⟩ := msg_cells R0.out.h1
                      clear m0 m1 m2 m3 m4 m5 m7 m8 m9 m10 m11 m12
                      have HC0 : Hid (∀ w, _) := fun w => HW.out wd 0 3 w
                      cases h0 : inB wd 0 3 with
                      | false =>
                        rw [h0] at HC0
                        have e : lb = false := by rw [HLM.out, h0]; simp
                        subst e
                        clear HLM h0
                        go_wp2_with fail
                        refine (HC0.out _).mono ?_
                        rintro r wd0 ⟨rfl, hb⟩
                        have Q0 := Lib.hid (R0.out.below hb)
                        clear hb HC0 R0 m6
                        go_wp2
                        go_meet
                        exact ⟨rfl, Q0.out⟩
                      | true =>
                        rw [h0] at HC0
                        have HH0 := Lib.hid h0
                        clear h0
                        go_wp2_with fail
                        refine (HC0.out _).mono ?_
                        rintro r wd0 ⟨rfl, hb⟩
                        have Q0 := Lib.hid (R0.out.below hb)
                        clear hb HC0 R0 m6
                        obtain ⟨m0, m1, m2, m3, m4, m5, m6, m7, m8, m9, m10, m11, m12⟩ := msg_cells Q0.out.h1
                        clear m0 m1 m2 m4 m5 m6 m7 m8 m9 m10 m11 m12
                        have HC1 : Hid (∀ w, _) := fun w => HW.out st 0 4 w
                        cases h1 : inB st 0 4 with
                        | false =>
                          rw [h1] at HC1
                          have e : lb = false := by rw [HLM.out, h1]; simp
                          subst e
                          clear HLM h1
                          go_wp2_with fail
                          refine (HC1.out _).mono ?_
                          rintro r wd1 ⟨rfl, hb⟩
                          have Q1 := Lib.hid (Q0.out.below hb)
                          clear hb HC1 Q0 m3
                          go_wp2
                          go_meet
                          exact ⟨rfl, Q1.out⟩
                        | true =>
                          rw [h1] at HC1
                          have HH1 := Lib.hid h1
                          clear h1
                          go_wp2_with fail
                          refine (HC1.out _).mono ?_
                          rintro r wd1 ⟨rfl, hb⟩
                          have Q1 := Lib.hid (Q0.out.below hb)
                          clear hb HC1 Q0 m3
                          obtain ⟨m0, m1, m2, m3, m4, m5, m6, m7, m8, m9, m10, m11, m12⟩ := msg_cells Q1.out.h1
                          clear m0 m1 m2 m3 m5 m6 m7 m8 m9 m10 m11 m12
                          have HC2 : Hid (∀ w, _) := fun w => HW.out mo 0 3 w
                          cases h2 : inB mo 0 3 with
                          | false =>
                            rw [h2] at HC2
                            have e : lb = false := by rw [HLM.out, h2]; simp
                            subst e
                            clear HLM h2
                            go_wp2_with fail
                            refine (HC2.out _).mono ?_
                            rintro r wd2 ⟨rfl, hb⟩
                            have Q2 := Lib.hid (Q1.out.below hb)
                            clear hb HC2 Q1 m4
                            go_wp2
                            go_meet
                            exact ⟨rfl, Q2.out⟩
                          | true =>
                            rw [h2] at HC2
                            have HH2 := Lib.hid h2
                            clear h2
                            go_wp2_with fail
                            refine (HC2.out _).mono ?_
                            rintro r wd2 ⟨rfl, hb⟩
                            have Q2 := Lib.hid (Q1.out.below hb)
                            clear hb HC2 Q1 m4
                            obtain ⟨m0, m1, m2, m3, m4, m5, m6, m7, m8, m9, m10, m11, m12⟩ := msg_cells Q2.out.h1
                            clear m0 m1 m2 m3 m4 m6 m7 m8 m9 m10 m11 m12
                            have HC3 : Hid (∀ w, _) := fun w => HW.out ep 0 255 w
                            cases h3 : inB ep 0 255 with
                            | false =>
                              rw [h3] at HC3
                              have e : lb = false := by rw [HLM.out, h3]; simp
                              subst e
                              clear HLM h3
                              go_wp2_with fail
                              refine (HC3.out _).mono ?_
                              rintro r wd3 ⟨rfl, hb⟩
                              have Q3 := Lib.hid (Q2.out.below hb)
                              clear hb HC3 Q2 m5
                              go_wp2
                              go_meet
                              exact ⟨rfl, Q3.out⟩
                            | true =>
                              rw [h3] at HC3
                              have e : lb = true := by rw [HLM.out, HH0.out, HH1.out, HH2.out, h3]; rfl
                              subst e
                              clear HLM h3
                              go_wp2_with fail
                              refine (HC3.out _).mono ?_
                              rintro r wd3 ⟨rfl, hb⟩
                              have Q3 := Lib.hid (Q2.out.below hb)
                              clear hb HC3 Q2 m5
                              go_wp2
                              go_meet
                              exact ⟨rfl, Q3.out⟩
                    case rest =>
                      obtain ⟨rfl, hc2⟩ := hcut
                      have RH := Lib.hid hc2
                      clear hc2 RG
                      go_upto_region 16 with fail
                      go_cut [6] (fun u wx => u = .bool (grantedB ⟨k, c, l, st, mo, ep, wd, v, d0, d1, d2, d3, hs⟩) ∧ RightAt w wx b1 b3 b4 ⟨k, c, l, st, mo, ep, wd, v, d0, d1, d2, d3, hs⟩ (bareM ⟨k, c, l, st, mo, ep, wd, v, d0, d1, d2, d3, hs⟩))
                      case first =>
                        have HGB : Hid (grantedB ⟨k, c, l, st, mo, ep, wd, v, d0, d1, d2, d3, hs⟩ = (decide (k ≠ 13) || (decide (st ≠ 0) && decide (st ≠ 3)))) := rfl
                        generalize grantedB ⟨k, c, l, st, mo, ep, wd, v, d0, d1, d2, d3, hs⟩ = gb at *
                        obtain ⟨m0, m1, m2, m3, m4, m5, m6, m7, m8, m9, m10, m11, m12⟩ := msg_cells RH.out.h1
                        clear m1 m2 m4 m5 m6 m7 m8 m9 m10 m11 m12
                        by_cases hk : k = 13
                        · by_cases h0 : st = 0
                          · have e : gb = false := by rw [HGB.out, hk, h0]; rfl
                            subst e hk h0
                            clear HGB
                            go_wp2
                            go_meet
                            exact ⟨rfl, RH.out⟩
                          · by_cases h3 : st = 3
                            · have e : gb = false := by rw [HGB.out, hk, h3]; rfl
                              subst e hk h3
                              clear HGB h0
                              go_wp2
                              go_meet
                              exact ⟨rfl, RH.out⟩
                            · have e : gb = true := by rw [HGB.out, hk]; simp [h0, h3]
                              have k0 : (st != 0) = true := by simpa using h0
                              have k3 : (st != 3) = true := by simpa using h3
                              subst e hk
                              clear HGB
                              go_wp2
                              go_meet
                              exact ⟨rfl, RH.out⟩
                        · have e : gb = true := by rw [HGB.out]; simp [hk]
                          have k1 : (k != 13) = true := by simpa using hk
                          subst e
                          clear HGB
                          go_wp2
                          go_meet
                          exact ⟨rfl, RH.out⟩
                      case rest =>
                        obtain ⟨rfl, hc2⟩ := hcut
                        have RI := Lib.hid hc2
                        clear hc2 RH
                        obtain ⟨m0, m1, m2, m3, m4, m5, m6, m7, m8, m9, m10, m11, m12⟩ := msg_cells RI.out.h1
                        obtain ⟨z0, z1, z2, z3, z4, z5, z6, z7, z8, z9, z10, z11, z12⟩ := msg_cells RI.out.h4
                        have l1 := lt_of_heap RI.out.h1
                        generalize bareM ⟨k, c, l, st, mo, ep, wd, v, d0, d1, d2, d3, hs⟩ = y at *
                        have he := eqMsg ⟨k, c, l, st, mo, ep, wd, v, d0, d1, d2, d3, hs⟩ y
                        have HD := Lib.hid RI.out.bel
                        generalize limitsB ⟨k, c, l, st, mo, ep, wd, v, d0, d1, d2, d3, hs⟩ = lb at *
                        generalize grantedB ⟨k, c, l, st, mo, ep, wd, v, d0, d1, d2, d3, hs⟩ = gb at *
                        generalize decide (⟨k, c, l, st, mo, ep, wd, v, d0, d1, d2, d3, hs⟩ = y) = db at *
                        obtain ⟨yk, yc, yl, yst, ymo, yep, ywd, yv, y0, y1, y2, y3, yh⟩ := y
                        simp only [Mg.val] at m0 m1 m2 m3 m4 m5 m6 m7 m8 m9 m10 m11 m12 z0 z1 z2 z3 z4 z5 z6 z7 z8 z9 z10 z11 z12 he
                        clear RI l1
                        cases db
                        all_goals cases lb
                        all_goals cases gb
                        all_goals
                          have hr : res = _ := HR2.out
                          simp only [Bool.and_false, Bool.and_true, Bool.and_self] at hr
                          subst hr
                          clear HR2
                          go_wp2
                          go_ret
                          exact ⟨rfl, HD.out⟩
end Go.Proofs.YtfaihaknibmcpaaGreatDoor
