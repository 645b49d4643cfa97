-- PRINTED BY print.sh 35421559b90ae4d0a3588c463048766b98c2df88dd9212a6774a882060cdf62d: not written by this session
import Derived.Test.YtdpcnfdjpbbgjaaPStateTellsx0
import Derived.Test.YtdpcnfdjpbbgjaaPStateTellsx1
import Derived.Test.YtdpcnfdjpbbgjaaPStateTellsx2
namespace Go.Proofs.Ytdpcnfdjpbbgjaa.PStateTells
open Go.RowKit Go.Proofs.YtdpcnfdjpbbgjaaW.PrintWords Go.Proofs.YtdpcnfdjpbbgjaaW.PrintLast Go.Proofs.YtdpcnfdjpbbgjaaW.PrintMore
attribute [local go_sem] max2_int min2_int max_two min_two max_three min_three max_four min_four   -- for this text's walks alone
set_option linter.unusedVariables false
set_option linter.unusedSimpArgs false

/-! ### assentlaw13_StateTells: function 6 -/
mutual
def assentlaw13_StateTells.j0 : Nat → Int → Int → Int → Bool → Int → Bool → Int → Bool → Int → Option (Bool)
  | 0, _, _, _, _, _, _, _, _, _ => none
  | k + 1, x0, x1, x2, x4, x11, x12, x13, x14, x15 => if x0 = 0 then (assentlaw13_StateTells.j1 k x0 x1 x2 x4 x11 x12 x13 x14 x15 true) else (if x1 = 0 then (assentlaw13_StateTells.j1 k x0 x1 x2 x4 x11 x12 x13 x14 x15 true) else (if x0 = 1 then (if x1 = 1 then (assentlaw13_StateTells.j1 k x0 x1 x2 x4 x11 x12 x13 x14 x15 true) else (if x1 = 3 then (assentlaw13_StateTells.j1 k x0 x1 x2 x4 x11 x12 x13 x14 x15 true) else (if x0 = 3 then (assentlaw13_StateTells.j1 k x0 x1 x2 x4 x11 x12 x13 x14 x15 (x1 == 1)) else (assentlaw13_StateTells.j1 k x0 x1 x2 x4 x11 x12 x13 x14 x15 false)))) else (if x0 = 3 then (assentlaw13_StateTells.j1 k x0 x1 x2 x4 x11 x12 x13 x14 x15 (x1 == 1)) else (assentlaw13_StateTells.j1 k x0 x1 x2 x4 x11 x12 x13 x14 x15 false))))
def assentlaw13_StateTells.j1 : Nat → Int → Int → Int → Bool → Int → Bool → Int → Bool → Int → Bool → Option (Bool)
  | 0, _, _, _, _, _, _, _, _, _, _ => none
  | k + 1, x0, x1, x2, x4, x11, x12, x13, x14, x15, x16 => if x11 = x13 then (if (x12 == x14) = true then ((state_Reads.f x0).bind fun t121 => ((assentref11_Reads.f x0).bind fun t122 => (if (t121 == t122) = true then ((state_Writes.f x0).bind fun t123 => ((assentref11_Writes.f x0).bind fun t124 => (if (t123 == t124) = true then ((state_Dirty.f x0).bind fun t125 => ((assentref11_Dirty.f x0).bind fun t126 => (if (t125 == t126) = true then ((state_Grant.f x2 x4).bind fun t127 => (if t127 = x15 then ((state_Legal.f x0 x1).bind fun t128 => (if (t128 == x16) = true then ((assentlaw13_StateRuns.f k).bind fun t129 => (some t129)) else (some false))) else (some false))) else (some false)))) else (some false)))) else (some false)))) else (some false)) else (some false)
end
def assentlaw13_StateTells.f (k : Nat) (a0 : Int) (a1 : Int) (a2 : Int) (a3 : Int) (a4 : Bool) : Option (Bool) := (state_Next.f k a0 a2 a3).bind fun bt117 => ((assentref11_Next.f k a0 a2 a3).bind fun bt119 => (if a2 = 1 then (if a4 = true then (assentlaw13_StateTells.j0 k a0 a1 a2 a4 bt117.1 bt117.2 bt119.1 bt119.2 2) else (assentlaw13_StateTells.j0 k a0 a1 a2 a4 bt117.1 bt117.2 bt119.1 bt119.2 1)) else (if a2 = 2 then (assentlaw13_StateTells.j0 k a0 a1 a2 a4 bt117.1 bt117.2 bt119.1 bt119.2 4) else (if a2 = 3 then (assentlaw13_StateTells.j0 k a0 a1 a2 a4 bt117.1 bt117.2 bt119.1 bt119.2 4) else (assentlaw13_StateTells.j0 k a0 a1 a2 a4 bt117.1 bt117.2 bt119.1 bt119.2 0)))))
theorem assentlaw13_StateTells.mono_l : ∀ k, (∀ y0 y1 y2 y3 y4 y5 y6 y7 y8, LeO (assentlaw13_StateTells.j0 k y0 y1 y2 y3 y4 y5 y6 y7 y8) (assentlaw13_StateTells.j0 (k + 1) y0 y1 y2 y3 y4 y5 y6 y7 y8)) ∧ (∀ y0 y1 y2 y3 y4 y5 y6 y7 y8 y9, LeO (assentlaw13_StateTells.j1 k y0 y1 y2 y3 y4 y5 y6 y7 y8 y9) (assentlaw13_StateTells.j1 (k + 1) y0 y1 y2 y3 y4 y5 y6 y7 y8 y9))
  | 0 => ⟨fun _ _ _ _ _ _ _ _ _ r h => by simp [assentlaw13_StateTells.j0] at h, fun _ _ _ _ _ _ _ _ _ _ r h => by simp [assentlaw13_StateTells.j1] at h⟩
  | k + 1 => by
    obtain ⟨ih0, ih1⟩ := assentlaw13_StateTells.mono_l k
    refine ⟨?_, ?_⟩
    · intro y0 y1 y2 y3 y4 y5 y6 y7 y8
      unfold assentlaw13_StateTells.j0
      repeat' first
      | (with_reducible exact ih0 _ _ _ _ _ _ _ _ _)
      | (with_reducible exact ih1 _ _ _ _ _ _ _ _ _ _)
      | (with_reducible exact assentlaw13_StateRuns.mono _)
      | (with_reducible exact assentref11_Next.mono _ _ _ _)
      | (with_reducible exact state_Next.mono _ _ _ _)
      | (with_reducible exact LeO.refl _)
      | (with_reducible exact LeO.none _)
      | (with_reducible refine LeO.ite ?_ ?_)
      | (with_reducible refine LeO.bind ?_ (fun _ => ?_))
      | exact ih0 _ _ _ _ _ _ _ _ _
      | exact ih1 _ _ _ _ _ _ _ _ _ _
      | exact assentlaw13_StateRuns.mono _
      | exact assentref11_Next.mono _ _ _ _
      | exact state_Next.mono _ _ _ _
      | exact LeO.none _
      | refine LeO.ite ?_ ?_
      | refine LeO.bind ?_ (fun _ => ?_)
    · intro y0 y1 y2 y3 y4 y5 y6 y7 y8 y9
      unfold assentlaw13_StateTells.j1
      repeat' first
      | (with_reducible exact ih0 _ _ _ _ _ _ _ _ _)
      | (with_reducible exact ih1 _ _ _ _ _ _ _ _ _ _)
      | (with_reducible exact assentlaw13_StateRuns.mono _)
      | (with_reducible exact assentref11_Next.mono _ _ _ _)
      | (with_reducible exact state_Next.mono _ _ _ _)
      | (with_reducible exact LeO.refl _)
      | (with_reducible exact LeO.none _)
      | (with_reducible refine LeO.ite ?_ ?_)
      | (with_reducible refine LeO.bind ?_ (fun _ => ?_))
      | exact ih0 _ _ _ _ _ _ _ _ _
      | exact ih1 _ _ _ _ _ _ _ _ _ _
      | exact assentlaw13_StateRuns.mono _
      | exact assentref11_Next.mono _ _ _ _
      | exact state_Next.mono _ _ _ _
      | exact LeO.none _
      | refine LeO.ite ?_ ?_
      | refine LeO.bind ?_ (fun _ => ?_)
theorem assentlaw13_StateTells.mono : ∀ a0 a1 a2 a3 a4 k, LeO (assentlaw13_StateTells.f k a0 a1 a2 a3 a4) (assentlaw13_StateTells.f (k + 1) a0 a1 a2 a3 a4) := by
  intro a0 a1 a2 a3 a4 k
  obtain ⟨ih0, ih1⟩ := assentlaw13_StateTells.mono_l k
  unfold assentlaw13_StateTells.f
  repeat' first
      | (with_reducible exact ih0 _ _ _ _ _ _ _ _ _)
      | (with_reducible exact ih1 _ _ _ _ _ _ _ _ _ _)
      | (with_reducible exact assentlaw13_StateRuns.mono _)
      | (with_reducible exact assentref11_Next.mono _ _ _ _)
      | (with_reducible exact state_Next.mono _ _ _ _)
      | (with_reducible exact LeO.refl _)
      | (with_reducible exact LeO.none _)
      | (with_reducible refine LeO.ite ?_ ?_)
      | (with_reducible refine LeO.bind ?_ (fun _ => ?_))
      | exact ih0 _ _ _ _ _ _ _ _ _
      | exact ih1 _ _ _ _ _ _ _ _ _ _
      | exact assentlaw13_StateRuns.mono _
      | exact assentref11_Next.mono _ _ _ _
      | exact state_Next.mono _ _ _ _
      | exact LeO.none _
      | refine LeO.ite ?_ ?_
      | refine LeO.bind ?_ (fun _ => ?_)
set_option maxHeartbeats 8000000 in
set_option maxRecDepth 100000 in
theorem assentlaw13_StateTells.calls (k : Nat) (a0 : Int) (a1 : Int) (a2 : Int) (a3 : Int) (a4 : Bool) (r : Bool) (w : World) (h : assentlaw13_StateTells.f k a0 a1 a2 a3 a4 = some r) :
    Calls Try.prog 6 #[.int .i64 a0, .int .i64 a1, .int .i64 a2, .int .i64 a3, .bool a4] w fun e w' => e = .returned (.bool r) ∧ Below w.heap.size w w' := by
  have HB := Aside0.mk (Below.refl w.heap.size w)
  have H : ((state_Next.f k a0 a2 a3).bind fun bt117 => ((assentref11_Next.f k a0 a2 a3).bind fun bt119 => (if a2 = 1 then (if a4 = true then (assentlaw13_StateTells.j0 k a0 a1 a2 a4 bt117.1 bt117.2 bt119.1 bt119.2 2) else (assentlaw13_StateTells.j0 k a0 a1 a2 a4 bt117.1 bt117.2 bt119.1 bt119.2 1)) else (if a2 = 2 then (assentlaw13_StateTells.j0 k a0 a1 a2 a4 bt117.1 bt117.2 bt119.1 bt119.2 4) else (if a2 = 3 then (assentlaw13_StateTells.j0 k a0 a1 a2 a4 bt117.1 bt117.2 bt119.1 bt119.2 4) else (assentlaw13_StateTells.j0 k a0 a1 a2 a4 bt117.1 bt117.2 bt119.1 bt119.2 0)))))) = some r := h
  clear h
  replace H := Option.bind_eq_some_iff.mp H
  obtain ⟨⟨t117, t118⟩, A60, H⟩ := H
  replace H : ((assentref11_Next.f k a0 a2 a3).bind fun bt119 => (if a2 = 1 then (if a4 = true then (assentlaw13_StateTells.j0 k a0 a1 a2 a4 t117 t118 bt119.1 bt119.2 2) else (assentlaw13_StateTells.j0 k a0 a1 a2 a4 t117 t118 bt119.1 bt119.2 1)) else (if a2 = 2 then (assentlaw13_StateTells.j0 k a0 a1 a2 a4 t117 t118 bt119.1 bt119.2 4) else (if a2 = 3 then (assentlaw13_StateTells.j0 k a0 a1 a2 a4 t117 t118 bt119.1 bt119.2 4) else (assentlaw13_StateTells.j0 k a0 a1 a2 a4 t117 t118 bt119.1 bt119.2 0))))) = some r := H
  have A6 := Aside0.mk A60
  clear A60
  replace H := Option.bind_eq_some_iff.mp H
  obtain ⟨⟨t119, t120⟩, A70, H⟩ := H
  replace H : (if a2 = 1 then (if a4 = true then (assentlaw13_StateTells.j0 k a0 a1 a2 a4 t117 t118 t119 t120 2) else (assentlaw13_StateTells.j0 k a0 a1 a2 a4 t117 t118 t119 t120 1)) else (if a2 = 2 then (assentlaw13_StateTells.j0 k a0 a1 a2 a4 t117 t118 t119 t120 4) else (if a2 = 3 then (assentlaw13_StateTells.j0 k a0 a1 a2 a4 t117 t118 t119 t120 4) else (assentlaw13_StateTells.j0 k a0 a1 a2 a4 t117 t118 t119 t120 0)))) = some r := H
  have A7 := Aside0.mk A70
  clear A70
  have HC8 := Aside0.mk H
  clear H
  go_enter Try.func6, Try.ntmps6
  go_upto_block 0 with (first | ((with_reducible refine gate_callee (f := 14) rfl ?_); refine goesL_ (some 21) rfl rfl Try.func14 (by kernel_rfl) rfl #[.int .i64 a0, .int .i64 a2, .int .i64 a3] rfl (by (try simp only [List.map_toArray, List.map_cons, List.map_nil]); first | done | rfl | (simp only [List.length_drop, List.length_take]; rfl)) ?_; (with_reducible refine (state_Next.calls k a0 a2 a3 t117 t118 _ A6.out).mono ?_); rintro e w' ⟨rfl, ⟨nd, rfl⟩⟩; refine ⟨_, rfl, ?_⟩) | ((with_reducible refine gate_callee (f := 16) rfl ?_); refine goesL_ (some 28) rfl rfl Try.func16 (by kernel_rfl) rfl #[.int .i64 a0, .int .i64 a2, .int .i64 a3] rfl (by (try simp only [List.map_toArray, List.map_cons, List.map_nil]); first | done | rfl | (simp only [List.length_drop, List.length_take]; rfl)) ?_; (with_reducible refine (assentref11_Next.calls k a0 a2 a3 t119 t120 _ A7.out).mono ?_); rintro e w' ⟨rfl, ⟨nd, rfl⟩⟩; refine ⟨_, rfl, ?_⟩))
  (try simp only [Act.put, List.setIfInBounds_toArray, List.set_cons_zero, List.set_cons_succ])
  go_cut [15] (fun v15 wc => ∃ (kq : Nat) (x15_7 : Int), v15 = .int .i64 x15_7 ∧ Aside0 (assentlaw13_StateTells.j0 kq a0 a1 a2 a4 t117 t118 t119 t120 x15_7 = some r) ∧ Aside0 (kq ≤ k) ∧ Aside0 (Below w.heap.size w wc))
  case first =>
    have H := HC8.out
    clear HC8
    by_cases c9 : a2 = 1
    · rw [if_pos c9] at H
      have c9b0 : (a2 == 1) = true := beq_iff_eq.mpr c9
      have c9b1 : (a2 != 1) = false := bne_eq_false_iff_eq.mpr c9
      clear c9
      (first | rw [c9b0] | (simp only [i64_w, i32_w]; rw [c9b0]) | skip)
      by_cases c10 : a4 = true
      · subst c10
        have H1 : (assentlaw13_StateTells.j0 k a0 a1 a2 true t117 t118 t119 t120 2) = some r := by rw [if_pos rfl] at H; exact H
        clear H
        have H := H1
        clear H1
        have H' := Aside0.mk H
        clear H
        go_wp2
        go_meet
        case rel => exact ⟨_, (2), (by first | rfl | (simp; done) | (simp [*]; done)), H', ⟨by first | omega | exact Nat.le_refl _⟩, ⟨by repeat (first | (with_reducible first | exact HB.out | apply below_alloc | apply pw_below_drewN | apply below_drew1) | exact HB.out)⟩⟩
      · replace c10 := Bool.eq_false_iff.mpr c10
        subst c10
        have H1 : (assentlaw13_StateTells.j0 k a0 a1 a2 false t117 t118 t119 t120 1) = some r := by rw [if_neg (show ¬ (false = true) by decide)] at H; exact H
        clear H
        have H := H1
        clear H1
        have H' := Aside0.mk H
        clear H
        go_wp2
        go_meet
        case rel => exact ⟨_, (1), (by first | rfl | (simp; done) | (simp [*]; done)), H', ⟨by first | omega | exact Nat.le_refl _⟩, ⟨by repeat (first | (with_reducible first | exact HB.out | apply below_alloc | apply pw_below_drewN | apply below_drew1) | exact HB.out)⟩⟩
    · rw [if_neg c9] at H
      have c9b0 : (a2 == 1) = false := beq_eq_false_iff_ne.mpr c9
      have c9b1 : (a2 != 1) = true := bne_iff_ne.mpr c9
      (first | rw [c9b0] | (simp only [i64_w, i32_w]; rw [c9b0]) | skip)
      by_cases c11 : a2 = 2
      · rw [if_pos c11] at H
        have c11b0 : (a2 == 2) = true := beq_iff_eq.mpr c11
        have c11b1 : (a2 != 2) = false := bne_eq_false_iff_eq.mpr c11
        clear c11
        have H' := Aside0.mk H
        clear H
        go_wp2
        go_meet
        case rel => exact ⟨_, (4), (by first | rfl | (simp; done) | (simp [*]; done)), H', ⟨by first | omega | exact Nat.le_refl _⟩, ⟨by repeat (first | (with_reducible first | exact HB.out | apply below_alloc | apply pw_below_drewN | apply below_drew1) | exact HB.out)⟩⟩
      · rw [if_neg c11] at H
        have c11b0 : (a2 == 2) = false := beq_eq_false_iff_ne.mpr c11
        have c11b1 : (a2 != 2) = true := bne_iff_ne.mpr c11
        by_cases c12 : a2 = 3
        · rw [if_pos c12] at H
          have c12b0 : (a2 == 3) = true := beq_iff_eq.mpr c12
          have c12b1 : (a2 != 3) = false := bne_eq_false_iff_eq.mpr c12
          clear c12
          have H' := Aside0.mk H
          clear H
          go_wp2
          go_meet
          case rel => exact ⟨_, (4), (by first | rfl | (simp; done) | (simp [*]; done)), H', ⟨by first | omega | exact Nat.le_refl _⟩, ⟨by repeat (first | (with_reducible first | exact HB.out | apply below_alloc | apply pw_below_drewN | apply below_drew1) | exact HB.out)⟩⟩
        · rw [if_neg c12] at H
          have c12b0 : (a2 == 3) = false := beq_eq_false_iff_ne.mpr c12
          have c12b1 : (a2 != 3) = true := bne_iff_ne.mpr c12
          have H' := Aside0.mk H
          clear H
          go_wp2
          go_meet
          case rel => exact ⟨_, (0), (by first | rfl | (simp; done) | (simp [*]; done)), H', ⟨by first | omega | exact Nat.le_refl _⟩, ⟨by repeat (first | (with_reducible first | exact HB.out | apply below_alloc | apply pw_below_drewN | apply below_drew1) | exact HB.out)⟩⟩
  case rest =>
    clear HC8
    try clear c1
    try clear p2
    try clear c6
    try clear c9
    try clear c9b0
    try clear c9b1
    try clear c10
    try clear c11
    try clear c11b0
    try clear c11b1
    try clear c12
    try clear c12b0
    try clear c12b1
    obtain ⟨kq, x15_7, rfl, HA, HJ7, HB⟩ := hcut
    cases kq with
    | zero => exact absurd HA.out (by simp [assentlaw13_StateTells.j0])
    | succ kj7 =>
      have H := HA.out
      clear HA
      simp only [assentlaw13_StateTells.j0] at H
      have HC13 := Aside0.mk H
      clear H
      go_upto_region 12 with (fail)
      go_cut [16] (fun v16 wc => ∃ (kq : Nat) (x16_12 : Bool), v16 = .bool x16_12 ∧ Aside0 (assentlaw13_StateTells.j1 kq a0 a1 a2 a4 t117 t118 t119 t120 x15_7 x16_12 = some r) ∧ Aside0 (kq ≤ kj7) ∧ Aside0 (Below w.heap.size w wc))
      case first =>
        have H := HC13.out
        clear HC13
        by_cases c14 : a0 = 0
        · rw [if_pos c14] at H
          have c14b0 : (a0 == 0) = true := beq_iff_eq.mpr c14
          have c14b1 : (a0 != 0) = false := bne_eq_false_iff_eq.mpr c14
          clear c14
          (first | rw [c14b0] | (simp only [i64_w, i32_w]; rw [c14b0]) | skip)
          have H' := Aside0.mk H
          clear H
          go_wp2
          go_meet
          case rel => exact ⟨_, (true), (by first | rfl | (simp; done) | (simp [*]; done)), H', ⟨by have := HJ7.out; first | omega | exact Nat.le_refl _⟩, ⟨by repeat (first | (with_reducible first | exact HB.out | apply below_alloc | apply pw_below_drewN | apply below_drew1) | exact HB.out)⟩⟩
        · rw [if_neg c14] at H
          have c14b0 : (a0 == 0) = false := beq_eq_false_iff_ne.mpr c14
          have c14b1 : (a0 != 0) = true := bne_iff_ne.mpr c14
          (first | rw [c14b0] | (simp only [i64_w, i32_w]; rw [c14b0]) | skip)
          by_cases c15 : a1 = 0
          · rw [if_pos c15] at H
            have c15b0 : (a1 == 0) = true := beq_iff_eq.mpr c15
            have c15b1 : (a1 != 0) = false := bne_eq_false_iff_eq.mpr c15
            clear c15
            have H' := Aside0.mk H
            clear H
            go_wp2
            go_meet
            case rel => exact ⟨_, (true), (by first | rfl | (simp; done) | (simp [*]; done)), H', ⟨by have := HJ7.out; first | omega | exact Nat.le_refl _⟩, ⟨by repeat (first | (with_reducible first | exact HB.out | apply below_alloc | apply pw_below_drewN | apply below_drew1) | exact HB.out)⟩⟩
          · rw [if_neg c15] at H
            have c15b0 : (a1 == 0) = false := beq_eq_false_iff_ne.mpr c15
            have c15b1 : (a1 != 0) = true := bne_iff_ne.mpr c15
            by_cases c16 : a0 = 1
            · rw [if_pos c16] at H
              have c16b0 : (a0 == 1) = true := beq_iff_eq.mpr c16
              have c16b1 : (a0 != 1) = false := bne_eq_false_iff_eq.mpr c16
              clear c16
              by_cases c17 : a1 = 1
              · rw [if_pos c17] at H
                have c17b0 : (a1 == 1) = true := beq_iff_eq.mpr c17
                have c17b1 : (a1 != 1) = false := bne_eq_false_iff_eq.mpr c17
                clear c17
                have H' := Aside0.mk H
                clear H
                go_wp2
                go_meet
                case rel => exact ⟨_, (true), (by first | rfl | (simp; done) | (simp [*]; done)), H', ⟨by have := HJ7.out; first | omega | exact Nat.le_refl _⟩, ⟨by repeat (first | (with_reducible first | exact HB.out | apply below_alloc | apply pw_below_drewN | apply below_drew1) | exact HB.out)⟩⟩
              · rw [if_neg c17] at H
                have c17b0 : (a1 == 1) = false := beq_eq_false_iff_ne.mpr c17
                have c17b1 : (a1 != 1) = true := bne_iff_ne.mpr c17
                by_cases c18 : a1 = 3
                · rw [if_pos c18] at H
                  have c18b0 : (a1 == 3) = true := beq_iff_eq.mpr c18
                  have c18b1 : (a1 != 3) = false := bne_eq_false_iff_eq.mpr c18
                  clear c18
                  have H' := Aside0.mk H
                  clear H
                  go_wp2
                  go_meet
                  case rel => exact ⟨_, (true), (by first | rfl | (simp; done) | (simp [*]; done)), H', ⟨by have := HJ7.out; first | omega | exact Nat.le_refl _⟩, ⟨by repeat (first | (with_reducible first | exact HB.out | apply below_alloc | apply pw_below_drewN | apply below_drew1) | exact HB.out)⟩⟩
                · rw [if_neg c18] at H
                  have c18b0 : (a1 == 3) = false := beq_eq_false_iff_ne.mpr c18
                  have c18b1 : (a1 != 3) = true := bne_iff_ne.mpr c18
                  by_cases c19 : a0 = 3
                  · rw [if_pos c19] at H
                    have c19b0 : (a0 == 3) = true := beq_iff_eq.mpr c19
                    have c19b1 : (a0 != 3) = false := bne_eq_false_iff_eq.mpr c19
                    clear c19
                    have H' := Aside0.mk H
                    clear H
                    go_wp2
                    go_meet
                    case rel => exact ⟨_, ((a1 == 1)), (by first | rfl | (simp; done) | (simp [*]; done)), H', ⟨by have := HJ7.out; first | omega | exact Nat.le_refl _⟩, ⟨by repeat (first | (with_reducible first | exact HB.out | apply below_alloc | apply pw_below_drewN | apply below_drew1) | exact HB.out)⟩⟩
                  · rw [if_neg c19] at H
                    have c19b0 : (a0 == 3) = false := beq_eq_false_iff_ne.mpr c19
                    have c19b1 : (a0 != 3) = true := bne_iff_ne.mpr c19
                    have H' := Aside0.mk H
                    clear H
                    go_wp2
                    go_meet
                    case rel => exact ⟨_, (false), (by first | rfl | (simp; done) | (simp [*]; done)), H', ⟨by have := HJ7.out; first | omega | exact Nat.le_refl _⟩, ⟨by repeat (first | (with_reducible first | exact HB.out | apply below_alloc | apply pw_below_drewN | apply below_drew1) | exact HB.out)⟩⟩
            · rw [if_neg c16] at H
              have c16b0 : (a0 == 1) = false := beq_eq_false_iff_ne.mpr c16
              have c16b1 : (a0 != 1) = true := bne_iff_ne.mpr c16
              by_cases c20 : a0 = 3
              · rw [if_pos c20] at H
                have c20b0 : (a0 == 3) = true := beq_iff_eq.mpr c20
                have c20b1 : (a0 != 3) = false := bne_eq_false_iff_eq.mpr c20
                clear c20
                have H' := Aside0.mk H
                clear H
                go_wp2
                go_meet
                case rel => exact ⟨_, ((a1 == 1)), (by first | rfl | (simp; done) | (simp [*]; done)), H', ⟨by have := HJ7.out; first | omega | exact Nat.le_refl _⟩, ⟨by repeat (first | (with_reducible first | exact HB.out | apply below_alloc | apply pw_below_drewN | apply below_drew1) | exact HB.out)⟩⟩
              · rw [if_neg c20] at H
                have c20b0 : (a0 == 3) = false := beq_eq_false_iff_ne.mpr c20
                have c20b1 : (a0 != 3) = true := bne_iff_ne.mpr c20
                have H' := Aside0.mk H
                clear H
                go_wp2
                go_meet
                case rel => exact ⟨_, (false), (by first | rfl | (simp; done) | (simp [*]; done)), H', ⟨by have := HJ7.out; first | omega | exact Nat.le_refl _⟩, ⟨by repeat (first | (with_reducible first | exact HB.out | apply below_alloc | apply pw_below_drewN | apply below_drew1) | exact HB.out)⟩⟩
      case rest =>
        clear HC13
        try clear c1
        try clear c2
        try clear p2
        try clear c6
        try clear c9
        try clear c9b0
        try clear c9b1
        try clear c10
        try clear c11
        try clear c11b0
        try clear c11b1
        try clear c12
        try clear c12b0
        try clear c12b1
        try clear c14
        try clear c14b0
        try clear c14b1
        try clear c15
        try clear c15b0
        try clear c15b1
        try clear c16
        try clear c16b0
        try clear c16b1
        try clear c17
        try clear c17b0
        try clear c17b1
        try clear c18
        try clear c18b0
        try clear c18b1
        try clear c19
        try clear c19b0
        try clear c19b1
        try clear c20
        try clear c20b0
        try clear c20b1
        try clear p2
        obtain ⟨kq, x16_12, rfl, HA, HJ12, HB⟩ := hcut
        cases kq with
        | zero => exact absurd HA.out (by simp [assentlaw13_StateTells.j1])
        | succ kj12 =>
          have H := HA.out
          clear HA
          simp only [assentlaw13_StateTells.j1] at H
          by_cases c21 : t117 = t119
          · rw [if_pos c21] at H
            have c21b0 : (t117 == t119) = true := beq_iff_eq.mpr c21
            have c21b1 : (t117 != t119) = false := bne_eq_false_iff_eq.mpr c21
            clear c21
            by_cases c22 : (t118 == t120) = true
            · rw [if_pos c22] at H
              have c22b0 : (t118 == t120) = true := c22
              (try (have c22b1 : decide (t118 = t120) = true := by simpa using c22))
              (try (have c22b2 : (t118 == t120) = true := by simpa using c22))
              clear c22
              replace H := Option.bind_eq_some_iff.mp H
              obtain ⟨t121, A230, H⟩ := H
              replace H : ((assentref11_Reads.f a0).bind fun t122 => (if (t121 == t122) = true then ((state_Writes.f a0).bind fun t123 => ((assentref11_Writes.f a0).bind fun t124 => (if (t123 == t124) = true then ((state_Dirty.f a0).bind fun t125 => ((assentref11_Dirty.f a0).bind fun t126 => (if (t125 == t126) = true then ((state_Grant.f a2 a4).bind fun t127 => (if t127 = x15_7 then ((state_Legal.f a0 a1).bind fun t128 => (if (t128 == x16_12) = true then ((assentlaw13_StateRuns.f kj12).bind fun t129 => (some t129)) else (some false))) else (some false))) else (some false)))) else (some false)))) else (some false))) = some r := H
              have A23 := Aside0.mk A230
              clear A230
              replace H := Option.bind_eq_some_iff.mp H
              obtain ⟨t122, A240, H⟩ := H
              replace H : (if (t121 == t122) = true then ((state_Writes.f a0).bind fun t123 => ((assentref11_Writes.f a0).bind fun t124 => (if (t123 == t124) = true then ((state_Dirty.f a0).bind fun t125 => ((assentref11_Dirty.f a0).bind fun t126 => (if (t125 == t126) = true then ((state_Grant.f a2 a4).bind fun t127 => (if t127 = x15_7 then ((state_Legal.f a0 a1).bind fun t128 => (if (t128 == x16_12) = true then ((assentlaw13_StateRuns.f kj12).bind fun t129 => (some t129)) else (some false))) else (some false))) else (some false)))) else (some false)))) else (some false)) = some r := H
              have A24 := Aside0.mk A240
              clear A240
              by_cases c25 : (t121 == t122) = true
              · rw [if_pos c25] at H
                have c25b0 : (t121 == t122) = true := c25
                (try (have c25b1 : decide (t121 = t122) = true := by simpa using c25))
                (try (have c25b2 : (t121 == t122) = true := by simpa using c25))
                clear c25
                replace H := Option.bind_eq_some_iff.mp H
                obtain ⟨t123, A260, H⟩ := H
                replace H : ((assentref11_Writes.f a0).bind fun t124 => (if (t123 == t124) = true then ((state_Dirty.f a0).bind fun t125 => ((assentref11_Dirty.f a0).bind fun t126 => (if (t125 == t126) = true then ((state_Grant.f a2 a4).bind fun t127 => (if t127 = x15_7 then ((state_Legal.f a0 a1).bind fun t128 => (if (t128 == x16_12) = true then ((assentlaw13_StateRuns.f kj12).bind fun t129 => (some t129)) else (some false))) else (some false))) else (some false)))) else (some false))) = some r := H
                have A26 := Aside0.mk A260
                clear A260
                replace H := Option.bind_eq_some_iff.mp H
                obtain ⟨t124, A270, H⟩ := H
                replace H : (if (t123 == t124) = true then ((state_Dirty.f a0).bind fun t125 => ((assentref11_Dirty.f a0).bind fun t126 => (if (t125 == t126) = true then ((state_Grant.f a2 a4).bind fun t127 => (if t127 = x15_7 then ((state_Legal.f a0 a1).bind fun t128 => (if (t128 == x16_12) = true then ((assentlaw13_StateRuns.f kj12).bind fun t129 => (some t129)) else (some false))) else (some false))) else (some false)))) else (some false)) = some r := H
                have A27 := Aside0.mk A270
                clear A270
                by_cases c28 : (t123 == t124) = true
                · rw [if_pos c28] at H
                  have c28b0 : (t123 == t124) = true := c28
                  (try (have c28b1 : decide (t123 = t124) = true := by simpa using c28))
                  (try (have c28b2 : (t123 == t124) = true := by simpa using c28))
                  clear c28
                  replace H := Option.bind_eq_some_iff.mp H
                  obtain ⟨t125, A290, H⟩ := H
                  replace H : ((assentref11_Dirty.f a0).bind fun t126 => (if (t125 == t126) = true then ((state_Grant.f a2 a4).bind fun t127 => (if t127 = x15_7 then ((state_Legal.f a0 a1).bind fun t128 => (if (t128 == x16_12) = true then ((assentlaw13_StateRuns.f kj12).bind fun t129 => (some t129)) else (some false))) else (some false))) else (some false))) = some r := H
                  have A29 := Aside0.mk A290
                  clear A290
                  replace H := Option.bind_eq_some_iff.mp H
                  obtain ⟨t126, A300, H⟩ := H
                  replace H : (if (t125 == t126) = true then ((state_Grant.f a2 a4).bind fun t127 => (if t127 = x15_7 then ((state_Legal.f a0 a1).bind fun t128 => (if (t128 == x16_12) = true then ((assentlaw13_StateRuns.f kj12).bind fun t129 => (some t129)) else (some false))) else (some false))) else (some false)) = some r := H
                  have A30 := Aside0.mk A300
                  clear A300
                  by_cases c31 : (t125 == t126) = true
                  · rw [if_pos c31] at H
                    have c31b0 : (t125 == t126) = true := c31
                    (try (have c31b1 : decide (t125 = t126) = true := by simpa using c31))
                    (try (have c31b2 : (t125 == t126) = true := by simpa using c31))
                    clear c31
                    replace H := Option.bind_eq_some_iff.mp H
                    obtain ⟨t127, A320, H⟩ := H
                    replace H : (if t127 = x15_7 then ((state_Legal.f a0 a1).bind fun t128 => (if (t128 == x16_12) = true then ((assentlaw13_StateRuns.f kj12).bind fun t129 => (some t129)) else (some false))) else (some false)) = some r := H
                    have A32 := Aside0.mk A320
                    clear A320
                    by_cases c33 : t127 = x15_7
                    · rw [if_pos c33] at H
                      have c33b0 : (t127 == x15_7) = true := beq_iff_eq.mpr c33
                      have c33b1 : (t127 != x15_7) = false := bne_eq_false_iff_eq.mpr c33
                      clear c33
                      replace H := Option.bind_eq_some_iff.mp H
                      obtain ⟨t128, A340, H⟩ := H
                      replace H : (if (t128 == x16_12) = true then ((assentlaw13_StateRuns.f kj12).bind fun t129 => (some t129)) else (some false)) = some r := H
                      have A34 := Aside0.mk A340
                      clear A340
                      by_cases c35 : (t128 == x16_12) = true
                      · rw [if_pos c35] at H
                        have c35b0 : (t128 == x16_12) = true := c35
                        (try (have c35b1 : decide (t128 = x16_12) = true := by simpa using c35))
                        (try (have c35b2 : (t128 == x16_12) = true := by simpa using c35))
                        clear c35
                        replace H := Option.bind_eq_some_iff.mp H
                        obtain ⟨t129, A360, H⟩ := H
                        replace H : (some t129) = some r := H
                        have A36 := Aside0.mk A360
                        clear A360
                        obtain rfl := Option.some.inj H
                        go_wp2_with (first | (go_at_call 17; (with_reducible refine (state_Reads.calls a0 t121 _ A23.out).mono ?_); rintro e w' ⟨rfl, ⟨nd, rfl⟩⟩) | (go_at_call 18; (with_reducible refine (assentref11_Reads.calls a0 t122 _ A24.out).mono ?_); rintro e w' ⟨rfl, ⟨nd, rfl⟩⟩) | (go_at_call 19; (with_reducible refine (state_Writes.calls a0 t123 _ A26.out).mono ?_); rintro e w' ⟨rfl, ⟨nd, rfl⟩⟩) | (go_at_call 20; (with_reducible refine (assentref11_Writes.calls a0 t124 _ A27.out).mono ?_); rintro e w' ⟨rfl, ⟨nd, rfl⟩⟩) | (go_at_call 15; (with_reducible refine (state_Dirty.calls a0 t125 _ A29.out).mono ?_); rintro e w' ⟨rfl, ⟨nd, rfl⟩⟩) | (go_at_call 21; (with_reducible refine (assentref11_Dirty.calls a0 t126 _ A30.out).mono ?_); rintro e w' ⟨rfl, ⟨nd, rfl⟩⟩) | (go_at_call 12; (with_reducible refine (state_Grant.calls a2 a4 t127 _ A32.out).mono ?_); rintro e w' ⟨rfl, ⟨nd, rfl⟩⟩) | (go_at_call 11; (with_reducible refine (state_Legal.calls a0 a1 t128 _ A34.out).mono ?_); rintro e w37 ⟨rfl, hb⟩; have n0_ := Aside0.mk (below_step (by repeat (first | (with_reducible first | exact HB.out | apply below_alloc | apply pw_below_drewN | apply below_drew1) | exact HB.out)) hb); clear HB; have HB := n0_; clear n0_; (try clear hb); (try clear hb2); (try clear hk); (try clear hi)) | (go_at_call 3; (with_reducible refine (assentlaw13_StateRuns.calls kj12  t129 _ A36.out).mono ?_); rintro e w38 ⟨rfl, hb⟩; have n0_ := Aside0.mk (below_step (by repeat (first | (with_reducible first | exact HB.out | apply below_alloc | apply pw_below_drewN | apply below_drew1) | exact HB.out)) hb); clear HB; have HB := n0_; clear n0_; (try clear hb); (try clear hb2); (try clear hk); (try clear hi)))
                        go_ret
                        exact ⟨by first | rfl | (simp [errW_none, errW_some] <;> rfl) | (simp [*, errW_none, errW_some] <;> rfl), by repeat (first | (with_reducible first | exact HB.out | apply below_alloc | apply pw_below_drewN | apply below_drew1) | exact HB.out)⟩
                      · rw [if_neg c35] at H
                        have c35b0 : (t128 == x16_12) = false := by simpa using c35
                        (try (have c35b1 : decide (t128 = x16_12) = false := by simpa using c35))
                        (try (have c35b2 : (t128 == x16_12) = false := by simpa using c35))
                        (try (have c35b3 : ¬ (t128 = x16_12) := by simpa using c35))
                        clear c35
                        obtain rfl := Option.some.inj H
                        go_wp2_with (first | (go_at_call 17; (with_reducible refine (state_Reads.calls a0 t121 _ A23.out).mono ?_); rintro e w' ⟨rfl, ⟨nd, rfl⟩⟩) | (go_at_call 18; (with_reducible refine (assentref11_Reads.calls a0 t122 _ A24.out).mono ?_); rintro e w' ⟨rfl, ⟨nd, rfl⟩⟩) | (go_at_call 19; (with_reducible refine (state_Writes.calls a0 t123 _ A26.out).mono ?_); rintro e w' ⟨rfl, ⟨nd, rfl⟩⟩) | (go_at_call 20; (with_reducible refine (assentref11_Writes.calls a0 t124 _ A27.out).mono ?_); rintro e w' ⟨rfl, ⟨nd, rfl⟩⟩) | (go_at_call 15; (with_reducible refine (state_Dirty.calls a0 t125 _ A29.out).mono ?_); rintro e w' ⟨rfl, ⟨nd, rfl⟩⟩) | (go_at_call 21; (with_reducible refine (assentref11_Dirty.calls a0 t126 _ A30.out).mono ?_); rintro e w' ⟨rfl, ⟨nd, rfl⟩⟩) | (go_at_call 12; (with_reducible refine (state_Grant.calls a2 a4 t127 _ A32.out).mono ?_); rintro e w' ⟨rfl, ⟨nd, rfl⟩⟩) | (go_at_call 11; (with_reducible refine (state_Legal.calls a0 a1 t128 _ A34.out).mono ?_); rintro e w39 ⟨rfl, hb⟩; have n0_ := Aside0.mk (below_step (by repeat (first | (with_reducible first | exact HB.out | apply below_alloc | apply pw_below_drewN | apply below_drew1) | exact HB.out)) hb); clear HB; have HB := n0_; clear n0_; (try clear hb); (try clear hb2); (try clear hk); (try clear hi)))
                        go_ret
                        exact ⟨by first | rfl | (simp [errW_none, errW_some] <;> rfl) | (simp [*, errW_none, errW_some] <;> rfl), by repeat (first | (with_reducible first | exact HB.out | apply below_alloc | apply pw_below_drewN | apply below_drew1) | exact HB.out)⟩
                    · rw [if_neg c33] at H
                      have c33b0 : (t127 == x15_7) = false := beq_eq_false_iff_ne.mpr c33
                      have c33b1 : (t127 != x15_7) = true := bne_iff_ne.mpr c33
                      obtain rfl := Option.some.inj H
                      go_wp2_with (first | (go_at_call 17; (with_reducible refine (state_Reads.calls a0 t121 _ A23.out).mono ?_); rintro e w' ⟨rfl, ⟨nd, rfl⟩⟩) | (go_at_call 18; (with_reducible refine (assentref11_Reads.calls a0 t122 _ A24.out).mono ?_); rintro e w' ⟨rfl, ⟨nd, rfl⟩⟩) | (go_at_call 19; (with_reducible refine (state_Writes.calls a0 t123 _ A26.out).mono ?_); rintro e w' ⟨rfl, ⟨nd, rfl⟩⟩) | (go_at_call 20; (with_reducible refine (assentref11_Writes.calls a0 t124 _ A27.out).mono ?_); rintro e w' ⟨rfl, ⟨nd, rfl⟩⟩) | (go_at_call 15; (with_reducible refine (state_Dirty.calls a0 t125 _ A29.out).mono ?_); rintro e w' ⟨rfl, ⟨nd, rfl⟩⟩) | (go_at_call 21; (with_reducible refine (assentref11_Dirty.calls a0 t126 _ A30.out).mono ?_); rintro e w' ⟨rfl, ⟨nd, rfl⟩⟩) | (go_at_call 12; (with_reducible refine (state_Grant.calls a2 a4 t127 _ A32.out).mono ?_); rintro e w' ⟨rfl, ⟨nd, rfl⟩⟩))
                      go_ret
                      exact ⟨by first | rfl | (simp [errW_none, errW_some] <;> rfl) | (simp [*, errW_none, errW_some] <;> rfl), by repeat (first | (with_reducible first | exact HB.out | apply below_alloc | apply pw_below_drewN | apply below_drew1) | exact HB.out)⟩
                  · rw [if_neg c31] at H
                    have c31b0 : (t125 == t126) = false := by simpa using c31
                    (try (have c31b1 : decide (t125 = t126) = false := by simpa using c31))
                    (try (have c31b2 : (t125 == t126) = false := by simpa using c31))
                    (try (have c31b3 : ¬ (t125 = t126) := by simpa using c31))
                    clear c31
                    obtain rfl := Option.some.inj H
                    go_wp2_with (first | (go_at_call 17; (with_reducible refine (state_Reads.calls a0 t121 _ A23.out).mono ?_); rintro e w' ⟨rfl, ⟨nd, rfl⟩⟩) | (go_at_call 18; (with_reducible refine (assentref11_Reads.calls a0 t122 _ A24.out).mono ?_); rintro e w' ⟨rfl, ⟨nd, rfl⟩⟩) | (go_at_call 19; (with_reducible refine (state_Writes.calls a0 t123 _ A26.out).mono ?_); rintro e w' ⟨rfl, ⟨nd, rfl⟩⟩) | (go_at_call 20; (with_reducible refine (assentref11_Writes.calls a0 t124 _ A27.out).mono ?_); rintro e w' ⟨rfl, ⟨nd, rfl⟩⟩) | (go_at_call 15; (with_reducible refine (state_Dirty.calls a0 t125 _ A29.out).mono ?_); rintro e w' ⟨rfl, ⟨nd, rfl⟩⟩) | (go_at_call 21; (with_reducible refine (assentref11_Dirty.calls a0 t126 _ A30.out).mono ?_); rintro e w' ⟨rfl, ⟨nd, rfl⟩⟩))
                    go_ret
                    exact ⟨by first | rfl | (simp [errW_none, errW_some] <;> rfl) | (simp [*, errW_none, errW_some] <;> rfl), by repeat (first | (with_reducible first | exact HB.out | apply below_alloc | apply pw_below_drewN | apply below_drew1) | exact HB.out)⟩
                · rw [if_neg c28] at H
                  have c28b0 : (t123 == t124) = false := by simpa using c28
                  (try (have c28b1 : decide (t123 = t124) = false := by simpa using c28))
                  (try (have c28b2 : (t123 == t124) = false := by simpa using c28))
                  (try (have c28b3 : ¬ (t123 = t124) := by simpa using c28))
                  clear c28
                  obtain rfl := Option.some.inj H
                  go_wp2_with (first | (go_at_call 17; (with_reducible refine (state_Reads.calls a0 t121 _ A23.out).mono ?_); rintro e w' ⟨rfl, ⟨nd, rfl⟩⟩) | (go_at_call 18; (with_reducible refine (assentref11_Reads.calls a0 t122 _ A24.out).mono ?_); rintro e w' ⟨rfl, ⟨nd, rfl⟩⟩) | (go_at_call 19; (with_reducible refine (state_Writes.calls a0 t123 _ A26.out).mono ?_); rintro e w' ⟨rfl, ⟨nd, rfl⟩⟩) | (go_at_call 20; (with_reducible refine (assentref11_Writes.calls a0 t124 _ A27.out).mono ?_); rintro e w' ⟨rfl, ⟨nd, rfl⟩⟩))
                  go_ret
                  exact ⟨by first | rfl | (simp [errW_none, errW_some] <;> rfl) | (simp [*, errW_none, errW_some] <;> rfl), by repeat (first | (with_reducible first | exact HB.out | apply below_alloc | apply pw_below_drewN | apply below_drew1) | exact HB.out)⟩
              · rw [if_neg c25] at H
                have c25b0 : (t121 == t122) = false := by simpa using c25
                (try (have c25b1 : decide (t121 = t122) = false := by simpa using c25))
                (try (have c25b2 : (t121 == t122) = false := by simpa using c25))
                (try (have c25b3 : ¬ (t121 = t122) := by simpa using c25))
                clear c25
                obtain rfl := Option.some.inj H
                go_wp2_with (first | (go_at_call 17; (with_reducible refine (state_Reads.calls a0 t121 _ A23.out).mono ?_); rintro e w' ⟨rfl, ⟨nd, rfl⟩⟩) | (go_at_call 18; (with_reducible refine (assentref11_Reads.calls a0 t122 _ A24.out).mono ?_); rintro e w' ⟨rfl, ⟨nd, rfl⟩⟩))
                go_ret
                exact ⟨by first | rfl | (simp [errW_none, errW_some] <;> rfl) | (simp [*, errW_none, errW_some] <;> rfl), by repeat (first | (with_reducible first | exact HB.out | apply below_alloc | apply pw_below_drewN | apply below_drew1) | exact HB.out)⟩
            · rw [if_neg c22] at H
              have c22b0 : (t118 == t120) = false := by simpa using c22
              (try (have c22b1 : decide (t118 = t120) = false := by simpa using c22))
              (try (have c22b2 : (t118 == t120) = false := by simpa using c22))
              (try (have c22b3 : ¬ (t118 = t120) := by simpa using c22))
              clear c22
              obtain rfl := Option.some.inj H
              go_wp2
              go_ret
              exact ⟨by first | rfl | (simp [errW_none, errW_some] <;> rfl) | (simp [*, errW_none, errW_some] <;> rfl), by repeat (first | (with_reducible first | exact HB.out | apply below_alloc | apply pw_below_drewN | apply below_drew1) | exact HB.out)⟩
          · rw [if_neg c21] at H
            have c21b0 : (t117 == t119) = false := beq_eq_false_iff_ne.mpr c21
            have c21b1 : (t117 != t119) = true := bne_iff_ne.mpr c21
            obtain rfl := Option.some.inj H
            go_wp2
            go_ret
            exact ⟨by first | rfl | (simp [errW_none, errW_some] <;> rfl) | (simp [*, errW_none, errW_some] <;> rfl), by repeat (first | (with_reducible first | exact HB.out | apply below_alloc | apply pw_below_drewN | apply below_drew1) | exact HB.out)⟩

/-- THE ONE PURE STATEMENT of assentlaw13_StateTells: yours. -/
def assentlaw13_StateTells.Pure : Prop := ∀ (a0 : Int) (a1 : Int) (a2 : Int) (a3 : Int) (a4 : Bool), (Lit.int .i64 a0).wf = true → (Lit.int .i64 a1).wf = true → (Lit.int .i64 a2).wf = true → (Lit.int .i64 a3).wf = true → ∃ k, assentlaw13_StateTells.f k a0 a1 a2 a3 a4 = some true
theorem assentlaw13_StateTells.walk (P : assentlaw13_StateTells.Pure) (a0 : Int) (a1 : Int) (a2 : Int) (a3 : Int) (a4 : Bool) (w : World) (w0 : (Lit.int .i64 a0).wf = true) (w1 : (Lit.int .i64 a1).wf = true) (w2 : (Lit.int .i64 a2).wf = true) (w3 : (Lit.int .i64 a3).wf = true) :
    Calls Try.prog 6 #[.int .i64 a0, .int .i64 a1, .int .i64 a2, .int .i64 a3, .bool a4] w fun e w' => e = .returned (.bool true) ∧ Below w.heap.size w w' := by
  obtain ⟨k, h⟩ := P a0 a1 a2 a3 a4 w0 w1 w2 w3
  refine (assentlaw13_StateTells.calls k a0 a1 a2 a3 a4 true w h).mono ?_
  rintro e w' ⟨rfl, hd⟩
  exact ⟨rfl, hd⟩

end Go.Proofs.Ytdpcnfdjpbbgjaa.PStateTells
