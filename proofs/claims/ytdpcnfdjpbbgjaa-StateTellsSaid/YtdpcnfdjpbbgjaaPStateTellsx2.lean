-- PRINTED BY print.sh 35421559b90ae4d0a3588c463048766b98c2df88dd9212a6774a882060cdf62d: not written by this session
import Derived.Test.YtdpcnfdjpbbgjaaPStateTellsx0
import Derived.Test.YtdpcnfdjpbbgjaaPStateTellsx1
namespace Go.Proofs.Ytdpcnfdjpbbgjaa.PStateTells
open Go.RowKit Go.Proofs.YtdpcnfdjpbbgjaaW.PrintWords Go.Proofs.YtdpcnfdjpbbgjaaW.PrintLast Go.Proofs.YtdpcnfdjpbbgjaaW.PrintMore
attribute [local go_sem] max2_int min2_int max_two min_two max_three min_three max_four min_four   -- for this text's walks alone
set_option linter.unusedVariables false
set_option linter.unusedSimpArgs false

/-! ### assentref11_Next: function 16 -/
mutual
def assentref11_Next.j0 : Nat → Int → Int → Int → Bool → Option (Int × Bool)
  | 0, _, _, _, _ => none
  | k + 1, x0, x1, x2, x18 => if x18 = true then (some (0, false)) else (if x1 = 5 then (if x0 = 4 then (if x2 = 3 then (some (0, true)) else (if x2 = 1 then (some (3, true)) else (if x2 = 2 then (some (3, true)) else (some (1, true))))) else (if x0 = 3 then (if x2 = 1 then (some (3, true)) else (if x2 = 2 then (some (3, true)) else (some (1, true)))) else (some (1, false)))) else (if x1 = 9 then ((assentref11_Dirty.f x0).bind fun t115 => (some (1, t115))) else (if x1 = 6 then (assentref11_Next.j1 k x0 x1 (x1 == 6)) else (assentref11_Next.j1 k x0 x1 (x1 == 10)))))
def assentref11_Next.j1 : Nat → Int → Int → Bool → Option (Int × Bool)
  | 0, _, _, _ => none
  | k + 1, x0, x19, x39 => if x39 = true then ((assentref11_Dirty.f x0).bind fun t116 => (some (0, t116))) else (if x19 = 7 then (some (x0, false)) else (if x19 = 8 then (some (x0, false)) else (some (0, false))))
end
def assentref11_Next.f (k : Nat) (a0 : Int) (a1 : Int) (a2 : Int) : Option (Int × Bool) := (assentref11_Reads.f a0).bind fun t114 => (if t114 = true then (if a2 < 0 then (assentref11_Next.j0 k a0 a1 a2 true) else (assentref11_Next.j0 k a0 a1 a2 (decide (a2 > 3)))) else (assentref11_Next.j0 k a0 a1 a2 true))
theorem assentref11_Next.mono_l : ∀ k, (∀ y0 y1 y2 y3, LeO (assentref11_Next.j0 k y0 y1 y2 y3) (assentref11_Next.j0 (k + 1) y0 y1 y2 y3)) ∧ (∀ y0 y1 y2, LeO (assentref11_Next.j1 k y0 y1 y2) (assentref11_Next.j1 (k + 1) y0 y1 y2))
  | 0 => ⟨fun _ _ _ _ r h => by simp [assentref11_Next.j0] at h, fun _ _ _ r h => by simp [assentref11_Next.j1] at h⟩
  | k + 1 => by
    obtain ⟨ih0, ih1⟩ := assentref11_Next.mono_l k
    refine ⟨?_, ?_⟩
    · intro y0 y1 y2 y3
      unfold assentref11_Next.j0
      repeat' first
      | (with_reducible exact ih0 _ _ _ _)
      | (with_reducible exact ih1 _ _ _)
      | (with_reducible exact LeO.refl _)
      | (with_reducible exact LeO.none _)
      | (with_reducible refine LeO.ite ?_ ?_)
      | (with_reducible refine LeO.bind ?_ (fun _ => ?_))
      | exact ih0 _ _ _ _
      | exact ih1 _ _ _
      | exact LeO.none _
      | refine LeO.ite ?_ ?_
      | refine LeO.bind ?_ (fun _ => ?_)
    · intro y0 y1 y2
      unfold assentref11_Next.j1
      repeat' first
      | (with_reducible exact ih0 _ _ _ _)
      | (with_reducible exact ih1 _ _ _)
      | (with_reducible exact LeO.refl _)
      | (with_reducible exact LeO.none _)
      | (with_reducible refine LeO.ite ?_ ?_)
      | (with_reducible refine LeO.bind ?_ (fun _ => ?_))
      | exact ih0 _ _ _ _
      | exact ih1 _ _ _
      | exact LeO.none _
      | refine LeO.ite ?_ ?_
      | refine LeO.bind ?_ (fun _ => ?_)
theorem assentref11_Next.mono : ∀ a0 a1 a2 k, LeO (assentref11_Next.f k a0 a1 a2) (assentref11_Next.f (k + 1) a0 a1 a2) := by
  intro a0 a1 a2 k
  obtain ⟨ih0, ih1⟩ := assentref11_Next.mono_l k
  unfold assentref11_Next.f
  repeat' first
      | (with_reducible exact ih0 _ _ _ _)
      | (with_reducible exact ih1 _ _ _)
      | (with_reducible exact LeO.refl _)
      | (with_reducible exact LeO.none _)
      | (with_reducible refine LeO.ite ?_ ?_)
      | (with_reducible refine LeO.bind ?_ (fun _ => ?_))
      | exact ih0 _ _ _ _
      | exact ih1 _ _ _
      | exact LeO.none _
      | refine LeO.ite ?_ ?_
      | refine LeO.bind ?_ (fun _ => ?_)
set_option maxHeartbeats 8000000 in
set_option maxRecDepth 100000 in
theorem assentref11_Next.calls (k : Nat) (a0 : Int) (a1 : Int) (a2 : Int) (r1 : Int) (r2 : Bool) (w : World) (h : assentref11_Next.f k a0 a1 a2 = some (r1, r2)) :
    Calls Try.prog 16 #[.int .i64 a0, .int .i64 a1, .int .i64 a2] w fun e w' => e = .returned (.tuple #[.int .i64 r1, .bool r2]) ∧ Drawn0 w w' := by
  have H : ((assentref11_Reads.f a0).bind fun t114 => (if t114 = true then (if a2 < 0 then (assentref11_Next.j0 k a0 a1 a2 true) else (assentref11_Next.j0 k a0 a1 a2 (decide (a2 > 3)))) else (assentref11_Next.j0 k a0 a1 a2 true))) = some (r1, r2) := h
  clear h
  have HC4 := Aside0.mk H
  clear H
  go_enter Try.func16, Try.ntmps16
  go_upto_region 1 with (fail)
  go_cut [18] (fun v18 wc => ∃ (kq : Nat) (x18_3 : Bool), v18 = .bool x18_3 ∧ Aside0 (assentref11_Next.j0 kq a0 a1 a2 x18_3 = some (r1, r2)) ∧ Aside0 (kq ≤ k) ∧ Drawn0 w wc)
  case first =>
    have H := HC4.out
    clear HC4
    replace H := Option.bind_eq_some_iff.mp H
    obtain ⟨t114, A50, H⟩ := H
    replace H : (if t114 = true then (if a2 < 0 then (assentref11_Next.j0 k a0 a1 a2 true) else (assentref11_Next.j0 k a0 a1 a2 (decide (a2 > 3)))) else (assentref11_Next.j0 k a0 a1 a2 true)) = some (r1, r2) := H
    have A5 := Aside0.mk A50
    clear A50
    by_cases c6 : t114 = true
    · subst c6
      have H1 : (if a2 < 0 then (assentref11_Next.j0 k a0 a1 a2 true) else (assentref11_Next.j0 k a0 a1 a2 (decide (a2 > 3)))) = some (r1, r2) := by rw [if_pos rfl] at H; exact H
      clear H
      have H := H1
      clear H1
      by_cases c7 : a2 < 0
      · rw [if_pos c7] at H
        have c7b0 : decide (a2 < 0) = true := decide_eq_true c7
        clear c7
        (first | rw [c7b0] | (simp only [i64_w, i32_w]; rw [c7b0]) | skip)
        have H' := Aside0.mk H
        clear H
        go_wp2_with (first | ((with_reducible refine gate_callee (f := 18) rfl ?_); refine goesL_ (some 9) rfl rfl Try.func18 (by kernel_rfl) rfl #[.int .i64 a0] rfl (by (try simp only [List.map_toArray, List.map_cons, List.map_nil]); first | done | rfl | (simp only [List.length_drop, List.length_take]; rfl)) ?_; (with_reducible refine (assentref11_Reads.calls a0 true _ A5.out).mono ?_); rintro e w' ⟨rfl, ⟨nd, rfl⟩⟩; refine ⟨_, rfl, ?_⟩))
        go_meet
        case rel => exact ⟨_, (true), (by first | rfl | (simp; done) | (simp [*]; done)), H', ⟨by first | omega | exact Nat.le_refl _⟩, by repeat (first | exact Drawn0.refl _ | apply Drawn0.step)⟩
      · rw [if_neg c7] at H
        have c7b0 : decide (a2 < 0) = false := decide_eq_false c7
        clear c7
        (first | rw [c7b0] | (simp only [i64_w, i32_w]; rw [c7b0]) | skip)
        have H' := Aside0.mk H
        clear H
        go_wp2_with (first | ((with_reducible refine gate_callee (f := 18) rfl ?_); refine goesL_ (some 9) rfl rfl Try.func18 (by kernel_rfl) rfl #[.int .i64 a0] rfl (by (try simp only [List.map_toArray, List.map_cons, List.map_nil]); first | done | rfl | (simp only [List.length_drop, List.length_take]; rfl)) ?_; (with_reducible refine (assentref11_Reads.calls a0 true _ A5.out).mono ?_); rintro e w' ⟨rfl, ⟨nd, rfl⟩⟩; refine ⟨_, rfl, ?_⟩))
        go_meet
        case rel => exact ⟨_, (decide (a2 > 3)), (by first | rfl | (simp; done) | (simp [*]; done)), H', ⟨by first | omega | exact Nat.le_refl _⟩, by repeat (first | exact Drawn0.refl _ | apply Drawn0.step)⟩
    · replace c6 := Bool.eq_false_iff.mpr c6
      subst c6
      have H1 : (assentref11_Next.j0 k a0 a1 a2 true) = some (r1, r2) := by rw [if_neg (show ¬ (false = true) by decide)] at H; exact H
      clear H
      have H := H1
      clear H1
      have H' := Aside0.mk H
      clear H
      go_wp2_with (first | ((with_reducible refine gate_callee (f := 18) rfl ?_); refine goesL_ (some 9) rfl rfl Try.func18 (by kernel_rfl) rfl #[.int .i64 a0] rfl (by (try simp only [List.map_toArray, List.map_cons, List.map_nil]); first | done | rfl | (simp only [List.length_drop, List.length_take]; rfl)) ?_; (with_reducible refine (assentref11_Reads.calls a0 false _ A5.out).mono ?_); rintro e w' ⟨rfl, ⟨nd, rfl⟩⟩; refine ⟨_, rfl, ?_⟩))
      go_meet
      case rel => exact ⟨_, (true), (by first | rfl | (simp; done) | (simp [*]; done)), H', ⟨by first | omega | exact Nat.le_refl _⟩, by repeat (first | exact Drawn0.refl _ | apply Drawn0.step)⟩
  case rest =>
    clear HC4
    try clear c1
    try clear p2
    try clear c6
    try clear c7
    try clear c7b0
    obtain ⟨kq, x18_3, rfl, HA, HJ3, ⟨mc3, rfl⟩⟩ := hcut
    cases kq with
    | zero => exact absurd HA.out (by simp [assentref11_Next.j0])
    | succ kj3 =>
      have H := HA.out
      clear HA
      simp only [assentref11_Next.j0] at H
      by_cases c8 : x18_3 = true
      · subst c8
        have H1 : (some (0, false)) = some (r1, r2) := by rw [if_pos rfl] at H; exact H
        clear H
        have H := H1
        clear H1
        simp only [Option.some.injEq, Prod.mk.injEq] at H
        obtain ⟨rfl, rfl⟩ := H
        go_wp2
        go_ret2
        exact ⟨by first | rfl | (simp; done) | (simp [*]; done), by repeat (first | exact Drawn0.refl _ | apply Drawn0.step)⟩
      · replace c8 := Bool.eq_false_iff.mpr c8
        subst c8
        have H1 : (if a1 = 5 then (if a0 = 4 then (if a2 = 3 then (some (0, true)) else (if a2 = 1 then (some (3, true)) else (if a2 = 2 then (some (3, true)) else (some (1, true))))) else (if a0 = 3 then (if a2 = 1 then (some (3, true)) else (if a2 = 2 then (some (3, true)) else (some (1, true)))) else (some (1, false)))) else (if a1 = 9 then ((assentref11_Dirty.f a0).bind fun t115 => (some (1, t115))) else (if a1 = 6 then (assentref11_Next.j1 kj3 a0 a1 (a1 == 6)) else (assentref11_Next.j1 kj3 a0 a1 (a1 == 10))))) = some (r1, r2) := by rw [if_neg (show ¬ (false = true) by decide)] at H; exact H
        clear H
        have H := H1
        clear H1
        by_cases c9 : a1 = 5
        · rw [if_pos c9] at H
          have c9b0 : (a1 == 5) = true := beq_iff_eq.mpr c9
          have c9b1 : (a1 != 5) = false := bne_eq_false_iff_eq.mpr c9
          clear c9
          by_cases c10 : a0 = 4
          · rw [if_pos c10] at H
            have c10b0 : (a0 == 4) = true := beq_iff_eq.mpr c10
            have c10b1 : (a0 != 4) = false := bne_eq_false_iff_eq.mpr c10
            clear c10
            by_cases c11 : a2 = 3
            · rw [if_pos c11] at H
              have c11b0 : (a2 == 3) = true := beq_iff_eq.mpr c11
              have c11b1 : (a2 != 3) = false := bne_eq_false_iff_eq.mpr c11
              clear c11
              simp only [Option.some.injEq, Prod.mk.injEq] at H
              obtain ⟨rfl, rfl⟩ := H
              go_wp2
              go_ret2
              exact ⟨by first | rfl | (simp; done) | (simp [*]; done), by repeat (first | exact Drawn0.refl _ | apply Drawn0.step)⟩
            · rw [if_neg c11] at H
              have c11b0 : (a2 == 3) = false := beq_eq_false_iff_ne.mpr c11
              have c11b1 : (a2 != 3) = true := bne_iff_ne.mpr c11
              by_cases c12 : a2 = 1
              · rw [if_pos c12] at H
                have c12b0 : (a2 == 1) = true := beq_iff_eq.mpr c12
                have c12b1 : (a2 != 1) = false := bne_eq_false_iff_eq.mpr c12
                clear c12
                simp only [Option.some.injEq, Prod.mk.injEq] at H
                obtain ⟨rfl, rfl⟩ := H
                go_wp2
                go_ret2
                exact ⟨by first | rfl | (simp; done) | (simp [*]; done), by repeat (first | exact Drawn0.refl _ | apply Drawn0.step)⟩
              · rw [if_neg c12] at H
                have c12b0 : (a2 == 1) = false := beq_eq_false_iff_ne.mpr c12
                have c12b1 : (a2 != 1) = true := bne_iff_ne.mpr c12
                by_cases c13 : a2 = 2
                · rw [if_pos c13] at H
                  have c13b0 : (a2 == 2) = true := beq_iff_eq.mpr c13
                  have c13b1 : (a2 != 2) = false := bne_eq_false_iff_eq.mpr c13
                  clear c13
                  simp only [Option.some.injEq, Prod.mk.injEq] at H
                  obtain ⟨rfl, rfl⟩ := H
                  go_wp2
                  go_ret2
                  exact ⟨by first | rfl | (simp; done) | (simp [*]; done), by repeat (first | exact Drawn0.refl _ | apply Drawn0.step)⟩
                · rw [if_neg c13] at H
                  have c13b0 : (a2 == 2) = false := beq_eq_false_iff_ne.mpr c13
                  have c13b1 : (a2 != 2) = true := bne_iff_ne.mpr c13
                  simp only [Option.some.injEq, Prod.mk.injEq] at H
                  obtain ⟨rfl, rfl⟩ := H
                  go_wp2
                  go_ret2
                  exact ⟨by first | rfl | (simp; done) | (simp [*]; done), by repeat (first | exact Drawn0.refl _ | apply Drawn0.step)⟩
          · rw [if_neg c10] at H
            have c10b0 : (a0 == 4) = false := beq_eq_false_iff_ne.mpr c10
            have c10b1 : (a0 != 4) = true := bne_iff_ne.mpr c10
            by_cases c14 : a0 = 3
            · rw [if_pos c14] at H
              have c14b0 : (a0 == 3) = true := beq_iff_eq.mpr c14
              have c14b1 : (a0 != 3) = false := bne_eq_false_iff_eq.mpr c14
              clear c14
              by_cases c15 : a2 = 1
              · rw [if_pos c15] at H
                have c15b0 : (a2 == 1) = true := beq_iff_eq.mpr c15
                have c15b1 : (a2 != 1) = false := bne_eq_false_iff_eq.mpr c15
                clear c15
                simp only [Option.some.injEq, Prod.mk.injEq] at H
                obtain ⟨rfl, rfl⟩ := H
                go_wp2
                go_ret2
                exact ⟨by first | rfl | (simp; done) | (simp [*]; done), by repeat (first | exact Drawn0.refl _ | apply Drawn0.step)⟩
              · rw [if_neg c15] at H
                have c15b0 : (a2 == 1) = false := beq_eq_false_iff_ne.mpr c15
                have c15b1 : (a2 != 1) = true := bne_iff_ne.mpr c15
                by_cases c16 : a2 = 2
                · rw [if_pos c16] at H
                  have c16b0 : (a2 == 2) = true := beq_iff_eq.mpr c16
                  have c16b1 : (a2 != 2) = false := bne_eq_false_iff_eq.mpr c16
                  clear c16
                  simp only [Option.some.injEq, Prod.mk.injEq] at H
                  obtain ⟨rfl, rfl⟩ := H
                  go_wp2
                  go_ret2
                  exact ⟨by first | rfl | (simp; done) | (simp [*]; done), by repeat (first | exact Drawn0.refl _ | apply Drawn0.step)⟩
                · rw [if_neg c16] at H
                  have c16b0 : (a2 == 2) = false := beq_eq_false_iff_ne.mpr c16
                  have c16b1 : (a2 != 2) = true := bne_iff_ne.mpr c16
                  simp only [Option.some.injEq, Prod.mk.injEq] at H
                  obtain ⟨rfl, rfl⟩ := H
                  go_wp2
                  go_ret2
                  exact ⟨by first | rfl | (simp; done) | (simp [*]; done), by repeat (first | exact Drawn0.refl _ | apply Drawn0.step)⟩
            · rw [if_neg c14] at H
              have c14b0 : (a0 == 3) = false := beq_eq_false_iff_ne.mpr c14
              have c14b1 : (a0 != 3) = true := bne_iff_ne.mpr c14
              simp only [Option.some.injEq, Prod.mk.injEq] at H
              obtain ⟨rfl, rfl⟩ := H
              go_wp2
              go_ret2
              exact ⟨by first | rfl | (simp; done) | (simp [*]; done), by repeat (first | exact Drawn0.refl _ | apply Drawn0.step)⟩
        · rw [if_neg c9] at H
          have c9b0 : (a1 == 5) = false := beq_eq_false_iff_ne.mpr c9
          have c9b1 : (a1 != 5) = true := bne_iff_ne.mpr c9
          by_cases c17 : a1 = 9
          · rw [if_pos c17] at H
            have c17b0 : (a1 == 9) = true := beq_iff_eq.mpr c17
            have c17b1 : (a1 != 9) = false := bne_eq_false_iff_eq.mpr c17
            clear c17
            replace H := Option.bind_eq_some_iff.mp H
            obtain ⟨t115, A180, H⟩ := H
            replace H : (some (1, t115)) = some (r1, r2) := H
            have A18 := Aside0.mk A180
            clear A180
            simp only [Option.some.injEq, Prod.mk.injEq] at H
            obtain ⟨rfl, rfl⟩ := H
            go_wp2_with (first | ((with_reducible refine gate_callee (f := 21) rfl ?_); refine goesL_ (some 38) rfl rfl Try.func21 (by kernel_rfl) rfl #[.int .i64 a0] rfl (by (try simp only [List.map_toArray, List.map_cons, List.map_nil]); first | done | rfl | (simp only [List.length_drop, List.length_take]; rfl)) ?_; (with_reducible refine (assentref11_Dirty.calls a0 t115 _ A18.out).mono ?_); rintro e w' ⟨rfl, ⟨nd, rfl⟩⟩; refine ⟨_, rfl, ?_⟩))
            go_ret2
            exact ⟨by first | rfl | (simp; done) | (simp [*]; done), by repeat (first | exact Drawn0.refl _ | apply Drawn0.step)⟩
          · rw [if_neg c17] at H
            have c17b0 : (a1 == 9) = false := beq_eq_false_iff_ne.mpr c17
            have c17b1 : (a1 != 9) = true := bne_iff_ne.mpr c17
            have HC19 := Aside0.mk H
            clear H
            go_upto_if 39 with (fail)
            go_cut [39] (fun v39 wc => ∃ (kq : Nat) (x39_18 : Bool), v39 = .bool x39_18 ∧ Aside0 (assentref11_Next.j1 kq a0 a1 x39_18 = some (r1, r2)) ∧ Aside0 (kq ≤ kj3) ∧ Drawn0 w wc)
            case first =>
              have H := HC19.out
              clear HC19
              by_cases c20 : a1 = 6
              · rw [if_pos c20] at H
                have c20b0 : (a1 == 6) = true := beq_iff_eq.mpr c20
                have c20b1 : (a1 != 6) = false := bne_eq_false_iff_eq.mpr c20
                clear c20
                (first | rw [c20b0] | (simp only [i64_w, i32_w]; rw [c20b0]) | skip)
                have H' := Aside0.mk H
                clear H
                go_wp2
                go_meet
                case rel => exact ⟨_, ((a1 == 6)), (by first | rfl | (simp; done) | (simp [*]; done)), H', ⟨by have := HJ3.out; first | omega | exact Nat.le_refl _⟩, by repeat (first | exact Drawn0.refl _ | apply Drawn0.step)⟩
              · rw [if_neg c20] at H
                have c20b0 : (a1 == 6) = false := beq_eq_false_iff_ne.mpr c20
                have c20b1 : (a1 != 6) = true := bne_iff_ne.mpr c20
                (first | rw [c20b0] | (simp only [i64_w, i32_w]; rw [c20b0]) | skip)
                have H' := Aside0.mk H
                clear H
                go_wp2
                go_meet
                case rel => exact ⟨_, ((a1 == 10)), (by first | rfl | (simp; done) | (simp [*]; done)), H', ⟨by have := HJ3.out; first | omega | exact Nat.le_refl _⟩, by repeat (first | exact Drawn0.refl _ | apply Drawn0.step)⟩
            case rest =>
              clear HC19
              try clear c1
              try clear c2
              try clear p2
              try clear c3
              try clear c6
              try clear c7
              try clear c7b0
              try clear c8
              try clear c9
              try clear c9b0
              try clear c9b1
              try clear c10
              try clear c10b0
              try clear c10b1
              try clear c11
              try clear c11b0
              try clear c11b1
              try clear c12
              try clear c12b0
              try clear c12b1
              try clear c13
              try clear c13b0
              try clear c13b1
              try clear c14
              try clear c14b0
              try clear c14b1
              try clear c15
              try clear c15b0
              try clear c15b1
              try clear c16
              try clear c16b0
              try clear c16b1
              try clear c17
              try clear c17b0
              try clear c17b1
              try clear c18
              try clear c20
              try clear c20b0
              try clear c20b1
              try clear p2
              obtain ⟨kq, x39_18, rfl, HA, HJ18, ⟨mc18, rfl⟩⟩ := hcut
              cases kq with
              | zero => exact absurd HA.out (by simp [assentref11_Next.j1])
              | succ kj18 =>
                have H := HA.out
                clear HA
                simp only [assentref11_Next.j1] at H
                by_cases c21 : x39_18 = true
                · subst c21
                  have H1 : ((assentref11_Dirty.f a0).bind fun t116 => (some (0, t116))) = some (r1, r2) := by rw [if_pos rfl] at H; exact H
                  clear H
                  have H := H1
                  clear H1
                  replace H := Option.bind_eq_some_iff.mp H
                  obtain ⟨t116, A220, H⟩ := H
                  replace H : (some (0, t116)) = some (r1, r2) := H
                  have A22 := Aside0.mk A220
                  clear A220
                  simp only [Option.some.injEq, Prod.mk.injEq] at H
                  obtain ⟨rfl, rfl⟩ := H
                  go_wp2_with (first | ((with_reducible refine gate_callee (f := 21) rfl ?_); refine goesL_ (some 43) rfl rfl Try.func21 (by kernel_rfl) rfl #[.int .i64 a0] rfl (by (try simp only [List.map_toArray, List.map_cons, List.map_nil]); first | done | rfl | (simp only [List.length_drop, List.length_take]; rfl)) ?_; (with_reducible refine (assentref11_Dirty.calls a0 t116 _ A22.out).mono ?_); rintro e w' ⟨rfl, ⟨nd, rfl⟩⟩; refine ⟨_, rfl, ?_⟩))
                  go_ret2
                  exact ⟨by first | rfl | (simp; done) | (simp [*]; done), by repeat (first | exact Drawn0.refl _ | apply Drawn0.step)⟩
                · replace c21 := Bool.eq_false_iff.mpr c21
                  subst c21
                  have H1 : (if a1 = 7 then (some (a0, false)) else (if a1 = 8 then (some (a0, false)) else (some (0, false)))) = some (r1, r2) := by rw [if_neg (show ¬ (false = true) by decide)] at H; exact H
                  clear H
                  have H := H1
                  clear H1
                  by_cases c23 : a1 = 7
                  · rw [if_pos c23] at H
                    have c23b0 : (a1 == 7) = true := beq_iff_eq.mpr c23
                    have c23b1 : (a1 != 7) = false := bne_eq_false_iff_eq.mpr c23
                    clear c23
                    simp only [Option.some.injEq, Prod.mk.injEq] at H
                    obtain ⟨rfl, rfl⟩ := H
                    go_wp2
                    go_ret2
                    exact ⟨by first | rfl | (simp; done) | (simp [*]; done), by repeat (first | exact Drawn0.refl _ | apply Drawn0.step)⟩
                  · rw [if_neg c23] at H
                    have c23b0 : (a1 == 7) = false := beq_eq_false_iff_ne.mpr c23
                    have c23b1 : (a1 != 7) = true := bne_iff_ne.mpr c23
                    by_cases c24 : a1 = 8
                    · rw [if_pos c24] at H
                      have c24b0 : (a1 == 8) = true := beq_iff_eq.mpr c24
                      have c24b1 : (a1 != 8) = false := bne_eq_false_iff_eq.mpr c24
                      clear c24
                      simp only [Option.some.injEq, Prod.mk.injEq] at H
                      obtain ⟨rfl, rfl⟩ := H
                      go_wp2
                      go_ret2
                      exact ⟨by first | rfl | (simp; done) | (simp [*]; done), by repeat (first | exact Drawn0.refl _ | apply Drawn0.step)⟩
                    · rw [if_neg c24] at H
                      have c24b0 : (a1 == 8) = false := beq_eq_false_iff_ne.mpr c24
                      have c24b1 : (a1 != 8) = true := bne_iff_ne.mpr c24
                      simp only [Option.some.injEq, Prod.mk.injEq] at H
                      obtain ⟨rfl, rfl⟩ := H
                      go_wp2
                      go_ret2
                      exact ⟨by first | rfl | (simp; done) | (simp [*]; done), by repeat (first | exact Drawn0.refl _ | apply Drawn0.step)⟩

/-! ### state_Writes: function 19 -/
def state_Writes.f (a0 : Int) : Option (Bool) := if a0 = 2 then (some true) else (some (a0 == 4))
set_option maxHeartbeats 8000000 in
set_option maxRecDepth 100000 in
theorem state_Writes.calls (a0 : Int) (r : Bool) (w : World) (h : state_Writes.f a0 = some r) :
    Calls Try.prog 19 #[.int .i64 a0] w fun e w' => e = .returned (.bool r) ∧ Drawn0 w w' := by
  have H : (if a0 = 2 then (some true) else (some (a0 == 4))) = some r := h
  clear h
  by_cases c2 : a0 = 2
  · rw [if_pos c2] at H
    have c2b0 : (a0 == 2) = true := beq_iff_eq.mpr c2
    have c2b1 : (a0 != 2) = false := bne_eq_false_iff_eq.mpr c2
    clear c2
    obtain rfl := Option.some.inj H
    go_enter Try.func19, Try.ntmps19
    go_wp2
    go_ret
    exact ⟨by first | rfl | (simp; done) | (simp [*]; done), by repeat (first | exact Drawn0.refl _ | apply Drawn0.step)⟩
  · rw [if_neg c2] at H
    have c2b0 : (a0 == 2) = false := beq_eq_false_iff_ne.mpr c2
    have c2b1 : (a0 != 2) = true := bne_iff_ne.mpr c2
    obtain rfl := Option.some.inj H
    go_enter Try.func19, Try.ntmps19
    go_wp2
    go_ret
    exact ⟨by first | rfl | (simp; done) | (simp [*]; done), by repeat (first | exact Drawn0.refl _ | apply Drawn0.step)⟩

/-! ### assentref11_Writes: function 20 -/
def assentref11_Writes.f (a0 : Int) : Option (Bool) := if a0 = 2 then (some true) else (some (a0 == 4))
set_option maxHeartbeats 8000000 in
set_option maxRecDepth 100000 in
theorem assentref11_Writes.calls (a0 : Int) (r : Bool) (w : World) (h : assentref11_Writes.f a0 = some r) :
    Calls Try.prog 20 #[.int .i64 a0] w fun e w' => e = .returned (.bool r) ∧ Drawn0 w w' := by
  have H : (if a0 = 2 then (some true) else (some (a0 == 4))) = some r := h
  clear h
  by_cases c2 : a0 = 2
  · rw [if_pos c2] at H
    have c2b0 : (a0 == 2) = true := beq_iff_eq.mpr c2
    have c2b1 : (a0 != 2) = false := bne_eq_false_iff_eq.mpr c2
    clear c2
    obtain rfl := Option.some.inj H
    go_enter Try.func20, Try.ntmps20
    go_wp2
    go_ret
    exact ⟨by first | rfl | (simp; done) | (simp [*]; done), by repeat (first | exact Drawn0.refl _ | apply Drawn0.step)⟩
  · rw [if_neg c2] at H
    have c2b0 : (a0 == 2) = false := beq_eq_false_iff_ne.mpr c2
    have c2b1 : (a0 != 2) = true := bne_iff_ne.mpr c2
    obtain rfl := Option.some.inj H
    go_enter Try.func20, Try.ntmps20
    go_wp2
    go_ret
    exact ⟨by first | rfl | (simp; done) | (simp [*]; done), by repeat (first | exact Drawn0.refl _ | apply Drawn0.step)⟩

end Go.Proofs.Ytdpcnfdjpbbgjaa.PStateTells
