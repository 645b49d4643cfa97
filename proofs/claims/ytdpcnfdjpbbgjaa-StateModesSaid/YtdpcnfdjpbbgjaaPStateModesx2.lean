-- PRINTED BY print.sh 35421559b90ae4d0a3588c463048766b98c2df88dd9212a6774a882060cdf62d: not written by this session
import Derived.Test.YtdpcnfdjpbbgjaaPStateModesx0
import Derived.Test.YtdpcnfdjpbbgjaaPStateModesx1
namespace Go.Proofs.Ytdpcnfdjpbbgjaa.PStateModes
open Go.RowKit Go.Proofs.YtdpcnfdjpbbgjaaW.PrintWords Go.Proofs.YtdpcnfdjpbbgjaaW.PrintLast Go.Proofs.YtdpcnfdjpbbgjaaW.PrintMore
attribute [local go_sem] max2_int min2_int max_two min_two max_three min_three max_four min_four   -- for this text's walks alone
set_option linter.unusedVariables false
set_option linter.unusedSimpArgs false

/-! ### assentlaw13_StateModes: function 5 -/
mutual
def assentlaw13_StateModes.l0 : Nat → Int → Int → Int → Int → Int → Bool → Bool → Int → Option (Bool)
  | 0, _, _, _, _, _, _, _, _ => none
  | k + 1, x5, x6, x7, x8, x9, x10, x11, x12 => if x12 ≤ 3 then ((state_Next.f k x5 x6 x12).bind fun bt118 => (if x11 = true then (if bt118.1 = x9 then (assentlaw13_StateModes.j1 k x5 x6 x7 x8 x9 x10 (bt118.2 == x10) x12 bt118.1 bt118.2) else (assentlaw13_StateModes.j1 k x5 x6 x7 x8 x9 x10 false x12 bt118.1 bt118.2)) else (assentlaw13_StateModes.j1 k x5 x6 x7 x8 x9 x10 false x12 bt118.1 bt118.2))) else (if x6 = 5 then ((state_Dirty.f x5).bind fun t120 => (assentlaw13_StateModes.j3 k x5 x7 x8 x9 x10 x11 (!t120))) else (assentlaw13_StateModes.j3 k x5 x7 x8 x9 x10 x11 true))
def assentlaw13_StateModes.j1 : Nat → Int → Int → Int → Int → Int → Bool → Bool → Int → Int → Bool → Option (Bool)
  | 0, _, _, _, _, _, _, _, _, _, _ => none
  | k + 1, x5, x6, x7, x8, x9, x10, x11, x12, x13, x14 => if x13 = 3 then (assentlaw13_StateModes.j2 k x5 x6 x7 x8 x9 x10 x11 x12 x13 x14 (x6 == 5)) else (assentlaw13_StateModes.j2 k x5 x6 x7 x8 x9 x10 x11 x12 x13 x14 false)
def assentlaw13_StateModes.j2 : Nat → Int → Int → Int → Int → Int → Bool → Bool → Int → Int → Bool → Bool → Option (Bool)
  | 0, _, _, _, _, _, _, _, _, _, _, _ => none
  | k + 1, x5, x6, x7, x8, x9, x10, x11, x12, x13, x14, x53 => if x53 = true then (if x13 = 0 then (if x14 = true then (if x6 = 5 then (assentlaw13_StateModes.l0 k x5 x6 (wrap64 (x7 + 1)) (wrap64 (x8 + 1)) x9 x10 x11 (wrap64 (x12 + 1))) else (assentlaw13_StateModes.l0 k x5 x6 (wrap64 (x7 + 1)) x8 x9 x10 x11 (wrap64 (x12 + 1)))) else (assentlaw13_StateModes.l0 k x5 x6 (wrap64 (x7 + 1)) x8 x9 x10 x11 (wrap64 (x12 + 1)))) else (assentlaw13_StateModes.l0 k x5 x6 (wrap64 (x7 + 1)) x8 x9 x10 x11 (wrap64 (x12 + 1)))) else (if x13 = 0 then (if x14 = true then (if x6 = 5 then (assentlaw13_StateModes.l0 k x5 x6 x7 (wrap64 (x8 + 1)) x9 x10 x11 (wrap64 (x12 + 1))) else (assentlaw13_StateModes.l0 k x5 x6 x7 x8 x9 x10 x11 (wrap64 (x12 + 1)))) else (assentlaw13_StateModes.l0 k x5 x6 x7 x8 x9 x10 x11 (wrap64 (x12 + 1)))) else (assentlaw13_StateModes.l0 k x5 x6 x7 x8 x9 x10 x11 (wrap64 (x12 + 1))))
def assentlaw13_StateModes.j3 : Nat → Int → Int → Int → Int → Bool → Bool → Bool → Option (Bool)
  | 0, _, _, _, _, _, _, _ => none
  | k + 1, x5, x7, x8, x9, x10, x11, x73 => if x73 = true then (if x11 = true then ((assentlaw13_StateRuns.f k).bind fun t121 => (some t121)) else (some false)) else (if x5 = 4 then (if x7 = 2 then (if x8 = 1 then (if x9 = 1 then (if x10 = true then ((assentlaw13_StateRuns.f k).bind fun t122 => (some t122)) else (some false)) else (some false)) else (some false)) else (some false)) else (if x7 = 2 then (if x8 = 0 then ((assentlaw13_StateRuns.f k).bind fun t123 => (some t123)) else (some false)) else (some false)))
end
def assentlaw13_StateModes.f (k : Nat) (a0 : Int) (a1 : Int) : Option (Bool) := (assentbook_Within.f a0 0 4).bind fun t114 => ((assentbook_Within.f a1 0 5).bind fun t115 => ((state_Next.f k t114 (wrap64 (5 + t115)) 0).bind fun bt116 => (assentlaw13_StateModes.l0 k t114 (wrap64 (5 + t115)) 0 0 bt116.1 bt116.2 true 0)))
theorem assentlaw13_StateModes.mono_l : ∀ k, (∀ y0 y1 y2 y3 y4 y5 y6 y7, LeO (assentlaw13_StateModes.l0 k y0 y1 y2 y3 y4 y5 y6 y7) (assentlaw13_StateModes.l0 (k + 1) y0 y1 y2 y3 y4 y5 y6 y7)) ∧ (∀ y0 y1 y2 y3 y4 y5 y6 y7 y8 y9, LeO (assentlaw13_StateModes.j1 k y0 y1 y2 y3 y4 y5 y6 y7 y8 y9) (assentlaw13_StateModes.j1 (k + 1) y0 y1 y2 y3 y4 y5 y6 y7 y8 y9)) ∧ (∀ y0 y1 y2 y3 y4 y5 y6 y7 y8 y9 y10, LeO (assentlaw13_StateModes.j2 k y0 y1 y2 y3 y4 y5 y6 y7 y8 y9 y10) (assentlaw13_StateModes.j2 (k + 1) y0 y1 y2 y3 y4 y5 y6 y7 y8 y9 y10)) ∧ (∀ y0 y1 y2 y3 y4 y5 y6, LeO (assentlaw13_StateModes.j3 k y0 y1 y2 y3 y4 y5 y6) (assentlaw13_StateModes.j3 (k + 1) y0 y1 y2 y3 y4 y5 y6))
  | 0 => ⟨fun _ _ _ _ _ _ _ _ r h => by simp [assentlaw13_StateModes.l0] at h, fun _ _ _ _ _ _ _ _ _ _ r h => by simp [assentlaw13_StateModes.j1] at h, fun _ _ _ _ _ _ _ _ _ _ _ r h => by simp [assentlaw13_StateModes.j2] at h, fun _ _ _ _ _ _ _ r h => by simp [assentlaw13_StateModes.j3] at h⟩
  | k + 1 => by
    obtain ⟨ih0, ih1, ih2, ih3⟩ := assentlaw13_StateModes.mono_l k
    refine ⟨?_, ?_, ?_, ?_⟩
    · intro y0 y1 y2 y3 y4 y5 y6 y7
      unfold assentlaw13_StateModes.l0
      repeat' first
      | (with_reducible exact ih0 _ _ _ _ _ _ _ _)
      | (with_reducible exact ih1 _ _ _ _ _ _ _ _ _ _)
      | (with_reducible exact ih2 _ _ _ _ _ _ _ _ _ _ _)
      | (with_reducible exact ih3 _ _ _ _ _ _ _)
      | (with_reducible exact assentlaw13_StateRuns.mono _)
      | (with_reducible exact state_Next.mono _ _ _ _)
      | (with_reducible exact LeO.refl _)
      | (with_reducible exact LeO.none _)
      | (with_reducible refine LeO.ite ?_ ?_)
      | (with_reducible refine LeO.bind ?_ (fun _ => ?_))
      | exact ih0 _ _ _ _ _ _ _ _
      | exact ih1 _ _ _ _ _ _ _ _ _ _
      | exact ih2 _ _ _ _ _ _ _ _ _ _ _
      | exact ih3 _ _ _ _ _ _ _
      | exact assentlaw13_StateRuns.mono _
      | exact state_Next.mono _ _ _ _
      | exact LeO.none _
      | refine LeO.ite ?_ ?_
      | refine LeO.bind ?_ (fun _ => ?_)
    · intro y0 y1 y2 y3 y4 y5 y6 y7 y8 y9
      unfold assentlaw13_StateModes.j1
      repeat' first
      | (with_reducible exact ih0 _ _ _ _ _ _ _ _)
      | (with_reducible exact ih1 _ _ _ _ _ _ _ _ _ _)
      | (with_reducible exact ih2 _ _ _ _ _ _ _ _ _ _ _)
      | (with_reducible exact ih3 _ _ _ _ _ _ _)
      | (with_reducible exact assentlaw13_StateRuns.mono _)
      | (with_reducible exact state_Next.mono _ _ _ _)
      | (with_reducible exact LeO.refl _)
      | (with_reducible exact LeO.none _)
      | (with_reducible refine LeO.ite ?_ ?_)
      | (with_reducible refine LeO.bind ?_ (fun _ => ?_))
      | exact ih0 _ _ _ _ _ _ _ _
      | exact ih1 _ _ _ _ _ _ _ _ _ _
      | exact ih2 _ _ _ _ _ _ _ _ _ _ _
      | exact ih3 _ _ _ _ _ _ _
      | exact assentlaw13_StateRuns.mono _
      | exact state_Next.mono _ _ _ _
      | exact LeO.none _
      | refine LeO.ite ?_ ?_
      | refine LeO.bind ?_ (fun _ => ?_)
    · intro y0 y1 y2 y3 y4 y5 y6 y7 y8 y9 y10
      unfold assentlaw13_StateModes.j2
      repeat' first
      | (with_reducible exact ih0 _ _ _ _ _ _ _ _)
      | (with_reducible exact ih1 _ _ _ _ _ _ _ _ _ _)
      | (with_reducible exact ih2 _ _ _ _ _ _ _ _ _ _ _)
      | (with_reducible exact ih3 _ _ _ _ _ _ _)
      | (with_reducible exact assentlaw13_StateRuns.mono _)
      | (with_reducible exact state_Next.mono _ _ _ _)
      | (with_reducible exact LeO.refl _)
      | (with_reducible exact LeO.none _)
      | (with_reducible refine LeO.ite ?_ ?_)
      | (with_reducible refine LeO.bind ?_ (fun _ => ?_))
      | exact ih0 _ _ _ _ _ _ _ _
      | exact ih1 _ _ _ _ _ _ _ _ _ _
      | exact ih2 _ _ _ _ _ _ _ _ _ _ _
      | exact ih3 _ _ _ _ _ _ _
      | exact assentlaw13_StateRuns.mono _
      | exact state_Next.mono _ _ _ _
      | exact LeO.none _
      | refine LeO.ite ?_ ?_
      | refine LeO.bind ?_ (fun _ => ?_)
    · intro y0 y1 y2 y3 y4 y5 y6
      unfold assentlaw13_StateModes.j3
      repeat' first
      | (with_reducible exact ih0 _ _ _ _ _ _ _ _)
      | (with_reducible exact ih1 _ _ _ _ _ _ _ _ _ _)
      | (with_reducible exact ih2 _ _ _ _ _ _ _ _ _ _ _)
      | (with_reducible exact ih3 _ _ _ _ _ _ _)
      | (with_reducible exact assentlaw13_StateRuns.mono _)
      | (with_reducible exact state_Next.mono _ _ _ _)
      | (with_reducible exact LeO.refl _)
      | (with_reducible exact LeO.none _)
      | (with_reducible refine LeO.ite ?_ ?_)
      | (with_reducible refine LeO.bind ?_ (fun _ => ?_))
      | exact ih0 _ _ _ _ _ _ _ _
      | exact ih1 _ _ _ _ _ _ _ _ _ _
      | exact ih2 _ _ _ _ _ _ _ _ _ _ _
      | exact ih3 _ _ _ _ _ _ _
      | exact assentlaw13_StateRuns.mono _
      | exact state_Next.mono _ _ _ _
      | exact LeO.none _
      | refine LeO.ite ?_ ?_
      | refine LeO.bind ?_ (fun _ => ?_)
theorem assentlaw13_StateModes.mono : ∀ a0 a1 k, LeO (assentlaw13_StateModes.f k a0 a1) (assentlaw13_StateModes.f (k + 1) a0 a1) := by
  intro a0 a1 k
  obtain ⟨ih0, ih1, ih2, ih3⟩ := assentlaw13_StateModes.mono_l k
  unfold assentlaw13_StateModes.f
  repeat' first
      | (with_reducible exact ih0 _ _ _ _ _ _ _ _)
      | (with_reducible exact ih1 _ _ _ _ _ _ _ _ _ _)
      | (with_reducible exact ih2 _ _ _ _ _ _ _ _ _ _ _)
      | (with_reducible exact ih3 _ _ _ _ _ _ _)
      | (with_reducible exact assentlaw13_StateRuns.mono _)
      | (with_reducible exact state_Next.mono _ _ _ _)
      | (with_reducible exact LeO.refl _)
      | (with_reducible exact LeO.none _)
      | (with_reducible refine LeO.ite ?_ ?_)
      | (with_reducible refine LeO.bind ?_ (fun _ => ?_))
      | exact ih0 _ _ _ _ _ _ _ _
      | exact ih1 _ _ _ _ _ _ _ _ _ _
      | exact ih2 _ _ _ _ _ _ _ _ _ _ _
      | exact ih3 _ _ _ _ _ _ _
      | exact assentlaw13_StateRuns.mono _
      | exact state_Next.mono _ _ _ _
      | exact LeO.none _
      | refine LeO.ite ?_ ?_
      | refine LeO.bind ?_ (fun _ => ?_)
set_option maxHeartbeats 8000000 in
set_option maxRecDepth 100000 in
theorem assentlaw13_StateModes.calls (k : Nat) (a0 : Int) (a1 : Int) (r : Bool) (w : World) (h : assentlaw13_StateModes.f k a0 a1 = some r) :
    Calls Try.prog 5 #[.int .i64 a0, .int .i64 a1] w fun e w' => e = .returned (.bool r) ∧ Below w.heap.size w w' := by
  have HB := Aside0.mk (Below.refl w.heap.size w)
  have H : ((assentbook_Within.f a0 0 4).bind fun t114 => ((assentbook_Within.f a1 0 5).bind fun t115 => ((state_Next.f k t114 (wrap64 (5 + t115)) 0).bind fun bt116 => (assentlaw13_StateModes.l0 k t114 (wrap64 (5 + t115)) 0 0 bt116.1 bt116.2 true 0)))) = some r := h
  clear h
  replace H := Option.bind_eq_some_iff.mp H
  obtain ⟨t114, A30, H⟩ := H
  replace H : ((assentbook_Within.f a1 0 5).bind fun t115 => ((state_Next.f k t114 (wrap64 (5 + t115)) 0).bind fun bt116 => (assentlaw13_StateModes.l0 k t114 (wrap64 (5 + t115)) 0 0 bt116.1 bt116.2 true 0))) = some r := H
  have A3 := Aside0.mk A30
  clear A30
  replace H := Option.bind_eq_some_iff.mp H
  obtain ⟨t115, A40, H⟩ := H
  replace H : ((state_Next.f k t114 (wrap64 (5 + t115)) 0).bind fun bt116 => (assentlaw13_StateModes.l0 k t114 (wrap64 (5 + t115)) 0 0 bt116.1 bt116.2 true 0)) = some r := H
  have A4 := Aside0.mk A40
  clear A40
  replace H := Option.bind_eq_some_iff.mp H
  obtain ⟨⟨t116, t117⟩, A50, H⟩ := H
  replace H : (assentlaw13_StateModes.l0 k t114 (wrap64 (5 + t115)) 0 0 t116 t117 true 0) = some r := H
  have A5 := Aside0.mk A50
  clear A50
  have H' := Aside0.mk H
  clear H
  go_enter Try.func5, Try.ntmps5
  go_wp2_with (first | ((with_reducible refine gate_callee (f := 13) rfl ?_); refine goesL_ (some 16) rfl rfl Try.func13 (by kernel_rfl) rfl #[.int .i64 a0, .int .i64 0, .int .i64 4] rfl (by (try simp only [List.map_toArray, List.map_cons, List.map_nil]); first | done | rfl | (simp only [List.length_drop, List.length_take]; rfl)) ?_; (with_reducible refine (assentbook_Within.calls a0 0 4 t114 _ A3.out).mono ?_); rintro e w' ⟨rfl, ⟨nd, rfl⟩⟩; refine ⟨_, rfl, ?_⟩) | ((with_reducible refine gate_callee (f := 13) rfl ?_); refine goesL_ (some 18) rfl rfl Try.func13 (by kernel_rfl) rfl #[.int .i64 a1, .int .i64 0, .int .i64 5] rfl (by (try simp only [List.map_toArray, List.map_cons, List.map_nil]); first | done | rfl | (simp only [List.length_drop, List.length_take]; rfl)) ?_; (with_reducible refine (assentbook_Within.calls a1 0 5 t115 _ A4.out).mono ?_); rintro e w' ⟨rfl, ⟨nd, rfl⟩⟩; refine ⟨_, rfl, ?_⟩) | ((with_reducible refine gate_callee (f := 14) rfl ?_); refine goesL_ (some 23) rfl rfl Try.func14 (by kernel_rfl) rfl #[.int .i64 t114, .int .i64 (wrap64 (5 + t115)), .int .i64 0] rfl (by (try simp only [List.map_toArray, List.map_cons, List.map_nil]); first | done | rfl | (simp only [List.length_drop, List.length_take]; rfl)) ?_; (with_reducible refine (state_Next.calls k t114 (wrap64 (5 + t115)) 0 t116 t117 _ A5.out).mono ?_); rintro e w' ⟨rfl, ⟨nd, rfl⟩⟩; refine ⟨_, rfl, ?_⟩))
  go_loopg [7, 8, 11, 12] k (fun kq v7 v8 v11 v12 w' => ∃ (x7_1 : Int) (x8_1 : Int) (x11_1 : Bool) (x12_1 : Int), v7 = .int .i64 x7_1 ∧ v8 = .int .i64 x8_1 ∧ v11 = .bool x11_1 ∧ v12 = .int .i64 x12_1 ∧ Aside0 (assentlaw13_StateModes.l0 kq t114 (wrap64 (5 + t115)) x7_1 x8_1 t116 t117 x11_1 x12_1 = some r) ∧ Aside0 (kq ≤ k) ∧ Aside0 (Below w.heap.size w w'))
  case atStart => exact ⟨(0), (0), (true), (0), (by first | rfl | (simp; done) | (simp [*]; done)), (by first | rfl | (simp; done) | (simp [*]; done)), (by first | rfl | (simp; done) | (simp [*]; done)), (by first | rfl | (simp; done) | (simp [*]; done)), H', ⟨Nat.le_refl _⟩, ⟨by repeat (first | (with_reducible first | exact HB.out | apply below_alloc | apply pw_below_drewN | apply below_drew1) | exact HB.out)⟩⟩
  case round =>
    clear H'
    try clear c1
    try clear p2
    try clear c5
    obtain ⟨x7_1, x8_1, x11_1, x12_1, rfl, rfl, rfl, rfl, HA, HK1, HB⟩ := hrel
    cases gk with
    | zero => exact absurd HA.out (by simp [assentlaw13_StateModes.l0])
    | succ k1 =>
      have H := HA.out
      clear HA
      simp only [assentlaw13_StateModes.l0] at H
      by_cases c6 : x12_1 ≤ 3
      · rw [if_pos c6] at H
        have c6b0 : decide (x12_1 ≤ 3) = true := decide_eq_true c6
        clear c6
        replace H := Option.bind_eq_some_iff.mp H
        obtain ⟨⟨t118, t119⟩, A70, H⟩ := H
        replace H : (if x11_1 = true then (if t118 = t116 then (assentlaw13_StateModes.j1 k1 t114 (wrap64 (5 + t115)) x7_1 x8_1 t116 t117 (t119 == t117) x12_1 t118 t119) else (assentlaw13_StateModes.j1 k1 t114 (wrap64 (5 + t115)) x7_1 x8_1 t116 t117 false x12_1 t118 t119)) else (assentlaw13_StateModes.j1 k1 t114 (wrap64 (5 + t115)) x7_1 x8_1 t116 t117 false x12_1 t118 t119)) = some r := H
        have A7 := Aside0.mk A70
        clear A70
        have HC8 := Aside0.mk H
        clear H
        go_upto_region 10 with (first | ((with_reducible refine gate_callee (f := 14) rfl ?_); refine goesL_ (some 34) rfl rfl Try.func14 (by kernel_rfl) rfl #[.int .i64 t114, .int .i64 (wrap64 (5 + t115)), .int .i64 x12_1] rfl (by (try simp only [List.map_toArray, List.map_cons, List.map_nil]); first | done | rfl | (simp only [List.length_drop, List.length_take]; rfl)) ?_; (with_reducible refine (state_Next.calls k1 t114 (wrap64 (5 + t115)) x12_1 t118 t119 _ A7.out).mono ?_); rintro e w' ⟨rfl, ⟨nd, rfl⟩⟩; refine ⟨_, rfl, ?_⟩))
        (try simp only [Act.put, List.setIfInBounds_toArray, List.set_cons_zero, List.set_cons_succ])
        go_cut [11] (fun v11 wc => ∃ (kq : Nat) (x11_7 : Bool), v11 = .bool x11_7 ∧ Aside0 (assentlaw13_StateModes.j1 kq t114 (wrap64 (5 + t115)) x7_1 x8_1 t116 t117 x11_7 x12_1 t118 t119 = some r) ∧ Aside0 (kq ≤ k1) ∧ Aside0 (Below w.heap.size w wc))
        case first =>
          have H := HC8.out
          clear HC8
          by_cases c9 : x11_1 = true
          · subst c9
            have H1 : (if t118 = t116 then (assentlaw13_StateModes.j1 k1 t114 (wrap64 (5 + t115)) x7_1 x8_1 t116 t117 (t119 == t117) x12_1 t118 t119) else (assentlaw13_StateModes.j1 k1 t114 (wrap64 (5 + t115)) x7_1 x8_1 t116 t117 false x12_1 t118 t119)) = some r := by rw [if_pos rfl] at H; exact H
            clear H
            have H := H1
            clear H1
            by_cases c10 : t118 = t116
            · rw [if_pos c10] at H
              have c10b0 : (t118 == t116) = true := beq_iff_eq.mpr c10
              have c10b1 : (t118 != t116) = false := bne_eq_false_iff_eq.mpr c10
              clear c10
              (first | rw [c10b0] | (simp only [i64_w, i32_w]; rw [c10b0]) | skip)
              have H' := Aside0.mk H
              clear H
              go_wp2
              go_meet
              case rel => exact ⟨_, ((t119 == t117)), (by first | rfl | (simp; done) | (simp [*]; done)), H', ⟨by have := HK1.out; first | omega | exact Nat.le_refl _⟩, ⟨by repeat (first | (with_reducible first | exact HB.out | apply below_alloc | apply pw_below_drewN | apply below_drew1) | exact HB.out)⟩⟩
            · rw [if_neg c10] at H
              have c10b0 : (t118 == t116) = false := beq_eq_false_iff_ne.mpr c10
              have c10b1 : (t118 != t116) = true := bne_iff_ne.mpr c10
              (first | rw [c10b0] | (simp only [i64_w, i32_w]; rw [c10b0]) | skip)
              have H' := Aside0.mk H
              clear H
              go_wp2
              go_meet
              case rel => exact ⟨_, (false), (by first | rfl | (simp; done) | (simp [*]; done)), H', ⟨by have := HK1.out; first | omega | exact Nat.le_refl _⟩, ⟨by repeat (first | (with_reducible first | exact HB.out | apply below_alloc | apply pw_below_drewN | apply below_drew1) | exact HB.out)⟩⟩
          · replace c9 := Bool.eq_false_iff.mpr c9
            subst c9
            have H1 : (assentlaw13_StateModes.j1 k1 t114 (wrap64 (5 + t115)) x7_1 x8_1 t116 t117 false x12_1 t118 t119) = some r := by rw [if_neg (show ¬ (false = true) by decide)] at H; exact H
            clear H
            have H := H1
            clear H1
            have H' := Aside0.mk H
            clear H
            go_wp2
            go_meet
            case rel => exact ⟨_, (false), (by first | rfl | (simp; done) | (simp [*]; done)), H', ⟨by have := HK1.out; first | omega | exact Nat.le_refl _⟩, ⟨by repeat (first | (with_reducible first | exact HB.out | apply below_alloc | apply pw_below_drewN | apply below_drew1) | exact HB.out)⟩⟩
        case rest =>
          clear HC8
          try clear c1
          try clear p2
          try clear c5
          try clear c6
          try clear c6b0
          try clear p6
          try clear c9
          try clear c10
          try clear c10b0
          try clear c10b1
          try clear p2
          obtain ⟨kq, x11_7, rfl, HA, HJ7, HB⟩ := hcut
          cases kq with
          | zero => exact absurd HA.out (by simp [assentlaw13_StateModes.j1])
          | succ kj7 =>
            have H := HA.out
            clear HA
            simp only [assentlaw13_StateModes.j1] at H
            have HC11 := Aside0.mk H
            clear H
            go_upto_region 11 with (fail)
            go_cut [53] (fun v53 wc => ∃ (kq : Nat) (x53_10 : Bool), v53 = .bool x53_10 ∧ Aside0 (assentlaw13_StateModes.j2 kq t114 (wrap64 (5 + t115)) x7_1 x8_1 t116 t117 x11_7 x12_1 t118 t119 x53_10 = some r) ∧ Aside0 (kq ≤ kj7) ∧ Aside0 (Below w.heap.size w wc))
            case first =>
              have H := HC11.out
              clear HC11
              by_cases c12 : t118 = 3
              · rw [if_pos c12] at H
                have c12b0 : (t118 == 3) = true := beq_iff_eq.mpr c12
                have c12b1 : (t118 != 3) = false := bne_eq_false_iff_eq.mpr c12
                clear c12
                (first | rw [c12b0] | (simp only [i64_w, i32_w]; rw [c12b0]) | skip)
                have H' := Aside0.mk H
                clear H
                go_wp2
                go_meet
                case rel => exact ⟨_, (((wrap64 (5 + t115)) == 5)), (by first | rfl | (simp; done) | (simp [*]; done)), H', ⟨by have := HK1.out; have := HJ7.out; first | omega | exact Nat.le_refl _⟩, ⟨by repeat (first | (with_reducible first | exact HB.out | apply below_alloc | apply pw_below_drewN | apply below_drew1) | exact HB.out)⟩⟩
              · rw [if_neg c12] at H
                have c12b0 : (t118 == 3) = false := beq_eq_false_iff_ne.mpr c12
                have c12b1 : (t118 != 3) = true := bne_iff_ne.mpr c12
                (first | rw [c12b0] | (simp only [i64_w, i32_w]; rw [c12b0]) | skip)
                have H' := Aside0.mk H
                clear H
                go_wp2
                go_meet
                case rel => exact ⟨_, (false), (by first | rfl | (simp; done) | (simp [*]; done)), H', ⟨by have := HK1.out; have := HJ7.out; first | omega | exact Nat.le_refl _⟩, ⟨by repeat (first | (with_reducible first | exact HB.out | apply below_alloc | apply pw_below_drewN | apply below_drew1) | exact HB.out)⟩⟩
            case rest =>
              clear HC11
              try clear c1
              try clear p2
              try clear c5
              try clear c6
              try clear c6b0
              try clear p6
              try clear c9
              try clear c10
              try clear c10b0
              try clear c10b1
              try clear c12
              try clear c12b0
              try clear c12b1
              try clear p2
              try clear p6
              obtain ⟨kq, x53_10, rfl, HA, HJ10, HB⟩ := hcut
              cases kq with
              | zero => exact absurd HA.out (by simp [assentlaw13_StateModes.j2])
              | succ kj10 =>
                have H := HA.out
                clear HA
                simp only [assentlaw13_StateModes.j2] at H
                by_cases c13 : x53_10 = true
                · subst c13
                  have H1 : (if t118 = 0 then (if t119 = true then (if (wrap64 (5 + t115)) = 5 then (assentlaw13_StateModes.l0 kj10 t114 (wrap64 (5 + t115)) (wrap64 (x7_1 + 1)) (wrap64 (x8_1 + 1)) t116 t117 x11_7 (wrap64 (x12_1 + 1))) else (assentlaw13_StateModes.l0 kj10 t114 (wrap64 (5 + t115)) (wrap64 (x7_1 + 1)) x8_1 t116 t117 x11_7 (wrap64 (x12_1 + 1)))) else (assentlaw13_StateModes.l0 kj10 t114 (wrap64 (5 + t115)) (wrap64 (x7_1 + 1)) x8_1 t116 t117 x11_7 (wrap64 (x12_1 + 1)))) else (assentlaw13_StateModes.l0 kj10 t114 (wrap64 (5 + t115)) (wrap64 (x7_1 + 1)) x8_1 t116 t117 x11_7 (wrap64 (x12_1 + 1)))) = some r := by rw [if_pos rfl] at H; exact H
                  clear H
                  have H := H1
                  clear H1
                  by_cases c14 : t118 = 0
                  · rw [if_pos c14] at H
                    have c14b0 : (t118 == 0) = true := beq_iff_eq.mpr c14
                    have c14b1 : (t118 != 0) = false := bne_eq_false_iff_eq.mpr c14
                    clear c14
                    by_cases c15 : t119 = true
                    · subst c15
                      have H1 : (if (wrap64 (5 + t115)) = 5 then (assentlaw13_StateModes.l0 kj10 t114 (wrap64 (5 + t115)) (wrap64 (x7_1 + 1)) (wrap64 (x8_1 + 1)) t116 t117 x11_7 (wrap64 (x12_1 + 1))) else (assentlaw13_StateModes.l0 kj10 t114 (wrap64 (5 + t115)) (wrap64 (x7_1 + 1)) x8_1 t116 t117 x11_7 (wrap64 (x12_1 + 1)))) = some r := by rw [if_pos rfl] at H; exact H
                      clear H
                      have H := H1
                      clear H1
                      by_cases c16 : (wrap64 (5 + t115)) = 5
                      · rw [if_pos c16] at H
                        have c16b0 : ((wrap64 (5 + t115)) == 5) = true := beq_iff_eq.mpr c16
                        have c16b1 : ((wrap64 (5 + t115)) != 5) = false := bne_eq_false_iff_eq.mpr c16
                        clear c16
                        have H' := Aside0.mk H
                        clear H
                        go_wp2
                        go_roundg kj10
                        case measure => have := HK1.out; have := HJ7.out; have := HJ10.out; omega
                        case rel => exact ⟨(wrap64 (x7_1 + 1)), (wrap64 (x8_1 + 1)), (x11_7), (wrap64 (x12_1 + 1)), (by first | rfl | (simp; done) | (simp [*]; done)), (by first | rfl | (simp; done) | (simp [*]; done)), (by first | rfl | (simp; done) | (simp [*]; done)), (by first | rfl | (simp; done) | (simp [*]; done)), H', ⟨by have := HK1.out; have := HJ7.out; have := HJ10.out; omega⟩, ⟨by repeat (first | (with_reducible first | exact HB.out | apply below_alloc | apply pw_below_drewN | apply below_drew1) | exact HB.out)⟩⟩
                      · rw [if_neg c16] at H
                        have c16b0 : ((wrap64 (5 + t115)) == 5) = false := beq_eq_false_iff_ne.mpr c16
                        have c16b1 : ((wrap64 (5 + t115)) != 5) = true := bne_iff_ne.mpr c16
                        have H' := Aside0.mk H
                        clear H
                        go_wp2
                        go_roundg kj10
                        case measure => have := HK1.out; have := HJ7.out; have := HJ10.out; omega
                        case rel => exact ⟨(wrap64 (x7_1 + 1)), (x8_1), (x11_7), (wrap64 (x12_1 + 1)), (by first | rfl | (simp; done) | (simp [*]; done)), (by first | rfl | (simp; done) | (simp [*]; done)), (by first | rfl | (simp; done) | (simp [*]; done)), (by first | rfl | (simp; done) | (simp [*]; done)), H', ⟨by have := HK1.out; have := HJ7.out; have := HJ10.out; omega⟩, ⟨by repeat (first | (with_reducible first | exact HB.out | apply below_alloc | apply pw_below_drewN | apply below_drew1) | exact HB.out)⟩⟩
                    · replace c15 := Bool.eq_false_iff.mpr c15
                      subst c15
                      have H1 : (assentlaw13_StateModes.l0 kj10 t114 (wrap64 (5 + t115)) (wrap64 (x7_1 + 1)) x8_1 t116 t117 x11_7 (wrap64 (x12_1 + 1))) = some r := by rw [if_neg (show ¬ (false = true) by decide)] at H; exact H
                      clear H
                      have H := H1
                      clear H1
                      have H' := Aside0.mk H
                      clear H
                      go_wp2
                      go_roundg kj10
                      case measure => have := HK1.out; have := HJ7.out; have := HJ10.out; omega
                      case rel => exact ⟨(wrap64 (x7_1 + 1)), (x8_1), (x11_7), (wrap64 (x12_1 + 1)), (by first | rfl | (simp; done) | (simp [*]; done)), (by first | rfl | (simp; done) | (simp [*]; done)), (by first | rfl | (simp; done) | (simp [*]; done)), (by first | rfl | (simp; done) | (simp [*]; done)), H', ⟨by have := HK1.out; have := HJ7.out; have := HJ10.out; omega⟩, ⟨by repeat (first | (with_reducible first | exact HB.out | apply below_alloc | apply pw_below_drewN | apply below_drew1) | exact HB.out)⟩⟩
                  · rw [if_neg c14] at H
                    have c14b0 : (t118 == 0) = false := beq_eq_false_iff_ne.mpr c14
                    have c14b1 : (t118 != 0) = true := bne_iff_ne.mpr c14
                    have H' := Aside0.mk H
                    clear H
                    go_wp2
                    go_roundg kj10
                    case measure => have := HK1.out; have := HJ7.out; have := HJ10.out; omega
                    case rel => exact ⟨(wrap64 (x7_1 + 1)), (x8_1), (x11_7), (wrap64 (x12_1 + 1)), (by first | rfl | (simp; done) | (simp [*]; done)), (by first | rfl | (simp; done) | (simp [*]; done)), (by first | rfl | (simp; done) | (simp [*]; done)), (by first | rfl | (simp; done) | (simp [*]; done)), H', ⟨by have := HK1.out; have := HJ7.out; have := HJ10.out; omega⟩, ⟨by repeat (first | (with_reducible first | exact HB.out | apply below_alloc | apply pw_below_drewN | apply below_drew1) | exact HB.out)⟩⟩
                · replace c13 := Bool.eq_false_iff.mpr c13
                  subst c13
                  have H1 : (if t118 = 0 then (if t119 = true then (if (wrap64 (5 + t115)) = 5 then (assentlaw13_StateModes.l0 kj10 t114 (wrap64 (5 + t115)) x7_1 (wrap64 (x8_1 + 1)) t116 t117 x11_7 (wrap64 (x12_1 + 1))) else (assentlaw13_StateModes.l0 kj10 t114 (wrap64 (5 + t115)) x7_1 x8_1 t116 t117 x11_7 (wrap64 (x12_1 + 1)))) else (assentlaw13_StateModes.l0 kj10 t114 (wrap64 (5 + t115)) x7_1 x8_1 t116 t117 x11_7 (wrap64 (x12_1 + 1)))) else (assentlaw13_StateModes.l0 kj10 t114 (wrap64 (5 + t115)) x7_1 x8_1 t116 t117 x11_7 (wrap64 (x12_1 + 1)))) = some r := by rw [if_neg (show ¬ (false = true) by decide)] at H; exact H
                  clear H
                  have H := H1
                  clear H1
                  by_cases c17 : t118 = 0
                  · rw [if_pos c17] at H
                    have c17b0 : (t118 == 0) = true := beq_iff_eq.mpr c17
                    have c17b1 : (t118 != 0) = false := bne_eq_false_iff_eq.mpr c17
                    clear c17
                    by_cases c18 : t119 = true
                    · subst c18
                      have H1 : (if (wrap64 (5 + t115)) = 5 then (assentlaw13_StateModes.l0 kj10 t114 (wrap64 (5 + t115)) x7_1 (wrap64 (x8_1 + 1)) t116 t117 x11_7 (wrap64 (x12_1 + 1))) else (assentlaw13_StateModes.l0 kj10 t114 (wrap64 (5 + t115)) x7_1 x8_1 t116 t117 x11_7 (wrap64 (x12_1 + 1)))) = some r := by rw [if_pos rfl] at H; exact H
                      clear H
                      have H := H1
                      clear H1
                      by_cases c19 : (wrap64 (5 + t115)) = 5
                      · rw [if_pos c19] at H
                        have c19b0 : ((wrap64 (5 + t115)) == 5) = true := beq_iff_eq.mpr c19
                        have c19b1 : ((wrap64 (5 + t115)) != 5) = false := bne_eq_false_iff_eq.mpr c19
                        clear c19
                        have H' := Aside0.mk H
                        clear H
                        go_wp2
                        go_roundg kj10
                        case measure => have := HK1.out; have := HJ7.out; have := HJ10.out; omega
                        case rel => exact ⟨(x7_1), (wrap64 (x8_1 + 1)), (x11_7), (wrap64 (x12_1 + 1)), (by first | rfl | (simp; done) | (simp [*]; done)), (by first | rfl | (simp; done) | (simp [*]; done)), (by first | rfl | (simp; done) | (simp [*]; done)), (by first | rfl | (simp; done) | (simp [*]; done)), H', ⟨by have := HK1.out; have := HJ7.out; have := HJ10.out; omega⟩, ⟨by repeat (first | (with_reducible first | exact HB.out | apply below_alloc | apply pw_below_drewN | apply below_drew1) | exact HB.out)⟩⟩
                      · rw [if_neg c19] at H
                        have c19b0 : ((wrap64 (5 + t115)) == 5) = false := beq_eq_false_iff_ne.mpr c19
                        have c19b1 : ((wrap64 (5 + t115)) != 5) = true := bne_iff_ne.mpr c19
                        have H' := Aside0.mk H
                        clear H
                        go_wp2
                        go_roundg kj10
                        case measure => have := HK1.out; have := HJ7.out; have := HJ10.out; omega
                        case rel => exact ⟨(x7_1), (x8_1), (x11_7), (wrap64 (x12_1 + 1)), (by first | rfl | (simp; done) | (simp [*]; done)), (by first | rfl | (simp; done) | (simp [*]; done)), (by first | rfl | (simp; done) | (simp [*]; done)), (by first | rfl | (simp; done) | (simp [*]; done)), H', ⟨by have := HK1.out; have := HJ7.out; have := HJ10.out; omega⟩, ⟨by repeat (first | (with_reducible first | exact HB.out | apply below_alloc | apply pw_below_drewN | apply below_drew1) | exact HB.out)⟩⟩
                    · replace c18 := Bool.eq_false_iff.mpr c18
                      subst c18
                      have H1 : (assentlaw13_StateModes.l0 kj10 t114 (wrap64 (5 + t115)) x7_1 x8_1 t116 t117 x11_7 (wrap64 (x12_1 + 1))) = some r := by rw [if_neg (show ¬ (false = true) by decide)] at H; exact H
                      clear H
                      have H := H1
                      clear H1
                      have H' := Aside0.mk H
                      clear H
                      go_wp2
                      go_roundg kj10
                      case measure => have := HK1.out; have := HJ7.out; have := HJ10.out; omega
                      case rel => exact ⟨(x7_1), (x8_1), (x11_7), (wrap64 (x12_1 + 1)), (by first | rfl | (simp; done) | (simp [*]; done)), (by first | rfl | (simp; done) | (simp [*]; done)), (by first | rfl | (simp; done) | (simp [*]; done)), (by first | rfl | (simp; done) | (simp [*]; done)), H', ⟨by have := HK1.out; have := HJ7.out; have := HJ10.out; omega⟩, ⟨by repeat (first | (with_reducible first | exact HB.out | apply below_alloc | apply pw_below_drewN | apply below_drew1) | exact HB.out)⟩⟩
                  · rw [if_neg c17] at H
                    have c17b0 : (t118 == 0) = false := beq_eq_false_iff_ne.mpr c17
                    have c17b1 : (t118 != 0) = true := bne_iff_ne.mpr c17
                    have H' := Aside0.mk H
                    clear H
                    go_wp2
                    go_roundg kj10
                    case measure => have := HK1.out; have := HJ7.out; have := HJ10.out; omega
                    case rel => exact ⟨(x7_1), (x8_1), (x11_7), (wrap64 (x12_1 + 1)), (by first | rfl | (simp; done) | (simp [*]; done)), (by first | rfl | (simp; done) | (simp [*]; done)), (by first | rfl | (simp; done) | (simp [*]; done)), (by first | rfl | (simp; done) | (simp [*]; done)), H', ⟨by have := HK1.out; have := HJ7.out; have := HJ10.out; omega⟩, ⟨by repeat (first | (with_reducible first | exact HB.out | apply below_alloc | apply pw_below_drewN | apply below_drew1) | exact HB.out)⟩⟩
      · rw [if_neg c6] at H
        have c6b0 : decide (x12_1 ≤ 3) = false := decide_eq_false c6
        clear c6
        have HC20 := Aside0.mk H
        clear H
        go_upto_region 15 with (fail)
        go_cut [73] (fun v73 wc => ∃ (kq : Nat) (x73_19 : Bool), v73 = .bool x73_19 ∧ Aside0 (assentlaw13_StateModes.j3 kq t114 x7_1 x8_1 t116 t117 x11_1 x73_19 = some r) ∧ Aside0 (kq ≤ k1) ∧ Aside0 (Below w.heap.size w wc))
        case first =>
          have H := HC20.out
          clear HC20
          by_cases c21 : (wrap64 (5 + t115)) = 5
          · rw [if_pos c21] at H
            have c21b0 : ((wrap64 (5 + t115)) == 5) = true := beq_iff_eq.mpr c21
            have c21b1 : ((wrap64 (5 + t115)) != 5) = false := bne_eq_false_iff_eq.mpr c21
            clear c21
            (first | rw [c21b0] | (simp only [i64_w, i32_w]; rw [c21b0]) | skip)
            replace H := Option.bind_eq_some_iff.mp H
            obtain ⟨t120, A220, H⟩ := H
            replace H : (assentlaw13_StateModes.j3 k1 t114 x7_1 x8_1 t116 t117 x11_1 (!t120)) = some r := H
            have A22 := Aside0.mk A220
            clear A220
            have H' := Aside0.mk H
            clear H
            go_wp2_with (first | (go_at_call 15; (with_reducible refine (state_Dirty.calls t114 t120 _ A22.out).mono ?_); rintro e w' ⟨rfl, ⟨nd, rfl⟩⟩))
            go_meet
            case rel => exact ⟨_, (!t120), (by first | rfl | (simp; done) | (simp [*]; done)), H', ⟨by have := HK1.out; first | omega | exact Nat.le_refl _⟩, ⟨by repeat (first | (with_reducible first | exact HB.out | apply below_alloc | apply pw_below_drewN | apply below_drew1) | exact HB.out)⟩⟩
          · rw [if_neg c21] at H
            have c21b0 : ((wrap64 (5 + t115)) == 5) = false := beq_eq_false_iff_ne.mpr c21
            have c21b1 : ((wrap64 (5 + t115)) != 5) = true := bne_iff_ne.mpr c21
            (first | rw [c21b0] | (simp only [i64_w, i32_w]; rw [c21b0]) | skip)
            have H' := Aside0.mk H
            clear H
            go_wp2
            go_meet
            case rel => exact ⟨_, (true), (by first | rfl | (simp; done) | (simp [*]; done)), H', ⟨by have := HK1.out; first | omega | exact Nat.le_refl _⟩, ⟨by repeat (first | (with_reducible first | exact HB.out | apply below_alloc | apply pw_below_drewN | apply below_drew1) | exact HB.out)⟩⟩
        case rest =>
          clear HC20
          try clear c1
          try clear c2
          try clear p2
          try clear c5
          try clear c6
          try clear c6b0
          try clear p6
          try clear c9
          try clear c10
          try clear c10b0
          try clear c10b1
          try clear c12
          try clear c12b0
          try clear c12b1
          try clear c13
          try clear c14
          try clear c14b0
          try clear c14b1
          try clear c15
          try clear c16
          try clear c16b0
          try clear c16b1
          try clear c17
          try clear c17b0
          try clear c17b1
          try clear c18
          try clear c19
          try clear c19b0
          try clear c19b1
          try clear c21
          try clear c21b0
          try clear c21b1
          try clear p2
          try clear p6
          obtain ⟨kq, x73_19, rfl, HA, HJ19, HB⟩ := hcut
          cases kq with
          | zero => exact absurd HA.out (by simp [assentlaw13_StateModes.j3])
          | succ kj19 =>
            have H := HA.out
            clear HA
            simp only [assentlaw13_StateModes.j3] at H
            by_cases c23 : x73_19 = true
            · subst c23
              have H1 : (if x11_1 = true then ((assentlaw13_StateRuns.f kj19).bind fun t121 => (some t121)) else (some false)) = some r := by rw [if_pos rfl] at H; exact H
              clear H
              have H := H1
              clear H1
              by_cases c24 : x11_1 = true
              · subst c24
                have H1 : ((assentlaw13_StateRuns.f kj19).bind fun t121 => (some t121)) = some r := by rw [if_pos rfl] at H; exact H
                clear H
                have H := H1
                clear H1
                replace H := Option.bind_eq_some_iff.mp H
                obtain ⟨t121, A250, H⟩ := H
                replace H : (some t121) = some r := H
                have A25 := Aside0.mk A250
                clear A250
                obtain rfl := Option.some.inj H
                go_wp2_with (first | (go_at_call 3; (with_reducible refine (assentlaw13_StateRuns.calls kj19  t121 _ A25.out).mono ?_); rintro e w26 ⟨rfl, hb⟩; have n0_ := Aside0.mk (below_step (by repeat (first | (with_reducible first | exact HB.out | apply below_alloc | apply pw_below_drewN | apply below_drew1) | exact HB.out)) hb); clear HB; have HB := n0_; clear n0_; (try clear hb); (try clear hb2); (try clear hk); (try clear hi)))
                go_ret
                exact ⟨by first | rfl | (simp [errW_none, errW_some] <;> rfl) | (simp [*, errW_none, errW_some] <;> rfl), by repeat (first | (with_reducible first | exact HB.out | apply below_alloc | apply pw_below_drewN | apply below_drew1) | exact HB.out)⟩
              · replace c24 := Bool.eq_false_iff.mpr c24
                subst c24
                have H1 : (some false) = some r := by rw [if_neg (show ¬ (false = true) by decide)] at H; exact H
                clear H
                have H := H1
                clear H1
                obtain rfl := Option.some.inj H
                go_wp2
                go_ret
                exact ⟨by first | rfl | (simp [errW_none, errW_some] <;> rfl) | (simp [*, errW_none, errW_some] <;> rfl), by repeat (first | (with_reducible first | exact HB.out | apply below_alloc | apply pw_below_drewN | apply below_drew1) | exact HB.out)⟩
            · replace c23 := Bool.eq_false_iff.mpr c23
              subst c23
              have H1 : (if t114 = 4 then (if x7_1 = 2 then (if x8_1 = 1 then (if t116 = 1 then (if t117 = true then ((assentlaw13_StateRuns.f kj19).bind fun t122 => (some t122)) else (some false)) else (some false)) else (some false)) else (some false)) else (if x7_1 = 2 then (if x8_1 = 0 then ((assentlaw13_StateRuns.f kj19).bind fun t123 => (some t123)) else (some false)) else (some false))) = some r := by rw [if_neg (show ¬ (false = true) by decide)] at H; exact H
              clear H
              have H := H1
              clear H1
              by_cases c27 : t114 = 4
              · rw [if_pos c27] at H
                have c27b0 : (t114 == 4) = true := beq_iff_eq.mpr c27
                have c27b1 : (t114 != 4) = false := bne_eq_false_iff_eq.mpr c27
                clear c27
                by_cases c28 : x7_1 = 2
                · rw [if_pos c28] at H
                  have c28b0 : (x7_1 == 2) = true := beq_iff_eq.mpr c28
                  have c28b1 : (x7_1 != 2) = false := bne_eq_false_iff_eq.mpr c28
                  clear c28
                  by_cases c29 : x8_1 = 1
                  · rw [if_pos c29] at H
                    have c29b0 : (x8_1 == 1) = true := beq_iff_eq.mpr c29
                    have c29b1 : (x8_1 != 1) = false := bne_eq_false_iff_eq.mpr c29
                    clear c29
                    by_cases c30 : t116 = 1
                    · rw [if_pos c30] at H
                      have c30b0 : (t116 == 1) = true := beq_iff_eq.mpr c30
                      have c30b1 : (t116 != 1) = false := bne_eq_false_iff_eq.mpr c30
                      clear c30
                      by_cases c31 : t117 = true
                      · subst c31
                        have H1 : ((assentlaw13_StateRuns.f kj19).bind fun t122 => (some t122)) = some r := by rw [if_pos rfl] at H; exact H
                        clear H
                        have H := H1
                        clear H1
                        replace H := Option.bind_eq_some_iff.mp H
                        obtain ⟨t122, A320, H⟩ := H
                        replace H : (some t122) = some r := H
                        have A32 := Aside0.mk A320
                        clear A320
                        obtain rfl := Option.some.inj H
                        go_wp2_with (first | (go_at_call 3; (with_reducible refine (assentlaw13_StateRuns.calls kj19  t122 _ A32.out).mono ?_); rintro e w33 ⟨rfl, hb⟩; have n0_ := Aside0.mk (below_step (by repeat (first | (with_reducible first | exact HB.out | apply below_alloc | apply pw_below_drewN | apply below_drew1) | exact HB.out)) hb); clear HB; have HB := n0_; clear n0_; (try clear hb); (try clear hb2); (try clear hk); (try clear hi)))
                        go_ret
                        exact ⟨by first | rfl | (simp [errW_none, errW_some] <;> rfl) | (simp [*, errW_none, errW_some] <;> rfl), by repeat (first | (with_reducible first | exact HB.out | apply below_alloc | apply pw_below_drewN | apply below_drew1) | exact HB.out)⟩
                      · replace c31 := Bool.eq_false_iff.mpr c31
                        subst c31
                        have H1 : (some false) = some r := by rw [if_neg (show ¬ (false = true) by decide)] at H; exact H
                        clear H
                        have H := H1
                        clear H1
                        obtain rfl := Option.some.inj H
                        go_wp2
                        go_ret
                        exact ⟨by first | rfl | (simp [errW_none, errW_some] <;> rfl) | (simp [*, errW_none, errW_some] <;> rfl), by repeat (first | (with_reducible first | exact HB.out | apply below_alloc | apply pw_below_drewN | apply below_drew1) | exact HB.out)⟩
                    · rw [if_neg c30] at H
                      have c30b0 : (t116 == 1) = false := beq_eq_false_iff_ne.mpr c30
                      have c30b1 : (t116 != 1) = true := bne_iff_ne.mpr c30
                      obtain rfl := Option.some.inj H
                      go_wp2
                      go_ret
                      exact ⟨by first | rfl | (simp [errW_none, errW_some] <;> rfl) | (simp [*, errW_none, errW_some] <;> rfl), by repeat (first | (with_reducible first | exact HB.out | apply below_alloc | apply pw_below_drewN | apply below_drew1) | exact HB.out)⟩
                  · rw [if_neg c29] at H
                    have c29b0 : (x8_1 == 1) = false := beq_eq_false_iff_ne.mpr c29
                    have c29b1 : (x8_1 != 1) = true := bne_iff_ne.mpr c29
                    obtain rfl := Option.some.inj H
                    go_wp2
                    go_ret
                    exact ⟨by first | rfl | (simp [errW_none, errW_some] <;> rfl) | (simp [*, errW_none, errW_some] <;> rfl), by repeat (first | (with_reducible first | exact HB.out | apply below_alloc | apply pw_below_drewN | apply below_drew1) | exact HB.out)⟩
                · rw [if_neg c28] at H
                  have c28b0 : (x7_1 == 2) = false := beq_eq_false_iff_ne.mpr c28
                  have c28b1 : (x7_1 != 2) = true := bne_iff_ne.mpr c28
                  obtain rfl := Option.some.inj H
                  go_wp2
                  go_ret
                  exact ⟨by first | rfl | (simp [errW_none, errW_some] <;> rfl) | (simp [*, errW_none, errW_some] <;> rfl), by repeat (first | (with_reducible first | exact HB.out | apply below_alloc | apply pw_below_drewN | apply below_drew1) | exact HB.out)⟩
              · rw [if_neg c27] at H
                have c27b0 : (t114 == 4) = false := beq_eq_false_iff_ne.mpr c27
                have c27b1 : (t114 != 4) = true := bne_iff_ne.mpr c27
                by_cases c34 : x7_1 = 2
                · rw [if_pos c34] at H
                  have c34b0 : (x7_1 == 2) = true := beq_iff_eq.mpr c34
                  have c34b1 : (x7_1 != 2) = false := bne_eq_false_iff_eq.mpr c34
                  clear c34
                  by_cases c35 : x8_1 = 0
                  · rw [if_pos c35] at H
                    have c35b0 : (x8_1 == 0) = true := beq_iff_eq.mpr c35
                    have c35b1 : (x8_1 != 0) = false := bne_eq_false_iff_eq.mpr c35
                    clear c35
                    replace H := Option.bind_eq_some_iff.mp H
                    obtain ⟨t123, A360, H⟩ := H
                    replace H : (some t123) = some r := H
                    have A36 := Aside0.mk A360
                    clear A360
                    obtain rfl := Option.some.inj H
                    go_wp2_with (first | (go_at_call 3; (with_reducible refine (assentlaw13_StateRuns.calls kj19  t123 _ A36.out).mono ?_); rintro e w37 ⟨rfl, hb⟩; have n0_ := Aside0.mk (below_step (by repeat (first | (with_reducible first | exact HB.out | apply below_alloc | apply pw_below_drewN | apply below_drew1) | exact HB.out)) hb); clear HB; have HB := n0_; clear n0_; (try clear hb); (try clear hb2); (try clear hk); (try clear hi)))
                    go_ret
                    exact ⟨by first | rfl | (simp [errW_none, errW_some] <;> rfl) | (simp [*, errW_none, errW_some] <;> rfl), by repeat (first | (with_reducible first | exact HB.out | apply below_alloc | apply pw_below_drewN | apply below_drew1) | exact HB.out)⟩
                  · rw [if_neg c35] at H
                    have c35b0 : (x8_1 == 0) = false := beq_eq_false_iff_ne.mpr c35
                    have c35b1 : (x8_1 != 0) = true := bne_iff_ne.mpr c35
                    obtain rfl := Option.some.inj H
                    go_wp2
                    go_ret
                    exact ⟨by first | rfl | (simp [errW_none, errW_some] <;> rfl) | (simp [*, errW_none, errW_some] <;> rfl), by repeat (first | (with_reducible first | exact HB.out | apply below_alloc | apply pw_below_drewN | apply below_drew1) | exact HB.out)⟩
                · rw [if_neg c34] at H
                  have c34b0 : (x7_1 == 2) = false := beq_eq_false_iff_ne.mpr c34
                  have c34b1 : (x7_1 != 2) = true := bne_iff_ne.mpr c34
                  obtain rfl := Option.some.inj H
                  go_wp2
                  go_ret
                  exact ⟨by first | rfl | (simp [errW_none, errW_some] <;> rfl) | (simp [*, errW_none, errW_some] <;> rfl), by repeat (first | (with_reducible first | exact HB.out | apply below_alloc | apply pw_below_drewN | apply below_drew1) | exact HB.out)⟩

/-- THE ONE PURE STATEMENT of assentlaw13_StateModes: yours. -/
def assentlaw13_StateModes.Pure : Prop := ∀ (a0 : Int) (a1 : Int), (Lit.int .i64 a0).wf = true → (Lit.int .i64 a1).wf = true → ∃ k, assentlaw13_StateModes.f k a0 a1 = some true
theorem assentlaw13_StateModes.walk (P : assentlaw13_StateModes.Pure) (a0 : Int) (a1 : Int) (w : World) (w0 : (Lit.int .i64 a0).wf = true) (w1 : (Lit.int .i64 a1).wf = true) :
    Calls Try.prog 5 #[.int .i64 a0, .int .i64 a1] w fun e w' => e = .returned (.bool true) ∧ Below w.heap.size w w' := by
  obtain ⟨k, h⟩ := P a0 a1 w0 w1
  refine (assentlaw13_StateModes.calls k a0 a1 true w h).mono ?_
  rintro e w' ⟨rfl, hd⟩
  exact ⟨rfl, hd⟩

end Go.Proofs.Ytdpcnfdjpbbgjaa.PStateModes
