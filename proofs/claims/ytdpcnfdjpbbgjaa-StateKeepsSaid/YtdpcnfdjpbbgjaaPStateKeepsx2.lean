-- PRINTED BY print.sh 35421559b90ae4d0a3588c463048766b98c2df88dd9212a6774a882060cdf62d: not written by this session
import Derived.Test.YtdpcnfdjpbbgjaaPStateKeepsx0
import Derived.Test.YtdpcnfdjpbbgjaaPStateKeepsx1
namespace Go.Proofs.Ytdpcnfdjpbbgjaa.PStateKeeps
open Go.RowKit Go.Proofs.YtdpcnfdjpbbgjaaW.PrintWords Go.Proofs.YtdpcnfdjpbbgjaaW.PrintLast Go.Proofs.YtdpcnfdjpbbgjaaW.PrintMore
attribute [local go_sem] max2_int min2_int max_two min_two max_three min_three max_four min_four   -- for this text's walks alone
set_option linter.unusedVariables false
set_option linter.unusedSimpArgs false

/-! ### assentlaw13_StateKeeps: function 7 -/
mutual
def assentlaw13_StateKeeps.j0 : Nat → Int → Int → Bool → Option (Bool)
  | 0, _, _, _ => none
  | k + 1, x5, x6, x20 => if x20 = true then (assentlaw13_StateKeeps.j1 k 4 x6) else (assentlaw13_StateKeeps.j1 k x5 x6)
def assentlaw13_StateKeeps.j1 : Nat → Int → Int → Option (Bool)
  | 0, _, _ => none
  | k + 1, x5, x6 => (some (([5, 6, 7, 8, 9, 10] : List Int) : List Int)).bind fun y116 => (assentlaw13_StateKeeps.l0 k x5 x6 y116 (y116.length : Int) 0)
def assentlaw13_StateKeeps.l0 : Nat → Int → Int → List Int → Int → Int → Option (Bool)
  | 0, _, _, _, _, _ => none
  | k + 1, x5, x6, x21, x22, x23 => if x23 < x22 then (if 0 ≤ x23 then (if x23 < (x21.length : Int) then ((state_Next.f k x5 (rd x21 x23) x6).bind fun bt120 => (if bt120.2 = true then ((state_Dirty.f x5).bind fun t122 => (if t122 = true then ((state_Dirty.f x5).bind fun t123 => (if t123 = true then (assentlaw13_StateKeeps.j3 k x5 x6 (rd x21 x23) bt120.1 x21 x22 x23 false) else (assentlaw13_StateKeeps.j3 k x5 x6 (rd x21 x23) bt120.1 x21 x22 x23 false))) else (assentlaw13_StateKeeps.j3 k x5 x6 (rd x21 x23) bt120.1 x21 x22 x23 true))) else ((state_Dirty.f x5).bind fun t124 => (if t124 = true then ((state_Dirty.f bt120.1).bind fun t125 => (assentlaw13_StateKeeps.j3 k x5 x6 (rd x21 x23) bt120.1 x21 x22 x23 (!t125))) else (assentlaw13_StateKeeps.j3 k x5 x6 (rd x21 x23) bt120.1 x21 x22 x23 false))))) else (none)) else (none)) else ((state_Reads.f x5).bind fun t131 => (if t131 = true then ((state_Writes.f x5).bind fun t132 => (if t132 = true then ((state_Legal.f x5 1).bind fun t133 => (if t133 = true then (some false) else ((assentlaw13_StateRuns.f k).bind fun t134 => (some t134)))) else ((assentlaw13_StateRuns.f k).bind fun t135 => (some t135)))) else (some false)))
def assentlaw13_StateKeeps.j3 : Nat → Int → Int → Int → Int → List Int → Int → Int → Bool → Option (Bool)
  | 0, _, _, _, _, _, _, _, _ => none
  | k + 1, x5, x6, x8, x9, x21, x22, x23, x52 => if x52 = true then (some false) else (if x8 = 5 then ((state_Grant.f 1 false).bind fun t126 => ((state_Legal.f x9 t126).bind fun t127 => (if t127 = true then (if x8 = 9 then (assentlaw13_StateKeeps.j4 k x5 x6 x8 x9 x21 x22 x23 (x9 != 1)) else (assentlaw13_StateKeeps.j4 k x5 x6 x8 x9 x21 x22 x23 false)) else (if x9 = 0 then (if x8 = 9 then (assentlaw13_StateKeeps.j4 k x5 x6 x8 x9 x21 x22 x23 (x9 != 1)) else (assentlaw13_StateKeeps.j4 k x5 x6 x8 x9 x21 x22 x23 false)) else (assentlaw13_StateKeeps.j4 k x5 x6 x8 x9 x21 x22 x23 true))))) else (if x8 = 9 then (assentlaw13_StateKeeps.j4 k x5 x6 x8 x9 x21 x22 x23 (x9 != 1)) else (assentlaw13_StateKeeps.j4 k x5 x6 x8 x9 x21 x22 x23 false)))
def assentlaw13_StateKeeps.j4 : Nat → Int → Int → Int → Int → List Int → Int → Int → Bool → Option (Bool)
  | 0, _, _, _, _, _, _, _, _ => none
  | k + 1, x5, x6, x8, x9, x21, x22, x23, x72 => if x72 = true then (some false) else (if x8 = 6 then (if x9 = 0 then ((state_Legal.f x9 4).bind fun t128 => (if t128 = true then (if x8 = 7 then (assentlaw13_StateKeeps.j5 k x5 x6 x8 x9 x21 x22 x23 (x9 != x5)) else (if x8 = 8 then (assentlaw13_StateKeeps.j5 k x5 x6 x8 x9 x21 x22 x23 (x9 != x5)) else (assentlaw13_StateKeeps.j5 k x5 x6 x8 x9 x21 x22 x23 false))) else (assentlaw13_StateKeeps.j5 k x5 x6 x8 x9 x21 x22 x23 true))) else (assentlaw13_StateKeeps.j5 k x5 x6 x8 x9 x21 x22 x23 true)) else (if x8 = 10 then (if x9 = 0 then ((state_Legal.f x9 4).bind fun t129 => (if t129 = true then (if x8 = 7 then (assentlaw13_StateKeeps.j5 k x5 x6 x8 x9 x21 x22 x23 (x9 != x5)) else (if x8 = 8 then (assentlaw13_StateKeeps.j5 k x5 x6 x8 x9 x21 x22 x23 (x9 != x5)) else (assentlaw13_StateKeeps.j5 k x5 x6 x8 x9 x21 x22 x23 false))) else (assentlaw13_StateKeeps.j5 k x5 x6 x8 x9 x21 x22 x23 true))) else (assentlaw13_StateKeeps.j5 k x5 x6 x8 x9 x21 x22 x23 true)) else (if x8 = 7 then (assentlaw13_StateKeeps.j5 k x5 x6 x8 x9 x21 x22 x23 (x9 != x5)) else (if x8 = 8 then (assentlaw13_StateKeeps.j5 k x5 x6 x8 x9 x21 x22 x23 (x9 != x5)) else (assentlaw13_StateKeeps.j5 k x5 x6 x8 x9 x21 x22 x23 false)))))
def assentlaw13_StateKeeps.j5 : Nat → Int → Int → Int → Int → List Int → Int → Int → Bool → Option (Bool)
  | 0, _, _, _, _, _, _, _, _ => none
  | k + 1, x5, x6, x8, x9, x21, x22, x23, x100 => if x100 = true then (some false) else (if x8 = 5 then ((state_Writes.f x9).bind fun t130 => (if t130 = true then (some false) else (assentlaw13_StateKeeps.l0 k x5 x6 x21 x22 (wrap64 (x23 + 1))))) else (assentlaw13_StateKeeps.l0 k x5 x6 x21 x22 (wrap64 (x23 + 1))))
end
def assentlaw13_StateKeeps.f (k : Nat) (a0 : Int) (a1 : Int) : Option (Bool) := (assentbook_Within.f a0 1 4).bind fun t114 => ((assentbook_Within.f a1 0 3).bind fun t115 => (if t114 < 1 then (assentlaw13_StateKeeps.j0 k t114 t115 true) else (assentlaw13_StateKeeps.j0 k t114 t115 (decide (t114 > 4)))))
theorem assentlaw13_StateKeeps.mono_l : ∀ k, (∀ y0 y1 y2, LeO (assentlaw13_StateKeeps.j0 k y0 y1 y2) (assentlaw13_StateKeeps.j0 (k + 1) y0 y1 y2)) ∧ (∀ y0 y1, LeO (assentlaw13_StateKeeps.j1 k y0 y1) (assentlaw13_StateKeeps.j1 (k + 1) y0 y1)) ∧ (∀ y0 y1 y2 y3 y4, LeO (assentlaw13_StateKeeps.l0 k y0 y1 y2 y3 y4) (assentlaw13_StateKeeps.l0 (k + 1) y0 y1 y2 y3 y4)) ∧ (∀ y0 y1 y2 y3 y4 y5 y6 y7, LeO (assentlaw13_StateKeeps.j3 k y0 y1 y2 y3 y4 y5 y6 y7) (assentlaw13_StateKeeps.j3 (k + 1) y0 y1 y2 y3 y4 y5 y6 y7)) ∧ (∀ y0 y1 y2 y3 y4 y5 y6 y7, LeO (assentlaw13_StateKeeps.j4 k y0 y1 y2 y3 y4 y5 y6 y7) (assentlaw13_StateKeeps.j4 (k + 1) y0 y1 y2 y3 y4 y5 y6 y7)) ∧ (∀ y0 y1 y2 y3 y4 y5 y6 y7, LeO (assentlaw13_StateKeeps.j5 k y0 y1 y2 y3 y4 y5 y6 y7) (assentlaw13_StateKeeps.j5 (k + 1) y0 y1 y2 y3 y4 y5 y6 y7))
  | 0 => ⟨fun _ _ _ r h => by simp [assentlaw13_StateKeeps.j0] at h, fun _ _ r h => by simp [assentlaw13_StateKeeps.j1] at h, fun _ _ _ _ _ r h => by simp [assentlaw13_StateKeeps.l0] at h, fun _ _ _ _ _ _ _ _ r h => by simp [assentlaw13_StateKeeps.j3] at h, fun _ _ _ _ _ _ _ _ r h => by simp [assentlaw13_StateKeeps.j4] at h, fun _ _ _ _ _ _ _ _ r h => by simp [assentlaw13_StateKeeps.j5] at h⟩
  | k + 1 => by
    obtain ⟨ih0, ih1, ih2, ih3, ih4, ih5⟩ := assentlaw13_StateKeeps.mono_l k
    refine ⟨?_, ?_, ?_, ?_, ?_, ?_⟩
    · intro y0 y1 y2
      unfold assentlaw13_StateKeeps.j0
      repeat' first
      | (with_reducible exact ih0 _ _ _)
      | (with_reducible exact ih1 _ _)
      | (with_reducible exact ih2 _ _ _ _ _)
      | (with_reducible exact ih3 _ _ _ _ _ _ _ _)
      | (with_reducible exact ih4 _ _ _ _ _ _ _ _)
      | (with_reducible exact ih5 _ _ _ _ _ _ _ _)
      | (with_reducible exact assentlaw13_StateRuns.mono _)
      | (with_reducible exact state_Next.mono _ _ _ _)
      | (with_reducible exact LeO.refl _)
      | (with_reducible exact LeO.none _)
      | (with_reducible refine LeO.ite ?_ ?_)
      | (with_reducible refine LeO.bind ?_ (fun _ => ?_))
      | exact ih0 _ _ _
      | exact ih1 _ _
      | exact ih2 _ _ _ _ _
      | exact ih3 _ _ _ _ _ _ _ _
      | exact ih4 _ _ _ _ _ _ _ _
      | exact ih5 _ _ _ _ _ _ _ _
      | exact assentlaw13_StateRuns.mono _
      | exact state_Next.mono _ _ _ _
      | exact LeO.none _
      | refine LeO.ite ?_ ?_
      | refine LeO.bind ?_ (fun _ => ?_)
    · intro y0 y1
      unfold assentlaw13_StateKeeps.j1
      repeat' first
      | (with_reducible exact ih0 _ _ _)
      | (with_reducible exact ih1 _ _)
      | (with_reducible exact ih2 _ _ _ _ _)
      | (with_reducible exact ih3 _ _ _ _ _ _ _ _)
      | (with_reducible exact ih4 _ _ _ _ _ _ _ _)
      | (with_reducible exact ih5 _ _ _ _ _ _ _ _)
      | (with_reducible exact assentlaw13_StateRuns.mono _)
      | (with_reducible exact state_Next.mono _ _ _ _)
      | (with_reducible exact LeO.refl _)
      | (with_reducible exact LeO.none _)
      | (with_reducible refine LeO.ite ?_ ?_)
      | (with_reducible refine LeO.bind ?_ (fun _ => ?_))
      | exact ih0 _ _ _
      | exact ih1 _ _
      | exact ih2 _ _ _ _ _
      | exact ih3 _ _ _ _ _ _ _ _
      | exact ih4 _ _ _ _ _ _ _ _
      | exact ih5 _ _ _ _ _ _ _ _
      | exact assentlaw13_StateRuns.mono _
      | exact state_Next.mono _ _ _ _
      | exact LeO.none _
      | refine LeO.ite ?_ ?_
      | refine LeO.bind ?_ (fun _ => ?_)
    · intro y0 y1 y2 y3 y4
      unfold assentlaw13_StateKeeps.l0
      repeat' first
      | (with_reducible exact ih0 _ _ _)
      | (with_reducible exact ih1 _ _)
      | (with_reducible exact ih2 _ _ _ _ _)
      | (with_reducible exact ih3 _ _ _ _ _ _ _ _)
      | (with_reducible exact ih4 _ _ _ _ _ _ _ _)
      | (with_reducible exact ih5 _ _ _ _ _ _ _ _)
      | (with_reducible exact assentlaw13_StateRuns.mono _)
      | (with_reducible exact state_Next.mono _ _ _ _)
      | (with_reducible exact LeO.refl _)
      | (with_reducible exact LeO.none _)
      | (with_reducible refine LeO.ite ?_ ?_)
      | (with_reducible refine LeO.bind ?_ (fun _ => ?_))
      | exact ih0 _ _ _
      | exact ih1 _ _
      | exact ih2 _ _ _ _ _
      | exact ih3 _ _ _ _ _ _ _ _
      | exact ih4 _ _ _ _ _ _ _ _
      | exact ih5 _ _ _ _ _ _ _ _
      | exact assentlaw13_StateRuns.mono _
      | exact state_Next.mono _ _ _ _
      | exact LeO.none _
      | refine LeO.ite ?_ ?_
      | refine LeO.bind ?_ (fun _ => ?_)
    · intro y0 y1 y2 y3 y4 y5 y6 y7
      unfold assentlaw13_StateKeeps.j3
      repeat' first
      | (with_reducible exact ih0 _ _ _)
      | (with_reducible exact ih1 _ _)
      | (with_reducible exact ih2 _ _ _ _ _)
      | (with_reducible exact ih3 _ _ _ _ _ _ _ _)
      | (with_reducible exact ih4 _ _ _ _ _ _ _ _)
      | (with_reducible exact ih5 _ _ _ _ _ _ _ _)
      | (with_reducible exact assentlaw13_StateRuns.mono _)
      | (with_reducible exact state_Next.mono _ _ _ _)
      | (with_reducible exact LeO.refl _)
      | (with_reducible exact LeO.none _)
      | (with_reducible refine LeO.ite ?_ ?_)
      | (with_reducible refine LeO.bind ?_ (fun _ => ?_))
      | exact ih0 _ _ _
      | exact ih1 _ _
      | exact ih2 _ _ _ _ _
      | exact ih3 _ _ _ _ _ _ _ _
      | exact ih4 _ _ _ _ _ _ _ _
      | exact ih5 _ _ _ _ _ _ _ _
      | exact assentlaw13_StateRuns.mono _
      | exact state_Next.mono _ _ _ _
      | exact LeO.none _
      | refine LeO.ite ?_ ?_
      | refine LeO.bind ?_ (fun _ => ?_)
    · intro y0 y1 y2 y3 y4 y5 y6 y7
      unfold assentlaw13_StateKeeps.j4
      repeat' first
      | (with_reducible exact ih0 _ _ _)
      | (with_reducible exact ih1 _ _)
      | (with_reducible exact ih2 _ _ _ _ _)
      | (with_reducible exact ih3 _ _ _ _ _ _ _ _)
      | (with_reducible exact ih4 _ _ _ _ _ _ _ _)
      | (with_reducible exact ih5 _ _ _ _ _ _ _ _)
      | (with_reducible exact assentlaw13_StateRuns.mono _)
      | (with_reducible exact state_Next.mono _ _ _ _)
      | (with_reducible exact LeO.refl _)
      | (with_reducible exact LeO.none _)
      | (with_reducible refine LeO.ite ?_ ?_)
      | (with_reducible refine LeO.bind ?_ (fun _ => ?_))
      | exact ih0 _ _ _
      | exact ih1 _ _
      | exact ih2 _ _ _ _ _
      | exact ih3 _ _ _ _ _ _ _ _
      | exact ih4 _ _ _ _ _ _ _ _
      | exact ih5 _ _ _ _ _ _ _ _
      | exact assentlaw13_StateRuns.mono _
      | exact state_Next.mono _ _ _ _
      | exact LeO.none _
      | refine LeO.ite ?_ ?_
      | refine LeO.bind ?_ (fun _ => ?_)
    · intro y0 y1 y2 y3 y4 y5 y6 y7
      unfold assentlaw13_StateKeeps.j5
      repeat' first
      | (with_reducible exact ih0 _ _ _)
      | (with_reducible exact ih1 _ _)
      | (with_reducible exact ih2 _ _ _ _ _)
      | (with_reducible exact ih3 _ _ _ _ _ _ _ _)
      | (with_reducible exact ih4 _ _ _ _ _ _ _ _)
      | (with_reducible exact ih5 _ _ _ _ _ _ _ _)
      | (with_reducible exact assentlaw13_StateRuns.mono _)
      | (with_reducible exact state_Next.mono _ _ _ _)
      | (with_reducible exact LeO.refl _)
      | (with_reducible exact LeO.none _)
      | (with_reducible refine LeO.ite ?_ ?_)
      | (with_reducible refine LeO.bind ?_ (fun _ => ?_))
      | exact ih0 _ _ _
      | exact ih1 _ _
      | exact ih2 _ _ _ _ _
      | exact ih3 _ _ _ _ _ _ _ _
      | exact ih4 _ _ _ _ _ _ _ _
      | exact ih5 _ _ _ _ _ _ _ _
      | exact assentlaw13_StateRuns.mono _
      | exact state_Next.mono _ _ _ _
      | exact LeO.none _
      | refine LeO.ite ?_ ?_
      | refine LeO.bind ?_ (fun _ => ?_)
theorem assentlaw13_StateKeeps.mono : ∀ a0 a1 k, LeO (assentlaw13_StateKeeps.f k a0 a1) (assentlaw13_StateKeeps.f (k + 1) a0 a1) := by
  intro a0 a1 k
  obtain ⟨ih0, ih1, ih2, ih3, ih4, ih5⟩ := assentlaw13_StateKeeps.mono_l k
  unfold assentlaw13_StateKeeps.f
  repeat' first
      | (with_reducible exact ih0 _ _ _)
      | (with_reducible exact ih1 _ _)
      | (with_reducible exact ih2 _ _ _ _ _)
      | (with_reducible exact ih3 _ _ _ _ _ _ _ _)
      | (with_reducible exact ih4 _ _ _ _ _ _ _ _)
      | (with_reducible exact ih5 _ _ _ _ _ _ _ _)
      | (with_reducible exact assentlaw13_StateRuns.mono _)
      | (with_reducible exact state_Next.mono _ _ _ _)
      | (with_reducible exact LeO.refl _)
      | (with_reducible exact LeO.none _)
      | (with_reducible refine LeO.ite ?_ ?_)
      | (with_reducible refine LeO.bind ?_ (fun _ => ?_))
      | exact ih0 _ _ _
      | exact ih1 _ _
      | exact ih2 _ _ _ _ _
      | exact ih3 _ _ _ _ _ _ _ _
      | exact ih4 _ _ _ _ _ _ _ _
      | exact ih5 _ _ _ _ _ _ _ _
      | exact assentlaw13_StateRuns.mono _
      | exact state_Next.mono _ _ _ _
      | exact LeO.none _
      | refine LeO.ite ?_ ?_
      | refine LeO.bind ?_ (fun _ => ?_)
set_option maxHeartbeats 8000000 in
set_option maxRecDepth 100000 in
theorem assentlaw13_StateKeeps.calls (k : Nat) (a0 : Int) (a1 : Int) (r : Bool) (w : World) (h : assentlaw13_StateKeeps.f k a0 a1 = some r) :
    Calls Try.prog 7 #[.int .i64 a0, .int .i64 a1] w fun e w' => e = .returned (.bool r) ∧ Below w.heap.size w w' := by
  have HB := Aside0.mk (Below.refl w.heap.size w)
  have H : ((assentbook_Within.f a0 1 4).bind fun t114 => ((assentbook_Within.f a1 0 3).bind fun t115 => (if t114 < 1 then (assentlaw13_StateKeeps.j0 k t114 t115 true) else (assentlaw13_StateKeeps.j0 k t114 t115 (decide (t114 > 4)))))) = some r := h
  clear h
  replace H := Option.bind_eq_some_iff.mp H
  obtain ⟨t114, A30, H⟩ := H
  replace H : ((assentbook_Within.f a1 0 3).bind fun t115 => (if t114 < 1 then (assentlaw13_StateKeeps.j0 k t114 t115 true) else (assentlaw13_StateKeeps.j0 k t114 t115 (decide (t114 > 4))))) = some r := H
  have A3 := Aside0.mk A30
  clear A30
  replace H := Option.bind_eq_some_iff.mp H
  obtain ⟨t115, A40, H⟩ := H
  replace H : (if t114 < 1 then (assentlaw13_StateKeeps.j0 k t114 t115 true) else (assentlaw13_StateKeeps.j0 k t114 t115 (decide (t114 > 4)))) = some r := H
  have A4 := Aside0.mk A40
  clear A40
  have HC5 := Aside0.mk H
  clear H
  go_enter Try.func7, Try.ntmps7
  go_upto_region 2 with (first | ((with_reducible refine gate_callee (f := 13) rfl ?_); refine goesL_ (some 12) rfl rfl Try.func13 (by kernel_rfl) rfl #[.int .i64 a0, .int .i64 1, .int .i64 4] rfl (by (try simp only [List.map_toArray, List.map_cons, List.map_nil]); first | done | rfl | (simp only [List.length_drop, List.length_take]; rfl)) ?_; (with_reducible refine (assentbook_Within.calls a0 1 4 t114 _ A3.out).mono ?_); rintro e w' ⟨rfl, ⟨nd, rfl⟩⟩; refine ⟨_, rfl, ?_⟩) | ((with_reducible refine gate_callee (f := 13) rfl ?_); refine goesL_ (some 14) rfl rfl Try.func13 (by kernel_rfl) rfl #[.int .i64 a1, .int .i64 0, .int .i64 3] rfl (by (try simp only [List.map_toArray, List.map_cons, List.map_nil]); first | done | rfl | (simp only [List.length_drop, List.length_take]; rfl)) ?_; (with_reducible refine (assentbook_Within.calls a1 0 3 t115 _ A4.out).mono ?_); rintro e w' ⟨rfl, ⟨nd, rfl⟩⟩; refine ⟨_, rfl, ?_⟩))
  (try simp only [Act.put, List.setIfInBounds_toArray, List.set_cons_zero, List.set_cons_succ])
  go_cut [20] (fun v20 wc => ∃ (kq : Nat) (x20_4 : Bool), v20 = .bool x20_4 ∧ Aside0 (assentlaw13_StateKeeps.j0 kq t114 t115 x20_4 = some r) ∧ Aside0 (kq ≤ k) ∧ Aside0 (Below w.heap.size w wc))
  case first =>
    have H := HC5.out
    clear HC5
    by_cases c6 : t114 < 1
    · rw [if_pos c6] at H
      have c6b0 : decide (t114 < 1) = true := decide_eq_true c6
      clear c6
      (first | rw [c6b0] | (simp only [i64_w, i32_w]; rw [c6b0]) | skip)
      have H' := Aside0.mk H
      clear H
      go_wp2
      go_meet
      case rel => exact ⟨_, (true), (by first | rfl | (simp; done) | (simp [*]; done)), H', ⟨by first | omega | exact Nat.le_refl _⟩, ⟨by repeat (first | (with_reducible first | exact HB.out | apply below_alloc | apply pw_below_drewN | apply below_drew1) | exact HB.out)⟩⟩
    · rw [if_neg c6] at H
      have c6b0 : decide (t114 < 1) = false := decide_eq_false c6
      clear c6
      (first | rw [c6b0] | (simp only [i64_w, i32_w]; rw [c6b0]) | skip)
      have H' := Aside0.mk H
      clear H
      go_wp2
      go_meet
      case rel => exact ⟨_, (decide (t114 > 4)), (by first | rfl | (simp; done) | (simp [*]; done)), H', ⟨by first | omega | exact Nat.le_refl _⟩, ⟨by repeat (first | (with_reducible first | exact HB.out | apply below_alloc | apply pw_below_drewN | apply below_drew1) | exact HB.out)⟩⟩
  case rest =>
    clear HC5
    try clear c1
    try clear p2
    try clear c6
    try clear c6b0
    obtain ⟨kq, x20_4, rfl, HA, HJ4, HB⟩ := hcut
    cases kq with
    | zero => exact absurd HA.out (by simp [assentlaw13_StateKeeps.j0])
    | succ kj4 =>
      have H := HA.out
      clear HA
      simp only [assentlaw13_StateKeeps.j0] at H
      have HC7 := Aside0.mk H
      clear H
      go_upto_if 20 with (fail)
      go_cut [5] (fun v5 wc => ∃ (kq : Nat) (x5_6 : Int), v5 = .int .i64 x5_6 ∧ Aside0 (assentlaw13_StateKeeps.j1 kq x5_6 t115 = some r) ∧ Aside0 (kq ≤ kj4) ∧ Aside0 (Below w.heap.size w wc))
      case first =>
        have H := HC7.out
        clear HC7
        by_cases c8 : x20_4 = true
        · subst c8
          have H1 : (assentlaw13_StateKeeps.j1 kj4 4 t115) = some r := by rw [if_pos rfl] at H; exact H
          clear H
          have H := H1
          clear H1
          have H' := Aside0.mk H
          clear H
          go_wp2
          go_meet
          case rel => exact ⟨_, (4), (by first | rfl | (simp; done) | (simp [*]; done)), H', ⟨by have := HJ4.out; first | omega | exact Nat.le_refl _⟩, ⟨by repeat (first | (with_reducible first | exact HB.out | apply below_alloc | apply pw_below_drewN | apply below_drew1) | exact HB.out)⟩⟩
        · replace c8 := Bool.eq_false_iff.mpr c8
          subst c8
          have H1 : (assentlaw13_StateKeeps.j1 kj4 t114 t115) = some r := by rw [if_neg (show ¬ (false = true) by decide)] at H; exact H
          clear H
          have H := H1
          clear H1
          have H' := Aside0.mk H
          clear H
          go_wp2
          go_meet
          case rel => exact ⟨_, (t114), (by first | rfl | (simp; done) | (simp [*]; done)), H', ⟨by have := HJ4.out; first | omega | exact Nat.le_refl _⟩, ⟨by repeat (first | (with_reducible first | exact HB.out | apply below_alloc | apply pw_below_drewN | apply below_drew1) | exact HB.out)⟩⟩
      case rest =>
        clear HC7
        try clear c1
        try clear p2
        try clear c6
        try clear c6b0
        try clear c7
        try clear c8
        try clear p2
        obtain ⟨kq, x5_6, rfl, HA, HJ6, HB⟩ := hcut
        cases kq with
        | zero => exact absurd HA.out (by simp [assentlaw13_StateKeeps.j1])
        | succ kj6 =>
          have H := HA.out
          clear HA
          simp only [assentlaw13_StateKeeps.j1] at H
          obtain ⟨y116, hy116⟩ : ∃ y_ : List Int, y_ = (([5, 6, 7, 8, 9, 10] : List Int)) := ⟨_, rfl⟩
          replace H : (assentlaw13_StateKeeps.l0 kj6 x5_6 t115 y116 (y116.length : Int) 0) = some r := by first | (rw [hy116]; with_reducible exact H) | (have H2_ := (Option.bind_some _ _).symm.trans H; rw [hy116]; with_reducible exact H2_) | (have H2_ := (Option.bind_some _ _).symm.trans H; with_reducible exact H2_) | with_reducible exact H | (rw [hy116]; exact H) | exact H
          have Ny116 := Aside0.mk hy116
          clear hy116
          have H' := Aside0.mk H
          clear H
          go_wp2_with (first | ((with_reducible refine gate_dst (N := 21) rfl ?_); refine Kd.R_lit (Kd.int .i64) _ 3 ?hg (N := 21) ?hd (xs := ([5, 6, 7, 8, 9, 10] : List Int)) (inner := [.int .i64 5, .int .i64 6, .int .i64 7, .int .i64 8, .int .i64 9, .int .i64 10]) (ok := fun _ => True) (okp := fun _ => True) ?hr ?hp (fun _ hk => hk) trivial (Below.refl _ _) (Nat.le_refl _) (by simp) ?_; (case hd => rfl); (case hg => rfl); (case hr => first | (go_simp; done) | (go_simp; rfl)); (case hp => exact (Reps.one (show Kd.M (Kd.int .i64) _ _ _ 5 [.int .i64 5] from rfl) (Reps.one (show Kd.M (Kd.int .i64) _ _ _ 6 [.int .i64 6] from rfl) (Reps.one (show Kd.M (Kd.int .i64) _ _ _ 7 [.int .i64 7] from rfl) (Reps.one (show Kd.M (Kd.int .i64) _ _ _ 8 [.int .i64 8] from rfl) (Reps.one (show Kd.M (Kd.int .i64) _ _ _ 9 [.int .i64 9] from rfl) (Reps.one (show Kd.M (Kd.int .i64) _ _ _ 10 [.int .i64 10] from rfl) (Reps.none _ _)))))))); intro v117 w9 ho10 hb hg_ hnew_; clear hg_ hnew_; (first | rw [← Ny116.out] at ho10 | (simp only [Int.reduceToNat] at ho10; rw [← Ny116.out] at ho10)); have n0_ := Aside0.mk (Kd.R_lower ho10 (below_size (by repeat (first | (with_reducible first | exact HB.out | apply below_alloc | apply pw_below_drewN | apply below_drew1) | exact HB.out)))); have n1_ := Aside0.mk (below_step (by repeat (first | (with_reducible first | exact HB.out | apply below_alloc | apply pw_below_drewN | apply below_drew1) | exact HB.out)) hb); clear HB; have HO118 := n0_; have HB := n1_; clear n0_ n1_; clear hb ho10; obtain ⟨Ao11, co11, eo11⟩ := Kd.R_slice HO118.out; subst eo11))
          go_loopg [23] kj6 (fun kq v23 w' => ∃ (x23_3 : Int), v23 = .int .i64 x23_3 ∧ Aside0 (assentlaw13_StateKeeps.l0 kq x5_6 t115 y116 (y116.length : Int) x23_3 = some r) ∧ Aside0 (kq ≤ kj6) ∧ Aside0 (Kd.R (Kd.int .i64) 3 w' w.heap.size (fun _ => True) (.slice Ao11 y116.length co11) y116) ∧ Aside0 (Below w.heap.size w w'))
          case atStart => exact ⟨(0), (by first | rfl | (simp; done) | (simp [*]; done)), H', ⟨Nat.le_refl _⟩, ⟨by (with_reducible repeat (first | apply Kd.R_alloc | apply Kd.R_drewN | apply Kd.R_drew)); exact HO118.out⟩, ⟨by repeat (first | (with_reducible first | exact HB.out | apply below_alloc | apply pw_below_drewN | apply below_drew1) | exact HB.out)⟩⟩
          case round =>
            clear H'
            try clear c1
            try clear p2
            try clear c6
            try clear c6b0
            try clear c7
            try clear c8
            try clear p2
            obtain ⟨x23_3, rfl, HA, HK3, HO_21, HB⟩ := hrel
            cases gk with
            | zero => exact absurd HA.out (by simp [assentlaw13_StateKeeps.l0])
            | succ k3 =>
              have H := HA.out
              clear HA
              simp only [assentlaw13_StateKeeps.l0] at H
              by_cases c12 : x23_3 < (y116.length : Int)
              · rw [if_pos c12] at H
                have c12b0 : decide (x23_3 < (y116.length : Int)) = true := decide_eq_true c12
                clear c12
                by_cases c13 : 0 ≤ x23_3
                · rw [if_pos c13] at H
                  have c13b0 : decide (0 ≤ x23_3) = true := decide_eq_true c13
                  clear c13
                  by_cases c14 : x23_3 < (y116.length : Int)
                  · rw [if_pos c14] at H
                    have c14b0 : decide (x23_3 < (y116.length : Int)) = true := decide_eq_true c14
                    clear c14
                    replace H := Option.bind_eq_some_iff.mp H
                    obtain ⟨⟨t120, t121⟩, A150, H⟩ := H
                    replace H : (if t121 = true then ((state_Dirty.f x5_6).bind fun t122 => (if t122 = true then ((state_Dirty.f x5_6).bind fun t123 => (if t123 = true then (assentlaw13_StateKeeps.j3 k3 x5_6 t115 (rd y116 x23_3) t120 y116 (y116.length : Int) x23_3 false) else (assentlaw13_StateKeeps.j3 k3 x5_6 t115 (rd y116 x23_3) t120 y116 (y116.length : Int) x23_3 false))) else (assentlaw13_StateKeeps.j3 k3 x5_6 t115 (rd y116 x23_3) t120 y116 (y116.length : Int) x23_3 true))) else ((state_Dirty.f x5_6).bind fun t124 => (if t124 = true then ((state_Dirty.f t120).bind fun t125 => (assentlaw13_StateKeeps.j3 k3 x5_6 t115 (rd y116 x23_3) t120 y116 (y116.length : Int) x23_3 (!t125))) else (assentlaw13_StateKeeps.j3 k3 x5_6 t115 (rd y116 x23_3) t120 y116 (y116.length : Int) x23_3 false)))) = some r := H
                    have A15 := Aside0.mk A150
                    clear A150
                    have HC16 := Aside0.mk H
                    clear H
                    have p119 : 0 ≤ (x23_3 : Int) := of_decide_eq_true (by first | (with_reducible assumption) | assumption)
                    have q119 : x23_3 < (y116.length : Int) := of_decide_eq_true (by first | (with_reducible assumption) | assumption)
                    obtain ⟨ad119, e119, hx119_0⟩ := Kd.at_int (Kd.R_reads' HO_21.out).2.2 x23_3 p119 q119
                    cases e119
                    replace p119 := eq_true p119
                    replace q119 := eq_true q119
                    go_upto_region 8 with (first | ((with_reducible refine gate_callee (f := 14) rfl ?_); refine goesL_ (some 31) rfl rfl Try.func14 (by kernel_rfl) rfl #[.int .i64 x5_6, .int .i64 (rd y116 x23_3), .int .i64 t115] rfl (by (try simp only [List.map_toArray, List.map_cons, List.map_nil]); first | done | rfl | (simp only [List.length_drop, List.length_take]; rfl)) ?_; (with_reducible refine (state_Next.calls k3 x5_6 (rd y116 x23_3) t115 t120 t121 _ A15.out).mono ?_); rintro e w' ⟨rfl, ⟨nd, rfl⟩⟩; refine ⟨_, rfl, ?_⟩))
                    (try simp only [Act.put, List.setIfInBounds_toArray, List.set_cons_zero, List.set_cons_succ])
                    go_cut [52] (fun v52 wc => ∃ (kq : Nat) (x52_15 : Bool), v52 = .bool x52_15 ∧ Aside0 (assentlaw13_StateKeeps.j3 kq x5_6 t115 (rd y116 x23_3) t120 y116 (y116.length : Int) x23_3 x52_15 = some r) ∧ Aside0 (kq ≤ k3) ∧ Aside0 (Kd.R (Kd.int .i64) 3 wc w.heap.size (fun _ => True) (.slice (some ad119) y116.length co11) y116) ∧ Aside0 (Below w.heap.size w wc))
                    case first =>
                      have H := HC16.out
                      clear HC16
                      by_cases c17 : t121 = true
                      · subst c17
                        have H1 : ((state_Dirty.f x5_6).bind fun t122 => (if t122 = true then ((state_Dirty.f x5_6).bind fun t123 => (if t123 = true then (assentlaw13_StateKeeps.j3 k3 x5_6 t115 (rd y116 x23_3) t120 y116 (y116.length : Int) x23_3 false) else (assentlaw13_StateKeeps.j3 k3 x5_6 t115 (rd y116 x23_3) t120 y116 (y116.length : Int) x23_3 false))) else (assentlaw13_StateKeeps.j3 k3 x5_6 t115 (rd y116 x23_3) t120 y116 (y116.length : Int) x23_3 true))) = some r := by rw [if_pos rfl] at H; exact H
                        clear H
                        have H := H1
                        clear H1
                        replace H := Option.bind_eq_some_iff.mp H
                        obtain ⟨t122, A180, H⟩ := H
                        replace H : (if t122 = true then ((state_Dirty.f x5_6).bind fun t123 => (if t123 = true then (assentlaw13_StateKeeps.j3 k3 x5_6 t115 (rd y116 x23_3) t120 y116 (y116.length : Int) x23_3 false) else (assentlaw13_StateKeeps.j3 k3 x5_6 t115 (rd y116 x23_3) t120 y116 (y116.length : Int) x23_3 false))) else (assentlaw13_StateKeeps.j3 k3 x5_6 t115 (rd y116 x23_3) t120 y116 (y116.length : Int) x23_3 true)) = some r := H
                        have A18 := Aside0.mk A180
                        clear A180
                        by_cases c19 : t122 = true
                        · subst c19
                          have H1 : ((state_Dirty.f x5_6).bind fun t123 => (if t123 = true then (assentlaw13_StateKeeps.j3 k3 x5_6 t115 (rd y116 x23_3) t120 y116 (y116.length : Int) x23_3 false) else (assentlaw13_StateKeeps.j3 k3 x5_6 t115 (rd y116 x23_3) t120 y116 (y116.length : Int) x23_3 false))) = some r := by rw [if_pos rfl] at H; exact H
                          clear H
                          have H := H1
                          clear H1
                          replace H := Option.bind_eq_some_iff.mp H
                          obtain ⟨t123, A200, H⟩ := H
                          replace H : (if t123 = true then (assentlaw13_StateKeeps.j3 k3 x5_6 t115 (rd y116 x23_3) t120 y116 (y116.length : Int) x23_3 false) else (assentlaw13_StateKeeps.j3 k3 x5_6 t115 (rd y116 x23_3) t120 y116 (y116.length : Int) x23_3 false)) = some r := H
                          have A20 := Aside0.mk A200
                          clear A200
                          by_cases c21 : t123 = true
                          · subst c21
                            have H1 : (assentlaw13_StateKeeps.j3 k3 x5_6 t115 (rd y116 x23_3) t120 y116 (y116.length : Int) x23_3 false) = some r := by rw [if_pos rfl] at H; exact H
                            clear H
                            have H := H1
                            clear H1
                            have H' := Aside0.mk H
                            clear H
                            go_wp2_with (first | (go_at_call 15; (with_reducible refine (state_Dirty.calls x5_6 true _ A18.out).mono ?_); rintro e w' ⟨rfl, ⟨nd, rfl⟩⟩) | (go_at_call 15; (with_reducible refine (state_Dirty.calls x5_6 true _ A20.out).mono ?_); rintro e w' ⟨rfl, ⟨nd, rfl⟩⟩))
                            go_meet
                            case rel => exact ⟨_, (false), (by first | rfl | (simp; done) | (simp [*]; done)), H', ⟨by have := HJ4.out; have := HJ6.out; have := HK3.out; first | omega | exact Nat.le_refl _⟩, ⟨by (with_reducible repeat (first | apply Kd.R_alloc | apply Kd.R_drewN | apply Kd.R_drew)); exact HO_21.out⟩, ⟨by repeat (first | (with_reducible first | exact HB.out | apply below_alloc | apply pw_below_drewN | apply below_drew1) | exact HB.out)⟩⟩
                          · replace c21 := Bool.eq_false_iff.mpr c21
                            subst c21
                            have H1 : (assentlaw13_StateKeeps.j3 k3 x5_6 t115 (rd y116 x23_3) t120 y116 (y116.length : Int) x23_3 false) = some r := by rw [if_neg (show ¬ (false = true) by decide)] at H; exact H
                            clear H
                            have H := H1
                            clear H1
                            have H' := Aside0.mk H
                            clear H
                            go_wp2_with (first | (go_at_call 15; (with_reducible refine (state_Dirty.calls x5_6 true _ A18.out).mono ?_); rintro e w' ⟨rfl, ⟨nd, rfl⟩⟩) | (go_at_call 15; (with_reducible refine (state_Dirty.calls x5_6 false _ A20.out).mono ?_); rintro e w' ⟨rfl, ⟨nd, rfl⟩⟩))
                            go_meet
                            case rel => exact ⟨_, (false), (by first | rfl | (simp; done) | (simp [*]; done)), H', ⟨by have := HJ4.out; have := HJ6.out; have := HK3.out; first | omega | exact Nat.le_refl _⟩, ⟨by (with_reducible repeat (first | apply Kd.R_alloc | apply Kd.R_drewN | apply Kd.R_drew)); exact HO_21.out⟩, ⟨by repeat (first | (with_reducible first | exact HB.out | apply below_alloc | apply pw_below_drewN | apply below_drew1) | exact HB.out)⟩⟩
                        · replace c19 := Bool.eq_false_iff.mpr c19
                          subst c19
                          have H1 : (assentlaw13_StateKeeps.j3 k3 x5_6 t115 (rd y116 x23_3) t120 y116 (y116.length : Int) x23_3 true) = some r := by rw [if_neg (show ¬ (false = true) by decide)] at H; exact H
                          clear H
                          have H := H1
                          clear H1
                          have H' := Aside0.mk H
                          clear H
                          go_wp2_with (first | (go_at_call 15; (with_reducible refine (state_Dirty.calls x5_6 false _ A18.out).mono ?_); rintro e w' ⟨rfl, ⟨nd, rfl⟩⟩))
                          go_meet
                          case rel => exact ⟨_, (true), (by first | rfl | (simp; done) | (simp [*]; done)), H', ⟨by have := HJ4.out; have := HJ6.out; have := HK3.out; first | omega | exact Nat.le_refl _⟩, ⟨by (with_reducible repeat (first | apply Kd.R_alloc | apply Kd.R_drewN | apply Kd.R_drew)); exact HO_21.out⟩, ⟨by repeat (first | (with_reducible first | exact HB.out | apply below_alloc | apply pw_below_drewN | apply below_drew1) | exact HB.out)⟩⟩
                      · replace c17 := Bool.eq_false_iff.mpr c17
                        subst c17
                        have H1 : ((state_Dirty.f x5_6).bind fun t124 => (if t124 = true then ((state_Dirty.f t120).bind fun t125 => (assentlaw13_StateKeeps.j3 k3 x5_6 t115 (rd y116 x23_3) t120 y116 (y116.length : Int) x23_3 (!t125))) else (assentlaw13_StateKeeps.j3 k3 x5_6 t115 (rd y116 x23_3) t120 y116 (y116.length : Int) x23_3 false))) = some r := by rw [if_neg (show ¬ (false = true) by decide)] at H; exact H
                        clear H
                        have H := H1
                        clear H1
                        replace H := Option.bind_eq_some_iff.mp H
                        obtain ⟨t124, A220, H⟩ := H
                        replace H : (if t124 = true then ((state_Dirty.f t120).bind fun t125 => (assentlaw13_StateKeeps.j3 k3 x5_6 t115 (rd y116 x23_3) t120 y116 (y116.length : Int) x23_3 (!t125))) else (assentlaw13_StateKeeps.j3 k3 x5_6 t115 (rd y116 x23_3) t120 y116 (y116.length : Int) x23_3 false)) = some r := H
                        have A22 := Aside0.mk A220
                        clear A220
                        by_cases c23 : t124 = true
                        · subst c23
                          have H1 : ((state_Dirty.f t120).bind fun t125 => (assentlaw13_StateKeeps.j3 k3 x5_6 t115 (rd y116 x23_3) t120 y116 (y116.length : Int) x23_3 (!t125))) = some r := by rw [if_pos rfl] at H; exact H
                          clear H
                          have H := H1
                          clear H1
                          replace H := Option.bind_eq_some_iff.mp H
                          obtain ⟨t125, A240, H⟩ := H
                          replace H : (assentlaw13_StateKeeps.j3 k3 x5_6 t115 (rd y116 x23_3) t120 y116 (y116.length : Int) x23_3 (!t125)) = some r := H
                          have A24 := Aside0.mk A240
                          clear A240
                          have H' := Aside0.mk H
                          clear H
                          go_wp2_with (first | (go_at_call 15; (with_reducible refine (state_Dirty.calls x5_6 true _ A22.out).mono ?_); rintro e w' ⟨rfl, ⟨nd, rfl⟩⟩) | (go_at_call 15; (with_reducible refine (state_Dirty.calls t120 t125 _ A24.out).mono ?_); rintro e w' ⟨rfl, ⟨nd, rfl⟩⟩))
                          go_meet
                          case rel => exact ⟨_, (!t125), (by first | rfl | (simp; done) | (simp [*]; done)), H', ⟨by have := HJ4.out; have := HJ6.out; have := HK3.out; first | omega | exact Nat.le_refl _⟩, ⟨by (with_reducible repeat (first | apply Kd.R_alloc | apply Kd.R_drewN | apply Kd.R_drew)); exact HO_21.out⟩, ⟨by repeat (first | (with_reducible first | exact HB.out | apply below_alloc | apply pw_below_drewN | apply below_drew1) | exact HB.out)⟩⟩
                        · replace c23 := Bool.eq_false_iff.mpr c23
                          subst c23
                          have H1 : (assentlaw13_StateKeeps.j3 k3 x5_6 t115 (rd y116 x23_3) t120 y116 (y116.length : Int) x23_3 false) = some r := by rw [if_neg (show ¬ (false = true) by decide)] at H; exact H
                          clear H
                          have H := H1
                          clear H1
                          have H' := Aside0.mk H
                          clear H
                          go_wp2_with (first | (go_at_call 15; (with_reducible refine (state_Dirty.calls x5_6 false _ A22.out).mono ?_); rintro e w' ⟨rfl, ⟨nd, rfl⟩⟩))
                          go_meet
                          case rel => exact ⟨_, (false), (by first | rfl | (simp; done) | (simp [*]; done)), H', ⟨by have := HJ4.out; have := HJ6.out; have := HK3.out; first | omega | exact Nat.le_refl _⟩, ⟨by (with_reducible repeat (first | apply Kd.R_alloc | apply Kd.R_drewN | apply Kd.R_drew)); exact HO_21.out⟩, ⟨by repeat (first | (with_reducible first | exact HB.out | apply below_alloc | apply pw_below_drewN | apply below_drew1) | exact HB.out)⟩⟩
                    case rest =>
                      clear HC16
                      try clear c1
                      try clear p1
                      try clear q1
                      try clear hx1
                      try clear c2
                      try clear p2
                      try clear c6
                      try clear c6b0
                      try clear c7
                      try clear c8
                      try clear p11
                      try clear q11
                      try clear hx11
                      try clear c12
                      try clear c12b0
                      try clear c13
                      try clear c13b0
                      try clear c14
                      try clear c14b0
                      try clear c17
                      try clear c19
                      try clear c21
                      try clear c23
                      try clear hx119_0
                      try clear p119
                      try clear p2
                      try clear q119
                      obtain ⟨kq, x52_15, rfl, HA, HJ15, HO_21, HB⟩ := hcut
                      cases kq with
                      | zero => exact absurd HA.out (by simp [assentlaw13_StateKeeps.j3])
                      | succ kj15 =>
                        have H := HA.out
                        clear HA
                        simp only [assentlaw13_StateKeeps.j3] at H
                        by_cases c25 : x52_15 = true
                        · subst c25
                          have H1 : (some false) = some r := by rw [if_pos rfl] at H; exact H
                          clear H
                          have H := H1
                          clear H1
                          obtain rfl := Option.some.inj H
                          go_wp2
                          go_ret
                          exact ⟨by first | rfl | (simp [errW_none, errW_some] <;> rfl) | (simp [*, errW_none, errW_some] <;> rfl), by repeat (first | (with_reducible first | exact HB.out | apply below_alloc | apply pw_below_drewN | apply below_drew1) | exact HB.out)⟩
                        · replace c25 := Bool.eq_false_iff.mpr c25
                          subst c25
                          have H1 : (if (rd y116 x23_3) = 5 then ((state_Grant.f 1 false).bind fun t126 => ((state_Legal.f t120 t126).bind fun t127 => (if t127 = true then (if (rd y116 x23_3) = 9 then (assentlaw13_StateKeeps.j4 kj15 x5_6 t115 (rd y116 x23_3) t120 y116 (y116.length : Int) x23_3 (t120 != 1)) else (assentlaw13_StateKeeps.j4 kj15 x5_6 t115 (rd y116 x23_3) t120 y116 (y116.length : Int) x23_3 false)) else (if t120 = 0 then (if (rd y116 x23_3) = 9 then (assentlaw13_StateKeeps.j4 kj15 x5_6 t115 (rd y116 x23_3) t120 y116 (y116.length : Int) x23_3 (t120 != 1)) else (assentlaw13_StateKeeps.j4 kj15 x5_6 t115 (rd y116 x23_3) t120 y116 (y116.length : Int) x23_3 false)) else (assentlaw13_StateKeeps.j4 kj15 x5_6 t115 (rd y116 x23_3) t120 y116 (y116.length : Int) x23_3 true))))) else (if (rd y116 x23_3) = 9 then (assentlaw13_StateKeeps.j4 kj15 x5_6 t115 (rd y116 x23_3) t120 y116 (y116.length : Int) x23_3 (t120 != 1)) else (assentlaw13_StateKeeps.j4 kj15 x5_6 t115 (rd y116 x23_3) t120 y116 (y116.length : Int) x23_3 false))) = some r := by rw [if_neg (show ¬ (false = true) by decide)] at H; exact H
                          clear H
                          have H := H1
                          clear H1
                          have HC26 := Aside0.mk H
                          clear H
                          go_upto_region 10 with (fail)
                          go_cut [72] (fun v72 wc => ∃ (kq : Nat) (x72_25 : Bool), v72 = .bool x72_25 ∧ Aside0 (assentlaw13_StateKeeps.j4 kq x5_6 t115 (rd y116 x23_3) t120 y116 (y116.length : Int) x23_3 x72_25 = some r) ∧ Aside0 (kq ≤ kj15) ∧ Aside0 (Kd.R (Kd.int .i64) 3 wc w.heap.size (fun _ => True) (.slice (some ad119) y116.length co11) y116) ∧ Aside0 (Below w.heap.size w wc))
                          case first =>
                            have H := HC26.out
                            clear HC26
                            by_cases c27 : (rd y116 x23_3) = 5
                            · rw [if_pos c27] at H
                              have c27b0 : ((rd y116 x23_3) == 5) = true := beq_iff_eq.mpr c27
                              have c27b1 : ((rd y116 x23_3) != 5) = false := bne_eq_false_iff_eq.mpr c27
                              clear c27
                              (first | rw [c27b0] | (simp only [i64_w, i32_w]; rw [c27b0]) | skip)
                              replace H := Option.bind_eq_some_iff.mp H
                              obtain ⟨t126, A280, H⟩ := H
                              replace H : ((state_Legal.f t120 t126).bind fun t127 => (if t127 = true then (if (rd y116 x23_3) = 9 then (assentlaw13_StateKeeps.j4 kj15 x5_6 t115 (rd y116 x23_3) t120 y116 (y116.length : Int) x23_3 (t120 != 1)) else (assentlaw13_StateKeeps.j4 kj15 x5_6 t115 (rd y116 x23_3) t120 y116 (y116.length : Int) x23_3 false)) else (if t120 = 0 then (if (rd y116 x23_3) = 9 then (assentlaw13_StateKeeps.j4 kj15 x5_6 t115 (rd y116 x23_3) t120 y116 (y116.length : Int) x23_3 (t120 != 1)) else (assentlaw13_StateKeeps.j4 kj15 x5_6 t115 (rd y116 x23_3) t120 y116 (y116.length : Int) x23_3 false)) else (assentlaw13_StateKeeps.j4 kj15 x5_6 t115 (rd y116 x23_3) t120 y116 (y116.length : Int) x23_3 true)))) = some r := H
                              have A28 := Aside0.mk A280
                              clear A280
                              replace H := Option.bind_eq_some_iff.mp H
                              obtain ⟨t127, A290, H⟩ := H
                              replace H : (if t127 = true then (if (rd y116 x23_3) = 9 then (assentlaw13_StateKeeps.j4 kj15 x5_6 t115 (rd y116 x23_3) t120 y116 (y116.length : Int) x23_3 (t120 != 1)) else (assentlaw13_StateKeeps.j4 kj15 x5_6 t115 (rd y116 x23_3) t120 y116 (y116.length : Int) x23_3 false)) else (if t120 = 0 then (if (rd y116 x23_3) = 9 then (assentlaw13_StateKeeps.j4 kj15 x5_6 t115 (rd y116 x23_3) t120 y116 (y116.length : Int) x23_3 (t120 != 1)) else (assentlaw13_StateKeeps.j4 kj15 x5_6 t115 (rd y116 x23_3) t120 y116 (y116.length : Int) x23_3 false)) else (assentlaw13_StateKeeps.j4 kj15 x5_6 t115 (rd y116 x23_3) t120 y116 (y116.length : Int) x23_3 true))) = some r := H
                              have A29 := Aside0.mk A290
                              clear A290
                              by_cases c30 : t127 = true
                              · subst c30
                                have H1 : (if (rd y116 x23_3) = 9 then (assentlaw13_StateKeeps.j4 kj15 x5_6 t115 (rd y116 x23_3) t120 y116 (y116.length : Int) x23_3 (t120 != 1)) else (assentlaw13_StateKeeps.j4 kj15 x5_6 t115 (rd y116 x23_3) t120 y116 (y116.length : Int) x23_3 false)) = some r := by rw [if_pos rfl] at H; exact H
                                clear H
                                have H := H1
                                clear H1
                                by_cases c31 : (rd y116 x23_3) = 9
                                · rw [if_pos c31] at H
                                  have c31b0 : ((rd y116 x23_3) == 9) = true := beq_iff_eq.mpr c31
                                  have c31b1 : ((rd y116 x23_3) != 9) = false := bne_eq_false_iff_eq.mpr c31
                                  clear c31
                                  have H' := Aside0.mk H
                                  clear H
                                  go_wp2_with (first | (go_at_call 12; (with_reducible refine (state_Grant.calls 1 false t126 _ A28.out).mono ?_); rintro e w' ⟨rfl, ⟨nd, rfl⟩⟩) | (go_at_call 11; (with_reducible refine (state_Legal.calls t120 t126 true _ A29.out).mono ?_); rintro e w32 ⟨rfl, hb⟩; have n0_ := Aside0.mk (Kd.R_below (by (with_reducible repeat (first | apply Kd.R_alloc | apply Kd.R_drewN | apply Kd.R_drew)); exact HO_21.out) hb); have n1_ := Aside0.mk (below_step (by repeat (first | (with_reducible first | exact HB.out | apply below_alloc | apply pw_below_drewN | apply below_drew1) | exact HB.out)) hb); clear HO_21; clear HB; have HO_21 := n0_; have HB := n1_; clear n0_ n1_; (try clear hb); (try clear hb2); (try clear hk); (try clear hi)))
                                  go_meet
                                  case rel => exact ⟨_, ((t120 != 1)), (by first | rfl | (simp; done) | (simp [*]; done)), H', ⟨by have := HJ4.out; have := HJ6.out; have := HK3.out; have := HJ15.out; first | omega | exact Nat.le_refl _⟩, ⟨by (with_reducible repeat (first | apply Kd.R_alloc | apply Kd.R_drewN | apply Kd.R_drew)); exact HO_21.out⟩, ⟨by repeat (first | (with_reducible first | exact HB.out | apply below_alloc | apply pw_below_drewN | apply below_drew1) | exact HB.out)⟩⟩
                                · rw [if_neg c31] at H
                                  have c31b0 : ((rd y116 x23_3) == 9) = false := beq_eq_false_iff_ne.mpr c31
                                  have c31b1 : ((rd y116 x23_3) != 9) = true := bne_iff_ne.mpr c31
                                  have H' := Aside0.mk H
                                  clear H
                                  go_wp2_with (first | (go_at_call 12; (with_reducible refine (state_Grant.calls 1 false t126 _ A28.out).mono ?_); rintro e w' ⟨rfl, ⟨nd, rfl⟩⟩) | (go_at_call 11; (with_reducible refine (state_Legal.calls t120 t126 true _ A29.out).mono ?_); rintro e w33 ⟨rfl, hb⟩; have n0_ := Aside0.mk (Kd.R_below (by (with_reducible repeat (first | apply Kd.R_alloc | apply Kd.R_drewN | apply Kd.R_drew)); exact HO_21.out) hb); have n1_ := Aside0.mk (below_step (by repeat (first | (with_reducible first | exact HB.out | apply below_alloc | apply pw_below_drewN | apply below_drew1) | exact HB.out)) hb); clear HO_21; clear HB; have HO_21 := n0_; have HB := n1_; clear n0_ n1_; (try clear hb); (try clear hb2); (try clear hk); (try clear hi)))
                                  go_meet
                                  case rel => exact ⟨_, (false), (by first | rfl | (simp; done) | (simp [*]; done)), H', ⟨by have := HJ4.out; have := HJ6.out; have := HK3.out; have := HJ15.out; first | omega | exact Nat.le_refl _⟩, ⟨by (with_reducible repeat (first | apply Kd.R_alloc | apply Kd.R_drewN | apply Kd.R_drew)); exact HO_21.out⟩, ⟨by repeat (first | (with_reducible first | exact HB.out | apply below_alloc | apply pw_below_drewN | apply below_drew1) | exact HB.out)⟩⟩
                              · replace c30 := Bool.eq_false_iff.mpr c30
                                subst c30
                                have H1 : (if t120 = 0 then (if (rd y116 x23_3) = 9 then (assentlaw13_StateKeeps.j4 kj15 x5_6 t115 (rd y116 x23_3) t120 y116 (y116.length : Int) x23_3 (t120 != 1)) else (assentlaw13_StateKeeps.j4 kj15 x5_6 t115 (rd y116 x23_3) t120 y116 (y116.length : Int) x23_3 false)) else (assentlaw13_StateKeeps.j4 kj15 x5_6 t115 (rd y116 x23_3) t120 y116 (y116.length : Int) x23_3 true)) = some r := by rw [if_neg (show ¬ (false = true) by decide)] at H; exact H
                                clear H
                                have H := H1
                                clear H1
                                by_cases c34 : t120 = 0
                                · rw [if_pos c34] at H
                                  have c34b0 : (t120 == 0) = true := beq_iff_eq.mpr c34
                                  have c34b1 : (t120 != 0) = false := bne_eq_false_iff_eq.mpr c34
                                  clear c34
                                  by_cases c35 : (rd y116 x23_3) = 9
                                  · rw [if_pos c35] at H
                                    have c35b0 : ((rd y116 x23_3) == 9) = true := beq_iff_eq.mpr c35
                                    have c35b1 : ((rd y116 x23_3) != 9) = false := bne_eq_false_iff_eq.mpr c35
                                    clear c35
                                    have H' := Aside0.mk H
                                    clear H
                                    go_wp2_with (first | (go_at_call 12; (with_reducible refine (state_Grant.calls 1 false t126 _ A28.out).mono ?_); rintro e w' ⟨rfl, ⟨nd, rfl⟩⟩) | (go_at_call 11; (with_reducible refine (state_Legal.calls t120 t126 false _ A29.out).mono ?_); rintro e w36 ⟨rfl, hb⟩; have n0_ := Aside0.mk (Kd.R_below (by (with_reducible repeat (first | apply Kd.R_alloc | apply Kd.R_drewN | apply Kd.R_drew)); exact HO_21.out) hb); have n1_ := Aside0.mk (below_step (by repeat (first | (with_reducible first | exact HB.out | apply below_alloc | apply pw_below_drewN | apply below_drew1) | exact HB.out)) hb); clear HO_21; clear HB; have HO_21 := n0_; have HB := n1_; clear n0_ n1_; (try clear hb); (try clear hb2); (try clear hk); (try clear hi)))
                                    go_meet
                                    case rel => exact ⟨_, ((t120 != 1)), (by first | rfl | (simp; done) | (simp [*]; done)), H', ⟨by have := HJ4.out; have := HJ6.out; have := HK3.out; have := HJ15.out; first | omega | exact Nat.le_refl _⟩, ⟨by (with_reducible repeat (first | apply Kd.R_alloc | apply Kd.R_drewN | apply Kd.R_drew)); exact HO_21.out⟩, ⟨by repeat (first | (with_reducible first | exact HB.out | apply below_alloc | apply pw_below_drewN | apply below_drew1) | exact HB.out)⟩⟩
                                  · rw [if_neg c35] at H
                                    have c35b0 : ((rd y116 x23_3) == 9) = false := beq_eq_false_iff_ne.mpr c35
                                    have c35b1 : ((rd y116 x23_3) != 9) = true := bne_iff_ne.mpr c35
                                    have H' := Aside0.mk H
                                    clear H
                                    go_wp2_with (first | (go_at_call 12; (with_reducible refine (state_Grant.calls 1 false t126 _ A28.out).mono ?_); rintro e w' ⟨rfl, ⟨nd, rfl⟩⟩) | (go_at_call 11; (with_reducible refine (state_Legal.calls t120 t126 false _ A29.out).mono ?_); rintro e w37 ⟨rfl, hb⟩; have n0_ := Aside0.mk (Kd.R_below (by (with_reducible repeat (first | apply Kd.R_alloc | apply Kd.R_drewN | apply Kd.R_drew)); exact HO_21.out) hb); have n1_ := Aside0.mk (below_step (by repeat (first | (with_reducible first | exact HB.out | apply below_alloc | apply pw_below_drewN | apply below_drew1) | exact HB.out)) hb); clear HO_21; clear HB; have HO_21 := n0_; have HB := n1_; clear n0_ n1_; (try clear hb); (try clear hb2); (try clear hk); (try clear hi)))
                                    go_meet
                                    case rel => exact ⟨_, (false), (by first | rfl | (simp; done) | (simp [*]; done)), H', ⟨by have := HJ4.out; have := HJ6.out; have := HK3.out; have := HJ15.out; first | omega | exact Nat.le_refl _⟩, ⟨by (with_reducible repeat (first | apply Kd.R_alloc | apply Kd.R_drewN | apply Kd.R_drew)); exact HO_21.out⟩, ⟨by repeat (first | (with_reducible first | exact HB.out | apply below_alloc | apply pw_below_drewN | apply below_drew1) | exact HB.out)⟩⟩
                                · rw [if_neg c34] at H
                                  have c34b0 : (t120 == 0) = false := beq_eq_false_iff_ne.mpr c34
                                  have c34b1 : (t120 != 0) = true := bne_iff_ne.mpr c34
                                  have H' := Aside0.mk H
                                  clear H
                                  go_wp2_with (first | (go_at_call 12; (with_reducible refine (state_Grant.calls 1 false t126 _ A28.out).mono ?_); rintro e w' ⟨rfl, ⟨nd, rfl⟩⟩) | (go_at_call 11; (with_reducible refine (state_Legal.calls t120 t126 false _ A29.out).mono ?_); rintro e w38 ⟨rfl, hb⟩; have n0_ := Aside0.mk (Kd.R_below (by (with_reducible repeat (first | apply Kd.R_alloc | apply Kd.R_drewN | apply Kd.R_drew)); exact HO_21.out) hb); have n1_ := Aside0.mk (below_step (by repeat (first | (with_reducible first | exact HB.out | apply below_alloc | apply pw_below_drewN | apply below_drew1) | exact HB.out)) hb); clear HO_21; clear HB; have HO_21 := n0_; have HB := n1_; clear n0_ n1_; (try clear hb); (try clear hb2); (try clear hk); (try clear hi)))
                                  go_meet
                                  case rel => exact ⟨_, (true), (by first | rfl | (simp; done) | (simp [*]; done)), H', ⟨by have := HJ4.out; have := HJ6.out; have := HK3.out; have := HJ15.out; first | omega | exact Nat.le_refl _⟩, ⟨by (with_reducible repeat (first | apply Kd.R_alloc | apply Kd.R_drewN | apply Kd.R_drew)); exact HO_21.out⟩, ⟨by repeat (first | (with_reducible first | exact HB.out | apply below_alloc | apply pw_below_drewN | apply below_drew1) | exact HB.out)⟩⟩
                            · rw [if_neg c27] at H
                              have c27b0 : ((rd y116 x23_3) == 5) = false := beq_eq_false_iff_ne.mpr c27
                              have c27b1 : ((rd y116 x23_3) != 5) = true := bne_iff_ne.mpr c27
                              (first | rw [c27b0] | (simp only [i64_w, i32_w]; rw [c27b0]) | skip)
                              by_cases c39 : (rd y116 x23_3) = 9
                              · rw [if_pos c39] at H
                                have c39b0 : ((rd y116 x23_3) == 9) = true := beq_iff_eq.mpr c39
                                have c39b1 : ((rd y116 x23_3) != 9) = false := bne_eq_false_iff_eq.mpr c39
                                clear c39
                                have H' := Aside0.mk H
                                clear H
                                go_wp2
                                go_meet
                                case rel => exact ⟨_, ((t120 != 1)), (by first | rfl | (simp; done) | (simp [*]; done)), H', ⟨by have := HJ4.out; have := HJ6.out; have := HK3.out; have := HJ15.out; first | omega | exact Nat.le_refl _⟩, ⟨by (with_reducible repeat (first | apply Kd.R_alloc | apply Kd.R_drewN | apply Kd.R_drew)); exact HO_21.out⟩, ⟨by repeat (first | (with_reducible first | exact HB.out | apply below_alloc | apply pw_below_drewN | apply below_drew1) | exact HB.out)⟩⟩
                              · rw [if_neg c39] at H
                                have c39b0 : ((rd y116 x23_3) == 9) = false := beq_eq_false_iff_ne.mpr c39
                                have c39b1 : ((rd y116 x23_3) != 9) = true := bne_iff_ne.mpr c39
                                have H' := Aside0.mk H
                                clear H
                                go_wp2
                                go_meet
                                case rel => exact ⟨_, (false), (by first | rfl | (simp; done) | (simp [*]; done)), H', ⟨by have := HJ4.out; have := HJ6.out; have := HK3.out; have := HJ15.out; first | omega | exact Nat.le_refl _⟩, ⟨by (with_reducible repeat (first | apply Kd.R_alloc | apply Kd.R_drewN | apply Kd.R_drew)); exact HO_21.out⟩, ⟨by repeat (first | (with_reducible first | exact HB.out | apply below_alloc | apply pw_below_drewN | apply below_drew1) | exact HB.out)⟩⟩
                          case rest =>
                            clear HC26
                            try clear c1
                            try clear p1
                            try clear q1
                            try clear hx1
                            try clear c2
                            try clear p2
                            try clear c3
                            try clear c6
                            try clear c6b0
                            try clear c7
                            try clear c8
                            try clear p11
                            try clear q11
                            try clear hx11
                            try clear c12
                            try clear c12b0
                            try clear c13
                            try clear c13b0
                            try clear c14
                            try clear c14b0
                            try clear c17
                            try clear c19
                            try clear c21
                            try clear c23
                            try clear c25
                            try clear c27
                            try clear c27b0
                            try clear c27b1
                            try clear c30
                            try clear c31
                            try clear c31b0
                            try clear c31b1
                            try clear c34
                            try clear c34b0
                            try clear c34b1
                            try clear c35
                            try clear c35b0
                            try clear c35b1
                            try clear c39
                            try clear c39b0
                            try clear c39b1
                            try clear hx119_0
                            try clear p1
                            try clear p11
                            try clear p119
                            try clear p2
                            try clear q1
                            try clear q11
                            try clear q119
                            obtain ⟨kq, x72_25, rfl, HA, HJ25, HO_21, HB⟩ := hcut
                            cases kq with
                            | zero => exact absurd HA.out (by simp [assentlaw13_StateKeeps.j4])
                            | succ kj25 =>
                              have H := HA.out
                              clear HA
                              simp only [assentlaw13_StateKeeps.j4] at H
                              by_cases c40 : x72_25 = true
                              · subst c40
                                have H1 : (some false) = some r := by rw [if_pos rfl] at H; exact H
                                clear H
                                have H := H1
                                clear H1
                                obtain rfl := Option.some.inj H
                                go_wp2
                                go_ret
                                exact ⟨by first | rfl | (simp [errW_none, errW_some] <;> rfl) | (simp [*, errW_none, errW_some] <;> rfl), by repeat (first | (with_reducible first | exact HB.out | apply below_alloc | apply pw_below_drewN | apply below_drew1) | exact HB.out)⟩
                              · replace c40 := Bool.eq_false_iff.mpr c40
                                subst c40
                                have H1 : (if (rd y116 x23_3) = 6 then (if t120 = 0 then ((state_Legal.f t120 4).bind fun t128 => (if t128 = true then (if (rd y116 x23_3) = 7 then (assentlaw13_StateKeeps.j5 kj25 x5_6 t115 (rd y116 x23_3) t120 y116 (y116.length : Int) x23_3 (t120 != x5_6)) else (if (rd y116 x23_3) = 8 then (assentlaw13_StateKeeps.j5 kj25 x5_6 t115 (rd y116 x23_3) t120 y116 (y116.length : Int) x23_3 (t120 != x5_6)) else (assentlaw13_StateKeeps.j5 kj25 x5_6 t115 (rd y116 x23_3) t120 y116 (y116.length : Int) x23_3 false))) else (assentlaw13_StateKeeps.j5 kj25 x5_6 t115 (rd y116 x23_3) t120 y116 (y116.length : Int) x23_3 true))) else (assentlaw13_StateKeeps.j5 kj25 x5_6 t115 (rd y116 x23_3) t120 y116 (y116.length : Int) x23_3 true)) else (if (rd y116 x23_3) = 10 then (if t120 = 0 then ((state_Legal.f t120 4).bind fun t129 => (if t129 = true then (if (rd y116 x23_3) = 7 then (assentlaw13_StateKeeps.j5 kj25 x5_6 t115 (rd y116 x23_3) t120 y116 (y116.length : Int) x23_3 (t120 != x5_6)) else (if (rd y116 x23_3) = 8 then (assentlaw13_StateKeeps.j5 kj25 x5_6 t115 (rd y116 x23_3) t120 y116 (y116.length : Int) x23_3 (t120 != x5_6)) else (assentlaw13_StateKeeps.j5 kj25 x5_6 t115 (rd y116 x23_3) t120 y116 (y116.length : Int) x23_3 false))) else (assentlaw13_StateKeeps.j5 kj25 x5_6 t115 (rd y116 x23_3) t120 y116 (y116.length : Int) x23_3 true))) else (assentlaw13_StateKeeps.j5 kj25 x5_6 t115 (rd y116 x23_3) t120 y116 (y116.length : Int) x23_3 true)) else (if (rd y116 x23_3) = 7 then (assentlaw13_StateKeeps.j5 kj25 x5_6 t115 (rd y116 x23_3) t120 y116 (y116.length : Int) x23_3 (t120 != x5_6)) else (if (rd y116 x23_3) = 8 then (assentlaw13_StateKeeps.j5 kj25 x5_6 t115 (rd y116 x23_3) t120 y116 (y116.length : Int) x23_3 (t120 != x5_6)) else (assentlaw13_StateKeeps.j5 kj25 x5_6 t115 (rd y116 x23_3) t120 y116 (y116.length : Int) x23_3 false))))) = some r := by rw [if_neg (show ¬ (false = true) by decide)] at H; exact H
                                clear H
                                have H := H1
                                clear H1
                                have HC41 := Aside0.mk H
                                clear H
                                go_upto_region 12 with (fail)
                                go_cut [100] (fun v100 wc => ∃ (kq : Nat) (x100_40 : Bool), v100 = .bool x100_40 ∧ Aside0 (assentlaw13_StateKeeps.j5 kq x5_6 t115 (rd y116 x23_3) t120 y116 (y116.length : Int) x23_3 x100_40 = some r) ∧ Aside0 (kq ≤ kj25) ∧ Aside0 (Kd.R (Kd.int .i64) 3 wc w.heap.size (fun _ => True) (.slice (some ad119) y116.length co11) y116) ∧ Aside0 (Below w.heap.size w wc))
                                case first =>
                                  have H := HC41.out
                                  clear HC41
                                  by_cases c42 : (rd y116 x23_3) = 6
                                  · rw [if_pos c42] at H
                                    have c42b0 : ((rd y116 x23_3) == 6) = true := beq_iff_eq.mpr c42
                                    have c42b1 : ((rd y116 x23_3) != 6) = false := bne_eq_false_iff_eq.mpr c42
                                    clear c42
                                    (first | rw [c42b0] | (simp only [i64_w, i32_w]; rw [c42b0]) | skip)
                                    by_cases c43 : t120 = 0
                                    · rw [if_pos c43] at H
                                      have c43b0 : (t120 == 0) = true := beq_iff_eq.mpr c43
                                      have c43b1 : (t120 != 0) = false := bne_eq_false_iff_eq.mpr c43
                                      clear c43
                                      replace H := Option.bind_eq_some_iff.mp H
                                      obtain ⟨t128, A440, H⟩ := H
                                      replace H : (if t128 = true then (if (rd y116 x23_3) = 7 then (assentlaw13_StateKeeps.j5 kj25 x5_6 t115 (rd y116 x23_3) t120 y116 (y116.length : Int) x23_3 (t120 != x5_6)) else (if (rd y116 x23_3) = 8 then (assentlaw13_StateKeeps.j5 kj25 x5_6 t115 (rd y116 x23_3) t120 y116 (y116.length : Int) x23_3 (t120 != x5_6)) else (assentlaw13_StateKeeps.j5 kj25 x5_6 t115 (rd y116 x23_3) t120 y116 (y116.length : Int) x23_3 false))) else (assentlaw13_StateKeeps.j5 kj25 x5_6 t115 (rd y116 x23_3) t120 y116 (y116.length : Int) x23_3 true)) = some r := H
                                      have A44 := Aside0.mk A440
                                      clear A440
                                      by_cases c45 : t128 = true
                                      · subst c45
                                        have H1 : (if (rd y116 x23_3) = 7 then (assentlaw13_StateKeeps.j5 kj25 x5_6 t115 (rd y116 x23_3) t120 y116 (y116.length : Int) x23_3 (t120 != x5_6)) else (if (rd y116 x23_3) = 8 then (assentlaw13_StateKeeps.j5 kj25 x5_6 t115 (rd y116 x23_3) t120 y116 (y116.length : Int) x23_3 (t120 != x5_6)) else (assentlaw13_StateKeeps.j5 kj25 x5_6 t115 (rd y116 x23_3) t120 y116 (y116.length : Int) x23_3 false))) = some r := by rw [if_pos rfl] at H; exact H
                                        clear H
                                        have H := H1
                                        clear H1
                                        by_cases c46 : (rd y116 x23_3) = 7
                                        · rw [if_pos c46] at H
                                          have c46b0 : ((rd y116 x23_3) == 7) = true := beq_iff_eq.mpr c46
                                          have c46b1 : ((rd y116 x23_3) != 7) = false := bne_eq_false_iff_eq.mpr c46
                                          clear c46
                                          have H' := Aside0.mk H
                                          clear H
                                          go_wp2_with (first | (go_at_call 11; (with_reducible refine (state_Legal.calls t120 4 true _ A44.out).mono ?_); rintro e w47 ⟨rfl, hb⟩; have n0_ := Aside0.mk (Kd.R_below (by (with_reducible repeat (first | apply Kd.R_alloc | apply Kd.R_drewN | apply Kd.R_drew)); exact HO_21.out) hb); have n1_ := Aside0.mk (below_step (by repeat (first | (with_reducible first | exact HB.out | apply below_alloc | apply pw_below_drewN | apply below_drew1) | exact HB.out)) hb); clear HO_21; clear HB; have HO_21 := n0_; have HB := n1_; clear n0_ n1_; (try clear hb); (try clear hb2); (try clear hk); (try clear hi)))
                                          go_meet
                                          case rel => exact ⟨_, ((t120 != x5_6)), (by first | rfl | (simp; done) | (simp [*]; done)), H', ⟨by have := HJ4.out; have := HJ6.out; have := HK3.out; have := HJ15.out; have := HJ25.out; first | omega | exact Nat.le_refl _⟩, ⟨by (with_reducible repeat (first | apply Kd.R_alloc | apply Kd.R_drewN | apply Kd.R_drew)); exact HO_21.out⟩, ⟨by repeat (first | (with_reducible first | exact HB.out | apply below_alloc | apply pw_below_drewN | apply below_drew1) | exact HB.out)⟩⟩
                                        · rw [if_neg c46] at H
                                          have c46b0 : ((rd y116 x23_3) == 7) = false := beq_eq_false_iff_ne.mpr c46
                                          have c46b1 : ((rd y116 x23_3) != 7) = true := bne_iff_ne.mpr c46
                                          by_cases c48 : (rd y116 x23_3) = 8
                                          · rw [if_pos c48] at H
                                            have c48b0 : ((rd y116 x23_3) == 8) = true := beq_iff_eq.mpr c48
                                            have c48b1 : ((rd y116 x23_3) != 8) = false := bne_eq_false_iff_eq.mpr c48
                                            clear c48
                                            have H' := Aside0.mk H
                                            clear H
                                            go_wp2_with (first | (go_at_call 11; (with_reducible refine (state_Legal.calls t120 4 true _ A44.out).mono ?_); rintro e w49 ⟨rfl, hb⟩; have n0_ := Aside0.mk (Kd.R_below (by (with_reducible repeat (first | apply Kd.R_alloc | apply Kd.R_drewN | apply Kd.R_drew)); exact HO_21.out) hb); have n1_ := Aside0.mk (below_step (by repeat (first | (with_reducible first | exact HB.out | apply below_alloc | apply pw_below_drewN | apply below_drew1) | exact HB.out)) hb); clear HO_21; clear HB; have HO_21 := n0_; have HB := n1_; clear n0_ n1_; (try clear hb); (try clear hb2); (try clear hk); (try clear hi)))
                                            go_meet
                                            case rel => exact ⟨_, ((t120 != x5_6)), (by first | rfl | (simp; done) | (simp [*]; done)), H', ⟨by have := HJ4.out; have := HJ6.out; have := HK3.out; have := HJ15.out; have := HJ25.out; first | omega | exact Nat.le_refl _⟩, ⟨by (with_reducible repeat (first | apply Kd.R_alloc | apply Kd.R_drewN | apply Kd.R_drew)); exact HO_21.out⟩, ⟨by repeat (first | (with_reducible first | exact HB.out | apply below_alloc | apply pw_below_drewN | apply below_drew1) | exact HB.out)⟩⟩
                                          · rw [if_neg c48] at H
                                            have c48b0 : ((rd y116 x23_3) == 8) = false := beq_eq_false_iff_ne.mpr c48
                                            have c48b1 : ((rd y116 x23_3) != 8) = true := bne_iff_ne.mpr c48
                                            have H' := Aside0.mk H
                                            clear H
                                            go_wp2_with (first | (go_at_call 11; (with_reducible refine (state_Legal.calls t120 4 true _ A44.out).mono ?_); rintro e w50 ⟨rfl, hb⟩; have n0_ := Aside0.mk (Kd.R_below (by (with_reducible repeat (first | apply Kd.R_alloc | apply Kd.R_drewN | apply Kd.R_drew)); exact HO_21.out) hb); have n1_ := Aside0.mk (below_step (by repeat (first | (with_reducible first | exact HB.out | apply below_alloc | apply pw_below_drewN | apply below_drew1) | exact HB.out)) hb); clear HO_21; clear HB; have HO_21 := n0_; have HB := n1_; clear n0_ n1_; (try clear hb); (try clear hb2); (try clear hk); (try clear hi)))
                                            go_meet
                                            case rel => exact ⟨_, (false), (by first | rfl | (simp; done) | (simp [*]; done)), H', ⟨by have := HJ4.out; have := HJ6.out; have := HK3.out; have := HJ15.out; have := HJ25.out; first | omega | exact Nat.le_refl _⟩, ⟨by (with_reducible repeat (first | apply Kd.R_alloc | apply Kd.R_drewN | apply Kd.R_drew)); exact HO_21.out⟩, ⟨by repeat (first | (with_reducible first | exact HB.out | apply below_alloc | apply pw_below_drewN | apply below_drew1) | exact HB.out)⟩⟩
                                      · replace c45 := Bool.eq_false_iff.mpr c45
                                        subst c45
                                        have H1 : (assentlaw13_StateKeeps.j5 kj25 x5_6 t115 (rd y116 x23_3) t120 y116 (y116.length : Int) x23_3 true) = some r := by rw [if_neg (show ¬ (false = true) by decide)] at H; exact H
                                        clear H
                                        have H := H1
                                        clear H1
                                        have H' := Aside0.mk H
                                        clear H
                                        go_wp2_with (first | (go_at_call 11; (with_reducible refine (state_Legal.calls t120 4 false _ A44.out).mono ?_); rintro e w51 ⟨rfl, hb⟩; have n0_ := Aside0.mk (Kd.R_below (by (with_reducible repeat (first | apply Kd.R_alloc | apply Kd.R_drewN | apply Kd.R_drew)); exact HO_21.out) hb); have n1_ := Aside0.mk (below_step (by repeat (first | (with_reducible first | exact HB.out | apply below_alloc | apply pw_below_drewN | apply below_drew1) | exact HB.out)) hb); clear HO_21; clear HB; have HO_21 := n0_; have HB := n1_; clear n0_ n1_; (try clear hb); (try clear hb2); (try clear hk); (try clear hi)))
                                        go_meet
                                        case rel => exact ⟨_, (true), (by first | rfl | (simp; done) | (simp [*]; done)), H', ⟨by have := HJ4.out; have := HJ6.out; have := HK3.out; have := HJ15.out; have := HJ25.out; first | omega | exact Nat.le_refl _⟩, ⟨by (with_reducible repeat (first | apply Kd.R_alloc | apply Kd.R_drewN | apply Kd.R_drew)); exact HO_21.out⟩, ⟨by repeat (first | (with_reducible first | exact HB.out | apply below_alloc | apply pw_below_drewN | apply below_drew1) | exact HB.out)⟩⟩
                                    · rw [if_neg c43] at H
                                      have c43b0 : (t120 == 0) = false := beq_eq_false_iff_ne.mpr c43
                                      have c43b1 : (t120 != 0) = true := bne_iff_ne.mpr c43
                                      have H' := Aside0.mk H
                                      clear H
                                      go_wp2
                                      go_meet
                                      case rel => exact ⟨_, (true), (by first | rfl | (simp; done) | (simp [*]; done)), H', ⟨by have := HJ4.out; have := HJ6.out; have := HK3.out; have := HJ15.out; have := HJ25.out; first | omega | exact Nat.le_refl _⟩, ⟨by (with_reducible repeat (first | apply Kd.R_alloc | apply Kd.R_drewN | apply Kd.R_drew)); exact HO_21.out⟩, ⟨by repeat (first | (with_reducible first | exact HB.out | apply below_alloc | apply pw_below_drewN | apply below_drew1) | exact HB.out)⟩⟩
                                  · rw [if_neg c42] at H
                                    have c42b0 : ((rd y116 x23_3) == 6) = false := beq_eq_false_iff_ne.mpr c42
                                    have c42b1 : ((rd y116 x23_3) != 6) = true := bne_iff_ne.mpr c42
                                    (first | rw [c42b0] | (simp only [i64_w, i32_w]; rw [c42b0]) | skip)
                                    by_cases c52 : (rd y116 x23_3) = 10
                                    · rw [if_pos c52] at H
                                      have c52b0 : ((rd y116 x23_3) == 10) = true := beq_iff_eq.mpr c52
                                      have c52b1 : ((rd y116 x23_3) != 10) = false := bne_eq_false_iff_eq.mpr c52
                                      clear c52
                                      by_cases c53 : t120 = 0
                                      · rw [if_pos c53] at H
                                        have c53b0 : (t120 == 0) = true := beq_iff_eq.mpr c53
                                        have c53b1 : (t120 != 0) = false := bne_eq_false_iff_eq.mpr c53
                                        clear c53
                                        replace H := Option.bind_eq_some_iff.mp H
                                        obtain ⟨t129, A540, H⟩ := H
                                        replace H : (if t129 = true then (if (rd y116 x23_3) = 7 then (assentlaw13_StateKeeps.j5 kj25 x5_6 t115 (rd y116 x23_3) t120 y116 (y116.length : Int) x23_3 (t120 != x5_6)) else (if (rd y116 x23_3) = 8 then (assentlaw13_StateKeeps.j5 kj25 x5_6 t115 (rd y116 x23_3) t120 y116 (y116.length : Int) x23_3 (t120 != x5_6)) else (assentlaw13_StateKeeps.j5 kj25 x5_6 t115 (rd y116 x23_3) t120 y116 (y116.length : Int) x23_3 false))) else (assentlaw13_StateKeeps.j5 kj25 x5_6 t115 (rd y116 x23_3) t120 y116 (y116.length : Int) x23_3 true)) = some r := H
                                        have A54 := Aside0.mk A540
                                        clear A540
                                        by_cases c55 : t129 = true
                                        · subst c55
                                          have H1 : (if (rd y116 x23_3) = 7 then (assentlaw13_StateKeeps.j5 kj25 x5_6 t115 (rd y116 x23_3) t120 y116 (y116.length : Int) x23_3 (t120 != x5_6)) else (if (rd y116 x23_3) = 8 then (assentlaw13_StateKeeps.j5 kj25 x5_6 t115 (rd y116 x23_3) t120 y116 (y116.length : Int) x23_3 (t120 != x5_6)) else (assentlaw13_StateKeeps.j5 kj25 x5_6 t115 (rd y116 x23_3) t120 y116 (y116.length : Int) x23_3 false))) = some r := by rw [if_pos rfl] at H; exact H
                                          clear H
                                          have H := H1
                                          clear H1
                                          by_cases c56 : (rd y116 x23_3) = 7
                                          · rw [if_pos c56] at H
                                            have c56b0 : ((rd y116 x23_3) == 7) = true := beq_iff_eq.mpr c56
                                            have c56b1 : ((rd y116 x23_3) != 7) = false := bne_eq_false_iff_eq.mpr c56
                                            clear c56
                                            have H' := Aside0.mk H
                                            clear H
                                            go_wp2_with (first | (go_at_call 11; (with_reducible refine (state_Legal.calls t120 4 true _ A54.out).mono ?_); rintro e w57 ⟨rfl, hb⟩; have n0_ := Aside0.mk (Kd.R_below (by (with_reducible repeat (first | apply Kd.R_alloc | apply Kd.R_drewN | apply Kd.R_drew)); exact HO_21.out) hb); have n1_ := Aside0.mk (below_step (by repeat (first | (with_reducible first | exact HB.out | apply below_alloc | apply pw_below_drewN | apply below_drew1) | exact HB.out)) hb); clear HO_21; clear HB; have HO_21 := n0_; have HB := n1_; clear n0_ n1_; (try clear hb); (try clear hb2); (try clear hk); (try clear hi)))
                                            go_meet
                                            case rel => exact ⟨_, ((t120 != x5_6)), (by first | rfl | (simp; done) | (simp [*]; done)), H', ⟨by have := HJ4.out; have := HJ6.out; have := HK3.out; have := HJ15.out; have := HJ25.out; first | omega | exact Nat.le_refl _⟩, ⟨by (with_reducible repeat (first | apply Kd.R_alloc | apply Kd.R_drewN | apply Kd.R_drew)); exact HO_21.out⟩, ⟨by repeat (first | (with_reducible first | exact HB.out | apply below_alloc | apply pw_below_drewN | apply below_drew1) | exact HB.out)⟩⟩
                                          · rw [if_neg c56] at H
                                            have c56b0 : ((rd y116 x23_3) == 7) = false := beq_eq_false_iff_ne.mpr c56
                                            have c56b1 : ((rd y116 x23_3) != 7) = true := bne_iff_ne.mpr c56
                                            by_cases c58 : (rd y116 x23_3) = 8
                                            · rw [if_pos c58] at H
                                              have c58b0 : ((rd y116 x23_3) == 8) = true := beq_iff_eq.mpr c58
                                              have c58b1 : ((rd y116 x23_3) != 8) = false := bne_eq_false_iff_eq.mpr c58
                                              clear c58
                                              have H' := Aside0.mk H
                                              clear H
                                              go_wp2_with (first | (go_at_call 11; (with_reducible refine (state_Legal.calls t120 4 true _ A54.out).mono ?_); rintro e w59 ⟨rfl, hb⟩; have n0_ := Aside0.mk (Kd.R_below (by (with_reducible repeat (first | apply Kd.R_alloc | apply Kd.R_drewN | apply Kd.R_drew)); exact HO_21.out) hb); have n1_ := Aside0.mk (below_step (by repeat (first | (with_reducible first | exact HB.out | apply below_alloc | apply pw_below_drewN | apply below_drew1) | exact HB.out)) hb); clear HO_21; clear HB; have HO_21 := n0_; have HB := n1_; clear n0_ n1_; (try clear hb); (try clear hb2); (try clear hk); (try clear hi)))
                                              go_meet
                                              case rel => exact ⟨_, ((t120 != x5_6)), (by first | rfl | (simp; done) | (simp [*]; done)), H', ⟨by have := HJ4.out; have := HJ6.out; have := HK3.out; have := HJ15.out; have := HJ25.out; first | omega | exact Nat.le_refl _⟩, ⟨by (with_reducible repeat (first | apply Kd.R_alloc | apply Kd.R_drewN | apply Kd.R_drew)); exact HO_21.out⟩, ⟨by repeat (first | (with_reducible first | exact HB.out | apply below_alloc | apply pw_below_drewN | apply below_drew1) | exact HB.out)⟩⟩
                                            · rw [if_neg c58] at H
                                              have c58b0 : ((rd y116 x23_3) == 8) = false := beq_eq_false_iff_ne.mpr c58
                                              have c58b1 : ((rd y116 x23_3) != 8) = true := bne_iff_ne.mpr c58
                                              have H' := Aside0.mk H
                                              clear H
                                              go_wp2_with (first | (go_at_call 11; (with_reducible refine (state_Legal.calls t120 4 true _ A54.out).mono ?_); rintro e w60 ⟨rfl, hb⟩; have n0_ := Aside0.mk (Kd.R_below (by (with_reducible repeat (first | apply Kd.R_alloc | apply Kd.R_drewN | apply Kd.R_drew)); exact HO_21.out) hb); have n1_ := Aside0.mk (below_step (by repeat (first | (with_reducible first | exact HB.out | apply below_alloc | apply pw_below_drewN | apply below_drew1) | exact HB.out)) hb); clear HO_21; clear HB; have HO_21 := n0_; have HB := n1_; clear n0_ n1_; (try clear hb); (try clear hb2); (try clear hk); (try clear hi)))
                                              go_meet
                                              case rel => exact ⟨_, (false), (by first | rfl | (simp; done) | (simp [*]; done)), H', ⟨by have := HJ4.out; have := HJ6.out; have := HK3.out; have := HJ15.out; have := HJ25.out; first | omega | exact Nat.le_refl _⟩, ⟨by (with_reducible repeat (first | apply Kd.R_alloc | apply Kd.R_drewN | apply Kd.R_drew)); exact HO_21.out⟩, ⟨by repeat (first | (with_reducible first | exact HB.out | apply below_alloc | apply pw_below_drewN | apply below_drew1) | exact HB.out)⟩⟩
                                        · replace c55 := Bool.eq_false_iff.mpr c55
                                          subst c55
                                          have H1 : (assentlaw13_StateKeeps.j5 kj25 x5_6 t115 (rd y116 x23_3) t120 y116 (y116.length : Int) x23_3 true) = some r := by rw [if_neg (show ¬ (false = true) by decide)] at H; exact H
                                          clear H
                                          have H := H1
                                          clear H1
                                          have H' := Aside0.mk H
                                          clear H
                                          go_wp2_with (first | (go_at_call 11; (with_reducible refine (state_Legal.calls t120 4 false _ A54.out).mono ?_); rintro e w61 ⟨rfl, hb⟩; have n0_ := Aside0.mk (Kd.R_below (by (with_reducible repeat (first | apply Kd.R_alloc | apply Kd.R_drewN | apply Kd.R_drew)); exact HO_21.out) hb); have n1_ := Aside0.mk (below_step (by repeat (first | (with_reducible first | exact HB.out | apply below_alloc | apply pw_below_drewN | apply below_drew1) | exact HB.out)) hb); clear HO_21; clear HB; have HO_21 := n0_; have HB := n1_; clear n0_ n1_; (try clear hb); (try clear hb2); (try clear hk); (try clear hi)))
                                          go_meet
                                          case rel => exact ⟨_, (true), (by first | rfl | (simp; done) | (simp [*]; done)), H', ⟨by have := HJ4.out; have := HJ6.out; have := HK3.out; have := HJ15.out; have := HJ25.out; first | omega | exact Nat.le_refl _⟩, ⟨by (with_reducible repeat (first | apply Kd.R_alloc | apply Kd.R_drewN | apply Kd.R_drew)); exact HO_21.out⟩, ⟨by repeat (first | (with_reducible first | exact HB.out | apply below_alloc | apply pw_below_drewN | apply below_drew1) | exact HB.out)⟩⟩
                                      · rw [if_neg c53] at H
                                        have c53b0 : (t120 == 0) = false := beq_eq_false_iff_ne.mpr c53
                                        have c53b1 : (t120 != 0) = true := bne_iff_ne.mpr c53
                                        have H' := Aside0.mk H
                                        clear H
                                        go_wp2
                                        go_meet
                                        case rel => exact ⟨_, (true), (by first | rfl | (simp; done) | (simp [*]; done)), H', ⟨by have := HJ4.out; have := HJ6.out; have := HK3.out; have := HJ15.out; have := HJ25.out; first | omega | exact Nat.le_refl _⟩, ⟨by (with_reducible repeat (first | apply Kd.R_alloc | apply Kd.R_drewN | apply Kd.R_drew)); exact HO_21.out⟩, ⟨by repeat (first | (with_reducible first | exact HB.out | apply below_alloc | apply pw_below_drewN | apply below_drew1) | exact HB.out)⟩⟩
                                    · rw [if_neg c52] at H
                                      have c52b0 : ((rd y116 x23_3) == 10) = false := beq_eq_false_iff_ne.mpr c52
                                      have c52b1 : ((rd y116 x23_3) != 10) = true := bne_iff_ne.mpr c52
                                      by_cases c62 : (rd y116 x23_3) = 7
                                      · rw [if_pos c62] at H
                                        have c62b0 : ((rd y116 x23_3) == 7) = true := beq_iff_eq.mpr c62
                                        have c62b1 : ((rd y116 x23_3) != 7) = false := bne_eq_false_iff_eq.mpr c62
                                        clear c62
                                        have H' := Aside0.mk H
                                        clear H
                                        go_wp2
                                        go_meet
                                        case rel => exact ⟨_, ((t120 != x5_6)), (by first | rfl | (simp; done) | (simp [*]; done)), H', ⟨by have := HJ4.out; have := HJ6.out; have := HK3.out; have := HJ15.out; have := HJ25.out; first | omega | exact Nat.le_refl _⟩, ⟨by (with_reducible repeat (first | apply Kd.R_alloc | apply Kd.R_drewN | apply Kd.R_drew)); exact HO_21.out⟩, ⟨by repeat (first | (with_reducible first | exact HB.out | apply below_alloc | apply pw_below_drewN | apply below_drew1) | exact HB.out)⟩⟩
                                      · rw [if_neg c62] at H
                                        have c62b0 : ((rd y116 x23_3) == 7) = false := beq_eq_false_iff_ne.mpr c62
                                        have c62b1 : ((rd y116 x23_3) != 7) = true := bne_iff_ne.mpr c62
                                        by_cases c63 : (rd y116 x23_3) = 8
                                        · rw [if_pos c63] at H
                                          have c63b0 : ((rd y116 x23_3) == 8) = true := beq_iff_eq.mpr c63
                                          have c63b1 : ((rd y116 x23_3) != 8) = false := bne_eq_false_iff_eq.mpr c63
                                          clear c63
                                          have H' := Aside0.mk H
                                          clear H
                                          go_wp2
                                          go_meet
                                          case rel => exact ⟨_, ((t120 != x5_6)), (by first | rfl | (simp; done) | (simp [*]; done)), H', ⟨by have := HJ4.out; have := HJ6.out; have := HK3.out; have := HJ15.out; have := HJ25.out; first | omega | exact Nat.le_refl _⟩, ⟨by (with_reducible repeat (first | apply Kd.R_alloc | apply Kd.R_drewN | apply Kd.R_drew)); exact HO_21.out⟩, ⟨by repeat (first | (with_reducible first | exact HB.out | apply below_alloc | apply pw_below_drewN | apply below_drew1) | exact HB.out)⟩⟩
                                        · rw [if_neg c63] at H
                                          have c63b0 : ((rd y116 x23_3) == 8) = false := beq_eq_false_iff_ne.mpr c63
                                          have c63b1 : ((rd y116 x23_3) != 8) = true := bne_iff_ne.mpr c63
                                          have H' := Aside0.mk H
                                          clear H
                                          go_wp2
                                          go_meet
                                          case rel => exact ⟨_, (false), (by first | rfl | (simp; done) | (simp [*]; done)), H', ⟨by have := HJ4.out; have := HJ6.out; have := HK3.out; have := HJ15.out; have := HJ25.out; first | omega | exact Nat.le_refl _⟩, ⟨by (with_reducible repeat (first | apply Kd.R_alloc | apply Kd.R_drewN | apply Kd.R_drew)); exact HO_21.out⟩, ⟨by repeat (first | (with_reducible first | exact HB.out | apply below_alloc | apply pw_below_drewN | apply below_drew1) | exact HB.out)⟩⟩
                                case rest =>
                                  clear HC41
                                  try clear c1
                                  try clear p1
                                  try clear q1
                                  try clear hx1
                                  try clear c2
                                  try clear p2
                                  try clear c3
                                  try clear c4
                                  try clear c5
                                  try clear c6
                                  try clear c6b0
                                  try clear c7
                                  try clear c8
                                  try clear p11
                                  try clear q11
                                  try clear hx11
                                  try clear c12
                                  try clear c12b0
                                  try clear c13
                                  try clear c13b0
                                  try clear c14
                                  try clear c14b0
                                  try clear c17
                                  try clear c19
                                  try clear c21
                                  try clear c23
                                  try clear c25
                                  try clear c27
                                  try clear c27b0
                                  try clear c27b1
                                  try clear c30
                                  try clear c31
                                  try clear c31b0
                                  try clear c31b1
                                  try clear c34
                                  try clear c34b0
                                  try clear c34b1
                                  try clear c35
                                  try clear c35b0
                                  try clear c35b1
                                  try clear c39
                                  try clear c39b0
                                  try clear c39b1
                                  try clear c40
                                  try clear c42
                                  try clear c42b0
                                  try clear c42b1
                                  try clear c43
                                  try clear c43b0
                                  try clear c43b1
                                  try clear c45
                                  try clear c46
                                  try clear c46b0
                                  try clear c46b1
                                  try clear c48
                                  try clear c48b0
                                  try clear c48b1
                                  try clear c52
                                  try clear c52b0
                                  try clear c52b1
                                  try clear c53
                                  try clear c53b0
                                  try clear c53b1
                                  try clear c55
                                  try clear c56
                                  try clear c56b0
                                  try clear c56b1
                                  try clear c58
                                  try clear c58b0
                                  try clear c58b1
                                  try clear c62
                                  try clear c62b0
                                  try clear c62b1
                                  try clear c63
                                  try clear c63b0
                                  try clear c63b1
                                  try clear hx119_0
                                  try clear p1
                                  try clear p11
                                  try clear p119
                                  try clear p2
                                  try clear q1
                                  try clear q11
                                  try clear q119
                                  obtain ⟨kq, x100_40, rfl, HA, HJ40, HO_21, HB⟩ := hcut
                                  cases kq with
                                  | zero => exact absurd HA.out (by simp [assentlaw13_StateKeeps.j5])
                                  | succ kj40 =>
                                    have H := HA.out
                                    clear HA
                                    simp only [assentlaw13_StateKeeps.j5] at H
                                    by_cases c64 : x100_40 = true
                                    · subst c64
                                      have H1 : (some false) = some r := by rw [if_pos rfl] at H; exact H
                                      clear H
                                      have H := H1
                                      clear H1
                                      obtain rfl := Option.some.inj H
                                      go_wp2
                                      go_ret
                                      exact ⟨by first | rfl | (simp [errW_none, errW_some] <;> rfl) | (simp [*, errW_none, errW_some] <;> rfl), by repeat (first | (with_reducible first | exact HB.out | apply below_alloc | apply pw_below_drewN | apply below_drew1) | exact HB.out)⟩
                                    · replace c64 := Bool.eq_false_iff.mpr c64
                                      subst c64
                                      have H1 : (if (rd y116 x23_3) = 5 then ((state_Writes.f t120).bind fun t130 => (if t130 = true then (some false) else (assentlaw13_StateKeeps.l0 kj40 x5_6 t115 y116 (y116.length : Int) (wrap64 (x23_3 + 1))))) else (assentlaw13_StateKeeps.l0 kj40 x5_6 t115 y116 (y116.length : Int) (wrap64 (x23_3 + 1)))) = some r := by rw [if_neg (show ¬ (false = true) by decide)] at H; exact H
                                      clear H
                                      have H := H1
                                      clear H1
                                      by_cases c65 : (rd y116 x23_3) = 5
                                      · rw [if_pos c65] at H
                                        have c65b0 : ((rd y116 x23_3) == 5) = true := beq_iff_eq.mpr c65
                                        have c65b1 : ((rd y116 x23_3) != 5) = false := bne_eq_false_iff_eq.mpr c65
                                        clear c65
                                        replace H := Option.bind_eq_some_iff.mp H
                                        obtain ⟨t130, A660, H⟩ := H
                                        replace H : (if t130 = true then (some false) else (assentlaw13_StateKeeps.l0 kj40 x5_6 t115 y116 (y116.length : Int) (wrap64 (x23_3 + 1)))) = some r := H
                                        have A66 := Aside0.mk A660
                                        clear A660
                                        by_cases c67 : t130 = true
                                        · subst c67
                                          have H1 : (some false) = some r := by rw [if_pos rfl] at H; exact H
                                          clear H
                                          have H := H1
                                          clear H1
                                          obtain rfl := Option.some.inj H
                                          go_wp2_with (first | (go_at_call 19; (with_reducible refine (state_Writes.calls t120 true _ A66.out).mono ?_); rintro e w' ⟨rfl, ⟨nd, rfl⟩⟩))
                                          go_ret
                                          exact ⟨by first | rfl | (simp [errW_none, errW_some] <;> rfl) | (simp [*, errW_none, errW_some] <;> rfl), by repeat (first | (with_reducible first | exact HB.out | apply below_alloc | apply pw_below_drewN | apply below_drew1) | exact HB.out)⟩
                                        · replace c67 := Bool.eq_false_iff.mpr c67
                                          subst c67
                                          have H1 : (assentlaw13_StateKeeps.l0 kj40 x5_6 t115 y116 (y116.length : Int) (wrap64 (x23_3 + 1))) = some r := by rw [if_neg (show ¬ (false = true) by decide)] at H; exact H
                                          clear H
                                          have H := H1
                                          clear H1
                                          have H' := Aside0.mk H
                                          clear H
                                          go_wp2_with (first | (go_at_call 19; (with_reducible refine (state_Writes.calls t120 false _ A66.out).mono ?_); rintro e w' ⟨rfl, ⟨nd, rfl⟩⟩))
                                          go_roundg kj40
                                          case measure => have := HJ4.out; have := HJ6.out; have := HK3.out; have := HJ15.out; have := HJ25.out; have := HJ40.out; omega
                                          case rel => exact ⟨(wrap64 (x23_3 + 1)), (by first | rfl | (simp; done) | (simp [*]; done)), H', ⟨by have := HJ4.out; have := HJ6.out; have := HK3.out; have := HJ15.out; have := HJ25.out; have := HJ40.out; omega⟩, ⟨by (with_reducible repeat (first | apply Kd.R_alloc | apply Kd.R_drewN | apply Kd.R_drew)); exact HO_21.out⟩, ⟨by repeat (first | (with_reducible first | exact HB.out | apply below_alloc | apply pw_below_drewN | apply below_drew1) | exact HB.out)⟩⟩
                                      · rw [if_neg c65] at H
                                        have c65b0 : ((rd y116 x23_3) == 5) = false := beq_eq_false_iff_ne.mpr c65
                                        have c65b1 : ((rd y116 x23_3) != 5) = true := bne_iff_ne.mpr c65
                                        have H' := Aside0.mk H
                                        clear H
                                        go_wp2
                                        go_roundg kj40
                                        case measure => have := HJ4.out; have := HJ6.out; have := HK3.out; have := HJ15.out; have := HJ25.out; have := HJ40.out; omega
                                        case rel => exact ⟨(wrap64 (x23_3 + 1)), (by first | rfl | (simp; done) | (simp [*]; done)), H', ⟨by have := HJ4.out; have := HJ6.out; have := HK3.out; have := HJ15.out; have := HJ25.out; have := HJ40.out; omega⟩, ⟨by (with_reducible repeat (first | apply Kd.R_alloc | apply Kd.R_drewN | apply Kd.R_drew)); exact HO_21.out⟩, ⟨by repeat (first | (with_reducible first | exact HB.out | apply below_alloc | apply pw_below_drewN | apply below_drew1) | exact HB.out)⟩⟩
                  · rw [if_neg c14] at H
                    exact absurd H (by simp)
                · rw [if_neg c13] at H
                  exact absurd H (by simp)
              · rw [if_neg c12] at H
                have c12b0 : decide (x23_3 < (y116.length : Int)) = false := decide_eq_false c12
                clear c12
                replace H := Option.bind_eq_some_iff.mp H
                obtain ⟨t131, A680, H⟩ := H
                replace H : (if t131 = true then ((state_Writes.f x5_6).bind fun t132 => (if t132 = true then ((state_Legal.f x5_6 1).bind fun t133 => (if t133 = true then (some false) else ((assentlaw13_StateRuns.f k3).bind fun t134 => (some t134)))) else ((assentlaw13_StateRuns.f k3).bind fun t135 => (some t135)))) else (some false)) = some r := H
                have A68 := Aside0.mk A680
                clear A680
                by_cases c69 : t131 = true
                · subst c69
                  have H1 : ((state_Writes.f x5_6).bind fun t132 => (if t132 = true then ((state_Legal.f x5_6 1).bind fun t133 => (if t133 = true then (some false) else ((assentlaw13_StateRuns.f k3).bind fun t134 => (some t134)))) else ((assentlaw13_StateRuns.f k3).bind fun t135 => (some t135)))) = some r := by rw [if_pos rfl] at H; exact H
                  clear H
                  have H := H1
                  clear H1
                  replace H := Option.bind_eq_some_iff.mp H
                  obtain ⟨t132, A700, H⟩ := H
                  replace H : (if t132 = true then ((state_Legal.f x5_6 1).bind fun t133 => (if t133 = true then (some false) else ((assentlaw13_StateRuns.f k3).bind fun t134 => (some t134)))) else ((assentlaw13_StateRuns.f k3).bind fun t135 => (some t135))) = some r := H
                  have A70 := Aside0.mk A700
                  clear A700
                  by_cases c71 : t132 = true
                  · subst c71
                    have H1 : ((state_Legal.f x5_6 1).bind fun t133 => (if t133 = true then (some false) else ((assentlaw13_StateRuns.f k3).bind fun t134 => (some t134)))) = some r := by rw [if_pos rfl] at H; exact H
                    clear H
                    have H := H1
                    clear H1
                    replace H := Option.bind_eq_some_iff.mp H
                    obtain ⟨t133, A720, H⟩ := H
                    replace H : (if t133 = true then (some false) else ((assentlaw13_StateRuns.f k3).bind fun t134 => (some t134))) = some r := H
                    have A72 := Aside0.mk A720
                    clear A720
                    by_cases c73 : t133 = true
                    · subst c73
                      have H1 : (some false) = some r := by rw [if_pos rfl] at H; exact H
                      clear H
                      have H := H1
                      clear H1
                      obtain rfl := Option.some.inj H
                      go_wp2_with (first | ((with_reducible refine gate_callee (f := 17) rfl ?_); refine goesL_ (some 109) rfl rfl Try.func17 (by kernel_rfl) rfl #[.int .i64 x5_6] rfl (by (try simp only [List.map_toArray, List.map_cons, List.map_nil]); first | done | rfl | (simp only [List.length_drop, List.length_take]; rfl)) ?_; (with_reducible refine (state_Reads.calls x5_6 true _ A68.out).mono ?_); rintro e w' ⟨rfl, ⟨nd, rfl⟩⟩; refine ⟨_, rfl, ?_⟩) | (go_at_call 19; (with_reducible refine (state_Writes.calls x5_6 true _ A70.out).mono ?_); rintro e w' ⟨rfl, ⟨nd, rfl⟩⟩) | (go_at_call 11; (with_reducible refine (state_Legal.calls x5_6 1 true _ A72.out).mono ?_); rintro e w74 ⟨rfl, hb⟩; have n0_ := Aside0.mk (Kd.R_below (by (with_reducible repeat (first | apply Kd.R_alloc | apply Kd.R_drewN | apply Kd.R_drew)); exact HO_21.out) hb); have n1_ := Aside0.mk (below_step (by repeat (first | (with_reducible first | exact HB.out | apply below_alloc | apply pw_below_drewN | apply below_drew1) | exact HB.out)) hb); clear HO_21; clear HB; have HO_21 := n0_; have HB := n1_; clear n0_ n1_; (try clear hb); (try clear hb2); (try clear hk); (try clear hi)))
                      go_ret
                      exact ⟨by first | rfl | (simp [errW_none, errW_some] <;> rfl) | (simp [*, errW_none, errW_some] <;> rfl), by repeat (first | (with_reducible first | exact HB.out | apply below_alloc | apply pw_below_drewN | apply below_drew1) | exact HB.out)⟩
                    · replace c73 := Bool.eq_false_iff.mpr c73
                      subst c73
                      have H1 : ((assentlaw13_StateRuns.f k3).bind fun t134 => (some t134)) = some r := by rw [if_neg (show ¬ (false = true) by decide)] at H; exact H
                      clear H
                      have H := H1
                      clear H1
                      replace H := Option.bind_eq_some_iff.mp H
                      obtain ⟨t134, A750, H⟩ := H
                      replace H : (some t134) = some r := H
                      have A75 := Aside0.mk A750
                      clear A750
                      obtain rfl := Option.some.inj H
                      go_wp2_with (first | ((with_reducible refine gate_callee (f := 17) rfl ?_); refine goesL_ (some 109) rfl rfl Try.func17 (by kernel_rfl) rfl #[.int .i64 x5_6] rfl (by (try simp only [List.map_toArray, List.map_cons, List.map_nil]); first | done | rfl | (simp only [List.length_drop, List.length_take]; rfl)) ?_; (with_reducible refine (state_Reads.calls x5_6 true _ A68.out).mono ?_); rintro e w' ⟨rfl, ⟨nd, rfl⟩⟩; refine ⟨_, rfl, ?_⟩) | (go_at_call 19; (with_reducible refine (state_Writes.calls x5_6 true _ A70.out).mono ?_); rintro e w' ⟨rfl, ⟨nd, rfl⟩⟩) | (go_at_call 11; (with_reducible refine (state_Legal.calls x5_6 1 false _ A72.out).mono ?_); rintro e w76 ⟨rfl, hb⟩; have n0_ := Aside0.mk (Kd.R_below (by (with_reducible repeat (first | apply Kd.R_alloc | apply Kd.R_drewN | apply Kd.R_drew)); exact HO_21.out) hb); have n1_ := Aside0.mk (below_step (by repeat (first | (with_reducible first | exact HB.out | apply below_alloc | apply pw_below_drewN | apply below_drew1) | exact HB.out)) hb); clear HO_21; clear HB; have HO_21 := n0_; have HB := n1_; clear n0_ n1_; (try clear hb); (try clear hb2); (try clear hk); (try clear hi)) | (go_at_call 3; (with_reducible refine (assentlaw13_StateRuns.calls k3  t134 _ A75.out).mono ?_); rintro e w77 ⟨rfl, hb⟩; have n0_ := Aside0.mk (Kd.R_below (by (with_reducible repeat (first | apply Kd.R_alloc | apply Kd.R_drewN | apply Kd.R_drew)); exact HO_21.out) hb); have n1_ := Aside0.mk (below_step (by repeat (first | (with_reducible first | exact HB.out | apply below_alloc | apply pw_below_drewN | apply below_drew1) | exact HB.out)) hb); clear HO_21; clear HB; have HO_21 := n0_; have HB := n1_; clear n0_ n1_; (try clear hb); (try clear hb2); (try clear hk); (try clear hi)))
                      go_ret
                      exact ⟨by first | rfl | (simp [errW_none, errW_some] <;> rfl) | (simp [*, errW_none, errW_some] <;> rfl), by repeat (first | (with_reducible first | exact HB.out | apply below_alloc | apply pw_below_drewN | apply below_drew1) | exact HB.out)⟩
                  · replace c71 := Bool.eq_false_iff.mpr c71
                    subst c71
                    have H1 : ((assentlaw13_StateRuns.f k3).bind fun t135 => (some t135)) = some r := by rw [if_neg (show ¬ (false = true) by decide)] at H; exact H
                    clear H
                    have H := H1
                    clear H1
                    replace H := Option.bind_eq_some_iff.mp H
                    obtain ⟨t135, A780, H⟩ := H
                    replace H : (some t135) = some r := H
                    have A78 := Aside0.mk A780
                    clear A780
                    obtain rfl := Option.some.inj H
                    go_wp2_with (first | ((with_reducible refine gate_callee (f := 17) rfl ?_); refine goesL_ (some 109) rfl rfl Try.func17 (by kernel_rfl) rfl #[.int .i64 x5_6] rfl (by (try simp only [List.map_toArray, List.map_cons, List.map_nil]); first | done | rfl | (simp only [List.length_drop, List.length_take]; rfl)) ?_; (with_reducible refine (state_Reads.calls x5_6 true _ A68.out).mono ?_); rintro e w' ⟨rfl, ⟨nd, rfl⟩⟩; refine ⟨_, rfl, ?_⟩) | (go_at_call 19; (with_reducible refine (state_Writes.calls x5_6 false _ A70.out).mono ?_); rintro e w' ⟨rfl, ⟨nd, rfl⟩⟩) | (go_at_call 3; (with_reducible refine (assentlaw13_StateRuns.calls k3  t135 _ A78.out).mono ?_); rintro e w79 ⟨rfl, hb⟩; have n0_ := Aside0.mk (Kd.R_below (by (with_reducible repeat (first | apply Kd.R_alloc | apply Kd.R_drewN | apply Kd.R_drew)); exact HO_21.out) hb); have n1_ := Aside0.mk (below_step (by repeat (first | (with_reducible first | exact HB.out | apply below_alloc | apply pw_below_drewN | apply below_drew1) | exact HB.out)) hb); clear HO_21; clear HB; have HO_21 := n0_; have HB := n1_; clear n0_ n1_; (try clear hb); (try clear hb2); (try clear hk); (try clear hi)))
                    go_ret
                    exact ⟨by first | rfl | (simp [errW_none, errW_some] <;> rfl) | (simp [*, errW_none, errW_some] <;> rfl), by repeat (first | (with_reducible first | exact HB.out | apply below_alloc | apply pw_below_drewN | apply below_drew1) | exact HB.out)⟩
                · replace c69 := Bool.eq_false_iff.mpr c69
                  subst c69
                  have H1 : (some false) = some r := by rw [if_neg (show ¬ (false = true) by decide)] at H; exact H
                  clear H
                  have H := H1
                  clear H1
                  obtain rfl := Option.some.inj H
                  go_wp2_with (first | ((with_reducible refine gate_callee (f := 17) rfl ?_); refine goesL_ (some 109) rfl rfl Try.func17 (by kernel_rfl) rfl #[.int .i64 x5_6] rfl (by (try simp only [List.map_toArray, List.map_cons, List.map_nil]); first | done | rfl | (simp only [List.length_drop, List.length_take]; rfl)) ?_; (with_reducible refine (state_Reads.calls x5_6 false _ A68.out).mono ?_); rintro e w' ⟨rfl, ⟨nd, rfl⟩⟩; refine ⟨_, rfl, ?_⟩))
                  go_ret
                  exact ⟨by first | rfl | (simp [errW_none, errW_some] <;> rfl) | (simp [*, errW_none, errW_some] <;> rfl), by repeat (first | (with_reducible first | exact HB.out | apply below_alloc | apply pw_below_drewN | apply below_drew1) | exact HB.out)⟩

/-- THE ONE PURE STATEMENT of assentlaw13_StateKeeps: yours. -/
def assentlaw13_StateKeeps.Pure : Prop := ∀ (a0 : Int) (a1 : Int), (Lit.int .i64 a0).wf = true → (Lit.int .i64 a1).wf = true → ∃ k, assentlaw13_StateKeeps.f k a0 a1 = some true
theorem assentlaw13_StateKeeps.walk (P : assentlaw13_StateKeeps.Pure) (a0 : Int) (a1 : Int) (w : World) (w0 : (Lit.int .i64 a0).wf = true) (w1 : (Lit.int .i64 a1).wf = true) :
    Calls Try.prog 7 #[.int .i64 a0, .int .i64 a1] w fun e w' => e = .returned (.bool true) ∧ Below w.heap.size w w' := by
  obtain ⟨k, h⟩ := P a0 a1 w0 w1
  refine (assentlaw13_StateKeeps.calls k a0 a1 true w h).mono ?_
  rintro e w' ⟨rfl, hd⟩
  exact ⟨rfl, hd⟩

end Go.Proofs.Ytdpcnfdjpbbgjaa.PStateKeeps
