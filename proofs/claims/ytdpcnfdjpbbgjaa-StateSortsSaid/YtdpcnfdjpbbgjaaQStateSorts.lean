/- Who may write or is dirty may read; no state may stand beside one that may be written. For all two states. The walk: the printed walk's lines, mended where it falls. -/
import Derived.Test.YtdpcnfdjpbbgjaaPStateSortsx0
import Derived.Test.YtdpcnfdjpbbgjaaPStateSortsx1
namespace Go.Proofs.Ytdpcnfdjpbbgjaa.PStateSorts
open Go.RowKit Go.Proofs.YtdpcnfdjpbbgjaaW.PrintWords Go.Proofs.YtdpcnfdjpbbgjaaW.PrintLast Go.Proofs.YtdpcnfdjpbbgjaaW.PrintMore
attribute [local go_sem] max2_int min2_int max_two min_two max_three min_three max_four min_four   -- for this text's walks alone
set_option linter.unusedVariables false
set_option linter.unusedSimpArgs false

/-! ### assentlaw13_StateSorts: function 9 -/
def assentlaw13_StateSorts.j0 : Nat → Int → Int → Bool → Bool → Option (Bool)
  | 0, _, _, _, _ => none
  | k + 1, x0, x1, x6, x54 => if x54 = true then (some false) else ((state_Legal.f x0 x1).bind fun t117 => ((state_Legal.f x1 x0).bind fun t118 => (if (t117 == t118) = true then (if x6 = true then ((state_Reads.f x1).bind fun t119 => (if t119 = true then ((state_Legal.f x0 x1).bind fun t120 => (if t120 = true then (some false) else ((assentlaw13_StateRuns.f k).bind fun t121 => (some t121)))) else ((assentlaw13_StateRuns.f k).bind fun t122 => (some t122)))) else ((assentlaw13_StateRuns.f k).bind fun t123 => (some t123))) else (some false))))
def assentlaw13_StateSorts.f (k : Nat) (a0 : Int) (a1 : Int) : Option (Bool) := (state_Reads.f a0).bind fun t114 => ((state_Writes.f a0).bind fun t115 => ((state_Dirty.f a0).bind fun t116 => (if t115 = true then (if t114 = true then (if (t116 != (a0 == 4)) = true then (assentlaw13_StateSorts.j0 k a0 a1 t115 true) else (if (false != (a0 == 1)) = true then (assentlaw13_StateSorts.j0 k a0 a1 t115 true) else (if a0 ≥ 1 then (assentlaw13_StateSorts.j0 k a0 a1 t115 (t114 != (decide (a0 ≤ 4)))) else (assentlaw13_StateSorts.j0 k a0 a1 t115 (t114 != false))))) else (assentlaw13_StateSorts.j0 k a0 a1 t115 true)) else (if t116 = true then (if t114 = true then (if (false != (a0 == 4)) = true then (assentlaw13_StateSorts.j0 k a0 a1 t115 true) else (if ((!t116) != (a0 == 1)) = true then (assentlaw13_StateSorts.j0 k a0 a1 t115 true) else (if a0 ≥ 1 then (assentlaw13_StateSorts.j0 k a0 a1 t115 (t114 != (decide (a0 ≤ 4)))) else (assentlaw13_StateSorts.j0 k a0 a1 t115 (t114 != false))))) else (assentlaw13_StateSorts.j0 k a0 a1 t115 true)) else (if (false != (a0 == 4)) = true then (assentlaw13_StateSorts.j0 k a0 a1 t115 true) else (if t114 = true then (if ((!t116) != (a0 == 1)) = true then (assentlaw13_StateSorts.j0 k a0 a1 t115 true) else (if a0 ≥ 1 then (assentlaw13_StateSorts.j0 k a0 a1 t115 (t114 != (decide (a0 ≤ 4)))) else (assentlaw13_StateSorts.j0 k a0 a1 t115 (t114 != false)))) else (if (false != (a0 == 1)) = true then (assentlaw13_StateSorts.j0 k a0 a1 t115 true) else (if a0 ≥ 1 then (assentlaw13_StateSorts.j0 k a0 a1 t115 (t114 != (decide (a0 ≤ 4)))) else (assentlaw13_StateSorts.j0 k a0 a1 t115 (t114 != false))))))))))
theorem assentlaw13_StateSorts.mono_l : ∀ k, (∀ y0 y1 y2 y3, LeO (assentlaw13_StateSorts.j0 k y0 y1 y2 y3) (assentlaw13_StateSorts.j0 (k + 1) y0 y1 y2 y3))
  | 0 => fun _ _ _ _ r h => by simp [assentlaw13_StateSorts.j0] at h
  | k + 1 => by
    have ih0 := assentlaw13_StateSorts.mono_l k
    · intro y0 y1 y2 y3
      unfold assentlaw13_StateSorts.j0
      repeat' first
      | (with_reducible exact ih0 _ _ _ _)
      | (with_reducible exact assentlaw13_StateRuns.mono _)
      | (with_reducible exact LeO.refl _)
      | (with_reducible exact LeO.none _)
      | (with_reducible refine LeO.ite ?_ ?_)
      | (with_reducible refine LeO.bind ?_ (fun _ => ?_))
      | exact ih0 _ _ _ _
      | exact assentlaw13_StateRuns.mono _
      | exact LeO.none _
      | refine LeO.ite ?_ ?_
      | refine LeO.bind ?_ (fun _ => ?_)
theorem assentlaw13_StateSorts.mono : ∀ a0 a1 k, LeO (assentlaw13_StateSorts.f k a0 a1) (assentlaw13_StateSorts.f (k + 1) a0 a1) := by
  intro a0 a1 k
  have ih0 := assentlaw13_StateSorts.mono_l k
  unfold assentlaw13_StateSorts.f
  repeat' first
      | (with_reducible exact ih0 _ _ _ _)
      | (with_reducible exact assentlaw13_StateRuns.mono _)
      | (with_reducible exact LeO.refl _)
      | (with_reducible exact LeO.none _)
      | (with_reducible refine LeO.ite ?_ ?_)
      | (with_reducible refine LeO.bind ?_ (fun _ => ?_))
      | exact ih0 _ _ _ _
      | exact assentlaw13_StateRuns.mono _
      | exact LeO.none _
      | refine LeO.ite ?_ ?_
      | refine LeO.bind ?_ (fun _ => ?_)
set_option maxHeartbeats 8000000 in
set_option maxRecDepth 100000 in
theorem assentlaw13_StateSorts.calls (k : Nat) (a0 : Int) (a1 : Int) (r : Bool) (w : World) (h : assentlaw13_StateSorts.f k a0 a1 = some r) :
    Calls Try.prog 9 #[.int .i64 a0, .int .i64 a1] w fun e w' => e = .returned (.bool r) ∧ Below w.heap.size w w' := by
  have HB := Aside0.mk (Below.refl w.heap.size w)
  have H : ((state_Reads.f a0).bind fun t114 => ((state_Writes.f a0).bind fun t115 => ((state_Dirty.f a0).bind fun t116 => (if t115 = true then (if t114 = true then (if (t116 != (a0 == 4)) = true then (assentlaw13_StateSorts.j0 k a0 a1 t115 true) else (if (false != (a0 == 1)) = true then (assentlaw13_StateSorts.j0 k a0 a1 t115 true) else (if a0 ≥ 1 then (assentlaw13_StateSorts.j0 k a0 a1 t115 (t114 != (decide (a0 ≤ 4)))) else (assentlaw13_StateSorts.j0 k a0 a1 t115 (t114 != false))))) else (assentlaw13_StateSorts.j0 k a0 a1 t115 true)) else (if t116 = true then (if t114 = true then (if (false != (a0 == 4)) = true then (assentlaw13_StateSorts.j0 k a0 a1 t115 true) else (if ((!t116) != (a0 == 1)) = true then (assentlaw13_StateSorts.j0 k a0 a1 t115 true) else (if a0 ≥ 1 then (assentlaw13_StateSorts.j0 k a0 a1 t115 (t114 != (decide (a0 ≤ 4)))) else (assentlaw13_StateSorts.j0 k a0 a1 t115 (t114 != false))))) else (assentlaw13_StateSorts.j0 k a0 a1 t115 true)) else (if (false != (a0 == 4)) = true then (assentlaw13_StateSorts.j0 k a0 a1 t115 true) else (if t114 = true then (if ((!t116) != (a0 == 1)) = true then (assentlaw13_StateSorts.j0 k a0 a1 t115 true) else (if a0 ≥ 1 then (assentlaw13_StateSorts.j0 k a0 a1 t115 (t114 != (decide (a0 ≤ 4)))) else (assentlaw13_StateSorts.j0 k a0 a1 t115 (t114 != false)))) else (if (false != (a0 == 1)) = true then (assentlaw13_StateSorts.j0 k a0 a1 t115 true) else (if a0 ≥ 1 then (assentlaw13_StateSorts.j0 k a0 a1 t115 (t114 != (decide (a0 ≤ 4)))) else (assentlaw13_StateSorts.j0 k a0 a1 t115 (t114 != false))))))))))) = some r := h
  clear h
  replace H := Option.bind_eq_some_iff.mp H
  obtain ⟨t114, A30, H⟩ := H
  replace H : ((state_Writes.f a0).bind fun t115 => ((state_Dirty.f a0).bind fun t116 => (if t115 = true then (if t114 = true then (if (t116 != (a0 == 4)) = true then (assentlaw13_StateSorts.j0 k a0 a1 t115 true) else (if (false != (a0 == 1)) = true then (assentlaw13_StateSorts.j0 k a0 a1 t115 true) else (if a0 ≥ 1 then (assentlaw13_StateSorts.j0 k a0 a1 t115 (t114 != (decide (a0 ≤ 4)))) else (assentlaw13_StateSorts.j0 k a0 a1 t115 (t114 != false))))) else (assentlaw13_StateSorts.j0 k a0 a1 t115 true)) else (if t116 = true then (if t114 = true then (if (false != (a0 == 4)) = true then (assentlaw13_StateSorts.j0 k a0 a1 t115 true) else (if ((!t116) != (a0 == 1)) = true then (assentlaw13_StateSorts.j0 k a0 a1 t115 true) else (if a0 ≥ 1 then (assentlaw13_StateSorts.j0 k a0 a1 t115 (t114 != (decide (a0 ≤ 4)))) else (assentlaw13_StateSorts.j0 k a0 a1 t115 (t114 != false))))) else (assentlaw13_StateSorts.j0 k a0 a1 t115 true)) else (if (false != (a0 == 4)) = true then (assentlaw13_StateSorts.j0 k a0 a1 t115 true) else (if t114 = true then (if ((!t116) != (a0 == 1)) = true then (assentlaw13_StateSorts.j0 k a0 a1 t115 true) else (if a0 ≥ 1 then (assentlaw13_StateSorts.j0 k a0 a1 t115 (t114 != (decide (a0 ≤ 4)))) else (assentlaw13_StateSorts.j0 k a0 a1 t115 (t114 != false)))) else (if (false != (a0 == 1)) = true then (assentlaw13_StateSorts.j0 k a0 a1 t115 true) else (if a0 ≥ 1 then (assentlaw13_StateSorts.j0 k a0 a1 t115 (t114 != (decide (a0 ≤ 4)))) else (assentlaw13_StateSorts.j0 k a0 a1 t115 (t114 != false)))))))))) = some r := H
  have A3 := Aside0.mk A30
  clear A30
  replace H := Option.bind_eq_some_iff.mp H
  obtain ⟨t115, A40, H⟩ := H
  replace H : ((state_Dirty.f a0).bind fun t116 => (if t115 = true then (if t114 = true then (if (t116 != (a0 == 4)) = true then (assentlaw13_StateSorts.j0 k a0 a1 t115 true) else (if (false != (a0 == 1)) = true then (assentlaw13_StateSorts.j0 k a0 a1 t115 true) else (if a0 ≥ 1 then (assentlaw13_StateSorts.j0 k a0 a1 t115 (t114 != (decide (a0 ≤ 4)))) else (assentlaw13_StateSorts.j0 k a0 a1 t115 (t114 != false))))) else (assentlaw13_StateSorts.j0 k a0 a1 t115 true)) else (if t116 = true then (if t114 = true then (if (false != (a0 == 4)) = true then (assentlaw13_StateSorts.j0 k a0 a1 t115 true) else (if ((!t116) != (a0 == 1)) = true then (assentlaw13_StateSorts.j0 k a0 a1 t115 true) else (if a0 ≥ 1 then (assentlaw13_StateSorts.j0 k a0 a1 t115 (t114 != (decide (a0 ≤ 4)))) else (assentlaw13_StateSorts.j0 k a0 a1 t115 (t114 != false))))) else (assentlaw13_StateSorts.j0 k a0 a1 t115 true)) else (if (false != (a0 == 4)) = true then (assentlaw13_StateSorts.j0 k a0 a1 t115 true) else (if t114 = true then (if ((!t116) != (a0 == 1)) = true then (assentlaw13_StateSorts.j0 k a0 a1 t115 true) else (if a0 ≥ 1 then (assentlaw13_StateSorts.j0 k a0 a1 t115 (t114 != (decide (a0 ≤ 4)))) else (assentlaw13_StateSorts.j0 k a0 a1 t115 (t114 != false)))) else (if (false != (a0 == 1)) = true then (assentlaw13_StateSorts.j0 k a0 a1 t115 true) else (if a0 ≥ 1 then (assentlaw13_StateSorts.j0 k a0 a1 t115 (t114 != (decide (a0 ≤ 4)))) else (assentlaw13_StateSorts.j0 k a0 a1 t115 (t114 != false))))))))) = some r := H
  have A4 := Aside0.mk A40
  clear A40
  replace H := Option.bind_eq_some_iff.mp H
  obtain ⟨t116, A50, H⟩ := H
  replace H : (if t115 = true then (if t114 = true then (if (t116 != (a0 == 4)) = true then (assentlaw13_StateSorts.j0 k a0 a1 t115 true) else (if (false != (a0 == 1)) = true then (assentlaw13_StateSorts.j0 k a0 a1 t115 true) else (if a0 ≥ 1 then (assentlaw13_StateSorts.j0 k a0 a1 t115 (t114 != (decide (a0 ≤ 4)))) else (assentlaw13_StateSorts.j0 k a0 a1 t115 (t114 != false))))) else (assentlaw13_StateSorts.j0 k a0 a1 t115 true)) else (if t116 = true then (if t114 = true then (if (false != (a0 == 4)) = true then (assentlaw13_StateSorts.j0 k a0 a1 t115 true) else (if ((!t116) != (a0 == 1)) = true then (assentlaw13_StateSorts.j0 k a0 a1 t115 true) else (if a0 ≥ 1 then (assentlaw13_StateSorts.j0 k a0 a1 t115 (t114 != (decide (a0 ≤ 4)))) else (assentlaw13_StateSorts.j0 k a0 a1 t115 (t114 != false))))) else (assentlaw13_StateSorts.j0 k a0 a1 t115 true)) else (if (false != (a0 == 4)) = true then (assentlaw13_StateSorts.j0 k a0 a1 t115 true) else (if t114 = true then (if ((!t116) != (a0 == 1)) = true then (assentlaw13_StateSorts.j0 k a0 a1 t115 true) else (if a0 ≥ 1 then (assentlaw13_StateSorts.j0 k a0 a1 t115 (t114 != (decide (a0 ≤ 4)))) else (assentlaw13_StateSorts.j0 k a0 a1 t115 (t114 != false)))) else (if (false != (a0 == 1)) = true then (assentlaw13_StateSorts.j0 k a0 a1 t115 true) else (if a0 ≥ 1 then (assentlaw13_StateSorts.j0 k a0 a1 t115 (t114 != (decide (a0 ≤ 4)))) else (assentlaw13_StateSorts.j0 k a0 a1 t115 (t114 != false)))))))) = some r := H
  have A5 := Aside0.mk A50
  clear A50
  have HC6 := Aside0.mk H
  clear H
  go_enter Try.func9, Try.ntmps9
  go_upto_region 2 with (first | ((with_reducible refine gate_callee (f := 17) rfl ?_); refine goesL_ (some 9) rfl rfl Try.func17 (by kernel_rfl) rfl #[.int .i64 a0] rfl (by (try simp only [List.map_toArray, List.map_cons, List.map_nil]); first | done | rfl | (simp only [List.length_drop, List.length_take]; rfl)) ?_; (with_reducible refine (state_Reads.calls a0 t114 _ A3.out).mono ?_); rintro e w' ⟨rfl, ⟨nd, rfl⟩⟩; refine ⟨_, rfl, ?_⟩) | ((with_reducible refine gate_callee (f := 19) rfl ?_); refine goesL_ (some 11) rfl rfl Try.func19 (by kernel_rfl) rfl #[.int .i64 a0] rfl (by (try simp only [List.map_toArray, List.map_cons, List.map_nil]); first | done | rfl | (simp only [List.length_drop, List.length_take]; rfl)) ?_; (with_reducible refine (state_Writes.calls a0 t115 _ A4.out).mono ?_); rintro e w' ⟨rfl, ⟨nd, rfl⟩⟩; refine ⟨_, rfl, ?_⟩) | ((with_reducible refine gate_callee (f := 15) rfl ?_); refine goesL_ (some 13) rfl rfl Try.func15 (by kernel_rfl) rfl #[.int .i64 a0] rfl (by (try simp only [List.map_toArray, List.map_cons, List.map_nil]); first | done | rfl | (simp only [List.length_drop, List.length_take]; rfl)) ?_; (with_reducible refine (state_Dirty.calls a0 t116 _ A5.out).mono ?_); rintro e w' ⟨rfl, ⟨nd, rfl⟩⟩; refine ⟨_, rfl, ?_⟩))
  (try simp only [Act.put, List.setIfInBounds_toArray, List.set_cons_zero, List.set_cons_succ])
  go_cut [54] (fun v54 wc => ∃ (kq : Nat) (x54_5 : Bool), v54 = .bool x54_5 ∧ Aside0 (assentlaw13_StateSorts.j0 kq a0 a1 t115 x54_5 = some r) ∧ Aside0 (kq ≤ k) ∧ Aside0 (Below w.heap.size w wc))
  case first =>
    have H := HC6.out
    clear HC6
    by_cases c7 : t115 = true
    · subst c7
      have H1 : (if t114 = true then (if (t116 != (a0 == 4)) = true then (assentlaw13_StateSorts.j0 k a0 a1 true true) else (if (false != (a0 == 1)) = true then (assentlaw13_StateSorts.j0 k a0 a1 true true) else (if a0 ≥ 1 then (assentlaw13_StateSorts.j0 k a0 a1 true (t114 != (decide (a0 ≤ 4)))) else (assentlaw13_StateSorts.j0 k a0 a1 true (t114 != false))))) else (assentlaw13_StateSorts.j0 k a0 a1 true true)) = some r := by rw [if_pos rfl] at H; exact H
      clear H
      have H := H1
      clear H1
      by_cases c8 : t114 = true
      · subst c8
        have H1 : (if (t116 != (a0 == 4)) = true then (assentlaw13_StateSorts.j0 k a0 a1 true true) else (if (false != (a0 == 1)) = true then (assentlaw13_StateSorts.j0 k a0 a1 true true) else (if a0 ≥ 1 then (assentlaw13_StateSorts.j0 k a0 a1 true (true != (decide (a0 ≤ 4)))) else (assentlaw13_StateSorts.j0 k a0 a1 true (true != false))))) = some r := by rw [if_pos rfl] at H; exact H
        clear H
        have H := H1
        clear H1
        by_cases c9 : (t116 != (a0 == 4)) = true
        · rw [if_pos c9] at H
          have c9b0 : (t116 != (a0 == 4)) = true := c9
          (try (have c9b1 : decide (t116 = (a0 == 4)) = false := by simpa using c9))
          (try (have c9b2 : (t116 == (a0 == 4)) = false := by simpa using c9))
          (try (have c9b3 : ¬ (t116 = (a0 == 4)) := by simpa using c9))
          clear c9
          (first | rw [c9b0] | rw [c9b1] | (simp only [i64_w, i32_w]; rw [c9b0]) | skip)
          have H' := Aside0.mk H
          clear H
          go_wp2
          go_meet
          case rel => exact ⟨_, (true), (by first | rfl | (simp; done) | (simp [*]; done)), H', ⟨by first | omega | exact Nat.le_refl _⟩, ⟨by repeat (first | (with_reducible first | exact HB.out | apply below_alloc | apply pw_below_drewN | apply below_drew1) | exact HB.out)⟩⟩
        · rw [if_neg c9] at H
          have c9b0 : (t116 != (a0 == 4)) = false := by simpa using c9
          (try (have c9b1 : decide (t116 = (a0 == 4)) = true := by simpa using c9))
          (try (have c9b2 : (t116 == (a0 == 4)) = true := by simpa using c9))
          clear c9
          (first | rw [c9b0] | rw [c9b1] | (simp only [i64_w, i32_w]; rw [c9b0]) | skip)
          by_cases c10 : (false != (a0 == 1)) = true
          · rw [if_pos c10] at H
            have c10b0 : (false != (a0 == 1)) = true := c10
            (try (have c10b1 : decide (false = (a0 == 1)) = false := by simpa using c10))
            (try (have c10b2 : (false == (a0 == 1)) = false := by simpa using c10))
            (try (have c10b3 : ¬ (false = (a0 == 1)) := by simpa using c10))
            clear c10
            have H' := Aside0.mk H
            clear H
            go_wp2
            go_meet
            case rel => exact ⟨_, (true), (by first | rfl | (simp; done) | (simp [*]; done)), H', ⟨by first | omega | exact Nat.le_refl _⟩, ⟨by repeat (first | (with_reducible first | exact HB.out | apply below_alloc | apply pw_below_drewN | apply below_drew1) | exact HB.out)⟩⟩
          · rw [if_neg c10] at H
            have c10b0 : (false != (a0 == 1)) = false := by simpa using c10
            (try (have c10b1 : decide (false = (a0 == 1)) = true := by simpa using c10))
            (try (have c10b2 : (false == (a0 == 1)) = true := by simpa using c10))
            clear c10
            by_cases c11 : a0 ≥ 1
            · rw [if_pos c11] at H
              have c11b0 : decide (1 ≤ a0) = true := decide_eq_true c11
              clear c11
              have H' := Aside0.mk H
              clear H
              go_wp2
              go_meet
              case rel => exact ⟨_, ((true != (decide (a0 ≤ 4)))), (by first | rfl | (simp; done) | (simp [*]; done)), H', ⟨by first | omega | exact Nat.le_refl _⟩, ⟨by repeat (first | (with_reducible first | exact HB.out | apply below_alloc | apply pw_below_drewN | apply below_drew1) | exact HB.out)⟩⟩
            · rw [if_neg c11] at H
              have c11b0 : decide (1 ≤ a0) = false := decide_eq_false c11
              clear c11
              have H' := Aside0.mk H
              clear H
              go_wp2
              go_meet
              case rel => exact ⟨_, ((true != false)), (by first | rfl | (simp; done) | (simp [*]; done)), H', ⟨by first | omega | exact Nat.le_refl _⟩, ⟨by repeat (first | (with_reducible first | exact HB.out | apply below_alloc | apply pw_below_drewN | apply below_drew1) | exact HB.out)⟩⟩
      · replace c8 := Bool.eq_false_iff.mpr c8
        subst c8
        have H1 : (assentlaw13_StateSorts.j0 k a0 a1 true true) = some r := by rw [if_neg (show ¬ (false = true) by decide)] at H; exact H
        clear H
        have H := H1
        clear H1
        have H' := Aside0.mk H
        clear H
        go_wp2
        go_meet
        case rel => exact ⟨_, (true), (by first | rfl | (simp; done) | (simp [*]; done)), H', ⟨by first | omega | exact Nat.le_refl _⟩, ⟨by repeat (first | (with_reducible first | exact HB.out | apply below_alloc | apply pw_below_drewN | apply below_drew1) | exact HB.out)⟩⟩
    · replace c7 := Bool.eq_false_iff.mpr c7
      subst c7
      have H1 : (if t116 = true then (if t114 = true then (if (false != (a0 == 4)) = true then (assentlaw13_StateSorts.j0 k a0 a1 false true) else (if ((!t116) != (a0 == 1)) = true then (assentlaw13_StateSorts.j0 k a0 a1 false true) else (if a0 ≥ 1 then (assentlaw13_StateSorts.j0 k a0 a1 false (t114 != (decide (a0 ≤ 4)))) else (assentlaw13_StateSorts.j0 k a0 a1 false (t114 != false))))) else (assentlaw13_StateSorts.j0 k a0 a1 false true)) else (if (false != (a0 == 4)) = true then (assentlaw13_StateSorts.j0 k a0 a1 false true) else (if t114 = true then (if ((!t116) != (a0 == 1)) = true then (assentlaw13_StateSorts.j0 k a0 a1 false true) else (if a0 ≥ 1 then (assentlaw13_StateSorts.j0 k a0 a1 false (t114 != (decide (a0 ≤ 4)))) else (assentlaw13_StateSorts.j0 k a0 a1 false (t114 != false)))) else (if (false != (a0 == 1)) = true then (assentlaw13_StateSorts.j0 k a0 a1 false true) else (if a0 ≥ 1 then (assentlaw13_StateSorts.j0 k a0 a1 false (t114 != (decide (a0 ≤ 4)))) else (assentlaw13_StateSorts.j0 k a0 a1 false (t114 != false))))))) = some r := by rw [if_neg (show ¬ (false = true) by decide)] at H; exact H
      clear H
      have H := H1
      clear H1
      by_cases c12 : t116 = true
      · subst c12
        have H1 : (if t114 = true then (if (false != (a0 == 4)) = true then (assentlaw13_StateSorts.j0 k a0 a1 false true) else (if ((!true) != (a0 == 1)) = true then (assentlaw13_StateSorts.j0 k a0 a1 false true) else (if a0 ≥ 1 then (assentlaw13_StateSorts.j0 k a0 a1 false (t114 != (decide (a0 ≤ 4)))) else (assentlaw13_StateSorts.j0 k a0 a1 false (t114 != false))))) else (assentlaw13_StateSorts.j0 k a0 a1 false true)) = some r := by rw [if_pos rfl] at H; exact H
        clear H
        have H := H1
        clear H1
        by_cases c13 : t114 = true
        · subst c13
          have H1 : (if (false != (a0 == 4)) = true then (assentlaw13_StateSorts.j0 k a0 a1 false true) else (if ((!true) != (a0 == 1)) = true then (assentlaw13_StateSorts.j0 k a0 a1 false true) else (if a0 ≥ 1 then (assentlaw13_StateSorts.j0 k a0 a1 false (true != (decide (a0 ≤ 4)))) else (assentlaw13_StateSorts.j0 k a0 a1 false (true != false))))) = some r := by rw [if_pos rfl] at H; exact H
          clear H
          have H := H1
          clear H1
          by_cases c14 : (false != (a0 == 4)) = true
          · rw [if_pos c14] at H
            have c14b0 : (false != (a0 == 4)) = true := c14
            (try (have c14b1 : decide (false = (a0 == 4)) = false := by simpa using c14))
            (try (have c14b2 : (false == (a0 == 4)) = false := by simpa using c14))
            (try (have c14b3 : ¬ (false = (a0 == 4)) := by simpa using c14))
            clear c14
            have H' := Aside0.mk H
            clear H
            go_wp2
            go_meet
            case rel => exact ⟨_, (true), (by first | rfl | (simp; done) | (simp [*]; done)), H', ⟨by first | omega | exact Nat.le_refl _⟩, ⟨by repeat (first | (with_reducible first | exact HB.out | apply below_alloc | apply pw_below_drewN | apply below_drew1) | exact HB.out)⟩⟩
          · rw [if_neg c14] at H
            have c14b0 : (false != (a0 == 4)) = false := by simpa using c14
            (try (have c14b1 : decide (false = (a0 == 4)) = true := by simpa using c14))
            (try (have c14b2 : (false == (a0 == 4)) = true := by simpa using c14))
            clear c14
            by_cases c15 : ((!true) != (a0 == 1)) = true
            · rw [if_pos c15] at H
              have c15b0 : (a0 == 1) = true := by simpa using c15
              clear c15
              have H' := Aside0.mk H
              clear H
              go_wp2
              go_meet
              case rel => exact ⟨_, (true), (by first | rfl | (simp; done) | (simp [*]; done)), H', ⟨by first | omega | exact Nat.le_refl _⟩, ⟨by repeat (first | (with_reducible first | exact HB.out | apply below_alloc | apply pw_below_drewN | apply below_drew1) | exact HB.out)⟩⟩
            · rw [if_neg c15] at H
              have c15b0 : (a0 == 1) = false := by simpa using c15
              clear c15
              by_cases c16 : a0 ≥ 1
              · rw [if_pos c16] at H
                have c16b0 : decide (1 ≤ a0) = true := decide_eq_true c16
                clear c16
                have H' := Aside0.mk H
                clear H
                go_wp2
                go_meet
                case rel => exact ⟨_, ((true != (decide (a0 ≤ 4)))), (by first | rfl | (simp; done) | (simp [*]; done)), H', ⟨by first | omega | exact Nat.le_refl _⟩, ⟨by repeat (first | (with_reducible first | exact HB.out | apply below_alloc | apply pw_below_drewN | apply below_drew1) | exact HB.out)⟩⟩
              · rw [if_neg c16] at H
                have c16b0 : decide (1 ≤ a0) = false := decide_eq_false c16
                clear c16
                have H' := Aside0.mk H
                clear H
                go_wp2
                go_meet
                case rel => exact ⟨_, ((true != false)), (by first | rfl | (simp; done) | (simp [*]; done)), H', ⟨by first | omega | exact Nat.le_refl _⟩, ⟨by repeat (first | (with_reducible first | exact HB.out | apply below_alloc | apply pw_below_drewN | apply below_drew1) | exact HB.out)⟩⟩
        · replace c13 := Bool.eq_false_iff.mpr c13
          subst c13
          have H1 : (assentlaw13_StateSorts.j0 k a0 a1 false true) = some r := by rw [if_neg (show ¬ (false = true) by decide)] at H; exact H
          clear H
          have H := H1
          clear H1
          have H' := Aside0.mk H
          clear H
          go_wp2
          go_meet
          case rel => exact ⟨_, (true), (by first | rfl | (simp; done) | (simp [*]; done)), H', ⟨by first | omega | exact Nat.le_refl _⟩, ⟨by repeat (first | (with_reducible first | exact HB.out | apply below_alloc | apply pw_below_drewN | apply below_drew1) | exact HB.out)⟩⟩
      · replace c12 := Bool.eq_false_iff.mpr c12
        subst c12
        have H1 : (if (false != (a0 == 4)) = true then (assentlaw13_StateSorts.j0 k a0 a1 false true) else (if t114 = true then (if ((!false) != (a0 == 1)) = true then (assentlaw13_StateSorts.j0 k a0 a1 false true) else (if a0 ≥ 1 then (assentlaw13_StateSorts.j0 k a0 a1 false (t114 != (decide (a0 ≤ 4)))) else (assentlaw13_StateSorts.j0 k a0 a1 false (t114 != false)))) else (if (false != (a0 == 1)) = true then (assentlaw13_StateSorts.j0 k a0 a1 false true) else (if a0 ≥ 1 then (assentlaw13_StateSorts.j0 k a0 a1 false (t114 != (decide (a0 ≤ 4)))) else (assentlaw13_StateSorts.j0 k a0 a1 false (t114 != false)))))) = some r := by rw [if_neg (show ¬ (false = true) by decide)] at H; exact H
        clear H
        have H := H1
        clear H1
        by_cases c17 : (false != (a0 == 4)) = true
        · rw [if_pos c17] at H
          have c17b0 : (false != (a0 == 4)) = true := c17
          (try (have c17b1 : decide (false = (a0 == 4)) = false := by simpa using c17))
          (try (have c17b2 : (false == (a0 == 4)) = false := by simpa using c17))
          (try (have c17b3 : ¬ (false = (a0 == 4)) := by simpa using c17))
          clear c17
          have H' := Aside0.mk H
          clear H
          go_wp2
          go_meet
          case rel => exact ⟨_, (true), (by first | rfl | (simp; done) | (simp [*]; done)), H', ⟨by first | omega | exact Nat.le_refl _⟩, ⟨by repeat (first | (with_reducible first | exact HB.out | apply below_alloc | apply pw_below_drewN | apply below_drew1) | exact HB.out)⟩⟩
        · rw [if_neg c17] at H
          have c17b0 : (false != (a0 == 4)) = false := by simpa using c17
          (try (have c17b1 : decide (false = (a0 == 4)) = true := by simpa using c17))
          (try (have c17b2 : (false == (a0 == 4)) = true := by simpa using c17))
          clear c17
          by_cases c18 : t114 = true
          · subst c18
            have H1 : (if ((!false) != (a0 == 1)) = true then (assentlaw13_StateSorts.j0 k a0 a1 false true) else (if a0 ≥ 1 then (assentlaw13_StateSorts.j0 k a0 a1 false (true != (decide (a0 ≤ 4)))) else (assentlaw13_StateSorts.j0 k a0 a1 false (true != false)))) = some r := by rw [if_pos rfl] at H; exact H
            clear H
            have H := H1
            clear H1
            by_cases c19 : ((!false) != (a0 == 1)) = true
            · rw [if_pos c19] at H
              have c19b0 : (a0 == 1) = false := by simpa using c19
              clear c19
              have H' := Aside0.mk H
              clear H
              go_wp2
              go_meet
              case rel => exact ⟨_, (true), (by first | rfl | (simp; done) | (simp [*]; done)), H', ⟨by first | omega | exact Nat.le_refl _⟩, ⟨by repeat (first | (with_reducible first | exact HB.out | apply below_alloc | apply pw_below_drewN | apply below_drew1) | exact HB.out)⟩⟩
            · rw [if_neg c19] at H
              have c19b0 : (a0 == 1) = true := by simpa using c19
              clear c19
              by_cases c20 : a0 ≥ 1
              · rw [if_pos c20] at H
                have c20b0 : decide (1 ≤ a0) = true := decide_eq_true c20
                clear c20
                have H' := Aside0.mk H
                clear H
                go_wp2
                go_meet
                case rel => exact ⟨_, ((true != (decide (a0 ≤ 4)))), (by first | rfl | (simp; done) | (simp [*]; done)), H', ⟨by first | omega | exact Nat.le_refl _⟩, ⟨by repeat (first | (with_reducible first | exact HB.out | apply below_alloc | apply pw_below_drewN | apply below_drew1) | exact HB.out)⟩⟩
              · rw [if_neg c20] at H
                have c20b0 : decide (1 ≤ a0) = false := decide_eq_false c20
                clear c20
                have H' := Aside0.mk H
                clear H
                go_wp2
                go_meet
                case rel => exact ⟨_, ((true != false)), (by first | rfl | (simp; done) | (simp [*]; done)), H', ⟨by first | omega | exact Nat.le_refl _⟩, ⟨by repeat (first | (with_reducible first | exact HB.out | apply below_alloc | apply pw_below_drewN | apply below_drew1) | exact HB.out)⟩⟩
          · replace c18 := Bool.eq_false_iff.mpr c18
            subst c18
            have H1 : (if (false != (a0 == 1)) = true then (assentlaw13_StateSorts.j0 k a0 a1 false true) else (if a0 ≥ 1 then (assentlaw13_StateSorts.j0 k a0 a1 false (false != (decide (a0 ≤ 4)))) else (assentlaw13_StateSorts.j0 k a0 a1 false (false != false)))) = some r := by rw [if_neg (show ¬ (false = true) by decide)] at H; exact H
            clear H
            have H := H1
            clear H1
            by_cases c21 : (false != (a0 == 1)) = true
            · rw [if_pos c21] at H
              have c21b0 : (false != (a0 == 1)) = true := c21
              (try (have c21b1 : decide (false = (a0 == 1)) = false := by simpa using c21))
              (try (have c21b2 : (false == (a0 == 1)) = false := by simpa using c21))
              (try (have c21b3 : ¬ (false = (a0 == 1)) := by simpa using c21))
              clear c21
              have H' := Aside0.mk H
              clear H
              go_wp2
              go_meet
              case rel => exact ⟨_, (true), (by first | rfl | (simp; done) | (simp [*]; done)), H', ⟨by first | omega | exact Nat.le_refl _⟩, ⟨by repeat (first | (with_reducible first | exact HB.out | apply below_alloc | apply pw_below_drewN | apply below_drew1) | exact HB.out)⟩⟩
            · rw [if_neg c21] at H
              have c21b0 : (false != (a0 == 1)) = false := by simpa using c21
              (try (have c21b1 : decide (false = (a0 == 1)) = true := by simpa using c21))
              (try (have c21b2 : (false == (a0 == 1)) = true := by simpa using c21))
              clear c21
              by_cases c22 : a0 ≥ 1
              · rw [if_pos c22] at H
                have c22b0 : decide (1 ≤ a0) = true := decide_eq_true c22
                clear c22
                have H' := Aside0.mk H
                clear H
                go_wp2
                go_meet
                case rel => exact ⟨_, ((false != (decide (a0 ≤ 4)))), (by first | rfl | (simp; done) | (simp [*]; done)), H', ⟨by first | omega | exact Nat.le_refl _⟩, ⟨by repeat (first | (with_reducible first | exact HB.out | apply below_alloc | apply pw_below_drewN | apply below_drew1) | exact HB.out)⟩⟩
              · rw [if_neg c22] at H
                have c22b0 : decide (1 ≤ a0) = false := decide_eq_false c22
                clear c22
                have H' := Aside0.mk H
                clear H
                go_wp2
                go_meet
                case rel => exact ⟨_, ((false != false)), (by first | rfl | (simp; done) | (simp [*]; done)), H', ⟨by first | omega | exact Nat.le_refl _⟩, ⟨by repeat (first | (with_reducible first | exact HB.out | apply below_alloc | apply pw_below_drewN | apply below_drew1) | exact HB.out)⟩⟩
  case rest =>
    clear HC6
    try clear c1
    try clear c2
    try clear p2
    try clear c7
    try clear c8
    try clear c9
    try clear c9b0
    try clear c9b1
    try clear c9b2
    try clear c10
    try clear c10b0
    try clear c10b1
    try clear c10b2
    try clear c11
    try clear c11b0
    try clear c12
    try clear c13
    try clear c14
    try clear c14b0
    try clear c14b1
    try clear c14b2
    try clear c15
    try clear c15b0
    try clear c15b1
    try clear c15b2
    try clear c16
    try clear c16b0
    try clear c17
    try clear c17b0
    try clear c17b1
    try clear c17b2
    try clear c18
    try clear c19
    try clear c19b0
    try clear c19b1
    try clear c19b2
    try clear c20
    try clear c20b0
    try clear c21
    try clear c21b0
    try clear c21b1
    try clear c21b2
    try clear c22
    try clear c22b0
    obtain ⟨kq, x54_5, rfl, HA, HJ5, HB⟩ := hcut
    cases kq with
    | zero => exact absurd HA.out (by simp [assentlaw13_StateSorts.j0])
    | succ kj5 =>
      have H := HA.out
      clear HA
      simp only [assentlaw13_StateSorts.j0] at H
      by_cases c23 : x54_5 = true
      · subst c23
        have H1 : (some false) = some r := by rw [if_pos rfl] at H; exact H
        clear H
        have H := H1
        clear H1
        obtain rfl := Option.some.inj H
        go_wp2
        go_ret
        exact ⟨by first | rfl | (simp [errW_none, errW_some] <;> rfl) | (simp [*, errW_none, errW_some] <;> rfl), by repeat (first | (with_reducible first | exact HB.out | apply below_alloc | apply pw_below_drewN | apply below_drew1) | exact HB.out)⟩
      · replace c23 := Bool.eq_false_iff.mpr c23
        subst c23
        have H1 : ((state_Legal.f a0 a1).bind fun t117 => ((state_Legal.f a1 a0).bind fun t118 => (if (t117 == t118) = true then (if t115 = true then ((state_Reads.f a1).bind fun t119 => (if t119 = true then ((state_Legal.f a0 a1).bind fun t120 => (if t120 = true then (some false) else ((assentlaw13_StateRuns.f kj5).bind fun t121 => (some t121)))) else ((assentlaw13_StateRuns.f kj5).bind fun t122 => (some t122)))) else ((assentlaw13_StateRuns.f kj5).bind fun t123 => (some t123))) else (some false)))) = some r := by rw [if_neg (show ¬ (false = true) by decide)] at H; exact H
        clear H
        have H := H1
        clear H1
        replace H := Option.bind_eq_some_iff.mp H
        obtain ⟨t117, A240, H⟩ := H
        replace H : ((state_Legal.f a1 a0).bind fun t118 => (if (t117 == t118) = true then (if t115 = true then ((state_Reads.f a1).bind fun t119 => (if t119 = true then ((state_Legal.f a0 a1).bind fun t120 => (if t120 = true then (some false) else ((assentlaw13_StateRuns.f kj5).bind fun t121 => (some t121)))) else ((assentlaw13_StateRuns.f kj5).bind fun t122 => (some t122)))) else ((assentlaw13_StateRuns.f kj5).bind fun t123 => (some t123))) else (some false))) = some r := H
        have A24 := Aside0.mk A240
        clear A240
        replace H := Option.bind_eq_some_iff.mp H
        obtain ⟨t118, A250, H⟩ := H
        replace H : (if (t117 == t118) = true then (if t115 = true then ((state_Reads.f a1).bind fun t119 => (if t119 = true then ((state_Legal.f a0 a1).bind fun t120 => (if t120 = true then (some false) else ((assentlaw13_StateRuns.f kj5).bind fun t121 => (some t121)))) else ((assentlaw13_StateRuns.f kj5).bind fun t122 => (some t122)))) else ((assentlaw13_StateRuns.f kj5).bind fun t123 => (some t123))) else (some false)) = some r := H
        have A25 := Aside0.mk A250
        clear A250
        by_cases c26 : (t117 == t118) = true
        · rw [if_pos c26] at H
          have c26b0 : (t117 == t118) = true := c26
          (try (have c26b1 : decide (t117 = t118) = true := by simpa using c26))
          (try (have c26b2 : (t117 == t118) = true := by simpa using c26))
          clear c26
          by_cases c27 : t115 = true
          · subst c27
            have H1 : ((state_Reads.f a1).bind fun t119 => (if t119 = true then ((state_Legal.f a0 a1).bind fun t120 => (if t120 = true then (some false) else ((assentlaw13_StateRuns.f kj5).bind fun t121 => (some t121)))) else ((assentlaw13_StateRuns.f kj5).bind fun t122 => (some t122)))) = some r := by rw [if_pos rfl] at H; exact H
            clear H
            have H := H1
            clear H1
            replace H := Option.bind_eq_some_iff.mp H
            obtain ⟨t119, A280, H⟩ := H
            replace H : (if t119 = true then ((state_Legal.f a0 a1).bind fun t120 => (if t120 = true then (some false) else ((assentlaw13_StateRuns.f kj5).bind fun t121 => (some t121)))) else ((assentlaw13_StateRuns.f kj5).bind fun t122 => (some t122))) = some r := H
            have A28 := Aside0.mk A280
            clear A280
            by_cases c29 : t119 = true
            · subst c29
              have H1 : ((state_Legal.f a0 a1).bind fun t120 => (if t120 = true then (some false) else ((assentlaw13_StateRuns.f kj5).bind fun t121 => (some t121)))) = some r := by rw [if_pos rfl] at H; exact H
              clear H
              have H := H1
              clear H1
              replace H := Option.bind_eq_some_iff.mp H
              obtain ⟨t120, A300, H⟩ := H
              replace H : (if t120 = true then (some false) else ((assentlaw13_StateRuns.f kj5).bind fun t121 => (some t121))) = some r := H
              have A30 := Aside0.mk A300
              clear A300
              by_cases c31 : t120 = true
              · subst c31
                have H1 : (some false) = some r := by rw [if_pos rfl] at H; exact H
                clear H
                have H := H1
                clear H1
                obtain rfl := Option.some.inj H
                go_wp2_with (first | ((with_reducible refine gate_callee (f := 11) rfl ?_); refine goesL_ (some 57) rfl rfl Try.func11 (by kernel_rfl) rfl #[.int .i64 a0, .int .i64 a1] rfl (by (try simp only [List.map_toArray, List.map_cons, List.map_nil]); first | done | rfl | (simp only [List.length_drop, List.length_take]; rfl)) ?_; (with_reducible refine (state_Legal.calls a0 a1 t117 _ A24.out).mono ?_); rintro e w32 ⟨rfl, hb⟩; refine ⟨_, rfl, ?_⟩; have n0_ := Aside0.mk (below_step (by repeat (first | (with_reducible first | exact HB.out | apply below_alloc | apply pw_below_drewN | apply below_drew1) | exact HB.out)) hb); clear HB; have HB := n0_; clear n0_; (try clear hb); (try clear hb2); (try clear hk); (try clear hi)) | ((with_reducible refine gate_callee (f := 11) rfl ?_); refine goesL_ (some 60) rfl rfl Try.func11 (by kernel_rfl) rfl #[.int .i64 a1, .int .i64 a0] rfl (by (try simp only [List.map_toArray, List.map_cons, List.map_nil]); first | done | rfl | (simp only [List.length_drop, List.length_take]; rfl)) ?_; (with_reducible refine (state_Legal.calls a1 a0 t118 _ A25.out).mono ?_); rintro e w33 ⟨rfl, hb⟩; refine ⟨_, rfl, ?_⟩; have n0_ := Aside0.mk (below_step (by repeat (first | (with_reducible first | exact HB.out | apply below_alloc | apply pw_below_drewN | apply below_drew1) | exact HB.out)) hb); clear HB; have HB := n0_; clear n0_; (try clear hb); (try clear hb2); (try clear hk); (try clear hi)) | (go_at_call 17; (with_reducible refine (state_Reads.calls a1 true _ A28.out).mono ?_); rintro e w' ⟨rfl, ⟨nd, rfl⟩⟩) | (go_at_call 11; (with_reducible refine (state_Legal.calls a0 a1 true _ A30.out).mono ?_); rintro e w34 ⟨rfl, hb⟩; have n0_ := Aside0.mk (below_step (by repeat (first | (with_reducible first | exact HB.out | apply below_alloc | apply pw_below_drewN | apply below_drew1) | exact HB.out)) hb); clear HB; have HB := n0_; clear n0_; (try clear hb); (try clear hb2); (try clear hk); (try clear hi)))
                go_ret
                exact ⟨by first | rfl | (simp [errW_none, errW_some] <;> rfl) | (simp [*, errW_none, errW_some] <;> rfl), by repeat (first | (with_reducible first | exact HB.out | apply below_alloc | apply pw_below_drewN | apply below_drew1) | exact HB.out)⟩
              · replace c31 := Bool.eq_false_iff.mpr c31
                subst c31
                have H1 : ((assentlaw13_StateRuns.f kj5).bind fun t121 => (some t121)) = some r := by rw [if_neg (show ¬ (false = true) by decide)] at H; exact H
                clear H
                have H := H1
                clear H1
                replace H := Option.bind_eq_some_iff.mp H
                obtain ⟨t121, A350, H⟩ := H
                replace H : (some t121) = some r := H
                have A35 := Aside0.mk A350
                clear A350
                obtain rfl := Option.some.inj H
                go_wp2_with (first | ((with_reducible refine gate_callee (f := 11) rfl ?_); refine goesL_ (some 57) rfl rfl Try.func11 (by kernel_rfl) rfl #[.int .i64 a0, .int .i64 a1] rfl (by (try simp only [List.map_toArray, List.map_cons, List.map_nil]); first | done | rfl | (simp only [List.length_drop, List.length_take]; rfl)) ?_; (with_reducible refine (state_Legal.calls a0 a1 t117 _ A24.out).mono ?_); rintro e w36 ⟨rfl, hb⟩; refine ⟨_, rfl, ?_⟩; have n0_ := Aside0.mk (below_step (by repeat (first | (with_reducible first | exact HB.out | apply below_alloc | apply pw_below_drewN | apply below_drew1) | exact HB.out)) hb); clear HB; have HB := n0_; clear n0_; (try clear hb); (try clear hb2); (try clear hk); (try clear hi)) | ((with_reducible refine gate_callee (f := 11) rfl ?_); refine goesL_ (some 60) rfl rfl Try.func11 (by kernel_rfl) rfl #[.int .i64 a1, .int .i64 a0] rfl (by (try simp only [List.map_toArray, List.map_cons, List.map_nil]); first | done | rfl | (simp only [List.length_drop, List.length_take]; rfl)) ?_; (with_reducible refine (state_Legal.calls a1 a0 t118 _ A25.out).mono ?_); rintro e w37 ⟨rfl, hb⟩; refine ⟨_, rfl, ?_⟩; have n0_ := Aside0.mk (below_step (by repeat (first | (with_reducible first | exact HB.out | apply below_alloc | apply pw_below_drewN | apply below_drew1) | exact HB.out)) hb); clear HB; have HB := n0_; clear n0_; (try clear hb); (try clear hb2); (try clear hk); (try clear hi)) | (go_at_call 17; (with_reducible refine (state_Reads.calls a1 true _ A28.out).mono ?_); rintro e w' ⟨rfl, ⟨nd, rfl⟩⟩) | (go_at_call 11; (with_reducible refine (state_Legal.calls a0 a1 false _ A30.out).mono ?_); rintro e w38 ⟨rfl, hb⟩; have n0_ := Aside0.mk (below_step (by repeat (first | (with_reducible first | exact HB.out | apply below_alloc | apply pw_below_drewN | apply below_drew1) | exact HB.out)) hb); clear HB; have HB := n0_; clear n0_; (try clear hb); (try clear hb2); (try clear hk); (try clear hi)) | (go_at_call 3; (with_reducible refine (assentlaw13_StateRuns.calls kj5  t121 _ A35.out).mono ?_); rintro e w39 ⟨rfl, hb⟩; have n0_ := Aside0.mk (below_step (by repeat (first | (with_reducible first | exact HB.out | apply below_alloc | apply pw_below_drewN | apply below_drew1) | exact HB.out)) hb); clear HB; have HB := n0_; clear n0_; (try clear hb); (try clear hb2); (try clear hk); (try clear hi)))
                go_ret
                exact ⟨by first | rfl | (simp [errW_none, errW_some] <;> rfl) | (simp [*, errW_none, errW_some] <;> rfl), by repeat (first | (with_reducible first | exact HB.out | apply below_alloc | apply pw_below_drewN | apply below_drew1) | exact HB.out)⟩
            · replace c29 := Bool.eq_false_iff.mpr c29
              subst c29
              have H1 : ((assentlaw13_StateRuns.f kj5).bind fun t122 => (some t122)) = some r := by rw [if_neg (show ¬ (false = true) by decide)] at H; exact H
              clear H
              have H := H1
              clear H1
              replace H := Option.bind_eq_some_iff.mp H
              obtain ⟨t122, A400, H⟩ := H
              replace H : (some t122) = some r := H
              have A40 := Aside0.mk A400
              clear A400
              obtain rfl := Option.some.inj H
              go_wp2_with (first | ((with_reducible refine gate_callee (f := 11) rfl ?_); refine goesL_ (some 57) rfl rfl Try.func11 (by kernel_rfl) rfl #[.int .i64 a0, .int .i64 a1] rfl (by (try simp only [List.map_toArray, List.map_cons, List.map_nil]); first | done | rfl | (simp only [List.length_drop, List.length_take]; rfl)) ?_; (with_reducible refine (state_Legal.calls a0 a1 t117 _ A24.out).mono ?_); rintro e w41 ⟨rfl, hb⟩; refine ⟨_, rfl, ?_⟩; have n0_ := Aside0.mk (below_step (by repeat (first | (with_reducible first | exact HB.out | apply below_alloc | apply pw_below_drewN | apply below_drew1) | exact HB.out)) hb); clear HB; have HB := n0_; clear n0_; (try clear hb); (try clear hb2); (try clear hk); (try clear hi)) | ((with_reducible refine gate_callee (f := 11) rfl ?_); refine goesL_ (some 60) rfl rfl Try.func11 (by kernel_rfl) rfl #[.int .i64 a1, .int .i64 a0] rfl (by (try simp only [List.map_toArray, List.map_cons, List.map_nil]); first | done | rfl | (simp only [List.length_drop, List.length_take]; rfl)) ?_; (with_reducible refine (state_Legal.calls a1 a0 t118 _ A25.out).mono ?_); rintro e w42 ⟨rfl, hb⟩; refine ⟨_, rfl, ?_⟩; have n0_ := Aside0.mk (below_step (by repeat (first | (with_reducible first | exact HB.out | apply below_alloc | apply pw_below_drewN | apply below_drew1) | exact HB.out)) hb); clear HB; have HB := n0_; clear n0_; (try clear hb); (try clear hb2); (try clear hk); (try clear hi)) | (go_at_call 17; (with_reducible refine (state_Reads.calls a1 false _ A28.out).mono ?_); rintro e w' ⟨rfl, ⟨nd, rfl⟩⟩) | (go_at_call 3; (with_reducible refine (assentlaw13_StateRuns.calls kj5  t122 _ A40.out).mono ?_); rintro e w43 ⟨rfl, hb⟩; have n0_ := Aside0.mk (below_step (by repeat (first | (with_reducible first | exact HB.out | apply below_alloc | apply pw_below_drewN | apply below_drew1) | exact HB.out)) hb); clear HB; have HB := n0_; clear n0_; (try clear hb); (try clear hb2); (try clear hk); (try clear hi)))
              go_ret
              exact ⟨by first | rfl | (simp [errW_none, errW_some] <;> rfl) | (simp [*, errW_none, errW_some] <;> rfl), by repeat (first | (with_reducible first | exact HB.out | apply below_alloc | apply pw_below_drewN | apply below_drew1) | exact HB.out)⟩
          · replace c27 := Bool.eq_false_iff.mpr c27
            subst c27
            have H1 : ((assentlaw13_StateRuns.f kj5).bind fun t123 => (some t123)) = some r := by rw [if_neg (show ¬ (false = true) by decide)] at H; exact H
            clear H
            have H := H1
            clear H1
            replace H := Option.bind_eq_some_iff.mp H
            obtain ⟨t123, A440, H⟩ := H
            replace H : (some t123) = some r := H
            have A44 := Aside0.mk A440
            clear A440
            obtain rfl := Option.some.inj H
            go_wp2_with (first | ((with_reducible refine gate_callee (f := 11) rfl ?_); refine goesL_ (some 57) rfl rfl Try.func11 (by kernel_rfl) rfl #[.int .i64 a0, .int .i64 a1] rfl (by (try simp only [List.map_toArray, List.map_cons, List.map_nil]); first | done | rfl | (simp only [List.length_drop, List.length_take]; rfl)) ?_; (with_reducible refine (state_Legal.calls a0 a1 t117 _ A24.out).mono ?_); rintro e w45 ⟨rfl, hb⟩; refine ⟨_, rfl, ?_⟩; have n0_ := Aside0.mk (below_step (by repeat (first | (with_reducible first | exact HB.out | apply below_alloc | apply pw_below_drewN | apply below_drew1) | exact HB.out)) hb); clear HB; have HB := n0_; clear n0_; (try clear hb); (try clear hb2); (try clear hk); (try clear hi)) | ((with_reducible refine gate_callee (f := 11) rfl ?_); refine goesL_ (some 60) rfl rfl Try.func11 (by kernel_rfl) rfl #[.int .i64 a1, .int .i64 a0] rfl (by (try simp only [List.map_toArray, List.map_cons, List.map_nil]); first | done | rfl | (simp only [List.length_drop, List.length_take]; rfl)) ?_; (with_reducible refine (state_Legal.calls a1 a0 t118 _ A25.out).mono ?_); rintro e w46 ⟨rfl, hb⟩; refine ⟨_, rfl, ?_⟩; have n0_ := Aside0.mk (below_step (by repeat (first | (with_reducible first | exact HB.out | apply below_alloc | apply pw_below_drewN | apply below_drew1) | exact HB.out)) hb); clear HB; have HB := n0_; clear n0_; (try clear hb); (try clear hb2); (try clear hk); (try clear hi)) | (go_at_call 3; (with_reducible refine (assentlaw13_StateRuns.calls kj5  t123 _ A44.out).mono ?_); rintro e w47 ⟨rfl, hb⟩; have n0_ := Aside0.mk (below_step (by repeat (first | (with_reducible first | exact HB.out | apply below_alloc | apply pw_below_drewN | apply below_drew1) | exact HB.out)) hb); clear HB; have HB := n0_; clear n0_; (try clear hb); (try clear hb2); (try clear hk); (try clear hi)))
            go_ret
            exact ⟨by first | rfl | (simp [errW_none, errW_some] <;> rfl) | (simp [*, errW_none, errW_some] <;> rfl), by repeat (first | (with_reducible first | exact HB.out | apply below_alloc | apply pw_below_drewN | apply below_drew1) | exact HB.out)⟩
        · rw [if_neg c26] at H
          have c26b0 : (t117 == t118) = false := by simpa using c26
          (try (have c26b1 : decide (t117 = t118) = false := by simpa using c26))
          (try (have c26b2 : (t117 == t118) = false := by simpa using c26))
          (try (have c26b3 : ¬ (t117 = t118) := by simpa using c26))
          clear c26
          obtain rfl := Option.some.inj H
          go_wp2_with (first | ((with_reducible refine gate_callee (f := 11) rfl ?_); refine goesL_ (some 57) rfl rfl Try.func11 (by kernel_rfl) rfl #[.int .i64 a0, .int .i64 a1] rfl (by (try simp only [List.map_toArray, List.map_cons, List.map_nil]); first | done | rfl | (simp only [List.length_drop, List.length_take]; rfl)) ?_; (with_reducible refine (state_Legal.calls a0 a1 t117 _ A24.out).mono ?_); rintro e w48 ⟨rfl, hb⟩; refine ⟨_, rfl, ?_⟩; have n0_ := Aside0.mk (below_step (by repeat (first | (with_reducible first | exact HB.out | apply below_alloc | apply pw_below_drewN | apply below_drew1) | exact HB.out)) hb); clear HB; have HB := n0_; clear n0_; (try clear hb); (try clear hb2); (try clear hk); (try clear hi)) | ((with_reducible refine gate_callee (f := 11) rfl ?_); refine goesL_ (some 60) rfl rfl Try.func11 (by kernel_rfl) rfl #[.int .i64 a1, .int .i64 a0] rfl (by (try simp only [List.map_toArray, List.map_cons, List.map_nil]); first | done | rfl | (simp only [List.length_drop, List.length_take]; rfl)) ?_; (with_reducible refine (state_Legal.calls a1 a0 t118 _ A25.out).mono ?_); rintro e w49 ⟨rfl, hb⟩; refine ⟨_, rfl, ?_⟩; have n0_ := Aside0.mk (below_step (by repeat (first | (with_reducible first | exact HB.out | apply below_alloc | apply pw_below_drewN | apply below_drew1) | exact HB.out)) hb); clear HB; have HB := n0_; clear n0_; (try clear hb); (try clear hb2); (try clear hk); (try clear hi)))
          go_ret
          exact ⟨by first | rfl | (simp [errW_none, errW_some] <;> rfl) | (simp [*, errW_none, errW_some] <;> rfl), by repeat (first | (with_reducible first | exact HB.out | apply below_alloc | apply pw_below_drewN | apply below_drew1) | exact HB.out)⟩

/-- THE ONE PURE STATEMENT of assentlaw13_StateSorts: yours. -/
def assentlaw13_StateSorts.Pure : Prop := ∀ (a0 : Int) (a1 : Int), (Lit.int .i64 a0).wf = true → (Lit.int .i64 a1).wf = true → ∃ k, assentlaw13_StateSorts.f k a0 a1 = some true
theorem assentlaw13_StateSorts.walk (P : assentlaw13_StateSorts.Pure) (a0 : Int) (a1 : Int) (w : World) (w0 : (Lit.int .i64 a0).wf = true) (w1 : (Lit.int .i64 a1).wf = true) :
    Calls Try.prog 9 #[.int .i64 a0, .int .i64 a1] w fun e w' => e = .returned (.bool true) ∧ Below w.heap.size w w' := by
  obtain ⟨k, h⟩ := P a0 a1 w0 w1
  refine (assentlaw13_StateSorts.calls k a0 a1 true w h).mono ?_
  rintro e w' ⟨rfl, hd⟩
  exact ⟨rfl, hd⟩

end Go.Proofs.Ytdpcnfdjpbbgjaa.PStateSorts
