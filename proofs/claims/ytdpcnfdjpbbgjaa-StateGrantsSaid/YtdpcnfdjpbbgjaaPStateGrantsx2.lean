-- PRINTED BY print.sh 35421559b90ae4d0a3588c463048766b98c2df88dd9212a6774a882060cdf62d: not written by this session
import Derived.Test.YtdpcnfdjpbbgjaaPStateGrantsx0
import Derived.Test.YtdpcnfdjpbbgjaaPStateGrantsx1
namespace Go.Proofs.Ytdpcnfdjpbbgjaa.PStateGrants
open Go.RowKit Go.Proofs.YtdpcnfdjpbbgjaaW.PrintWords Go.Proofs.YtdpcnfdjpbbgjaaW.PrintLast Go.Proofs.YtdpcnfdjpbbgjaaW.PrintMore
attribute [local go_sem] max2_int min2_int max_two min_two max_three min_three max_four min_four   -- for this text's walks alone
set_option linter.unusedVariables false
set_option linter.unusedSimpArgs false

/-! ### assentlaw13_StateGrants: function 8 -/
def assentlaw13_StateGrants.j0 : Nat → Int → Int → Int → Bool → Option (Bool)
  | 0, _, _, _, _ => none
  | k + 1, x5, x6, x8, x35 => if x35 = true then (some false) else (if x5 = 1 then ((state_Writes.f x8).bind fun t125 => (if t125 = true then (some false) else ((state_Legal.f x8 x6).bind fun t126 => (if x6 = 0 then (if (t126 == true) = true then ((assentlaw13_StateRuns.f k).bind fun t127 => (some t127)) else (some false)) else (if x6 = 1 then (if (t126 == true) = true then ((assentlaw13_StateRuns.f k).bind fun t128 => (some t128)) else (some false)) else (if (t126 == (x6 == 3)) = true then ((assentlaw13_StateRuns.f k).bind fun t129 => (some t129)) else (some false))))))) else ((state_Writes.f x8).bind fun t130 => (if t130 = true then ((state_Legal.f x6 x8).bind fun t131 => (if (t131 == (x6 == 0)) = true then ((assentlaw13_StateRuns.f k).bind fun t132 => (some t132)) else (some false))) else (some false))))
def assentlaw13_StateGrants.f (k : Nat) (a0 : Int) (a1 : Int) : Option (Bool) := (some (([1, 2, 3] : List Int) : List Int)).bind fun y114 => ((assentbook_Within.f a0 0 2).bind fun t117 => (if 0 ≤ t117 then (if t117 < (y114.length : Int) then ((assentbook_Within.f a1 0 4).bind fun t119 => ((state_Grant.f (rd y114 t117) true).bind fun t120 => ((state_Grant.f (rd y114 t117) false).bind fun t121 => ((state_Reads.f t120).bind fun t122 => (if t122 = true then ((state_Reads.f t121).bind fun t123 => (if t123 = true then ((state_Legal.f t120 t119).bind fun t124 => (assentlaw13_StateGrants.j0 k (rd y114 t117) t119 t121 (t124 != (t119 == 0)))) else (assentlaw13_StateGrants.j0 k (rd y114 t117) t119 t121 true))) else (assentlaw13_StateGrants.j0 k (rd y114 t117) t119 t121 true)))))) else (none)) else (none)))
theorem assentlaw13_StateGrants.mono_l : ∀ k, (∀ y0 y1 y2 y3, LeO (assentlaw13_StateGrants.j0 k y0 y1 y2 y3) (assentlaw13_StateGrants.j0 (k + 1) y0 y1 y2 y3))
  | 0 => fun _ _ _ _ r h => by simp [assentlaw13_StateGrants.j0] at h
  | k + 1 => by
    have ih0 := assentlaw13_StateGrants.mono_l k
    · intro y0 y1 y2 y3
      unfold assentlaw13_StateGrants.j0
      repeat' first
      | (with_reducible exact ih0 _ _ _ _)
      | (with_reducible exact assentlaw13_StateRuns.mono _)
      | (with_reducible exact LeO.refl _)
      | (with_reducible exact LeO.none _)
      | (with_reducible refine LeO.ite ?_ ?_)
      | (with_reducible refine LeO.bind ?_ (fun _ => ?_))
      | exact ih0 _ _ _ _
      | exact assentlaw13_StateRuns.mono _
      | exact LeO.none _
      | refine LeO.ite ?_ ?_
      | refine LeO.bind ?_ (fun _ => ?_)
theorem assentlaw13_StateGrants.mono : ∀ a0 a1 k, LeO (assentlaw13_StateGrants.f k a0 a1) (assentlaw13_StateGrants.f (k + 1) a0 a1) := by
  intro a0 a1 k
  have ih0 := assentlaw13_StateGrants.mono_l k
  unfold assentlaw13_StateGrants.f
  repeat' first
      | (with_reducible exact ih0 _ _ _ _)
      | (with_reducible exact assentlaw13_StateRuns.mono _)
      | (with_reducible exact LeO.refl _)
      | (with_reducible exact LeO.none _)
      | (with_reducible refine LeO.ite ?_ ?_)
      | (with_reducible refine LeO.bind ?_ (fun _ => ?_))
      | exact ih0 _ _ _ _
      | exact assentlaw13_StateRuns.mono _
      | exact LeO.none _
      | refine LeO.ite ?_ ?_
      | refine LeO.bind ?_ (fun _ => ?_)
set_option maxHeartbeats 8000000 in
set_option maxRecDepth 100000 in
theorem assentlaw13_StateGrants.calls (k : Nat) (a0 : Int) (a1 : Int) (r : Bool) (w : World) (h : assentlaw13_StateGrants.f k a0 a1 = some r) :
    Calls Try.prog 8 #[.int .i64 a0, .int .i64 a1] w fun e w' => e = .returned (.bool r) ∧ Below w.heap.size w w' := by
  have HB := Aside0.mk (Below.refl w.heap.size w)
  have H : ((some (([1, 2, 3] : List Int) : List Int)).bind fun y114 => ((assentbook_Within.f a0 0 2).bind fun t117 => (if 0 ≤ t117 then (if t117 < (y114.length : Int) then ((assentbook_Within.f a1 0 4).bind fun t119 => ((state_Grant.f (rd y114 t117) true).bind fun t120 => ((state_Grant.f (rd y114 t117) false).bind fun t121 => ((state_Reads.f t120).bind fun t122 => (if t122 = true then ((state_Reads.f t121).bind fun t123 => (if t123 = true then ((state_Legal.f t120 t119).bind fun t124 => (assentlaw13_StateGrants.j0 k (rd y114 t117) t119 t121 (t124 != (t119 == 0)))) else (assentlaw13_StateGrants.j0 k (rd y114 t117) t119 t121 true))) else (assentlaw13_StateGrants.j0 k (rd y114 t117) t119 t121 true)))))) else (none)) else (none)))) = some r := h
  clear h
  obtain ⟨y114, hy114⟩ : ∃ y_ : List Int, y_ = (([1, 2, 3] : List Int)) := ⟨_, rfl⟩
  replace H : ((assentbook_Within.f a0 0 2).bind fun t117 => (if 0 ≤ t117 then (if t117 < (y114.length : Int) then ((assentbook_Within.f a1 0 4).bind fun t119 => ((state_Grant.f (rd y114 t117) true).bind fun t120 => ((state_Grant.f (rd y114 t117) false).bind fun t121 => ((state_Reads.f t120).bind fun t122 => (if t122 = true then ((state_Reads.f t121).bind fun t123 => (if t123 = true then ((state_Legal.f t120 t119).bind fun t124 => (assentlaw13_StateGrants.j0 k (rd y114 t117) t119 t121 (t124 != (t119 == 0)))) else (assentlaw13_StateGrants.j0 k (rd y114 t117) t119 t121 true))) else (assentlaw13_StateGrants.j0 k (rd y114 t117) t119 t121 true)))))) else (none)) else (none))) = some r := by first | (rw [hy114]; with_reducible exact H) | (have H2_ := (Option.bind_some _ _).symm.trans H; rw [hy114]; with_reducible exact H2_) | (have H2_ := (Option.bind_some _ _).symm.trans H; with_reducible exact H2_) | with_reducible exact H | (rw [hy114]; exact H) | exact H
  have Ny114 := Aside0.mk hy114
  clear hy114
  replace H := Option.bind_eq_some_iff.mp H
  obtain ⟨t117, A30, H⟩ := H
  replace H : (if 0 ≤ t117 then (if t117 < (y114.length : Int) then ((assentbook_Within.f a1 0 4).bind fun t119 => ((state_Grant.f (rd y114 t117) true).bind fun t120 => ((state_Grant.f (rd y114 t117) false).bind fun t121 => ((state_Reads.f t120).bind fun t122 => (if t122 = true then ((state_Reads.f t121).bind fun t123 => (if t123 = true then ((state_Legal.f t120 t119).bind fun t124 => (assentlaw13_StateGrants.j0 k (rd y114 t117) t119 t121 (t124 != (t119 == 0)))) else (assentlaw13_StateGrants.j0 k (rd y114 t117) t119 t121 true))) else (assentlaw13_StateGrants.j0 k (rd y114 t117) t119 t121 true)))))) else (none)) else (none)) = some r := H
  have A3 := Aside0.mk A30
  clear A30
  by_cases c4 : 0 ≤ t117
  · rw [if_pos c4] at H
    have c4b0 : decide (0 ≤ t117) = true := decide_eq_true c4
    clear c4
    by_cases c5 : t117 < (y114.length : Int)
    · rw [if_pos c5] at H
      have c5b0 : decide (t117 < (y114.length : Int)) = true := decide_eq_true c5
      clear c5
      replace H := Option.bind_eq_some_iff.mp H
      obtain ⟨t119, A60, H⟩ := H
      replace H : ((state_Grant.f (rd y114 t117) true).bind fun t120 => ((state_Grant.f (rd y114 t117) false).bind fun t121 => ((state_Reads.f t120).bind fun t122 => (if t122 = true then ((state_Reads.f t121).bind fun t123 => (if t123 = true then ((state_Legal.f t120 t119).bind fun t124 => (assentlaw13_StateGrants.j0 k (rd y114 t117) t119 t121 (t124 != (t119 == 0)))) else (assentlaw13_StateGrants.j0 k (rd y114 t117) t119 t121 true))) else (assentlaw13_StateGrants.j0 k (rd y114 t117) t119 t121 true))))) = some r := H
      have A6 := Aside0.mk A60
      clear A60
      replace H := Option.bind_eq_some_iff.mp H
      obtain ⟨t120, A70, H⟩ := H
      replace H : ((state_Grant.f (rd y114 t117) false).bind fun t121 => ((state_Reads.f t120).bind fun t122 => (if t122 = true then ((state_Reads.f t121).bind fun t123 => (if t123 = true then ((state_Legal.f t120 t119).bind fun t124 => (assentlaw13_StateGrants.j0 k (rd y114 t117) t119 t121 (t124 != (t119 == 0)))) else (assentlaw13_StateGrants.j0 k (rd y114 t117) t119 t121 true))) else (assentlaw13_StateGrants.j0 k (rd y114 t117) t119 t121 true)))) = some r := H
      have A7 := Aside0.mk A70
      clear A70
      replace H := Option.bind_eq_some_iff.mp H
      obtain ⟨t121, A80, H⟩ := H
      replace H : ((state_Reads.f t120).bind fun t122 => (if t122 = true then ((state_Reads.f t121).bind fun t123 => (if t123 = true then ((state_Legal.f t120 t119).bind fun t124 => (assentlaw13_StateGrants.j0 k (rd y114 t117) t119 t121 (t124 != (t119 == 0)))) else (assentlaw13_StateGrants.j0 k (rd y114 t117) t119 t121 true))) else (assentlaw13_StateGrants.j0 k (rd y114 t117) t119 t121 true))) = some r := H
      have A8 := Aside0.mk A80
      clear A80
      have HC9 := Aside0.mk H
      clear H
      go_enter Try.func8, Try.ntmps8
      go_upto_region 4 with (first | ((with_reducible refine gate_dst (N := 9) rfl ?_); refine Kd.R_lit (Kd.int .i64) _ 3 ?hg (N := 9) ?hd (xs := ([1, 2, 3] : List Int)) (inner := [.int .i64 1, .int .i64 2, .int .i64 3]) (ok := fun _ => True) (okp := fun _ => True) ?hr ?hp (fun _ hk => hk) trivial (Below.refl _ _) (Nat.le_refl _) (by simp) ?_; (case hd => rfl); (case hg => rfl); (case hr => first | (go_simp; done) | (go_simp; rfl)); (case hp => exact (Reps.one (show Kd.M (Kd.int .i64) _ _ _ 1 [.int .i64 1] from rfl) (Reps.one (show Kd.M (Kd.int .i64) _ _ _ 2 [.int .i64 2] from rfl) (Reps.one (show Kd.M (Kd.int .i64) _ _ _ 3 [.int .i64 3] from rfl) (Reps.none _ _))))); intro v115 w10 ho11 hb hg_ hnew_; clear hg_ hnew_; (first | rw [← Ny114.out] at ho11 | (simp only [Int.reduceToNat] at ho11; rw [← Ny114.out] at ho11)); have n0_ := Aside0.mk (Kd.R_lower ho11 (below_size (by repeat (first | (with_reducible first | exact HB.out | apply below_alloc | apply pw_below_drewN | apply below_drew1) | exact HB.out)))); have n1_ := Aside0.mk (below_step (by repeat (first | (with_reducible first | exact HB.out | apply below_alloc | apply pw_below_drewN | apply below_drew1) | exact HB.out)) hb); clear HB; have HO116 := n0_; have HB := n1_; clear n0_ n1_; clear hb ho11) | ((with_reducible refine gate_callee (f := 13) rfl ?_); refine goesL_ (some 11) rfl rfl Try.func13 (by kernel_rfl) rfl #[.int .i64 a0, .int .i64 0, .int .i64 2] rfl (by (try simp only [List.map_toArray, List.map_cons, List.map_nil]); first | done | rfl | (simp only [List.length_drop, List.length_take]; rfl)) ?_; (with_reducible refine (assentbook_Within.calls a0 0 2 t117 _ A3.out).mono ?_); rintro e w' ⟨rfl, ⟨nd, rfl⟩⟩; refine ⟨_, rfl, ?_⟩; obtain ⟨Ao12, co12, eo12⟩ := Kd.R_slice HO116.out; subst eo12; have p118 : 0 ≤ (t117 : Int) := of_decide_eq_true (by first | (with_reducible assumption) | assumption); have q118 : t117 < (y114.length : Int) := of_decide_eq_true (by first | (with_reducible assumption) | assumption); obtain ⟨ad118, e118, hx118_0⟩ := Kd.at_int (Kd.R_reads' HO116.out).2.2 t117 p118 q118; cases e118; replace p118 := eq_true p118; replace q118 := eq_true q118) | ((with_reducible refine gate_callee (f := 13) rfl ?_); refine goesL_ (some 15) rfl rfl Try.func13 (by kernel_rfl) rfl #[.int .i64 a1, .int .i64 0, .int .i64 4] rfl (by (try simp only [List.map_toArray, List.map_cons, List.map_nil]); first | done | rfl | (simp only [List.length_drop, List.length_take]; rfl)) ?_; (with_reducible refine (assentbook_Within.calls a1 0 4 t119 _ A6.out).mono ?_); rintro e w' ⟨rfl, ⟨nd, rfl⟩⟩; refine ⟨_, rfl, ?_⟩) | ((with_reducible refine gate_callee (f := 12) rfl ?_); refine goesL_ (some 17) rfl rfl Try.func12 (by kernel_rfl) rfl #[.int .i64 (rd y114 t117), .bool true] rfl (by (try simp only [List.map_toArray, List.map_cons, List.map_nil]); first | done | rfl | (simp only [List.length_drop, List.length_take]; rfl)) ?_; (with_reducible refine (state_Grant.calls (rd y114 t117) true t120 _ A7.out).mono ?_); rintro e w' ⟨rfl, ⟨nd, rfl⟩⟩; refine ⟨_, rfl, ?_⟩) | ((with_reducible refine gate_callee (f := 12) rfl ?_); refine goesL_ (some 19) rfl rfl Try.func12 (by kernel_rfl) rfl #[.int .i64 (rd y114 t117), .bool false] rfl (by (try simp only [List.map_toArray, List.map_cons, List.map_nil]); first | done | rfl | (simp only [List.length_drop, List.length_take]; rfl)) ?_; (with_reducible refine (state_Grant.calls (rd y114 t117) false t121 _ A8.out).mono ?_); rintro e w' ⟨rfl, ⟨nd, rfl⟩⟩; refine ⟨_, rfl, ?_⟩))
      (try simp only [Act.put, List.setIfInBounds_toArray, List.set_cons_zero, List.set_cons_succ])
      go_cut [35] (fun v35 wc => ∃ (kq : Nat) (x35_8 : Bool), v35 = .bool x35_8 ∧ Aside0 (assentlaw13_StateGrants.j0 kq (rd y114 t117) t119 t121 x35_8 = some r) ∧ Aside0 (kq ≤ k) ∧ Aside0 (Below w.heap.size w wc))
      case first =>
        have H := HC9.out
        clear HC9
        replace H := Option.bind_eq_some_iff.mp H
        obtain ⟨t122, A130, H⟩ := H
        replace H : (if t122 = true then ((state_Reads.f t121).bind fun t123 => (if t123 = true then ((state_Legal.f t120 t119).bind fun t124 => (assentlaw13_StateGrants.j0 k (rd y114 t117) t119 t121 (t124 != (t119 == 0)))) else (assentlaw13_StateGrants.j0 k (rd y114 t117) t119 t121 true))) else (assentlaw13_StateGrants.j0 k (rd y114 t117) t119 t121 true)) = some r := H
        have A13 := Aside0.mk A130
        clear A130
        by_cases c14 : t122 = true
        · subst c14
          have H1 : ((state_Reads.f t121).bind fun t123 => (if t123 = true then ((state_Legal.f t120 t119).bind fun t124 => (assentlaw13_StateGrants.j0 k (rd y114 t117) t119 t121 (t124 != (t119 == 0)))) else (assentlaw13_StateGrants.j0 k (rd y114 t117) t119 t121 true))) = some r := by rw [if_pos rfl] at H; exact H
          clear H
          have H := H1
          clear H1
          replace H := Option.bind_eq_some_iff.mp H
          obtain ⟨t123, A150, H⟩ := H
          replace H : (if t123 = true then ((state_Legal.f t120 t119).bind fun t124 => (assentlaw13_StateGrants.j0 k (rd y114 t117) t119 t121 (t124 != (t119 == 0)))) else (assentlaw13_StateGrants.j0 k (rd y114 t117) t119 t121 true)) = some r := H
          have A15 := Aside0.mk A150
          clear A150
          by_cases c16 : t123 = true
          · subst c16
            have H1 : ((state_Legal.f t120 t119).bind fun t124 => (assentlaw13_StateGrants.j0 k (rd y114 t117) t119 t121 (t124 != (t119 == 0)))) = some r := by rw [if_pos rfl] at H; exact H
            clear H
            have H := H1
            clear H1
            replace H := Option.bind_eq_some_iff.mp H
            obtain ⟨t124, A170, H⟩ := H
            replace H : (assentlaw13_StateGrants.j0 k (rd y114 t117) t119 t121 (t124 != (t119 == 0))) = some r := H
            have A17 := Aside0.mk A170
            clear A170
            have H' := Aside0.mk H
            clear H
            go_wp2_with (first | ((with_reducible refine gate_callee (f := 17) rfl ?_); refine goesL_ (some 21) rfl rfl Try.func17 (by kernel_rfl) rfl #[.int .i64 t120] rfl (by (try simp only [List.map_toArray, List.map_cons, List.map_nil]); first | done | rfl | (simp only [List.length_drop, List.length_take]; rfl)) ?_; (with_reducible refine (state_Reads.calls t120 true _ A13.out).mono ?_); rintro e w' ⟨rfl, ⟨nd, rfl⟩⟩; refine ⟨_, rfl, ?_⟩) | (go_at_call 17; (with_reducible refine (state_Reads.calls t121 true _ A15.out).mono ?_); rintro e w' ⟨rfl, ⟨nd, rfl⟩⟩) | (go_at_call 11; (with_reducible refine (state_Legal.calls t120 t119 t124 _ A17.out).mono ?_); rintro e w18 ⟨rfl, hb⟩; have n0_ := Aside0.mk (Kd.R_below (by (with_reducible repeat (first | apply Kd.R_alloc | apply Kd.R_drewN | apply Kd.R_drew)); exact HO116.out) hb); have n1_ := Aside0.mk (below_step (by repeat (first | (with_reducible first | exact HB.out | apply below_alloc | apply pw_below_drewN | apply below_drew1) | exact HB.out)) hb); clear HO116; clear HB; have HO116 := n0_; have HB := n1_; clear n0_ n1_; (try clear hb); (try clear hb2); (try clear hk); (try clear hi)))
            go_meet
            case rel => exact ⟨_, ((t124 != (t119 == 0))), (by first | rfl | (simp; done) | (simp [*]; done)), H', ⟨by first | omega | exact Nat.le_refl _⟩, ⟨by repeat (first | (with_reducible first | exact HB.out | apply below_alloc | apply pw_below_drewN | apply below_drew1) | exact HB.out)⟩⟩
          · replace c16 := Bool.eq_false_iff.mpr c16
            subst c16
            have H1 : (assentlaw13_StateGrants.j0 k (rd y114 t117) t119 t121 true) = some r := by rw [if_neg (show ¬ (false = true) by decide)] at H; exact H
            clear H
            have H := H1
            clear H1
            have H' := Aside0.mk H
            clear H
            go_wp2_with (first | ((with_reducible refine gate_callee (f := 17) rfl ?_); refine goesL_ (some 21) rfl rfl Try.func17 (by kernel_rfl) rfl #[.int .i64 t120] rfl (by (try simp only [List.map_toArray, List.map_cons, List.map_nil]); first | done | rfl | (simp only [List.length_drop, List.length_take]; rfl)) ?_; (with_reducible refine (state_Reads.calls t120 true _ A13.out).mono ?_); rintro e w' ⟨rfl, ⟨nd, rfl⟩⟩; refine ⟨_, rfl, ?_⟩) | (go_at_call 17; (with_reducible refine (state_Reads.calls t121 false _ A15.out).mono ?_); rintro e w' ⟨rfl, ⟨nd, rfl⟩⟩))
            go_meet
            case rel => exact ⟨_, (true), (by first | rfl | (simp; done) | (simp [*]; done)), H', ⟨by first | omega | exact Nat.le_refl _⟩, ⟨by repeat (first | (with_reducible first | exact HB.out | apply below_alloc | apply pw_below_drewN | apply below_drew1) | exact HB.out)⟩⟩
        · replace c14 := Bool.eq_false_iff.mpr c14
          subst c14
          have H1 : (assentlaw13_StateGrants.j0 k (rd y114 t117) t119 t121 true) = some r := by rw [if_neg (show ¬ (false = true) by decide)] at H; exact H
          clear H
          have H := H1
          clear H1
          have H' := Aside0.mk H
          clear H
          go_wp2_with (first | ((with_reducible refine gate_callee (f := 17) rfl ?_); refine goesL_ (some 21) rfl rfl Try.func17 (by kernel_rfl) rfl #[.int .i64 t120] rfl (by (try simp only [List.map_toArray, List.map_cons, List.map_nil]); first | done | rfl | (simp only [List.length_drop, List.length_take]; rfl)) ?_; (with_reducible refine (state_Reads.calls t120 false _ A13.out).mono ?_); rintro e w' ⟨rfl, ⟨nd, rfl⟩⟩; refine ⟨_, rfl, ?_⟩))
          go_meet
          case rel => exact ⟨_, (true), (by first | rfl | (simp; done) | (simp [*]; done)), H', ⟨by first | omega | exact Nat.le_refl _⟩, ⟨by repeat (first | (with_reducible first | exact HB.out | apply below_alloc | apply pw_below_drewN | apply below_drew1) | exact HB.out)⟩⟩
      case rest =>
        clear HC9
        try clear c1
        try clear p1
        try clear q1
        try clear hx1
        try clear p2
        try clear c4
        try clear c4b0
        try clear c5
        try clear c5b0
        try clear c8
        try clear p11
        try clear q11
        try clear hx11
        try clear c12
        try clear c13
        try clear c14
        try clear c16
        try clear c17
        try clear hx118_0
        try clear p118
        try clear q118
        obtain ⟨kq, x35_8, rfl, HA, HJ8, HB⟩ := hcut
        cases kq with
        | zero => exact absurd HA.out (by simp [assentlaw13_StateGrants.j0])
        | succ kj8 =>
          have H := HA.out
          clear HA
          simp only [assentlaw13_StateGrants.j0] at H
          by_cases c19 : x35_8 = true
          · subst c19
            have H1 : (some false) = some r := by rw [if_pos rfl] at H; exact H
            clear H
            have H := H1
            clear H1
            obtain rfl := Option.some.inj H
            go_wp2
            go_ret
            exact ⟨by first | rfl | (simp [errW_none, errW_some] <;> rfl) | (simp [*, errW_none, errW_some] <;> rfl), by repeat (first | (with_reducible first | exact HB.out | apply below_alloc | apply pw_below_drewN | apply below_drew1) | exact HB.out)⟩
          · replace c19 := Bool.eq_false_iff.mpr c19
            subst c19
            have H1 : (if (rd y114 t117) = 1 then ((state_Writes.f t121).bind fun t125 => (if t125 = true then (some false) else ((state_Legal.f t121 t119).bind fun t126 => (if t119 = 0 then (if (t126 == true) = true then ((assentlaw13_StateRuns.f kj8).bind fun t127 => (some t127)) else (some false)) else (if t119 = 1 then (if (t126 == true) = true then ((assentlaw13_StateRuns.f kj8).bind fun t128 => (some t128)) else (some false)) else (if (t126 == (t119 == 3)) = true then ((assentlaw13_StateRuns.f kj8).bind fun t129 => (some t129)) else (some false))))))) else ((state_Writes.f t121).bind fun t130 => (if t130 = true then ((state_Legal.f t119 t121).bind fun t131 => (if (t131 == (t119 == 0)) = true then ((assentlaw13_StateRuns.f kj8).bind fun t132 => (some t132)) else (some false))) else (some false)))) = some r := by rw [if_neg (show ¬ (false = true) by decide)] at H; exact H
            clear H
            have H := H1
            clear H1
            by_cases c20 : (rd y114 t117) = 1
            · rw [if_pos c20] at H
              have c20b0 : ((rd y114 t117) == 1) = true := beq_iff_eq.mpr c20
              have c20b1 : ((rd y114 t117) != 1) = false := bne_eq_false_iff_eq.mpr c20
              clear c20
              replace H := Option.bind_eq_some_iff.mp H
              obtain ⟨t125, A210, H⟩ := H
              replace H : (if t125 = true then (some false) else ((state_Legal.f t121 t119).bind fun t126 => (if t119 = 0 then (if (t126 == true) = true then ((assentlaw13_StateRuns.f kj8).bind fun t127 => (some t127)) else (some false)) else (if t119 = 1 then (if (t126 == true) = true then ((assentlaw13_StateRuns.f kj8).bind fun t128 => (some t128)) else (some false)) else (if (t126 == (t119 == 3)) = true then ((assentlaw13_StateRuns.f kj8).bind fun t129 => (some t129)) else (some false)))))) = some r := H
              have A21 := Aside0.mk A210
              clear A210
              by_cases c22 : t125 = true
              · subst c22
                have H1 : (some false) = some r := by rw [if_pos rfl] at H; exact H
                clear H
                have H := H1
                clear H1
                obtain rfl := Option.some.inj H
                go_wp2_with (first | ((with_reducible refine gate_callee (f := 19) rfl ?_); refine goesL_ (some 39) rfl rfl Try.func19 (by kernel_rfl) rfl #[.int .i64 t121] rfl (by (try simp only [List.map_toArray, List.map_cons, List.map_nil]); first | done | rfl | (simp only [List.length_drop, List.length_take]; rfl)) ?_; (with_reducible refine (state_Writes.calls t121 true _ A21.out).mono ?_); rintro e w' ⟨rfl, ⟨nd, rfl⟩⟩; refine ⟨_, rfl, ?_⟩))
                go_ret
                exact ⟨by first | rfl | (simp [errW_none, errW_some] <;> rfl) | (simp [*, errW_none, errW_some] <;> rfl), by repeat (first | (with_reducible first | exact HB.out | apply below_alloc | apply pw_below_drewN | apply below_drew1) | exact HB.out)⟩
              · replace c22 := Bool.eq_false_iff.mpr c22
                subst c22
                have H1 : ((state_Legal.f t121 t119).bind fun t126 => (if t119 = 0 then (if (t126 == true) = true then ((assentlaw13_StateRuns.f kj8).bind fun t127 => (some t127)) else (some false)) else (if t119 = 1 then (if (t126 == true) = true then ((assentlaw13_StateRuns.f kj8).bind fun t128 => (some t128)) else (some false)) else (if (t126 == (t119 == 3)) = true then ((assentlaw13_StateRuns.f kj8).bind fun t129 => (some t129)) else (some false))))) = some r := by rw [if_neg (show ¬ (false = true) by decide)] at H; exact H
                clear H
                have H := H1
                clear H1
                replace H := Option.bind_eq_some_iff.mp H
                obtain ⟨t126, A230, H⟩ := H
                replace H : (if t119 = 0 then (if (t126 == true) = true then ((assentlaw13_StateRuns.f kj8).bind fun t127 => (some t127)) else (some false)) else (if t119 = 1 then (if (t126 == true) = true then ((assentlaw13_StateRuns.f kj8).bind fun t128 => (some t128)) else (some false)) else (if (t126 == (t119 == 3)) = true then ((assentlaw13_StateRuns.f kj8).bind fun t129 => (some t129)) else (some false)))) = some r := H
                have A23 := Aside0.mk A230
                clear A230
                by_cases c24 : t119 = 0
                · rw [if_pos c24] at H
                  have c24b0 : (t119 == 0) = true := beq_iff_eq.mpr c24
                  have c24b1 : (t119 != 0) = false := bne_eq_false_iff_eq.mpr c24
                  clear c24
                  by_cases c25 : (t126 == true) = true
                  · rw [if_pos c25] at H
                    have c25b0 : (t126 == true) = true := c25
                    (try (have c25b1 : decide (t126 = true) = true := by simpa using c25))
                    (try (have c25b2 : (t126 == true) = true := by simpa using c25))
                    clear c25
                    replace H := Option.bind_eq_some_iff.mp H
                    obtain ⟨t127, A260, H⟩ := H
                    replace H : (some t127) = some r := H
                    have A26 := Aside0.mk A260
                    clear A260
                    obtain rfl := Option.some.inj H
                    go_wp2_with (first | ((with_reducible refine gate_callee (f := 19) rfl ?_); refine goesL_ (some 39) rfl rfl Try.func19 (by kernel_rfl) rfl #[.int .i64 t121] rfl (by (try simp only [List.map_toArray, List.map_cons, List.map_nil]); first | done | rfl | (simp only [List.length_drop, List.length_take]; rfl)) ?_; (with_reducible refine (state_Writes.calls t121 false _ A21.out).mono ?_); rintro e w' ⟨rfl, ⟨nd, rfl⟩⟩; refine ⟨_, rfl, ?_⟩) | (go_at_call 11; (with_reducible refine (state_Legal.calls t121 t119 t126 _ A23.out).mono ?_); rintro e w27 ⟨rfl, hb⟩; have n0_ := Aside0.mk (below_step (by repeat (first | (with_reducible first | exact HB.out | apply below_alloc | apply pw_below_drewN | apply below_drew1) | exact HB.out)) hb); clear HB; have HB := n0_; clear n0_; (try clear hb); (try clear hb2); (try clear hk); (try clear hi)) | (go_at_call 3; (with_reducible refine (assentlaw13_StateRuns.calls kj8  t127 _ A26.out).mono ?_); rintro e w28 ⟨rfl, hb⟩; have n0_ := Aside0.mk (below_step (by repeat (first | (with_reducible first | exact HB.out | apply below_alloc | apply pw_below_drewN | apply below_drew1) | exact HB.out)) hb); clear HB; have HB := n0_; clear n0_; (try clear hb); (try clear hb2); (try clear hk); (try clear hi)))
                    go_ret
                    exact ⟨by first | rfl | (simp [errW_none, errW_some] <;> rfl) | (simp [*, errW_none, errW_some] <;> rfl), by repeat (first | (with_reducible first | exact HB.out | apply below_alloc | apply pw_below_drewN | apply below_drew1) | exact HB.out)⟩
                  · rw [if_neg c25] at H
                    have c25b0 : (t126 == true) = false := by simpa using c25
                    (try (have c25b1 : decide (t126 = true) = false := by simpa using c25))
                    (try (have c25b2 : (t126 == true) = false := by simpa using c25))
                    (try (have c25b3 : ¬ (t126 = true) := by simpa using c25))
                    clear c25
                    obtain rfl := Option.some.inj H
                    go_wp2_with (first | ((with_reducible refine gate_callee (f := 19) rfl ?_); refine goesL_ (some 39) rfl rfl Try.func19 (by kernel_rfl) rfl #[.int .i64 t121] rfl (by (try simp only [List.map_toArray, List.map_cons, List.map_nil]); first | done | rfl | (simp only [List.length_drop, List.length_take]; rfl)) ?_; (with_reducible refine (state_Writes.calls t121 false _ A21.out).mono ?_); rintro e w' ⟨rfl, ⟨nd, rfl⟩⟩; refine ⟨_, rfl, ?_⟩) | (go_at_call 11; (with_reducible refine (state_Legal.calls t121 t119 t126 _ A23.out).mono ?_); rintro e w29 ⟨rfl, hb⟩; have n0_ := Aside0.mk (below_step (by repeat (first | (with_reducible first | exact HB.out | apply below_alloc | apply pw_below_drewN | apply below_drew1) | exact HB.out)) hb); clear HB; have HB := n0_; clear n0_; (try clear hb); (try clear hb2); (try clear hk); (try clear hi)))
                    go_ret
                    exact ⟨by first | rfl | (simp [errW_none, errW_some] <;> rfl) | (simp [*, errW_none, errW_some] <;> rfl), by repeat (first | (with_reducible first | exact HB.out | apply below_alloc | apply pw_below_drewN | apply below_drew1) | exact HB.out)⟩
                · rw [if_neg c24] at H
                  have c24b0 : (t119 == 0) = false := beq_eq_false_iff_ne.mpr c24
                  have c24b1 : (t119 != 0) = true := bne_iff_ne.mpr c24
                  by_cases c30 : t119 = 1
                  · rw [if_pos c30] at H
                    have c30b0 : (t119 == 1) = true := beq_iff_eq.mpr c30
                    have c30b1 : (t119 != 1) = false := bne_eq_false_iff_eq.mpr c30
                    clear c30
                    by_cases c31 : (t126 == true) = true
                    · rw [if_pos c31] at H
                      have c31b0 : (t126 == true) = true := c31
                      (try (have c31b1 : decide (t126 = true) = true := by simpa using c31))
                      (try (have c31b2 : (t126 == true) = true := by simpa using c31))
                      clear c31
                      replace H := Option.bind_eq_some_iff.mp H
                      obtain ⟨t128, A320, H⟩ := H
                      replace H : (some t128) = some r := H
                      have A32 := Aside0.mk A320
                      clear A320
                      obtain rfl := Option.some.inj H
                      go_wp2_with (first | ((with_reducible refine gate_callee (f := 19) rfl ?_); refine goesL_ (some 39) rfl rfl Try.func19 (by kernel_rfl) rfl #[.int .i64 t121] rfl (by (try simp only [List.map_toArray, List.map_cons, List.map_nil]); first | done | rfl | (simp only [List.length_drop, List.length_take]; rfl)) ?_; (with_reducible refine (state_Writes.calls t121 false _ A21.out).mono ?_); rintro e w' ⟨rfl, ⟨nd, rfl⟩⟩; refine ⟨_, rfl, ?_⟩) | (go_at_call 11; (with_reducible refine (state_Legal.calls t121 t119 t126 _ A23.out).mono ?_); rintro e w33 ⟨rfl, hb⟩; have n0_ := Aside0.mk (below_step (by repeat (first | (with_reducible first | exact HB.out | apply below_alloc | apply pw_below_drewN | apply below_drew1) | exact HB.out)) hb); clear HB; have HB := n0_; clear n0_; (try clear hb); (try clear hb2); (try clear hk); (try clear hi)) | (go_at_call 3; (with_reducible refine (assentlaw13_StateRuns.calls kj8  t128 _ A32.out).mono ?_); rintro e w34 ⟨rfl, hb⟩; have n0_ := Aside0.mk (below_step (by repeat (first | (with_reducible first | exact HB.out | apply below_alloc | apply pw_below_drewN | apply below_drew1) | exact HB.out)) hb); clear HB; have HB := n0_; clear n0_; (try clear hb); (try clear hb2); (try clear hk); (try clear hi)))
                      go_ret
                      exact ⟨by first | rfl | (simp [errW_none, errW_some] <;> rfl) | (simp [*, errW_none, errW_some] <;> rfl), by repeat (first | (with_reducible first | exact HB.out | apply below_alloc | apply pw_below_drewN | apply below_drew1) | exact HB.out)⟩
                    · rw [if_neg c31] at H
                      have c31b0 : (t126 == true) = false := by simpa using c31
                      (try (have c31b1 : decide (t126 = true) = false := by simpa using c31))
                      (try (have c31b2 : (t126 == true) = false := by simpa using c31))
                      (try (have c31b3 : ¬ (t126 = true) := by simpa using c31))
                      clear c31
                      obtain rfl := Option.some.inj H
                      go_wp2_with (first | ((with_reducible refine gate_callee (f := 19) rfl ?_); refine goesL_ (some 39) rfl rfl Try.func19 (by kernel_rfl) rfl #[.int .i64 t121] rfl (by (try simp only [List.map_toArray, List.map_cons, List.map_nil]); first | done | rfl | (simp only [List.length_drop, List.length_take]; rfl)) ?_; (with_reducible refine (state_Writes.calls t121 false _ A21.out).mono ?_); rintro e w' ⟨rfl, ⟨nd, rfl⟩⟩; refine ⟨_, rfl, ?_⟩) | (go_at_call 11; (with_reducible refine (state_Legal.calls t121 t119 t126 _ A23.out).mono ?_); rintro e w35 ⟨rfl, hb⟩; have n0_ := Aside0.mk (below_step (by repeat (first | (with_reducible first | exact HB.out | apply below_alloc | apply pw_below_drewN | apply below_drew1) | exact HB.out)) hb); clear HB; have HB := n0_; clear n0_; (try clear hb); (try clear hb2); (try clear hk); (try clear hi)))
                      go_ret
                      exact ⟨by first | rfl | (simp [errW_none, errW_some] <;> rfl) | (simp [*, errW_none, errW_some] <;> rfl), by repeat (first | (with_reducible first | exact HB.out | apply below_alloc | apply pw_below_drewN | apply below_drew1) | exact HB.out)⟩
                  · rw [if_neg c30] at H
                    have c30b0 : (t119 == 1) = false := beq_eq_false_iff_ne.mpr c30
                    have c30b1 : (t119 != 1) = true := bne_iff_ne.mpr c30
                    by_cases c36 : (t126 == (t119 == 3)) = true
                    · rw [if_pos c36] at H
                      have c36b0 : (t126 == (t119 == 3)) = true := c36
                      (try (have c36b1 : decide (t126 = (t119 == 3)) = true := by simpa using c36))
                      (try (have c36b2 : (t126 == (t119 == 3)) = true := by simpa using c36))
                      clear c36
                      replace H := Option.bind_eq_some_iff.mp H
                      obtain ⟨t129, A370, H⟩ := H
                      replace H : (some t129) = some r := H
                      have A37 := Aside0.mk A370
                      clear A370
                      obtain rfl := Option.some.inj H
                      go_wp2_with (first | ((with_reducible refine gate_callee (f := 19) rfl ?_); refine goesL_ (some 39) rfl rfl Try.func19 (by kernel_rfl) rfl #[.int .i64 t121] rfl (by (try simp only [List.map_toArray, List.map_cons, List.map_nil]); first | done | rfl | (simp only [List.length_drop, List.length_take]; rfl)) ?_; (with_reducible refine (state_Writes.calls t121 false _ A21.out).mono ?_); rintro e w' ⟨rfl, ⟨nd, rfl⟩⟩; refine ⟨_, rfl, ?_⟩) | (go_at_call 11; (with_reducible refine (state_Legal.calls t121 t119 t126 _ A23.out).mono ?_); rintro e w38 ⟨rfl, hb⟩; have n0_ := Aside0.mk (below_step (by repeat (first | (with_reducible first | exact HB.out | apply below_alloc | apply pw_below_drewN | apply below_drew1) | exact HB.out)) hb); clear HB; have HB := n0_; clear n0_; (try clear hb); (try clear hb2); (try clear hk); (try clear hi)) | (go_at_call 3; (with_reducible refine (assentlaw13_StateRuns.calls kj8  t129 _ A37.out).mono ?_); rintro e w39 ⟨rfl, hb⟩; have n0_ := Aside0.mk (below_step (by repeat (first | (with_reducible first | exact HB.out | apply below_alloc | apply pw_below_drewN | apply below_drew1) | exact HB.out)) hb); clear HB; have HB := n0_; clear n0_; (try clear hb); (try clear hb2); (try clear hk); (try clear hi)))
                      go_ret
                      exact ⟨by first | rfl | (simp [errW_none, errW_some] <;> rfl) | (simp [*, errW_none, errW_some] <;> rfl), by repeat (first | (with_reducible first | exact HB.out | apply below_alloc | apply pw_below_drewN | apply below_drew1) | exact HB.out)⟩
                    · rw [if_neg c36] at H
                      have c36b0 : (t126 == (t119 == 3)) = false := by simpa using c36
                      (try (have c36b1 : decide (t126 = (t119 == 3)) = false := by simpa using c36))
                      (try (have c36b2 : (t126 == (t119 == 3)) = false := by simpa using c36))
                      (try (have c36b3 : ¬ (t126 = (t119 == 3)) := by simpa using c36))
                      clear c36
                      obtain rfl := Option.some.inj H
                      go_wp2_with (first | ((with_reducible refine gate_callee (f := 19) rfl ?_); refine goesL_ (some 39) rfl rfl Try.func19 (by kernel_rfl) rfl #[.int .i64 t121] rfl (by (try simp only [List.map_toArray, List.map_cons, List.map_nil]); first | done | rfl | (simp only [List.length_drop, List.length_take]; rfl)) ?_; (with_reducible refine (state_Writes.calls t121 false _ A21.out).mono ?_); rintro e w' ⟨rfl, ⟨nd, rfl⟩⟩; refine ⟨_, rfl, ?_⟩) | (go_at_call 11; (with_reducible refine (state_Legal.calls t121 t119 t126 _ A23.out).mono ?_); rintro e w40 ⟨rfl, hb⟩; have n0_ := Aside0.mk (below_step (by repeat (first | (with_reducible first | exact HB.out | apply below_alloc | apply pw_below_drewN | apply below_drew1) | exact HB.out)) hb); clear HB; have HB := n0_; clear n0_; (try clear hb); (try clear hb2); (try clear hk); (try clear hi)))
                      go_ret
                      exact ⟨by first | rfl | (simp [errW_none, errW_some] <;> rfl) | (simp [*, errW_none, errW_some] <;> rfl), by repeat (first | (with_reducible first | exact HB.out | apply below_alloc | apply pw_below_drewN | apply below_drew1) | exact HB.out)⟩
            · rw [if_neg c20] at H
              have c20b0 : ((rd y114 t117) == 1) = false := beq_eq_false_iff_ne.mpr c20
              have c20b1 : ((rd y114 t117) != 1) = true := bne_iff_ne.mpr c20
              replace H := Option.bind_eq_some_iff.mp H
              obtain ⟨t130, A410, H⟩ := H
              replace H : (if t130 = true then ((state_Legal.f t119 t121).bind fun t131 => (if (t131 == (t119 == 0)) = true then ((assentlaw13_StateRuns.f kj8).bind fun t132 => (some t132)) else (some false))) else (some false)) = some r := H
              have A41 := Aside0.mk A410
              clear A410
              by_cases c42 : t130 = true
              · subst c42
                have H1 : ((state_Legal.f t119 t121).bind fun t131 => (if (t131 == (t119 == 0)) = true then ((assentlaw13_StateRuns.f kj8).bind fun t132 => (some t132)) else (some false))) = some r := by rw [if_pos rfl] at H; exact H
                clear H
                have H := H1
                clear H1
                replace H := Option.bind_eq_some_iff.mp H
                obtain ⟨t131, A430, H⟩ := H
                replace H : (if (t131 == (t119 == 0)) = true then ((assentlaw13_StateRuns.f kj8).bind fun t132 => (some t132)) else (some false)) = some r := H
                have A43 := Aside0.mk A430
                clear A430
                by_cases c44 : (t131 == (t119 == 0)) = true
                · rw [if_pos c44] at H
                  have c44b0 : (t131 == (t119 == 0)) = true := c44
                  (try (have c44b1 : decide (t131 = (t119 == 0)) = true := by simpa using c44))
                  (try (have c44b2 : (t131 == (t119 == 0)) = true := by simpa using c44))
                  clear c44
                  replace H := Option.bind_eq_some_iff.mp H
                  obtain ⟨t132, A450, H⟩ := H
                  replace H : (some t132) = some r := H
                  have A45 := Aside0.mk A450
                  clear A450
                  obtain rfl := Option.some.inj H
                  go_wp2_with (first | ((with_reducible refine gate_callee (f := 19) rfl ?_); refine goesL_ (some 61) rfl rfl Try.func19 (by kernel_rfl) rfl #[.int .i64 t121] rfl (by (try simp only [List.map_toArray, List.map_cons, List.map_nil]); first | done | rfl | (simp only [List.length_drop, List.length_take]; rfl)) ?_; (with_reducible refine (state_Writes.calls t121 true _ A41.out).mono ?_); rintro e w' ⟨rfl, ⟨nd, rfl⟩⟩; refine ⟨_, rfl, ?_⟩) | (go_at_call 11; (with_reducible refine (state_Legal.calls t119 t121 t131 _ A43.out).mono ?_); rintro e w46 ⟨rfl, hb⟩; have n0_ := Aside0.mk (below_step (by repeat (first | (with_reducible first | exact HB.out | apply below_alloc | apply pw_below_drewN | apply below_drew1) | exact HB.out)) hb); clear HB; have HB := n0_; clear n0_; (try clear hb); (try clear hb2); (try clear hk); (try clear hi)) | (go_at_call 3; (with_reducible refine (assentlaw13_StateRuns.calls kj8  t132 _ A45.out).mono ?_); rintro e w47 ⟨rfl, hb⟩; have n0_ := Aside0.mk (below_step (by repeat (first | (with_reducible first | exact HB.out | apply below_alloc | apply pw_below_drewN | apply below_drew1) | exact HB.out)) hb); clear HB; have HB := n0_; clear n0_; (try clear hb); (try clear hb2); (try clear hk); (try clear hi)))
                  go_ret
                  exact ⟨by first | rfl | (simp [errW_none, errW_some] <;> rfl) | (simp [*, errW_none, errW_some] <;> rfl), by repeat (first | (with_reducible first | exact HB.out | apply below_alloc | apply pw_below_drewN | apply below_drew1) | exact HB.out)⟩
                · rw [if_neg c44] at H
                  have c44b0 : (t131 == (t119 == 0)) = false := by simpa using c44
                  (try (have c44b1 : decide (t131 = (t119 == 0)) = false := by simpa using c44))
                  (try (have c44b2 : (t131 == (t119 == 0)) = false := by simpa using c44))
                  (try (have c44b3 : ¬ (t131 = (t119 == 0)) := by simpa using c44))
                  clear c44
                  obtain rfl := Option.some.inj H
                  go_wp2_with (first | ((with_reducible refine gate_callee (f := 19) rfl ?_); refine goesL_ (some 61) rfl rfl Try.func19 (by kernel_rfl) rfl #[.int .i64 t121] rfl (by (try simp only [List.map_toArray, List.map_cons, List.map_nil]); first | done | rfl | (simp only [List.length_drop, List.length_take]; rfl)) ?_; (with_reducible refine (state_Writes.calls t121 true _ A41.out).mono ?_); rintro e w' ⟨rfl, ⟨nd, rfl⟩⟩; refine ⟨_, rfl, ?_⟩) | (go_at_call 11; (with_reducible refine (state_Legal.calls t119 t121 t131 _ A43.out).mono ?_); rintro e w48 ⟨rfl, hb⟩; have n0_ := Aside0.mk (below_step (by repeat (first | (with_reducible first | exact HB.out | apply below_alloc | apply pw_below_drewN | apply below_drew1) | exact HB.out)) hb); clear HB; have HB := n0_; clear n0_; (try clear hb); (try clear hb2); (try clear hk); (try clear hi)))
                  go_ret
                  exact ⟨by first | rfl | (simp [errW_none, errW_some] <;> rfl) | (simp [*, errW_none, errW_some] <;> rfl), by repeat (first | (with_reducible first | exact HB.out | apply below_alloc | apply pw_below_drewN | apply below_drew1) | exact HB.out)⟩
              · replace c42 := Bool.eq_false_iff.mpr c42
                subst c42
                have H1 : (some false) = some r := by rw [if_neg (show ¬ (false = true) by decide)] at H; exact H
                clear H
                have H := H1
                clear H1
                obtain rfl := Option.some.inj H
                go_wp2_with (first | ((with_reducible refine gate_callee (f := 19) rfl ?_); refine goesL_ (some 61) rfl rfl Try.func19 (by kernel_rfl) rfl #[.int .i64 t121] rfl (by (try simp only [List.map_toArray, List.map_cons, List.map_nil]); first | done | rfl | (simp only [List.length_drop, List.length_take]; rfl)) ?_; (with_reducible refine (state_Writes.calls t121 false _ A41.out).mono ?_); rintro e w' ⟨rfl, ⟨nd, rfl⟩⟩; refine ⟨_, rfl, ?_⟩))
                go_ret
                exact ⟨by first | rfl | (simp [errW_none, errW_some] <;> rfl) | (simp [*, errW_none, errW_some] <;> rfl), by repeat (first | (with_reducible first | exact HB.out | apply below_alloc | apply pw_below_drewN | apply below_drew1) | exact HB.out)⟩
    · rw [if_neg c5] at H
      exact absurd H (by simp)
  · rw [if_neg c4] at H
    exact absurd H (by simp)

/-- THE ONE PURE STATEMENT of assentlaw13_StateGrants: yours. -/
def assentlaw13_StateGrants.Pure : Prop := ∀ (a0 : Int) (a1 : Int), (Lit.int .i64 a0).wf = true → (Lit.int .i64 a1).wf = true → ∃ k, assentlaw13_StateGrants.f k a0 a1 = some true
theorem assentlaw13_StateGrants.walk (P : assentlaw13_StateGrants.Pure) (a0 : Int) (a1 : Int) (w : World) (w0 : (Lit.int .i64 a0).wf = true) (w1 : (Lit.int .i64 a1).wf = true) :
    Calls Try.prog 8 #[.int .i64 a0, .int .i64 a1] w fun e w' => e = .returned (.bool true) ∧ Below w.heap.size w w' := by
  obtain ⟨k, h⟩ := P a0 a1 w0 w1
  refine (assentlaw13_StateGrants.calls k a0 a1 true w h).mono ?_
  rintro e w' ⟨rfl, hd⟩
  exact ⟨rfl, hd⟩

end Go.Proofs.Ytdpcnfdjpbbgjaa.PStateGrants
