/- A set with a core has one more, if it was not in; without it one fewer, if it was; the order does not matter. For any set and any two cores. The walk: the printed walk's lines, mended where it falls. -/
import Derived.Test.YtakabjeamkffpaaPBitsPartsx0
import Derived.Test.YtakabjeamkffpaaPBitsPartsx1
namespace Go.Proofs.Ytakabjeamkffpaa.PBitsParts
open Go.RowKit Go.Proofs.YtakabjeamkffpaaW.PrintWords Go.Proofs.YtakabjeamkffpaaW.PrintLast Go.Proofs.YtakabjeamkffpaaW.PrintMore
attribute [local go_sem] max2_int min2_int max_two min_two max_three min_three max_four min_four   -- for this text's walks alone
set_option linter.unusedVariables false
set_option linter.unusedSimpArgs false

/-! ### assentlaw4_BitsParts: function 13 -/
def assentlaw4_BitsParts.j0 : Nat → Int → Int → Int → Int → Option (Bool)
  | 0, _, _, _, _ => none
  | k + 1, x7, x8, x9, x10 => (bits_Set_Add.f x7 x8).bind fun t135 => ((bits_Set_Drop.f x7 x8).bind fun t136 => ((bits_Set_Count.f k t135).bind fun t137 => (if t137 = (wrap64 (x10 + 1)) then ((bits_Set_Count.f k t136).bind fun t138 => (if t138 = x10 then ((bits_Set_Has.f t135 x8).bind fun t139 => (if t139 = true then ((bits_Set_Has.f t136 x8).bind fun t140 => (if t140 = true then (some false) else ((bits_Set_Add.f t135 x9).bind fun t141 => ((bits_Set_Add.f x7 x9).bind fun t142 => ((bits_Set_Add.f t142 x8).bind fun t143 => (if t141 = t143 then (if x8 = x9 then ((bits_Set_First.f k t135).bind fun t144 => (if t144 ≥ 0 then ((bits_Set_First.f k t135).bind fun t145 => (if t145 ≤ x8 then ((assentlaw4_BitsRuns.f k).bind fun t146 => (some t146)) else (some false))) else (some false))) else ((bits_Set_Drop.f t135 x9).bind fun t147 => ((bits_Set_Drop.f x7 x9).bind fun t148 => ((bits_Set_Add.f t148 x8).bind fun t149 => (if t147 = t149 then ((bits_Set_First.f k t135).bind fun t150 => (if t150 ≥ 0 then ((bits_Set_First.f k t135).bind fun t151 => (if t151 ≤ x8 then ((assentlaw4_BitsRuns.f k).bind fun t152 => (some t152)) else (some false))) else (some false))) else (some false)))))) else (some false))))))) else (some false))) else (some false))) else (some false))))
def assentlaw4_BitsParts.f (k : Nat) (a0 : Int) (a1 : Int) (a2 : Int) : Option (Bool) := (assentbook_Within.f a1 0 63).bind fun t131 => ((assentbook_Within.f a2 0 63).bind fun t132 => ((bits_Set_Count.f k a0).bind fun t133 => ((bits_Set_Has.f a0 t131).bind fun t134 => (if t134 = true then (assentlaw4_BitsParts.j0 k a0 t131 t132 (wrap64 (t133 - 1))) else (assentlaw4_BitsParts.j0 k a0 t131 t132 t133)))))
theorem assentlaw4_BitsParts.mono_l : ∀ k, (∀ y0 y1 y2 y3, LeO (assentlaw4_BitsParts.j0 k y0 y1 y2 y3) (assentlaw4_BitsParts.j0 (k + 1) y0 y1 y2 y3))
  | 0 => fun _ _ _ _ r h => by simp [assentlaw4_BitsParts.j0] at h
  | k + 1 => by
    have ih0 := assentlaw4_BitsParts.mono_l k
    · intro y0 y1 y2 y3
      unfold assentlaw4_BitsParts.j0
      repeat' first
      | (with_reducible exact ih0 _ _ _ _)
      | (with_reducible exact assentlaw4_BitsRuns.mono _)
      | (with_reducible exact bits_Set_Count.mono _ _)
      | (with_reducible exact bits_Set_First.mono _ _)
      | (with_reducible exact LeO.refl _)
      | (with_reducible exact LeO.none _)
      | (with_reducible refine LeO.ite ?_ ?_)
      | (with_reducible refine LeO.bind ?_ (fun _ => ?_))
      | exact ih0 _ _ _ _
      | exact assentlaw4_BitsRuns.mono _
      | exact bits_Set_Count.mono _ _
      | exact bits_Set_First.mono _ _
      | exact LeO.none _
      | refine LeO.ite ?_ ?_
      | refine LeO.bind ?_ (fun _ => ?_)
theorem assentlaw4_BitsParts.mono : ∀ a0 a1 a2 k, LeO (assentlaw4_BitsParts.f k a0 a1 a2) (assentlaw4_BitsParts.f (k + 1) a0 a1 a2) := by
  intro a0 a1 a2 k
  have ih0 := assentlaw4_BitsParts.mono_l k
  unfold assentlaw4_BitsParts.f
  repeat' first
      | (with_reducible exact ih0 _ _ _ _)
      | (with_reducible exact assentlaw4_BitsRuns.mono _)
      | (with_reducible exact bits_Set_Count.mono _ _)
      | (with_reducible exact bits_Set_First.mono _ _)
      | (with_reducible exact LeO.refl _)
      | (with_reducible exact LeO.none _)
      | (with_reducible refine LeO.ite ?_ ?_)
      | (with_reducible refine LeO.bind ?_ (fun _ => ?_))
      | exact ih0 _ _ _ _
      | exact assentlaw4_BitsRuns.mono _
      | exact bits_Set_Count.mono _ _
      | exact bits_Set_First.mono _ _
      | exact LeO.none _
      | refine LeO.ite ?_ ?_
      | refine LeO.bind ?_ (fun _ => ?_)
set_option maxHeartbeats 8000000 in
set_option maxRecDepth 100000 in
theorem assentlaw4_BitsParts.calls (k : Nat) (a0 : Int) (a1 : Int) (a2 : Int) (r : Bool) (w : World) (h : assentlaw4_BitsParts.f k a0 a1 a2 = some r) :
    Calls Try.prog 13 #[.int .u64 a0, .int .i64 a1, .int .i64 a2] w fun e w' => e = .returned (.bool r) ∧ Below w.heap.size w w' := by
  have HB := Aside0.mk (Below.refl w.heap.size w)
  have H : ((assentbook_Within.f a1 0 63).bind fun t131 => ((assentbook_Within.f a2 0 63).bind fun t132 => ((bits_Set_Count.f k a0).bind fun t133 => ((bits_Set_Has.f a0 t131).bind fun t134 => (if t134 = true then (assentlaw4_BitsParts.j0 k a0 t131 t132 (wrap64 (t133 - 1))) else (assentlaw4_BitsParts.j0 k a0 t131 t132 t133)))))) = some r := h
  clear h
  replace H := Option.bind_eq_some_iff.mp H
  obtain ⟨t131, A40, H⟩ := H
  replace H : ((assentbook_Within.f a2 0 63).bind fun t132 => ((bits_Set_Count.f k a0).bind fun t133 => ((bits_Set_Has.f a0 t131).bind fun t134 => (if t134 = true then (assentlaw4_BitsParts.j0 k a0 t131 t132 (wrap64 (t133 - 1))) else (assentlaw4_BitsParts.j0 k a0 t131 t132 t133))))) = some r := H
  have A4 := Aside0.mk A40
  clear A40
  replace H := Option.bind_eq_some_iff.mp H
  obtain ⟨t132, A50, H⟩ := H
  replace H : ((bits_Set_Count.f k a0).bind fun t133 => ((bits_Set_Has.f a0 t131).bind fun t134 => (if t134 = true then (assentlaw4_BitsParts.j0 k a0 t131 t132 (wrap64 (t133 - 1))) else (assentlaw4_BitsParts.j0 k a0 t131 t132 t133)))) = some r := H
  have A5 := Aside0.mk A50
  clear A50
  replace H := Option.bind_eq_some_iff.mp H
  obtain ⟨t133, A60, H⟩ := H
  replace H : ((bits_Set_Has.f a0 t131).bind fun t134 => (if t134 = true then (assentlaw4_BitsParts.j0 k a0 t131 t132 (wrap64 (t133 - 1))) else (assentlaw4_BitsParts.j0 k a0 t131 t132 t133))) = some r := H
  have A6 := Aside0.mk A60
  clear A60
  replace H := Option.bind_eq_some_iff.mp H
  obtain ⟨t134, A70, H⟩ := H
  replace H : (if t134 = true then (assentlaw4_BitsParts.j0 k a0 t131 t132 (wrap64 (t133 - 1))) else (assentlaw4_BitsParts.j0 k a0 t131 t132 t133)) = some r := H
  have A7 := Aside0.mk A70
  clear A70
  have HC8 := Aside0.mk H
  clear H
  go_enter Try.func13, Try.ntmps13
  go_upto_if 22 with (first | ((with_reducible refine gate_callee (f := 19) rfl ?_); refine goesL_ (some 15) rfl rfl Try.func19 (by kernel_rfl) rfl #[.int .i64 a1, .int .i64 0, .int .i64 63] rfl (by (try simp only [List.map_toArray, List.map_cons, List.map_nil]); first | done | rfl | (simp only [List.length_drop, List.length_take]; rfl)) ?_; (with_reducible refine (assentbook_Within.calls a1 0 63 t131 _ A4.out).mono ?_); rintro e w' ⟨rfl, ⟨nd, rfl⟩⟩; refine ⟨_, rfl, ?_⟩) | ((with_reducible refine gate_callee (f := 19) rfl ?_); refine goesL_ (some 17) rfl rfl Try.func19 (by kernel_rfl) rfl #[.int .i64 a2, .int .i64 0, .int .i64 63] rfl (by (try simp only [List.map_toArray, List.map_cons, List.map_nil]); first | done | rfl | (simp only [List.length_drop, List.length_take]; rfl)) ?_; (with_reducible refine (assentbook_Within.calls a2 0 63 t132 _ A5.out).mono ?_); rintro e w' ⟨rfl, ⟨nd, rfl⟩⟩; refine ⟨_, rfl, ?_⟩) | ((with_reducible refine gate_callee (f := 22) rfl ?_); refine goesL_ (some 19) rfl rfl Try.func22 (by kernel_rfl) rfl #[.int .u64 a0] rfl (by (try simp only [List.map_toArray, List.map_cons, List.map_nil]); first | done | rfl | (simp only [List.length_drop, List.length_take]; rfl)) ?_; (with_reducible refine (bits_Set_Count.calls k a0 t133 _ A6.out).mono ?_); rintro e w9 ⟨rfl, hb⟩; refine ⟨_, rfl, ?_⟩; have n0_ := Aside0.mk (below_step (by repeat (first | (with_reducible first | exact HB.out | apply below_alloc | apply pw_below_drewN | apply below_drew1) | exact HB.out)) hb); clear HB; have HB := n0_; clear n0_; (try clear hb); (try clear hb2); (try clear hk); (try clear hi)) | ((with_reducible refine gate_callee (f := 26) rfl ?_); refine goesL_ (some 22) rfl rfl Try.func26 (by kernel_rfl) rfl #[.int .u64 a0, .int .i64 t131] rfl (by (try simp only [List.map_toArray, List.map_cons, List.map_nil]); first | done | rfl | (simp only [List.length_drop, List.length_take]; rfl)) ?_; (with_reducible refine (bits_Set_Has.calls a0 t131 t134 _ A7.out).mono ?_); rintro e w' ⟨rfl, ⟨nd, rfl⟩⟩; refine ⟨_, rfl, ?_⟩))
  (try simp only [Act.put, List.setIfInBounds_toArray, List.set_cons_zero, List.set_cons_succ])
  go_cut [10] (fun v10 wc => ∃ (kq : Nat) (x10_7 : Int), v10 = .int .i64 x10_7 ∧ Aside0 (assentlaw4_BitsParts.j0 kq a0 t131 t132 x10_7 = some r) ∧ Aside0 (kq ≤ k) ∧ Aside0 (Below w.heap.size w wc))
  case first =>
    have H := HC8.out
    clear HC8
    by_cases c10 : t134 = true
    · subst c10
      have H1 : (assentlaw4_BitsParts.j0 k a0 t131 t132 (wrap64 (t133 - 1))) = some r := by rw [if_pos rfl] at H; exact H
      clear H
      have H := H1
      clear H1
      have H' := Aside0.mk H
      clear H
      go_wp2
      go_meet
      case rel => exact ⟨_, (wrap64 (t133 - 1)), (by first | rfl | (simp; done) | (simp [*]; done)), H', ⟨by first | omega | exact Nat.le_refl _⟩, ⟨by repeat (first | (with_reducible first | exact HB.out | apply below_alloc | apply pw_below_drewN | apply below_drew1) | exact HB.out)⟩⟩
    · replace c10 := Bool.eq_false_iff.mpr c10
      subst c10
      have H1 : (assentlaw4_BitsParts.j0 k a0 t131 t132 t133) = some r := by rw [if_neg (show ¬ (false = true) by decide)] at H; exact H
      clear H
      have H := H1
      clear H1
      have H' := Aside0.mk H
      clear H
      go_wp2
      go_meet
      case rel => exact ⟨_, (t133), (by first | rfl | (simp; done) | (simp [*]; done)), H', ⟨by first | omega | exact Nat.le_refl _⟩, ⟨by repeat (first | (with_reducible first | exact HB.out | apply below_alloc | apply pw_below_drewN | apply below_drew1) | exact HB.out)⟩⟩
  case rest =>
    clear HC8
    try clear c1
    try clear c2
    try clear p2
    try clear p6
    try clear c10
    obtain ⟨kq, x10_7, rfl, HA, HJ7, HB⟩ := hcut
    cases kq with
    | zero => exact absurd HA.out (by simp [assentlaw4_BitsParts.j0])
    | succ kj7 =>
      have H := HA.out
      clear HA
      simp only [assentlaw4_BitsParts.j0] at H
      replace H := Option.bind_eq_some_iff.mp H
      obtain ⟨t135, A110, H⟩ := H
      replace H : ((bits_Set_Drop.f a0 t131).bind fun t136 => ((bits_Set_Count.f kj7 t135).bind fun t137 => (if t137 = (wrap64 (x10_7 + 1)) then ((bits_Set_Count.f kj7 t136).bind fun t138 => (if t138 = x10_7 then ((bits_Set_Has.f t135 t131).bind fun t139 => (if t139 = true then ((bits_Set_Has.f t136 t131).bind fun t140 => (if t140 = true then (some false) else ((bits_Set_Add.f t135 t132).bind fun t141 => ((bits_Set_Add.f a0 t132).bind fun t142 => ((bits_Set_Add.f t142 t131).bind fun t143 => (if t141 = t143 then (if t131 = t132 then ((bits_Set_First.f kj7 t135).bind fun t144 => (if t144 ≥ 0 then ((bits_Set_First.f kj7 t135).bind fun t145 => (if t145 ≤ t131 then ((assentlaw4_BitsRuns.f kj7).bind fun t146 => (some t146)) else (some false))) else (some false))) else ((bits_Set_Drop.f t135 t132).bind fun t147 => ((bits_Set_Drop.f a0 t132).bind fun t148 => ((bits_Set_Add.f t148 t131).bind fun t149 => (if t147 = t149 then ((bits_Set_First.f kj7 t135).bind fun t150 => (if t150 ≥ 0 then ((bits_Set_First.f kj7 t135).bind fun t151 => (if t151 ≤ t131 then ((assentlaw4_BitsRuns.f kj7).bind fun t152 => (some t152)) else (some false))) else (some false))) else (some false)))))) else (some false))))))) else (some false))) else (some false))) else (some false)))) = some r := H
      have A11 := Aside0.mk A110
      clear A110
      replace H := Option.bind_eq_some_iff.mp H
      obtain ⟨t136, A120, H⟩ := H
      replace H : ((bits_Set_Count.f kj7 t135).bind fun t137 => (if t137 = (wrap64 (x10_7 + 1)) then ((bits_Set_Count.f kj7 t136).bind fun t138 => (if t138 = x10_7 then ((bits_Set_Has.f t135 t131).bind fun t139 => (if t139 = true then ((bits_Set_Has.f t136 t131).bind fun t140 => (if t140 = true then (some false) else ((bits_Set_Add.f t135 t132).bind fun t141 => ((bits_Set_Add.f a0 t132).bind fun t142 => ((bits_Set_Add.f t142 t131).bind fun t143 => (if t141 = t143 then (if t131 = t132 then ((bits_Set_First.f kj7 t135).bind fun t144 => (if t144 ≥ 0 then ((bits_Set_First.f kj7 t135).bind fun t145 => (if t145 ≤ t131 then ((assentlaw4_BitsRuns.f kj7).bind fun t146 => (some t146)) else (some false))) else (some false))) else ((bits_Set_Drop.f t135 t132).bind fun t147 => ((bits_Set_Drop.f a0 t132).bind fun t148 => ((bits_Set_Add.f t148 t131).bind fun t149 => (if t147 = t149 then ((bits_Set_First.f kj7 t135).bind fun t150 => (if t150 ≥ 0 then ((bits_Set_First.f kj7 t135).bind fun t151 => (if t151 ≤ t131 then ((assentlaw4_BitsRuns.f kj7).bind fun t152 => (some t152)) else (some false))) else (some false))) else (some false)))))) else (some false))))))) else (some false))) else (some false))) else (some false))) = some r := H
      have A12 := Aside0.mk A120
      clear A120
      replace H := Option.bind_eq_some_iff.mp H
      obtain ⟨t137, A130, H⟩ := H
      replace H : (if t137 = (wrap64 (x10_7 + 1)) then ((bits_Set_Count.f kj7 t136).bind fun t138 => (if t138 = x10_7 then ((bits_Set_Has.f t135 t131).bind fun t139 => (if t139 = true then ((bits_Set_Has.f t136 t131).bind fun t140 => (if t140 = true then (some false) else ((bits_Set_Add.f t135 t132).bind fun t141 => ((bits_Set_Add.f a0 t132).bind fun t142 => ((bits_Set_Add.f t142 t131).bind fun t143 => (if t141 = t143 then (if t131 = t132 then ((bits_Set_First.f kj7 t135).bind fun t144 => (if t144 ≥ 0 then ((bits_Set_First.f kj7 t135).bind fun t145 => (if t145 ≤ t131 then ((assentlaw4_BitsRuns.f kj7).bind fun t146 => (some t146)) else (some false))) else (some false))) else ((bits_Set_Drop.f t135 t132).bind fun t147 => ((bits_Set_Drop.f a0 t132).bind fun t148 => ((bits_Set_Add.f t148 t131).bind fun t149 => (if t147 = t149 then ((bits_Set_First.f kj7 t135).bind fun t150 => (if t150 ≥ 0 then ((bits_Set_First.f kj7 t135).bind fun t151 => (if t151 ≤ t131 then ((assentlaw4_BitsRuns.f kj7).bind fun t152 => (some t152)) else (some false))) else (some false))) else (some false)))))) else (some false))))))) else (some false))) else (some false))) else (some false)) = some r := H
      have A13 := Aside0.mk A130
      clear A130
      by_cases c14 : t137 = (wrap64 (x10_7 + 1))
      · rw [if_pos c14] at H
        have c14b0 : (t137 == (wrap64 (x10_7 + 1))) = true := beq_iff_eq.mpr c14
        have c14b1 : (t137 != (wrap64 (x10_7 + 1))) = false := bne_eq_false_iff_eq.mpr c14
        clear c14
        replace H := Option.bind_eq_some_iff.mp H
        obtain ⟨t138, A150, H⟩ := H
        replace H : (if t138 = x10_7 then ((bits_Set_Has.f t135 t131).bind fun t139 => (if t139 = true then ((bits_Set_Has.f t136 t131).bind fun t140 => (if t140 = true then (some false) else ((bits_Set_Add.f t135 t132).bind fun t141 => ((bits_Set_Add.f a0 t132).bind fun t142 => ((bits_Set_Add.f t142 t131).bind fun t143 => (if t141 = t143 then (if t131 = t132 then ((bits_Set_First.f kj7 t135).bind fun t144 => (if t144 ≥ 0 then ((bits_Set_First.f kj7 t135).bind fun t145 => (if t145 ≤ t131 then ((assentlaw4_BitsRuns.f kj7).bind fun t146 => (some t146)) else (some false))) else (some false))) else ((bits_Set_Drop.f t135 t132).bind fun t147 => ((bits_Set_Drop.f a0 t132).bind fun t148 => ((bits_Set_Add.f t148 t131).bind fun t149 => (if t147 = t149 then ((bits_Set_First.f kj7 t135).bind fun t150 => (if t150 ≥ 0 then ((bits_Set_First.f kj7 t135).bind fun t151 => (if t151 ≤ t131 then ((assentlaw4_BitsRuns.f kj7).bind fun t152 => (some t152)) else (some false))) else (some false))) else (some false)))))) else (some false))))))) else (some false))) else (some false)) = some r := H
        have A15 := Aside0.mk A150
        clear A150
        by_cases c16 : t138 = x10_7
        · rw [if_pos c16] at H
          have c16b0 : (t138 == x10_7) = true := beq_iff_eq.mpr c16
          have c16b1 : (t138 != x10_7) = false := bne_eq_false_iff_eq.mpr c16
          clear c16
          replace H := Option.bind_eq_some_iff.mp H
          obtain ⟨t139, A170, H⟩ := H
          replace H : (if t139 = true then ((bits_Set_Has.f t136 t131).bind fun t140 => (if t140 = true then (some false) else ((bits_Set_Add.f t135 t132).bind fun t141 => ((bits_Set_Add.f a0 t132).bind fun t142 => ((bits_Set_Add.f t142 t131).bind fun t143 => (if t141 = t143 then (if t131 = t132 then ((bits_Set_First.f kj7 t135).bind fun t144 => (if t144 ≥ 0 then ((bits_Set_First.f kj7 t135).bind fun t145 => (if t145 ≤ t131 then ((assentlaw4_BitsRuns.f kj7).bind fun t146 => (some t146)) else (some false))) else (some false))) else ((bits_Set_Drop.f t135 t132).bind fun t147 => ((bits_Set_Drop.f a0 t132).bind fun t148 => ((bits_Set_Add.f t148 t131).bind fun t149 => (if t147 = t149 then ((bits_Set_First.f kj7 t135).bind fun t150 => (if t150 ≥ 0 then ((bits_Set_First.f kj7 t135).bind fun t151 => (if t151 ≤ t131 then ((assentlaw4_BitsRuns.f kj7).bind fun t152 => (some t152)) else (some false))) else (some false))) else (some false)))))) else (some false))))))) else (some false)) = some r := H
          have A17 := Aside0.mk A170
          clear A170
          by_cases c18 : t139 = true
          · subst c18
            have H1 : ((bits_Set_Has.f t136 t131).bind fun t140 => (if t140 = true then (some false) else ((bits_Set_Add.f t135 t132).bind fun t141 => ((bits_Set_Add.f a0 t132).bind fun t142 => ((bits_Set_Add.f t142 t131).bind fun t143 => (if t141 = t143 then (if t131 = t132 then ((bits_Set_First.f kj7 t135).bind fun t144 => (if t144 ≥ 0 then ((bits_Set_First.f kj7 t135).bind fun t145 => (if t145 ≤ t131 then ((assentlaw4_BitsRuns.f kj7).bind fun t146 => (some t146)) else (some false))) else (some false))) else ((bits_Set_Drop.f t135 t132).bind fun t147 => ((bits_Set_Drop.f a0 t132).bind fun t148 => ((bits_Set_Add.f t148 t131).bind fun t149 => (if t147 = t149 then ((bits_Set_First.f kj7 t135).bind fun t150 => (if t150 ≥ 0 then ((bits_Set_First.f kj7 t135).bind fun t151 => (if t151 ≤ t131 then ((assentlaw4_BitsRuns.f kj7).bind fun t152 => (some t152)) else (some false))) else (some false))) else (some false)))))) else (some false))))))) = some r := by rw [if_pos rfl] at H; exact H
            clear H
            have H := H1
            clear H1
            replace H := Option.bind_eq_some_iff.mp H
            obtain ⟨t140, A190, H⟩ := H
            replace H : (if t140 = true then (some false) else ((bits_Set_Add.f t135 t132).bind fun t141 => ((bits_Set_Add.f a0 t132).bind fun t142 => ((bits_Set_Add.f t142 t131).bind fun t143 => (if t141 = t143 then (if t131 = t132 then ((bits_Set_First.f kj7 t135).bind fun t144 => (if t144 ≥ 0 then ((bits_Set_First.f kj7 t135).bind fun t145 => (if t145 ≤ t131 then ((assentlaw4_BitsRuns.f kj7).bind fun t146 => (some t146)) else (some false))) else (some false))) else ((bits_Set_Drop.f t135 t132).bind fun t147 => ((bits_Set_Drop.f a0 t132).bind fun t148 => ((bits_Set_Add.f t148 t131).bind fun t149 => (if t147 = t149 then ((bits_Set_First.f kj7 t135).bind fun t150 => (if t150 ≥ 0 then ((bits_Set_First.f kj7 t135).bind fun t151 => (if t151 ≤ t131 then ((assentlaw4_BitsRuns.f kj7).bind fun t152 => (some t152)) else (some false))) else (some false))) else (some false)))))) else (some false)))))) = some r := H
            have A19 := Aside0.mk A190
            clear A190
            by_cases c20 : t140 = true
            · subst c20
              have H1 : (some false) = some r := by rw [if_pos rfl] at H; exact H
              clear H
              have H := H1
              clear H1
              obtain rfl := Option.some.inj H
              go_wp2_with (first | ((with_reducible refine gate_callee (f := 28) rfl ?_); refine goesL_ (some 27) rfl rfl Try.func28 (by kernel_rfl) rfl #[.int .u64 a0, .int .i64 t131] rfl (by (try simp only [List.map_toArray, List.map_cons, List.map_nil]); first | done | rfl | (simp only [List.length_drop, List.length_take]; rfl)) ?_; (with_reducible refine (bits_Set_Add.calls a0 t131 t135 _ A11.out).mono ?_); rintro e w' ⟨rfl, ⟨nd, rfl⟩⟩; refine ⟨_, rfl, ?_⟩) | ((with_reducible refine gate_callee (f := 21) rfl ?_); refine goesL_ (some 30) rfl rfl Try.func21 (by kernel_rfl) rfl #[.int .u64 a0, .int .i64 t131] rfl (by (try simp only [List.map_toArray, List.map_cons, List.map_nil]); first | done | rfl | (simp only [List.length_drop, List.length_take]; rfl)) ?_; (with_reducible refine (bits_Set_Drop.calls a0 t131 t136 _ A12.out).mono ?_); rintro e w' ⟨rfl, ⟨nd, rfl⟩⟩; refine ⟨_, rfl, ?_⟩) | ((with_reducible refine gate_callee (f := 22) rfl ?_); refine goesL_ (some 32) rfl rfl Try.func22 (by kernel_rfl) rfl #[.int .u64 t135] rfl (by (try simp only [List.map_toArray, List.map_cons, List.map_nil]); first | done | rfl | (simp only [List.length_drop, List.length_take]; rfl)) ?_; (with_reducible refine (bits_Set_Count.calls kj7 t135 t137 _ A13.out).mono ?_); rintro e w21 ⟨rfl, hb⟩; refine ⟨_, rfl, ?_⟩; have n0_ := Aside0.mk (below_step (by repeat (first | (with_reducible first | exact HB.out | apply below_alloc | apply pw_below_drewN | apply below_drew1) | exact HB.out)) hb); clear HB; have HB := n0_; clear n0_; (try clear hb); (try clear hb2); (try clear hk); (try clear hi)) | (go_at_call 22; (with_reducible refine (bits_Set_Count.calls kj7 t136 t138 _ A15.out).mono ?_); rintro e w22 ⟨rfl, hb⟩; have n0_ := Aside0.mk (below_step (by repeat (first | (with_reducible first | exact HB.out | apply below_alloc | apply pw_below_drewN | apply below_drew1) | exact HB.out)) hb); clear HB; have HB := n0_; clear n0_; (try clear hb); (try clear hb2); (try clear hk); (try clear hi)) | (go_at_call 26; (with_reducible refine (bits_Set_Has.calls t135 t131 true _ A17.out).mono ?_); rintro e w' ⟨rfl, ⟨nd, rfl⟩⟩) | (go_at_call 26; (with_reducible refine (bits_Set_Has.calls t136 t131 true _ A19.out).mono ?_); rintro e w' ⟨rfl, ⟨nd, rfl⟩⟩))
              go_ret
              exact ⟨by first | rfl | (simp [errW_none, errW_some] <;> rfl) | (simp [*, errW_none, errW_some] <;> rfl), by repeat (first | (with_reducible first | exact HB.out | apply below_alloc | apply pw_below_drewN | apply below_drew1) | exact HB.out)⟩
            · replace c20 := Bool.eq_false_iff.mpr c20
              subst c20
              have H1 : ((bits_Set_Add.f t135 t132).bind fun t141 => ((bits_Set_Add.f a0 t132).bind fun t142 => ((bits_Set_Add.f t142 t131).bind fun t143 => (if t141 = t143 then (if t131 = t132 then ((bits_Set_First.f kj7 t135).bind fun t144 => (if t144 ≥ 0 then ((bits_Set_First.f kj7 t135).bind fun t145 => (if t145 ≤ t131 then ((assentlaw4_BitsRuns.f kj7).bind fun t146 => (some t146)) else (some false))) else (some false))) else ((bits_Set_Drop.f t135 t132).bind fun t147 => ((bits_Set_Drop.f a0 t132).bind fun t148 => ((bits_Set_Add.f t148 t131).bind fun t149 => (if t147 = t149 then ((bits_Set_First.f kj7 t135).bind fun t150 => (if t150 ≥ 0 then ((bits_Set_First.f kj7 t135).bind fun t151 => (if t151 ≤ t131 then ((assentlaw4_BitsRuns.f kj7).bind fun t152 => (some t152)) else (some false))) else (some false))) else (some false)))))) else (some false))))) = some r := by rw [if_neg (show ¬ (false = true) by decide)] at H; exact H
              clear H
              have H := H1
              clear H1
              replace H := Option.bind_eq_some_iff.mp H
              obtain ⟨t141, A230, H⟩ := H
              replace H : ((bits_Set_Add.f a0 t132).bind fun t142 => ((bits_Set_Add.f t142 t131).bind fun t143 => (if t141 = t143 then (if t131 = t132 then ((bits_Set_First.f kj7 t135).bind fun t144 => (if t144 ≥ 0 then ((bits_Set_First.f kj7 t135).bind fun t145 => (if t145 ≤ t131 then ((assentlaw4_BitsRuns.f kj7).bind fun t146 => (some t146)) else (some false))) else (some false))) else ((bits_Set_Drop.f t135 t132).bind fun t147 => ((bits_Set_Drop.f a0 t132).bind fun t148 => ((bits_Set_Add.f t148 t131).bind fun t149 => (if t147 = t149 then ((bits_Set_First.f kj7 t135).bind fun t150 => (if t150 ≥ 0 then ((bits_Set_First.f kj7 t135).bind fun t151 => (if t151 ≤ t131 then ((assentlaw4_BitsRuns.f kj7).bind fun t152 => (some t152)) else (some false))) else (some false))) else (some false)))))) else (some false)))) = some r := H
              have A23 := Aside0.mk A230
              clear A230
              replace H := Option.bind_eq_some_iff.mp H
              obtain ⟨t142, A240, H⟩ := H
              replace H : ((bits_Set_Add.f t142 t131).bind fun t143 => (if t141 = t143 then (if t131 = t132 then ((bits_Set_First.f kj7 t135).bind fun t144 => (if t144 ≥ 0 then ((bits_Set_First.f kj7 t135).bind fun t145 => (if t145 ≤ t131 then ((assentlaw4_BitsRuns.f kj7).bind fun t146 => (some t146)) else (some false))) else (some false))) else ((bits_Set_Drop.f t135 t132).bind fun t147 => ((bits_Set_Drop.f a0 t132).bind fun t148 => ((bits_Set_Add.f t148 t131).bind fun t149 => (if t147 = t149 then ((bits_Set_First.f kj7 t135).bind fun t150 => (if t150 ≥ 0 then ((bits_Set_First.f kj7 t135).bind fun t151 => (if t151 ≤ t131 then ((assentlaw4_BitsRuns.f kj7).bind fun t152 => (some t152)) else (some false))) else (some false))) else (some false)))))) else (some false))) = some r := H
              have A24 := Aside0.mk A240
              clear A240
              replace H := Option.bind_eq_some_iff.mp H
              obtain ⟨t143, A250, H⟩ := H
              replace H : (if t141 = t143 then (if t131 = t132 then ((bits_Set_First.f kj7 t135).bind fun t144 => (if t144 ≥ 0 then ((bits_Set_First.f kj7 t135).bind fun t145 => (if t145 ≤ t131 then ((assentlaw4_BitsRuns.f kj7).bind fun t146 => (some t146)) else (some false))) else (some false))) else ((bits_Set_Drop.f t135 t132).bind fun t147 => ((bits_Set_Drop.f a0 t132).bind fun t148 => ((bits_Set_Add.f t148 t131).bind fun t149 => (if t147 = t149 then ((bits_Set_First.f kj7 t135).bind fun t150 => (if t150 ≥ 0 then ((bits_Set_First.f kj7 t135).bind fun t151 => (if t151 ≤ t131 then ((assentlaw4_BitsRuns.f kj7).bind fun t152 => (some t152)) else (some false))) else (some false))) else (some false)))))) else (some false)) = some r := H
              have A25 := Aside0.mk A250
              clear A250
              by_cases c26 : t141 = t143
              · rw [if_pos c26] at H
                have c26b0 : (t141 == t143) = true := beq_iff_eq.mpr c26
                have c26b1 : (t141 != t143) = false := bne_eq_false_iff_eq.mpr c26
                clear c26
                by_cases c27 : t131 = t132
                · rw [if_pos c27] at H
                  have c27b0 : (t131 == t132) = true := beq_iff_eq.mpr c27
                  have c27b1 : (t131 != t132) = false := bne_eq_false_iff_eq.mpr c27
                  clear c27
                  replace H := Option.bind_eq_some_iff.mp H
                  obtain ⟨t144, A280, H⟩ := H
                  replace H : (if t144 ≥ 0 then ((bits_Set_First.f kj7 t135).bind fun t145 => (if t145 ≤ t131 then ((assentlaw4_BitsRuns.f kj7).bind fun t146 => (some t146)) else (some false))) else (some false)) = some r := H
                  have A28 := Aside0.mk A280
                  clear A280
                  by_cases c29 : t144 ≥ 0
                  · rw [if_pos c29] at H
                    have c29b0 : decide (0 ≤ t144) = true := decide_eq_true c29
                    clear c29
                    replace H := Option.bind_eq_some_iff.mp H
                    obtain ⟨t145, A300, H⟩ := H
                    replace H : (if t145 ≤ t131 then ((assentlaw4_BitsRuns.f kj7).bind fun t146 => (some t146)) else (some false)) = some r := H
                    have A30 := Aside0.mk A300
                    clear A300
                    by_cases c31 : t145 ≤ t131
                    · rw [if_pos c31] at H
                      have c31b0 : decide (t145 ≤ t131) = true := decide_eq_true c31
                      have c31b9 : decide (t144 ≤ t131) = true := by rw [Option.some.inj (A28.out.symm.trans A30.out)]; exact c31b0
                      clear c31
                      replace H := Option.bind_eq_some_iff.mp H
                      obtain ⟨t146, A320, H⟩ := H
                      replace H : (some t146) = some r := H
                      have A32 := Aside0.mk A320
                      clear A320
                      obtain rfl := Option.some.inj H
                      go_wp2_with (first | ((with_reducible refine gate_callee (f := 28) rfl ?_); refine goesL_ (some 27) rfl rfl Try.func28 (by kernel_rfl) rfl #[.int .u64 a0, .int .i64 t131] rfl (by (try simp only [List.map_toArray, List.map_cons, List.map_nil]); first | done | rfl | (simp only [List.length_drop, List.length_take]; rfl)) ?_; (with_reducible refine (bits_Set_Add.calls a0 t131 t135 _ A11.out).mono ?_); rintro e w' ⟨rfl, ⟨nd, rfl⟩⟩; refine ⟨_, rfl, ?_⟩) | ((with_reducible refine gate_callee (f := 21) rfl ?_); refine goesL_ (some 30) rfl rfl Try.func21 (by kernel_rfl) rfl #[.int .u64 a0, .int .i64 t131] rfl (by (try simp only [List.map_toArray, List.map_cons, List.map_nil]); first | done | rfl | (simp only [List.length_drop, List.length_take]; rfl)) ?_; (with_reducible refine (bits_Set_Drop.calls a0 t131 t136 _ A12.out).mono ?_); rintro e w' ⟨rfl, ⟨nd, rfl⟩⟩; refine ⟨_, rfl, ?_⟩) | ((with_reducible refine gate_callee (f := 22) rfl ?_); refine goesL_ (some 32) rfl rfl Try.func22 (by kernel_rfl) rfl #[.int .u64 t135] rfl (by (try simp only [List.map_toArray, List.map_cons, List.map_nil]); first | done | rfl | (simp only [List.length_drop, List.length_take]; rfl)) ?_; (with_reducible refine (bits_Set_Count.calls kj7 t135 t137 _ A13.out).mono ?_); rintro e w33 ⟨rfl, hb⟩; refine ⟨_, rfl, ?_⟩; have n0_ := Aside0.mk (below_step (by repeat (first | (with_reducible first | exact HB.out | apply below_alloc | apply pw_below_drewN | apply below_drew1) | exact HB.out)) hb); clear HB; have HB := n0_; clear n0_; (try clear hb); (try clear hb2); (try clear hk); (try clear hi)) | (go_at_call 22; (with_reducible refine (bits_Set_Count.calls kj7 t136 t138 _ A15.out).mono ?_); rintro e w34 ⟨rfl, hb⟩; have n0_ := Aside0.mk (below_step (by repeat (first | (with_reducible first | exact HB.out | apply below_alloc | apply pw_below_drewN | apply below_drew1) | exact HB.out)) hb); clear HB; have HB := n0_; clear n0_; (try clear hb); (try clear hb2); (try clear hk); (try clear hi)) | (go_at_call 26; (with_reducible refine (bits_Set_Has.calls t135 t131 true _ A17.out).mono ?_); rintro e w' ⟨rfl, ⟨nd, rfl⟩⟩) | (go_at_call 26; (with_reducible refine (bits_Set_Has.calls t136 t131 false _ A19.out).mono ?_); rintro e w' ⟨rfl, ⟨nd, rfl⟩⟩) | (go_at_call 28; (with_reducible refine (bits_Set_Add.calls t135 t132 t141 _ A23.out).mono ?_); rintro e w' ⟨rfl, ⟨nd, rfl⟩⟩) | (go_at_call 28; (with_reducible refine (bits_Set_Add.calls a0 t132 t142 _ A24.out).mono ?_); rintro e w' ⟨rfl, ⟨nd, rfl⟩⟩) | (go_at_call 28; (with_reducible refine (bits_Set_Add.calls t142 t131 t143 _ A25.out).mono ?_); rintro e w' ⟨rfl, ⟨nd, rfl⟩⟩) | (go_at_call 23; (with_reducible refine (bits_Set_First.calls kj7 t135 t144 _ A28.out).mono ?_); rintro e w' ⟨rfl, ⟨nd, rfl⟩⟩) | (go_at_call 23; (with_reducible refine (bits_Set_First.calls kj7 t135 t145 _ A30.out).mono ?_); rintro e w' ⟨rfl, ⟨nd, rfl⟩⟩) | (go_at_call 9; (with_reducible refine (assentlaw4_BitsRuns.calls kj7  t146 _ A32.out).mono ?_); rintro e w35 ⟨rfl, hb⟩; have n0_ := Aside0.mk (below_step (by repeat (first | (with_reducible first | exact HB.out | apply below_alloc | apply pw_below_drewN | apply below_drew1) | exact HB.out)) hb); clear HB; have HB := n0_; clear n0_; (try clear hb); (try clear hb2); (try clear hk); (try clear hi)))
                      go_ret
                      exact ⟨by first | rfl | (simp [errW_none, errW_some] <;> rfl) | (simp [*, errW_none, errW_some] <;> rfl), by repeat (first | (with_reducible first | exact HB.out | apply below_alloc | apply pw_below_drewN | apply below_drew1) | exact HB.out)⟩
                    · rw [if_neg c31] at H
                      have c31b0 : decide (t145 ≤ t131) = false := decide_eq_false c31
                      have c31b9 : decide (t144 ≤ t131) = false := by rw [Option.some.inj (A28.out.symm.trans A30.out)]; exact c31b0
                      clear c31
                      obtain rfl := Option.some.inj H
                      go_wp2_with (first | ((with_reducible refine gate_callee (f := 28) rfl ?_); refine goesL_ (some 27) rfl rfl Try.func28 (by kernel_rfl) rfl #[.int .u64 a0, .int .i64 t131] rfl (by (try simp only [List.map_toArray, List.map_cons, List.map_nil]); first | done | rfl | (simp only [List.length_drop, List.length_take]; rfl)) ?_; (with_reducible refine (bits_Set_Add.calls a0 t131 t135 _ A11.out).mono ?_); rintro e w' ⟨rfl, ⟨nd, rfl⟩⟩; refine ⟨_, rfl, ?_⟩) | ((with_reducible refine gate_callee (f := 21) rfl ?_); refine goesL_ (some 30) rfl rfl Try.func21 (by kernel_rfl) rfl #[.int .u64 a0, .int .i64 t131] rfl (by (try simp only [List.map_toArray, List.map_cons, List.map_nil]); first | done | rfl | (simp only [List.length_drop, List.length_take]; rfl)) ?_; (with_reducible refine (bits_Set_Drop.calls a0 t131 t136 _ A12.out).mono ?_); rintro e w' ⟨rfl, ⟨nd, rfl⟩⟩; refine ⟨_, rfl, ?_⟩) | ((with_reducible refine gate_callee (f := 22) rfl ?_); refine goesL_ (some 32) rfl rfl Try.func22 (by kernel_rfl) rfl #[.int .u64 t135] rfl (by (try simp only [List.map_toArray, List.map_cons, List.map_nil]); first | done | rfl | (simp only [List.length_drop, List.length_take]; rfl)) ?_; (with_reducible refine (bits_Set_Count.calls kj7 t135 t137 _ A13.out).mono ?_); rintro e w36 ⟨rfl, hb⟩; refine ⟨_, rfl, ?_⟩; have n0_ := Aside0.mk (below_step (by repeat (first | (with_reducible first | exact HB.out | apply below_alloc | apply pw_below_drewN | apply below_drew1) | exact HB.out)) hb); clear HB; have HB := n0_; clear n0_; (try clear hb); (try clear hb2); (try clear hk); (try clear hi)) | (go_at_call 22; (with_reducible refine (bits_Set_Count.calls kj7 t136 t138 _ A15.out).mono ?_); rintro e w37 ⟨rfl, hb⟩; have n0_ := Aside0.mk (below_step (by repeat (first | (with_reducible first | exact HB.out | apply below_alloc | apply pw_below_drewN | apply below_drew1) | exact HB.out)) hb); clear HB; have HB := n0_; clear n0_; (try clear hb); (try clear hb2); (try clear hk); (try clear hi)) | (go_at_call 26; (with_reducible refine (bits_Set_Has.calls t135 t131 true _ A17.out).mono ?_); rintro e w' ⟨rfl, ⟨nd, rfl⟩⟩) | (go_at_call 26; (with_reducible refine (bits_Set_Has.calls t136 t131 false _ A19.out).mono ?_); rintro e w' ⟨rfl, ⟨nd, rfl⟩⟩) | (go_at_call 28; (with_reducible refine (bits_Set_Add.calls t135 t132 t141 _ A23.out).mono ?_); rintro e w' ⟨rfl, ⟨nd, rfl⟩⟩) | (go_at_call 28; (with_reducible refine (bits_Set_Add.calls a0 t132 t142 _ A24.out).mono ?_); rintro e w' ⟨rfl, ⟨nd, rfl⟩⟩) | (go_at_call 28; (with_reducible refine (bits_Set_Add.calls t142 t131 t143 _ A25.out).mono ?_); rintro e w' ⟨rfl, ⟨nd, rfl⟩⟩) | (go_at_call 23; (with_reducible refine (bits_Set_First.calls kj7 t135 t144 _ A28.out).mono ?_); rintro e w' ⟨rfl, ⟨nd, rfl⟩⟩) | (go_at_call 23; (with_reducible refine (bits_Set_First.calls kj7 t135 t145 _ A30.out).mono ?_); rintro e w' ⟨rfl, ⟨nd, rfl⟩⟩))
                      go_ret
                      exact ⟨by first | rfl | (simp [errW_none, errW_some] <;> rfl) | (simp [*, errW_none, errW_some] <;> rfl), by repeat (first | (with_reducible first | exact HB.out | apply below_alloc | apply pw_below_drewN | apply below_drew1) | exact HB.out)⟩
                  · rw [if_neg c29] at H
                    have c29b0 : decide (0 ≤ t144) = false := decide_eq_false c29
                    clear c29
                    obtain rfl := Option.some.inj H
                    go_wp2_with (first | ((with_reducible refine gate_callee (f := 28) rfl ?_); refine goesL_ (some 27) rfl rfl Try.func28 (by kernel_rfl) rfl #[.int .u64 a0, .int .i64 t131] rfl (by (try simp only [List.map_toArray, List.map_cons, List.map_nil]); first | done | rfl | (simp only [List.length_drop, List.length_take]; rfl)) ?_; (with_reducible refine (bits_Set_Add.calls a0 t131 t135 _ A11.out).mono ?_); rintro e w' ⟨rfl, ⟨nd, rfl⟩⟩; refine ⟨_, rfl, ?_⟩) | ((with_reducible refine gate_callee (f := 21) rfl ?_); refine goesL_ (some 30) rfl rfl Try.func21 (by kernel_rfl) rfl #[.int .u64 a0, .int .i64 t131] rfl (by (try simp only [List.map_toArray, List.map_cons, List.map_nil]); first | done | rfl | (simp only [List.length_drop, List.length_take]; rfl)) ?_; (with_reducible refine (bits_Set_Drop.calls a0 t131 t136 _ A12.out).mono ?_); rintro e w' ⟨rfl, ⟨nd, rfl⟩⟩; refine ⟨_, rfl, ?_⟩) | ((with_reducible refine gate_callee (f := 22) rfl ?_); refine goesL_ (some 32) rfl rfl Try.func22 (by kernel_rfl) rfl #[.int .u64 t135] rfl (by (try simp only [List.map_toArray, List.map_cons, List.map_nil]); first | done | rfl | (simp only [List.length_drop, List.length_take]; rfl)) ?_; (with_reducible refine (bits_Set_Count.calls kj7 t135 t137 _ A13.out).mono ?_); rintro e w38 ⟨rfl, hb⟩; refine ⟨_, rfl, ?_⟩; have n0_ := Aside0.mk (below_step (by repeat (first | (with_reducible first | exact HB.out | apply below_alloc | apply pw_below_drewN | apply below_drew1) | exact HB.out)) hb); clear HB; have HB := n0_; clear n0_; (try clear hb); (try clear hb2); (try clear hk); (try clear hi)) | (go_at_call 22; (with_reducible refine (bits_Set_Count.calls kj7 t136 t138 _ A15.out).mono ?_); rintro e w39 ⟨rfl, hb⟩; have n0_ := Aside0.mk (below_step (by repeat (first | (with_reducible first | exact HB.out | apply below_alloc | apply pw_below_drewN | apply below_drew1) | exact HB.out)) hb); clear HB; have HB := n0_; clear n0_; (try clear hb); (try clear hb2); (try clear hk); (try clear hi)) | (go_at_call 26; (with_reducible refine (bits_Set_Has.calls t135 t131 true _ A17.out).mono ?_); rintro e w' ⟨rfl, ⟨nd, rfl⟩⟩) | (go_at_call 26; (with_reducible refine (bits_Set_Has.calls t136 t131 false _ A19.out).mono ?_); rintro e w' ⟨rfl, ⟨nd, rfl⟩⟩) | (go_at_call 28; (with_reducible refine (bits_Set_Add.calls t135 t132 t141 _ A23.out).mono ?_); rintro e w' ⟨rfl, ⟨nd, rfl⟩⟩) | (go_at_call 28; (with_reducible refine (bits_Set_Add.calls a0 t132 t142 _ A24.out).mono ?_); rintro e w' ⟨rfl, ⟨nd, rfl⟩⟩) | (go_at_call 28; (with_reducible refine (bits_Set_Add.calls t142 t131 t143 _ A25.out).mono ?_); rintro e w' ⟨rfl, ⟨nd, rfl⟩⟩) | (go_at_call 23; (with_reducible refine (bits_Set_First.calls kj7 t135 t144 _ A28.out).mono ?_); rintro e w' ⟨rfl, ⟨nd, rfl⟩⟩))
                    go_ret
                    exact ⟨by first | rfl | (simp [errW_none, errW_some] <;> rfl) | (simp [*, errW_none, errW_some] <;> rfl), by repeat (first | (with_reducible first | exact HB.out | apply below_alloc | apply pw_below_drewN | apply below_drew1) | exact HB.out)⟩
                · rw [if_neg c27] at H
                  have c27b0 : (t131 == t132) = false := beq_eq_false_iff_ne.mpr c27
                  have c27b1 : (t131 != t132) = true := bne_iff_ne.mpr c27
                  replace H := Option.bind_eq_some_iff.mp H
                  obtain ⟨t147, A400, H⟩ := H
                  replace H : ((bits_Set_Drop.f a0 t132).bind fun t148 => ((bits_Set_Add.f t148 t131).bind fun t149 => (if t147 = t149 then ((bits_Set_First.f kj7 t135).bind fun t150 => (if t150 ≥ 0 then ((bits_Set_First.f kj7 t135).bind fun t151 => (if t151 ≤ t131 then ((assentlaw4_BitsRuns.f kj7).bind fun t152 => (some t152)) else (some false))) else (some false))) else (some false)))) = some r := H
                  have A40 := Aside0.mk A400
                  clear A400
                  replace H := Option.bind_eq_some_iff.mp H
                  obtain ⟨t148, A410, H⟩ := H
                  replace H : ((bits_Set_Add.f t148 t131).bind fun t149 => (if t147 = t149 then ((bits_Set_First.f kj7 t135).bind fun t150 => (if t150 ≥ 0 then ((bits_Set_First.f kj7 t135).bind fun t151 => (if t151 ≤ t131 then ((assentlaw4_BitsRuns.f kj7).bind fun t152 => (some t152)) else (some false))) else (some false))) else (some false))) = some r := H
                  have A41 := Aside0.mk A410
                  clear A410
                  replace H := Option.bind_eq_some_iff.mp H
                  obtain ⟨t149, A420, H⟩ := H
                  replace H : (if t147 = t149 then ((bits_Set_First.f kj7 t135).bind fun t150 => (if t150 ≥ 0 then ((bits_Set_First.f kj7 t135).bind fun t151 => (if t151 ≤ t131 then ((assentlaw4_BitsRuns.f kj7).bind fun t152 => (some t152)) else (some false))) else (some false))) else (some false)) = some r := H
                  have A42 := Aside0.mk A420
                  clear A420
                  by_cases c43 : t147 = t149
                  · rw [if_pos c43] at H
                    have c43b0 : (t147 == t149) = true := beq_iff_eq.mpr c43
                    have c43b1 : (t147 != t149) = false := bne_eq_false_iff_eq.mpr c43
                    clear c43
                    replace H := Option.bind_eq_some_iff.mp H
                    obtain ⟨t150, A440, H⟩ := H
                    replace H : (if t150 ≥ 0 then ((bits_Set_First.f kj7 t135).bind fun t151 => (if t151 ≤ t131 then ((assentlaw4_BitsRuns.f kj7).bind fun t152 => (some t152)) else (some false))) else (some false)) = some r := H
                    have A44 := Aside0.mk A440
                    clear A440
                    by_cases c45 : t150 ≥ 0
                    · rw [if_pos c45] at H
                      have c45b0 : decide (0 ≤ t150) = true := decide_eq_true c45
                      clear c45
                      replace H := Option.bind_eq_some_iff.mp H
                      obtain ⟨t151, A460, H⟩ := H
                      replace H : (if t151 ≤ t131 then ((assentlaw4_BitsRuns.f kj7).bind fun t152 => (some t152)) else (some false)) = some r := H
                      have A46 := Aside0.mk A460
                      clear A460
                      by_cases c47 : t151 ≤ t131
                      · rw [if_pos c47] at H
                        have c47b0 : decide (t151 ≤ t131) = true := decide_eq_true c47
                        have c47b9 : decide (t150 ≤ t131) = true := by rw [Option.some.inj (A44.out.symm.trans A46.out)]; exact c47b0
                        clear c47
                        replace H := Option.bind_eq_some_iff.mp H
                        obtain ⟨t152, A480, H⟩ := H
                        replace H : (some t152) = some r := H
                        have A48 := Aside0.mk A480
                        clear A480
                        obtain rfl := Option.some.inj H
                        go_wp2_with (first | ((with_reducible refine gate_callee (f := 28) rfl ?_); refine goesL_ (some 27) rfl rfl Try.func28 (by kernel_rfl) rfl #[.int .u64 a0, .int .i64 t131] rfl (by (try simp only [List.map_toArray, List.map_cons, List.map_nil]); first | done | rfl | (simp only [List.length_drop, List.length_take]; rfl)) ?_; (with_reducible refine (bits_Set_Add.calls a0 t131 t135 _ A11.out).mono ?_); rintro e w' ⟨rfl, ⟨nd, rfl⟩⟩; refine ⟨_, rfl, ?_⟩) | ((with_reducible refine gate_callee (f := 21) rfl ?_); refine goesL_ (some 30) rfl rfl Try.func21 (by kernel_rfl) rfl #[.int .u64 a0, .int .i64 t131] rfl (by (try simp only [List.map_toArray, List.map_cons, List.map_nil]); first | done | rfl | (simp only [List.length_drop, List.length_take]; rfl)) ?_; (with_reducible refine (bits_Set_Drop.calls a0 t131 t136 _ A12.out).mono ?_); rintro e w' ⟨rfl, ⟨nd, rfl⟩⟩; refine ⟨_, rfl, ?_⟩) | ((with_reducible refine gate_callee (f := 22) rfl ?_); refine goesL_ (some 32) rfl rfl Try.func22 (by kernel_rfl) rfl #[.int .u64 t135] rfl (by (try simp only [List.map_toArray, List.map_cons, List.map_nil]); first | done | rfl | (simp only [List.length_drop, List.length_take]; rfl)) ?_; (with_reducible refine (bits_Set_Count.calls kj7 t135 t137 _ A13.out).mono ?_); rintro e w49 ⟨rfl, hb⟩; refine ⟨_, rfl, ?_⟩; have n0_ := Aside0.mk (below_step (by repeat (first | (with_reducible first | exact HB.out | apply below_alloc | apply pw_below_drewN | apply below_drew1) | exact HB.out)) hb); clear HB; have HB := n0_; clear n0_; (try clear hb); (try clear hb2); (try clear hk); (try clear hi)) | (go_at_call 22; (with_reducible refine (bits_Set_Count.calls kj7 t136 t138 _ A15.out).mono ?_); rintro e w50 ⟨rfl, hb⟩; have n0_ := Aside0.mk (below_step (by repeat (first | (with_reducible first | exact HB.out | apply below_alloc | apply pw_below_drewN | apply below_drew1) | exact HB.out)) hb); clear HB; have HB := n0_; clear n0_; (try clear hb); (try clear hb2); (try clear hk); (try clear hi)) | (go_at_call 26; (with_reducible refine (bits_Set_Has.calls t135 t131 true _ A17.out).mono ?_); rintro e w' ⟨rfl, ⟨nd, rfl⟩⟩) | (go_at_call 26; (with_reducible refine (bits_Set_Has.calls t136 t131 false _ A19.out).mono ?_); rintro e w' ⟨rfl, ⟨nd, rfl⟩⟩) | (go_at_call 28; (with_reducible refine (bits_Set_Add.calls t135 t132 t141 _ A23.out).mono ?_); rintro e w' ⟨rfl, ⟨nd, rfl⟩⟩) | (go_at_call 28; (with_reducible refine (bits_Set_Add.calls a0 t132 t142 _ A24.out).mono ?_); rintro e w' ⟨rfl, ⟨nd, rfl⟩⟩) | (go_at_call 28; (with_reducible refine (bits_Set_Add.calls t142 t131 t143 _ A25.out).mono ?_); rintro e w' ⟨rfl, ⟨nd, rfl⟩⟩) | (go_at_call 21; (with_reducible refine (bits_Set_Drop.calls t135 t132 t147 _ A40.out).mono ?_); rintro e w' ⟨rfl, ⟨nd, rfl⟩⟩) | (go_at_call 21; (with_reducible refine (bits_Set_Drop.calls a0 t132 t148 _ A41.out).mono ?_); rintro e w' ⟨rfl, ⟨nd, rfl⟩⟩) | (go_at_call 28; (with_reducible refine (bits_Set_Add.calls t148 t131 t149 _ A42.out).mono ?_); rintro e w' ⟨rfl, ⟨nd, rfl⟩⟩) | (go_at_call 23; (with_reducible refine (bits_Set_First.calls kj7 t135 t150 _ A44.out).mono ?_); rintro e w' ⟨rfl, ⟨nd, rfl⟩⟩) | (go_at_call 23; (with_reducible refine (bits_Set_First.calls kj7 t135 t151 _ A46.out).mono ?_); rintro e w' ⟨rfl, ⟨nd, rfl⟩⟩) | (go_at_call 9; (with_reducible refine (assentlaw4_BitsRuns.calls kj7  t152 _ A48.out).mono ?_); rintro e w51 ⟨rfl, hb⟩; have n0_ := Aside0.mk (below_step (by repeat (first | (with_reducible first | exact HB.out | apply below_alloc | apply pw_below_drewN | apply below_drew1) | exact HB.out)) hb); clear HB; have HB := n0_; clear n0_; (try clear hb); (try clear hb2); (try clear hk); (try clear hi)))
                        go_ret
                        exact ⟨by first | rfl | (simp [errW_none, errW_some] <;> rfl) | (simp [*, errW_none, errW_some] <;> rfl), by repeat (first | (with_reducible first | exact HB.out | apply below_alloc | apply pw_below_drewN | apply below_drew1) | exact HB.out)⟩
                      · rw [if_neg c47] at H
                        have c47b0 : decide (t151 ≤ t131) = false := decide_eq_false c47
                        have c47b9 : decide (t150 ≤ t131) = false := by rw [Option.some.inj (A44.out.symm.trans A46.out)]; exact c47b0
                        clear c47
                        obtain rfl := Option.some.inj H
                        go_wp2_with (first | ((with_reducible refine gate_callee (f := 28) rfl ?_); refine goesL_ (some 27) rfl rfl Try.func28 (by kernel_rfl) rfl #[.int .u64 a0, .int .i64 t131] rfl (by (try simp only [List.map_toArray, List.map_cons, List.map_nil]); first | done | rfl | (simp only [List.length_drop, List.length_take]; rfl)) ?_; (with_reducible refine (bits_Set_Add.calls a0 t131 t135 _ A11.out).mono ?_); rintro e w' ⟨rfl, ⟨nd, rfl⟩⟩; refine ⟨_, rfl, ?_⟩) | ((with_reducible refine gate_callee (f := 21) rfl ?_); refine goesL_ (some 30) rfl rfl Try.func21 (by kernel_rfl) rfl #[.int .u64 a0, .int .i64 t131] rfl (by (try simp only [List.map_toArray, List.map_cons, List.map_nil]); first | done | rfl | (simp only [List.length_drop, List.length_take]; rfl)) ?_; (with_reducible refine (bits_Set_Drop.calls a0 t131 t136 _ A12.out).mono ?_); rintro e w' ⟨rfl, ⟨nd, rfl⟩⟩; refine ⟨_, rfl, ?_⟩) | ((with_reducible refine gate_callee (f := 22) rfl ?_); refine goesL_ (some 32) rfl rfl Try.func22 (by kernel_rfl) rfl #[.int .u64 t135] rfl (by (try simp only [List.map_toArray, List.map_cons, List.map_nil]); first | done | rfl | (simp only [List.length_drop, List.length_take]; rfl)) ?_; (with_reducible refine (bits_Set_Count.calls kj7 t135 t137 _ A13.out).mono ?_); rintro e w52 ⟨rfl, hb⟩; refine ⟨_, rfl, ?_⟩; have n0_ := Aside0.mk (below_step (by repeat (first | (with_reducible first | exact HB.out | apply below_alloc | apply pw_below_drewN | apply below_drew1) | exact HB.out)) hb); clear HB; have HB := n0_; clear n0_; (try clear hb); (try clear hb2); (try clear hk); (try clear hi)) | (go_at_call 22; (with_reducible refine (bits_Set_Count.calls kj7 t136 t138 _ A15.out).mono ?_); rintro e w53 ⟨rfl, hb⟩; have n0_ := Aside0.mk (below_step (by repeat (first | (with_reducible first | exact HB.out | apply below_alloc | apply pw_below_drewN | apply below_drew1) | exact HB.out)) hb); clear HB; have HB := n0_; clear n0_; (try clear hb); (try clear hb2); (try clear hk); (try clear hi)) | (go_at_call 26; (with_reducible refine (bits_Set_Has.calls t135 t131 true _ A17.out).mono ?_); rintro e w' ⟨rfl, ⟨nd, rfl⟩⟩) | (go_at_call 26; (with_reducible refine (bits_Set_Has.calls t136 t131 false _ A19.out).mono ?_); rintro e w' ⟨rfl, ⟨nd, rfl⟩⟩) | (go_at_call 28; (with_reducible refine (bits_Set_Add.calls t135 t132 t141 _ A23.out).mono ?_); rintro e w' ⟨rfl, ⟨nd, rfl⟩⟩) | (go_at_call 28; (with_reducible refine (bits_Set_Add.calls a0 t132 t142 _ A24.out).mono ?_); rintro e w' ⟨rfl, ⟨nd, rfl⟩⟩) | (go_at_call 28; (with_reducible refine (bits_Set_Add.calls t142 t131 t143 _ A25.out).mono ?_); rintro e w' ⟨rfl, ⟨nd, rfl⟩⟩) | (go_at_call 21; (with_reducible refine (bits_Set_Drop.calls t135 t132 t147 _ A40.out).mono ?_); rintro e w' ⟨rfl, ⟨nd, rfl⟩⟩) | (go_at_call 21; (with_reducible refine (bits_Set_Drop.calls a0 t132 t148 _ A41.out).mono ?_); rintro e w' ⟨rfl, ⟨nd, rfl⟩⟩) | (go_at_call 28; (with_reducible refine (bits_Set_Add.calls t148 t131 t149 _ A42.out).mono ?_); rintro e w' ⟨rfl, ⟨nd, rfl⟩⟩) | (go_at_call 23; (with_reducible refine (bits_Set_First.calls kj7 t135 t150 _ A44.out).mono ?_); rintro e w' ⟨rfl, ⟨nd, rfl⟩⟩) | (go_at_call 23; (with_reducible refine (bits_Set_First.calls kj7 t135 t151 _ A46.out).mono ?_); rintro e w' ⟨rfl, ⟨nd, rfl⟩⟩))
                        go_ret
                        exact ⟨by first | rfl | (simp [errW_none, errW_some] <;> rfl) | (simp [*, errW_none, errW_some] <;> rfl), by repeat (first | (with_reducible first | exact HB.out | apply below_alloc | apply pw_below_drewN | apply below_drew1) | exact HB.out)⟩
                    · rw [if_neg c45] at H
                      have c45b0 : decide (0 ≤ t150) = false := decide_eq_false c45
                      clear c45
                      obtain rfl := Option.some.inj H
                      go_wp2_with (first | ((with_reducible refine gate_callee (f := 28) rfl ?_); refine goesL_ (some 27) rfl rfl Try.func28 (by kernel_rfl) rfl #[.int .u64 a0, .int .i64 t131] rfl (by (try simp only [List.map_toArray, List.map_cons, List.map_nil]); first | done | rfl | (simp only [List.length_drop, List.length_take]; rfl)) ?_; (with_reducible refine (bits_Set_Add.calls a0 t131 t135 _ A11.out).mono ?_); rintro e w' ⟨rfl, ⟨nd, rfl⟩⟩; refine ⟨_, rfl, ?_⟩) | ((with_reducible refine gate_callee (f := 21) rfl ?_); refine goesL_ (some 30) rfl rfl Try.func21 (by kernel_rfl) rfl #[.int .u64 a0, .int .i64 t131] rfl (by (try simp only [List.map_toArray, List.map_cons, List.map_nil]); first | done | rfl | (simp only [List.length_drop, List.length_take]; rfl)) ?_; (with_reducible refine (bits_Set_Drop.calls a0 t131 t136 _ A12.out).mono ?_); rintro e w' ⟨rfl, ⟨nd, rfl⟩⟩; refine ⟨_, rfl, ?_⟩) | ((with_reducible refine gate_callee (f := 22) rfl ?_); refine goesL_ (some 32) rfl rfl Try.func22 (by kernel_rfl) rfl #[.int .u64 t135] rfl (by (try simp only [List.map_toArray, List.map_cons, List.map_nil]); first | done | rfl | (simp only [List.length_drop, List.length_take]; rfl)) ?_; (with_reducible refine (bits_Set_Count.calls kj7 t135 t137 _ A13.out).mono ?_); rintro e w54 ⟨rfl, hb⟩; refine ⟨_, rfl, ?_⟩; have n0_ := Aside0.mk (below_step (by repeat (first | (with_reducible first | exact HB.out | apply below_alloc | apply pw_below_drewN | apply below_drew1) | exact HB.out)) hb); clear HB; have HB := n0_; clear n0_; (try clear hb); (try clear hb2); (try clear hk); (try clear hi)) | (go_at_call 22; (with_reducible refine (bits_Set_Count.calls kj7 t136 t138 _ A15.out).mono ?_); rintro e w55 ⟨rfl, hb⟩; have n0_ := Aside0.mk (below_step (by repeat (first | (with_reducible first | exact HB.out | apply below_alloc | apply pw_below_drewN | apply below_drew1) | exact HB.out)) hb); clear HB; have HB := n0_; clear n0_; (try clear hb); (try clear hb2); (try clear hk); (try clear hi)) | (go_at_call 26; (with_reducible refine (bits_Set_Has.calls t135 t131 true _ A17.out).mono ?_); rintro e w' ⟨rfl, ⟨nd, rfl⟩⟩) | (go_at_call 26; (with_reducible refine (bits_Set_Has.calls t136 t131 false _ A19.out).mono ?_); rintro e w' ⟨rfl, ⟨nd, rfl⟩⟩) | (go_at_call 28; (with_reducible refine (bits_Set_Add.calls t135 t132 t141 _ A23.out).mono ?_); rintro e w' ⟨rfl, ⟨nd, rfl⟩⟩) | (go_at_call 28; (with_reducible refine (bits_Set_Add.calls a0 t132 t142 _ A24.out).mono ?_); rintro e w' ⟨rfl, ⟨nd, rfl⟩⟩) | (go_at_call 28; (with_reducible refine (bits_Set_Add.calls t142 t131 t143 _ A25.out).mono ?_); rintro e w' ⟨rfl, ⟨nd, rfl⟩⟩) | (go_at_call 21; (with_reducible refine (bits_Set_Drop.calls t135 t132 t147 _ A40.out).mono ?_); rintro e w' ⟨rfl, ⟨nd, rfl⟩⟩) | (go_at_call 21; (with_reducible refine (bits_Set_Drop.calls a0 t132 t148 _ A41.out).mono ?_); rintro e w' ⟨rfl, ⟨nd, rfl⟩⟩) | (go_at_call 28; (with_reducible refine (bits_Set_Add.calls t148 t131 t149 _ A42.out).mono ?_); rintro e w' ⟨rfl, ⟨nd, rfl⟩⟩) | (go_at_call 23; (with_reducible refine (bits_Set_First.calls kj7 t135 t150 _ A44.out).mono ?_); rintro e w' ⟨rfl, ⟨nd, rfl⟩⟩))
                      go_ret
                      exact ⟨by first | rfl | (simp [errW_none, errW_some] <;> rfl) | (simp [*, errW_none, errW_some] <;> rfl), by repeat (first | (with_reducible first | exact HB.out | apply below_alloc | apply pw_below_drewN | apply below_drew1) | exact HB.out)⟩
                  · rw [if_neg c43] at H
                    have c43b0 : (t147 == t149) = false := beq_eq_false_iff_ne.mpr c43
                    have c43b1 : (t147 != t149) = true := bne_iff_ne.mpr c43
                    obtain rfl := Option.some.inj H
                    go_wp2_with (first | ((with_reducible refine gate_callee (f := 28) rfl ?_); refine goesL_ (some 27) rfl rfl Try.func28 (by kernel_rfl) rfl #[.int .u64 a0, .int .i64 t131] rfl (by (try simp only [List.map_toArray, List.map_cons, List.map_nil]); first | done | rfl | (simp only [List.length_drop, List.length_take]; rfl)) ?_; (with_reducible refine (bits_Set_Add.calls a0 t131 t135 _ A11.out).mono ?_); rintro e w' ⟨rfl, ⟨nd, rfl⟩⟩; refine ⟨_, rfl, ?_⟩) | ((with_reducible refine gate_callee (f := 21) rfl ?_); refine goesL_ (some 30) rfl rfl Try.func21 (by kernel_rfl) rfl #[.int .u64 a0, .int .i64 t131] rfl (by (try simp only [List.map_toArray, List.map_cons, List.map_nil]); first | done | rfl | (simp only [List.length_drop, List.length_take]; rfl)) ?_; (with_reducible refine (bits_Set_Drop.calls a0 t131 t136 _ A12.out).mono ?_); rintro e w' ⟨rfl, ⟨nd, rfl⟩⟩; refine ⟨_, rfl, ?_⟩) | ((with_reducible refine gate_callee (f := 22) rfl ?_); refine goesL_ (some 32) rfl rfl Try.func22 (by kernel_rfl) rfl #[.int .u64 t135] rfl (by (try simp only [List.map_toArray, List.map_cons, List.map_nil]); first | done | rfl | (simp only [List.length_drop, List.length_take]; rfl)) ?_; (with_reducible refine (bits_Set_Count.calls kj7 t135 t137 _ A13.out).mono ?_); rintro e w56 ⟨rfl, hb⟩; refine ⟨_, rfl, ?_⟩; have n0_ := Aside0.mk (below_step (by repeat (first | (with_reducible first | exact HB.out | apply below_alloc | apply pw_below_drewN | apply below_drew1) | exact HB.out)) hb); clear HB; have HB := n0_; clear n0_; (try clear hb); (try clear hb2); (try clear hk); (try clear hi)) | (go_at_call 22; (with_reducible refine (bits_Set_Count.calls kj7 t136 t138 _ A15.out).mono ?_); rintro e w57 ⟨rfl, hb⟩; have n0_ := Aside0.mk (below_step (by repeat (first | (with_reducible first | exact HB.out | apply below_alloc | apply pw_below_drewN | apply below_drew1) | exact HB.out)) hb); clear HB; have HB := n0_; clear n0_; (try clear hb); (try clear hb2); (try clear hk); (try clear hi)) | (go_at_call 26; (with_reducible refine (bits_Set_Has.calls t135 t131 true _ A17.out).mono ?_); rintro e w' ⟨rfl, ⟨nd, rfl⟩⟩) | (go_at_call 26; (with_reducible refine (bits_Set_Has.calls t136 t131 false _ A19.out).mono ?_); rintro e w' ⟨rfl, ⟨nd, rfl⟩⟩) | (go_at_call 28; (with_reducible refine (bits_Set_Add.calls t135 t132 t141 _ A23.out).mono ?_); rintro e w' ⟨rfl, ⟨nd, rfl⟩⟩) | (go_at_call 28; (with_reducible refine (bits_Set_Add.calls a0 t132 t142 _ A24.out).mono ?_); rintro e w' ⟨rfl, ⟨nd, rfl⟩⟩) | (go_at_call 28; (with_reducible refine (bits_Set_Add.calls t142 t131 t143 _ A25.out).mono ?_); rintro e w' ⟨rfl, ⟨nd, rfl⟩⟩) | (go_at_call 21; (with_reducible refine (bits_Set_Drop.calls t135 t132 t147 _ A40.out).mono ?_); rintro e w' ⟨rfl, ⟨nd, rfl⟩⟩) | (go_at_call 21; (with_reducible refine (bits_Set_Drop.calls a0 t132 t148 _ A41.out).mono ?_); rintro e w' ⟨rfl, ⟨nd, rfl⟩⟩) | (go_at_call 28; (with_reducible refine (bits_Set_Add.calls t148 t131 t149 _ A42.out).mono ?_); rintro e w' ⟨rfl, ⟨nd, rfl⟩⟩))
                    go_ret
                    exact ⟨by first | rfl | (simp [errW_none, errW_some] <;> rfl) | (simp [*, errW_none, errW_some] <;> rfl), by repeat (first | (with_reducible first | exact HB.out | apply below_alloc | apply pw_below_drewN | apply below_drew1) | exact HB.out)⟩
              · rw [if_neg c26] at H
                have c26b0 : (t141 == t143) = false := beq_eq_false_iff_ne.mpr c26
                have c26b1 : (t141 != t143) = true := bne_iff_ne.mpr c26
                obtain rfl := Option.some.inj H
                go_wp2_with (first | ((with_reducible refine gate_callee (f := 28) rfl ?_); refine goesL_ (some 27) rfl rfl Try.func28 (by kernel_rfl) rfl #[.int .u64 a0, .int .i64 t131] rfl (by (try simp only [List.map_toArray, List.map_cons, List.map_nil]); first | done | rfl | (simp only [List.length_drop, List.length_take]; rfl)) ?_; (with_reducible refine (bits_Set_Add.calls a0 t131 t135 _ A11.out).mono ?_); rintro e w' ⟨rfl, ⟨nd, rfl⟩⟩; refine ⟨_, rfl, ?_⟩) | ((with_reducible refine gate_callee (f := 21) rfl ?_); refine goesL_ (some 30) rfl rfl Try.func21 (by kernel_rfl) rfl #[.int .u64 a0, .int .i64 t131] rfl (by (try simp only [List.map_toArray, List.map_cons, List.map_nil]); first | done | rfl | (simp only [List.length_drop, List.length_take]; rfl)) ?_; (with_reducible refine (bits_Set_Drop.calls a0 t131 t136 _ A12.out).mono ?_); rintro e w' ⟨rfl, ⟨nd, rfl⟩⟩; refine ⟨_, rfl, ?_⟩) | ((with_reducible refine gate_callee (f := 22) rfl ?_); refine goesL_ (some 32) rfl rfl Try.func22 (by kernel_rfl) rfl #[.int .u64 t135] rfl (by (try simp only [List.map_toArray, List.map_cons, List.map_nil]); first | done | rfl | (simp only [List.length_drop, List.length_take]; rfl)) ?_; (with_reducible refine (bits_Set_Count.calls kj7 t135 t137 _ A13.out).mono ?_); rintro e w58 ⟨rfl, hb⟩; refine ⟨_, rfl, ?_⟩; have n0_ := Aside0.mk (below_step (by repeat (first | (with_reducible first | exact HB.out | apply below_alloc | apply pw_below_drewN | apply below_drew1) | exact HB.out)) hb); clear HB; have HB := n0_; clear n0_; (try clear hb); (try clear hb2); (try clear hk); (try clear hi)) | (go_at_call 22; (with_reducible refine (bits_Set_Count.calls kj7 t136 t138 _ A15.out).mono ?_); rintro e w59 ⟨rfl, hb⟩; have n0_ := Aside0.mk (below_step (by repeat (first | (with_reducible first | exact HB.out | apply below_alloc | apply pw_below_drewN | apply below_drew1) | exact HB.out)) hb); clear HB; have HB := n0_; clear n0_; (try clear hb); (try clear hb2); (try clear hk); (try clear hi)) | (go_at_call 26; (with_reducible refine (bits_Set_Has.calls t135 t131 true _ A17.out).mono ?_); rintro e w' ⟨rfl, ⟨nd, rfl⟩⟩) | (go_at_call 26; (with_reducible refine (bits_Set_Has.calls t136 t131 false _ A19.out).mono ?_); rintro e w' ⟨rfl, ⟨nd, rfl⟩⟩) | (go_at_call 28; (with_reducible refine (bits_Set_Add.calls t135 t132 t141 _ A23.out).mono ?_); rintro e w' ⟨rfl, ⟨nd, rfl⟩⟩) | (go_at_call 28; (with_reducible refine (bits_Set_Add.calls a0 t132 t142 _ A24.out).mono ?_); rintro e w' ⟨rfl, ⟨nd, rfl⟩⟩) | (go_at_call 28; (with_reducible refine (bits_Set_Add.calls t142 t131 t143 _ A25.out).mono ?_); rintro e w' ⟨rfl, ⟨nd, rfl⟩⟩))
                go_ret
                exact ⟨by first | rfl | (simp [errW_none, errW_some] <;> rfl) | (simp [*, errW_none, errW_some] <;> rfl), by repeat (first | (with_reducible first | exact HB.out | apply below_alloc | apply pw_below_drewN | apply below_drew1) | exact HB.out)⟩
          · replace c18 := Bool.eq_false_iff.mpr c18
            subst c18
            have H1 : (some false) = some r := by rw [if_neg (show ¬ (false = true) by decide)] at H; exact H
            clear H
            have H := H1
            clear H1
            obtain rfl := Option.some.inj H
            go_wp2_with (first | ((with_reducible refine gate_callee (f := 28) rfl ?_); refine goesL_ (some 27) rfl rfl Try.func28 (by kernel_rfl) rfl #[.int .u64 a0, .int .i64 t131] rfl (by (try simp only [List.map_toArray, List.map_cons, List.map_nil]); first | done | rfl | (simp only [List.length_drop, List.length_take]; rfl)) ?_; (with_reducible refine (bits_Set_Add.calls a0 t131 t135 _ A11.out).mono ?_); rintro e w' ⟨rfl, ⟨nd, rfl⟩⟩; refine ⟨_, rfl, ?_⟩) | ((with_reducible refine gate_callee (f := 21) rfl ?_); refine goesL_ (some 30) rfl rfl Try.func21 (by kernel_rfl) rfl #[.int .u64 a0, .int .i64 t131] rfl (by (try simp only [List.map_toArray, List.map_cons, List.map_nil]); first | done | rfl | (simp only [List.length_drop, List.length_take]; rfl)) ?_; (with_reducible refine (bits_Set_Drop.calls a0 t131 t136 _ A12.out).mono ?_); rintro e w' ⟨rfl, ⟨nd, rfl⟩⟩; refine ⟨_, rfl, ?_⟩) | ((with_reducible refine gate_callee (f := 22) rfl ?_); refine goesL_ (some 32) rfl rfl Try.func22 (by kernel_rfl) rfl #[.int .u64 t135] rfl (by (try simp only [List.map_toArray, List.map_cons, List.map_nil]); first | done | rfl | (simp only [List.length_drop, List.length_take]; rfl)) ?_; (with_reducible refine (bits_Set_Count.calls kj7 t135 t137 _ A13.out).mono ?_); rintro e w60 ⟨rfl, hb⟩; refine ⟨_, rfl, ?_⟩; have n0_ := Aside0.mk (below_step (by repeat (first | (with_reducible first | exact HB.out | apply below_alloc | apply pw_below_drewN | apply below_drew1) | exact HB.out)) hb); clear HB; have HB := n0_; clear n0_; (try clear hb); (try clear hb2); (try clear hk); (try clear hi)) | (go_at_call 22; (with_reducible refine (bits_Set_Count.calls kj7 t136 t138 _ A15.out).mono ?_); rintro e w61 ⟨rfl, hb⟩; have n0_ := Aside0.mk (below_step (by repeat (first | (with_reducible first | exact HB.out | apply below_alloc | apply pw_below_drewN | apply below_drew1) | exact HB.out)) hb); clear HB; have HB := n0_; clear n0_; (try clear hb); (try clear hb2); (try clear hk); (try clear hi)) | (go_at_call 26; (with_reducible refine (bits_Set_Has.calls t135 t131 false _ A17.out).mono ?_); rintro e w' ⟨rfl, ⟨nd, rfl⟩⟩))
            go_ret
            exact ⟨by first | rfl | (simp [errW_none, errW_some] <;> rfl) | (simp [*, errW_none, errW_some] <;> rfl), by repeat (first | (with_reducible first | exact HB.out | apply below_alloc | apply pw_below_drewN | apply below_drew1) | exact HB.out)⟩
        · rw [if_neg c16] at H
          have c16b0 : (t138 == x10_7) = false := beq_eq_false_iff_ne.mpr c16
          have c16b1 : (t138 != x10_7) = true := bne_iff_ne.mpr c16
          obtain rfl := Option.some.inj H
          go_wp2_with (first | ((with_reducible refine gate_callee (f := 28) rfl ?_); refine goesL_ (some 27) rfl rfl Try.func28 (by kernel_rfl) rfl #[.int .u64 a0, .int .i64 t131] rfl (by (try simp only [List.map_toArray, List.map_cons, List.map_nil]); first | done | rfl | (simp only [List.length_drop, List.length_take]; rfl)) ?_; (with_reducible refine (bits_Set_Add.calls a0 t131 t135 _ A11.out).mono ?_); rintro e w' ⟨rfl, ⟨nd, rfl⟩⟩; refine ⟨_, rfl, ?_⟩) | ((with_reducible refine gate_callee (f := 21) rfl ?_); refine goesL_ (some 30) rfl rfl Try.func21 (by kernel_rfl) rfl #[.int .u64 a0, .int .i64 t131] rfl (by (try simp only [List.map_toArray, List.map_cons, List.map_nil]); first | done | rfl | (simp only [List.length_drop, List.length_take]; rfl)) ?_; (with_reducible refine (bits_Set_Drop.calls a0 t131 t136 _ A12.out).mono ?_); rintro e w' ⟨rfl, ⟨nd, rfl⟩⟩; refine ⟨_, rfl, ?_⟩) | ((with_reducible refine gate_callee (f := 22) rfl ?_); refine goesL_ (some 32) rfl rfl Try.func22 (by kernel_rfl) rfl #[.int .u64 t135] rfl (by (try simp only [List.map_toArray, List.map_cons, List.map_nil]); first | done | rfl | (simp only [List.length_drop, List.length_take]; rfl)) ?_; (with_reducible refine (bits_Set_Count.calls kj7 t135 t137 _ A13.out).mono ?_); rintro e w62 ⟨rfl, hb⟩; refine ⟨_, rfl, ?_⟩; have n0_ := Aside0.mk (below_step (by repeat (first | (with_reducible first | exact HB.out | apply below_alloc | apply pw_below_drewN | apply below_drew1) | exact HB.out)) hb); clear HB; have HB := n0_; clear n0_; (try clear hb); (try clear hb2); (try clear hk); (try clear hi)) | (go_at_call 22; (with_reducible refine (bits_Set_Count.calls kj7 t136 t138 _ A15.out).mono ?_); rintro e w63 ⟨rfl, hb⟩; have n0_ := Aside0.mk (below_step (by repeat (first | (with_reducible first | exact HB.out | apply below_alloc | apply pw_below_drewN | apply below_drew1) | exact HB.out)) hb); clear HB; have HB := n0_; clear n0_; (try clear hb); (try clear hb2); (try clear hk); (try clear hi)))
          go_ret
          exact ⟨by first | rfl | (simp [errW_none, errW_some] <;> rfl) | (simp [*, errW_none, errW_some] <;> rfl), by repeat (first | (with_reducible first | exact HB.out | apply below_alloc | apply pw_below_drewN | apply below_drew1) | exact HB.out)⟩
      · rw [if_neg c14] at H
        have c14b0 : (t137 == (wrap64 (x10_7 + 1))) = false := beq_eq_false_iff_ne.mpr c14
        have c14b1 : (t137 != (wrap64 (x10_7 + 1))) = true := bne_iff_ne.mpr c14
        obtain rfl := Option.some.inj H
        go_wp2_with (first | ((with_reducible refine gate_callee (f := 28) rfl ?_); refine goesL_ (some 27) rfl rfl Try.func28 (by kernel_rfl) rfl #[.int .u64 a0, .int .i64 t131] rfl (by (try simp only [List.map_toArray, List.map_cons, List.map_nil]); first | done | rfl | (simp only [List.length_drop, List.length_take]; rfl)) ?_; (with_reducible refine (bits_Set_Add.calls a0 t131 t135 _ A11.out).mono ?_); rintro e w' ⟨rfl, ⟨nd, rfl⟩⟩; refine ⟨_, rfl, ?_⟩) | ((with_reducible refine gate_callee (f := 21) rfl ?_); refine goesL_ (some 30) rfl rfl Try.func21 (by kernel_rfl) rfl #[.int .u64 a0, .int .i64 t131] rfl (by (try simp only [List.map_toArray, List.map_cons, List.map_nil]); first | done | rfl | (simp only [List.length_drop, List.length_take]; rfl)) ?_; (with_reducible refine (bits_Set_Drop.calls a0 t131 t136 _ A12.out).mono ?_); rintro e w' ⟨rfl, ⟨nd, rfl⟩⟩; refine ⟨_, rfl, ?_⟩) | ((with_reducible refine gate_callee (f := 22) rfl ?_); refine goesL_ (some 32) rfl rfl Try.func22 (by kernel_rfl) rfl #[.int .u64 t135] rfl (by (try simp only [List.map_toArray, List.map_cons, List.map_nil]); first | done | rfl | (simp only [List.length_drop, List.length_take]; rfl)) ?_; (with_reducible refine (bits_Set_Count.calls kj7 t135 t137 _ A13.out).mono ?_); rintro e w64 ⟨rfl, hb⟩; refine ⟨_, rfl, ?_⟩; have n0_ := Aside0.mk (below_step (by repeat (first | (with_reducible first | exact HB.out | apply below_alloc | apply pw_below_drewN | apply below_drew1) | exact HB.out)) hb); clear HB; have HB := n0_; clear n0_; (try clear hb); (try clear hb2); (try clear hk); (try clear hi)))
        go_ret
        exact ⟨by first | rfl | (simp [errW_none, errW_some] <;> rfl) | (simp [*, errW_none, errW_some] <;> rfl), by repeat (first | (with_reducible first | exact HB.out | apply below_alloc | apply pw_below_drewN | apply below_drew1) | exact HB.out)⟩

/-- THE ONE PURE STATEMENT of assentlaw4_BitsParts: yours. -/
def assentlaw4_BitsParts.Pure : Prop := ∀ (a0 : Int) (a1 : Int) (a2 : Int), (Lit.int .u64 a0).wf = true → (Lit.int .i64 a1).wf = true → (Lit.int .i64 a2).wf = true → ∃ k, assentlaw4_BitsParts.f k a0 a1 a2 = some true
theorem assentlaw4_BitsParts.walk (P : assentlaw4_BitsParts.Pure) (a0 : Int) (a1 : Int) (a2 : Int) (w : World) (w0 : (Lit.int .u64 a0).wf = true) (w1 : (Lit.int .i64 a1).wf = true) (w2 : (Lit.int .i64 a2).wf = true) :
    Calls Try.prog 13 #[.int .u64 a0, .int .i64 a1, .int .i64 a2] w fun e w' => e = .returned (.bool true) ∧ Below w.heap.size w w' := by
  obtain ⟨k, h⟩ := P a0 a1 a2 w0 w1 w2
  refine (assentlaw4_BitsParts.calls k a0 a1 a2 true w h).mono ?_
  rintro e w' ⟨rfl, hd⟩
  exact ⟨rfl, hd⟩

end Go.Proofs.Ytakabjeamkffpaa.PBitsParts
