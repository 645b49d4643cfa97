-- PRINTED BY print.sh 35421559b90ae4d0a3588c463048766b98c2df88dd9212a6774a882060cdf62d: not written by this session
import Derived.Test.YtakabjeamkffpaaPBitsAllx0
import Derived.Test.YtakabjeamkffpaaPBitsAllx1
namespace Go.Proofs.Ytakabjeamkffpaa.PBitsAll
open Go.RowKit Go.Proofs.YtakabjeamkffpaaW.PrintWords Go.Proofs.YtakabjeamkffpaaW.PrintLast Go.Proofs.YtakabjeamkffpaaW.PrintMore
attribute [local go_sem] max2_int min2_int max_two min_two max_three min_three max_four min_four   -- for this text's walks alone
set_option linter.unusedVariables false
set_option linter.unusedSimpArgs false

/-! ### assentlaw4_BitsAll: function 14 -/
mutual
def assentlaw4_BitsAll.l0 : Nat → List Int → Int → Int → Option (Bool)
  | 0, _, _, _ => none
  | k + 1, x0, x3, x4 => if x4 < 64 then ((bits_Set_Add.f x3 x4).bind fun t131 => (assentlaw4_BitsAll.l0 k x0 t131 (wrap64 (x4 + 1)))) else (if x3 = 18446744073709551615 then ((bits_Set_Count.f k x3).bind fun t132 => (if t132 = 64 then ((bits_Set_First.f k x3).bind fun t133 => (assentlaw4_BitsAll.j1 k x0 x3 (t133 != 0))) else (assentlaw4_BitsAll.j1 k x0 x3 true))) else (assentlaw4_BitsAll.j1 k x0 x3 true))
def assentlaw4_BitsAll.j1 : Nat → List Int → Int → Bool → Option (Bool)
  | 0, _, _, _ => none
  | k + 1, x0, x3, x26 => if x26 = true then (some false) else (assentlaw4_BitsAll.l1 k x0 x3 0)
def assentlaw4_BitsAll.l1 : Nat → List Int → Int → Int → Option (Bool)
  | 0, _, _, _ => none
  | k + 1, x0, x3, x5 => if x5 < 64 then ((bits_Set_List.f k x3).bind fun t139 => (if (t139.length : Int) = (wrap64 (64 - x5)) then (if x5 < (x0.length : Int) then (if 0 ≤ x5 then ((assentbook_Within.f (rd x0 x5) 0 (wrap64 ((t139.length : Int) - 1))).bind fun t143 => (assentlaw4_BitsAll.j3 k x0 x3 x5 t139 t143)) else (none)) else (assentlaw4_BitsAll.j3 k x0 x3 x5 t139 0)) else (some false))) else (if x3 = 0 then ((bits_Set_First.f k x3).bind fun t134 => (if t134 = (-1) then ((bits_Set_List.f k x3).bind fun t135 => (if (t135.length : Int) = 0 then ((assentlaw4_BitsRuns.f k).bind fun t138 => (some t138)) else (some false))) else (some false))) else (some false))
def assentlaw4_BitsAll.j3 : Nat → List Int → Int → Int → List Int → Int → Option (Bool)
  | 0, _, _, _, _, _ => none
  | k + 1, x0, x3, x5, x6, x7 => if 0 ≤ x7 then (if x7 < (x6.length : Int) then ((bits_Set_Drop.f x3 (rd x6 x7)).bind fun t145 => ((bits_Set_Has.f t145 (rd x6 x7)).bind fun t147 => (if t147 = true then (some false) else ((bits_Set_Count.f k t145).bind fun t148 => (if t148 = (wrap64 (63 - x5)) then (assentlaw4_BitsAll.l1 k x0 t145 (wrap64 (x5 + 1))) else (some false)))))) else (none)) else (none)
end
def assentlaw4_BitsAll.f (k : Nat) (l0 : List Int) : Option (Bool) := assentlaw4_BitsAll.l0 k l0 0 0
theorem assentlaw4_BitsAll.mono_l : ∀ k, (∀ y0 y1 y2, LeO (assentlaw4_BitsAll.l0 k y0 y1 y2) (assentlaw4_BitsAll.l0 (k + 1) y0 y1 y2)) ∧ (∀ y0 y1 y2, LeO (assentlaw4_BitsAll.j1 k y0 y1 y2) (assentlaw4_BitsAll.j1 (k + 1) y0 y1 y2)) ∧ (∀ y0 y1 y2, LeO (assentlaw4_BitsAll.l1 k y0 y1 y2) (assentlaw4_BitsAll.l1 (k + 1) y0 y1 y2)) ∧ (∀ y0 y1 y2 y3 y4, LeO (assentlaw4_BitsAll.j3 k y0 y1 y2 y3 y4) (assentlaw4_BitsAll.j3 (k + 1) y0 y1 y2 y3 y4))
  | 0 => ⟨fun _ _ _ r h => by simp [assentlaw4_BitsAll.l0] at h, fun _ _ _ r h => by simp [assentlaw4_BitsAll.j1] at h, fun _ _ _ r h => by simp [assentlaw4_BitsAll.l1] at h, fun _ _ _ _ _ r h => by simp [assentlaw4_BitsAll.j3] at h⟩
  | k + 1 => by
    obtain ⟨ih0, ih1, ih2, ih3⟩ := assentlaw4_BitsAll.mono_l k
    refine ⟨?_, ?_, ?_, ?_⟩
    · intro y0 y1 y2
      unfold assentlaw4_BitsAll.l0
      repeat' first
      | (with_reducible exact ih0 _ _ _)
      | (with_reducible exact ih1 _ _ _)
      | (with_reducible exact ih2 _ _ _)
      | (with_reducible exact ih3 _ _ _ _ _)
      | (with_reducible exact assentlaw4_BitsRuns.mono _)
      | (with_reducible exact bits_Set_Count.mono _ _)
      | (with_reducible exact bits_Set_First.mono _ _)
      | (with_reducible exact bits_Set_List.mono _ _)
      | (with_reducible exact LeO.refl _)
      | (with_reducible exact LeO.none _)
      | (with_reducible refine LeO.ite ?_ ?_)
      | (with_reducible refine LeO.bind ?_ (fun _ => ?_))
      | exact ih0 _ _ _
      | exact ih1 _ _ _
      | exact ih2 _ _ _
      | exact ih3 _ _ _ _ _
      | exact assentlaw4_BitsRuns.mono _
      | exact bits_Set_Count.mono _ _
      | exact bits_Set_First.mono _ _
      | exact bits_Set_List.mono _ _
      | exact LeO.none _
      | refine LeO.ite ?_ ?_
      | refine LeO.bind ?_ (fun _ => ?_)
    · intro y0 y1 y2
      unfold assentlaw4_BitsAll.j1
      repeat' first
      | (with_reducible exact ih0 _ _ _)
      | (with_reducible exact ih1 _ _ _)
      | (with_reducible exact ih2 _ _ _)
      | (with_reducible exact ih3 _ _ _ _ _)
      | (with_reducible exact assentlaw4_BitsRuns.mono _)
      | (with_reducible exact bits_Set_Count.mono _ _)
      | (with_reducible exact bits_Set_First.mono _ _)
      | (with_reducible exact bits_Set_List.mono _ _)
      | (with_reducible exact LeO.refl _)
      | (with_reducible exact LeO.none _)
      | (with_reducible refine LeO.ite ?_ ?_)
      | (with_reducible refine LeO.bind ?_ (fun _ => ?_))
      | exact ih0 _ _ _
      | exact ih1 _ _ _
      | exact ih2 _ _ _
      | exact ih3 _ _ _ _ _
      | exact assentlaw4_BitsRuns.mono _
      | exact bits_Set_Count.mono _ _
      | exact bits_Set_First.mono _ _
      | exact bits_Set_List.mono _ _
      | exact LeO.none _
      | refine LeO.ite ?_ ?_
      | refine LeO.bind ?_ (fun _ => ?_)
    · intro y0 y1 y2
      unfold assentlaw4_BitsAll.l1
      repeat' first
      | (with_reducible exact ih0 _ _ _)
      | (with_reducible exact ih1 _ _ _)
      | (with_reducible exact ih2 _ _ _)
      | (with_reducible exact ih3 _ _ _ _ _)
      | (with_reducible exact assentlaw4_BitsRuns.mono _)
      | (with_reducible exact bits_Set_Count.mono _ _)
      | (with_reducible exact bits_Set_First.mono _ _)
      | (with_reducible exact bits_Set_List.mono _ _)
      | (with_reducible exact LeO.refl _)
      | (with_reducible exact LeO.none _)
      | (with_reducible refine LeO.ite ?_ ?_)
      | (with_reducible refine LeO.bind ?_ (fun _ => ?_))
      | exact ih0 _ _ _
      | exact ih1 _ _ _
      | exact ih2 _ _ _
      | exact ih3 _ _ _ _ _
      | exact assentlaw4_BitsRuns.mono _
      | exact bits_Set_Count.mono _ _
      | exact bits_Set_First.mono _ _
      | exact bits_Set_List.mono _ _
      | exact LeO.none _
      | refine LeO.ite ?_ ?_
      | refine LeO.bind ?_ (fun _ => ?_)
    · intro y0 y1 y2 y3 y4
      unfold assentlaw4_BitsAll.j3
      repeat' first
      | (with_reducible exact ih0 _ _ _)
      | (with_reducible exact ih1 _ _ _)
      | (with_reducible exact ih2 _ _ _)
      | (with_reducible exact ih3 _ _ _ _ _)
      | (with_reducible exact assentlaw4_BitsRuns.mono _)
      | (with_reducible exact bits_Set_Count.mono _ _)
      | (with_reducible exact bits_Set_First.mono _ _)
      | (with_reducible exact bits_Set_List.mono _ _)
      | (with_reducible exact LeO.refl _)
      | (with_reducible exact LeO.none _)
      | (with_reducible refine LeO.ite ?_ ?_)
      | (with_reducible refine LeO.bind ?_ (fun _ => ?_))
      | exact ih0 _ _ _
      | exact ih1 _ _ _
      | exact ih2 _ _ _
      | exact ih3 _ _ _ _ _
      | exact assentlaw4_BitsRuns.mono _
      | exact bits_Set_Count.mono _ _
      | exact bits_Set_First.mono _ _
      | exact bits_Set_List.mono _ _
      | exact LeO.none _
      | refine LeO.ite ?_ ?_
      | refine LeO.bind ?_ (fun _ => ?_)
theorem assentlaw4_BitsAll.mono : ∀ a0 k, LeO (assentlaw4_BitsAll.f k a0) (assentlaw4_BitsAll.f (k + 1) a0) := by
  intro a0 k
  obtain ⟨ih0, ih1, ih2, ih3⟩ := assentlaw4_BitsAll.mono_l k
  unfold assentlaw4_BitsAll.f
  repeat' first
      | (with_reducible exact ih0 _ _ _)
      | (with_reducible exact ih1 _ _ _)
      | (with_reducible exact ih2 _ _ _)
      | (with_reducible exact ih3 _ _ _ _ _)
      | (with_reducible exact assentlaw4_BitsRuns.mono _)
      | (with_reducible exact bits_Set_Count.mono _ _)
      | (with_reducible exact bits_Set_First.mono _ _)
      | (with_reducible exact bits_Set_List.mono _ _)
      | (with_reducible exact LeO.refl _)
      | (with_reducible exact LeO.none _)
      | (with_reducible refine LeO.ite ?_ ?_)
      | (with_reducible refine LeO.bind ?_ (fun _ => ?_))
      | exact ih0 _ _ _
      | exact ih1 _ _ _
      | exact ih2 _ _ _
      | exact ih3 _ _ _ _ _
      | exact assentlaw4_BitsRuns.mono _
      | exact bits_Set_Count.mono _ _
      | exact bits_Set_First.mono _ _
      | exact bits_Set_List.mono _ _
      | exact LeO.none _
      | refine LeO.ite ?_ ?_
      | refine LeO.bind ?_ (fun _ => ?_)
set_option maxHeartbeats 8000000 in
set_option maxRecDepth 100000 in
theorem assentlaw4_BitsAll.calls (k : Nat) (A0 : Option Addr) (c0 : Nat) (l0 : List Int) (r : Bool) (w : World) (hr0 : Kd.C (Kd.int .i64) w A0 l0.length l0) (hc0 : l0.length ≤ c0) (h : assentlaw4_BitsAll.f k l0 = some r) :
    Calls Try.prog 14 #[.slice A0 l0.length c0] w fun e w' => e = .returned (.bool r) ∧ Below w.heap.size w w' := by
  have HR0 := Aside0.mk hr0
  have HC0 := Aside0.mk hc0
  clear hr0 hc0
  have HB := Aside0.mk (Below.refl w.heap.size w)
  have H : (assentlaw4_BitsAll.l0 k l0 0 0) = some r := h
  clear h
  have H' := Aside0.mk H
  clear H
  go_enter Try.func14, Try.ntmps14
  go_wp2
  go_loopg [3, 4] k (fun kq v3 v4 w' => ∃ (x3_1 : Int) (x4_1 : Int), v3 = .int .u64 x3_1 ∧ v4 = .int .i64 x4_1 ∧ Aside0 (assentlaw4_BitsAll.l0 kq l0 x3_1 x4_1 = some r) ∧ Aside0 (kq ≤ k) ∧ Aside0 (Below w.heap.size w w'))
  case atStart => exact ⟨(0), (0), (by first | rfl | (simp; done) | (simp [*]; done)), (by first | rfl | (simp; done) | (simp [*]; done)), H', ⟨Nat.le_refl _⟩, ⟨by repeat (first | (with_reducible first | exact HB.out | apply below_alloc | apply pw_below_drewN | apply below_drew1) | exact HB.out)⟩⟩
  case round =>
    clear H'
    try clear c1
    obtain ⟨x3_1, x4_1, rfl, rfl, HA, HK1, HB⟩ := hrel
    cases gk with
    | zero => exact absurd HA.out (by simp [assentlaw4_BitsAll.l0])
    | succ k1 =>
      have H := HA.out
      clear HA
      simp only [assentlaw4_BitsAll.l0] at H
      by_cases c2 : x4_1 < 64
      · rw [if_pos c2] at H
        have c2b0 : decide (x4_1 < 64) = true := decide_eq_true c2
        clear c2
        replace H := Option.bind_eq_some_iff.mp H
        obtain ⟨t131, A30, H⟩ := H
        replace H : (assentlaw4_BitsAll.l0 k1 l0 t131 (wrap64 (x4_1 + 1))) = some r := H
        have A3 := Aside0.mk A30
        clear A30
        have H' := Aside0.mk H
        clear H
        go_wp2_with (first | ((with_reducible refine gate_callee (f := 28) rfl ?_); refine goesL_ (some 14) rfl rfl Try.func28 (by kernel_rfl) rfl #[.int .u64 x3_1, .int .i64 x4_1] rfl (by (try simp only [List.map_toArray, List.map_cons, List.map_nil]); first | done | rfl | (simp only [List.length_drop, List.length_take]; rfl)) ?_; (with_reducible refine (bits_Set_Add.calls x3_1 x4_1 t131 _ A3.out).mono ?_); rintro e w' ⟨rfl, ⟨nd, rfl⟩⟩; refine ⟨_, rfl, ?_⟩))
        go_roundg k1
        case measure => have := HK1.out; omega
        case rel => exact ⟨(t131), (wrap64 (x4_1 + 1)), (by first | rfl | (simp; done) | (simp [*]; done)), (by first | rfl | (simp; done) | (simp [*]; done)), H', ⟨by have := HK1.out; omega⟩, ⟨by repeat (first | (with_reducible first | exact HB.out | apply below_alloc | apply pw_below_drewN | apply below_drew1) | exact HB.out)⟩⟩
      · rw [if_neg c2] at H
        have c2b0 : decide (x4_1 < 64) = false := decide_eq_false c2
        clear c2
        have HC4 := Aside0.mk H
        clear H
        go_upto_region 6 with (fail)
        go_cut [26] (fun v26 wc => ∃ (kq : Nat) (x26_3 : Bool), v26 = .bool x26_3 ∧ Aside0 (assentlaw4_BitsAll.j1 kq l0 x3_1 x26_3 = some r) ∧ Aside0 (kq ≤ k1) ∧ Aside0 (Below w.heap.size w wc))
        case first =>
          have H := HC4.out
          clear HC4
          by_cases c5 : x3_1 = 18446744073709551615
          · rw [if_pos c5] at H
            have c5b0 : (x3_1 == 18446744073709551615) = true := beq_iff_eq.mpr c5
            have c5b1 : (x3_1 != 18446744073709551615) = false := bne_eq_false_iff_eq.mpr c5
            clear c5
            (first | rw [c5b0] | (simp only [i64_w, i32_w]; rw [c5b0]) | skip)
            replace H := Option.bind_eq_some_iff.mp H
            obtain ⟨t132, A60, H⟩ := H
            replace H : (if t132 = 64 then ((bits_Set_First.f k1 x3_1).bind fun t133 => (assentlaw4_BitsAll.j1 k1 l0 x3_1 (t133 != 0))) else (assentlaw4_BitsAll.j1 k1 l0 x3_1 true)) = some r := H
            have A6 := Aside0.mk A60
            clear A60
            by_cases c7 : t132 = 64
            · rw [if_pos c7] at H
              have c7b0 : (t132 == 64) = true := beq_iff_eq.mpr c7
              have c7b1 : (t132 != 64) = false := bne_eq_false_iff_eq.mpr c7
              clear c7
              replace H := Option.bind_eq_some_iff.mp H
              obtain ⟨t133, A80, H⟩ := H
              replace H : (assentlaw4_BitsAll.j1 k1 l0 x3_1 (t133 != 0)) = some r := H
              have A8 := Aside0.mk A80
              clear A80
              have H' := Aside0.mk H
              clear H
              go_wp2_with (first | (go_at_call 22; (with_reducible refine (bits_Set_Count.calls k1 x3_1 t132 _ A6.out).mono ?_); rintro e w9 ⟨rfl, hb⟩; have n0_ := Aside0.mk (below_step (by repeat (first | (with_reducible first | exact HB.out | apply below_alloc | apply pw_below_drewN | apply below_drew1) | exact HB.out)) hb); clear HB; have HB := n0_; clear n0_; (try clear hb); (try clear hb2); (try clear hk); (try clear hi)) | (go_at_call 23; (with_reducible refine (bits_Set_First.calls k1 x3_1 t133 _ A8.out).mono ?_); rintro e w' ⟨rfl, ⟨nd, rfl⟩⟩))
              go_meet
              case rel => exact ⟨_, ((t133 != 0)), (by first | rfl | (simp; done) | (simp [*]; done)), H', ⟨by have := HK1.out; first | omega | exact Nat.le_refl _⟩, ⟨by repeat (first | (with_reducible first | exact HB.out | apply below_alloc | apply pw_below_drewN | apply below_drew1) | exact HB.out)⟩⟩
            · rw [if_neg c7] at H
              have c7b0 : (t132 == 64) = false := beq_eq_false_iff_ne.mpr c7
              have c7b1 : (t132 != 64) = true := bne_iff_ne.mpr c7
              have H' := Aside0.mk H
              clear H
              go_wp2_with (first | (go_at_call 22; (with_reducible refine (bits_Set_Count.calls k1 x3_1 t132 _ A6.out).mono ?_); rintro e w10 ⟨rfl, hb⟩; have n0_ := Aside0.mk (below_step (by repeat (first | (with_reducible first | exact HB.out | apply below_alloc | apply pw_below_drewN | apply below_drew1) | exact HB.out)) hb); clear HB; have HB := n0_; clear n0_; (try clear hb); (try clear hb2); (try clear hk); (try clear hi)))
              go_meet
              case rel => exact ⟨_, (true), (by first | rfl | (simp; done) | (simp [*]; done)), H', ⟨by have := HK1.out; first | omega | exact Nat.le_refl _⟩, ⟨by repeat (first | (with_reducible first | exact HB.out | apply below_alloc | apply pw_below_drewN | apply below_drew1) | exact HB.out)⟩⟩
          · rw [if_neg c5] at H
            have c5b0 : (x3_1 == 18446744073709551615) = false := beq_eq_false_iff_ne.mpr c5
            have c5b1 : (x3_1 != 18446744073709551615) = true := bne_iff_ne.mpr c5
            (first | rw [c5b0] | (simp only [i64_w, i32_w]; rw [c5b0]) | skip)
            have H' := Aside0.mk H
            clear H
            go_wp2
            go_meet
            case rel => exact ⟨_, (true), (by first | rfl | (simp; done) | (simp [*]; done)), H', ⟨by have := HK1.out; first | omega | exact Nat.le_refl _⟩, ⟨by repeat (first | (with_reducible first | exact HB.out | apply below_alloc | apply pw_below_drewN | apply below_drew1) | exact HB.out)⟩⟩
        case rest =>
          clear HC4
          try clear c1
          try clear c2
          try clear c2b0
          try clear p2
          try clear c5
          try clear c5b0
          try clear c5b1
          try clear p6
          try clear c7
          try clear c7b0
          try clear c7b1
          obtain ⟨kq, x26_3, rfl, HA, HJ3, HB⟩ := hcut
          cases kq with
          | zero => exact absurd HA.out (by simp [assentlaw4_BitsAll.j1])
          | succ kj3 =>
            have H := HA.out
            clear HA
            simp only [assentlaw4_BitsAll.j1] at H
            by_cases c11 : x26_3 = true
            · subst c11
              have H1 : (some false) = some r := by rw [if_pos rfl] at H; exact H
              clear H
              have H := H1
              clear H1
              obtain rfl := Option.some.inj H
              go_wp2
              go_ret
              exact ⟨by first | rfl | (simp [errW_none, errW_some] <;> rfl) | (simp [*, errW_none, errW_some] <;> rfl), by repeat (first | (with_reducible first | exact HB.out | apply below_alloc | apply pw_below_drewN | apply below_drew1) | exact HB.out)⟩
            · replace c11 := Bool.eq_false_iff.mpr c11
              subst c11
              have H1 : (assentlaw4_BitsAll.l1 kj3 l0 x3_1 0) = some r := by rw [if_neg (show ¬ (false = true) by decide)] at H; exact H
              clear H
              have H := H1
              clear H1
              have H' := Aside0.mk H
              clear H
              go_wp2
              go_loopg [3, 5] kj3 (fun kq v3 v5 w' => ∃ (x3_3 : Int) (x5_3 : Int), v3 = .int .u64 x3_3 ∧ v5 = .int .i64 x5_3 ∧ Aside0 (assentlaw4_BitsAll.l1 kq l0 x3_3 x5_3 = some r) ∧ Aside0 (kq ≤ kj3) ∧ Aside0 (Below w.heap.size w w'))
              case atStart => exact ⟨(x3_1), (0), (by first | rfl | (simp; done) | (simp [*]; done)), (by first | rfl | (simp; done) | (simp [*]; done)), H', ⟨Nat.le_refl _⟩, ⟨by repeat (first | (with_reducible first | exact HB.out | apply below_alloc | apply pw_below_drewN | apply below_drew1) | exact HB.out)⟩⟩
              case round =>
                clear H'
                try clear c1
                try clear c2
                try clear c2b0
                try clear p2
                try clear c5
                try clear c5b0
                try clear c5b1
                try clear p6
                try clear c7
                try clear c7b0
                try clear c7b1
                try clear c11
                try clear p2
                try clear p6
                obtain ⟨x3_3, x5_3, rfl, rfl, HA, HK3, HB⟩ := hrel
                cases gk with
                | zero => exact absurd HA.out (by simp [assentlaw4_BitsAll.l1])
                | succ k3 =>
                  have H := HA.out
                  clear HA
                  simp only [assentlaw4_BitsAll.l1] at H
                  by_cases c12 : x5_3 < 64
                  · rw [if_pos c12] at H
                    have c12b0 : decide (x5_3 < 64) = true := decide_eq_true c12
                    clear c12
                    replace H := Option.bind_eq_some_iff.mp H
                    obtain ⟨t139, A130, H⟩ := H
                    replace H : (if (t139.length : Int) = (wrap64 (64 - x5_3)) then (if x5_3 < (l0.length : Int) then (if 0 ≤ x5_3 then ((assentbook_Within.f (rd l0 x5_3) 0 (wrap64 ((t139.length : Int) - 1))).bind fun t143 => (assentlaw4_BitsAll.j3 k3 l0 x3_3 x5_3 t139 t143)) else (none)) else (assentlaw4_BitsAll.j3 k3 l0 x3_3 x5_3 t139 0)) else (some false)) = some r := H
                    have A13 := Aside0.mk A130
                    clear A130
                    by_cases c14 : (t139.length : Int) = (wrap64 (64 - x5_3))
                    · rw [if_pos c14] at H
                      have c14b0 : ((t139.length : Int) == (wrap64 (64 - x5_3))) = true := beq_iff_eq.mpr c14
                      have c14b1 : ((t139.length : Int) != (wrap64 (64 - x5_3))) = false := bne_eq_false_iff_eq.mpr c14
                      clear c14
                      have HC15 := Aside0.mk H
                      clear H
                      go_upto_if 41 with (first | ((with_reducible refine gate_callee (f := 25) rfl ?_); refine goesL_ (some 32) rfl rfl Try.func25 (by kernel_rfl) rfl #[.int .u64 x3_3] rfl (by (try simp only [List.map_toArray, List.map_cons, List.map_nil]); first | done | rfl | (simp only [List.length_drop, List.length_take]; rfl)) ?_; (with_reducible refine (bits_Set_List.calls k3 x3_3 t139 _ A13.out).mono ?_); rintro e w16 ⟨v140, rfl, ho0, hb⟩; refine ⟨_, rfl, ?_⟩; have n0_ := Aside0.mk (Kd.R_lower ho0 (below_size (by repeat (first | (with_reducible first | exact HB.out | apply below_alloc | apply pw_below_drewN | apply below_drew1) | exact HB.out)))); have n1_ := Aside0.mk (below_step (by repeat (first | (with_reducible first | exact HB.out | apply below_alloc | apply pw_below_drewN | apply below_drew1) | exact HB.out)) hb); clear HB; have HO141 := n0_; have HB := n1_; clear n0_ n1_; (try clear hb); (try clear hb2); (try clear hk); (try clear hi); (try clear ho0); obtain ⟨Ao17, co17, eo17⟩ := Kd.R_slice HO141.out; subst eo17))
                      (try simp only [Act.put, List.setIfInBounds_toArray, List.set_cons_zero, List.set_cons_succ])
                      go_cut [7] (fun v7 wc => ∃ (kq : Nat) (x7_14 : Int), v7 = .int .i64 x7_14 ∧ Aside0 (assentlaw4_BitsAll.j3 kq l0 x3_3 x5_3 t139 x7_14 = some r) ∧ Aside0 (kq ≤ k3) ∧ Aside0 (Kd.R (Kd.int .i64) 3 wc w.heap.size (fun _ => True) (.slice Ao17 t139.length co17) t139) ∧ Aside0 (Below w.heap.size w wc))
                      case first =>
                        have H := HC15.out
                        clear HC15
                        by_cases c18 : x5_3 < (l0.length : Int)
                        · rw [if_pos c18] at H
                          have c18b0 : decide (x5_3 < (l0.length : Int)) = true := decide_eq_true c18
                          clear c18
                          (first | rw [c18b0] | (simp only [i64_w, i32_w]; rw [c18b0]) | skip)
                          by_cases c19 : 0 ≤ x5_3
                          · rw [if_pos c19] at H
                            have c19b0 : decide (0 ≤ x5_3) = true := decide_eq_true c19
                            clear c19
                            replace H := Option.bind_eq_some_iff.mp H
                            obtain ⟨t143, A200, H⟩ := H
                            replace H : (assentlaw4_BitsAll.j3 k3 l0 x3_3 x5_3 t139 t143) = some r := H
                            have A20 := Aside0.mk A200
                            clear A200
                            have H' := Aside0.mk H
                            clear H
                            have p142 : 0 ≤ (x5_3 : Int) := of_decide_eq_true (by first | (with_reducible assumption) | assumption)
                            have q142 : x5_3 < (l0.length : Int) := of_decide_eq_true (by first | (with_reducible assumption) | assumption)
                            obtain ⟨ad142, e142, hx142_0⟩ := Kd.at_int HR0.out x5_3 p142 q142
                            cases e142
                            replace hx142_0 := (HB.out.cell (World.block_lt_of_cell? w _ hx142_0)).trans hx142_0
                            replace p142 := eq_true p142
                            replace q142 := eq_true q142
                            go_wp2_with (first | ((with_reducible refine gate_callee (f := 19) rfl ?_); refine goesL_ (some 49) rfl rfl Try.func19 (by kernel_rfl) rfl #[.int .i64 (rd l0 x5_3), .int .i64 0, .int .i64 (wrap64 ((t139.length : Int) - 1))] rfl (by (try simp only [List.map_toArray, List.map_cons, List.map_nil]); first | done | rfl | (simp only [List.length_drop, List.length_take]; rfl)) ?_; (with_reducible refine (assentbook_Within.calls (rd l0 x5_3) 0 (wrap64 ((t139.length : Int) - 1)) t143 _ A20.out).mono ?_); rintro e w' ⟨rfl, ⟨nd, rfl⟩⟩; refine ⟨_, rfl, ?_⟩))
                            go_meet
                            case rel => exact ⟨_, (t143), (by first | rfl | (simp; done) | (simp [*]; done)), H', ⟨by have := HK1.out; have := HJ3.out; have := HK3.out; first | omega | exact Nat.le_refl _⟩, ⟨by (with_reducible repeat (first | apply Kd.R_alloc | apply Kd.R_drewN | apply Kd.R_drew)); exact HO141.out⟩, ⟨by repeat (first | (with_reducible first | exact HB.out | apply below_alloc | apply pw_below_drewN | apply below_drew1) | exact HB.out)⟩⟩
                          · rw [if_neg c19] at H
                            exact absurd H (by simp)
                        · rw [if_neg c18] at H
                          have c18b0 : decide (x5_3 < (l0.length : Int)) = false := decide_eq_false c18
                          clear c18
                          (first | rw [c18b0] | (simp only [i64_w, i32_w]; rw [c18b0]) | skip)
                          have H' := Aside0.mk H
                          clear H
                          go_wp2
                          go_meet
                          case rel => exact ⟨_, (0), (by first | rfl | (simp; done) | (simp [*]; done)), H', ⟨by have := HK1.out; have := HJ3.out; have := HK3.out; first | omega | exact Nat.le_refl _⟩, ⟨by (with_reducible repeat (first | apply Kd.R_alloc | apply Kd.R_drewN | apply Kd.R_drew)); exact HO141.out⟩, ⟨by repeat (first | (with_reducible first | exact HB.out | apply below_alloc | apply pw_below_drewN | apply below_drew1) | exact HB.out)⟩⟩
                      case rest =>
                        clear HC15
                        try clear c1
                        try clear p1
                        try clear q1
                        try clear hx1
                        try clear c2
                        try clear c2b0
                        try clear p2
                        try clear c5
                        try clear c5b0
                        try clear c5b1
                        try clear p6
                        try clear c7
                        try clear c7b0
                        try clear c7b1
                        try clear c11
                        try clear c12
                        try clear c12b0
                        try clear c14
                        try clear c14b0
                        try clear c14b1
                        try clear p14
                        try clear q14
                        try clear hx14
                        try clear c18
                        try clear c18b0
                        try clear c19
                        try clear c19b0
                        try clear hx142_0
                        try clear p142
                        try clear p2
                        try clear p6
                        try clear q142
                        obtain ⟨kq, x7_14, rfl, HA, HJ14, HO_6, HB⟩ := hcut
                        cases kq with
                        | zero => exact absurd HA.out (by simp [assentlaw4_BitsAll.j3])
                        | succ kj14 =>
                          have H := HA.out
                          clear HA
                          simp only [assentlaw4_BitsAll.j3] at H
                          by_cases c21 : 0 ≤ x7_14
                          · rw [if_pos c21] at H
                            have c21b0 : decide (0 ≤ x7_14) = true := decide_eq_true c21
                            clear c21
                            by_cases c22 : x7_14 < (t139.length : Int)
                            · rw [if_pos c22] at H
                              have c22b0 : decide (x7_14 < (t139.length : Int)) = true := decide_eq_true c22
                              clear c22
                              replace H := Option.bind_eq_some_iff.mp H
                              obtain ⟨t145, A230, H⟩ := H
                              replace H : ((bits_Set_Has.f t145 (rd t139 x7_14)).bind fun t147 => (if t147 = true then (some false) else ((bits_Set_Count.f kj14 t145).bind fun t148 => (if t148 = (wrap64 (63 - x5_3)) then (assentlaw4_BitsAll.l1 kj14 l0 t145 (wrap64 (x5_3 + 1))) else (some false))))) = some r := H
                              have A23 := Aside0.mk A230
                              clear A230
                              replace H := Option.bind_eq_some_iff.mp H
                              obtain ⟨t147, A240, H⟩ := H
                              replace H : (if t147 = true then (some false) else ((bits_Set_Count.f kj14 t145).bind fun t148 => (if t148 = (wrap64 (63 - x5_3)) then (assentlaw4_BitsAll.l1 kj14 l0 t145 (wrap64 (x5_3 + 1))) else (some false)))) = some r := H
                              have A24 := Aside0.mk A240
                              clear A240
                              by_cases c25 : t147 = true
                              · subst c25
                                have H1 : (some false) = some r := by rw [if_pos rfl] at H; exact H
                                clear H
                                have H := H1
                                clear H1
                                obtain rfl := Option.some.inj H
                                have p144 : 0 ≤ (x7_14 : Int) := of_decide_eq_true (by first | (with_reducible assumption) | assumption)
                                have q144 : x7_14 < (t139.length : Int) := of_decide_eq_true (by first | (with_reducible assumption) | assumption)
                                obtain ⟨ad144, e144, hx144_0⟩ := Kd.at_int (Kd.R_reads' HO_6.out).2.2 x7_14 p144 q144
                                cases e144
                                replace p144 := eq_true p144
                                replace q144 := eq_true q144
                                go_wp2_with (first | ((with_reducible refine gate_callee (f := 21) rfl ?_); refine goesL_ (some 55) rfl rfl Try.func21 (by kernel_rfl) rfl #[.int .u64 x3_3, .int .i64 (rd t139 x7_14)] rfl (by (try simp only [List.map_toArray, List.map_cons, List.map_nil]); first | done | rfl | (simp only [List.length_drop, List.length_take]; rfl)) ?_; (with_reducible refine (bits_Set_Drop.calls x3_3 (rd t139 x7_14) t145 _ A23.out).mono ?_); rintro e w' ⟨rfl, ⟨nd, rfl⟩⟩; refine ⟨_, rfl, ?_⟩; have p146 : 0 ≤ (x7_14 : Int) := of_decide_eq_true (by first | (with_reducible assumption) | assumption); have q146 : x7_14 < (t139.length : Int) := of_decide_eq_true (by first | (with_reducible assumption) | assumption); obtain ⟨ad146, e146, hx146_0⟩ := Kd.at_int (Kd.R_reads' HO_6.out).2.2 x7_14 p146 q146; obtain rfl : ad144 = ad146 := (by injection e146); replace p146 := eq_true p146; replace q146 := eq_true q146) | ((with_reducible refine gate_callee (f := 26) rfl ?_); refine goesL_ (some 61) rfl rfl Try.func26 (by kernel_rfl) rfl #[.int .u64 t145, .int .i64 (rd t139 x7_14)] rfl (by (try simp only [List.map_toArray, List.map_cons, List.map_nil]); first | done | rfl | (simp only [List.length_drop, List.length_take]; rfl)) ?_; (with_reducible refine (bits_Set_Has.calls t145 (rd t139 x7_14) true _ A24.out).mono ?_); rintro e w' ⟨rfl, ⟨nd, rfl⟩⟩; refine ⟨_, rfl, ?_⟩))
                                go_ret
                                exact ⟨by first | rfl | (simp [errW_none, errW_some] <;> rfl) | (simp [*, errW_none, errW_some] <;> rfl), by repeat (first | (with_reducible first | exact HB.out | apply below_alloc | apply pw_below_drewN | apply below_drew1) | exact HB.out)⟩
                              · replace c25 := Bool.eq_false_iff.mpr c25
                                subst c25
                                have H1 : ((bits_Set_Count.f kj14 t145).bind fun t148 => (if t148 = (wrap64 (63 - x5_3)) then (assentlaw4_BitsAll.l1 kj14 l0 t145 (wrap64 (x5_3 + 1))) else (some false))) = some r := by rw [if_neg (show ¬ (false = true) by decide)] at H; exact H
                                clear H
                                have H := H1
                                clear H1
                                replace H := Option.bind_eq_some_iff.mp H
                                obtain ⟨t148, A260, H⟩ := H
                                replace H : (if t148 = (wrap64 (63 - x5_3)) then (assentlaw4_BitsAll.l1 kj14 l0 t145 (wrap64 (x5_3 + 1))) else (some false)) = some r := H
                                have A26 := Aside0.mk A260
                                clear A260
                                by_cases c27 : t148 = (wrap64 (63 - x5_3))
                                · rw [if_pos c27] at H
                                  have c27b0 : (t148 == (wrap64 (63 - x5_3))) = true := beq_iff_eq.mpr c27
                                  have c27b1 : (t148 != (wrap64 (63 - x5_3))) = false := bne_eq_false_iff_eq.mpr c27
                                  clear c27
                                  have H' := Aside0.mk H
                                  clear H
                                  have p144 : 0 ≤ (x7_14 : Int) := of_decide_eq_true (by first | (with_reducible assumption) | assumption)
                                  have q144 : x7_14 < (t139.length : Int) := of_decide_eq_true (by first | (with_reducible assumption) | assumption)
                                  obtain ⟨ad144, e144, hx144_0⟩ := Kd.at_int (Kd.R_reads' HO_6.out).2.2 x7_14 p144 q144
                                  cases e144
                                  replace p144 := eq_true p144
                                  replace q144 := eq_true q144
                                  go_wp2_with (first | ((with_reducible refine gate_callee (f := 21) rfl ?_); refine goesL_ (some 55) rfl rfl Try.func21 (by kernel_rfl) rfl #[.int .u64 x3_3, .int .i64 (rd t139 x7_14)] rfl (by (try simp only [List.map_toArray, List.map_cons, List.map_nil]); first | done | rfl | (simp only [List.length_drop, List.length_take]; rfl)) ?_; (with_reducible refine (bits_Set_Drop.calls x3_3 (rd t139 x7_14) t145 _ A23.out).mono ?_); rintro e w' ⟨rfl, ⟨nd, rfl⟩⟩; refine ⟨_, rfl, ?_⟩; have p146 : 0 ≤ (x7_14 : Int) := of_decide_eq_true (by first | (with_reducible assumption) | assumption); have q146 : x7_14 < (t139.length : Int) := of_decide_eq_true (by first | (with_reducible assumption) | assumption); obtain ⟨ad146, e146, hx146_0⟩ := Kd.at_int (Kd.R_reads' HO_6.out).2.2 x7_14 p146 q146; obtain rfl : ad144 = ad146 := (by injection e146); replace p146 := eq_true p146; replace q146 := eq_true q146) | ((with_reducible refine gate_callee (f := 26) rfl ?_); refine goesL_ (some 61) rfl rfl Try.func26 (by kernel_rfl) rfl #[.int .u64 t145, .int .i64 (rd t139 x7_14)] rfl (by (try simp only [List.map_toArray, List.map_cons, List.map_nil]); first | done | rfl | (simp only [List.length_drop, List.length_take]; rfl)) ?_; (with_reducible refine (bits_Set_Has.calls t145 (rd t139 x7_14) false _ A24.out).mono ?_); rintro e w' ⟨rfl, ⟨nd, rfl⟩⟩; refine ⟨_, rfl, ?_⟩) | (go_at_call 22; (with_reducible refine (bits_Set_Count.calls kj14 t145 t148 _ A26.out).mono ?_); rintro e w28 ⟨rfl, hb⟩; have n0_ := Aside0.mk (Kd.R_below (by (with_reducible repeat (first | apply Kd.R_alloc | apply Kd.R_drewN | apply Kd.R_drew)); exact HO_6.out) hb); have n1_ := Aside0.mk (below_step (by repeat (first | (with_reducible first | exact HB.out | apply below_alloc | apply pw_below_drewN | apply below_drew1) | exact HB.out)) hb); clear HO_6; clear HB; have HO_6 := n0_; have HB := n1_; clear n0_ n1_; (try clear hb); (try clear hb2); (try clear hk); (try clear hi)))
                                  go_roundg kj14
                                  case measure => have := HK1.out; have := HJ3.out; have := HK3.out; have := HJ14.out; omega
                                  case rel => exact ⟨(t145), (wrap64 (x5_3 + 1)), (by first | rfl | (simp; done) | (simp [*]; done)), (by first | rfl | (simp; done) | (simp [*]; done)), H', ⟨by have := HK1.out; have := HJ3.out; have := HK3.out; have := HJ14.out; omega⟩, ⟨by repeat (first | (with_reducible first | exact HB.out | apply below_alloc | apply pw_below_drewN | apply below_drew1) | exact HB.out)⟩⟩
                                · rw [if_neg c27] at H
                                  have c27b0 : (t148 == (wrap64 (63 - x5_3))) = false := beq_eq_false_iff_ne.mpr c27
                                  have c27b1 : (t148 != (wrap64 (63 - x5_3))) = true := bne_iff_ne.mpr c27
                                  obtain rfl := Option.some.inj H
                                  have p144 : 0 ≤ (x7_14 : Int) := of_decide_eq_true (by first | (with_reducible assumption) | assumption)
                                  have q144 : x7_14 < (t139.length : Int) := of_decide_eq_true (by first | (with_reducible assumption) | assumption)
                                  obtain ⟨ad144, e144, hx144_0⟩ := Kd.at_int (Kd.R_reads' HO_6.out).2.2 x7_14 p144 q144
                                  cases e144
                                  replace p144 := eq_true p144
                                  replace q144 := eq_true q144
                                  go_wp2_with (first | ((with_reducible refine gate_callee (f := 21) rfl ?_); refine goesL_ (some 55) rfl rfl Try.func21 (by kernel_rfl) rfl #[.int .u64 x3_3, .int .i64 (rd t139 x7_14)] rfl (by (try simp only [List.map_toArray, List.map_cons, List.map_nil]); first | done | rfl | (simp only [List.length_drop, List.length_take]; rfl)) ?_; (with_reducible refine (bits_Set_Drop.calls x3_3 (rd t139 x7_14) t145 _ A23.out).mono ?_); rintro e w' ⟨rfl, ⟨nd, rfl⟩⟩; refine ⟨_, rfl, ?_⟩; have p146 : 0 ≤ (x7_14 : Int) := of_decide_eq_true (by first | (with_reducible assumption) | assumption); have q146 : x7_14 < (t139.length : Int) := of_decide_eq_true (by first | (with_reducible assumption) | assumption); obtain ⟨ad146, e146, hx146_0⟩ := Kd.at_int (Kd.R_reads' HO_6.out).2.2 x7_14 p146 q146; obtain rfl : ad144 = ad146 := (by injection e146); replace p146 := eq_true p146; replace q146 := eq_true q146) | ((with_reducible refine gate_callee (f := 26) rfl ?_); refine goesL_ (some 61) rfl rfl Try.func26 (by kernel_rfl) rfl #[.int .u64 t145, .int .i64 (rd t139 x7_14)] rfl (by (try simp only [List.map_toArray, List.map_cons, List.map_nil]); first | done | rfl | (simp only [List.length_drop, List.length_take]; rfl)) ?_; (with_reducible refine (bits_Set_Has.calls t145 (rd t139 x7_14) false _ A24.out).mono ?_); rintro e w' ⟨rfl, ⟨nd, rfl⟩⟩; refine ⟨_, rfl, ?_⟩) | (go_at_call 22; (with_reducible refine (bits_Set_Count.calls kj14 t145 t148 _ A26.out).mono ?_); rintro e w29 ⟨rfl, hb⟩; have n0_ := Aside0.mk (Kd.R_below (by (with_reducible repeat (first | apply Kd.R_alloc | apply Kd.R_drewN | apply Kd.R_drew)); exact HO_6.out) hb); have n1_ := Aside0.mk (below_step (by repeat (first | (with_reducible first | exact HB.out | apply below_alloc | apply pw_below_drewN | apply below_drew1) | exact HB.out)) hb); clear HO_6; clear HB; have HO_6 := n0_; have HB := n1_; clear n0_ n1_; (try clear hb); (try clear hb2); (try clear hk); (try clear hi)))
                                  go_ret
                                  exact ⟨by first | rfl | (simp [errW_none, errW_some] <;> rfl) | (simp [*, errW_none, errW_some] <;> rfl), by repeat (first | (with_reducible first | exact HB.out | apply below_alloc | apply pw_below_drewN | apply below_drew1) | exact HB.out)⟩
                            · rw [if_neg c22] at H
                              exact absurd H (by simp)
                          · rw [if_neg c21] at H
                            exact absurd H (by simp)
                    · rw [if_neg c14] at H
                      have c14b0 : ((t139.length : Int) == (wrap64 (64 - x5_3))) = false := beq_eq_false_iff_ne.mpr c14
                      have c14b1 : ((t139.length : Int) != (wrap64 (64 - x5_3))) = true := bne_iff_ne.mpr c14
                      obtain rfl := Option.some.inj H
                      go_wp2_with (first | ((with_reducible refine gate_callee (f := 25) rfl ?_); refine goesL_ (some 32) rfl rfl Try.func25 (by kernel_rfl) rfl #[.int .u64 x3_3] rfl (by (try simp only [List.map_toArray, List.map_cons, List.map_nil]); first | done | rfl | (simp only [List.length_drop, List.length_take]; rfl)) ?_; (with_reducible refine (bits_Set_List.calls k3 x3_3 t139 _ A13.out).mono ?_); rintro e w30 ⟨v140, rfl, ho0, hb⟩; refine ⟨_, rfl, ?_⟩; have n0_ := Aside0.mk (Kd.R_lower ho0 (below_size (by repeat (first | (with_reducible first | exact HB.out | apply below_alloc | apply pw_below_drewN | apply below_drew1) | exact HB.out)))); have n1_ := Aside0.mk (below_step (by repeat (first | (with_reducible first | exact HB.out | apply below_alloc | apply pw_below_drewN | apply below_drew1) | exact HB.out)) hb); clear HB; have HO141 := n0_; have HB := n1_; clear n0_ n1_; (try clear hb); (try clear hb2); (try clear hk); (try clear hi); (try clear ho0); obtain ⟨Ao31, co31, eo31⟩ := Kd.R_slice HO141.out; subst eo31))
                      go_ret
                      exact ⟨by first | rfl | (simp [errW_none, errW_some] <;> rfl) | (simp [*, errW_none, errW_some] <;> rfl), by repeat (first | (with_reducible first | exact HB.out | apply below_alloc | apply pw_below_drewN | apply below_drew1) | exact HB.out)⟩
                  · rw [if_neg c12] at H
                    have c12b0 : decide (x5_3 < 64) = false := decide_eq_false c12
                    clear c12
                    by_cases c32 : x3_3 = 0
                    · rw [if_pos c32] at H
                      have c32b0 : (x3_3 == 0) = true := beq_iff_eq.mpr c32
                      have c32b1 : (x3_3 != 0) = false := bne_eq_false_iff_eq.mpr c32
                      clear c32
                      replace H := Option.bind_eq_some_iff.mp H
                      obtain ⟨t134, A330, H⟩ := H
                      replace H : (if t134 = (-1) then ((bits_Set_List.f k3 x3_3).bind fun t135 => (if (t135.length : Int) = 0 then ((assentlaw4_BitsRuns.f k3).bind fun t138 => (some t138)) else (some false))) else (some false)) = some r := H
                      have A33 := Aside0.mk A330
                      clear A330
                      by_cases c34 : t134 = (-1)
                      · rw [if_pos c34] at H
                        have c34b0 : (t134 == (-1)) = true := beq_iff_eq.mpr c34
                        have c34b1 : (t134 != (-1)) = false := bne_eq_false_iff_eq.mpr c34
                        clear c34
                        replace H := Option.bind_eq_some_iff.mp H
                        obtain ⟨t135, A350, H⟩ := H
                        replace H : (if (t135.length : Int) = 0 then ((assentlaw4_BitsRuns.f k3).bind fun t138 => (some t138)) else (some false)) = some r := H
                        have A35 := Aside0.mk A350
                        clear A350
                        by_cases c36 : (t135.length : Int) = 0
                        · rw [if_pos c36] at H
                          have c36b0 : ((t135.length : Int) == 0) = true := beq_iff_eq.mpr c36
                          have c36b1 : ((t135.length : Int) != 0) = false := bne_eq_false_iff_eq.mpr c36
                          clear c36
                          replace H := Option.bind_eq_some_iff.mp H
                          obtain ⟨t138, A370, H⟩ := H
                          replace H : (some t138) = some r := H
                          have A37 := Aside0.mk A370
                          clear A370
                          obtain rfl := Option.some.inj H
                          go_wp2_with (first | (go_at_call 23; (with_reducible refine (bits_Set_First.calls k3 x3_3 t134 _ A33.out).mono ?_); rintro e w' ⟨rfl, ⟨nd, rfl⟩⟩) | (go_at_call 25; (with_reducible refine (bits_Set_List.calls k3 x3_3 t135 _ A35.out).mono ?_); rintro e w38 ⟨v136, rfl, ho0, hb⟩; have n0_ := Aside0.mk (Kd.R_lower ho0 (below_size (by repeat (first | (with_reducible first | exact HB.out | apply below_alloc | apply pw_below_drewN | apply below_drew1) | exact HB.out)))); have n1_ := Aside0.mk (below_step (by repeat (first | (with_reducible first | exact HB.out | apply below_alloc | apply pw_below_drewN | apply below_drew1) | exact HB.out)) hb); clear HB; have HO137 := n0_; have HB := n1_; clear n0_ n1_; (try clear hb); (try clear hb2); (try clear hk); (try clear hi); (try clear ho0); obtain ⟨Ao39, co39, eo39⟩ := Kd.R_slice HO137.out; subst eo39) | (go_at_call 9; (with_reducible refine (assentlaw4_BitsRuns.calls k3  t138 _ A37.out).mono ?_); rintro e w40 ⟨rfl, hb⟩; have n0_ := Aside0.mk (Kd.R_below (by (with_reducible repeat (first | apply Kd.R_alloc | apply Kd.R_drewN | apply Kd.R_drew)); exact HO137.out) hb); have n1_ := Aside0.mk (below_step (by repeat (first | (with_reducible first | exact HB.out | apply below_alloc | apply pw_below_drewN | apply below_drew1) | exact HB.out)) hb); clear HO137; clear HB; have HO137 := n0_; have HB := n1_; clear n0_ n1_; (try clear hb); (try clear hb2); (try clear hk); (try clear hi)))
                          go_ret
                          exact ⟨by first | rfl | (simp [errW_none, errW_some] <;> rfl) | (simp [*, errW_none, errW_some] <;> rfl), by repeat (first | (with_reducible first | exact HB.out | apply below_alloc | apply pw_below_drewN | apply below_drew1) | exact HB.out)⟩
                        · rw [if_neg c36] at H
                          have c36b0 : ((t135.length : Int) == 0) = false := beq_eq_false_iff_ne.mpr c36
                          have c36b1 : ((t135.length : Int) != 0) = true := bne_iff_ne.mpr c36
                          have c36b2 : ¬ (t135 = []) := fun h_ => c36 (by rw [h_]; rfl)
                          obtain rfl := Option.some.inj H
                          go_wp2_with (first | (go_at_call 23; (with_reducible refine (bits_Set_First.calls k3 x3_3 t134 _ A33.out).mono ?_); rintro e w' ⟨rfl, ⟨nd, rfl⟩⟩) | (go_at_call 25; (with_reducible refine (bits_Set_List.calls k3 x3_3 t135 _ A35.out).mono ?_); rintro e w41 ⟨v136, rfl, ho0, hb⟩; have n0_ := Aside0.mk (Kd.R_lower ho0 (below_size (by repeat (first | (with_reducible first | exact HB.out | apply below_alloc | apply pw_below_drewN | apply below_drew1) | exact HB.out)))); have n1_ := Aside0.mk (below_step (by repeat (first | (with_reducible first | exact HB.out | apply below_alloc | apply pw_below_drewN | apply below_drew1) | exact HB.out)) hb); clear HB; have HO137 := n0_; have HB := n1_; clear n0_ n1_; (try clear hb); (try clear hb2); (try clear hk); (try clear hi); (try clear ho0); obtain ⟨Ao42, co42, eo42⟩ := Kd.R_slice HO137.out; subst eo42))
                          go_ret
                          exact ⟨by first | rfl | (simp [errW_none, errW_some] <;> rfl) | (simp [*, errW_none, errW_some] <;> rfl), by repeat (first | (with_reducible first | exact HB.out | apply below_alloc | apply pw_below_drewN | apply below_drew1) | exact HB.out)⟩
                      · rw [if_neg c34] at H
                        have c34b0 : (t134 == (-1)) = false := beq_eq_false_iff_ne.mpr c34
                        have c34b1 : (t134 != (-1)) = true := bne_iff_ne.mpr c34
                        obtain rfl := Option.some.inj H
                        go_wp2_with (first | (go_at_call 23; (with_reducible refine (bits_Set_First.calls k3 x3_3 t134 _ A33.out).mono ?_); rintro e w' ⟨rfl, ⟨nd, rfl⟩⟩))
                        go_ret
                        exact ⟨by first | rfl | (simp [errW_none, errW_some] <;> rfl) | (simp [*, errW_none, errW_some] <;> rfl), by repeat (first | (with_reducible first | exact HB.out | apply below_alloc | apply pw_below_drewN | apply below_drew1) | exact HB.out)⟩
                    · rw [if_neg c32] at H
                      have c32b0 : (x3_3 == 0) = false := beq_eq_false_iff_ne.mpr c32
                      have c32b1 : (x3_3 != 0) = true := bne_iff_ne.mpr c32
                      obtain rfl := Option.some.inj H
                      go_wp2
                      go_ret
                      exact ⟨by first | rfl | (simp [errW_none, errW_some] <;> rfl) | (simp [*, errW_none, errW_some] <;> rfl), by repeat (first | (with_reducible first | exact HB.out | apply below_alloc | apply pw_below_drewN | apply below_drew1) | exact HB.out)⟩

/-- THE ONE PURE STATEMENT of assentlaw4_BitsAll: yours. -/
def assentlaw4_BitsAll.Pure : Prop := ∀ (l0 : List Int), l0.length ≤ maxLen → l0.length * 8 ≤ 140737488351232 → (∀ x ∈ l0, (Lit.int .i64 x).wf = true) → ∃ k, assentlaw4_BitsAll.f k l0 = some true
theorem assentlaw4_BitsAll.walk (P : assentlaw4_BitsAll.Pure) (a0 : Option Addr) (len0 cap0 : Nat) (z0 : List Int) (w : World) (w0 : (a0 = none ∧ len0 = 0 ∧ cap0 = 0 ∧ z0 = []) ∨ ∃ x, a0 = some x ∧ len0 ≤ cap0 ∧ cap0 ≤ maxLen ∧ z0.length = cap0 ∧ (∀ i, i < z0.length → w.cell? (x.add i) = some (.int .i64 (z0.getD i 0))) ∧ ∀ n ∈ z0, (Lit.int .i64 n).wf = true) (y0 : len0 * 8 ≤ 140737488351232) :
    Calls Try.prog 14 #[.slice a0 len0 cap0] w fun e w' => e = .returned (.bool true) ∧ Below w.heap.size w w' := by
  obtain ⟨l0, rfl, hr0, hm0, hw0, hc0⟩ := ReadsInt.ofRowC w0
  obtain ⟨k, h⟩ := P l0 hm0 y0 hw0
  refine (assentlaw4_BitsAll.calls k _ _ l0 true w (Kd.C_of_reads (d := (0 : Int)) (h1 := fun _ => rfl) hr0) hc0 h).mono ?_
  rintro e w' ⟨rfl, hd⟩
  exact ⟨rfl, hd⟩

end Go.Proofs.Ytakabjeamkffpaa.PBitsAll
