-- PRINTED BY print.sh 35421559b90ae4d0a3588c463048766b98c2df88dd9212a6774a882060cdf62d: not written by this session
import Derived.Test.YtakabjeamkffpaaPPlruPathx0
namespace Go.Proofs.Ytakabjeamkffpaa.PPlruPath
open Go.RowKit Go.Proofs.YtakabjeamkffpaaW.PrintWords Go.Proofs.YtakabjeamkffpaaW.PrintLast Go.Proofs.YtakabjeamkffpaaW.PrintMore
attribute [local go_sem] max2_int min2_int max_two min_two max_three min_three max_four min_four   -- for this text's walks alone
set_option linter.unusedVariables false
set_option linter.unusedSimpArgs false

/-! ### plru_right: function 32 -/
def plru_right.f (a0 : Int) : Option (Bool) := if a0 ≥ 1 then (if a0 ≤ 8 then (some ((Go.bits .and .i64 a0 (wrap64 (a0 - 1))) == 0)) else (some false)) else (some false)
set_option maxHeartbeats 8000000 in
set_option maxRecDepth 100000 in
theorem plru_right.calls (a0 : Int) (r : Bool) (w : World) (h : plru_right.f a0 = some r) :
    Calls Try.prog 32 #[.int .i64 a0] w fun e w' => e = .returned (.bool r) ∧ Drawn0 w w' := by
  have H : (if a0 ≥ 1 then (if a0 ≤ 8 then (some ((Go.bits .and .i64 a0 (wrap64 (a0 - 1))) == 0)) else (some false)) else (some false)) = some r := h
  clear h
  by_cases c2 : a0 ≥ 1
  · rw [if_pos c2] at H
    have c2b0 : decide (1 ≤ a0) = true := decide_eq_true c2
    clear c2
    by_cases c3 : a0 ≤ 8
    · rw [if_pos c3] at H
      have c3b0 : decide (a0 ≤ 8) = true := decide_eq_true c3
      clear c3
      obtain rfl := Option.some.inj H
      go_enter Try.func32, Try.ntmps32
      go_wp2
      go_ret
      exact ⟨by first | rfl | (simp; done) | (simp [*]; done), by repeat (first | exact Drawn0.refl _ | apply Drawn0.step)⟩
    · rw [if_neg c3] at H
      have c3b0 : decide (a0 ≤ 8) = false := decide_eq_false c3
      clear c3
      obtain rfl := Option.some.inj H
      go_enter Try.func32, Try.ntmps32
      go_wp2
      go_ret
      exact ⟨by first | rfl | (simp; done) | (simp [*]; done), by repeat (first | exact Drawn0.refl _ | apply Drawn0.step)⟩
  · rw [if_neg c2] at H
    have c2b0 : decide (1 ≤ a0) = false := decide_eq_false c2
    clear c2
    obtain rfl := Option.some.inj H
    go_enter Try.func32, Try.ntmps32
    go_wp2
    go_ret
    exact ⟨by first | rfl | (simp; done) | (simp [*]; done), by repeat (first | exact Drawn0.refl _ | apply Drawn0.step)⟩

/-! ### plru_Touch: function 15 -/
mutual
def plru_Touch.j0 : Nat → Int → Int → Int → Bool → Option (Int)
  | 0, _, _, _, _ => none
  | k + 1, x0, x1, x2, x21 => if x21 = true then (some x0) else (plru_Touch.l0 k x0 x2 1 (wrap64 (Int.tdiv x1 2)))
def plru_Touch.l0 : Nat → Int → Int → Int → Int → Option (Int)
  | 0, _, _, _, _ => none
  | k + 1, x0, x2, x7, x8 => if x8 > 0 then (if 0 ≤ (IntKind.u64.wrap (wrap64 (x7 - 1))) then (if (Go.bits .and .i64 x2 x8) = 0 then (plru_Touch.l0 k (Go.bits .or .u8 x0 (shl .u8 1 (IntKind.u64.wrap (wrap64 (x7 - 1))))) x2 (wrap64 (x7 * 2)) (wrap64 (Int.tdiv x8 2))) else (plru_Touch.l0 k (Go.bits .andNot .u8 x0 (shl .u8 1 (IntKind.u64.wrap (wrap64 (x7 - 1))))) x2 (wrap64 ((wrap64 (x7 * 2)) + 1)) (wrap64 (Int.tdiv x8 2)))) else (none)) else (some x0)
end
def plru_Touch.f (k : Nat) (a0 : Int) (a1 : Int) (a2 : Int) : Option (Int) := (plru_right.f a1).bind fun t101 => (if t101 = true then (if a2 < 0 then (plru_Touch.j0 k a0 a1 a2 true) else (plru_Touch.j0 k a0 a1 a2 (decide (a2 ≥ a1)))) else (plru_Touch.j0 k a0 a1 a2 true))
theorem plru_Touch.mono_l : ∀ k, (∀ y0 y1 y2 y3, LeO (plru_Touch.j0 k y0 y1 y2 y3) (plru_Touch.j0 (k + 1) y0 y1 y2 y3)) ∧ (∀ y0 y1 y2 y3, LeO (plru_Touch.l0 k y0 y1 y2 y3) (plru_Touch.l0 (k + 1) y0 y1 y2 y3))
  | 0 => ⟨fun _ _ _ _ r h => by simp [plru_Touch.j0] at h, fun _ _ _ _ r h => by simp [plru_Touch.l0] at h⟩
  | k + 1 => by
    obtain ⟨ih0, ih1⟩ := plru_Touch.mono_l k
    refine ⟨?_, ?_⟩
    · intro y0 y1 y2 y3
      unfold plru_Touch.j0
      repeat' first
      | (with_reducible exact ih0 _ _ _ _)
      | (with_reducible exact ih1 _ _ _ _)
      | (with_reducible exact LeO.refl _)
      | (with_reducible exact LeO.none _)
      | (with_reducible refine LeO.ite ?_ ?_)
      | (with_reducible refine LeO.bind ?_ (fun _ => ?_))
      | exact ih0 _ _ _ _
      | exact ih1 _ _ _ _
      | exact LeO.none _
      | refine LeO.ite ?_ ?_
      | refine LeO.bind ?_ (fun _ => ?_)
    · intro y0 y1 y2 y3
      unfold plru_Touch.l0
      repeat' first
      | (with_reducible exact ih0 _ _ _ _)
      | (with_reducible exact ih1 _ _ _ _)
      | (with_reducible exact LeO.refl _)
      | (with_reducible exact LeO.none _)
      | (with_reducible refine LeO.ite ?_ ?_)
      | (with_reducible refine LeO.bind ?_ (fun _ => ?_))
      | exact ih0 _ _ _ _
      | exact ih1 _ _ _ _
      | exact LeO.none _
      | refine LeO.ite ?_ ?_
      | refine LeO.bind ?_ (fun _ => ?_)
theorem plru_Touch.mono : ∀ a0 a1 a2 k, LeO (plru_Touch.f k a0 a1 a2) (plru_Touch.f (k + 1) a0 a1 a2) := by
  intro a0 a1 a2 k
  obtain ⟨ih0, ih1⟩ := plru_Touch.mono_l k
  unfold plru_Touch.f
  repeat' first
      | (with_reducible exact ih0 _ _ _ _)
      | (with_reducible exact ih1 _ _ _ _)
      | (with_reducible exact LeO.refl _)
      | (with_reducible exact LeO.none _)
      | (with_reducible refine LeO.ite ?_ ?_)
      | (with_reducible refine LeO.bind ?_ (fun _ => ?_))
      | exact ih0 _ _ _ _
      | exact ih1 _ _ _ _
      | exact LeO.none _
      | refine LeO.ite ?_ ?_
      | refine LeO.bind ?_ (fun _ => ?_)
set_option maxHeartbeats 8000000 in
set_option maxRecDepth 100000 in
theorem plru_Touch.calls (k : Nat) (a0 : Int) (a1 : Int) (a2 : Int) (r : Int) (w : World) (h : plru_Touch.f k a0 a1 a2 = some r) :
    Calls Try.prog 15 #[.int .u8 a0, .int .i64 a1, .int .i64 a2] w fun e w' => e = .returned (.int .u8 r) ∧ Drawn0 w w' := by
  have H : ((plru_right.f a1).bind fun t101 => (if t101 = true then (if a2 < 0 then (plru_Touch.j0 k a0 a1 a2 true) else (plru_Touch.j0 k a0 a1 a2 (decide (a2 ≥ a1)))) else (plru_Touch.j0 k a0 a1 a2 true))) = some r := h
  clear h
  have HC4 := Aside0.mk H
  clear H
  go_enter Try.func15, Try.ntmps15
  go_upto_region 1 with (fail)
  go_cut [21] (fun v21 wc => ∃ (kq : Nat) (x21_3 : Bool), v21 = .bool x21_3 ∧ Aside0 (plru_Touch.j0 kq a0 a1 a2 x21_3 = some r) ∧ Aside0 (kq ≤ k) ∧ Drawn0 w wc)
  case first =>
    have H := HC4.out
    clear HC4
    replace H := Option.bind_eq_some_iff.mp H
    obtain ⟨t101, A50, H⟩ := H
    replace H : (if t101 = true then (if a2 < 0 then (plru_Touch.j0 k a0 a1 a2 true) else (plru_Touch.j0 k a0 a1 a2 (decide (a2 ≥ a1)))) else (plru_Touch.j0 k a0 a1 a2 true)) = some r := H
    have A5 := Aside0.mk A50
    clear A50
    by_cases c6 : t101 = true
    · subst c6
      have H1 : (if a2 < 0 then (plru_Touch.j0 k a0 a1 a2 true) else (plru_Touch.j0 k a0 a1 a2 (decide (a2 ≥ a1)))) = some r := by rw [if_pos rfl] at H; exact H
      clear H
      have H := H1
      clear H1
      by_cases c7 : a2 < 0
      · rw [if_pos c7] at H
        have c7b0 : decide (a2 < 0) = true := decide_eq_true c7
        clear c7
        (first | rw [c7b0] | (simp only [i64_w, i32_w]; rw [c7b0]) | skip)
        have H' := Aside0.mk H
        clear H
        go_wp2_with (first | ((with_reducible refine gate_callee (f := 32) rfl ?_); refine goesL_ (some 11) rfl rfl Try.func32 (by kernel_rfl) rfl #[.int .i64 a1] rfl (by (try simp only [List.map_toArray, List.map_cons, List.map_nil]); first | done | rfl | (simp only [List.length_drop, List.length_take]; rfl)) ?_; (with_reducible refine (plru_right.calls a1 true _ A5.out).mono ?_); rintro e w' ⟨rfl, ⟨nd, rfl⟩⟩; refine ⟨_, rfl, ?_⟩))
        go_meet
        case rel => exact ⟨_, (true), (by first | rfl | (simp; done) | (simp [*]; done)), H', ⟨by first | omega | exact Nat.le_refl _⟩, by repeat (first | exact Drawn0.refl _ | apply Drawn0.step)⟩
      · rw [if_neg c7] at H
        have c7b0 : decide (a2 < 0) = false := decide_eq_false c7
        clear c7
        (first | rw [c7b0] | (simp only [i64_w, i32_w]; rw [c7b0]) | skip)
        have H' := Aside0.mk H
        clear H
        go_wp2_with (first | ((with_reducible refine gate_callee (f := 32) rfl ?_); refine goesL_ (some 11) rfl rfl Try.func32 (by kernel_rfl) rfl #[.int .i64 a1] rfl (by (try simp only [List.map_toArray, List.map_cons, List.map_nil]); first | done | rfl | (simp only [List.length_drop, List.length_take]; rfl)) ?_; (with_reducible refine (plru_right.calls a1 true _ A5.out).mono ?_); rintro e w' ⟨rfl, ⟨nd, rfl⟩⟩; refine ⟨_, rfl, ?_⟩))
        go_meet
        case rel => exact ⟨_, (decide (a2 ≥ a1)), (by first | rfl | (simp; done) | (simp [*]; done)), H', ⟨by first | omega | exact Nat.le_refl _⟩, by repeat (first | exact Drawn0.refl _ | apply Drawn0.step)⟩
    · replace c6 := Bool.eq_false_iff.mpr c6
      subst c6
      have H1 : (plru_Touch.j0 k a0 a1 a2 true) = some r := by rw [if_neg (show ¬ (false = true) by decide)] at H; exact H
      clear H
      have H := H1
      clear H1
      have H' := Aside0.mk H
      clear H
      go_wp2_with (first | ((with_reducible refine gate_callee (f := 32) rfl ?_); refine goesL_ (some 11) rfl rfl Try.func32 (by kernel_rfl) rfl #[.int .i64 a1] rfl (by (try simp only [List.map_toArray, List.map_cons, List.map_nil]); first | done | rfl | (simp only [List.length_drop, List.length_take]; rfl)) ?_; (with_reducible refine (plru_right.calls a1 false _ A5.out).mono ?_); rintro e w' ⟨rfl, ⟨nd, rfl⟩⟩; refine ⟨_, rfl, ?_⟩))
      go_meet
      case rel => exact ⟨_, (true), (by first | rfl | (simp; done) | (simp [*]; done)), H', ⟨by first | omega | exact Nat.le_refl _⟩, by repeat (first | exact Drawn0.refl _ | apply Drawn0.step)⟩
  case rest =>
    clear HC4
    try clear c1
    try clear p2
    try clear c3
    try clear c6
    try clear c7
    try clear c7b0
    obtain ⟨kq, x21_3, rfl, HA, HJ3, ⟨mc3, rfl⟩⟩ := hcut
    cases kq with
    | zero => exact absurd HA.out (by simp [plru_Touch.j0])
    | succ kj3 =>
      have H := HA.out
      clear HA
      simp only [plru_Touch.j0] at H
      by_cases c8 : x21_3 = true
      · subst c8
        have H1 : (some a0) = some r := by rw [if_pos rfl] at H; exact H
        clear H
        have H := H1
        clear H1
        obtain rfl := Option.some.inj H
        go_wp2
        go_ret
        exact ⟨by first | rfl | (simp; done) | (simp [*]; done), by repeat (first | exact Drawn0.refl _ | apply Drawn0.step)⟩
      · replace c8 := Bool.eq_false_iff.mpr c8
        subst c8
        have H1 : (plru_Touch.l0 kj3 a0 a2 1 (wrap64 (Int.tdiv a1 2))) = some r := by rw [if_neg (show ¬ (false = true) by decide)] at H; exact H
        clear H
        have H := H1
        clear H1
        have H' := Aside0.mk H
        clear H
        go_wp2
        go_loopg [0, 7, 8] kj3 (fun kq v0 v7 v8 w' => ∃ (x0_2 : Int) (x7_2 : Int) (x8_2 : Int), v0 = .int .u8 x0_2 ∧ v7 = .int .i64 x7_2 ∧ v8 = .int .i64 x8_2 ∧ Aside0 (plru_Touch.l0 kq x0_2 a2 x7_2 x8_2 = some r) ∧ Aside0 (kq ≤ kj3) ∧ Drawn0 w w')
        case atStart => exact ⟨(a0), (1), (wrap64 (Int.tdiv a1 2)), (by first | rfl | (simp; done) | (simp [*]; done)), (by first | rfl | (simp; done) | (simp [*]; done)), (by first | rfl | (simp; done) | (simp [*]; done)), H', ⟨Nat.le_refl _⟩, by repeat (first | exact Drawn0.refl _ | apply Drawn0.step)⟩
        case round =>
          clear H'
          try clear c1
          try clear p2
          try clear c3
          try clear c6
          try clear p6
          try clear c7
          try clear c7b0
          try clear c8
          try clear p2
          obtain ⟨x0_2, x7_2, x8_2, rfl, rfl, rfl, HA, HK2, ⟨m2, rfl⟩⟩ := hrel
          cases gk with
          | zero => exact absurd HA.out (by simp [plru_Touch.l0])
          | succ k2 =>
            have H := HA.out
            clear HA
            simp only [plru_Touch.l0] at H
            by_cases c9 : x8_2 > 0
            · rw [if_pos c9] at H
              have c9b0 : decide (0 < x8_2) = true := decide_eq_true c9
              clear c9
              obtain ⟨ji10, hji10⟩ : ∃ j_ : Int, (IntKind.u64.wrap (wrap64 (x7_2 - 1))) = j_ := ⟨_, rfl⟩
              replace H : (if 0 ≤ (ji10) then (if (Go.bits .and .i64 a2 x8_2) = 0 then (plru_Touch.l0 k2 (Go.bits .or .u8 x0_2 (shl .u8 1 (ji10))) a2 (wrap64 (x7_2 * 2)) (wrap64 (Int.tdiv x8_2 2))) else (plru_Touch.l0 k2 (Go.bits .andNot .u8 x0_2 (shl .u8 1 (ji10))) a2 (wrap64 ((wrap64 (x7_2 * 2)) + 1)) (wrap64 (Int.tdiv x8_2 2)))) else (none)) = some r := by first | (rw [hji10] at H; exact H) | (simp only [hji10] at H ⊢; exact H)
              by_cases c11 : 0 ≤ (ji10)
              · rw [if_pos c11] at H
                have c11b0 := eq_true c11
                have c11b1 : decide (0 ≤ (ji10)) = true := decide_eq_true c11
                clear c11
                obtain ⟨ji12, hji12⟩ : ∃ j_ : Int, (shl .u8 1 (ji10)) = j_ := ⟨_, rfl⟩
                replace H : (if (Go.bits .and .i64 a2 x8_2) = 0 then (plru_Touch.l0 k2 (Go.bits .or .u8 x0_2 (ji12)) a2 (wrap64 (x7_2 * 2)) (wrap64 (Int.tdiv x8_2 2))) else (plru_Touch.l0 k2 (Go.bits .andNot .u8 x0_2 (ji12)) a2 (wrap64 ((wrap64 (x7_2 * 2)) + 1)) (wrap64 (Int.tdiv x8_2 2)))) = some r := by first | (rw [hji12] at H; exact H) | (simp only [hji12] at H ⊢; exact H)
                have hji12_ : (IntKind.u8.wrap (1 * 2 ^ min (ji10).toNat 8)) = ji12 := hji12
                have hji12z : (ji10) ≤ 8 → (IntKind.u8.wrap (1 * 2 ^ (ji10).toNat)) = ji12 := shl_small hji12
                have hji12u : (IntKind.u8.wrap (2 ^ min (ji10).toNat 8)) = ji12 := by have h_ := hji12_; rw [Int.one_mul] at h_; exact h_
                have hji12v : (ji10) ≤ 8 → (IntKind.u8.wrap (2 ^ (ji10).toNat)) = ji12 := fun hle_ => by have h_ := hji12z hle_; rw [Int.one_mul] at h_; exact h_
                by_cases c13 : (Go.bits .and .i64 a2 x8_2) = 0
                · rw [if_pos c13] at H
                  have c13b0 : ((Go.bits .and .i64 a2 x8_2) == 0) = true := beq_iff_eq.mpr c13
                  have c13b1 : ((Go.bits .and .i64 a2 x8_2) != 0) = false := bne_eq_false_iff_eq.mpr c13
                  clear c13
                  have H' := Aside0.mk H
                  clear H
                  go_wp2
                  go_roundg k2
                  case measure => have := HJ3.out; have := HK2.out; omega
                  case rel => exact ⟨(Go.bits .or .u8 x0_2 (ji12)), (wrap64 (x7_2 * 2)), (wrap64 (Int.tdiv x8_2 2)), (by first | rfl | (simp; done) | (simp only [← hji12] <;> (first | rfl | simp)) | (simp [*]; done)), (by first | rfl | (simp; done) | (simp [*]; done)), (by first | rfl | (simp; done) | (simp [*]; done)), H', ⟨by have := HJ3.out; have := HK2.out; omega⟩, by repeat (first | exact Drawn0.refl _ | apply Drawn0.step)⟩
                · rw [if_neg c13] at H
                  have c13b0 : ((Go.bits .and .i64 a2 x8_2) == 0) = false := beq_eq_false_iff_ne.mpr c13
                  have c13b1 : ((Go.bits .and .i64 a2 x8_2) != 0) = true := bne_iff_ne.mpr c13
                  have H' := Aside0.mk H
                  clear H
                  go_wp2
                  go_roundg k2
                  case measure => have := HJ3.out; have := HK2.out; omega
                  case rel => exact ⟨(Go.bits .andNot .u8 x0_2 (ji12)), (wrap64 ((wrap64 (x7_2 * 2)) + 1)), (wrap64 (Int.tdiv x8_2 2)), (by first | rfl | (simp; done) | (simp only [← hji12] <;> (first | rfl | simp)) | (simp [*]; done)), (by first | rfl | (simp; done) | (simp [*]; done)), (by first | rfl | (simp; done) | (simp [*]; done)), H', ⟨by have := HJ3.out; have := HK2.out; omega⟩, by repeat (first | exact Drawn0.refl _ | apply Drawn0.step)⟩
              · rw [if_neg c11] at H
                exact absurd H (by simp)
            · rw [if_neg c9] at H
              have c9b0 : decide (0 < x8_2) = false := decide_eq_false c9
              clear c9
              obtain rfl := Option.some.inj H
              go_wp2
              go_ret
              exact ⟨by first | rfl | (simp; done) | (simp [*]; done), by repeat (first | exact Drawn0.refl _ | apply Drawn0.step)⟩

/-! ### plru_Victim: function 16 -/
def plru_Victim.l0 : Nat → Int → Int → Int → Int → Option (Int)
  | 0, _, _, _, _ => none
  | k + 1, x0, x5, x6, x7 => if x7 > 0 then (if 0 ≤ (IntKind.u64.wrap (wrap64 (x6 - 1))) then (plru_Victim.l0 k x0 (wrap64 (x5 + (wrap64 ((wrap64 (Go.bits .and .u8 (shr .u8 x0 (IntKind.u64.wrap (wrap64 (x6 - 1)))) 1)) * x7)))) (wrap64 ((wrap64 (2 * x6)) + (wrap64 (Go.bits .and .u8 (shr .u8 x0 (IntKind.u64.wrap (wrap64 (x6 - 1)))) 1)))) (wrap64 (Int.tdiv x7 2))) else (none)) else (some x5)
def plru_Victim.f (k : Nat) (a0 : Int) (a1 : Int) : Option (Int) := (plru_right.f a1).bind fun t102 => (if t102 = true then (plru_Victim.l0 k a0 0 1 (wrap64 (Int.tdiv a1 2))) else (some (-1)))
theorem plru_Victim.mono_l : ∀ k, (∀ y0 y1 y2 y3, LeO (plru_Victim.l0 k y0 y1 y2 y3) (plru_Victim.l0 (k + 1) y0 y1 y2 y3))
  | 0 => fun _ _ _ _ r h => by simp [plru_Victim.l0] at h
  | k + 1 => by
    have ih0 := plru_Victim.mono_l k
    · intro y0 y1 y2 y3
      unfold plru_Victim.l0
      repeat' first
      | (with_reducible exact ih0 _ _ _ _)
      | (with_reducible exact LeO.refl _)
      | (with_reducible exact LeO.none _)
      | (with_reducible refine LeO.ite ?_ ?_)
      | (with_reducible refine LeO.bind ?_ (fun _ => ?_))
      | exact ih0 _ _ _ _
      | exact LeO.none _
      | refine LeO.ite ?_ ?_
      | refine LeO.bind ?_ (fun _ => ?_)
theorem plru_Victim.mono : ∀ a0 a1 k, LeO (plru_Victim.f k a0 a1) (plru_Victim.f (k + 1) a0 a1) := by
  intro a0 a1 k
  have ih0 := plru_Victim.mono_l k
  unfold plru_Victim.f
  repeat' first
      | (with_reducible exact ih0 _ _ _ _)
      | (with_reducible exact LeO.refl _)
      | (with_reducible exact LeO.none _)
      | (with_reducible refine LeO.ite ?_ ?_)
      | (with_reducible refine LeO.bind ?_ (fun _ => ?_))
      | exact ih0 _ _ _ _
      | exact LeO.none _
      | refine LeO.ite ?_ ?_
      | refine LeO.bind ?_ (fun _ => ?_)
set_option maxHeartbeats 8000000 in
set_option maxRecDepth 100000 in
theorem plru_Victim.calls (k : Nat) (a0 : Int) (a1 : Int) (r : Int) (w : World) (h : plru_Victim.f k a0 a1 = some r) :
    Calls Try.prog 16 #[.int .u8 a0, .int .i64 a1] w fun e w' => e = .returned (.int .i64 r) ∧ Drawn0 w w' := by
  have H : ((plru_right.f a1).bind fun t102 => (if t102 = true then (plru_Victim.l0 k a0 0 1 (wrap64 (Int.tdiv a1 2))) else (some (-1)))) = some r := h
  clear h
  replace H := Option.bind_eq_some_iff.mp H
  obtain ⟨t102, A30, H⟩ := H
  replace H : (if t102 = true then (plru_Victim.l0 k a0 0 1 (wrap64 (Int.tdiv a1 2))) else (some (-1))) = some r := H
  have A3 := Aside0.mk A30
  clear A30
  by_cases c4 : t102 = true
  · subst c4
    have H1 : (plru_Victim.l0 k a0 0 1 (wrap64 (Int.tdiv a1 2))) = some r := by rw [if_pos rfl] at H; exact H
    clear H
    have H := H1
    clear H1
    have H' := Aside0.mk H
    clear H
    go_enter Try.func16, Try.ntmps16
    go_wp2_with (first | ((with_reducible refine gate_callee (f := 32) rfl ?_); refine goesL_ (some 10) rfl rfl Try.func32 (by kernel_rfl) rfl #[.int .i64 a1] rfl (by (try simp only [List.map_toArray, List.map_cons, List.map_nil]); first | done | rfl | (simp only [List.length_drop, List.length_take]; rfl)) ?_; (with_reducible refine (plru_right.calls a1 true _ A3.out).mono ?_); rintro e w' ⟨rfl, ⟨nd, rfl⟩⟩; refine ⟨_, rfl, ?_⟩))
    go_loopg [5, 6, 7] k (fun kq v5 v6 v7 w' => ∃ (x5_1 : Int) (x6_1 : Int) (x7_1 : Int), v5 = .int .i64 x5_1 ∧ v6 = .int .i64 x6_1 ∧ v7 = .int .i64 x7_1 ∧ Aside0 (plru_Victim.l0 kq a0 x5_1 x6_1 x7_1 = some r) ∧ Aside0 (kq ≤ k) ∧ Drawn0 w w')
    case atStart => exact ⟨(0), (1), (wrap64 (Int.tdiv a1 2)), (by first | rfl | (simp; done) | (simp [*]; done)), (by first | rfl | (simp; done) | (simp [*]; done)), (by first | rfl | (simp; done) | (simp [*]; done)), H', ⟨Nat.le_refl _⟩, by repeat (first | exact Drawn0.refl _ | apply Drawn0.step)⟩
    case round =>
      clear H'
      try clear c1
      try clear p2
      try clear c3
      try clear c4
      obtain ⟨x5_1, x6_1, x7_1, rfl, rfl, rfl, HA, HK1, ⟨m1, rfl⟩⟩ := hrel
      cases gk with
      | zero => exact absurd HA.out (by simp [plru_Victim.l0])
      | succ k1 =>
        have H := HA.out
        clear HA
        simp only [plru_Victim.l0] at H
        by_cases c5 : x7_1 > 0
        · rw [if_pos c5] at H
          have c5b0 : decide (0 < x7_1) = true := decide_eq_true c5
          clear c5
          obtain ⟨ji6, hji6⟩ : ∃ j_ : Int, (IntKind.u64.wrap (wrap64 (x6_1 - 1))) = j_ := ⟨_, rfl⟩
          replace H : (if 0 ≤ (ji6) then (plru_Victim.l0 k1 a0 (wrap64 (x5_1 + (wrap64 ((wrap64 (Go.bits .and .u8 (shr .u8 a0 (ji6)) 1)) * x7_1)))) (wrap64 ((wrap64 (2 * x6_1)) + (wrap64 (Go.bits .and .u8 (shr .u8 a0 (ji6)) 1)))) (wrap64 (Int.tdiv x7_1 2))) else (none)) = some r := by first | (rw [hji6] at H; exact H) | (simp only [hji6] at H ⊢; exact H)
          by_cases c7 : 0 ≤ (ji6)
          · rw [if_pos c7] at H
            have c7b0 := eq_true c7
            have c7b1 : decide (0 ≤ (ji6)) = true := decide_eq_true c7
            clear c7
            obtain ⟨ji8, hji8⟩ : ∃ j_ : Int, (shr .u8 a0 (ji6)) = j_ := ⟨_, rfl⟩
            replace H : (plru_Victim.l0 k1 a0 (wrap64 (x5_1 + (wrap64 ((wrap64 (Go.bits .and .u8 (ji8) 1)) * x7_1)))) (wrap64 ((wrap64 (2 * x6_1)) + (wrap64 (Go.bits .and .u8 (ji8) 1)))) (wrap64 (Int.tdiv x7_1 2))) = some r := by first | (rw [hji8] at H; exact H) | (simp only [hji8] at H ⊢; exact H)
            have hji8_ : (a0 / 2 ^ min (ji6).toNat 8) = ji8 := hji8
            have hji8z : (ji6) ≤ 8 → (a0 / 2 ^ (ji6).toNat) = ji8 := shr_small hji8
            have H' := Aside0.mk H
            clear H
            go_wp2
            go_roundg k1
            case measure => have := HK1.out; omega
            case rel => exact ⟨(wrap64 (x5_1 + (wrap64 ((wrap64 (Go.bits .and .u8 (ji8) 1)) * x7_1)))), (wrap64 ((wrap64 (2 * x6_1)) + (wrap64 (Go.bits .and .u8 (ji8) 1)))), (wrap64 (Int.tdiv x7_1 2)), (by first | rfl | (simp; done) | (simp only [← hji8] <;> (first | rfl | simp)) | (simp [*]; done)), (by first | rfl | (simp; done) | (simp only [← hji8] <;> (first | rfl | simp)) | (simp [*]; done)), (by first | rfl | (simp; done) | (simp [*]; done)), H', ⟨by have := HK1.out; omega⟩, by repeat (first | exact Drawn0.refl _ | apply Drawn0.step)⟩
          · rw [if_neg c7] at H
            exact absurd H (by simp)
        · rw [if_neg c5] at H
          have c5b0 : decide (0 < x7_1) = false := decide_eq_false c5
          clear c5
          obtain rfl := Option.some.inj H
          go_wp2
          go_ret
          exact ⟨by first | rfl | (simp; done) | (simp [*]; done), by repeat (first | exact Drawn0.refl _ | apply Drawn0.step)⟩
  · replace c4 := Bool.eq_false_iff.mpr c4
    subst c4
    have H1 : (some (-1)) = some r := by rw [if_neg (show ¬ (false = true) by decide)] at H; exact H
    clear H
    have H := H1
    clear H1
    obtain rfl := Option.some.inj H
    go_enter Try.func16, Try.ntmps16
    go_wp2_with (first | ((with_reducible refine gate_callee (f := 32) rfl ?_); refine goesL_ (some 10) rfl rfl Try.func32 (by kernel_rfl) rfl #[.int .i64 a1] rfl (by (try simp only [List.map_toArray, List.map_cons, List.map_nil]); first | done | rfl | (simp only [List.length_drop, List.length_take]; rfl)) ?_; (with_reducible refine (plru_right.calls a1 false _ A3.out).mono ?_); rintro e w' ⟨rfl, ⟨nd, rfl⟩⟩; refine ⟨_, rfl, ?_⟩))
    go_ret
    exact ⟨by first | rfl | (simp; done) | (simp [*]; done), by repeat (first | exact Drawn0.refl _ | apply Drawn0.step)⟩

/-! ### assentlaw5_PlruRuns: function 3 -/
def assentlaw5_PlruRuns.f (k : Nat)  : Option (Bool) := (plru_Touch.f k 0 4 0).bind fun t103 => (if t103 = 3 then ((plru_Victim.f k 3 4).bind fun t104 => (if t104 = 2 then ((plru_Touch.f k 3 4 2).bind fun t105 => (if t105 = 6 then ((plru_Victim.f k 6 4).bind fun t106 => (some (t106 == 1))) else (some false))) else (some false))) else (some false))
theorem assentlaw5_PlruRuns.mono : ∀ k, LeO (assentlaw5_PlruRuns.f k ) (assentlaw5_PlruRuns.f (k + 1) ) := by
  intro  k
  unfold assentlaw5_PlruRuns.f
  repeat' first
      | (with_reducible exact plru_Touch.mono _ _ _ _)
      | (with_reducible exact plru_Victim.mono _ _ _)
      | (with_reducible exact LeO.refl _)
      | (with_reducible exact LeO.none _)
      | (with_reducible refine LeO.ite ?_ ?_)
      | (with_reducible refine LeO.bind ?_ (fun _ => ?_))
      | exact plru_Touch.mono _ _ _ _
      | exact plru_Victim.mono _ _ _
      | exact LeO.none _
      | refine LeO.ite ?_ ?_
      | refine LeO.bind ?_ (fun _ => ?_)
set_option maxHeartbeats 8000000 in
set_option maxRecDepth 100000 in
theorem assentlaw5_PlruRuns.calls (k : Nat)  (r : Bool) (w : World) (h : assentlaw5_PlruRuns.f k  = some r) :
    Calls Try.prog 3 #[] w fun e w' => e = .returned (.bool r) ∧ Drawn0 w w' := by
  have H : ((plru_Touch.f k 0 4 0).bind fun t103 => (if t103 = 3 then ((plru_Victim.f k 3 4).bind fun t104 => (if t104 = 2 then ((plru_Touch.f k 3 4 2).bind fun t105 => (if t105 = 6 then ((plru_Victim.f k 6 4).bind fun t106 => (some (t106 == 1))) else (some false))) else (some false))) else (some false))) = some r := h
  clear h
  replace H := Option.bind_eq_some_iff.mp H
  obtain ⟨t103, A10, H⟩ := H
  replace H : (if t103 = 3 then ((plru_Victim.f k 3 4).bind fun t104 => (if t104 = 2 then ((plru_Touch.f k 3 4 2).bind fun t105 => (if t105 = 6 then ((plru_Victim.f k 6 4).bind fun t106 => (some (t106 == 1))) else (some false))) else (some false))) else (some false)) = some r := H
  have A1 := Aside0.mk A10
  clear A10
  by_cases c2 : t103 = 3
  · rw [if_pos c2] at H
    have c2b0 : (t103 == 3) = true := beq_iff_eq.mpr c2
    have c2b1 : (t103 != 3) = false := bne_eq_false_iff_eq.mpr c2
    clear c2
    replace H := Option.bind_eq_some_iff.mp H
    obtain ⟨t104, A30, H⟩ := H
    replace H : (if t104 = 2 then ((plru_Touch.f k 3 4 2).bind fun t105 => (if t105 = 6 then ((plru_Victim.f k 6 4).bind fun t106 => (some (t106 == 1))) else (some false))) else (some false)) = some r := H
    have A3 := Aside0.mk A30
    clear A30
    by_cases c4 : t104 = 2
    · rw [if_pos c4] at H
      have c4b0 : (t104 == 2) = true := beq_iff_eq.mpr c4
      have c4b1 : (t104 != 2) = false := bne_eq_false_iff_eq.mpr c4
      clear c4
      replace H := Option.bind_eq_some_iff.mp H
      obtain ⟨t105, A50, H⟩ := H
      replace H : (if t105 = 6 then ((plru_Victim.f k 6 4).bind fun t106 => (some (t106 == 1))) else (some false)) = some r := H
      have A5 := Aside0.mk A50
      clear A50
      by_cases c6 : t105 = 6
      · rw [if_pos c6] at H
        have c6b0 : (t105 == 6) = true := beq_iff_eq.mpr c6
        have c6b1 : (t105 != 6) = false := bne_eq_false_iff_eq.mpr c6
        clear c6
        replace H := Option.bind_eq_some_iff.mp H
        obtain ⟨t106, A70, H⟩ := H
        replace H : (some (t106 == 1)) = some r := H
        have A7 := Aside0.mk A70
        clear A70
        obtain rfl := Option.some.inj H
        go_enter Try.func3, Try.ntmps3
        go_wp2_with (first | ((with_reducible refine gate_callee (f := 15) rfl ?_); refine goesL_ (some 1) rfl rfl Try.func15 (by kernel_rfl) rfl #[.int .u8 0, .int .i64 4, .int .i64 0] rfl (by (try simp only [List.map_toArray, List.map_cons, List.map_nil]); first | done | rfl | (simp only [List.length_drop, List.length_take]; rfl)) ?_; (with_reducible refine (plru_Touch.calls k 0 4 0 t103 _ A1.out).mono ?_); rintro e w' ⟨rfl, ⟨nd, rfl⟩⟩; refine ⟨_, rfl, ?_⟩) | (go_at_call 16; (with_reducible refine (plru_Victim.calls k 3 4 t104 _ A3.out).mono ?_); rintro e w' ⟨rfl, ⟨nd, rfl⟩⟩) | (go_at_call 15; (with_reducible refine (plru_Touch.calls k 3 4 2 t105 _ A5.out).mono ?_); rintro e w' ⟨rfl, ⟨nd, rfl⟩⟩) | (go_at_call 16; (with_reducible refine (plru_Victim.calls k 6 4 t106 _ A7.out).mono ?_); rintro e w' ⟨rfl, ⟨nd, rfl⟩⟩))
        go_ret
        exact ⟨by first | rfl | (simp; done) | (simp [*]; done), by repeat (first | exact Drawn0.refl _ | apply Drawn0.step)⟩
      · rw [if_neg c6] at H
        have c6b0 : (t105 == 6) = false := beq_eq_false_iff_ne.mpr c6
        have c6b1 : (t105 != 6) = true := bne_iff_ne.mpr c6
        obtain rfl := Option.some.inj H
        go_enter Try.func3, Try.ntmps3
        go_wp2_with (first | ((with_reducible refine gate_callee (f := 15) rfl ?_); refine goesL_ (some 1) rfl rfl Try.func15 (by kernel_rfl) rfl #[.int .u8 0, .int .i64 4, .int .i64 0] rfl (by (try simp only [List.map_toArray, List.map_cons, List.map_nil]); first | done | rfl | (simp only [List.length_drop, List.length_take]; rfl)) ?_; (with_reducible refine (plru_Touch.calls k 0 4 0 t103 _ A1.out).mono ?_); rintro e w' ⟨rfl, ⟨nd, rfl⟩⟩; refine ⟨_, rfl, ?_⟩) | (go_at_call 16; (with_reducible refine (plru_Victim.calls k 3 4 t104 _ A3.out).mono ?_); rintro e w' ⟨rfl, ⟨nd, rfl⟩⟩) | (go_at_call 15; (with_reducible refine (plru_Touch.calls k 3 4 2 t105 _ A5.out).mono ?_); rintro e w' ⟨rfl, ⟨nd, rfl⟩⟩))
        go_ret
        exact ⟨by first | rfl | (simp; done) | (simp [*]; done), by repeat (first | exact Drawn0.refl _ | apply Drawn0.step)⟩
    · rw [if_neg c4] at H
      have c4b0 : (t104 == 2) = false := beq_eq_false_iff_ne.mpr c4
      have c4b1 : (t104 != 2) = true := bne_iff_ne.mpr c4
      obtain rfl := Option.some.inj H
      go_enter Try.func3, Try.ntmps3
      go_wp2_with (first | ((with_reducible refine gate_callee (f := 15) rfl ?_); refine goesL_ (some 1) rfl rfl Try.func15 (by kernel_rfl) rfl #[.int .u8 0, .int .i64 4, .int .i64 0] rfl (by (try simp only [List.map_toArray, List.map_cons, List.map_nil]); first | done | rfl | (simp only [List.length_drop, List.length_take]; rfl)) ?_; (with_reducible refine (plru_Touch.calls k 0 4 0 t103 _ A1.out).mono ?_); rintro e w' ⟨rfl, ⟨nd, rfl⟩⟩; refine ⟨_, rfl, ?_⟩) | (go_at_call 16; (with_reducible refine (plru_Victim.calls k 3 4 t104 _ A3.out).mono ?_); rintro e w' ⟨rfl, ⟨nd, rfl⟩⟩))
      go_ret
      exact ⟨by first | rfl | (simp; done) | (simp [*]; done), by repeat (first | exact Drawn0.refl _ | apply Drawn0.step)⟩
  · rw [if_neg c2] at H
    have c2b0 : (t103 == 3) = false := beq_eq_false_iff_ne.mpr c2
    have c2b1 : (t103 != 3) = true := bne_iff_ne.mpr c2
    obtain rfl := Option.some.inj H
    go_enter Try.func3, Try.ntmps3
    go_wp2_with (first | ((with_reducible refine gate_callee (f := 15) rfl ?_); refine goesL_ (some 1) rfl rfl Try.func15 (by kernel_rfl) rfl #[.int .u8 0, .int .i64 4, .int .i64 0] rfl (by (try simp only [List.map_toArray, List.map_cons, List.map_nil]); first | done | rfl | (simp only [List.length_drop, List.length_take]; rfl)) ?_; (with_reducible refine (plru_Touch.calls k 0 4 0 t103 _ A1.out).mono ?_); rintro e w' ⟨rfl, ⟨nd, rfl⟩⟩; refine ⟨_, rfl, ?_⟩))
    go_ret
    exact ⟨by first | rfl | (simp; done) | (simp [*]; done), by repeat (first | exact Drawn0.refl _ | apply Drawn0.step)⟩

/-! ### assentbook_Within: function 19 -/
def assentbook_Within.f (a0 : Int) (a1 : Int) (a2 : Int) : Option (Int) := if (wrap64 ((wrap64 (a2 - a1)) + 1)) = 0 then (none) else (if (Int.tmod a0 (wrap64 ((wrap64 (a2 - a1)) + 1))) < 0 then (some (wrap64 (a1 + (wrap64 ((wrap64 ((wrap64 ((Int.tmod a0 (wrap64 ((wrap64 (a2 - a1)) + 1))) + a2)) - a1)) + 1))))) else (some (wrap64 (a1 + (Int.tmod a0 (wrap64 ((wrap64 (a2 - a1)) + 1)))))))
set_option maxHeartbeats 8000000 in
set_option maxRecDepth 100000 in
theorem assentbook_Within.calls (a0 : Int) (a1 : Int) (a2 : Int) (r : Int) (w : World) (h : assentbook_Within.f a0 a1 a2 = some r) :
    Calls Try.prog 19 #[.int .i64 a0, .int .i64 a1, .int .i64 a2] w fun e w' => e = .returned (.int .i64 r) ∧ Drawn0 w w' := by
  have H : (if (wrap64 ((wrap64 (a2 - a1)) + 1)) = 0 then (none) else (if (Int.tmod a0 (wrap64 ((wrap64 (a2 - a1)) + 1))) < 0 then (some (wrap64 (a1 + (wrap64 ((wrap64 ((wrap64 ((Int.tmod a0 (wrap64 ((wrap64 (a2 - a1)) + 1))) + a2)) - a1)) + 1))))) else (some (wrap64 (a1 + (Int.tmod a0 (wrap64 ((wrap64 (a2 - a1)) + 1)))))))) = some r := h
  clear h
  by_cases c4 : (wrap64 ((wrap64 (a2 - a1)) + 1)) = 0
  · rw [if_pos c4] at H
    exact absurd H (by simp)
  · rw [if_neg c4] at H
    have c4b0 : ((wrap64 ((wrap64 (a2 - a1)) + 1)) == 0) = false := beq_eq_false_iff_ne.mpr c4
    have c4b1 : ((wrap64 ((wrap64 (a2 - a1)) + 1)) != 0) = true := bne_iff_ne.mpr c4
    by_cases c5 : (Int.tmod a0 (wrap64 ((wrap64 (a2 - a1)) + 1))) < 0
    · rw [if_pos c5] at H
      have c5b0 : decide ((Int.tmod a0 (wrap64 ((wrap64 (a2 - a1)) + 1))) < 0) = true := decide_eq_true c5
      clear c5
      obtain rfl := Option.some.inj H
      go_enter Try.func19, Try.ntmps19
      go_wp2
      go_ret
      exact ⟨by first | rfl | (simp; done) | (simp [*]; done), by repeat (first | exact Drawn0.refl _ | apply Drawn0.step)⟩
    · rw [if_neg c5] at H
      have c5b0 : decide ((Int.tmod a0 (wrap64 ((wrap64 (a2 - a1)) + 1))) < 0) = false := decide_eq_false c5
      clear c5
      obtain rfl := Option.some.inj H
      go_enter Try.func19, Try.ntmps19
      go_wp2
      go_ret
      exact ⟨by first | rfl | (simp; done) | (simp [*]; done), by repeat (first | exact Drawn0.refl _ | apply Drawn0.step)⟩

/-! ### assentlaw5_PlruPath: function 6 -/
def assentlaw5_PlruPath.j0 : Nat → Int → Int → Int → Int → Bool → Option (Bool)
  | 0, _, _, _, _, _ => none
  | k + 1, x9, x10, x11, x12, x48 => if x48 = true then (some false) else ((plru_Touch.f k x12 x9 x11).bind fun t112 => ((plru_Victim.f k t112 x9).bind fun t113 => (if x9 < 4 then (if x9 = 1 then ((assentlaw5_PlruRuns.f k).bind fun t114 => (some t114)) else (if t113 = x11 then (some false) else ((assentlaw5_PlruRuns.f k).bind fun t115 => (some t115)))) else (if t113 = x10 then (if x10 = x11 then (if x9 = 1 then ((assentlaw5_PlruRuns.f k).bind fun t116 => (some t116)) else (if t113 = x11 then (some false) else ((assentlaw5_PlruRuns.f k).bind fun t117 => (some t117)))) else (some false)) else (if t113 = x11 then (if x10 = x11 then (if x9 = 1 then ((assentlaw5_PlruRuns.f k).bind fun t118 => (some t118)) else (some false)) else (some false)) else (if x9 = 1 then ((assentlaw5_PlruRuns.f k).bind fun t119 => (some t119)) else ((assentlaw5_PlruRuns.f k).bind fun t120 => (some t120))))))))
def assentlaw5_PlruPath.f (k : Nat) (a0 : Int) (a1 : Int) (a2 : Int) (a3 : Int) : Option (Bool) := (assentbook_Within.f a1 0 3).bind fun t107 => (if 0 ≤ t107 then ((assentbook_Within.f a2 0 (wrap64 ((shl .i64 1 t107) - 1))).bind fun t108 => ((assentbook_Within.f a3 0 (wrap64 ((shl .i64 1 t107) - 1))).bind fun t109 => ((plru_Touch.f k a0 (shl .i64 1 t107) t108).bind fun t110 => (if 0 ≤ (wrap64 ((shl .i64 1 t107) - 1)) then ((plru_Touch.f k t110 (shl .i64 1 t107) t108).bind fun t111 => (if t111 = t110 then (assentlaw5_PlruPath.j0 k (shl .i64 1 t107) t108 t109 t110 ((Go.bits .and .u8 t110 (shl .u8 255 (wrap64 ((shl .i64 1 t107) - 1)))) != (Go.bits .and .u8 a0 (shl .u8 255 (wrap64 ((shl .i64 1 t107) - 1)))))) else (assentlaw5_PlruPath.j0 k (shl .i64 1 t107) t108 t109 t110 true))) else (none))))) else (none))
theorem assentlaw5_PlruPath.mono_l : ∀ k, (∀ y0 y1 y2 y3 y4, LeO (assentlaw5_PlruPath.j0 k y0 y1 y2 y3 y4) (assentlaw5_PlruPath.j0 (k + 1) y0 y1 y2 y3 y4))
  | 0 => fun _ _ _ _ _ r h => by simp [assentlaw5_PlruPath.j0] at h
  | k + 1 => by
    have ih0 := assentlaw5_PlruPath.mono_l k
    · intro y0 y1 y2 y3 y4
      unfold assentlaw5_PlruPath.j0
      repeat' first
      | (with_reducible exact ih0 _ _ _ _ _)
      | (with_reducible exact assentlaw5_PlruRuns.mono _)
      | (with_reducible exact plru_Touch.mono _ _ _ _)
      | (with_reducible exact plru_Victim.mono _ _ _)
      | (with_reducible exact LeO.refl _)
      | (with_reducible exact LeO.none _)
      | (with_reducible refine LeO.ite ?_ ?_)
      | (with_reducible refine LeO.bind ?_ (fun _ => ?_))
      | exact ih0 _ _ _ _ _
      | exact assentlaw5_PlruRuns.mono _
      | exact plru_Touch.mono _ _ _ _
      | exact plru_Victim.mono _ _ _
      | exact LeO.none _
      | refine LeO.ite ?_ ?_
      | refine LeO.bind ?_ (fun _ => ?_)
theorem assentlaw5_PlruPath.mono : ∀ a0 a1 a2 a3 k, LeO (assentlaw5_PlruPath.f k a0 a1 a2 a3) (assentlaw5_PlruPath.f (k + 1) a0 a1 a2 a3) := by
  intro a0 a1 a2 a3 k
  have ih0 := assentlaw5_PlruPath.mono_l k
  unfold assentlaw5_PlruPath.f
  repeat' first
      | (with_reducible exact ih0 _ _ _ _ _)
      | (with_reducible exact assentlaw5_PlruRuns.mono _)
      | (with_reducible exact plru_Touch.mono _ _ _ _)
      | (with_reducible exact plru_Victim.mono _ _ _)
      | (with_reducible exact LeO.refl _)
      | (with_reducible exact LeO.none _)
      | (with_reducible refine LeO.ite ?_ ?_)
      | (with_reducible refine LeO.bind ?_ (fun _ => ?_))
      | exact ih0 _ _ _ _ _
      | exact assentlaw5_PlruRuns.mono _
      | exact plru_Touch.mono _ _ _ _
      | exact plru_Victim.mono _ _ _
      | exact LeO.none _
      | refine LeO.ite ?_ ?_
      | refine LeO.bind ?_ (fun _ => ?_)
set_option maxHeartbeats 8000000 in
set_option maxRecDepth 100000 in
theorem assentlaw5_PlruPath.calls (k : Nat) (a0 : Int) (a1 : Int) (a2 : Int) (a3 : Int) (r : Bool) (w : World) (h : assentlaw5_PlruPath.f k a0 a1 a2 a3 = some r) :
    Calls Try.prog 6 #[.int .u8 a0, .int .i64 a1, .int .i64 a2, .int .i64 a3] w fun e w' => e = .returned (.bool r) ∧ Drawn0 w w' := by
  have H : ((assentbook_Within.f a1 0 3).bind fun t107 => (if 0 ≤ t107 then ((assentbook_Within.f a2 0 (wrap64 ((shl .i64 1 t107) - 1))).bind fun t108 => ((assentbook_Within.f a3 0 (wrap64 ((shl .i64 1 t107) - 1))).bind fun t109 => ((plru_Touch.f k a0 (shl .i64 1 t107) t108).bind fun t110 => (if 0 ≤ (wrap64 ((shl .i64 1 t107) - 1)) then ((plru_Touch.f k t110 (shl .i64 1 t107) t108).bind fun t111 => (if t111 = t110 then (assentlaw5_PlruPath.j0 k (shl .i64 1 t107) t108 t109 t110 ((Go.bits .and .u8 t110 (shl .u8 255 (wrap64 ((shl .i64 1 t107) - 1)))) != (Go.bits .and .u8 a0 (shl .u8 255 (wrap64 ((shl .i64 1 t107) - 1)))))) else (assentlaw5_PlruPath.j0 k (shl .i64 1 t107) t108 t109 t110 true))) else (none))))) else (none))) = some r := h
  clear h
  replace H := Option.bind_eq_some_iff.mp H
  obtain ⟨t107, A50, H⟩ := H
  replace H : (if 0 ≤ t107 then ((assentbook_Within.f a2 0 (wrap64 ((shl .i64 1 t107) - 1))).bind fun t108 => ((assentbook_Within.f a3 0 (wrap64 ((shl .i64 1 t107) - 1))).bind fun t109 => ((plru_Touch.f k a0 (shl .i64 1 t107) t108).bind fun t110 => (if 0 ≤ (wrap64 ((shl .i64 1 t107) - 1)) then ((plru_Touch.f k t110 (shl .i64 1 t107) t108).bind fun t111 => (if t111 = t110 then (assentlaw5_PlruPath.j0 k (shl .i64 1 t107) t108 t109 t110 ((Go.bits .and .u8 t110 (shl .u8 255 (wrap64 ((shl .i64 1 t107) - 1)))) != (Go.bits .and .u8 a0 (shl .u8 255 (wrap64 ((shl .i64 1 t107) - 1)))))) else (assentlaw5_PlruPath.j0 k (shl .i64 1 t107) t108 t109 t110 true))) else (none))))) else (none)) = some r := H
  have A5 := Aside0.mk A50
  clear A50
  by_cases c6 : 0 ≤ t107
  · rw [if_pos c6] at H
    have c6b0 := eq_true c6
    have c6b1 : decide (0 ≤ t107) = true := decide_eq_true c6
    clear c6
    obtain ⟨ji7, hji7⟩ : ∃ j_ : Int, (shl .i64 1 t107) = j_ := ⟨_, rfl⟩
    replace H : ((assentbook_Within.f a2 0 (wrap64 ((ji7) - 1))).bind fun t108 => ((assentbook_Within.f a3 0 (wrap64 ((ji7) - 1))).bind fun t109 => ((plru_Touch.f k a0 (ji7) t108).bind fun t110 => (if 0 ≤ (wrap64 ((ji7) - 1)) then ((plru_Touch.f k t110 (ji7) t108).bind fun t111 => (if t111 = t110 then (assentlaw5_PlruPath.j0 k ji7 t108 t109 t110 ((Go.bits .and .u8 t110 (shl .u8 255 (wrap64 ((ji7) - 1)))) != (Go.bits .and .u8 a0 (shl .u8 255 (wrap64 ((ji7) - 1)))))) else (assentlaw5_PlruPath.j0 k ji7 t108 t109 t110 true))) else (none))))) = some r := by first | (rw [hji7] at H; exact H) | (simp only [hji7] at H ⊢; exact H)
    (try rw [hji7] at A5)
    have hji7_ : (IntKind.i64.wrap (1 * 2 ^ min t107.toNat 64)) = ji7 := hji7
    have hji7z : t107 ≤ 64 → (IntKind.i64.wrap (1 * 2 ^ t107.toNat)) = ji7 := shl_small hji7
    have hji7u : (IntKind.i64.wrap (2 ^ min t107.toNat 64)) = ji7 := by have h_ := hji7_; rw [Int.one_mul] at h_; exact h_
    have hji7v : t107 ≤ 64 → (IntKind.i64.wrap (2 ^ t107.toNat)) = ji7 := fun hle_ => by have h_ := hji7z hle_; rw [Int.one_mul] at h_; exact h_
    have hji7y : (wrap64 (1 * 2 ^ min t107.toNat 64)) = ji7 := (i64_w _).symm.trans hji7_
    have hji7x : t107 ≤ 64 → (wrap64 (1 * 2 ^ t107.toNat)) = ji7 := fun h_ => (i64_w _).symm.trans (hji7z h_)
    replace H := Option.bind_eq_some_iff.mp H
    obtain ⟨t108, A80, H⟩ := H
    replace H : ((assentbook_Within.f a3 0 (wrap64 ((ji7) - 1))).bind fun t109 => ((plru_Touch.f k a0 (ji7) t108).bind fun t110 => (if 0 ≤ (wrap64 ((ji7) - 1)) then ((plru_Touch.f k t110 (ji7) t108).bind fun t111 => (if t111 = t110 then (assentlaw5_PlruPath.j0 k ji7 t108 t109 t110 ((Go.bits .and .u8 t110 (shl .u8 255 (wrap64 ((ji7) - 1)))) != (Go.bits .and .u8 a0 (shl .u8 255 (wrap64 ((ji7) - 1)))))) else (assentlaw5_PlruPath.j0 k ji7 t108 t109 t110 true))) else (none)))) = some r := H
    have A8 := Aside0.mk A80
    clear A80
    replace H := Option.bind_eq_some_iff.mp H
    obtain ⟨t109, A90, H⟩ := H
    replace H : ((plru_Touch.f k a0 (ji7) t108).bind fun t110 => (if 0 ≤ (wrap64 ((ji7) - 1)) then ((plru_Touch.f k t110 (ji7) t108).bind fun t111 => (if t111 = t110 then (assentlaw5_PlruPath.j0 k ji7 t108 t109 t110 ((Go.bits .and .u8 t110 (shl .u8 255 (wrap64 ((ji7) - 1)))) != (Go.bits .and .u8 a0 (shl .u8 255 (wrap64 ((ji7) - 1)))))) else (assentlaw5_PlruPath.j0 k ji7 t108 t109 t110 true))) else (none))) = some r := H
    have A9 := Aside0.mk A90
    clear A90
    replace H := Option.bind_eq_some_iff.mp H
    obtain ⟨t110, A100, H⟩ := H
    replace H : (if 0 ≤ (wrap64 ((ji7) - 1)) then ((plru_Touch.f k t110 (ji7) t108).bind fun t111 => (if t111 = t110 then (assentlaw5_PlruPath.j0 k ji7 t108 t109 t110 ((Go.bits .and .u8 t110 (shl .u8 255 (wrap64 ((ji7) - 1)))) != (Go.bits .and .u8 a0 (shl .u8 255 (wrap64 ((ji7) - 1)))))) else (assentlaw5_PlruPath.j0 k ji7 t108 t109 t110 true))) else (none)) = some r := H
    have A10 := Aside0.mk A100
    clear A100
    obtain ⟨ji11, hji11⟩ : ∃ j_ : Int, (wrap64 ((ji7) - 1)) = j_ := ⟨_, rfl⟩
    replace H : (if 0 ≤ (ji11) then ((plru_Touch.f k t110 (ji7) t108).bind fun t111 => (if t111 = t110 then (assentlaw5_PlruPath.j0 k ji7 t108 t109 t110 ((Go.bits .and .u8 t110 (shl .u8 255 (ji11))) != (Go.bits .and .u8 a0 (shl .u8 255 (ji11))))) else (assentlaw5_PlruPath.j0 k ji7 t108 t109 t110 true))) else (none)) = some r := by first | (rw [hji11] at H; exact H) | (simp only [hji11] at H ⊢; exact H)
    (try rw [hji11] at A5)
    (try rw [hji11] at A8)
    (try rw [hji11] at A9)
    (try rw [hji11] at A10)
    have hji11w : (IntKind.i64.wrap ((ji7) - 1)) = ji11 := (i64_w _).trans hji11
    by_cases c12 : 0 ≤ (ji11)
    · rw [if_pos c12] at H
      have c12b0 := eq_true c12
      have c12b1 : decide (0 ≤ (ji11)) = true := decide_eq_true c12
      clear c12
      obtain ⟨ji13, hji13⟩ : ∃ j_ : Int, (shl .u8 255 (ji11)) = j_ := ⟨_, rfl⟩
      replace H : ((plru_Touch.f k t110 (ji7) t108).bind fun t111 => (if t111 = t110 then (assentlaw5_PlruPath.j0 k ji7 t108 t109 t110 ((Go.bits .and .u8 t110 (ji13)) != (Go.bits .and .u8 a0 (ji13)))) else (assentlaw5_PlruPath.j0 k ji7 t108 t109 t110 true))) = some r := by first | (rw [hji13] at H; exact H) | (simp only [hji13] at H ⊢; exact H)
      (try rw [hji13] at A5)
      (try rw [hji13] at A8)
      (try rw [hji13] at A9)
      (try rw [hji13] at A10)
      have hji13_ : (IntKind.u8.wrap (255 * 2 ^ min (ji11).toNat 8)) = ji13 := hji13
      have hji13z : (ji11) ≤ 8 → (IntKind.u8.wrap (255 * 2 ^ (ji11).toNat)) = ji13 := shl_small hji13
      have HC14 := Aside0.mk H
      clear H
      go_enter Try.func6, Try.ntmps6
      go_upto_region 5 with (first | ((with_reducible refine gate_callee (f := 19) rfl ?_); refine goesL_ (some 17) rfl rfl Try.func19 (by kernel_rfl) rfl #[.int .i64 a1, .int .i64 0, .int .i64 3] rfl (by (try simp only [List.map_toArray, List.map_cons, List.map_nil]); first | done | rfl | (simp only [List.length_drop, List.length_take]; rfl)) ?_; (with_reducible refine (assentbook_Within.calls a1 0 3 t107 _ A5.out).mono ?_); rintro e w' ⟨rfl, ⟨nd, rfl⟩⟩; refine ⟨_, rfl, ?_⟩) | ((with_reducible refine gate_callee (f := 19) rfl ?_); refine goesL_ (some 22) rfl rfl Try.func19 (by kernel_rfl) rfl #[.int .i64 a2, .int .i64 0, .int .i64 ji11] rfl (by (try simp only [List.map_toArray, List.map_cons, List.map_nil]); first | done | (simp only [hji11]; rfl) | rfl | (simp only [List.length_drop, List.length_take]; rfl)) ?_; (with_reducible refine (assentbook_Within.calls a2 0 ji11 t108 _ A8.out).mono ?_); rintro e w' ⟨rfl, ⟨nd, rfl⟩⟩; refine ⟨_, rfl, ?_⟩) | ((with_reducible refine gate_callee (f := 19) rfl ?_); refine goesL_ (some 26) rfl rfl Try.func19 (by kernel_rfl) rfl #[.int .i64 a3, .int .i64 0, .int .i64 ji11] rfl (by (try simp only [List.map_toArray, List.map_cons, List.map_nil]); first | done | (simp only [hji11]; rfl) | rfl | (simp only [List.length_drop, List.length_take]; rfl)) ?_; (with_reducible refine (assentbook_Within.calls a3 0 ji11 t109 _ A9.out).mono ?_); rintro e w' ⟨rfl, ⟨nd, rfl⟩⟩; refine ⟨_, rfl, ?_⟩) | ((with_reducible refine gate_callee (f := 15) rfl ?_); refine goesL_ (some 30) rfl rfl Try.func15 (by kernel_rfl) rfl #[.int .u8 a0, .int .i64 ji7, .int .i64 t108] rfl (by (try simp only [List.map_toArray, List.map_cons, List.map_nil]); first | done | (simp only [hji7]; rfl) | rfl | (simp only [List.length_drop, List.length_take]; rfl)) ?_; (with_reducible refine (plru_Touch.calls k a0 ji7 t108 t110 _ A10.out).mono ?_); rintro e w' ⟨rfl, ⟨nd, rfl⟩⟩; refine ⟨_, rfl, ?_⟩))
      (try simp only [Act.put, List.setIfInBounds_toArray, List.set_cons_zero, List.set_cons_succ])
      go_cut [48] (fun v48 wc => ∃ (kq : Nat) (x48_13 : Bool), v48 = .bool x48_13 ∧ Aside0 (assentlaw5_PlruPath.j0 kq ji7 t108 t109 t110 x48_13 = some r) ∧ Aside0 (kq ≤ k) ∧ Drawn0 w wc)
      case first =>
        have H := HC14.out
        clear HC14
        replace H := Option.bind_eq_some_iff.mp H
        obtain ⟨t111, A150, H⟩ := H
        replace H : (if t111 = t110 then (assentlaw5_PlruPath.j0 k ji7 t108 t109 t110 ((Go.bits .and .u8 t110 (ji13)) != (Go.bits .and .u8 a0 (ji13)))) else (assentlaw5_PlruPath.j0 k ji7 t108 t109 t110 true)) = some r := H
        have A15 := Aside0.mk A150
        clear A150
        by_cases c16 : t111 = t110
        · rw [if_pos c16] at H
          have c16b0 : (t111 == t110) = true := beq_iff_eq.mpr c16
          have c16b1 : (t111 != t110) = false := bne_eq_false_iff_eq.mpr c16
          clear c16
          (first | rw [c16b0] | (simp only [i64_w, i32_w]; rw [c16b0]) | skip)
          have H' := Aside0.mk H
          clear H
          go_wp2_with (first | ((with_reducible refine gate_callee (f := 15) rfl ?_); refine goesL_ (some 37) rfl rfl Try.func15 (by kernel_rfl) rfl #[.int .u8 t110, .int .i64 ji7, .int .i64 t108] rfl (by (try simp only [List.map_toArray, List.map_cons, List.map_nil]); first | done | (simp only [hji7]; rfl) | rfl | (simp only [List.length_drop, List.length_take]; rfl)) ?_; (with_reducible refine (plru_Touch.calls k t110 ji7 t108 t111 _ A15.out).mono ?_); rintro e w' ⟨rfl, ⟨nd, rfl⟩⟩; refine ⟨_, rfl, ?_⟩))
          go_meet
          case rel => exact ⟨_, (((Go.bits .and .u8 t110 (ji13)) != (Go.bits .and .u8 a0 (ji13)))), (by first | rfl | (simp; done) | (simp only [← hji13] <;> (first | rfl | simp)) | (simp [*]; done)), H', ⟨by first | omega | exact Nat.le_refl _⟩, by repeat (first | exact Drawn0.refl _ | apply Drawn0.step)⟩
        · rw [if_neg c16] at H
          have c16b0 : (t111 == t110) = false := beq_eq_false_iff_ne.mpr c16
          have c16b1 : (t111 != t110) = true := bne_iff_ne.mpr c16
          (first | rw [c16b0] | (simp only [i64_w, i32_w]; rw [c16b0]) | skip)
          have H' := Aside0.mk H
          clear H
          go_wp2_with (first | ((with_reducible refine gate_callee (f := 15) rfl ?_); refine goesL_ (some 37) rfl rfl Try.func15 (by kernel_rfl) rfl #[.int .u8 t110, .int .i64 ji7, .int .i64 t108] rfl (by (try simp only [List.map_toArray, List.map_cons, List.map_nil]); first | done | (simp only [hji7]; rfl) | rfl | (simp only [List.length_drop, List.length_take]; rfl)) ?_; (with_reducible refine (plru_Touch.calls k t110 ji7 t108 t111 _ A15.out).mono ?_); rintro e w' ⟨rfl, ⟨nd, rfl⟩⟩; refine ⟨_, rfl, ?_⟩))
          go_meet
          case rel => exact ⟨_, (true), (by first | rfl | (simp; done) | (simp [*]; done)), H', ⟨by first | omega | exact Nat.le_refl _⟩, by repeat (first | exact Drawn0.refl _ | apply Drawn0.step)⟩
      case rest =>
        clear HC14
        try clear c1
        try clear p2
        try clear c6
        try clear c6b0
        try clear c6b1
        try clear p6
        try clear c12
        try clear c12b0
        try clear c12b1
        try clear c15
        try clear c16
        try clear c16b0
        try clear c16b1
        obtain ⟨kq, x48_13, rfl, HA, HJ13, ⟨mc13, rfl⟩⟩ := hcut
        cases kq with
        | zero => exact absurd HA.out (by simp [assentlaw5_PlruPath.j0])
        | succ kj13 =>
          have H := HA.out
          clear HA
          simp only [assentlaw5_PlruPath.j0] at H
          by_cases c17 : x48_13 = true
          · subst c17
            have H1 : (some false) = some r := by rw [if_pos rfl] at H; exact H
            clear H
            have H := H1
            clear H1
            obtain rfl := Option.some.inj H
            go_wp2
            go_ret
            exact ⟨by first | rfl | (simp; done) | (simp only [← hji7, ← hji11, ← hji13] <;> (first | rfl | simp)) | (simp [*]; done), by repeat (first | exact Drawn0.refl _ | apply Drawn0.step)⟩
          · replace c17 := Bool.eq_false_iff.mpr c17
            subst c17
            have H1 : ((plru_Touch.f kj13 t110 ji7 t109).bind fun t112 => ((plru_Victim.f kj13 t112 ji7).bind fun t113 => (if ji7 < 4 then (if ji7 = 1 then ((assentlaw5_PlruRuns.f kj13).bind fun t114 => (some t114)) else (if t113 = t109 then (some false) else ((assentlaw5_PlruRuns.f kj13).bind fun t115 => (some t115)))) else (if t113 = t108 then (if t108 = t109 then (if ji7 = 1 then ((assentlaw5_PlruRuns.f kj13).bind fun t116 => (some t116)) else (if t113 = t109 then (some false) else ((assentlaw5_PlruRuns.f kj13).bind fun t117 => (some t117)))) else (some false)) else (if t113 = t109 then (if t108 = t109 then (if ji7 = 1 then ((assentlaw5_PlruRuns.f kj13).bind fun t118 => (some t118)) else (some false)) else (some false)) else (if ji7 = 1 then ((assentlaw5_PlruRuns.f kj13).bind fun t119 => (some t119)) else ((assentlaw5_PlruRuns.f kj13).bind fun t120 => (some t120)))))))) = some r := by rw [if_neg (show ¬ (false = true) by decide)] at H; exact H
            clear H
            have H := H1
            clear H1
            replace H := Option.bind_eq_some_iff.mp H
            obtain ⟨t112, A180, H⟩ := H
            replace H : ((plru_Victim.f kj13 t112 ji7).bind fun t113 => (if ji7 < 4 then (if ji7 = 1 then ((assentlaw5_PlruRuns.f kj13).bind fun t114 => (some t114)) else (if t113 = t109 then (some false) else ((assentlaw5_PlruRuns.f kj13).bind fun t115 => (some t115)))) else (if t113 = t108 then (if t108 = t109 then (if ji7 = 1 then ((assentlaw5_PlruRuns.f kj13).bind fun t116 => (some t116)) else (if t113 = t109 then (some false) else ((assentlaw5_PlruRuns.f kj13).bind fun t117 => (some t117)))) else (some false)) else (if t113 = t109 then (if t108 = t109 then (if ji7 = 1 then ((assentlaw5_PlruRuns.f kj13).bind fun t118 => (some t118)) else (some false)) else (some false)) else (if ji7 = 1 then ((assentlaw5_PlruRuns.f kj13).bind fun t119 => (some t119)) else ((assentlaw5_PlruRuns.f kj13).bind fun t120 => (some t120))))))) = some r := H
            have A18 := Aside0.mk A180
            clear A180
            replace H := Option.bind_eq_some_iff.mp H
            obtain ⟨t113, A190, H⟩ := H
            replace H : (if ji7 < 4 then (if ji7 = 1 then ((assentlaw5_PlruRuns.f kj13).bind fun t114 => (some t114)) else (if t113 = t109 then (some false) else ((assentlaw5_PlruRuns.f kj13).bind fun t115 => (some t115)))) else (if t113 = t108 then (if t108 = t109 then (if ji7 = 1 then ((assentlaw5_PlruRuns.f kj13).bind fun t116 => (some t116)) else (if t113 = t109 then (some false) else ((assentlaw5_PlruRuns.f kj13).bind fun t117 => (some t117)))) else (some false)) else (if t113 = t109 then (if t108 = t109 then (if ji7 = 1 then ((assentlaw5_PlruRuns.f kj13).bind fun t118 => (some t118)) else (some false)) else (some false)) else (if ji7 = 1 then ((assentlaw5_PlruRuns.f kj13).bind fun t119 => (some t119)) else ((assentlaw5_PlruRuns.f kj13).bind fun t120 => (some t120)))))) = some r := H
            have A19 := Aside0.mk A190
            clear A190
            by_cases c20 : ji7 < 4
            · rw [if_pos c20] at H
              have c20b0 : decide (ji7 < 4) = true := decide_eq_true c20
              clear c20
              by_cases c21 : ji7 = 1
              · rw [if_pos c21] at H
                have c21b0 : (ji7 == 1) = true := beq_iff_eq.mpr c21
                have c21b1 : (ji7 != 1) = false := bne_eq_false_iff_eq.mpr c21
                clear c21
                replace H := Option.bind_eq_some_iff.mp H
                obtain ⟨t114, A220, H⟩ := H
                replace H : (some t114) = some r := H
                have A22 := Aside0.mk A220
                clear A220
                obtain rfl := Option.some.inj H
                go_wp2_with (first | ((with_reducible refine gate_callee (f := 15) rfl ?_); refine goesL_ (some 52) rfl rfl Try.func15 (by kernel_rfl) rfl #[.int .u8 t110, .int .i64 ji7, .int .i64 t109] rfl (by (try simp only [List.map_toArray, List.map_cons, List.map_nil]); first | done | (simp only [hji7]; rfl) | rfl | (simp only [List.length_drop, List.length_take]; rfl)) ?_; (with_reducible refine (plru_Touch.calls kj13 t110 ji7 t109 t112 _ A18.out).mono ?_); rintro e w' ⟨rfl, ⟨nd, rfl⟩⟩; refine ⟨_, rfl, ?_⟩) | ((with_reducible refine gate_callee (f := 16) rfl ?_); refine goesL_ (some 55) rfl rfl Try.func16 (by kernel_rfl) rfl #[.int .u8 t112, .int .i64 ji7] rfl (by (try simp only [List.map_toArray, List.map_cons, List.map_nil]); first | done | (simp only [hji7]; rfl) | rfl | (simp only [List.length_drop, List.length_take]; rfl)) ?_; (with_reducible refine (plru_Victim.calls kj13 t112 ji7 t113 _ A19.out).mono ?_); rintro e w' ⟨rfl, ⟨nd, rfl⟩⟩; refine ⟨_, rfl, ?_⟩) | (go_at_call 3; (with_reducible refine (assentlaw5_PlruRuns.calls kj13  t114 _ A22.out).mono ?_); rintro e w' ⟨rfl, ⟨nd, rfl⟩⟩))
                go_ret
                exact ⟨by first | rfl | (simp; done) | (simp only [← hji7, ← hji11, ← hji13] <;> (first | rfl | simp)) | (simp [*]; done), by repeat (first | exact Drawn0.refl _ | apply Drawn0.step)⟩
              · rw [if_neg c21] at H
                have c21b0 : (ji7 == 1) = false := beq_eq_false_iff_ne.mpr c21
                have c21b1 : (ji7 != 1) = true := bne_iff_ne.mpr c21
                by_cases c23 : t113 = t109
                · rw [if_pos c23] at H
                  have c23b0 : (t113 == t109) = true := beq_iff_eq.mpr c23
                  have c23b1 : (t113 != t109) = false := bne_eq_false_iff_eq.mpr c23
                  clear c23
                  obtain rfl := Option.some.inj H
                  go_wp2_with (first | ((with_reducible refine gate_callee (f := 15) rfl ?_); refine goesL_ (some 52) rfl rfl Try.func15 (by kernel_rfl) rfl #[.int .u8 t110, .int .i64 ji7, .int .i64 t109] rfl (by (try simp only [List.map_toArray, List.map_cons, List.map_nil]); first | done | (simp only [hji7]; rfl) | rfl | (simp only [List.length_drop, List.length_take]; rfl)) ?_; (with_reducible refine (plru_Touch.calls kj13 t110 ji7 t109 t112 _ A18.out).mono ?_); rintro e w' ⟨rfl, ⟨nd, rfl⟩⟩; refine ⟨_, rfl, ?_⟩) | ((with_reducible refine gate_callee (f := 16) rfl ?_); refine goesL_ (some 55) rfl rfl Try.func16 (by kernel_rfl) rfl #[.int .u8 t112, .int .i64 ji7] rfl (by (try simp only [List.map_toArray, List.map_cons, List.map_nil]); first | done | (simp only [hji7]; rfl) | rfl | (simp only [List.length_drop, List.length_take]; rfl)) ?_; (with_reducible refine (plru_Victim.calls kj13 t112 ji7 t113 _ A19.out).mono ?_); rintro e w' ⟨rfl, ⟨nd, rfl⟩⟩; refine ⟨_, rfl, ?_⟩))
                  go_ret
                  exact ⟨by first | rfl | (simp; done) | (simp only [← hji7, ← hji11, ← hji13] <;> (first | rfl | simp)) | (simp [*]; done), by repeat (first | exact Drawn0.refl _ | apply Drawn0.step)⟩
                · rw [if_neg c23] at H
                  have c23b0 : (t113 == t109) = false := beq_eq_false_iff_ne.mpr c23
                  have c23b1 : (t113 != t109) = true := bne_iff_ne.mpr c23
                  replace H := Option.bind_eq_some_iff.mp H
                  obtain ⟨t115, A240, H⟩ := H
                  replace H : (some t115) = some r := H
                  have A24 := Aside0.mk A240
                  clear A240
                  obtain rfl := Option.some.inj H
                  go_wp2_with (first | ((with_reducible refine gate_callee (f := 15) rfl ?_); refine goesL_ (some 52) rfl rfl Try.func15 (by kernel_rfl) rfl #[.int .u8 t110, .int .i64 ji7, .int .i64 t109] rfl (by (try simp only [List.map_toArray, List.map_cons, List.map_nil]); first | done | (simp only [hji7]; rfl) | rfl | (simp only [List.length_drop, List.length_take]; rfl)) ?_; (with_reducible refine (plru_Touch.calls kj13 t110 ji7 t109 t112 _ A18.out).mono ?_); rintro e w' ⟨rfl, ⟨nd, rfl⟩⟩; refine ⟨_, rfl, ?_⟩) | ((with_reducible refine gate_callee (f := 16) rfl ?_); refine goesL_ (some 55) rfl rfl Try.func16 (by kernel_rfl) rfl #[.int .u8 t112, .int .i64 ji7] rfl (by (try simp only [List.map_toArray, List.map_cons, List.map_nil]); first | done | (simp only [hji7]; rfl) | rfl | (simp only [List.length_drop, List.length_take]; rfl)) ?_; (with_reducible refine (plru_Victim.calls kj13 t112 ji7 t113 _ A19.out).mono ?_); rintro e w' ⟨rfl, ⟨nd, rfl⟩⟩; refine ⟨_, rfl, ?_⟩) | (go_at_call 3; (with_reducible refine (assentlaw5_PlruRuns.calls kj13  t115 _ A24.out).mono ?_); rintro e w' ⟨rfl, ⟨nd, rfl⟩⟩))
                  go_ret
                  exact ⟨by first | rfl | (simp; done) | (simp only [← hji7, ← hji11, ← hji13] <;> (first | rfl | simp)) | (simp [*]; done), by repeat (first | exact Drawn0.refl _ | apply Drawn0.step)⟩
            · rw [if_neg c20] at H
              have c20b0 : decide (ji7 < 4) = false := decide_eq_false c20
              clear c20
              by_cases c25 : t113 = t108
              · rw [if_pos c25] at H
                have c25b0 : (t113 == t108) = true := beq_iff_eq.mpr c25
                have c25b1 : (t113 != t108) = false := bne_eq_false_iff_eq.mpr c25
                clear c25
                by_cases c26 : t108 = t109
                · rw [if_pos c26] at H
                  have c26b0 : (t108 == t109) = true := beq_iff_eq.mpr c26
                  have c26b1 : (t108 != t109) = false := bne_eq_false_iff_eq.mpr c26
                  clear c26
                  by_cases c27 : ji7 = 1
                  · rw [if_pos c27] at H
                    have c27b0 : (ji7 == 1) = true := beq_iff_eq.mpr c27
                    have c27b1 : (ji7 != 1) = false := bne_eq_false_iff_eq.mpr c27
                    clear c27
                    replace H := Option.bind_eq_some_iff.mp H
                    obtain ⟨t116, A280, H⟩ := H
                    replace H : (some t116) = some r := H
                    have A28 := Aside0.mk A280
                    clear A280
                    obtain rfl := Option.some.inj H
                    go_wp2_with (first | ((with_reducible refine gate_callee (f := 15) rfl ?_); refine goesL_ (some 52) rfl rfl Try.func15 (by kernel_rfl) rfl #[.int .u8 t110, .int .i64 ji7, .int .i64 t109] rfl (by (try simp only [List.map_toArray, List.map_cons, List.map_nil]); first | done | (simp only [hji7]; rfl) | rfl | (simp only [List.length_drop, List.length_take]; rfl)) ?_; (with_reducible refine (plru_Touch.calls kj13 t110 ji7 t109 t112 _ A18.out).mono ?_); rintro e w' ⟨rfl, ⟨nd, rfl⟩⟩; refine ⟨_, rfl, ?_⟩) | ((with_reducible refine gate_callee (f := 16) rfl ?_); refine goesL_ (some 55) rfl rfl Try.func16 (by kernel_rfl) rfl #[.int .u8 t112, .int .i64 ji7] rfl (by (try simp only [List.map_toArray, List.map_cons, List.map_nil]); first | done | (simp only [hji7]; rfl) | rfl | (simp only [List.length_drop, List.length_take]; rfl)) ?_; (with_reducible refine (plru_Victim.calls kj13 t112 ji7 t113 _ A19.out).mono ?_); rintro e w' ⟨rfl, ⟨nd, rfl⟩⟩; refine ⟨_, rfl, ?_⟩) | (go_at_call 3; (with_reducible refine (assentlaw5_PlruRuns.calls kj13  t116 _ A28.out).mono ?_); rintro e w' ⟨rfl, ⟨nd, rfl⟩⟩))
                    go_ret
                    exact ⟨by first | rfl | (simp; done) | (simp only [← hji7, ← hji11, ← hji13] <;> (first | rfl | simp)) | (simp [*]; done), by repeat (first | exact Drawn0.refl _ | apply Drawn0.step)⟩
                  · rw [if_neg c27] at H
                    have c27b0 : (ji7 == 1) = false := beq_eq_false_iff_ne.mpr c27
                    have c27b1 : (ji7 != 1) = true := bne_iff_ne.mpr c27
                    by_cases c29 : t113 = t109
                    · rw [if_pos c29] at H
                      have c29b0 : (t113 == t109) = true := beq_iff_eq.mpr c29
                      have c29b1 : (t113 != t109) = false := bne_eq_false_iff_eq.mpr c29
                      clear c29
                      obtain rfl := Option.some.inj H
                      go_wp2_with (first | ((with_reducible refine gate_callee (f := 15) rfl ?_); refine goesL_ (some 52) rfl rfl Try.func15 (by kernel_rfl) rfl #[.int .u8 t110, .int .i64 ji7, .int .i64 t109] rfl (by (try simp only [List.map_toArray, List.map_cons, List.map_nil]); first | done | (simp only [hji7]; rfl) | rfl | (simp only [List.length_drop, List.length_take]; rfl)) ?_; (with_reducible refine (plru_Touch.calls kj13 t110 ji7 t109 t112 _ A18.out).mono ?_); rintro e w' ⟨rfl, ⟨nd, rfl⟩⟩; refine ⟨_, rfl, ?_⟩) | ((with_reducible refine gate_callee (f := 16) rfl ?_); refine goesL_ (some 55) rfl rfl Try.func16 (by kernel_rfl) rfl #[.int .u8 t112, .int .i64 ji7] rfl (by (try simp only [List.map_toArray, List.map_cons, List.map_nil]); first | done | (simp only [hji7]; rfl) | rfl | (simp only [List.length_drop, List.length_take]; rfl)) ?_; (with_reducible refine (plru_Victim.calls kj13 t112 ji7 t113 _ A19.out).mono ?_); rintro e w' ⟨rfl, ⟨nd, rfl⟩⟩; refine ⟨_, rfl, ?_⟩))
                      go_ret
                      exact ⟨by first | rfl | (simp; done) | (simp only [← hji7, ← hji11, ← hji13] <;> (first | rfl | simp)) | (simp [*]; done), by repeat (first | exact Drawn0.refl _ | apply Drawn0.step)⟩
                    · rw [if_neg c29] at H
                      have c29b0 : (t113 == t109) = false := beq_eq_false_iff_ne.mpr c29
                      have c29b1 : (t113 != t109) = true := bne_iff_ne.mpr c29
                      replace H := Option.bind_eq_some_iff.mp H
                      obtain ⟨t117, A300, H⟩ := H
                      replace H : (some t117) = some r := H
                      have A30 := Aside0.mk A300
                      clear A300
                      obtain rfl := Option.some.inj H
                      go_wp2_with (first | ((with_reducible refine gate_callee (f := 15) rfl ?_); refine goesL_ (some 52) rfl rfl Try.func15 (by kernel_rfl) rfl #[.int .u8 t110, .int .i64 ji7, .int .i64 t109] rfl (by (try simp only [List.map_toArray, List.map_cons, List.map_nil]); first | done | (simp only [hji7]; rfl) | rfl | (simp only [List.length_drop, List.length_take]; rfl)) ?_; (with_reducible refine (plru_Touch.calls kj13 t110 ji7 t109 t112 _ A18.out).mono ?_); rintro e w' ⟨rfl, ⟨nd, rfl⟩⟩; refine ⟨_, rfl, ?_⟩) | ((with_reducible refine gate_callee (f := 16) rfl ?_); refine goesL_ (some 55) rfl rfl Try.func16 (by kernel_rfl) rfl #[.int .u8 t112, .int .i64 ji7] rfl (by (try simp only [List.map_toArray, List.map_cons, List.map_nil]); first | done | (simp only [hji7]; rfl) | rfl | (simp only [List.length_drop, List.length_take]; rfl)) ?_; (with_reducible refine (plru_Victim.calls kj13 t112 ji7 t113 _ A19.out).mono ?_); rintro e w' ⟨rfl, ⟨nd, rfl⟩⟩; refine ⟨_, rfl, ?_⟩) | (go_at_call 3; (with_reducible refine (assentlaw5_PlruRuns.calls kj13  t117 _ A30.out).mono ?_); rintro e w' ⟨rfl, ⟨nd, rfl⟩⟩))
                      go_ret
                      exact ⟨by first | rfl | (simp; done) | (simp only [← hji7, ← hji11, ← hji13] <;> (first | rfl | simp)) | (simp [*]; done), by repeat (first | exact Drawn0.refl _ | apply Drawn0.step)⟩
                · rw [if_neg c26] at H
                  have c26b0 : (t108 == t109) = false := beq_eq_false_iff_ne.mpr c26
                  have c26b1 : (t108 != t109) = true := bne_iff_ne.mpr c26
                  obtain rfl := Option.some.inj H
                  go_wp2_with (first | ((with_reducible refine gate_callee (f := 15) rfl ?_); refine goesL_ (some 52) rfl rfl Try.func15 (by kernel_rfl) rfl #[.int .u8 t110, .int .i64 ji7, .int .i64 t109] rfl (by (try simp only [List.map_toArray, List.map_cons, List.map_nil]); first | done | (simp only [hji7]; rfl) | rfl | (simp only [List.length_drop, List.length_take]; rfl)) ?_; (with_reducible refine (plru_Touch.calls kj13 t110 ji7 t109 t112 _ A18.out).mono ?_); rintro e w' ⟨rfl, ⟨nd, rfl⟩⟩; refine ⟨_, rfl, ?_⟩) | ((with_reducible refine gate_callee (f := 16) rfl ?_); refine goesL_ (some 55) rfl rfl Try.func16 (by kernel_rfl) rfl #[.int .u8 t112, .int .i64 ji7] rfl (by (try simp only [List.map_toArray, List.map_cons, List.map_nil]); first | done | (simp only [hji7]; rfl) | rfl | (simp only [List.length_drop, List.length_take]; rfl)) ?_; (with_reducible refine (plru_Victim.calls kj13 t112 ji7 t113 _ A19.out).mono ?_); rintro e w' ⟨rfl, ⟨nd, rfl⟩⟩; refine ⟨_, rfl, ?_⟩))
                  go_ret
                  exact ⟨by first | rfl | (simp; done) | (simp only [← hji7, ← hji11, ← hji13] <;> (first | rfl | simp)) | (simp [*]; done), by repeat (first | exact Drawn0.refl _ | apply Drawn0.step)⟩
              · rw [if_neg c25] at H
                have c25b0 : (t113 == t108) = false := beq_eq_false_iff_ne.mpr c25
                have c25b1 : (t113 != t108) = true := bne_iff_ne.mpr c25
                by_cases c31 : t113 = t109
                · rw [if_pos c31] at H
                  have c31b0 : (t113 == t109) = true := beq_iff_eq.mpr c31
                  have c31b1 : (t113 != t109) = false := bne_eq_false_iff_eq.mpr c31
                  clear c31
                  by_cases c32 : t108 = t109
                  · rw [if_pos c32] at H
                    have c32b0 : (t108 == t109) = true := beq_iff_eq.mpr c32
                    have c32b1 : (t108 != t109) = false := bne_eq_false_iff_eq.mpr c32
                    clear c32
                    by_cases c33 : ji7 = 1
                    · rw [if_pos c33] at H
                      have c33b0 : (ji7 == 1) = true := beq_iff_eq.mpr c33
                      have c33b1 : (ji7 != 1) = false := bne_eq_false_iff_eq.mpr c33
                      clear c33
                      replace H := Option.bind_eq_some_iff.mp H
                      obtain ⟨t118, A340, H⟩ := H
                      replace H : (some t118) = some r := H
                      have A34 := Aside0.mk A340
                      clear A340
                      obtain rfl := Option.some.inj H
                      go_wp2_with (first | ((with_reducible refine gate_callee (f := 15) rfl ?_); refine goesL_ (some 52) rfl rfl Try.func15 (by kernel_rfl) rfl #[.int .u8 t110, .int .i64 ji7, .int .i64 t109] rfl (by (try simp only [List.map_toArray, List.map_cons, List.map_nil]); first | done | (simp only [hji7]; rfl) | rfl | (simp only [List.length_drop, List.length_take]; rfl)) ?_; (with_reducible refine (plru_Touch.calls kj13 t110 ji7 t109 t112 _ A18.out).mono ?_); rintro e w' ⟨rfl, ⟨nd, rfl⟩⟩; refine ⟨_, rfl, ?_⟩) | ((with_reducible refine gate_callee (f := 16) rfl ?_); refine goesL_ (some 55) rfl rfl Try.func16 (by kernel_rfl) rfl #[.int .u8 t112, .int .i64 ji7] rfl (by (try simp only [List.map_toArray, List.map_cons, List.map_nil]); first | done | (simp only [hji7]; rfl) | rfl | (simp only [List.length_drop, List.length_take]; rfl)) ?_; (with_reducible refine (plru_Victim.calls kj13 t112 ji7 t113 _ A19.out).mono ?_); rintro e w' ⟨rfl, ⟨nd, rfl⟩⟩; refine ⟨_, rfl, ?_⟩) | (go_at_call 3; (with_reducible refine (assentlaw5_PlruRuns.calls kj13  t118 _ A34.out).mono ?_); rintro e w' ⟨rfl, ⟨nd, rfl⟩⟩))
                      go_ret
                      exact ⟨by first | rfl | (simp; done) | (simp only [← hji7, ← hji11, ← hji13] <;> (first | rfl | simp)) | (simp [*]; done), by repeat (first | exact Drawn0.refl _ | apply Drawn0.step)⟩
                    · rw [if_neg c33] at H
                      have c33b0 : (ji7 == 1) = false := beq_eq_false_iff_ne.mpr c33
                      have c33b1 : (ji7 != 1) = true := bne_iff_ne.mpr c33
                      obtain rfl := Option.some.inj H
                      go_wp2_with (first | ((with_reducible refine gate_callee (f := 15) rfl ?_); refine goesL_ (some 52) rfl rfl Try.func15 (by kernel_rfl) rfl #[.int .u8 t110, .int .i64 ji7, .int .i64 t109] rfl (by (try simp only [List.map_toArray, List.map_cons, List.map_nil]); first | done | (simp only [hji7]; rfl) | rfl | (simp only [List.length_drop, List.length_take]; rfl)) ?_; (with_reducible refine (plru_Touch.calls kj13 t110 ji7 t109 t112 _ A18.out).mono ?_); rintro e w' ⟨rfl, ⟨nd, rfl⟩⟩; refine ⟨_, rfl, ?_⟩) | ((with_reducible refine gate_callee (f := 16) rfl ?_); refine goesL_ (some 55) rfl rfl Try.func16 (by kernel_rfl) rfl #[.int .u8 t112, .int .i64 ji7] rfl (by (try simp only [List.map_toArray, List.map_cons, List.map_nil]); first | done | (simp only [hji7]; rfl) | rfl | (simp only [List.length_drop, List.length_take]; rfl)) ?_; (with_reducible refine (plru_Victim.calls kj13 t112 ji7 t113 _ A19.out).mono ?_); rintro e w' ⟨rfl, ⟨nd, rfl⟩⟩; refine ⟨_, rfl, ?_⟩))
                      go_ret
                      exact ⟨by first | rfl | (simp; done) | (simp only [← hji7, ← hji11, ← hji13] <;> (first | rfl | simp)) | (simp [*]; done), by repeat (first | exact Drawn0.refl _ | apply Drawn0.step)⟩
                  · rw [if_neg c32] at H
                    have c32b0 : (t108 == t109) = false := beq_eq_false_iff_ne.mpr c32
                    have c32b1 : (t108 != t109) = true := bne_iff_ne.mpr c32
                    obtain rfl := Option.some.inj H
                    go_wp2_with (first | ((with_reducible refine gate_callee (f := 15) rfl ?_); refine goesL_ (some 52) rfl rfl Try.func15 (by kernel_rfl) rfl #[.int .u8 t110, .int .i64 ji7, .int .i64 t109] rfl (by (try simp only [List.map_toArray, List.map_cons, List.map_nil]); first | done | (simp only [hji7]; rfl) | rfl | (simp only [List.length_drop, List.length_take]; rfl)) ?_; (with_reducible refine (plru_Touch.calls kj13 t110 ji7 t109 t112 _ A18.out).mono ?_); rintro e w' ⟨rfl, ⟨nd, rfl⟩⟩; refine ⟨_, rfl, ?_⟩) | ((with_reducible refine gate_callee (f := 16) rfl ?_); refine goesL_ (some 55) rfl rfl Try.func16 (by kernel_rfl) rfl #[.int .u8 t112, .int .i64 ji7] rfl (by (try simp only [List.map_toArray, List.map_cons, List.map_nil]); first | done | (simp only [hji7]; rfl) | rfl | (simp only [List.length_drop, List.length_take]; rfl)) ?_; (with_reducible refine (plru_Victim.calls kj13 t112 ji7 t113 _ A19.out).mono ?_); rintro e w' ⟨rfl, ⟨nd, rfl⟩⟩; refine ⟨_, rfl, ?_⟩))
                    go_ret
                    exact ⟨by first | rfl | (simp; done) | (simp only [← hji7, ← hji11, ← hji13] <;> (first | rfl | simp)) | (simp [*]; done), by repeat (first | exact Drawn0.refl _ | apply Drawn0.step)⟩
                · rw [if_neg c31] at H
                  have c31b0 : (t113 == t109) = false := beq_eq_false_iff_ne.mpr c31
                  have c31b1 : (t113 != t109) = true := bne_iff_ne.mpr c31
                  by_cases c35 : ji7 = 1
                  · rw [if_pos c35] at H
                    have c35b0 : (ji7 == 1) = true := beq_iff_eq.mpr c35
                    have c35b1 : (ji7 != 1) = false := bne_eq_false_iff_eq.mpr c35
                    clear c35
                    replace H := Option.bind_eq_some_iff.mp H
                    obtain ⟨t119, A360, H⟩ := H
                    replace H : (some t119) = some r := H
                    have A36 := Aside0.mk A360
                    clear A360
                    obtain rfl := Option.some.inj H
                    go_wp2_with (first | ((with_reducible refine gate_callee (f := 15) rfl ?_); refine goesL_ (some 52) rfl rfl Try.func15 (by kernel_rfl) rfl #[.int .u8 t110, .int .i64 ji7, .int .i64 t109] rfl (by (try simp only [List.map_toArray, List.map_cons, List.map_nil]); first | done | (simp only [hji7]; rfl) | rfl | (simp only [List.length_drop, List.length_take]; rfl)) ?_; (with_reducible refine (plru_Touch.calls kj13 t110 ji7 t109 t112 _ A18.out).mono ?_); rintro e w' ⟨rfl, ⟨nd, rfl⟩⟩; refine ⟨_, rfl, ?_⟩) | ((with_reducible refine gate_callee (f := 16) rfl ?_); refine goesL_ (some 55) rfl rfl Try.func16 (by kernel_rfl) rfl #[.int .u8 t112, .int .i64 ji7] rfl (by (try simp only [List.map_toArray, List.map_cons, List.map_nil]); first | done | (simp only [hji7]; rfl) | rfl | (simp only [List.length_drop, List.length_take]; rfl)) ?_; (with_reducible refine (plru_Victim.calls kj13 t112 ji7 t113 _ A19.out).mono ?_); rintro e w' ⟨rfl, ⟨nd, rfl⟩⟩; refine ⟨_, rfl, ?_⟩) | (go_at_call 3; (with_reducible refine (assentlaw5_PlruRuns.calls kj13  t119 _ A36.out).mono ?_); rintro e w' ⟨rfl, ⟨nd, rfl⟩⟩))
                    go_ret
                    exact ⟨by first | rfl | (simp; done) | (simp only [← hji7, ← hji11, ← hji13] <;> (first | rfl | simp)) | (simp [*]; done), by repeat (first | exact Drawn0.refl _ | apply Drawn0.step)⟩
                  · rw [if_neg c35] at H
                    have c35b0 : (ji7 == 1) = false := beq_eq_false_iff_ne.mpr c35
                    have c35b1 : (ji7 != 1) = true := bne_iff_ne.mpr c35
                    replace H := Option.bind_eq_some_iff.mp H
                    obtain ⟨t120, A370, H⟩ := H
                    replace H : (some t120) = some r := H
                    have A37 := Aside0.mk A370
                    clear A370
                    obtain rfl := Option.some.inj H
                    go_wp2_with (first | ((with_reducible refine gate_callee (f := 15) rfl ?_); refine goesL_ (some 52) rfl rfl Try.func15 (by kernel_rfl) rfl #[.int .u8 t110, .int .i64 ji7, .int .i64 t109] rfl (by (try simp only [List.map_toArray, List.map_cons, List.map_nil]); first | done | (simp only [hji7]; rfl) | rfl | (simp only [List.length_drop, List.length_take]; rfl)) ?_; (with_reducible refine (plru_Touch.calls kj13 t110 ji7 t109 t112 _ A18.out).mono ?_); rintro e w' ⟨rfl, ⟨nd, rfl⟩⟩; refine ⟨_, rfl, ?_⟩) | ((with_reducible refine gate_callee (f := 16) rfl ?_); refine goesL_ (some 55) rfl rfl Try.func16 (by kernel_rfl) rfl #[.int .u8 t112, .int .i64 ji7] rfl (by (try simp only [List.map_toArray, List.map_cons, List.map_nil]); first | done | (simp only [hji7]; rfl) | rfl | (simp only [List.length_drop, List.length_take]; rfl)) ?_; (with_reducible refine (plru_Victim.calls kj13 t112 ji7 t113 _ A19.out).mono ?_); rintro e w' ⟨rfl, ⟨nd, rfl⟩⟩; refine ⟨_, rfl, ?_⟩) | (go_at_call 3; (with_reducible refine (assentlaw5_PlruRuns.calls kj13  t120 _ A37.out).mono ?_); rintro e w' ⟨rfl, ⟨nd, rfl⟩⟩))
                    go_ret
                    exact ⟨by first | rfl | (simp; done) | (simp only [← hji7, ← hji11, ← hji13] <;> (first | rfl | simp)) | (simp [*]; done), by repeat (first | exact Drawn0.refl _ | apply Drawn0.step)⟩
    · rw [if_neg c12] at H
      exact absurd H (by simp)
  · rw [if_neg c6] at H
    exact absurd H (by simp)

/-- THE ONE PURE STATEMENT of assentlaw5_PlruPath: yours. -/
def assentlaw5_PlruPath.Pure : Prop := ∀ (a0 : Int) (a1 : Int) (a2 : Int) (a3 : Int), (Lit.int .u8 a0).wf = true → (Lit.int .i64 a1).wf = true → (Lit.int .i64 a2).wf = true → (Lit.int .i64 a3).wf = true → ∃ k, assentlaw5_PlruPath.f k a0 a1 a2 a3 = some true
theorem assentlaw5_PlruPath.walk (P : assentlaw5_PlruPath.Pure) (a0 : Int) (a1 : Int) (a2 : Int) (a3 : Int) (w : World) (w0 : (Lit.int .u8 a0).wf = true) (w1 : (Lit.int .i64 a1).wf = true) (w2 : (Lit.int .i64 a2).wf = true) (w3 : (Lit.int .i64 a3).wf = true) :
    Calls Try.prog 6 #[.int .u8 a0, .int .i64 a1, .int .i64 a2, .int .i64 a3] w fun e w' => e = .returned (.bool true) ∧ Below w.heap.size w w' := by
  obtain ⟨k, h⟩ := P a0 a1 a2 a3 w0 w1 w2 w3
  refine (assentlaw5_PlruPath.calls k a0 a1 a2 a3 true w h).mono ?_
  rintro e w' ⟨rfl, hd⟩
  exact ⟨rfl, hd.below⟩

end Go.Proofs.Ytakabjeamkffpaa.PPlruPath
