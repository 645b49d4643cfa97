-- PRINTED BY print.sh 35421559b90ae4d0a3588c463048766b98c2df88dd9212a6774a882060cdf62d: not written by this session
import Derived.Test.YtakabjeamkffpaaPPlruTellsx0
import Derived.Test.YtakabjeamkffpaaPPlruTellsx1
namespace Go.Proofs.Ytakabjeamkffpaa.PPlruTells
open Go.RowKit Go.Proofs.YtakabjeamkffpaaW.PrintWords Go.Proofs.YtakabjeamkffpaaW.PrintLast Go.Proofs.YtakabjeamkffpaaW.PrintMore
attribute [local go_sem] max2_int min2_int max_two min_two max_three min_three max_four min_four   -- for this text's walks alone
set_option linter.unusedVariables false
set_option linter.unusedSimpArgs false

/-! ### assentlaw5_PlruTells: function 4 -/
def assentlaw5_PlruTells.f (k : Nat) (a0 : Int) (a1 : Int) (a2 : Int) : Option (Bool) := (plru_Touch.f k a0 a1 a2).bind fun t109 => ((assentref1_Touch.f k a0 a1 a2).bind fun t110 => (if t109 = t110 then ((plru_Victim.f k a0 a1).bind fun t111 => ((assentref1_Victim.f k a0 a1).bind fun t112 => (if t111 = t112 then ((assentlaw5_PlruRuns.f k).bind fun t113 => (some t113)) else (some false)))) else (some false)))
theorem assentlaw5_PlruTells.mono : ∀ a0 a1 a2 k, LeO (assentlaw5_PlruTells.f k a0 a1 a2) (assentlaw5_PlruTells.f (k + 1) a0 a1 a2) := by
  intro a0 a1 a2 k
  unfold assentlaw5_PlruTells.f
  repeat' first
      | (with_reducible exact assentlaw5_PlruRuns.mono _)
      | (with_reducible exact assentref1_Touch.mono _ _ _ _)
      | (with_reducible exact assentref1_Victim.mono _ _ _)
      | (with_reducible exact plru_Touch.mono _ _ _ _)
      | (with_reducible exact plru_Victim.mono _ _ _)
      | (with_reducible exact LeO.refl _)
      | (with_reducible exact LeO.none _)
      | (with_reducible refine LeO.ite ?_ ?_)
      | (with_reducible refine LeO.bind ?_ (fun _ => ?_))
      | exact assentlaw5_PlruRuns.mono _
      | exact assentref1_Touch.mono _ _ _ _
      | exact assentref1_Victim.mono _ _ _
      | exact plru_Touch.mono _ _ _ _
      | exact plru_Victim.mono _ _ _
      | exact LeO.none _
      | refine LeO.ite ?_ ?_
      | refine LeO.bind ?_ (fun _ => ?_)
set_option maxHeartbeats 8000000 in
set_option maxRecDepth 100000 in
theorem assentlaw5_PlruTells.calls (k : Nat) (a0 : Int) (a1 : Int) (a2 : Int) (r : Bool) (w : World) (h : assentlaw5_PlruTells.f k a0 a1 a2 = some r) :
    Calls Try.prog 4 #[.int .u8 a0, .int .i64 a1, .int .i64 a2] w fun e w' => e = .returned (.bool r) ∧ Drawn0 w w' := by
  have H : ((plru_Touch.f k a0 a1 a2).bind fun t109 => ((assentref1_Touch.f k a0 a1 a2).bind fun t110 => (if t109 = t110 then ((plru_Victim.f k a0 a1).bind fun t111 => ((assentref1_Victim.f k a0 a1).bind fun t112 => (if t111 = t112 then ((assentlaw5_PlruRuns.f k).bind fun t113 => (some t113)) else (some false)))) else (some false)))) = some r := h
  clear h
  replace H := Option.bind_eq_some_iff.mp H
  obtain ⟨t109, A40, H⟩ := H
  replace H : ((assentref1_Touch.f k a0 a1 a2).bind fun t110 => (if t109 = t110 then ((plru_Victim.f k a0 a1).bind fun t111 => ((assentref1_Victim.f k a0 a1).bind fun t112 => (if t111 = t112 then ((assentlaw5_PlruRuns.f k).bind fun t113 => (some t113)) else (some false)))) else (some false))) = some r := H
  have A4 := Aside0.mk A40
  clear A40
  replace H := Option.bind_eq_some_iff.mp H
  obtain ⟨t110, A50, H⟩ := H
  replace H : (if t109 = t110 then ((plru_Victim.f k a0 a1).bind fun t111 => ((assentref1_Victim.f k a0 a1).bind fun t112 => (if t111 = t112 then ((assentlaw5_PlruRuns.f k).bind fun t113 => (some t113)) else (some false)))) else (some false)) = some r := H
  have A5 := Aside0.mk A50
  clear A50
  by_cases c6 : t109 = t110
  · rw [if_pos c6] at H
    have c6b0 : (t109 == t110) = true := beq_iff_eq.mpr c6
    have c6b1 : (t109 != t110) = false := bne_eq_false_iff_eq.mpr c6
    clear c6
    replace H := Option.bind_eq_some_iff.mp H
    obtain ⟨t111, A70, H⟩ := H
    replace H : ((assentref1_Victim.f k a0 a1).bind fun t112 => (if t111 = t112 then ((assentlaw5_PlruRuns.f k).bind fun t113 => (some t113)) else (some false))) = some r := H
    have A7 := Aside0.mk A70
    clear A70
    replace H := Option.bind_eq_some_iff.mp H
    obtain ⟨t112, A80, H⟩ := H
    replace H : (if t111 = t112 then ((assentlaw5_PlruRuns.f k).bind fun t113 => (some t113)) else (some false)) = some r := H
    have A8 := Aside0.mk A80
    clear A80
    by_cases c9 : t111 = t112
    · rw [if_pos c9] at H
      have c9b0 : (t111 == t112) = true := beq_iff_eq.mpr c9
      have c9b1 : (t111 != t112) = false := bne_eq_false_iff_eq.mpr c9
      clear c9
      replace H := Option.bind_eq_some_iff.mp H
      obtain ⟨t113, A100, H⟩ := H
      replace H : (some t113) = some r := H
      have A10 := Aside0.mk A100
      clear A100
      obtain rfl := Option.some.inj H
      go_enter Try.func4, Try.ntmps4
      go_wp2_with (first | ((with_reducible refine gate_callee (f := 15) rfl ?_); refine goesL_ (some 10) rfl rfl Try.func15 (by kernel_rfl) rfl #[.int .u8 a0, .int .i64 a1, .int .i64 a2] rfl (by (try simp only [List.map_toArray, List.map_cons, List.map_nil]); first | done | rfl | (simp only [List.length_drop, List.length_take]; rfl)) ?_; (with_reducible refine (plru_Touch.calls k a0 a1 a2 t109 _ A4.out).mono ?_); rintro e w' ⟨rfl, ⟨nd, rfl⟩⟩; refine ⟨_, rfl, ?_⟩) | ((with_reducible refine gate_callee (f := 17) rfl ?_); refine goesL_ (some 14) rfl rfl Try.func17 (by kernel_rfl) rfl #[.int .u8 a0, .int .i64 a1, .int .i64 a2] rfl (by (try simp only [List.map_toArray, List.map_cons, List.map_nil]); first | done | rfl | (simp only [List.length_drop, List.length_take]; rfl)) ?_; (with_reducible refine (assentref1_Touch.calls k a0 a1 a2 t110 _ A5.out).mono ?_); rintro e w' ⟨rfl, ⟨nd, rfl⟩⟩; refine ⟨_, rfl, ?_⟩) | (go_at_call 16; (with_reducible refine (plru_Victim.calls k a0 a1 t111 _ A7.out).mono ?_); rintro e w' ⟨rfl, ⟨nd, rfl⟩⟩) | (go_at_call 18; (with_reducible refine (assentref1_Victim.calls k a0 a1 t112 _ A8.out).mono ?_); rintro e w' ⟨rfl, ⟨nd, rfl⟩⟩) | (go_at_call 3; (with_reducible refine (assentlaw5_PlruRuns.calls k  t113 _ A10.out).mono ?_); rintro e w' ⟨rfl, ⟨nd, rfl⟩⟩))
      go_ret
      exact ⟨by first | rfl | (simp; done) | (simp [*]; done), by repeat (first | exact Drawn0.refl _ | apply Drawn0.step)⟩
    · rw [if_neg c9] at H
      have c9b0 : (t111 == t112) = false := beq_eq_false_iff_ne.mpr c9
      have c9b1 : (t111 != t112) = true := bne_iff_ne.mpr c9
      obtain rfl := Option.some.inj H
      go_enter Try.func4, Try.ntmps4
      go_wp2_with (first | ((with_reducible refine gate_callee (f := 15) rfl ?_); refine goesL_ (some 10) rfl rfl Try.func15 (by kernel_rfl) rfl #[.int .u8 a0, .int .i64 a1, .int .i64 a2] rfl (by (try simp only [List.map_toArray, List.map_cons, List.map_nil]); first | done | rfl | (simp only [List.length_drop, List.length_take]; rfl)) ?_; (with_reducible refine (plru_Touch.calls k a0 a1 a2 t109 _ A4.out).mono ?_); rintro e w' ⟨rfl, ⟨nd, rfl⟩⟩; refine ⟨_, rfl, ?_⟩) | ((with_reducible refine gate_callee (f := 17) rfl ?_); refine goesL_ (some 14) rfl rfl Try.func17 (by kernel_rfl) rfl #[.int .u8 a0, .int .i64 a1, .int .i64 a2] rfl (by (try simp only [List.map_toArray, List.map_cons, List.map_nil]); first | done | rfl | (simp only [List.length_drop, List.length_take]; rfl)) ?_; (with_reducible refine (assentref1_Touch.calls k a0 a1 a2 t110 _ A5.out).mono ?_); rintro e w' ⟨rfl, ⟨nd, rfl⟩⟩; refine ⟨_, rfl, ?_⟩) | (go_at_call 16; (with_reducible refine (plru_Victim.calls k a0 a1 t111 _ A7.out).mono ?_); rintro e w' ⟨rfl, ⟨nd, rfl⟩⟩) | (go_at_call 18; (with_reducible refine (assentref1_Victim.calls k a0 a1 t112 _ A8.out).mono ?_); rintro e w' ⟨rfl, ⟨nd, rfl⟩⟩))
      go_ret
      exact ⟨by first | rfl | (simp; done) | (simp [*]; done), by repeat (first | exact Drawn0.refl _ | apply Drawn0.step)⟩
  · rw [if_neg c6] at H
    have c6b0 : (t109 == t110) = false := beq_eq_false_iff_ne.mpr c6
    have c6b1 : (t109 != t110) = true := bne_iff_ne.mpr c6
    obtain rfl := Option.some.inj H
    go_enter Try.func4, Try.ntmps4
    go_wp2_with (first | ((with_reducible refine gate_callee (f := 15) rfl ?_); refine goesL_ (some 10) rfl rfl Try.func15 (by kernel_rfl) rfl #[.int .u8 a0, .int .i64 a1, .int .i64 a2] rfl (by (try simp only [List.map_toArray, List.map_cons, List.map_nil]); first | done | rfl | (simp only [List.length_drop, List.length_take]; rfl)) ?_; (with_reducible refine (plru_Touch.calls k a0 a1 a2 t109 _ A4.out).mono ?_); rintro e w' ⟨rfl, ⟨nd, rfl⟩⟩; refine ⟨_, rfl, ?_⟩) | ((with_reducible refine gate_callee (f := 17) rfl ?_); refine goesL_ (some 14) rfl rfl Try.func17 (by kernel_rfl) rfl #[.int .u8 a0, .int .i64 a1, .int .i64 a2] rfl (by (try simp only [List.map_toArray, List.map_cons, List.map_nil]); first | done | rfl | (simp only [List.length_drop, List.length_take]; rfl)) ?_; (with_reducible refine (assentref1_Touch.calls k a0 a1 a2 t110 _ A5.out).mono ?_); rintro e w' ⟨rfl, ⟨nd, rfl⟩⟩; refine ⟨_, rfl, ?_⟩))
    go_ret
    exact ⟨by first | rfl | (simp; done) | (simp [*]; done), by repeat (first | exact Drawn0.refl _ | apply Drawn0.step)⟩

/-- THE ONE PURE STATEMENT of assentlaw5_PlruTells: yours. -/
def assentlaw5_PlruTells.Pure : Prop := ∀ (a0 : Int) (a1 : Int) (a2 : Int), (Lit.int .u8 a0).wf = true → (Lit.int .i64 a1).wf = true → (Lit.int .i64 a2).wf = true → ∃ k, assentlaw5_PlruTells.f k a0 a1 a2 = some true
theorem assentlaw5_PlruTells.walk (P : assentlaw5_PlruTells.Pure) (a0 : Int) (a1 : Int) (a2 : Int) (w : World) (w0 : (Lit.int .u8 a0).wf = true) (w1 : (Lit.int .i64 a1).wf = true) (w2 : (Lit.int .i64 a2).wf = true) :
    Calls Try.prog 4 #[.int .u8 a0, .int .i64 a1, .int .i64 a2] w fun e w' => e = .returned (.bool true) ∧ Below w.heap.size w w' := by
  obtain ⟨k, h⟩ := P a0 a1 a2 w0 w1 w2
  refine (assentlaw5_PlruTells.calls k a0 a1 a2 true w h).mono ?_
  rintro e w' ⟨rfl, hd⟩
  exact ⟨rfl, hd.below⟩

end Go.Proofs.Ytakabjeamkffpaa.PPlruTells
