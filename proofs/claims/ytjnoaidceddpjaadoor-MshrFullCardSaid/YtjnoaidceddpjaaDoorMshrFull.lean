/- The law MshrFull, walked. -/
import Derived.Test.YtjnoaidceddpjaaDoorMshrM
import Derived.Test.YtjnoaidceddpjaaDoorBook
namespace Go.Proofs.YtjnoaidceddpjaaDoor
open Go.RowKit Go.Extern.Stop Go.Stop Go.Extern

def evens (i : Nat) : List (Int × Int) := (List.range i).map fun j => (((2 * j : Nat) : Int), (2 : Int))
theorem evens_all : ∀ i, i < 9 → (evens i).length = i ∧ ((evens i).Pairwise (fun a b => a.1 < b.1) ∧ ∀ m ∈ evens i, 0 ≤ m.1 ∧ m.1 < 32) ∧ has ((2 * i : Nat) : Int) (evens i) = false ∧ (evens i).take (lbOf ((2 * i : Nat) : Int) (evens i)) ++ (((2 * i : Nat) : Int), 2) :: (evens i).drop (lbOf ((2 * i : Nat) : Int) (evens i)) = evens (i + 1) ∧ has 1 (evens i) = false ∧ (0 < i → has 0 (evens i) = true) := by decide +kernel
set_option maxRecDepth 100000 in
set_option maxHeartbeats 4000000 in
theorem mshrFull_is (most kind : Int) (w : World) (a : Nat → Addr) (S : Sents w a) :
    Calls Tryd.prog 13 #[.int .i64 most, .int .i64 kind] w fun e w' => e = .returned (.bool true) ∧ Below w.heap.size w w' := by
  have HS := Lib.hid S
  clear S
  obtain ⟨n, hn, n1, n8⟩ : ∃ n : Nat, inOf most 1 8 = n ∧ 1 ≤ n ∧ n ≤ 8 := by
    have := inOf_le (n := most) (lo := 1) (hi := 8) (by omega)
    exact ⟨(inOf most 1 8).toNat, by omega, by omega, by omega⟩
  have W1 := within_is most 1 8 w (by omega) (by omega) (by omega)
  rw [hn] at W1
  have HW1 := Lib.hid W1
  clear W1 hn
  obtain ⟨k, hkk, k1, k4⟩ : ∃ k : Int, inOf kind 1 4 = k ∧ 1 ≤ k ∧ k ≤ 4 := ⟨_, rfl, inOf_le (by omega)⟩
  have HK : Hid (∀ w, _) := fun w => within_is kind 1 4 w (by omega) (by omega) (by omega)
  rw [hkk] at HK
  clear hkk
  have HE := Lib.hid evens_all
  go_enter Tryd.func13, Tryd.ntmps13
  go_wp2_with fail
  refine HW1.out.mono ?_
  rintro e w1 ⟨rfl, hb1⟩
  have B1 := Lib.hid hb1
  clear hb1 HW1
  go_wp2_with fail
  refine (own_new n w1 (by omega) (by omega)).mono ?_
  rintro e w2 ⟨rfl, h⟩
  have H := Lib.hid h
  clear h
  generalize ht : w1.heap.size = t at *
  clear ht
  go_wp2_with fail
  go_loopw [8] (fun v wr => ∃ i : Nat, i ≤ n ∧ v = .int .i64 i ∧ Hid (OwnT w1 wr t n (evens i))) (fun v _ => n - (intOf v).toNat)
  case atStart => exact ⟨0, by omega, rfl, H⟩
  case round =>
    obtain ⟨i, hi, rfl, H⟩ := hrel
    by_cases hlt : i < n
    · have q0 : ((2 * i : Nat) : Int) = 2 * (i : Int) := by omega
      have q1 : wrap64 (2 * (i : Int)) = 2 * (i : Int) := by unfold wrap64; omega
      obtain ⟨e1, e2, e3, e4, -, -⟩ := HE.out i (by omega)
      have E1 := Lib.hid e1
      have E2 := Lib.hid e2
      have E3 := Lib.hid e3
      have E4 := Lib.hid e4
      clear e1 e2 e3 e4
      have hd : decide (n ≤ (evens i).length) = false := by rw [E1.out]; simp; omega
      have HF := Lib.hid (own_full w1 t n (evens i) _ H.out)
      rw [hd] at HF
      clear hd
      go_wp2_with fail
      refine HF.out.mono ?_
      rintro e w3 ⟨rfl, h⟩
      have H := Lib.hid h
      clear h HF
      go_wp2_with fail
      have A := own_add w1 t n (evens i) ((2 * i : Nat) : Int) 2 w3 H.out E2.out (by omega) (by omega) (by omega) (by omega) E3.out (by rw [E1.out]; omega) (by omega)
      rw [E4.out] at A
      rw [q0] at A
      refine A.mono ?_
      clear A
      rintro e w4 ⟨rfl, h⟩
      have H := Lib.hid h
      clear h
      go_wp2_with fail
      go_roundw
      case rel => exact ⟨i + 1, by omega, by go_num, H⟩
      case measure => simp [intOf]; omega
    · obtain rfl : i = n := by omega
      go_wp2_with fail
      obtain ⟨e1, e2, -, -, e5, e6⟩ := HE.out i (by omega)
      have E1 := Lib.hid e1
      have E2 : Hid (Rising (evens i)) := e2
      have E5 := Lib.hid e5
      have E6 := Lib.hid (e6 (by omega))
      have hd : decide (i ≤ (evens i).length) = true := by rw [E1.out]; simp
      have HD := Lib.hid hd
      clear e1 e2 e5 e6 hd HE
      refine (HK.out _).mono ?_
      rintro e w3 ⟨rfl, hb⟩
      have H3 := Lib.hid (H.out.below hb)
      clear hb H HK
      go_wp2_with fail
      refine (own_fulls w1 t i (evens i) 1 k w3 a (HS.out.of_below B1.out) H3.out E2.out (by omega) (by omega) (by omega) (by omega) E5.out (by rw [E1.out]; omega)).mono ?_
      rintro e w4 ⟨rfl, h⟩
      have H := Lib.hid h
      clear h H3
      go_wp2_with fail
      refine (own_busy w1 t i (evens i) 0 k w4 a (HS.out.of_below B1.out) H.out E2.out (by omega) (by omega) (by omega) (by omega) E6.out).mono ?_
      rintro e w5 ⟨rfl, h⟩
      have H5 := Lib.hid h
      clear h H
      go_wp2_with fail
      refine (own_arg w1 t i (evens i) 32 k w5 a (HS.out.of_below B1.out) H5.out (by omega)).mono ?_
      rintro e w6 ⟨rfl, h⟩
      have H := Lib.hid h
      clear h H5
      go_wp2_with fail
      refine (own_arg w1 t i (evens i) 0 5 w6 a (HS.out.of_below B1.out) H.out (by omega)).mono ?_
      rintro e w7 ⟨rfl, h⟩
      have H7 := Lib.hid h
      clear h H
      have HF := Lib.hid (own_full w1 t i (evens i) w7 H7.out)
      rw [HD.out] at HF
      go_wp2_with fail
      refine HF.out.mono ?_
      rintro e w8 ⟨rfl, h⟩
      have H := Lib.hid h
      clear h H7 HF
      unfold sayAdd
      go_wp2_with fail
      refine (only_one _ 1 6 a w8 (by omega) (by omega) (H.out.sents (HS.out.of_below B1.out))).mono ?_
      rintro e w9 ⟨rfl, hb⟩
      have H9 := Lib.hid (H.out.below hb)
      clear hb H
      go_wp2_with fail
      refine (only_one _ 0 7 a w9 (by omega) (by omega) (H9.out.sents (HS.out.of_below B1.out))).mono ?_
      rintro e w10 ⟨rfl, hb⟩
      have H := Lib.hid (H9.out.below hb)
      clear hb H9
      go_wp2_with fail
      refine (only_one _ 32 1 a w10 (by omega) (by omega) (H.out.sents (HS.out.of_below B1.out))).mono ?_
      rintro e w11 ⟨rfl, hb⟩
      have H11 := Lib.hid (H.out.below hb)
      clear hb H
      go_wp2_with fail
      refine (only_one _ 0 1 a w11 (by omega) (by omega) (H11.out.sents (HS.out.of_below B1.out))).mono ?_
      rintro e w12 ⟨rfl, hb⟩
      have H := Lib.hid (H11.out.below hb)
      clear hb H11
      go_wp2_with fail
      refine (own_list w1 t i (evens i) w12 H.out).mono ?_
      clear H
      rintro e w13 ⟨v', rfl, hr, -, h⟩
      have H := Lib.hid h
      have hc := hr.cells
      rw [E1.out] at hc
      clear h hr
      rcases hc with ⟨rfl, hnil⟩ | ⟨g, cap, rfl, -⟩
      · exact absurd (by rw [hnil] at E1; exact E1.out) (show ¬ ([] : List (Int × Int)).length = i by simp; omega)
      · go_wp2_with fail
        refine (mshrRuns_is w13 a (H.out.sents (HS.out.of_below B1.out))).mono ?_
        rintro e w14 ⟨rfl, hb⟩
        have H14 := Lib.hid (H.out.below hb)
        clear hb H
        go_wp2
        go_ret
        exact ⟨rfl, B1.out.trans (H14.out.base.mono B1.out.size)⟩
end Go.Proofs.YtjnoaidceddpjaaDoor
