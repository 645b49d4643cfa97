/- The law ArrayFull, walked. -/
import Derived.Test.YtjnoaidceddpjaaDoorArrP
namespace Go.Proofs.YtjnoaidceddpjaaDoor
open Go.RowKit Go.Extern.Stop Go.Stop Go.Extern

theorem EntRow.shape {B : Nat} {w : World} {v : Value} {l : List Ent} {n : Nat} (h : EntRow B w v l) (hn : l.length = n) : ∃ A c, v = .slice A n c := by
  subst hn
  rcases h.2 with ⟨rfl, h0⟩ | ⟨g, cap, cur, rfl, _⟩
  · exact ⟨none, 0, by rw [h0]⟩
  · exact ⟨_, _, rfl⟩
set_option maxRecDepth 100000 in
set_option maxHeartbeats 16000000 in
theorem arrayFull_is (sets ways drop : Int) (w : World) (ad : Nat → Addr) (HSE : Sents w ad) :
    Calls Tryd.prog 6 #[.int .i64 sets, .int .i64 ways, .int .i64 drop] w fun e w' => e = .returned (.bool true) ∧ Below w.heap.size w w' := by
  have HS := Lib.hid HSE
  clear HSE
  obtain ⟨p, hp, W1⟩ := within_nat sets 2 (by omega)
  obtain ⟨q, hq, W2⟩ := within_nat ways 2 (by omega)
  obtain ⟨n, hn, ep⟩ := pow_some p hp
  obtain ⟨k, hk, eq⟩ := pow_some q hq
  have HW1 := Lib.hid W1
  have HW2 := Lib.hid W2
  have n8 : n ≤ 4 := by simp at hn; omega
  have k8 : k ≤ 4 := by simp at hk; omega
  have ep' : (2 : Int) ^ p = (n : Nat) := by rw [← ep]; simp
  have eq' : (2 : Int) ^ q = (k : Nat) := by rw [← eq]; simp
  have HN := Lib.hid hn
  have HK := Lib.hid hk
  clear W1 W2 ep eq hn hk
  go_enter Tryd.func6, Tryd.ntmps6
  go_wp2_with fail
  go_quiet (first | (go_at_call 22; (with_reducible refine Calls.quiet_of_same (HW1.out _))) | (go_at_call 22; (with_reducible refine Calls.quiet_of_same (HW2.out _))))
  go_wp2_with fail
  have HB0 : Hid (Below w.heap.size w (w.drewN nq)) := below_drewN _ w nq
  generalize w.drewN nq = w0 at *
  have HS0 := Lib.hid (HS.out.of_below HB0.out)
  have hpn := isPow_some HN.out
  have hpk := isPow_some HK.out
  refine (arr_new n k w0 hpn hpk).mono ?_
  rintro e w1 ⟨a, gs, g, gl, rfl, H⟩
  rw [fullS_new] at H
  have H1 := Lib.hid H
  clear H HW1 HW2 hpn hpk
  have n1 : 0 < n := by have := HN.out; simp at this; omega
  have k1 : 0 < k := by have := HK.out; simp at this; omega
  clear ep' eq'
  go_wp2_with fail
  go_loopw [11] (fun v wr => ∃ i : Nat, i ≤ k ∧ v = .int .i64 i ∧ Hid (Arr w0 wr a gs k gl (fullS g k n (fill n k i)))) (fun v _ => k - (intOf v).toNat)
  case atStart => exact ⟨0, by omega, rfl, H1⟩
  case round =>
    clear H1
    obtain ⟨i, hi, rfl, H⟩ := hrel
    by_cases hlt : i < k
    · obtain ⟨f1, f2, f3, f4, f5⟩ := fill_round n HN.out k HK.out i hlt
      obtain ⟨m, hm⟩ : ∃ m : Nat, m = i * n := ⟨_, rfl⟩
      have hw : wrap64 ((i : Int) * (n : Int)) = (m : Nat) := by rw [hm, Int.natCast_mul]; unfold wrap64; omega
      rw [← hm] at f1 f2 f3 f4 f5
      have F1 := Lib.hid f1
      have F2 := Lib.hid f2
      have F3 := Lib.hid f3
      have F5 := Lib.hid f5
      clear hm f1 f2 f3 f5
      go_wp2_with fail
      refine (arr_room H.out m _ f4 (fullS_get g k n _ m n1 F5.out)).mono ?_
      rintro e w2 ⟨rfl, h, _⟩
      have H2 := Lib.hid h
      clear h H
      rw [F1.out]
      go_wp2_with fail
      refine (of_is m w2).mono ?_
      rintro e w3 ⟨rfl, hb⟩
      have H3 := Lib.hid (H2.out.below hb)
      clear hb H2
      go_wp2_with fail
      refine (arr_put H3.out m _ f4 (fullS_get g k n _ m n1 F5.out) (ofE m) rfl (ofE_right _) i F2.out).mono ?_
      rintro e w4 ⟨rfl, h, _⟩
      rw [fullS_set g k n _ _ m F5.out, F3.out] at h
      have H4 := Lib.hid h
      clear h H3 hw F1 F2 F3 F5 f4
      go_wp2
      go_roundw
      case rel => exact ⟨i + 1, by omega, by go_num, H4⟩
      case measure => simp [intOf]; omega
    · obtain rfl : i = k := by omega
      obtain ⟨f1, f2, f3, f4, f5, f6⟩ := fill_end n HN.out i HK.out
      obtain ⟨W3⟩ : Nonempty (∃ d : Nat, (d : Int) ≤ (i : Nat) - 1 ∧ ∀ w, Calls Tryd.prog 22 #[.int .i64 drop, .int .i64 0, .int .i64 ((i : Nat) - 1)] w fun e w' => e = .returned (.int .i64 (d : Nat)) ∧ w' = w) := ⟨within_nat drop ((i : Nat) - 1) (by omega)⟩
      obtain ⟨d, hd, W3⟩ := W3
      have HW3 := Lib.hid W3
      obtain ⟨g1, g2, g3, g4, g5, g6, g7⟩ := fill_drop n HN.out i HK.out d (by omega)
      obtain ⟨m, hm⟩ : ∃ m : Nat, m = i * n := ⟨_, rfl⟩
      obtain ⟨r, hr⟩ : ∃ r : Nat, r = d * n := ⟨_, rfl⟩
      have hw : wrap64 ((i : Int) * (n : Int)) = (m : Nat) := by rw [hm, Int.natCast_mul]; unfold wrap64; omega
      have hwr : wrap64 ((d : Int) * (n : Int)) = (r : Nat) := by rw [hr, Int.natCast_mul]; unfold wrap64; omega
      rw [← hm] at f1 f2 f4 f5 g2 g3 g4 g5
      rw [← hr] at g1 g4 g6 g7
      have F1 := Lib.hid f1
      have F2 := Lib.hid f2
      have F3 := Lib.hid f3
      have F5 := Lib.hid f5
      have F6 := Lib.hid f6
      have G1 := Lib.hid g1
      have G2 := Lib.hid g2
      have G3 := Lib.hid g3
      have G4 := Lib.hid g4
      have G5 := Lib.hid g5
      have G7 := Lib.hid g7
      clear hm hr f1 f2 f3 f5 f6 g1 g2 g3 g4 g5 g7 W3
      go_wp2_with fail
      refine (arr_room H.out m _ f4 (fullS_get g i n _ m n1 F5.out)).mono ?_
      rintro e w2 ⟨rfl, h, _⟩
      have H2 := Lib.hid h
      clear h H
      rw [F1.out]
      go_wp2_with fail
      refine (of_is m w2).mono ?_
      rintro e w3 ⟨rfl, hb⟩
      have H3 := Lib.hid (H2.out.below hb)
      clear hb H2
      go_wp2_with fail
      refine (arr_put_full H3.out m _ ad HS0.out f4 (fullS_get g i n _ m n1 F5.out) (ofE m) rfl (ofE_right _) F2.out).mono ?_
      rintro e w4 ⟨rfl, h, _⟩
      have H4 := Lib.hid h
      clear h H3
      go_wp2_with fail
      refine (keepIs_one _ (m : Nat) 6 ad w4 (by omega) (by omega) (HS0.out.of_below H4.out.base)).mono ?_
      rintro e w5 ⟨rfl, hb⟩
      have H5 := Lib.hid (H4.out.below hb)
      clear hb H4
      go_wp2_with fail
      refine (arr_list H5.out).mono ?_
      rintro e w6 ⟨v, rfl, hr, h, _⟩
      obtain ⟨A, c, rfl⟩ := hr.shape (n := i) (by rw [fullS_used _ _ _ _ n1]; exact F3.out)
      have H6 := Lib.hid h
      clear h hr H5
      by_cases hn1 : 1 < n
      · go_wp2_with fail
        refine (arr_room H6.out 1 _ (by omega) (fullS_one g i n _ hn1)).mono ?_
        rintro e w7 ⟨rfl, h, _⟩
        have H7 := Lib.hid h
        have ef : roomIn ((1 : Nat) : Int) (freeWays i) = true := F6.out
        simp only [ef]
        clear h H6 ef
        go_wp2_with fail
        refine (arr_victim_room H7.out 1 _ (by omega) (fullS_one g i n _ hn1) F6.out none 0 0).mono ?_
        rintro e w8 ⟨rfl, h, _⟩
        have H8 := Lib.hid h
        clear h H7
        go_wp2_with fail
        refine (HW3.out _).mono ?_
        rintro e w9 ⟨rfl, rfl⟩
        clear HW3
        go_wp2_with fail
        refine (arr_drop H8.out r _ g6 (fullS_get g i n _ r n1 G7.out) d G1.out).mono ?_
        rintro e wA ⟨rfl, h, _⟩
        rw [fullS_set g i n _ _ r G7.out] at h
        have HA := Lib.hid h
        clear h H8
        go_wp2_with fail
        refine (arr_room HA.out m _ f4 (fullS_get g i n _ m n1 F5.out)).mono ?_
        rintro e wB ⟨rfl, h, _⟩
        have HB := Lib.hid h
        clear h HA
        rw [G2.out]
        go_wp2_with fail
        refine (of_is m wB).mono ?_
        rintro e wC ⟨rfl, hb⟩
        have HC := Lib.hid (HB.out.below hb)
        clear hb HB
        go_wp2_with fail
        refine (arr_put HC.out m _ f4 (fullS_get g i n _ m n1 F5.out) (ofE m) rfl (ofE_right _) d G3.out).mono ?_
        rintro e wD ⟨rfl, h, _⟩
        rw [fullS_set g i n _ _ m F5.out] at h
        have HD := Lib.hid h
        clear h HC
        go_wp2_with fail
        refine (arr_room HD.out r _ g6 (fullS_get g i n _ r n1 G7.out)).mono ?_
        rintro e wE ⟨rfl, h, _⟩
        have HE := Lib.hid h
        clear h HD
        rw [G4.out]
        go_wp2_with fail
        refine (arr_list HE.out).mono ?_
        rintro e wF ⟨v, rfl, hr, h, _⟩
        obtain ⟨A2, c2, rfl⟩ := hr.shape (n := i) (by rw [fullS_used _ _ _ _ n1]; exact G5.out)
        have HF := Lib.hid h
        clear h hr HE
        go_wp2_with fail
        refine (arrayRuns_is wF ad (HS0.out.of_below HF.out.base)).mono ?_
        rintro e wG ⟨rfl, hb⟩
        have HG := Lib.hid (HF.out.below hb)
        clear hb HF
        go_wp2
        go_ret
        exact ⟨rfl, HB0.out.trans (HG.out.base.mono HB0.out.size)⟩
      · go_wp2_with fail
        refine (HW3.out _).mono ?_
        rintro e w9 ⟨rfl, rfl⟩
        have H8 := Lib.hid H6.out
        clear H6 HW3
        go_wp2_with fail
        refine (arr_drop H8.out r _ g6 (fullS_get g i n _ r n1 G7.out) d G1.out).mono ?_
        rintro e wA ⟨rfl, h, _⟩
        rw [fullS_set g i n _ _ r G7.out] at h
        have HA := Lib.hid h
        clear h H8
        go_wp2_with fail
        refine (arr_room HA.out m _ f4 (fullS_get g i n _ m n1 F5.out)).mono ?_
        rintro e wB ⟨rfl, h, _⟩
        have HB := Lib.hid h
        clear h HA
        rw [G2.out]
        go_wp2_with fail
        refine (of_is m wB).mono ?_
        rintro e wC ⟨rfl, hb⟩
        have HC := Lib.hid (HB.out.below hb)
        clear hb HB
        go_wp2_with fail
        refine (arr_put HC.out m _ f4 (fullS_get g i n _ m n1 F5.out) (ofE m) rfl (ofE_right _) d G3.out).mono ?_
        rintro e wD ⟨rfl, h, _⟩
        rw [fullS_set g i n _ _ m F5.out] at h
        have HD := Lib.hid h
        clear h HC
        go_wp2_with fail
        refine (arr_room HD.out r _ g6 (fullS_get g i n _ r n1 G7.out)).mono ?_
        rintro e wE ⟨rfl, h, _⟩
        have HE := Lib.hid h
        clear h HD
        rw [G4.out]
        go_wp2_with fail
        refine (arr_list HE.out).mono ?_
        rintro e wF ⟨v, rfl, hr, h, _⟩
        obtain ⟨A2, c2, rfl⟩ := hr.shape (n := i) (by rw [fullS_used _ _ _ _ n1]; exact G5.out)
        have HF := Lib.hid h
        clear h hr HE
        go_wp2_with fail
        refine (arrayRuns_is wF ad (HS0.out.of_below HF.out.base)).mono ?_
        rintro e wG ⟨rfl, hb⟩
        have HG := Lib.hid (HF.out.below hb)
        clear hb HF
        go_wp2
        go_ret
        exact ⟨rfl, HB0.out.trans (HG.out.base.mono HB0.out.size)⟩
end Go.Proofs.YtjnoaidceddpjaaDoor
