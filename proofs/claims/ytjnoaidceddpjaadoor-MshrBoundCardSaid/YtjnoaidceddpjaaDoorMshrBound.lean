/- The law MshrBound, walked. -/
import Derived.Test.YtjnoaidceddpjaaDoorMshrN
import Derived.Test.YtjnoaidceddpjaaDoorRowKit
namespace Go.Proofs.YtjnoaidceddpjaaDoor
open Go.RowKit Go.Extern.Stop Go.Stop Go.Extern

theorem rising_step {l : List (Int × Int)} (h : Rising l) {i : Nat} {a b : Int × Int} (h1 : l[i]? = some a) (h2 : l[i + 1]? = some b) : a.1 < b.1 := by
  obtain ⟨l1, e1⟩ := List.getElem?_eq_some_iff.1 h1
  obtain ⟨l2, e2⟩ := List.getElem?_eq_some_iff.1 h2
  have := List.pairwise_iff_getElem.1 h.1 i (i + 1) l1 l2 (by omega)
  rw [e1, e2] at this
  exact this
set_option maxRecDepth 100000 in
set_option maxHeartbeats 8000000 in
theorem mshrBound_is (most : Int) (A : Option Addr) (len cap : Nat) (z : List Int) (w : World) (hrow : IsRow .i64 w A len cap z) (a : Nat → Addr) (S : Sents w a) :
    Calls Tryd.prog 11 #[.int .i64 most, .slice A len cap] w fun e w' => e = .returned (.bool true) ∧ Below w.heap.size w w' := by
  have HS := Lib.hid S
  clear S
  obtain ⟨n, hn, n1, n8⟩ : ∃ n : Nat, inOf most 1 8 = n ∧ 1 ≤ n ∧ n ≤ 8 := by
    have := inOf_le (n := most) (lo := 1) (hi := 8) (by omega)
    exact ⟨(inOf most 1 8).toNat, by omega, by omega, by omega⟩
  have W1 := within_is most 1 8 w (by omega) (by omega) (by omega)
  rw [hn] at W1
  have HW1 := Lib.hid W1
  clear W1 hn
  have HZ : Hid (∀ i : Nat, i < len → ∃ x : Int, ∃ ad, A = some ad ∧ w.cell? (ad.add i) = some (.int .i64 x)) := by
    intro i hi
    rcases hrow with ⟨_, h, _⟩ | ⟨x, rfl, h1, h2, h3, h4, _⟩
    · omega
    · exact ⟨_, x, rfl, h4 i (by omega)⟩
  clear hrow
  go_enter Tryd.func11, Tryd.ntmps11
  go_wp2_with fail
  refine HW1.out.mono ?_
  rintro e w1 ⟨rfl, hb1⟩
  have B1 := Lib.hid hb1
  clear hb1 HW1
  go_wp2_with fail
  refine (own_new n w1 (by omega) (by omega)).mono ?_
  rintro e w2 ⟨rfl, h⟩
  have H := Lib.hid h
  clear h
  have H2 := H
  generalize ht : w1.heap.size = t at *
  clear ht
  go_wp2_with fail
  go_loopw [8] (fun v wr => ∃ i : Nat, ∃ l : List (Int × Int), i ≤ len ∧ i ≤ 60 ∧ v = .int .i64 i ∧ Hid (OwnT w1 wr t n l) ∧ Hid (Rising l) ∧ l.length ≤ n) (fun v _ => 60 - (intOf v).toNat)
  case atStart => exact ⟨0, [], by omega, by omega, rfl, H, rising_nil, by simp⟩
  case round =>
    obtain ⟨i, l, hi, hi6, rfl, H, HR, hl⟩ := hrel
    by_cases hlt : i < len
    · by_cases h60 : i < 60
      · obtain ⟨x, ad, rfl, hx⟩ := HZ.out i hlt
        have hx1 : w2.cell? (ad.add i) = some (.int .i64 x) := (H2.out.base.cell (by have := cell_lt hx; have := B1.out.size; omega)).trans ((B1.out.cell (cell_lt hx)).trans hx)
        go_wp2_with fail
        refine (own_list w1 t n l _ H.out).mono ?_
        rintro e w3 ⟨v3, rfl, hr3, -, h⟩
        have H3 := Lib.hid h
        have hx3 : w3.cell? (ad.add i) = some (.int .i64 x) := (h.base.cell (by have := cell_lt hx; have := B1.out.size; omega)).trans ((B1.out.cell (cell_lt hx)).trans hx)
        have R3 := Lib.hid hr3
        clear h hr3 H hx1
        obtain ⟨A3, c3, rfl, -⟩ := R3.out.form
        go_wp2_with fail
        refine (within_is x (-1) 32 w3 (by omega) (by omega) (by omega)).mono ?_
        rintro e w4 ⟨rfl, hb⟩
        have H4 := Lib.hid (H3.out.below hb)
        have R4 := Lib.hid (R3.out.below hb)
        clear hb H3 R3 hx3 hx
        obtain ⟨hy1, hy2⟩ := inOf_le (n := x) (lo := -1) (hi := 32) (by omega)
        generalize inOf x (-1) 32 = y at *
        have hD := own_add_any w1 t n l y 1 w4 a (HS.out.of_below B1.out) H4.out HR.out (by omega)
        rcases hD with ⟨-, hno, hroom, h0, h32, -, -, hD⟩ | ⟨hc, hD⟩
        · have RI := Lib.hid (ins_rising y 1 l HR.out hno h0 h32)
          have LI := ins_length y 1 l
          have HD := Lib.hid hD
          clear hD hno H4 HR
          go_wp2_with fail
          refine HD.out.mono ?_
          rintro e w5 ⟨rfl, h⟩
          have H5 := Lib.hid h
          clear h HD R4
          generalize insOf y 1 l = l2 at *
          go_wp2_with fail
          refine (own_list w1 t n l2 w5 H5.out).mono ?_
          clear H5
          rintro e w6 ⟨v6, rfl, hr6, -, h⟩
          have H6 := Lib.hid h
          have R6 := Lib.hid hr6
          clear h hr6
          obtain ⟨A6, c6, rfl, hc6⟩ := R6.out.form
          have HC6 := Lib.hid hc6
          clear hc6 R6
          have q1 : ((l2.length : Nat) : Int) = (l.length : Int) + 1 := by omega
          have q2 : wrap64 ((l.length : Int) + 1) = (l.length : Int) + 1 := by unfold wrap64; omega
          have HLm := Lib.hid (rfl : l2.length = l2.length)
          generalize hmL : l2.length = mL at LI q1 HC6 ⊢
          have HLm : Hid (l2.length = mL) := hmL
          clear hmL
          generalize l.length = m at *
          subst LI
          go_wp2_with fail
          clear q1 q2
          have hmn : m + 1 ≤ n := by omega
          generalize m + 1 = mL at *
          have HRL := RI
          generalize l2 = L at *
          go_loopw [13] (fun v wr' => ∃ k : Nat, 1 ≤ k ∧ (k ≤ mL ∨ k = 1) ∧ v = .int .i64 k ∧ Hid (Below w6.heap.size w6 wr')) (fun v _ => 60 - (intOf v).toNat)
          case atStart => exact ⟨1, by omega, by omega, rfl, Below.refl _ _⟩
          case round =>
            obtain ⟨k, k1, kL, rfl, hbel⟩ := hrel
            by_cases hk : k < mL
            · obtain ⟨k, rfl⟩ : ∃ j, k = j + 1 := ⟨k - 1, by omega⟩
              obtain ⟨⟨x1, y1⟩, hxy1⟩ : ∃ m, L[k + 1]? = some m := ⟨_, List.getElem?_eq_getElem (by rw [HLm.out]; exact hk)⟩
              obtain ⟨⟨x0, y0⟩, hxy0⟩ : ∃ m, L[k]? = some m := ⟨_, List.getElem?_eq_getElem (by rw [HLm.out]; omega)⟩
              have hstep := rising_step HRL.out hxy0 hxy1
              obtain ⟨g, rfl, d1, -⟩ := HC6.out _ _ hxy1
              obtain ⟨g', hg, d0, -⟩ := HC6.out _ _ hxy0
              obtain rfl : g = g' := by injection hg with hg; injection hg
              clear hg hxy1 hxy0
              have e1 := (hbel.out.cell (cell_lt d1)).trans d1
              have e0 := (hbel.out.cell (cell_lt d0)).trans d0
              clear d1 d0
              have s6 : decide (x1 ≤ x0) = false := by simp; exact hstep
              clear hstep
              go_wp2_with fail
              have s7 : (k : Int) + 1 < (mL : Int) := by omega
              have s8 : (k : Int) < (mL : Int) := by omega
              have s9 : (0 : Int) ≤ (k : Int) := by omega
              have s2 : (0 : Int) ≤ (k : Int) + 1 := by omega
              have s5 : wrap64 ((k : Int) + 1 - 1) = (k : Int) := by unfold wrap64; omega
              have s4 : wrap64 ((k : Int) + 1 + 1) = (k : Int) + 1 + 1 := by unfold wrap64; omega
              have s3 : ((k : Int) + 1).toNat = k + 1 := by omega
              go_quiet (fail)
              go_wp2_with fail
              clear s2 s3 s4 s5 s7 s8 s9
              go_roundw
              case rel => exact ⟨k + 1 + 1, by omega, by omega, by go_num, hbel.out.trans (below_drewN _ _ _)⟩
              case measure => simp [intOf]; omega
            · have H7 := Lib.hid (H6.out.below hbel.out)
              by_cases h3 : i % 3 = 2
              · have q3 : Int.tmod (i : Int) 3 = 2 := by rw [Int.tmod_eq_emod_of_nonneg (by omega)]; omega
                clear h3
                by_cases hm : 0 < mL
                · obtain ⟨⟨x0, y0⟩, hxy0⟩ : ∃ m, L[0]? = some m := ⟨_, List.getElem?_eq_getElem (by rw [HLm.out]; exact hm)⟩
                  obtain ⟨g, rfl, d0, -⟩ := HC6.out _ _ hxy0
                  have e0 := (hbel.out.cell (cell_lt d0)).trans d0
                  rw [Nat.zero_mul] at e0
                  clear d0
                  have hD := own_drop w1 t n L x0 _ H7.out
                  rw [has_mem (List.mem_of_getElem? hxy0) rfl] at hD
                  have HD := Lib.hid hD
                  clear hD hxy0
                  go_wp2_with fail
                  refine HD.out.mono ?_
                  rintro e w8 ⟨rfl, h⟩
                  have H8 := Lib.hid h
                  clear h HD
                  go_wp2_with fail
                  go_roundw
                  case rel => exact ⟨i + 1, dropOf x0 L, by omega, by omega, by go_num, H8, drop_rising _ _ HRL.out, by have := drop_length x0 L; have := HLm.out; omega⟩
                  case measure => simp [intOf]; omega
                · obtain rfl : mL = 0 := by omega
                  go_wp2_with fail
                  go_roundw
                  case rel => exact ⟨i + 1, L, by omega, by omega, by go_num, H7, HRL, by have := HLm.out; omega⟩
                  case measure => simp [intOf]; omega
              · have q3 : (Int.tmod (i : Int) 3 == 2) = false := by rw [Int.tmod_eq_emod_of_nonneg (by omega)]; simp; omega
                have q4 : ¬ Int.tmod (i : Int) 3 = 2 := by rw [Int.tmod_eq_emod_of_nonneg (by omega)]; omega
                clear h3
                go_wp2_with fail
                go_roundw
                case rel => exact ⟨i + 1, L, by omega, by omega, by go_num, H7, HRL, by have := HLm.out; omega⟩
                case measure => simp [intOf]; omega
        · have HD := Lib.hid hD
          clear hD
          generalize a (addCode n l y 1) = b at *
          obtain ⟨pv, hpv⟩ : ∃ pv, sayAdd y b = .iface 111 pv := ⟨_, rfl⟩
          rw [hpv] at HD
          clear hpv
          have he1 := fun w : World => run_eql_held_nil (P := Tryd.prog) w 24 111 pv (by kernel_rfl)
          have he2 := fun w : World => run_neq_held_nil (P := Tryd.prog) w 24 111 pv (by kernel_rfl)
          clear hc
          go_wp2_with fail
          refine HD.out.mono ?_
          rintro e w5 ⟨rfl, hb⟩
          have H5 := Lib.hid (H4.out.below hb)
          have R5 := Lib.hid (R4.out.below hb)
          clear hb HD R4 H4
          go_wp2_with fail
          refine (own_list2 w1 t n l w5 H5.out).mono ?_
          rintro e w6 ⟨v6, rfl, hr6, -, hb56⟩
          have H6 := Lib.hid (H5.out.below hb56)
          have R6 := Lib.hid hr6
          clear hr6 H5
          have R5' := Lib.hid (R5.out.below hb56)
          have HSame := Lib.hid (sameMiss _ _ l l w6 R6.out R5'.out (by omega) (by omega))
          obtain ⟨A6, c6, rfl, hc6⟩ := R6.out.form
          have HC6 := Lib.hid hc6
          clear hc6 R6 R5 R5' hb56
          rw [show decide (l = l) = true by simp] at HSame
          generalize hmL : l.length = mL at hl HC6 HSame ⊢
          have HLm : Hid (l.length = mL) := hmL
          clear hmL
          have hmn : mL ≤ n := hl
          have q1 : ((mL : Int) == (mL : Int) + 1) = false := by simp; omega
          have q2 : wrap64 ((mL : Int) + 1) = (mL : Int) + 1 := by unfold wrap64; omega
          have q3 : ¬ (n : Int) < (mL : Int) := by omega
          have q4 : decide (n < mL) = false := by simp; omega
          go_wp2_with fail
          refine HSame.out.mono ?_
          rintro e w7 ⟨rfl, hb67⟩
          have H7 := Lib.hid (H6.out.below hb67)
          have HC7 : Hid (∀ i m, l[i]? = some m → ∃ g, A6 = some ⟨g, 0, none⟩ ∧ w7.cell? ⟨g, i * 2, none⟩ = some (.int .i64 m.1) ∧ w7.cell? ⟨g, i * 2 + 1, none⟩ = some (.int .i64 m.2)) := fun i m h => by
            obtain ⟨g, e, d0, d1⟩ := HC6.out i m h
            exact ⟨g, e, (hb67.cell (cell_lt d0)).trans d0, (hb67.cell (cell_lt d1)).trans d1⟩
          clear H6 HC6 HSame hb67
          have H6 := H7
          have HC6 := HC7
          clear H7 HC7
          clear q1 q2 q3 he1 he2 q4
          go_wp2_with fail
          have HRL := HR
          generalize l = L at *
          go_loopw [13] (fun v wr' => ∃ k : Nat, 1 ≤ k ∧ (k ≤ mL ∨ k = 1) ∧ v = .int .i64 k ∧ Hid (Below w7.heap.size w7 wr')) (fun v _ => 60 - (intOf v).toNat)
          case atStart => exact ⟨1, by omega, by omega, rfl, Below.refl _ _⟩
          case round =>
            obtain ⟨k, k1, kL, rfl, hbel⟩ := hrel
            by_cases hk : k < mL
            · obtain ⟨k, rfl⟩ : ∃ j, k = j + 1 := ⟨k - 1, by omega⟩
              obtain ⟨⟨x1, y1⟩, hxy1⟩ : ∃ m, L[k + 1]? = some m := ⟨_, List.getElem?_eq_getElem (by rw [HLm.out]; exact hk)⟩
              obtain ⟨⟨x0, y0⟩, hxy0⟩ : ∃ m, L[k]? = some m := ⟨_, List.getElem?_eq_getElem (by rw [HLm.out]; omega)⟩
              have hstep := rising_step HRL.out hxy0 hxy1
              obtain ⟨g, rfl, d1, -⟩ := HC6.out _ _ hxy1
              obtain ⟨g', hg, d0, -⟩ := HC6.out _ _ hxy0
              obtain rfl : g = g' := by injection hg with hg; injection hg
              clear hg hxy1 hxy0
              have e1 := (hbel.out.cell (cell_lt d1)).trans d1
              have e0 := (hbel.out.cell (cell_lt d0)).trans d0
              clear d1 d0
              have s6 : decide (x1 ≤ x0) = false := by simp; exact hstep
              clear hstep
              go_wp2_with fail
              have s7 : (k : Int) + 1 < (mL : Int) := by omega
              have s8 : (k : Int) < (mL : Int) := by omega
              have s9 : (0 : Int) ≤ (k : Int) := by omega
              have s2 : (0 : Int) ≤ (k : Int) + 1 := by omega
              have s5 : wrap64 ((k : Int) + 1 - 1) = (k : Int) := by unfold wrap64; omega
              have s4 : wrap64 ((k : Int) + 1 + 1) = (k : Int) + 1 + 1 := by unfold wrap64; omega
              have s3 : ((k : Int) + 1).toNat = k + 1 := by omega
              go_quiet (fail)
              go_wp2_with fail
              clear s2 s3 s4 s5 s7 s8 s9
              go_roundw
              case rel => exact ⟨k + 1 + 1, by omega, by omega, by go_num, hbel.out.trans (below_drewN _ _ _)⟩
              case measure => simp [intOf]; omega
            · have H7 := Lib.hid (H6.out.below hbel.out)
              by_cases h3 : i % 3 = 2
              · have q3 : Int.tmod (i : Int) 3 = 2 := by rw [Int.tmod_eq_emod_of_nonneg (by omega)]; omega
                clear h3
                by_cases hm : 0 < mL
                · obtain ⟨⟨x0, y0⟩, hxy0⟩ : ∃ m, L[0]? = some m := ⟨_, List.getElem?_eq_getElem (by rw [HLm.out]; exact hm)⟩
                  obtain ⟨g, rfl, d0, -⟩ := HC6.out _ _ hxy0
                  have e0 := (hbel.out.cell (cell_lt d0)).trans d0
                  rw [Nat.zero_mul] at e0
                  clear d0
                  have hD := own_drop w1 t n L x0 _ H7.out
                  rw [has_mem (List.mem_of_getElem? hxy0) rfl] at hD
                  have HD := Lib.hid hD
                  clear hD hxy0
                  go_wp2_with fail
                  refine HD.out.mono ?_
                  rintro e w8 ⟨rfl, h⟩
                  have H8 := Lib.hid h
                  clear h HD
                  go_wp2_with fail
                  go_roundw
                  case rel => exact ⟨i + 1, dropOf x0 L, by omega, by omega, by go_num, H8, drop_rising _ _ HRL.out, by have := drop_length x0 L; have := HLm.out; omega⟩
                  case measure => simp [intOf]; omega
                · obtain rfl : mL = 0 := by omega
                  go_wp2_with fail
                  go_roundw
                  case rel => exact ⟨i + 1, L, by omega, by omega, by go_num, H7, HRL, by have := HLm.out; omega⟩
                  case measure => simp [intOf]; omega
              · have q3 : (Int.tmod (i : Int) 3 == 2) = false := by rw [Int.tmod_eq_emod_of_nonneg (by omega)]; simp; omega
                have q4 : ¬ Int.tmod (i : Int) 3 = 2 := by rw [Int.tmod_eq_emod_of_nonneg (by omega)]; omega
                clear h3
                go_wp2_with fail
                go_roundw
                case rel => exact ⟨i + 1, L, by omega, by omega, by go_num, H7, HRL, by have := HLm.out; omega⟩
                case measure => simp [intOf]; omega
      · have hn2 : ¬ (i : Int) < 60 := by omega
        go_wp2_with fail
        refine (mshrRuns_is _ a (H.out.sents (HS.out.of_below B1.out))).mono ?_
        rintro e w9 ⟨rfl, hb⟩
        have H9 := Lib.hid (H.out.below hb)
        clear hb
        go_wp2
        go_ret
        exact ⟨rfl, B1.out.trans (H9.out.base.mono B1.out.size)⟩
    · have hn2 : ¬ (i : Int) < (len : Int) := by omega
      go_wp2_with fail
      refine (mshrRuns_is _ a (H.out.sents (HS.out.of_below B1.out))).mono ?_
      rintro e w9 ⟨rfl, hb⟩
      have H9 := Lib.hid (H.out.below hb)
      clear hb
      go_wp2
      go_ret
      exact ⟨rfl, B1.out.trans (H9.out.base.mono B1.out.size)⟩
end Go.Proofs.YtjnoaidceddpjaaDoor
