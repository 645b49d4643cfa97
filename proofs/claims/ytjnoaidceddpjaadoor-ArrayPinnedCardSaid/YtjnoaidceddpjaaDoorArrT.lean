/- The law ArrayPinned, walked. -/
import Derived.Test.YtjnoaidceddpjaaDoorArrS
namespace Go.Proofs.YtjnoaidceddpjaaDoor
open Go.RowKit Go.Extern.Stop Go.Stop Go.Extern

/-- Is the number at this place even? -/
def evenAt (len : Nat) (z : List Int) (i : Nat) : Bool := decide (i < len) && decide (Int.tmod (z.getD i 0) 2 = 0)
theorem IntRow.full {B : Nat} {w : World} {v : Value} {zs : List Int} {k : Nat} (h : IntRow B w v zs) (hk : zs.length = k) (h0 : 0 < k) : ∃ g c, v = .slice (some ⟨g, 0, none⟩) k c ∧ (∀ (j : Nat) (x : Int), zs[j]? = some x → w.cell? ⟨g, j, none⟩ = some (.int .i64 x)) ∧ B ≤ g ∧ g < w.heap.size := by
  subst hk
  obtain ⟨g, c, rfl, _, h3, h4⟩ := h.cell (List.getElem?_eq_getElem h0)
  refine ⟨g, c, rfl, fun j x hx => ?_, h3, h4⟩
  obtain ⟨g', c', e, h5, _⟩ := h.cell hx
  simp at e
  rw [e.1]; exact h5
set_option maxRecDepth 100000 in
set_option maxHeartbeats 4000000 in
theorem arrayPinned_is (sets ways line : Int) (A3 : Option Addr) (len3 cap3 : Nat) (z3 : List Int) (w : World) (hrow : IsRow .i64 w A3 len3 cap3 z3) (ad : Nat → Addr) (HSE : Sents w ad) :
    Calls Tryd.prog 4 #[.int .i64 sets, .int .i64 ways, .int .i64 line, .slice A3 len3 cap3] w fun e w' => e = .returned (.bool true) ∧ Below w.heap.size w w' := by
  have HS := Lib.hid HSE
  clear HSE
  obtain ⟨p, hp, W1⟩ := within_nat sets 2 (by omega)
  obtain ⟨q, hq, W2⟩ := within_nat ways 2 (by omega)
  obtain ⟨n, hn, ep⟩ := pow_some p hp
  obtain ⟨k, hk, eq⟩ := pow_some q hq
  have HW1 := Lib.hid W1
  have HW2 := Lib.hid W2
  have n8 : n ≤ 4 := by simp at hn; omega
  have k8 : k ≤ 4 := by simp at hk; omega
  have ep' : (2 : Int) ^ p = (n : Nat) := by rw [← ep]; simp
  have eq' : (2 : Int) ^ q = (k : Nat) := by rw [← eq]; simp
  have HN := Lib.hid hn
  have HK := Lib.hid hk
  have row_cells : ∀ i : Nat, i < len3 → ∃ x, A3 = some x ∧ w.cell? (x.add i) = some (.int .i64 (z3.getD i 0)) := by
    intro i hi
    rcases hrow with ⟨_, h, _⟩ | ⟨x, rfl, h1, h2, h3, h4, _⟩
    · omega
    · exact ⟨x, rfl, h4 i (by omega)⟩
  have HZ3 := Lib.hid row_cells
  have n1 : 0 < n := by simp at hn; omega
  have k1 : 0 < k := by simp at hk; omega
  obtain ⟨h, hh, W3⟩ := within_nat line ((n : Nat) - 1) (by omega)
  have hhn : h < n := by omega
  have HW3 := Lib.hid W3
  clear W1 W2 W3 ep eq hn hk row_cells hrow
  go_enter Tryd.func4, Tryd.ntmps4
  go_wp2_with fail
  go_quiet (first | (go_at_call 22; (with_reducible refine Calls.quiet_of_same (HW1.out _))) | (go_at_call 22; (with_reducible refine Calls.quiet_of_same (HW2.out _))))
  go_wp2_with fail
  have HB0 : Hid (Below w.heap.size w (w.drewN nq)) := below_drewN _ w nq
  generalize w.drewN nq = w0 at *
  have HS0 := Lib.hid (HS.out.of_below HB0.out)
  have hpn := isPow_some HN.out
  have hpk := isPow_some HK.out
  refine (arr_new n k w0 hpn hpk).mono ?_
  rintro e w1 ⟨a, gs, g, gl, rfl, H⟩
  have HU : Hid (∀ q, q = a ∨ Mine gs gl q → q < w1.heap.size) := H.under
  have HV : Hid (w0.heap.size ≤ w1.heap.size) := H.base.size
  rw [fullH_new g k n h] at H
  have H1 := Lib.hid H
  clear H HW1 HW2 hpn hpk ep' eq'
  go_wp2_with fail
  refine (HW3.out _).mono ?_
  rintro e wx ⟨rfl, rfl⟩
  clear HW3
  go_wp2_with fail
  go_loopw [14, 15] (fun v u wr => ∃ i : Nat, i ≤ k ∧ u = .int .i64 i ∧ Hid (IntRow wx.heap.size wr v (lineL h n i)) ∧ Hid (wx.heap.size ≤ wr.heap.size) ∧ Hid (Arr w0 wr a gs k gl (fullH g k n h (fillH h n k i)))) (fun _ u _ => k - (intOf u).toNat)
  case atStart => exact ⟨0, by omega, rfl, IntRow.nil _ _, Nat.le_refl _, H1⟩
  case round =>
    clear H1
    obtain ⟨i, hi, rfl, HR, HSZ, H⟩ := hrel
    by_cases hlt : i < k
    · obtain ⟨f2, f3, f4, f5⟩ := pin_round n HN.out k HK.out h hhn i hlt
      obtain ⟨t, ht⟩ : ∃ t : Nat, t = n * i := ⟨_, rfl⟩
      obtain ⟨m, hm⟩ : ∃ m : Nat, m = h + n * i := ⟨_, rfl⟩
      have hprod : (n : Int) * (i : Int) = ((n * i : Nat) : Int) := by simp
      have hw : wrap64 ((n : Int) * (i : Int)) = (t : Nat) := by rw [ht, hprod]; unfold wrap64; omega
      have hw2 : wrap64 ((h : Int) + (t : Int)) = (m : Nat) := by rw [hm, ht]; unfold wrap64; omega
      have HLL : Hid (lineL h n i ++ [(m : Int)] = lineL h n (i + 1)) := by
        show _ = _
        rw [hm, lineL_succ]
      rw [← hm] at f2 f3 f4 f5
      have F2 := Lib.hid f2
      have F3 := Lib.hid f3
      have F5 := Lib.hid f5
      have HLN : Hid ((lineL h n i).length < 1000) := by show _ < _; simp [lineL]; omega
      clear hm ht f2 f3 f5 hprod
      have HN1 : Hid (∀ o, Turned (fun q => wx.heap.size ≤ q) wr (wr.alloc o) ∧ IntRow wx.heap.size (wr.alloc o) u14 (lineL h n i)) := fun o => by
        have hb := (Below.refl wr.heap.size wr).alloc (Nat.le_refl _) o
        exact ⟨.of_below hb, HR.out.below hb⟩
      have HNC : Hid ((wr.alloc (.cells #[.int .i64 m] 3)).cell? ⟨wr.heap.size, 0, none⟩ = some (.int .i64 m)) := new_at rfl 0 (.int .i64 m) rfl
      have HNS : Hid (wx.heap.size ≤ (wr.alloc (.cells #[.int .i64 m] 3)).heap.size) := by have := HSZ.out; show _ ≤ _; simp; omega
      clear HR
      go_wp2_with (at_builtin; refine wpList_append_int rfl (.tmp 52) (.tmp 58) rfl wx.heap.size _ (lineL h n i) rfl (HN1.out _).2 wr.heap.size m rfl HNC.out HLN.out HNS.out ?_; intro v' w2 hr hT; have HR2 := Lib.hid hr; have HT2 := Lib.hid ((HN1.out _).1.trans hT); clear hr hT)
      have H2 := Lib.hid (H.out.above HU.out HV.out HT2.out)
      have HSZ2 : Hid (wx.heap.size ≤ w2.heap.size) := by have := HSZ.out; have := HT2.out.size; show _ ≤ _; omega
      rw [HLL.out] at HR2
      clear HN1 HNC HNS HLL HLN HT2 HSZ H
      refine (of_is m w2).mono ?_
      rintro e w3 ⟨rfl, hb⟩
      have H3 := Lib.hid (H2.out.below hb)
      have HR3 := Lib.hid (HR2.out.below hb)
      have HSZ3 : Hid (wx.heap.size ≤ w3.heap.size) := Nat.le_trans HSZ2.out hb.size
      clear hb H2 HR2 HSZ2
      go_wp2_with fail
      refine (arr_put H3.out m _ f4 (fullH_get g k n h _ m hhn F5.out) (ofE m) rfl (ofE_right _) i F2.out).mono ?_
      rintro e w4 ⟨rfl, hA, hT⟩
      rw [fullH_set g k n h _ _ m F5.out, F3.out] at hA
      have H4 := Lib.hid hA
      have HR4 := Lib.hid (HR3.out.turned hT fun q hq => HU.out q (.inr hq))
      have HSZ4 : Hid (wx.heap.size ≤ w4.heap.size) := Nat.le_trans HSZ3.out hT.size
      clear hA hT H3 HR3 HSZ3 hw hw2 F2 F3 F5 f4
      go_wp2
      go_roundw
      case rel => exact ⟨i + 1, by omega, by go_num, HR4, HSZ4, H4⟩
      case measure => simp [intOf]; omega
    · obtain rfl : i = k := by omega
      obtain ⟨f1, f2, f3⟩ := pin_end n HN.out i HK.out h hhn
      obtain ⟨t, ht⟩ : ∃ t : Nat, t = n * i := ⟨_, rfl⟩
      obtain ⟨m, hm⟩ : ∃ m : Nat, m = h + n * i := ⟨_, rfl⟩
      have hprod : (n : Int) * (i : Int) = ((n * i : Nat) : Int) := by simp
      have hw : wrap64 ((n : Int) * (i : Int)) = (t : Nat) := by rw [ht, hprod]; unfold wrap64; omega
      have hw2 : wrap64 ((h : Int) + (t : Int)) = (m : Nat) := by rw [hm, ht]; unfold wrap64; omega
      rw [← hm] at f1 f2 f3
      have F1 := Lib.hid f1
      have F3 := Lib.hid f3
      clear hm ht f1 f3 hprod
      go_wp2_with fail
      refine (arr_room H.out m _ f2 (fullH_get g i n h _ m hhn F3.out)).mono ?_
      rintro e wy ⟨rfl, hA, hb⟩
      have H2 := Lib.hid hA
      have HR2 := Lib.hid (HR.out.below hb)
      have ef : roomIn (m : Int) (fillH h n i i) = false := F1.out
      simp only [ef]
      clear hA hb ef H HR HSZ hw hw2
      have HBY : Hid (Below w.heap.size w wy) := HB0.out.trans (H2.out.base.mono HB0.out.size)
      obtain ⟨gT, cT, rfl, hT1, _, hT2⟩ := HR2.out.full (k := i) (by simp [lineL]) k1
      have HTC : Hid (∀ j, j < i → wy.cell? ⟨gT, j, none⟩ = some (.int .i64 ((h + n * j : Nat) : Int))) := fun j hj => hT1 j _ (lineL_get h n i j hj)
      have HTG := Lib.hid hT2
      clear hT1 hT2 HR2
      go_wp2_with fail
      go_loopw [17, 18, 19] (fun v l u wr => ∃ j c : Nat, j ≤ i ∧ c ≤ j ∧ u = .int .i64 j ∧ l = .int .i64 ((i : Int) - (c : Int)) ∧ Hid (c = (pinL h n (evenAt len3 z3) j).length) ∧ Hid (IntRow wy.heap.size wr v (pinL h n (evenAt len3 z3) j)) ∧ Hid (Below wy.heap.size wy wr)) (fun _ _ u _ => i - (intOf u).toNat)
      case atStart => exact ⟨0, 0, by omega, by omega, rfl, by go_num, rfl, IntRow.nil _ _, Below.refl _ _⟩
      case round =>
        obtain ⟨j, c, hj, hcj, rfl, rfl, HC, HR, HB⟩ := hrel
        by_cases hjk : j < i
        · obtain ⟨m', hm'⟩ : ∃ m' : Nat, m' = h + n * j := ⟨_, rfl⟩
          have htc := HTC.out j hjk
          rw [← hm'] at htc
          have htc2 := (HB.out.cell (p := ⟨gT, j, none⟩) HTG.out).trans htc
          have HPS := Lib.hid (pinL_succ h n (evenAt len3 z3) j)
          rw [← hm'] at HPS
          have HM := Lib.hid hm'
          clear htc hm'
          by_cases hl : j < len3
          · obtain ⟨xa, rfl, hx⟩ := HZ3.out j hl
            have hx1 := (HBY.out.cell (cell_lt hx)).trans hx
            have hx2 := (HB.out.cell (by have := cell_lt hx1; exact this)).trans hx1
            have HE : Hid (evenAt len3 z3 j = decide (Int.tmod (z3.getD j 0) 2 = 0)) := by
              show _ = _
              simp [evenAt, hl]
            generalize z3.getD j 0 = x at *
            clear hx hx1
            by_cases he : Int.tmod x 2 = 0
            · have he2 : (Int.tmod x 2 == 0) = true := by simp [he]
              have HPE : Hid (pinL h n (evenAt len3 z3) j ++ [(m' : Int)] = pinL h n (evenAt len3 z3) (j + 1)) := by
                show _ = _
                rw [HPS.out, if_pos (by rw [HE.out]; simp [he])]
              have HLN : Hid ((pinL h n (evenAt len3 z3) j).length < 1000) := by show _ < _; rw [← HC.out]; omega
              have HN1 : Hid (∀ o, Below wy.heap.size wy (wr.alloc o) ∧ IntRow wy.heap.size (wr.alloc o) u17 (pinL h n (evenAt len3 z3) j)) := fun o => by
                have hb := (Below.refl wr.heap.size wr).alloc (Nat.le_refl _) o
                exact ⟨HB.out.trans (hb.mono HB.out.size), HR.out.below hb⟩
              have HNC : Hid ((wr.alloc (.cells #[.int .i64 m'] 3)).cell? ⟨wr.heap.size, 0, none⟩ = some (.int .i64 m')) := new_at rfl 0 (.int .i64 m') rfl
              clear HR HB
              go_wp2_with (at_builtin; refine wpList_append_int rfl (.tmp 104) (.tmp 109) rfl wy.heap.size _ (pinL h n (evenAt len3 z3) j) rfl (HN1.out _).2 wr.heap.size m' rfl HNC.out HLN.out (HN1.out _).1.size ?_; intro v' w2 hr hT; have HR2 := Lib.hid hr; have HB2 := Lib.hid ((HN1.out _).1.trans (hT.below (HN1.out _).1.size fun q hq e => by omega)); clear hr hT)
              have HC2 : Hid (c + 1 = (pinL h n (evenAt len3 z3) (j + 1)).length) := by show _ = _; rw [← HPE.out, List.length_append, ← HC.out]; rfl
              rw [HPE.out] at HR2
              clear HPE HPS HE HN1 HNC HLN HC
              go_roundw
              case rel => exact ⟨j + 1, c + 1, by omega, by omega, by go_num, by go_num, HC2, HR2, HB2⟩
              case measure => simp [intOf]; omega
            · have he2 : (Int.tmod x 2 == 0) = false := by simp [he]
              have HPE : Hid (pinL h n (evenAt len3 z3) (j + 1) = pinL h n (evenAt len3 z3) j) := by
                show _ = _
                rw [HPS.out, if_neg (by rw [HE.out]; simp [he]), List.append_nil]
              go_wp2_with fail
              go_roundw
              case rel => exact ⟨j + 1, c, by omega, by omega, by go_num, rfl, by rw [HPE.out]; exact HC, by rw [HPE.out]; exact HR, HB⟩
              case measure => simp [intOf]; omega
          · have HPE : Hid (pinL h n (evenAt len3 z3) (j + 1) = pinL h n (evenAt len3 z3) j) := by
              show _ = _
              rw [HPS.out, if_neg (by simp [evenAt, hl]), List.append_nil]
            go_wp2_with fail
            go_roundw
            case rel => exact ⟨j + 1, c, by omega, by omega, by go_num, rfl, by rw [HPE.out]; exact HC, by rw [HPE.out]; exact HR, HB⟩
            case measure => simp [intOf]; omega
        · obtain rfl : j = i := by omega
          have hv0 := (victim_all 0 (by omega) j (pow_mem (isPow_some HK.out))).2
          have hall := pin_all n HN.out j HK.out h hhn (victimB j 0) hv0 (evenAt len3 z3 0) (evenAt len3 z3 1) (evenAt len3 z3 2) (evenAt len3 z3 3)
          have hsome := pin_some n HN.out j HK.out h hhn (victimB j 0) hv0 (evenAt len3 z3 0) (evenAt len3 z3 1) (evenAt len3 z3 2) (evenAt len3 z3 3)
          have hmask := pinL_mask h n (evenAt len3 z3) j k8
          rw [← hmask] at hall hsome
          have HHB : Hid ((pinL h n (evenAt len3 z3) j).length < 1000) := by show _ < _; rw [← HC.out]; omega
          rw [← HC.out] at hall hsome
          generalize pinL h n (evenAt len3 z3) j = zs at *
          clear hmask hv0
          obtain ⟨A, cp, rfl, hcp, hC, hown⟩ := HR.out.shape
          have HA := Lib.hid (H2.out.below HB.out)
          have HV : Hid _ := arr_victim HA.out m _ f2 (fullH_get g j n h _ m hhn F3.out) F1.out A cp zs hC hcp HHB.out
          by_cases hck : c = j
          · have hx := hall hck
            have HV2 : Hid _ := HV.out
            rw [show victimOf (SetSt.mk 0 (g + h) (fillH h n j j)).es (victimB j (SetSt.mk 0 (g + h) (fillH h n j j)).bits) zs = -1 from hx] at HV2
            clear hall hsome HV hx hC hown
            have HL : Hid (zs.length = c) := HC.out.symm
            subst hck
            go_wp2_with fail
            refine Calls.mono HV2.out ?_
            rintro e wz ⟨rfl, hA, hb⟩
            have H3 := Lib.hid hA
            clear hA hb HV2
            go_wp2_with fail
            refine (arrayRuns_is wz ad (HS0.out.of_below H3.out.base)).mono ?_
            rintro e wG ⟨rfl, hb⟩
            have HG := Lib.hid (H3.out.below hb)
            clear hb H3
            go_wp2
            go_ret
            exact ⟨rfl, HB0.out.trans (HG.out.base.mono HB0.out.size)⟩
          · obtain ⟨⟨r, hr, hx⟩, hne, h31⟩ := hsome hck
            obtain ⟨g1, g2, g3, g4⟩ := pin_get n HN.out j HK.out h hhn r hr
            obtain ⟨m2, hm2⟩ : ∃ m2 : Nat, m2 = h + n * r := ⟨_, rfl⟩
            rw [← hm2] at hx g1 g2 g3 g4
            rw [hx] at hne h31
            have HV2 : Hid _ := HV.out
            rw [show victimOf (SetSt.mk 0 (g + h) (fillH h n j j)).es (victimB j (SetSt.mk 0 (g + h) (fillH h n j j)).bits) zs = (m2 : Nat) from hx] at HV2
            have HNE := Lib.hid hne
            have H31 := Lib.hid h31
            have G1 := Lib.hid g1
            have G2 := Lib.hid g2
            have G4 := Lib.hid g4
            have HL : Hid (zs.length = c) := HC.out.symm
            have hlc : c < j := by omega
            have HCP := Lib.hid hcp
            clear hall hsome HV hx hC hown hne h31 g1 g2 g4 hm2 hck hcp
            go_wp2_with fail
            refine Calls.mono HV2.out ?_
            rintro e wz ⟨rfl, hA, hb⟩
            have H3 := Lib.hid hA
            have HR3 := Lib.hid (HR.out.below hb)
            have HB3 : Hid (Below wy.heap.size wy wz) := HB.out.trans (hb.mono HB.out.size)
            clear hA hb HV2 HR HA HB
            have HR4 : Hid (IntRow wy.heap.size wz (.slice A c cp) zs) := by rw [← HL.out]; exact HR3
            clear HR3
            rw [HL.out]
            go_wp2_with fail
            go_loopw [126] (fun v wr => ∃ q : Nat, q ≤ c ∧ v = .int .i64 q ∧ wr = wz) (fun v _ => c - (intOf v).toNat)
            case atStart => exact ⟨0, by omega, rfl, by first | rfl | trivial⟩
            case round =>
              obtain ⟨q, hq, rfl, rfl⟩ := hrel
              by_cases hqc : q < c
              · obtain ⟨x, hx⟩ : ∃ x, zs[q]? = some x := ⟨_, List.getElem?_eq_getElem (by rw [HL.out]; exact hqc)⟩
                obtain ⟨gA, cA, e1, hcell, _, _⟩ := HR4.out.cell hx
                have hxne : ((m2 : Nat) : Int) ≠ x := HNE.out x (List.mem_of_getElem? hx)
                have hxb : (((m2 : Nat) : Int) == x) = false := by simpa using hxne
                simp only [Value.slice.injEq] at e1
                obtain ⟨rfl, _, _⟩ := e1
                clear hx
                go_wp2_with fail
                go_roundw
                case rel => exact ⟨q + 1, by omega, by go_num, by first | rfl | trivial⟩
                case measure => simp [intOf]; omega
              · obtain rfl : q = c := by omega
                go_wp2_with fail
                refine (arr_get H3.out m2 _ g3 (fullH_get g j n h _ m2 hhn G4.out) r _ G1.out G2.out).mono ?_
                rintro e wu ⟨rfl, hA, hb⟩
                have H4 := Lib.hid hA
                have HR5 := Lib.hid (HR4.out.below hb)
                have HB5 : Hid (wy.heap.size ≤ wu.heap.size) := Nat.le_trans HB3.out.size hb.size
                clear hA hb H3 HR4 HB3
                have HX : ∀ o o', Below wu.heap.size wu ((wu.alloc o).alloc o') := fun o o' => ((Below.refl _ _).alloc (Nat.le_refl _) o).trans (((Below.refl _ _).alloc (Nat.le_refl _) o').mono (by simp))
                have HN1 : Hid (∀ o o', wy.heap.size ≤ ((wu.alloc o).alloc o').heap.size ∧ IntRow wy.heap.size ((wu.alloc o).alloc o') (.slice A q cp) zs ∧ Arr w0 ((wu.alloc o).alloc o') a gs j gl (fullH g j n h (fillH h n j j))) := fun o o' => ⟨Nat.le_trans HB5.out (HX o o').size, HR5.out.below (HX o o'), H4.out.below (HX o o')⟩
                have HNC : Hid (∀ o, ((wu.alloc o).alloc (.cells #[.int .i64 31] 3)).cell? ⟨wu.heap.size + 1, 0, none⟩ = some (.int .i64 31)) := fun o => new_at (by simp) 0 (.int .i64 31) rfl
                have HLN : Hid (zs.length < 1000) := by show _ < _; rw [HL.out]; omega
                have HUY : Hid (∀ p, p = a ∨ Mine gs gl p → p < wy.heap.size) := H2.out.under
                have HVY : Hid (w0.heap.size ≤ wy.heap.size) := H2.out.base.size
                clear HX
                simp only [Ent.val, ofE]
                go_wp2_with (at_builtin; refine wpList_append_int_if (by rfl) (.tmp 144) (.tmp 145) rfl wy.heap.size _ zs rfl (HN1.out _ _).2.1 (wu.heap.size + 1) 31 rfl (HNC.out _) HLN.out (HN1.out _ _).1 ?_; intro v' w2 hr hT; have HR6 := Lib.hid hr; have H6 := Lib.hid ((HN1.out _ _).2.2.above HUY.out HVY.out hT); clear hr hT)
                obtain ⟨A', cp', rfl, hcp, hC, _⟩ := HR6.out.shape
                have HV6 : Hid _ := arr_victim H6.out m _ f2 (fullH_get g j n h _ m hhn F3.out) F1.out A' cp' (zs ++ [31]) hC hcp (by have := HL.out; rw [List.length_append, List.length_singleton]; omega)
                rw [show victimOf (SetSt.mk 0 (g + h) (fillH h n j j)).es (victimB j (SetSt.mk 0 (g + h) (fillH h n j j)).bits) (zs ++ [31]) = (m2 : Nat) from H31.out] at HV6
                clear hcp hC HR6 HN1 HNC HR5 H4
                refine Calls.mono HV6.out ?_
                rintro e w7 ⟨rfl, hA, hb⟩
                have H7 := Lib.hid hA
                clear hA hb HV6 H6
                go_wp2_with fail
                refine (arrayRuns_is w7 ad (HS0.out.of_below H7.out.base)).mono ?_
                rintro e wG ⟨rfl, hb⟩
                have HG := Lib.hid (H7.out.below hb)
                clear hb H7
                go_wp2
                go_ret
                exact ⟨rfl, HB0.out.trans (HG.out.base.mono HB0.out.size)⟩
end Go.Proofs.YtjnoaidceddpjaaDoor
