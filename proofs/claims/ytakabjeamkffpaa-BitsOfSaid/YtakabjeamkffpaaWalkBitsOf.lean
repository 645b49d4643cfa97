/- A set of cores has these, and no others; its list makes it again; more of them change nothing. For any cores and any core: the walk. -/
import Derived.Test.YtakabjeamkffpaaWalkRoomy
namespace Go.Proofs.Ytakabjeamkffpaa.OfSet
open Go.RowKit Go.Proofs.YtakabjeamkffpaaW.PrintWords Go.Proofs.YtakabjeamkffpaaW.PrintLast Go.Proofs.YtakabjeamkffpaaW.PrintMore Go.Proofs.Ytakabjeamkffpaa.PBitsOf
theorem add_at (g j : Nat) : (⟨g, 0, none⟩ : Addr).add j = ⟨g, j, none⟩ := by
  unfold Addr.add
  split
  · next h => rw [h]
  · simp
theorem C_of_block {w : World} {g : Nat} {L : List Int} (h : w.heap[g]? = some (.cells (numbers L).toArray 3 (0, 0))) (n : Nat) (hn : n ≤ L.length) (hL : L.length ≤ 1000) : Kd.C (Kd.int .i64) w (some ⟨g, 0, none⟩) n (L.take n) := by
  refine Kd.C_of_reads (d := (0 : Int)) (h1 := fun _ => rfl) ⟨by simp [hn], by omega, fun _ => ⟨⟨g, 0, none⟩, rfl, fun j hj => ?_⟩⟩
  rw [add_at]
  have hj2 : j < L.length := by omega
  simp [World.cell?, h, numbers, hj2, hj]
theorem part_numbers (l : List Int) (m : Int) : part l m 80 = numbers (l ++ List.replicate 80 m) := by
  simp [part, numbers]
def inAt (l : List Int) (core : Int) (i : Nat) : Bool := (l.take i).any (fun x => x == core) && (decide (0 ≤ core) && decide (core < 64))
theorem inAt_succ (l : List Int) (core : Int) (i : Nat) (x : Int) (h : l[i]? = some x) : inAt l core (i + 1) = (inAt l core i || ((x == core) && (decide (0 ≤ core) && decide (core < 64)))) := by
  have hi := List.getElem?_eq_some_iff.1 h
  unfold inAt
  rw [List.take_add_one, h, List.any_append, Bool.and_or_distrib_right]
  simp
theorem list_calls (S : BitVec 64) (w : World) :
    Calls Try.prog 25 #[.int .u64 (S.toNat : Int)] w fun e w' => ∃ A c, e = .returned (.slice A (elems S).length c) ∧ (elems S).length ≤ c ∧ Kd.C (Kd.int .i64) w' A (elems S).length (ints (elems S)) ∧ Below w.heap.size w w' := by
  refine (bits_Set_List.calls 100 _ _ w (list_f S 100 (by omega))).mono ?_
  rintro e w1 ⟨v, rfl, hR, hb⟩
  obtain ⟨A, c, rfl, hle, hF⟩ := Kd.R_V (base' := 0) hR
  have hC := hF w1 (fun k _ _ => rfl)
  rw [ints_length] at hle hC
  exact ⟨A, c, by rw [ints_length], hle, hC, hb⟩
theorem card_le (S : BitVec 64) : (elems S).length ≤ 64 := by
  unfold elems members
  have := List.length_filter_le (fun i => S.getLsbD i) (List.range' 0 64)
  simpa using this
theorem runs99 : assentlaw4_BitsRuns.f 99 = some true := by decide +kernel
set_option maxRecDepth 100000 in
set_option maxHeartbeats 8000000 in
theorem walk (A : Option Addr) (c : Nat) (l : List Int) (core : Int) (w : World) (hr : Kd.C (Kd.int .i64) w A l.length l) (hc : l.length ≤ c) :
    Calls Try.prog 12 #[.slice A l.length c, .int .i64 core] w fun e w' => e = .returned (.bool true) ∧ Below w.heap.size w w' := by
  by_cases h100 : 100 < l.length
  · obtain ⟨i0, hi0, _, hsz0, _⟩ := info_parts info3
    obtain ⟨hcut, hA, hC⟩ := print_take_of (P := Try.prog) (Value.int .i64) 0 26 3 .i64 Try.underlying26 hi0 hsz0 A c l 100 (by omega) (by omega) hc
    have hr2 := Kd.C_of_reads (h1 := fun _ => rfl) (hA _ (Kd.reads_of_C hr))
    have hl2 : (l.take (100 : Int).toNat).length ≤ 100 := by simp; omega
    clear hA hi0 hsz0 hr
    generalize l.take (100 : Int).toNat = l2 at *
    have HR := Lib.hid hr2
    have HL2 := Lib.hid hl2
    have HC2 := Lib.hid hC
    clear hr2 hl2 hC
    go_enter Try.func12, Try.ntmps12
    go_wp2_with fail
    have hl2 := HL2.out
    have hC := HC2.out
    clear HL2 HC2 hcut h100 hc
    refine (roomy A c l2 (-9) _ HR.out hC hl2).mono ?_
    rintro e w1 ⟨g, rfl, hg, hk, hb⟩
    rw [part_numbers] at hk
    have HB1 := Lib.hid hb
    have HK1 := Lib.hid hk
    have HR1 := Lib.hid (Kd.C_below HR.out hb)
    have HTK : Hid (Kd.C (Kd.int .i64) w1 (some ⟨g, 0, none⟩) l2.length l2) := by
      have := C_of_block hk l2.length (by simp) (by simp; omega)
      rw [List.take_left] at this
      exact this
    clear hb hk HR
    have hN : (0 : Int) ≤ (l2.length : Int) := by omega
    have hN2 : l2.length ≤ l2.length + 80 := by omega
    go_wp2_with fail
    refine (bits_Of.calls 200 _ _ l2 _ w1 HTK.out hN2 (of_f l2 (by omega) 200 (by omega))).mono ?_
    rintro e w2 ⟨rfl, hd⟩
    have HB2 := Lib.hid hd.below
    have HIN : Hid (has (setOf l2 0#64) core = inAt l2 core l2.length) := by
      show _ = _
      rw [has_setOf, inAt, List.take_length]
    clear hd HTK hN hN2
    generalize setOf l2 0#64 = S at *
    have HHas : Hid (∀ w, _) := fun w => bits_Set_Has.calls _ core _ w (has_f S core)
    have HList : Hid (∀ w, _) := fun w => list_calls S w
    have HOf : Hid (∀ A c w, _) := fun (A : Option Addr) (c : Nat) (w : World) (h1 : Kd.C (Kd.int .i64) w A (elems S).length (ints (elems S))) (h2 : (elems S).length ≤ c) => bits_Of.calls 200 A c (ints (elems S)) _ w (by rw [ints_length]; exact h1) (by rw [ints_length]; exact h2) (by rw [of_f _ (by rw [ints_length]; have := card_le S; omega) 200 (by rw [ints_length]; have := card_le S; omega), setOf_elems])
    have HCount : Hid (∀ w, _) := fun w => bits_Set_Count.calls 100 _ _ w (count_f S 100 (by omega))
    have HAdd : Hid (∀ w, _) := fun w => bits_Set_Add.calls _ core _ w (add_f S core)
    have HDrop1 : Hid (∀ w, _) := fun w => bits_Set_Drop.calls _ core _ w (drop_f (S ||| one core) core)
    have HDrop2 : Hid (∀ w, _) := fun w => bits_Set_Drop.calls _ core _ w (drop_f S core)
    rw [add_drop] at HDrop1
    rw [ints_length] at HOf
    generalize ((S &&& ~~~one core).toNat : Int) = sd at *
    generalize ((S ||| one core).toNat : Int) = sa at *
    generalize (S.toNat : Int) = s at *
    rw [HIN.out] at HHas
    clear HIN
    have HRuns : Hid (∀ w, _) := fun w => assentlaw4_BitsRuns.calls 99 true w runs99
    go_wp2_with fail
    go_loopw [7, 8] (fun v7 v8 wr => ∃ i : Nat, i ≤ l2.length ∧ v7 = .bool (inAt l2 core i) ∧ v8 = .int .i64 i ∧ Hid (Below w1.heap.size w1 wr)) (fun _ v8 _ => l2.length - (intOf v8).toNat)
    case atStart => exact ⟨0, by omega, by simp [inAt], rfl, HB2⟩
    case round =>
      obtain ⟨i, hi, rfl, rfl, HB⟩ := hrel
      by_cases hlt : i < l2.length
      · obtain ⟨x, hx⟩ : ∃ x, l2[i]? = some x := ⟨_, List.getElem?_eq_getElem hlt⟩
        have HS := Lib.hid (inAt_succ l2 core i x hx)
        obtain ⟨ad, rfl, hcell⟩ := HR1.out.2.2 (by omega)
        obtain ⟨cs, h1, h2, h3⟩ := hcell i x hx
        have hx1 : w1.cell? (ad.add i) = some (.int .i64 x) := by
          have h4 := h3 0 (.int .i64 x) (by have : cs = [.int .i64 x] := h2; rw [this]; rfl)
          change w1.cell? (ad.add (i * 1 + 0)) = _ at h4
          rw [Nat.mul_one, Nat.add_zero] at h4
          exact h4
        have hx2 := (HB.out.cell (cell_lt hx1)).trans hx1
        clear hcell h1 h2 h3 hx1 hx
        by_cases hb0 : inAt l2 core i = true
        · have HS1 : Hid (inAt l2 core (i + 1) = true) := by
            show _ = _
            rw [HS.out, hb0]; rfl
          go_wp2_with fail
          go_roundw
          case rel => exact ⟨i + 1, by omega, by rw [HS1.out], by go_num, HB⟩
          case measure => simp [intOf]; omega
        · have hb0' : inAt l2 core i = false := by simpa using hb0
          clear hb0
          have HS1 : Hid (inAt l2 core (i + 1) = ((x == core) && (decide (0 ≤ core) && decide (core < 64)))) := by
            show _ = _
            rw [HS.out, hb0']; rfl
          by_cases hxc : x = core
          · by_cases hc0 : 0 ≤ core
            · by_cases hc1 : core < 64
              · have HS2 : Hid (inAt l2 core (i + 1) = true) := by
                  show _ = _
                  rw [HS1.out, hxc]; simp [hc0, hc1]
                subst hxc
                go_wp2_with fail
                go_roundw
                case rel => exact ⟨i + 1, by omega, by rw [HS2.out], by go_num, HB⟩
                case measure => simp [intOf]; omega
              · have HS2 : Hid (inAt l2 core (i + 1) = false) := by
                  show _ = _
                  rw [HS1.out]; simp [hc1]
                subst hxc
                go_wp2_with fail
                go_roundw
                case rel => exact ⟨i + 1, by omega, by rw [HS2.out], by go_num, HB⟩
                case measure => simp [intOf]; omega
            · have HS2 : Hid (inAt l2 core (i + 1) = false) := by
                show _ = _
                rw [HS1.out]; simp [hc0]
              subst hxc
              go_wp2_with fail
              go_roundw
              case rel => exact ⟨i + 1, by omega, by rw [HS2.out], by go_num, HB⟩
              case measure => simp [intOf]; omega
          · have HS2 : Hid (inAt l2 core (i + 1) = false) := by
              show _ = _
              rw [HS1.out]; simp [hxc]
            have hxc' : (x == core) = false := by simpa using hxc
            go_wp2_with fail
            go_roundw
            case rel => exact ⟨i + 1, by omega, by rw [HS2.out], by go_num, HB⟩
            case measure => simp [intOf]; omega
      · obtain rfl : i = l2.length := by omega
        have HCF : Hid (Kd.C (Kd.int .i64) wr (some ⟨g, 0, none⟩) (l2.length + 80) (l2 ++ List.replicate 80 (-9))) := by
          have := C_of_block HK1.out (l2.length + 80) (by simp) (by simp; omega)
          rw [List.take_of_length_le (by simp)] at this
          exact Kd.C_below this HB.out
        have HCL : Hid (Kd.C (Kd.int .i64) wr A l2.length l2) := Kd.C_below HR1.out HB.out
        have HI : Hid (Calls Try.prog 31 #[.slice (some ⟨g, 0, none⟩) (l2.length + 80) (l2.length + 80), .slice A l2.length c, .int .i64 (-9)] wr fun e w' => e = .returned (.bool true) ∧ Drawn0 wr w') := by
          have e : (l2 ++ List.replicate 80 (-9 : Int)).length = l2.length + 80 := by simp
          have := assentbook_Intact_int.calls 200 (some ⟨g, 0, none⟩) (l2.length + 80) (l2 ++ List.replicate 80 (-9)) A c l2 (-9) true wr (by rw [e]; exact HCF.out) (by rw [e]; omega) HCL.out hC (intact_f l2 (-9) hl2)
          rw [e] at this
          exact this
        have HW : Hid (Below w.heap.size w wr) := HB1.out.trans (HB.out.mono HB1.out.size)
        clear HCF HCL HB HB1 HB2 HK1 HR1 hi hlt
        generalize inAt l2 core l2.length = bi at *
        go_wp2_with fail
        refine HI.out.mono ?_
        rintro e w3 ⟨rfl, hd⟩
        have HW3 := Lib.hid (HW.out.trans (hd.below.mono HW.out.size))
        clear hd HI HW
        go_wp2_with fail
        refine (HHas.out w3).mono ?_
        rintro e w4 ⟨rfl, hd⟩
        have HW4 := Lib.hid (HW3.out.trans (hd.below.mono HW3.out.size))
        clear hd HW3
        have hbb : (bi == bi) = true := by simp
        go_wp2_with fail
        refine (HList.out w4).mono ?_
        rintro e w5 ⟨A5, c5, rfl, hc5, hC5, hb5⟩
        have HW5 := Lib.hid (HW4.out.trans (hb5.mono HW4.out.size))
        have HO5 := Lib.hid (HOf.out A5 c5 w5 hC5 hc5)
        clear hb5 HW4 hC5 hc5 HOf
        go_wp2_with fail
        refine HO5.out.mono ?_
        rintro e w6 ⟨rfl, hd⟩
        have HW6 := Lib.hid (HW5.out.trans (hd.below.mono HW5.out.size))
        clear hd HW5 HO5
        go_wp2_with fail
        refine (HList.out w6).mono ?_
        rintro e w7 ⟨A7, c7, rfl, -, -, hb7⟩
        have HW7 := Lib.hid (HW6.out.trans (hb7.mono HW6.out.size))
        clear hb7 HW6
        go_wp2_with fail
        refine (HCount.out w7).mono ?_
        rintro e w8 ⟨rfl, hb8⟩
        have HW8 := Lib.hid (HW7.out.trans (hb8.mono HW7.out.size))
        clear hb8 HW7
        go_wp2_with fail
        refine (HAdd.out w8).mono ?_
        rintro e w9 ⟨rfl, hd⟩
        have HW9 := Lib.hid (HW8.out.trans (hd.below.mono HW8.out.size))
        clear hd HW8
        go_wp2_with fail
        refine (HDrop1.out w9).mono ?_
        rintro e w10 ⟨rfl, hd⟩
        have HW10 := Lib.hid (HW9.out.trans (hd.below.mono HW9.out.size))
        clear hd HW9
        go_wp2_with fail
        refine (HDrop2.out w10).mono ?_
        rintro e w11 ⟨rfl, hd⟩
        have HW11 := Lib.hid (HW10.out.trans (hd.below.mono HW10.out.size))
        clear hd HW10
        go_wp2_with fail
        refine (HRuns.out w11).mono ?_
        rintro e w12 ⟨rfl, hb⟩
        have HW12 := Lib.hid (HW11.out.trans (hb.mono HW11.out.size))
        clear hb HW11
        go_wp2
        go_ret
        exact ⟨rfl, HW12.out⟩
  · have hl2 : l.length ≤ 100 := by omega
    have HR := Lib.hid hr
    have hC := hc
    clear hr hc
    have hx : ¬ (100 : Int) < (l.length : Int) := by omega
    go_enter Try.func12, Try.ntmps12
    go_wp2_with fail
    clear h100 hx
    refine (roomy A c l (-9) _ HR.out hC hl2).mono ?_
    rintro e w1 ⟨g, rfl, hg, hk, hb⟩
    rw [part_numbers] at hk
    have HB1 := Lib.hid hb
    have HK1 := Lib.hid hk
    have HR1 := Lib.hid (Kd.C_below HR.out hb)
    have HTK : Hid (Kd.C (Kd.int .i64) w1 (some ⟨g, 0, none⟩) l.length l) := by
      have := C_of_block hk l.length (by simp) (by simp; omega)
      rw [List.take_left] at this
      exact this
    clear hb hk HR
    have hN : (0 : Int) ≤ (l.length : Int) := by omega
    have hN2 : l.length ≤ l.length + 80 := by omega
    go_wp2_with fail
    refine (bits_Of.calls 200 _ _ l _ w1 HTK.out hN2 (of_f l (by omega) 200 (by omega))).mono ?_
    rintro e w2 ⟨rfl, hd⟩
    have HB2 := Lib.hid hd.below
    have HIN : Hid (has (setOf l 0#64) core = inAt l core l.length) := by
      show _ = _
      rw [has_setOf, inAt, List.take_length]
    clear hd HTK hN hN2
    generalize setOf l 0#64 = S at *
    have HHas : Hid (∀ w, _) := fun w => bits_Set_Has.calls _ core _ w (has_f S core)
    have HList : Hid (∀ w, _) := fun w => list_calls S w
    have HOf : Hid (∀ A c w, _) := fun (A : Option Addr) (c : Nat) (w : World) (h1 : Kd.C (Kd.int .i64) w A (elems S).length (ints (elems S))) (h2 : (elems S).length ≤ c) => bits_Of.calls 200 A c (ints (elems S)) _ w (by rw [ints_length]; exact h1) (by rw [ints_length]; exact h2) (by rw [of_f _ (by rw [ints_length]; have := card_le S; omega) 200 (by rw [ints_length]; have := card_le S; omega), setOf_elems])
    have HCount : Hid (∀ w, _) := fun w => bits_Set_Count.calls 100 _ _ w (count_f S 100 (by omega))
    have HAdd : Hid (∀ w, _) := fun w => bits_Set_Add.calls _ core _ w (add_f S core)
    have HDrop1 : Hid (∀ w, _) := fun w => bits_Set_Drop.calls _ core _ w (drop_f (S ||| one core) core)
    have HDrop2 : Hid (∀ w, _) := fun w => bits_Set_Drop.calls _ core _ w (drop_f S core)
    rw [add_drop] at HDrop1
    rw [ints_length] at HOf
    generalize ((S &&& ~~~one core).toNat : Int) = sd at *
    generalize ((S ||| one core).toNat : Int) = sa at *
    generalize (S.toNat : Int) = s at *
    rw [HIN.out] at HHas
    clear HIN
    have HRuns : Hid (∀ w, _) := fun w => assentlaw4_BitsRuns.calls 99 true w runs99
    go_wp2_with fail
    go_loopw [7, 8] (fun v7 v8 wr => ∃ i : Nat, i ≤ l.length ∧ v7 = .bool (inAt l core i) ∧ v8 = .int .i64 i ∧ Hid (Below w1.heap.size w1 wr)) (fun _ v8 _ => l.length - (intOf v8).toNat)
    case atStart => exact ⟨0, by omega, by simp [inAt], rfl, HB2⟩
    case round =>
      obtain ⟨i, hi, rfl, rfl, HB⟩ := hrel
      by_cases hlt : i < l.length
      · obtain ⟨x, hx⟩ : ∃ x, l[i]? = some x := ⟨_, List.getElem?_eq_getElem hlt⟩
        have HS := Lib.hid (inAt_succ l core i x hx)
        obtain ⟨ad, rfl, hcell⟩ := HR1.out.2.2 (by omega)
        obtain ⟨cs, h1, h2, h3⟩ := hcell i x hx
        have hx1 : w1.cell? (ad.add i) = some (.int .i64 x) := by
          have h4 := h3 0 (.int .i64 x) (by have : cs = [.int .i64 x] := h2; rw [this]; rfl)
          change w1.cell? (ad.add (i * 1 + 0)) = _ at h4
          rw [Nat.mul_one, Nat.add_zero] at h4
          exact h4
        have hx2 := (HB.out.cell (cell_lt hx1)).trans hx1
        clear hcell h1 h2 h3 hx1 hx
        by_cases hb0 : inAt l core i = true
        · have HS1 : Hid (inAt l core (i + 1) = true) := by
            show _ = _
            rw [HS.out, hb0]; rfl
          go_wp2_with fail
          go_roundw
          case rel => exact ⟨i + 1, by omega, by rw [HS1.out], by go_num, HB⟩
          case measure => simp [intOf]; omega
        · have hb0' : inAt l core i = false := by simpa using hb0
          clear hb0
          have HS1 : Hid (inAt l core (i + 1) = ((x == core) && (decide (0 ≤ core) && decide (core < 64)))) := by
            show _ = _
            rw [HS.out, hb0']; rfl
          by_cases hxc : x = core
          · by_cases hc0 : 0 ≤ core
            · by_cases hc1 : core < 64
              · have HS2 : Hid (inAt l core (i + 1) = true) := by
                  show _ = _
                  rw [HS1.out, hxc]; simp [hc0, hc1]
                subst hxc
                go_wp2_with fail
                go_roundw
                case rel => exact ⟨i + 1, by omega, by rw [HS2.out], by go_num, HB⟩
                case measure => simp [intOf]; omega
              · have HS2 : Hid (inAt l core (i + 1) = false) := by
                  show _ = _
                  rw [HS1.out]; simp [hc1]
                subst hxc
                go_wp2_with fail
                go_roundw
                case rel => exact ⟨i + 1, by omega, by rw [HS2.out], by go_num, HB⟩
                case measure => simp [intOf]; omega
            · have HS2 : Hid (inAt l core (i + 1) = false) := by
                show _ = _
                rw [HS1.out]; simp [hc0]
              subst hxc
              go_wp2_with fail
              go_roundw
              case rel => exact ⟨i + 1, by omega, by rw [HS2.out], by go_num, HB⟩
              case measure => simp [intOf]; omega
          · have HS2 : Hid (inAt l core (i + 1) = false) := by
              show _ = _
              rw [HS1.out]; simp [hxc]
            have hxc' : (x == core) = false := by simpa using hxc
            go_wp2_with fail
            go_roundw
            case rel => exact ⟨i + 1, by omega, by rw [HS2.out], by go_num, HB⟩
            case measure => simp [intOf]; omega
      · obtain rfl : i = l.length := by omega
        have HCF : Hid (Kd.C (Kd.int .i64) wr (some ⟨g, 0, none⟩) (l.length + 80) (l ++ List.replicate 80 (-9))) := by
          have := C_of_block HK1.out (l.length + 80) (by simp) (by simp; omega)
          rw [List.take_of_length_le (by simp)] at this
          exact Kd.C_below this HB.out
        have HCL : Hid (Kd.C (Kd.int .i64) wr A l.length l) := Kd.C_below HR1.out HB.out
        have HI : Hid (Calls Try.prog 31 #[.slice (some ⟨g, 0, none⟩) (l.length + 80) (l.length + 80), .slice A l.length c, .int .i64 (-9)] wr fun e w' => e = .returned (.bool true) ∧ Drawn0 wr w') := by
          have e : (l ++ List.replicate 80 (-9 : Int)).length = l.length + 80 := by simp
          have := assentbook_Intact_int.calls 200 (some ⟨g, 0, none⟩) (l.length + 80) (l ++ List.replicate 80 (-9)) A c l (-9) true wr (by rw [e]; exact HCF.out) (by rw [e]; omega) HCL.out hC (intact_f l (-9) hl2)
          rw [e] at this
          exact this
        have HW : Hid (Below w.heap.size w wr) := HB1.out.trans (HB.out.mono HB1.out.size)
        clear HCF HCL HB HB1 HB2 HK1 HR1 hi hlt
        generalize inAt l core l.length = bi at *
        go_wp2_with fail
        refine HI.out.mono ?_
        rintro e w3 ⟨rfl, hd⟩
        have HW3 := Lib.hid (HW.out.trans (hd.below.mono HW.out.size))
        clear hd HI HW
        go_wp2_with fail
        refine (HHas.out w3).mono ?_
        rintro e w4 ⟨rfl, hd⟩
        have HW4 := Lib.hid (HW3.out.trans (hd.below.mono HW3.out.size))
        clear hd HW3
        have hbb : (bi == bi) = true := by simp
        go_wp2_with fail
        refine (HList.out w4).mono ?_
        rintro e w5 ⟨A5, c5, rfl, hc5, hC5, hb5⟩
        have HW5 := Lib.hid (HW4.out.trans (hb5.mono HW4.out.size))
        have HO5 := Lib.hid (HOf.out A5 c5 w5 hC5 hc5)
        clear hb5 HW4 hC5 hc5 HOf
        go_wp2_with fail
        refine HO5.out.mono ?_
        rintro e w6 ⟨rfl, hd⟩
        have HW6 := Lib.hid (HW5.out.trans (hd.below.mono HW5.out.size))
        clear hd HW5 HO5
        go_wp2_with fail
        refine (HList.out w6).mono ?_
        rintro e w7 ⟨A7, c7, rfl, -, -, hb7⟩
        have HW7 := Lib.hid (HW6.out.trans (hb7.mono HW6.out.size))
        clear hb7 HW6
        go_wp2_with fail
        refine (HCount.out w7).mono ?_
        rintro e w8 ⟨rfl, hb8⟩
        have HW8 := Lib.hid (HW7.out.trans (hb8.mono HW7.out.size))
        clear hb8 HW7
        go_wp2_with fail
        refine (HAdd.out w8).mono ?_
        rintro e w9 ⟨rfl, hd⟩
        have HW9 := Lib.hid (HW8.out.trans (hd.below.mono HW8.out.size))
        clear hd HW8
        go_wp2_with fail
        refine (HDrop1.out w9).mono ?_
        rintro e w10 ⟨rfl, hd⟩
        have HW10 := Lib.hid (HW9.out.trans (hd.below.mono HW9.out.size))
        clear hd HW9
        go_wp2_with fail
        refine (HDrop2.out w10).mono ?_
        rintro e w11 ⟨rfl, hd⟩
        have HW11 := Lib.hid (HW10.out.trans (hd.below.mono HW10.out.size))
        clear hd HW10
        go_wp2_with fail
        refine (HRuns.out w11).mono ?_
        rintro e w12 ⟨rfl, hb⟩
        have HW12 := Lib.hid (HW11.out.trans (hb.mono HW11.out.size))
        clear hb HW11
        go_wp2
        go_ret
        exact ⟨rfl, HW12.out⟩
end Go.Proofs.Ytakabjeamkffpaa.OfSet
