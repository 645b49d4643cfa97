/- The law CacheEvicts, walked. -/
import Derived.Test.YtfaihaknibmcpaaDoorSteps
import Derived.Test.YtfaihaknibmcpaaDoorRuns
import Derived.IntWalk
namespace Go.Proofs.YtfaihaknibmcpaaDoor
open Go.RowKit Go.Extern.Stop Go.Stop Go.Extern

def vSt (d : Bool) : Int := if d then 4 else 1
def vE (s : Int) (i : Nat) : Ent := ⟨(i : Nat), s, 0, 0, (i : Nat), 0, 0, 0, false, false⟩
def vB (k : Nat) : Nat → Nat
  | 0 => 0
  | i + 1 => touchB k (touchB k (vB k i) i) i
/-- The first i lines are there; what is under way. -/
def vS (g k : Nat) (s : Int) (i : Nat) (l : List (Int × Int)) : CSt := ⟨0, 1, k, 8, [⟨vB k i, g, (List.range i).map (vE s) ++ List.replicate (k - i) Ent.none⟩], l⟩
def vA (g k : Nat) (s : Int) (i : Nat) : CSt := ⟨0, 1, k, 8, [⟨touchB k (vB k i) i, g, (List.range i).map (vE s) ++ ({ vE s i with f := true } :: List.replicate (k - i - 1) Ent.none)⟩], []⟩
/-- The first line went. -/
def vT (g k : Nat) (s : Int) : CSt := ⟨0, 1, k, 8, [⟨vB k k, g, Ent.none :: ((List.range k).map (vE s)).tail⟩], []⟩
theorem v_k {k : Nat} (hk : k ∈ [1, 2, 4]) {i : Nat} (hi : i < k) : (k = 1 ∧ i = 0) ∨ (k = 2 ∧ i = 0) ∨ (k = 2 ∧ i = 1) ∨ (k = 4 ∧ i = 0) ∨ (k = 4 ∧ i = 1) ∨ (k = 4 ∧ i = 2) ∨ (k = 4 ∧ i = 3) := by
  simp at hk
  omega
theorem v_round (g k i : Nat) (d : Bool) (hk : k ∈ [1, 2, 4]) (hi : i < k) : wantTo (vS g k (vSt d) i []) (i : Nat) 2 0 = vS g k (vSt d) i [((i : Nat), 2)] ∧ answerOk (vS g k (vSt d) i [((i : Nat), 2)]) (dataM (i : Nat) (vSt d) (i : Nat) 0 0 0) = true ∧ answerTo (vS g k (vSt d) i [((i : Nat), 2)]) (dataM (i : Nat) (vSt d) (i : Nat) 0 0 0) = vA g k (vSt d) i ∧ readTo (vA g k (vSt d) i) (i : Nat) 0 = vS g k (vSt d) (i + 1) [] := by
  rcases v_k hk hi with ⟨rfl, rfl⟩ | ⟨rfl, rfl⟩ | ⟨rfl, rfl⟩ | ⟨rfl, rfl⟩ | ⟨rfl, rfl⟩ | ⟨rfl, rfl⟩ | ⟨rfl, rfl⟩
  all_goals cases d
  all_goals exact ⟨by kernel_rfl, by kernel_rfl, by kernel_rfl, by kernel_rfl⟩
theorem v_want (g k p : Nat) (d : Bool) (hk : k ∈ [1, 2, 4]) (hp : p < 10) (ad : Nat → Addr) : wantTo (vS g k (vSt d) k []) ((k + p : Nat) : Int) 1 0 = vS g k (vSt d) k [(0, 4)] ∧ wantSays (vS g k (vSt d) k []) ((k + p : Nat) : Int) 1 0 0 = ⟨4, 0, 0, 0, 0, 0, 0, 0, 0, 0, 0, 0, false⟩ ∧ wantErr ad (vS g k (vSt d) k []) ((k + p : Nat) : Int) 1 0 = .nilIface := by
  have hp' : p = 0 ∨ p = 1 ∨ p = 2 ∨ p = 3 ∨ p = 4 ∨ p = 5 ∨ p = 6 ∨ p = 7 ∨ p = 8 ∨ p = 9 := by omega
  have hk' : k = 1 ∨ k = 2 ∨ k = 4 := by simpa using hk
  rcases hk' with rfl | rfl | rfl
  all_goals rcases hp' with rfl | rfl | rfl | rfl | rfl | rfl | rfl | rfl | rfl | rfl
  all_goals cases d
  all_goals exact ⟨by kernel_rfl, by kernel_rfl, by kernel_rfl⟩
theorem v_take (g k : Nat) (d : Bool) (hk : k ∈ [1, 2, 4]) : forwardOk (vS g k (vSt d) k [(0, 4)]) ⟨10, 0, 0, 0, 0, 0, 0, 0, 0, 0, 0, 0, false⟩ = true ∧ forwardSays (vS g k (vSt d) k [(0, 4)]) ⟨10, 0, 0, 0, 0, 0, 0, 0, 0, 0, 0, 0, false⟩ = ⟨11, 0, 0, 0, 0, 0, 0, 0, 0, 0, 0, 0, d⟩ ∧ forwardTo (vS g k (vSt d) k [(0, 4)]) ⟨10, 0, 0, 0, 0, 0, 0, 0, 0, 0, 0, 0, false⟩ = vT g k (vSt d) ∧ (usedIn (vT g k (vSt d)).S).length + 1 = k := by
  have hk' : k = 1 ∨ k = 2 ∨ k = 4 := by simpa using hk
  rcases hk' with rfl | rfl | rfl
  all_goals cases d
  all_goals exact ⟨by kernel_rfl, by kernel_rfl, by kernel_rfl, by kernel_rfl⟩
theorem v_again (g k p : Nat) (d : Bool) (hk : k ∈ [1, 2, 4]) (hp : p < 10) (ad : Nat → Addr) : wantSays (vT g k (vSt d)) ((k + p : Nat) : Int) 1 0 0 = ⟨1, 0, ((k + p : Nat) : Int), 0, 0, 0, 0, 0, 0, 0, 0, 0, false⟩ ∧ wantErr ad (vT g k (vSt d)) ((k + p : Nat) : Int) 1 0 = .nilIface := by
  have hp' : p = 0 ∨ p = 1 ∨ p = 2 ∨ p = 3 ∨ p = 4 ∨ p = 5 ∨ p = 6 ∨ p = 7 ∨ p = 8 ∨ p = 9 := by omega
  have hk' : k = 1 ∨ k = 2 ∨ k = 4 := by simpa using hk
  rcases hk' with rfl | rfl | rfl
  all_goals rcases hp' with rfl | rfl | rfl | rfl | rfl | rfl | rfl | rfl | rfl | rfl
  all_goals cases d
  all_goals exact ⟨by kernel_rfl, by kernel_rfl⟩
theorem v_bad (k : Nat) (hk : k ∈ [1, 2, 4]) : badAt ⟨1, 32, 1, (k : Nat), 8, 1, 1, 1, 0⟩ = none := by
  have hk' : k = 1 ∨ k = 2 ∨ k = 4 := by simpa using hk
  rcases hk' with rfl | rfl | rfl
  · rfl
  · rfl
  · rfl
theorem EntRow.many {B : Nat} {w : World} {v : Value} {l : List Ent} (h : EntRow B w v l) {n : Nat} (h0 : l.length = n) : ∃ A c, v = .slice A n c := by
  obtain ⟨A, c, hv⟩ := h.shape
  rw [h0] at hv
  exact ⟨A, c, hv⟩
theorem v_new (g k : Nat) (s : Int) : (⟨0, 1, k, 8, newSets g k 1, []⟩ : CSt) = vS g k s 0 [] := rfl
theorem v_pow (p : Nat) (h : (p : Int) ≤ 2) : ∃ k : Nat, k ∈ [1, 2, 4] ∧ 2 ^ p = k := by
  have : p = 0 ∨ p = 1 ∨ p = 2 := by omega
  rcases this with rfl | rfl | rfl
  · exact ⟨1, by simp, rfl⟩
  · exact ⟨2, by simp, rfl⟩
  · exact ⟨4, by simp, rfl⟩
set_option maxRecDepth 100000 in
set_option maxHeartbeats 8000000 in
theorem cacheEvicts_is (ways first : Int) (dirty : Bool) (w : World) (ad : Nat → Addr) (HSE : Sents w ad) :
    Calls Tryd.prog 7 #[.int .i64 ways, .int .i64 first, .bool dirty] w fun e w' => e = .returned (.bool true) ∧ Below w.heap.size w w' := by
  have HS := Lib.hid HSE
  clear HSE
  obtain ⟨p, hp, P1⟩ := within_nat ways 2 (by omega)
  obtain ⟨f, hf, N1⟩ := within_nat first 9 (by omega)
  obtain ⟨k, hk, ek⟩ := v_pow p hp
  have HP := Lib.hid P1
  have HF := Lib.hid N1
  have HK := Lib.hid hk
  have hk4 : 1 ≤ k ∧ k ≤ 4 := by simp at hk; omega
  have ek' : (2 : Int) ^ p = (k : Nat) := by rw [← ek]; simp
  have hf9 : f < 10 := by omega
  clear P1 N1 hk ek
  obtain ⟨k1, k2⟩ := hk4
  go_enter Tryd.func7, Tryd.ntmps7
  go_wp2_with fail
  refine (HP.out _).mono ?_
  rintro r w ⟨rfl, rfl⟩
  clear HP
  go_wp2_with fail
  clear ek' hp
  refine (new_ok ⟨1, 32, 1, (k : Nat), 8, 1, 1, 1, 0⟩ 0 1 k 8 (v_bad k HK.out) rfl rfl rfl (by omega) (by show (0 : Int) < 1; omega) _ ad HS.out).mono ?_
  rintro r w1 ⟨A, g, rfl, hC⟩
  rw [v_new g k (vSt dirty)] at hC
  have F1 := Lib.hid (FrameAt.start hC)
  clear hC
  go_upto_if 36 with fail
  go_cut [10] (fun u wx => u = .int .i64 (vSt dirty) ∧ wx = w1)
  case first =>
    cases dirty
    all_goals
      go_wp2_with fail
      go_meet
      exact ⟨rfl, rfl⟩
  case rest =>
    obtain ⟨rfl, rfl⟩ := hcut
    generalize hst : vSt dirty = s at *
    have HDS := Lib.hid hst
    clear hst
    go_wp2_with fail
    go_loopw [11] (fun v wr => ∃ i : Nat, i ≤ k ∧ v = .int .i64 i ∧ Hid (FrameAt (fun _ => False) w wc wr A (vS g k s i []) [])) (fun v _ => k - (intOf v).toNat)
    case atStart => exact ⟨0, by omega, rfl, F1⟩
    case round =>
      clear F1
      obtain ⟨i, hi, rfl, F1⟩ := hrel
      have F1 : Hid _ := F1
      by_cases hlt : i < k
      · obtain ⟨e1, e2, e3, e4⟩ := v_round g k i dirty HK.out hlt
        rw [HDS.out] at e1 e2 e3 e4
        have E1 := Lib.hid e1
        have E2 := Lib.hid e2
        have E3 := Lib.hid e3
        have E4 := Lib.hid e4
        clear e1 e2 e3 e4
        go_wp2_with fail
        have HW := want_is F1.out.cache ad HS.out (i : Nat) 2 0 0
        rw [E1.out] at HW
        refine HW.mono ?_
        clear HW
        rintro r w2 ⟨rfl, hA, hk⟩
        have F2 := Lib.hid (F1.out.step hA hk)
        clear hA hk F1
        have hw32 := IntWalk.u32_in (i : Int) (by omega)
        go_wp2_with fail
        clear hw32
        have HW := data_is (i : Nat) s (i : Nat) 0 0 0 w2
        simp only [Mg.val, dataM] at HW
        refine HW.mono ?_
        clear HW
        rintro r w3 ⟨rfl, hb⟩
        have F3 := Lib.hid (F2.out.below hb)
        clear hb F2
        go_wp2_with fail
        have HW := answer_is F3.out.cache ad HS.out (dataM (i : Nat) s (i : Nat) 0 0 0)
        rw [E2.out, E3.out] at HW
        simp only [Mg.val, dataM] at HW
        refine HW.mono ?_
        clear HW
        rintro r w4 ⟨rfl, hA, hk⟩
        have F4 := Lib.hid (F3.out.step hA hk)
        clear hA hk F3
        generalize answerSays _ _ = y at *
        go_upto_region 13 with fail
        generalize hW : w4.alloc _ = w5
        have F5 := Lib.hid (F4.out.skip hW)
        clear hW F4
        go_wp2_with fail
        have HW := read_is F5.out.cache ad HS.out (i : Nat) 0
        rw [E4.out] at HW
        refine HW.mono ?_
        clear HW
        rintro r w6 ⟨rfl, hA, hk⟩
        have F6 := Lib.hid (F5.out.step hA hk)
        clear hA hk F5
        clear E1 E2 E3 E4
        go_wp2_with fail
        go_roundw
        case rel => exact ⟨i + 1, by omega, by go_num, F6⟩
        case measure => simp [intOf]; omega
      · obtain rfl : i = k := by omega
        go_wp2_with fail
        refine (HF.out _).mono ?_
        rintro r wr ⟨rfl, rfl⟩
        clear HF
        obtain ⟨e1, e2, e3⟩ := v_want g i f dirty HK.out hf9 ad
        rw [HDS.out] at e1 e2 e3
        have HA := v_again g i f dirty HK.out hf9 ad
        rw [HDS.out] at HA
        have HAG := Lib.hid HA
        clear HA
        have HT := v_take g i dirty HK.out
        rw [HDS.out] at HT
        have HTK := Lib.hid HT
        clear HT
        have E1 := Lib.hid e1
        have E2 := Lib.hid e2
        have E3 := Lib.hid e3
        clear e1 e2 e3
        obtain ⟨n, hn⟩ : ∃ n : Nat, n = i + f := ⟨_, rfl⟩
        rw [← hn] at E1 E2 E3 HAG
        have hw0 : wrap64 ((i : Int) + (f : Int)) = (n : Int) := by unfold wrap64; omega
        have hw1 : (i : Int) + (f : Int) = (n : Int) := by omega
        clear hn
        go_wp2_with fail
        have HW := want_is F1.out.cache ad HS.out (n : Nat) 1 0 0
        rw [E1.out, E2.out, E3.out] at HW
        simp only [Mg.val] at HW
        refine HW.mono ?_
        clear HW
        rintro r w2 ⟨rfl, hA, hk⟩
        have F2 := Lib.hid (F1.out.step hA hk)
        clear hA hk F1
        clear E1 E2 E3 hw0 hw1
        go_upto_region 18 with fail
        generalize hW : w2.alloc _ = w3
        have F3 := Lib.hid (F2.out.layAs (cs := (Mg.cells ⟨4, 0, 0, 0, 0, 0, 0, 0, 0, 0, 0, 0, false⟩).toArray) (t := 33) hW)
        clear hW F2
        generalize w2.heap.size = b15 at *
        obtain ⟨p0, -, p2, -⟩ := msg_cells (F3.out.at 0 rfl)
        have hn1 : ¬ (i : Int) ≤ 0 := by omega
        go_wp2_with fail
        have HW := forward_is F3.out.cache ad HS.out ⟨10, 0, 0, 0, 0, 0, 0, 0, 0, 0, 0, 0, false⟩
        rw [HTK.out.1, HTK.out.2.1, HTK.out.2.2.1] at HW
        simp only [Mg.val] at HW
        refine HW.mono ?_
        clear HW
        rintro r w4 ⟨rfl, hA, hk⟩
        have F4 := Lib.hid (F3.out.step hA hk)
        clear hA hk F3
        clear p0 p2 hn1
        go_upto_region 21 with fail
        generalize hW : w4.alloc _ = w5
        have F5 := Lib.hid (F4.out.layAs (cs := (Mg.cells ⟨11, 0, 0, 0, 0, 0, 0, 0, 0, 0, 0, 0, dirty⟩).toArray) (t := 33) hW)
        clear hW F4
        generalize w4.heap.size = b17 at *
        obtain ⟨-, -, p2, -⟩ := msg_cells (F5.out.at 1 rfl)
        obtain ⟨-, -, -, -, -, -, -, -, r8, -, -, -, r12⟩ := msg_cells (F5.out.at 0 rfl)
        have HU := HTK.out.2.2.2
        obtain ⟨u, hu⟩ : ∃ u : Nat, u = (usedIn (vT g i s).S).length := ⟨_, rfl⟩
        rw [← hu] at HU
        have HUL := Lib.hid hu.symm
        clear hu HTK
        subst HU
        have hw2 : wrap64 (((u + 1 : Nat) : Int) - 1) = (u : Int) := by unfold wrap64; omega
        have hw3 : ((u + 1 : Nat) : Int) - 1 = (u : Int) := by omega
        cases dirty
        all_goals
          go_wp2_with fail
          refine (misses_is F5.out.cache).mono ?_
          rintro r wM ⟨v', rfl, hr, -, hb⟩
          obtain ⟨AM, cM, rfl⟩ := hr.many (n := 0) rfl
          have FM := Lib.hid (F5.out.rest.rest.below hb)
          clear hr hb r8 r12 F5
          go_wp2_with fail
          refine (entries_is FM.out.cache).mono ?_
          rintro r wE ⟨v', rfl, hr, hb⟩
          obtain ⟨AE, cE, rfl⟩ := hr.many HUL.out
          have FE := Lib.hid (FM.out.below hb)
          clear hr hb FM
          go_wp2_with fail
          clear p2 hw2 hw3
          have HW := want_is FE.out.cache ad HS.out (n : Nat) 1 0 0
          rw [HAG.out.1, HAG.out.2] at HW
          simp only [Mg.val] at HW
          refine HW.mono ?_
          clear HW
          rintro r wN ⟨rfl, hA, hk⟩
          have FN := Lib.hid (FE.out.step hA hk)
          clear hA hk FE
          go_upto_region 24 with fail
          generalize hW : wN.alloc _ = wO
          have FO := Lib.hid (FN.out.layAs (cs := (Mg.cells ⟨1, 0, (n : Nat), 0, 0, 0, 0, 0, 0, 0, 0, 0, false⟩).toArray) (t := 33) hW)
          clear hW FN
          generalize wN.heap.size = b19 at *
          have he := fun w : World => eqMsg_same ⟨1, 0, (n : Nat), 0, 0, 0, 0, 0, 0, 0, 0, 0, false⟩ w
          simp only [Mg.val] at he
          obtain ⟨p0, p1, p2, p3, p4, p5, p6, p7, p8, p9, p10, p11, p12⟩ := msg_cells (FO.out.at 0 rfl)
          have FZ := Lib.hid FO.out.based
          go_wp2_with fail
          refine (cacheRuns_is wO ad (HS.out.of_below FZ.out)).mono ?_
          rintro r wz ⟨rfl, hb⟩
          have HZZ := Lib.hid (FZ.out.trans (hb.mono FZ.out.size))
          clear hb FO FZ he p0 p1 p2 p3 p4 p5 p6 p7 p8 p9 p10 p11 p12
          go_wp2
          go_ret
          exact ⟨rfl, HZZ.out⟩
end Go.Proofs.YtfaihaknibmcpaaDoor
