/- The law CacheFull, walked. -/
import Derived.Test.YtfaihaknibmcpaaGreatDoorTwo
import Derived.Test.YtfaihaknibmcpaaGreatDoorSteps
import Derived.Test.YtfaihaknibmcpaaGreatDoorRuns
namespace Go.Proofs.YtfaihaknibmcpaaGreatDoor
open Go.RowKit Go.Extern.Stop Go.Stop Go.Extern

/-- The first i lines are under way. -/
def uS (g n i : Nat) : CSt := ⟨0, 8, 2, n, newSets g 2 8, (List.range i).map (fun j => (((j : Nat) : Int), 1))⟩
theorem u_n {n : Nat} (h : 1 ≤ n ∧ n ≤ 4) : n = 1 ∨ n = 2 ∨ n = 3 ∨ n = 4 := by omega
theorem u_round (g n i : Nat) (h : 1 ≤ n ∧ n ≤ 4) (hi : i < n) (ad : Nat → Addr) : wantTo (uS g n i) (i : Nat) 1 0 = uS g n (i + 1) ∧ wantErr ad (uS g n i) (i : Nat) 1 0 = .nilIface := by
  have hi' : i = 0 ∨ i = 1 ∨ i = 2 ∨ i = 3 := by omega
  rcases u_n h with rfl | rfl | rfl | rfl
  all_goals rcases hi' with rfl | rfl | rfl | rfl
  all_goals first
    | (exfalso; omega)
    | exact ⟨by kernel_rfl, by kernel_rfl⟩
theorem u_full (g n : Nat) (h : 1 ≤ n ∧ n ≤ 4) (ad : Nat → Addr) : wantTo (uS g n n) 7 1 0 = uS g n n ∧ wantErr ad (uS g n n) 7 1 0 = faultIn 7 (sayAdd 7 (ad 6)) := by
  rcases u_n h with rfl | rfl | rfl | rfl
  all_goals exact ⟨by kernel_rfl, by kernel_rfl⟩
theorem u_busy (g n p : Nat) (h : 1 ≤ n ∧ n ≤ 4) (hp : p < n) (ad : Nat → Addr) : wantTo (uS g n n) ((8 + p : Nat) : Int) 1 0 = uS g n n ∧ wantErr ad (uS g n n) ((8 + p : Nat) : Int) 1 0 = faultIn ((8 + p : Nat) : Int) (sentV (ad 7)) := by
  have hp' : p = 0 ∨ p = 1 ∨ p = 2 ∨ p = 3 := by omega
  rcases u_n h with rfl | rfl | rfl | rfl
  all_goals rcases hp' with rfl | rfl | rfl | rfl
  all_goals first
    | (exfalso; omega)
    | exact ⟨by kernel_rfl, by kernel_rfl⟩
theorem u_bad (n : Nat) (h : 1 ≤ n ∧ n ≤ 4) : badAt ⟨1, 32, 8, 2, (n : Nat), 1, 1, 1, 0⟩ = none := by
  rcases u_n h with rfl | rfl | rfl | rfl
  · rfl
  · rfl
  · rfl
  · rfl
theorem u_new (g n : Nat) : (⟨0, 8, 2, n, newSets g 2 8, []⟩ : CSt) = uS g n 0 := rfl
theorem u_len (g n : Nat) : (uS g n n).l.length = n := by simp [uS]
theorem u_used (g n : Nat) : (usedIn (uS g n n).S) = [] := by
  show usedIn (newSets g 2 8) = []
  kernel_rfl
theorem within_one (x : Int) : ∃ p : Nat, 1 ≤ p ∧ p ≤ 4 ∧ ∀ w, Calls Tryz.prog 10 #[.int .i64 x, .int .i64 1, .int .i64 4] w fun e w' => e = .returned (.int .i64 (p : Nat)) ∧ w' = w := by
  have h1 := inOf_le (n := x) (lo := 1) (hi := 4) (by omega)
  refine ⟨(inOf x 1 4).toNat, by omega, by omega, fun w => ?_⟩
  have h2 := within_same x 1 4 w (by omega) (by omega) (by omega)
  rw [show ((inOf x 1 4).toNat : Int) = inOf x 1 4 by omega]
  exact h2
set_option maxRecDepth 100000 in
set_option maxHeartbeats 8000000 in
theorem cacheFull_is (most line : Int) (w : World) (ad : Nat → Addr) (HSE : Sents w ad) :
    Calls Tryz.prog 3 #[.int .i64 most, .int .i64 line] w fun e w' => e = .returned (.bool true) ∧ Below w.heap.size w w' := by
  have HS := Lib.hid HSE
  clear HSE
  obtain ⟨n, n1, n4, N1⟩ := within_one most
  obtain ⟨m, hm⟩ : ∃ m : Nat, n = m + 1 := ⟨n - 1, by omega⟩
  obtain ⟨p, hp, P1⟩ := within_nat line (m : Int) (by omega)
  have HNN : Hid (1 ≤ n ∧ n ≤ 4) := ⟨n1, n4⟩
  have HPP : Hid (p < n) := by show p < n; omega
  have HM := Lib.hid hm
  have HN := Lib.hid N1
  have HP := Lib.hid P1
  clear N1 P1 hm hp
  go_enter Tryz.func3, Tryz.ntmps3
  go_wp2_with fail
  refine (HN.out _).mono ?_
  rintro r w ⟨rfl, rfl⟩
  clear HN
  go_wp2_with fail
  refine (new_ok ⟨1, 32, 8, 2, (n : Nat), 1, 1, 1, 0⟩ 0 8 2 n (u_bad n HNN.out) rfl rfl rfl (by omega) (by show (0 : Int) < 1; omega) _ ad HS.out).mono ?_
  rintro r w1 ⟨A, g, rfl, hC⟩
  rw [u_new g n] at hC
  have F1 := Lib.hid (FrameAt.start hC)
  clear hC
  go_wp2_with fail
  go_loopw [8] (fun v wr => ∃ i : Nat, i ≤ n ∧ v = .int .i64 i ∧ Hid (FrameAt (fun _ => False) w w1 wr A (uS g n i) [])) (fun v _ => n - (intOf v).toNat)
  case atStart => exact ⟨0, by omega, rfl, F1⟩
  case round =>
    clear F1
    obtain ⟨i, hi, rfl, F1⟩ := hrel
    have F1 : Hid _ := F1
    by_cases hlt : i < n
    · obtain ⟨e1, e2⟩ := u_round g n i HNN.out hlt ad
      have E1 := Lib.hid e1
      have E2 := Lib.hid e2
      clear e1 e2
      go_wp2_with fail
      have HW := want_is F1.out.cache ad HS.out (i : Nat) 1 0 0
      rw [E1.out, E2.out] at HW
      simp only [Mg.val] at HW
      refine HW.mono ?_
      clear HW
      rintro r w2 ⟨rfl, hA, hk⟩
      have F2 := Lib.hid (F1.out.step hA hk)
      clear hA hk F1
      clear E1 E2
      generalize wantSays _ _ _ _ _ = y at *
      go_upto_region 9 with fail
      generalize hW : w2.alloc _ = w3
      have F3 := Lib.hid (F2.out.skip hW)
      clear hW F2
      go_wp2_with fail
      go_roundw
      case rel => exact ⟨i + 1, by omega, by go_num, F3⟩
      case measure => simp [intOf]; omega
    · obtain rfl : i = n := by omega
      obtain ⟨e1, e2⟩ := u_full g i HNN.out ad
      have E1 := Lib.hid e1
      have E2 := Lib.hid e2
      clear e1 e2
      go_wp2_with fail
      have HW := want_is F1.out.cache ad HS.out 7 1 0 0
      rw [E1.out, E2.out] at HW
      simp only [Mg.val] at HW
      refine HW.mono ?_
      clear HW
      rintro r w2 ⟨rfl, hA, hk⟩
      have F2 := Lib.hid (F1.out.step hA hk)
      clear hA hk F1
      clear E1 E2
      generalize wantSays _ _ _ _ _ = y at *
      go_upto_region 12 with fail
      generalize hW : w2.alloc _ = w3
      have F3 := Lib.hid (F2.out.skip hW)
      clear hW F2
      have hw0 : wrap64 ((i : Int) - 1) = (m : Int) := by have := HM.out; unfold wrap64; omega
      have hw1 : (i : Int) - 1 = (m : Int) := by have := HM.out; omega
      go_wp2_with fail
      refine (HP.out _).mono ?_
      rintro r wp ⟨rfl, rfl⟩
      clear HP hw0 hw1
      obtain ⟨e1, e2⟩ := u_busy g i p HNN.out HPP.out ad
      have hp4 : p < 4 := Nat.lt_of_lt_of_le HPP.out n4
      obtain ⟨k, hk⟩ : ∃ k : Nat, k = 8 + p := ⟨_, rfl⟩
      rw [← hk] at e1 e2
      have E1 := Lib.hid e1
      have E2 := Lib.hid e2
      have hw0 : wrap64 (8 + (p : Int)) = (k : Int) := by unfold wrap64; omega
      have hw1 : 8 + (p : Int) = (k : Int) := by omega
      clear e1 e2 hk
      go_wp2_with fail
      have HW := want_is F3.out.cache ad HS.out (k : Nat) 1 0 0
      rw [E1.out, E2.out] at HW
      simp only [Mg.val] at HW
      refine HW.mono ?_
      clear HW
      rintro r w4 ⟨rfl, hA, hk⟩
      have F4 := Lib.hid (F3.out.step hA hk)
      clear hA hk F3
      clear E1 E2 hw0 hw1
      generalize wantSays _ _ _ _ _ = y2 at *
      go_upto_region 14 with fail
      generalize hW : w4.alloc _ = w5
      have F5 := Lib.hid (F4.out.skip hW)
      clear hW F4
      go_wp2_with fail
      have HW := keepIs_in 7 7 6 ad w5 (by omega) (by omega) (HS.out.of_below F5.out.based)
      refine HW.mono ?_
      clear HW
      rintro r w6 ⟨rfl, hb⟩
      have F6 := Lib.hid (F5.out.below hb)
      clear hb F5
      go_wp2_with fail
      have HW := only_in 7 7 6 ad w6 (by omega) (by omega) (HS.out.of_below F6.out.based)
      refine HW.mono ?_
      clear HW
      rintro r w7 ⟨rfl, hb⟩
      have F7 := Lib.hid (F6.out.below hb)
      clear hb F6
      go_wp2_with fail
      have HW := keepIs_want (k : Nat) 7 ad w7 (by omega) (by omega) (HS.out.of_below F7.out.based)
      refine HW.mono ?_
      clear HW
      rintro r w8 ⟨rfl, hb⟩
      have F8 := Lib.hid (F7.out.below hb)
      clear hb F7
      go_wp2_with fail
      refine (misses_is F8.out.cache).mono ?_
      rintro r wM ⟨v', rfl, hr, -, hb⟩
      obtain ⟨AM, cM, rfl⟩ := hr.many (u_len g i)
      have FM := Lib.hid (F8.out.below hb)
      clear hr hb F8
      go_wp2_with fail
      refine (entries_is FM.out.cache).mono ?_
      rintro r wE ⟨v', rfl, hr, hb⟩
      obtain ⟨AE, cE, rfl⟩ := hr.none (u_used g i)
      have FE := Lib.hid (FM.out.below hb)
      clear hr hb FM
      go_wp2_with fail
      refine (cacheRuns_is wE ad (HS.out.of_below FE.out.based)).mono ?_
      rintro r wz ⟨rfl, hb⟩
      have HZZ := Lib.hid (FE.out.based.trans (hb.mono FE.out.based.size))
      clear hb FE
      go_wp2
      go_ret
      exact ⟨rfl, HZZ.out⟩
end Go.Proofs.YtfaihaknibmcpaaGreatDoor
