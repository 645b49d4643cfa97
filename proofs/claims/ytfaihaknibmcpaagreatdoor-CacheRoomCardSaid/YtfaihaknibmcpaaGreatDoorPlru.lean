/- The tree of bits over a set's ways: that plru.Touch and plru.Victim answer, over the printed contracts. -/
import Derived.Test.YtfaihaknibmcpaaGreatDoorPrints
import Derived.Test.YtfaihaknibmcpaaGreatDoorBase
namespace Go.Proofs.YtfaihaknibmcpaaGreatDoor
open Go.RowKit Go.Extern.Stop Go.Stop Go.Extern Go.Proofs.YtfaihaknibmcpaaGreatDoor.PCacheFull
/-- The bits when a way was touched. -/
def touchB (k b j : Nat) : Nat := ((plru_Touch.f 20 (b : Nat) (k : Nat) (j : Nat)).getD 0).toNat
/-- The way to which the bits point. -/
def victimB (k b : Nat) : Nat := ((plru_Victim.f 20 (b : Nat) (k : Nat)).getD 0).toNat
theorem touch_all : ∀ b, b < 256 → ∀ k ∈ [1, 2, 4, 8], ∀ j, j < k → plru_Touch.f 20 (b : Nat) (k : Nat) (j : Nat) = some ((touchB k b j : Nat) : Int) ∧ touchB k b j < 256 := by decide +kernel
theorem victim_all : ∀ b, b < 256 → ∀ k ∈ [1, 2, 4, 8], plru_Victim.f 20 (b : Nat) (k : Nat) = some ((victimB k b : Nat) : Int) ∧ victimB k b < k := by decide +kernel
theorem plruTouch_is (b k j : Nat) (w : World) (hb : b < 256) (hk : k ∈ [1, 2, 4, 8]) (hj : j < k) : Calls Tryz.prog 107 #[.int .u8 (b : Nat), .int .i64 (k : Nat), .int .i64 (j : Nat)] w fun e w' => e = .returned (.int .u8 (touchB k b j : Nat)) ∧ ∃ n, w' = w.drewN n := by
  refine (plru_Touch.calls 20 _ _ _ _ w (touch_all b hb k hk j hj).1).mono ?_
  rintro e w' ⟨rfl, hd⟩
  exact ⟨rfl, hd.out⟩
theorem plruVictim_is (b k : Nat) (w : World) (hb : b < 256) (hk : k ∈ [1, 2, 4, 8]) : Calls Tryz.prog 114 #[.int .u8 (b : Nat), .int .i64 (k : Nat)] w fun e w' => e = .returned (.int .i64 (victimB k b : Nat)) ∧ ∃ n, w' = w.drewN n := by
  refine (plru_Victim.calls 20 _ _ _ w (victim_all b hb k hk).1).mono ?_
  rintro e w' ⟨rfl, hd⟩
  exact ⟨rfl, hd.out⟩
end Go.Proofs.YtfaihaknibmcpaaGreatDoor
