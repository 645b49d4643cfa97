/- The protocol's table: what a state comes to by a forward. -/
import Derived.Test.YtfaihaknibmcpaaGreatDoorPrints
import Derived.Test.YtfaihaknibmcpaaGreatDoorBase
namespace Go.Proofs.YtfaihaknibmcpaaGreatDoor
open Go.RowKit Go.Extern.Stop Go.Stop Go.Extern Go.Proofs.YtfaihaknibmcpaaGreatDoor.PCacheFull Go.Proofs.YtfaihaknibmcpaaGreatDoorW.PrintWords

def dirtyB (s : Int) : Bool := (s == 3) || (s == 4)
def shareOf (s m : Int) : Int := if s = 4 then (if m = 3 then 0 else if m = 1 then 3 else if m = 2 then 3 else 1) else if s = 3 then (if m = 1 then 3 else if m = 2 then 3 else 1) else 1
def nextOf (s k m : Int) : Int × Bool :=
  if 1 ≤ s ∧ s ≤ 4 ∧ 0 ≤ m ∧ m ≤ 3 then
    if k = 5 then (shareOf s m, dirtyB s)
    else if k = 6 then (0, dirtyB s)
    else if k = 10 then (0, dirtyB s)
    else if k = 9 then (1, dirtyB s)
    else if k = 7 then (s, false)
    else if k = 8 then (s, false)
    else (0, false)
  else (0, false)
theorem share_f (s m : Int) : state_share.f s m = some (shareOf s m) := by
  unfold state_share.f shareOf
  repeat' split
  all_goals rfl
theorem dirty_f (s : Int) : state_Dirty.f s = some (dirtyB s) := by
  unfold state_Dirty.f dirtyB
  by_cases h : s = 3 <;> simp [h]
theorem reads_f (s : Int) : state_Reads.f s = some (decide (1 ≤ s ∧ s ≤ 4)) := by
  unfold state_Reads.f
  by_cases h : 1 ≤ s
  · rw [if_pos h]; simp [h]
  · rw [if_neg h]; simp [h]
theorem next_f (s k m : Int) : state_Next.f 5 s k m = some (nextOf s k m) := by
  unfold state_Next.f nextOf
  rw [reads_f]
  simp only [Option.bind_some]
  by_cases hs : 1 ≤ s ∧ s ≤ 4
  · rw [if_pos (by simpa using hs)]
    by_cases h0 : m < 0
    · rw [if_pos h0, if_neg (by omega)]
      simp [state_Next.j0]
    · rw [if_neg h0]
      by_cases h3 : m > 3
      · rw [if_neg (by omega)]
        simp [state_Next.j0, h3]
      · rw [if_pos (by omega)]
        have hd : decide (m > 3) = false := by simpa using h3
        rw [hd]
        simp only [state_Next.j0, state_Next.j1, share_f, dirty_f, Option.bind_some, Bool.false_eq_true, if_false]
        by_cases k5 : k = 5
        · simp [k5]
        · by_cases k6 : k = 6
          · simp [k6]
          · by_cases k10 : k = 10
            · simp [k10]
            · have b10 : (k == 10) = false := by simpa using k10
              simp only [if_neg k5, if_neg k6, if_neg k10, b10, Bool.false_eq_true, if_false]
              repeat' split
              all_goals rfl
  · rw [if_neg (by simpa using hs), if_neg (by omega)]
    simp [state_Next.j0]
theorem next_is (s k m : Int) (w : World) : Calls Tryz.prog 67 #[.int .i64 s, .int .i64 k, .int .i64 m] w fun e w' => e = .returned (.tuple #[.int .i64 (nextOf s k m).1, .bool (nextOf s k m).2]) ∧ Below w.heap.size w w' := by
  refine (state_Next.calls 5 s k m _ _ w (next_f s k m)).mono ?_
  rintro e w' ⟨rfl, hd⟩
  obtain ⟨n, rfl⟩ := hd.out
  exact ⟨rfl, below_drewN _ _ _⟩
end Go.Proofs.YtfaihaknibmcpaaGreatDoor
