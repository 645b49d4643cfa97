/- Within brings a number into bounds. -/
import Derived.Test.YtjnoaidceddpjaaDoorKeep
import Derived.Lib.Hide
namespace Go.Proofs.YtjnoaidceddpjaaDoor
open Go.RowKit Go.Extern.Stop Go.Stop Go.Extern

/-- Where Within brings a number. -/
def inOf (n lo hi : Int) : Int := if Int.tmod n (hi - lo + 1) < 0 then lo + (Int.tmod n (hi - lo + 1) + hi - lo + 1) else lo + Int.tmod n (hi - lo + 1)
theorem inOf_le {n lo hi : Int} (h : lo ≤ hi) : lo ≤ inOf n lo hi ∧ inOf n lo hi ≤ hi := by
  have p : 0 < hi - lo + 1 := by omega
  have b1 := Int.tmod_lt_of_pos n p
  have b2 : -(hi - lo + 1) < Int.tmod n (hi - lo + 1) := Int.lt_tmod_of_pos n p
  unfold inOf
  split <;> omega
set_option maxRecDepth 100000 in
theorem within_is (n lo hi : Int) (w : World) (h1 : -100 ≤ lo) (h2 : lo ≤ hi) (h3 : hi ≤ 1000) :
    Calls Tryd.prog 22 #[.int .i64 n, .int .i64 lo, .int .i64 hi] w fun e w' => e = .returned (.int .i64 (inOf n lo hi)) ∧ Below w.heap.size w w' := by
  have p : 0 < hi - lo + 1 := by omega
  have b1 := Int.tmod_lt_of_pos n p
  have b2 : -(hi - lo + 1) < Int.tmod n (hi - lo + 1) := Int.lt_tmod_of_pos n p
  have q1 : wrap64 (hi - lo) = hi - lo := by unfold wrap64; omega
  have q2 : wrap64 (hi - lo + 1) = hi - lo + 1 := by unfold wrap64; omega
  have q0 : ¬ (hi - lo + 1 = 0) := by omega
  have r1 : wrap64 (Int.tmod n (hi - lo + 1)) = Int.tmod n (hi - lo + 1) := by unfold wrap64; omega
  unfold inOf
  by_cases hneg : Int.tmod n (hi - lo + 1) < 0
  · rw [if_pos hneg]
    have r2 : wrap64 (Int.tmod n (hi - lo + 1) + hi) = Int.tmod n (hi - lo + 1) + hi := by unfold wrap64; omega
    have r3 : wrap64 (Int.tmod n (hi - lo + 1) + hi - lo) = Int.tmod n (hi - lo + 1) + hi - lo := by unfold wrap64; omega
    have r4 : wrap64 (Int.tmod n (hi - lo + 1) + hi - lo + 1) = Int.tmod n (hi - lo + 1) + hi - lo + 1 := by unfold wrap64; omega
    have r5 : wrap64 (lo + (Int.tmod n (hi - lo + 1) + hi - lo + 1)) = lo + (Int.tmod n (hi - lo + 1) + hi - lo + 1) := by unfold wrap64; omega
    go_enter Tryd.func22, Tryd.ntmps22
    go_wp2
    go_ret
    exact ⟨rfl, Below.refl _ _⟩
  · rw [if_neg hneg]
    have r5 : wrap64 (lo + Int.tmod n (hi - lo + 1)) = lo + Int.tmod n (hi - lo + 1) := by unfold wrap64; omega
    go_enter Tryd.func22, Tryd.ntmps22
    go_wp2
    go_ret
    exact ⟨rfl, Below.refl _ _⟩
end Go.Proofs.YtjnoaidceddpjaaDoor
