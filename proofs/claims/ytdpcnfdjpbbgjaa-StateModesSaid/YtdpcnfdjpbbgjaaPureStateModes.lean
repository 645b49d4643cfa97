/- Only what happens to a dirty line that is to be shared hangs on the mode. For all states and kinds. -/
import Derived.Test.YtdpcnfdjpbbgjaaPStateModesx2
namespace Go.Proofs.Ytdpcnfdjpbbgjaa.Pure
open Go.RowKit Go.Proofs.Ytdpcnfdjpbbgjaa.PStateModes Go.Proofs.YtdpcnfdjpbbgjaaW.PrintWords Go.Proofs.YtdpcnfdjpbbgjaaW.PrintLast Go.Proofs.YtdpcnfdjpbbgjaaW.PrintMore
theorem within_some (a lo hi : Int) (h1 : -1000 ≤ lo) (h2 : lo ≤ hi) (h3 : hi ≤ 1000) : ∃ r, assentbook_Within.f a lo hi = some r ∧ lo ≤ r ∧ r ≤ hi := by
  have e : wrap64 (wrap64 (hi - lo) + 1) = hi - lo + 1 := by unfold wrap64; omega
  have p : 0 < hi - lo + 1 := by omega
  have b1 := Int.tmod_lt_of_pos a p
  have b2 : -(hi - lo + 1) < Int.tmod a (hi - lo + 1) := Int.lt_tmod_of_pos a p
  unfold assentbook_Within.f
  rw [e, if_neg (by omega)]
  generalize Int.tmod a (hi - lo + 1) = t at *
  by_cases h : t < 0
  · rw [if_pos h]
    refine ⟨_, rfl, ?_⟩
    unfold wrap64
    omega
  · rw [if_neg h]
    refine ⟨_, rfl, ?_⟩
    unfold wrap64
    omega
-- USES Within
/-- What the law does behind its choices. -/
def rest (k : Nat) (s kd : Int) : Option Bool := (state_Next.f k s (wrap64 (5 + kd)) 0).bind fun bt116 => (assentlaw13_StateModes.l0 k s (wrap64 (5 + kd)) 0 0 bt116.1 bt116.2 true 0)
theorem all : ∀ s, s < 5 → ∀ kd, kd < 6 → rest 30 (s : Nat) (kd : Nat) = some true := by decide +kernel
theorem StateModes : assentlaw13_StateModes.Pure := by
  intro a b _ _
  obtain ⟨s, h1, s0, s1⟩ := within_some a 0 4 (by omega) (by omega) (by omega)
  obtain ⟨kd, h3, k0, k1⟩ := within_some b 0 5 (by omega) (by omega) (by omega)
  refine ⟨30, ?_⟩
  unfold assentlaw13_StateModes.f
  rw [h1, h3]
  simp only [Option.bind_some]
  show rest 30 s kd = some true
  obtain ⟨s, rfl⟩ : ∃ x : Nat, s = (x : Int) := ⟨s.toNat, by omega⟩
  obtain ⟨kd, rfl⟩ : ∃ x : Nat, kd = (x : Int) := ⟨kd.toNat, by omega⟩
  exact all s (by omega) kd (by omega)
end Go.Proofs.Ytdpcnfdjpbbgjaa.Pure
