/- What the cache keeps behind a forward may stand beside what the asker is granted. For all states and modes. -/
import Derived.Test.YtdpcnfdjpbbgjaaPStateKeepsx2
namespace Go.Proofs.Ytdpcnfdjpbbgjaa.Pure
open Go.RowKit Go.Proofs.Ytdpcnfdjpbbgjaa.PStateKeeps Go.Proofs.YtdpcnfdjpbbgjaaW.PrintWords Go.Proofs.YtdpcnfdjpbbgjaaW.PrintLast Go.Proofs.YtdpcnfdjpbbgjaaW.PrintMore
theorem within_some (a lo hi : Int) (h1 : -1000 ≤ lo) (h2 : lo ≤ hi) (h3 : hi ≤ 1000) : ∃ r, assentbook_Within.f a lo hi = some r ∧ lo ≤ r ∧ r ≤ hi := by
  have e : wrap64 (wrap64 (hi - lo) + 1) = hi - lo + 1 := by unfold wrap64; omega
  have p : 0 < hi - lo + 1 := by omega
  have b1 := Int.tmod_lt_of_pos a p
  have b2 : -(hi - lo + 1) < Int.tmod a (hi - lo + 1) := Int.lt_tmod_of_pos a p
  unfold assentbook_Within.f
  rw [e, if_neg (by omega)]
  generalize Int.tmod a (hi - lo + 1) = t at *
  by_cases h : t < 0
  · rw [if_pos h]
    refine ⟨_, rfl, ?_⟩
    unfold wrap64
    omega
  · rw [if_neg h]
    refine ⟨_, rfl, ?_⟩
    unfold wrap64
    omega
-- USES Within
/-- What the law does behind its choices. -/
def rest (k : Nat) (s m : Int) : Option Bool := if s < 1 then (assentlaw13_StateKeeps.j0 k s m true) else (assentlaw13_StateKeeps.j0 k s m (decide (s > 4)))
theorem all : ∀ s, s < 5 → ∀ m, m < 4 → rest 60 (s : Nat) (m : Nat) = some true := by decide +kernel
theorem StateKeeps : assentlaw13_StateKeeps.Pure := by
  intro a b _ _
  obtain ⟨s, h1, s0, s1⟩ := within_some a 1 4 (by omega) (by omega) (by omega)
  obtain ⟨m, h3, k0, k1⟩ := within_some b 0 3 (by omega) (by omega) (by omega)
  refine ⟨60, ?_⟩
  unfold assentlaw13_StateKeeps.f
  rw [h1, h3]
  simp only [Option.bind_some]
  show rest 60 s m = some true
  obtain ⟨s, rfl⟩ : ∃ x : Nat, s = (x : Int) := ⟨s.toNat, by omega⟩
  obtain ⟨m, rfl⟩ : ∃ x : Nat, m = (x : Int) := ⟨m.toNat, by omega⟩
  exact all s (by omega) m (by omega)
end Go.Proofs.Ytdpcnfdjpbbgjaa.Pure
