/- What is granted may stand beside what the document lets. For all kinds and other states. -/
import Derived.Test.YtdpcnfdjpbbgjaaPStateGrantsx2
namespace Go.Proofs.Ytdpcnfdjpbbgjaa.Pure
open Go.RowKit Go.Proofs.Ytdpcnfdjpbbgjaa.PStateGrants Go.Proofs.YtdpcnfdjpbbgjaaW.PrintWords Go.Proofs.YtdpcnfdjpbbgjaaW.PrintLast Go.Proofs.YtdpcnfdjpbbgjaaW.PrintMore
theorem within_some (a lo hi : Int) (h1 : -1000 ≤ lo) (h2 : lo ≤ hi) (h3 : hi ≤ 1000) : ∃ r, assentbook_Within.f a lo hi = some r ∧ lo ≤ r ∧ r ≤ hi := by
  have e : wrap64 (wrap64 (hi - lo) + 1) = hi - lo + 1 := by unfold wrap64; omega
  have p : 0 < hi - lo + 1 := by omega
  have b1 := Int.tmod_lt_of_pos a p
  have b2 : -(hi - lo + 1) < Int.tmod a (hi - lo + 1) := Int.lt_tmod_of_pos a p
  unfold assentbook_Within.f
  rw [e, if_neg (by omega)]
  generalize Int.tmod a (hi - lo + 1) = t at *
  by_cases h : t < 0
  · rw [if_pos h]
    refine ⟨_, rfl, ?_⟩
    unfold wrap64
    omega
  · rw [if_neg h]
    refine ⟨_, rfl, ?_⟩
    unfold wrap64
    omega
-- USES Within
/-- What the law does behind its choices. -/
def rest (k : Nat) (x o : Int) : Option Bool := (state_Grant.f (rd [1, 2, 3] x) true).bind fun t120 => ((state_Grant.f (rd [1, 2, 3] x) false).bind fun t121 => ((state_Reads.f t120).bind fun t122 => (if t122 = true then ((state_Reads.f t121).bind fun t123 => (if t123 = true then ((state_Legal.f t120 o).bind fun t124 => (assentlaw13_StateGrants.j0 k (rd [1, 2, 3] x) o t121 (t124 != (o == 0)))) else (assentlaw13_StateGrants.j0 k (rd [1, 2, 3] x) o t121 true))) else (assentlaw13_StateGrants.j0 k (rd [1, 2, 3] x) o t121 true))))
theorem all : ∀ x, x < 3 → ∀ o, o < 5 → rest 20 (x : Nat) (o : Nat) = some true := by decide +kernel
theorem StateGrants : assentlaw13_StateGrants.Pure := by
  intro a b _ _
  obtain ⟨s, h1, s0, s1⟩ := within_some a 0 2 (by omega) (by omega) (by omega)
  obtain ⟨m, h3, k0, k1⟩ := within_some b 0 4 (by omega) (by omega) (by omega)
  refine ⟨20, ?_⟩
  unfold assentlaw13_StateGrants.f
  rw [h1, h3]
  simp only [Option.bind_some]
  rw [if_pos s0, if_pos (by simp; omega)]
  show rest 20 s m = some true
  obtain ⟨s, rfl⟩ : ∃ x : Nat, s = (x : Int) := ⟨s.toNat, by omega⟩
  obtain ⟨m, rfl⟩ : ∃ x : Nat, m = (x : Int) := ⟨m.toNat, by omega⟩
  exact all s (by omega) m (by omega)
end Go.Proofs.Ytdpcnfdjpbbgjaa.Pure
