/- A forward that came twice comes to what it came to once. For all states, kinds and modes. -/
import Derived.Test.YtdpcnfdjpbbgjaaPStateTwicex2
namespace Go.Proofs.Ytdpcnfdjpbbgjaa.Pure
open Go.RowKit Go.Proofs.Ytdpcnfdjpbbgjaa.PStateTwice Go.Proofs.YtdpcnfdjpbbgjaaW.PrintWords Go.Proofs.YtdpcnfdjpbbgjaaW.PrintLast Go.Proofs.YtdpcnfdjpbbgjaaW.PrintMore
theorem within_some (a lo hi : Int) (h1 : -1000 ≤ lo) (h2 : lo ≤ hi) (h3 : hi ≤ 1000) : ∃ r, assentbook_Within.f a lo hi = some r ∧ lo ≤ r ∧ r ≤ hi := by
  have e : wrap64 (wrap64 (hi - lo) + 1) = hi - lo + 1 := by unfold wrap64; omega
  have p : 0 < hi - lo + 1 := by omega
  have b1 := Int.tmod_lt_of_pos a p
  have b2 : -(hi - lo + 1) < Int.tmod a (hi - lo + 1) := Int.lt_tmod_of_pos a p
  unfold assentbook_Within.f
  rw [e, if_neg (by omega)]
  generalize Int.tmod a (hi - lo + 1) = t at *
  by_cases h : t < 0
  · rw [if_pos h]
    refine ⟨_, rfl, ?_⟩
    unfold wrap64
    omega
  · rw [if_neg h]
    refine ⟨_, rfl, ?_⟩
    unfold wrap64
    omega
-- USES Within
/-- What the law does behind its choices. -/
def rest (k : Nat) (s kd m : Int) : Option Bool := (state_Next.f k s (wrap64 (5 + kd)) m).bind fun bt117 => ((state_Next.f k bt117.1 (wrap64 (5 + kd)) m).bind fun bt119 => (if bt117.1 = 0 then (if bt119.1 = 0 then (if bt119.2 = true then (some false) else (if bt117.2 = true then ((state_Dirty.f s).bind fun t121 => (if t121 = true then ((assentlaw13_StateRuns.f k).bind fun t122 => (some t122)) else (some false))) else ((assentlaw13_StateRuns.f k).bind fun t123 => (some t123)))) else (some false)) else (if bt119.1 = bt117.1 then (if (wrap64 (5 + kd)) = 5 then (if (bt119.2 == (bt117.1 == 3)) = true then (if bt119.2 = true then (if bt117.2 = true then ((assentlaw13_StateRuns.f k).bind fun t124 => (some t124)) else (some false)) else ((assentlaw13_StateRuns.f k).bind fun t125 => (some t125))) else (some false)) else (if (bt119.2 == false) = true then (if bt119.2 = true then (if bt117.2 = true then ((assentlaw13_StateRuns.f k).bind fun t126 => (some t126)) else (some false)) else ((assentlaw13_StateRuns.f k).bind fun t127 => (some t127))) else (some false))) else (some false))))
theorem all : ∀ s, s < 5 → ∀ kd, kd < 6 → ∀ m, m < 4 → rest 10 (s : Nat) (kd : Nat) (m : Nat) = some true := by decide +kernel
theorem StateTwice : assentlaw13_StateTwice.Pure := by
  intro a b c _ _ _
  obtain ⟨s, h1, s0, s1⟩ := within_some a 0 4 (by omega) (by omega) (by omega)
  obtain ⟨m, h2, m0, m1⟩ := within_some c 0 3 (by omega) (by omega) (by omega)
  obtain ⟨kd, h3, k0, k1⟩ := within_some b 0 5 (by omega) (by omega) (by omega)
  refine ⟨10, ?_⟩
  unfold assentlaw13_StateTwice.f
  rw [h1, h2, h3]
  simp only [Option.bind_some]
  show rest 10 s kd m = some true
  obtain ⟨s, rfl⟩ : ∃ x : Nat, s = (x : Int) := ⟨s.toNat, by omega⟩
  obtain ⟨m, rfl⟩ : ∃ x : Nat, m = (x : Int) := ⟨m.toNat, by omega⟩
  obtain ⟨kd, rfl⟩ : ∃ x : Nat, kd = (x : Int) := ⟨kd.toNat, by omega⟩
  exact all s (by omega) kd (by omega) m (by omega)
end Go.Proofs.Ytdpcnfdjpbbgjaa.Pure
