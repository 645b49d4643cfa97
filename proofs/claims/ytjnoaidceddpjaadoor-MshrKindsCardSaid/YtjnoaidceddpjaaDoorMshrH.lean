/- The table of misses (package mshr): slices.Insert of one, whatever the room. -/
import Derived.Test.YtjnoaidceddpjaaDoorMshrG
namespace Go.Proofs.YtjnoaidceddpjaaDoor
open Go.RowKit Go.Extern.Stop Go.Stop Go.Extern

/-- slices.Insert of one miss at p. -/
theorem insertMiss (v : Value) (n p : Nat) (xs ys : List (Int × Int)) (x y : Int) (b : Nat) (w : World) (hv : MissRow w v (xs ++ ys)) (hn : (xs ++ ys).length = n) (hp : xs.length = p) (hl : n ≤ 1000) (hbv : ∀ k, v.ownBlock = some k → b ≠ k) (hb : w.heap[b]? = some (.cells #[.int .i64 x, .int .i64 y] 91 (0, 0))) :
    Calls Tryd.prog 62 #[v, .int .i64 p, .slice (some ⟨b, 0, none⟩) 1 1] w fun e w' => ∃ v', e = .returned v' ∧ MissRow w' v' (xs ++ (x, y) :: ys) ∧ w.grownBy w' v.ownBlock ∧ (v'.ownBlock = v.ownBlock ∨ ∃ k, v'.ownBlock = some k ∧ w.heap.size ≤ k) := by
  have hlen : (xs ++ ys).length = xs.length + ys.length := List.length_append
  by_cases hpn : p < n
  · rcases hv.cells with ⟨rfl, hl0⟩ | ⟨g, cap, hvv, _⟩
    · rw [hl0] at hn
      simp at hn
      omega
    · rw [hn] at hvv
      subst hvv
      obtain ⟨cur, -, hle, -⟩ := hv.heap
      rw [hn] at hle
      by_cases hc : n + 1 ≤ cap
      · refine (insertMiss_room g cap n p xs ys x y b w hv hn hp hpn hc hl (hbv g rfl) hb).mono ?_
        rintro e w1 ⟨rfl, h1, h2⟩
        exact ⟨_, rfl, h1, h2, .inl rfl⟩
      · obtain rfl : cap = n := by omega
        refine (insertMiss_grow g cap p xs ys x y b w hv hn hp hpn hl hb).mono ?_
        rintro e w1 ⟨G, rfl, h1, h2⟩
        exact ⟨_, rfl, h1, ⟨h2.os, h2.tape, h2.output, h2.size, fun k hk _ => h2.block k hk (by simp)⟩, .inr ⟨_, rfl, Nat.le_refl _⟩⟩
  · have hy : ys = [] := List.eq_nil_of_length_eq_zero (by omega)
    subst hy
    simp only [List.append_nil] at hv hn hlen
    have hpe : p = n := by omega
    subst hpe
    refine (insertMiss_end v xs p x y b w hv hn hl hb).mono ?_
    rintro e w1 ⟨v', rfl, h1, h2, h3⟩
    exact ⟨v', rfl, h1, h2, h3⟩
end Go.Proofs.YtjnoaidceddpjaaDoor
