/- What is said of worlds: which blocks have turned; cells; Within once more. -/
import Derived.Test.YtjnoaidceddpjaaDoorKeep
import Derived.Test.YtjnoaidceddpjaaDoorBook
import Derived.Laws.AppendOwn
import Derived.Laws.OwnMore
import Derived.Laws.MakeOwn
import Derived.Deep.LoopGhost
namespace Go.Proofs.YtjnoaidceddpjaaDoor
open Go.RowKit Go.Extern.Stop Go.Stop Go.Extern

theorem below_drewN (B : Nat) (w : World) (n : Nat) : Below B w (w.drewN n) := ⟨rfl, rfl, rfl, Nat.le_refl _, fun _ _ => rfl⟩
/-- Of what was there nothing has turned but the blocks of S. -/
structure Turned (S : Nat → Prop) (w w' : World) : Prop where
  os : w'.os = w.os
  tape : w'.tape = w.tape
  output : w'.output = w.output
  size : w.heap.size ≤ w'.heap.size
  block : ∀ k, k < w.heap.size → ¬ S k → w'.heap[k]? = w.heap[k]?
theorem Turned.of_below {S : Nat → Prop} {w w' : World} (h : Below w.heap.size w w') : Turned S w w' := ⟨h.os, h.tape, h.output, h.size, fun k hk _ => h.block k hk⟩
theorem Turned.of_grown {S : Nat → Prop} {w w' : World} {r : Option Nat} (h : w.grownBy w' r) (hr : ∀ k, r = some k → S k) : Turned S w w' := ⟨h.os, h.tape, h.output, h.size, fun k hk hs => h.block k hk (fun e => hs (hr k e.symm))⟩
theorem Turned.trans {S : Nat → Prop} {a b c : World} (h : Turned S a b) (k : Turned S b c) : Turned S a c :=
  ⟨k.os.trans h.os, k.tape.trans h.tape, k.output.trans h.output, Nat.le_trans h.size k.size, fun i hi hs => (k.block i (Nat.lt_of_lt_of_le hi h.size) hs).trans (h.block i hi hs)⟩
theorem Turned.mono {S T : Nat → Prop} {w w' : World} (h : Turned S w w') (hst : ∀ k, k < w.heap.size → S k → T k) : Turned T w w' := ⟨h.os, h.tape, h.output, h.size, fun k hk hs => h.block k hk (fun e => hs (hst k hk e))⟩
theorem Turned.setCell {S : Nat → Prop} {a w : World} (h : Turned S a w) {p : Addr} (hp : S p.block ∨ a.heap.size ≤ p.block) (u : Value) : Turned S a (w.setCell p u) :=
  ⟨h.os, h.tape, h.output, by have := h.size; simpa [World.setCell] using this, fun k hk hs => by
    have hkp : k ≠ p.block := fun e => by
      subst e
      rcases hp with hp | hp
      · exact hs hp
      · omega
    rw [Below.heap_setCell _ _ _ _ hkp]; exact h.block k hk hs⟩
theorem Turned.refl (S : Nat → Prop) (w : World) : Turned S w w := ⟨rfl, rfl, rfl, Nat.le_refl _, fun _ _ _ => rfl⟩
theorem Turned.below {S : Nat → Prop} {w w' : World} {B : Nat} (h : Turned S w w') (hB : B ≤ w.heap.size) (hs : ∀ k, k < B → ¬ S k) : Below B w w' := ⟨h.os, h.tape, h.output, h.size, fun k hk => h.block k (by omega) (hs k hk)⟩
theorem heap_setCell {w : World} {t o : Nat} {arr : Array Value} {ty : TypeId} (h : w.heap[t]? = some (.cells arr ty (0, 0))) (u : Value) : (w.setCell ⟨t, o, none⟩ u).heap[t]? = some (.cells (arr.setIfInBounds o u) ty (0, 0)) := by
  rw [setCell_eq_setRow w t o arr ty (0, 0) u h]; exact heap_setRow h _

theorem nofreeze {w : World} {g c : Nat} {l : Array Value} {t : TypeId} (h : w.heap[g]? = some (.cells l t (0, 0))) : w.frozen? ⟨g, c, none⟩ = false := by
  simp [World.frozen?, h]
set_option maxRecDepth 100000 in
theorem within_same (n lo hi : Int) (w : World) (h1 : -100 ≤ lo) (h2 : lo ≤ hi) (h3 : hi ≤ 1000) :
    Calls Tryd.prog 22 #[.int .i64 n, .int .i64 lo, .int .i64 hi] w fun e w' => e = .returned (.int .i64 (inOf n lo hi)) ∧ w' = w := by
  have p : 0 < hi - lo + 1 := by omega
  have b1 := Int.tmod_lt_of_pos n p
  have b2 : -(hi - lo + 1) < Int.tmod n (hi - lo + 1) := Int.lt_tmod_of_pos n p
  have q1 : wrap64 (hi - lo) = hi - lo := by unfold wrap64; omega
  have q2 : wrap64 (hi - lo + 1) = hi - lo + 1 := by unfold wrap64; omega
  have q0 : ¬ (hi - lo + 1 = 0) := by omega
  have r1 : wrap64 (Int.tmod n (hi - lo + 1)) = Int.tmod n (hi - lo + 1) := by unfold wrap64; omega
  unfold inOf
  by_cases hneg : Int.tmod n (hi - lo + 1) < 0
  · rw [if_pos hneg]
    have r2 : wrap64 (Int.tmod n (hi - lo + 1) + hi) = Int.tmod n (hi - lo + 1) + hi := by unfold wrap64; omega
    have r3 : wrap64 (Int.tmod n (hi - lo + 1) + hi - lo) = Int.tmod n (hi - lo + 1) + hi - lo := by unfold wrap64; omega
    have r4 : wrap64 (Int.tmod n (hi - lo + 1) + hi - lo + 1) = Int.tmod n (hi - lo + 1) + hi - lo + 1 := by unfold wrap64; omega
    have r5 : wrap64 (lo + (Int.tmod n (hi - lo + 1) + hi - lo + 1)) = lo + (Int.tmod n (hi - lo + 1) + hi - lo + 1) := by unfold wrap64; omega
    go_enter Tryd.func22, Tryd.ntmps22
    go_wp2
    go_ret
    exact ⟨rfl, rfl⟩
  · rw [if_neg hneg]
    have r5 : wrap64 (lo + Int.tmod n (hi - lo + 1)) = lo + Int.tmod n (hi - lo + 1) := by unfold wrap64; omega
    go_enter Tryd.func22, Tryd.ntmps22
    go_wp2
    go_ret
    exact ⟨rfl, rfl⟩
end Go.Proofs.YtjnoaidceddpjaaDoor
