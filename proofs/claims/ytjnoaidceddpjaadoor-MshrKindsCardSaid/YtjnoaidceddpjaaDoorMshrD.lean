/- The table of misses (package mshr): Drop. -/
import Derived.Test.YtjnoaidceddpjaaDoorMshrC
namespace Go.Proofs.YtjnoaidceddpjaaDoor
open Go.RowKit Go.Extern.Stop Go.Stop Go.Extern

/-- Of what was there nothing has turned but the blocks of S. -/
structure Turned (S : Nat → Prop) (w w' : World) : Prop where
  os : w'.os = w.os
  tape : w'.tape = w.tape
  output : w'.output = w.output
  size : w.heap.size ≤ w'.heap.size
  block : ∀ k, k < w.heap.size → ¬ S k → w'.heap[k]? = w.heap[k]?
theorem Turned.of_below {S : Nat → Prop} {w w' : World} (h : Below w.heap.size w w') : Turned S w w' := ⟨h.os, h.tape, h.output, h.size, fun k hk _ => h.block k hk⟩
theorem Turned.of_grown {S : Nat → Prop} {w w' : World} {r : Option Nat} (h : w.grownBy w' r) (hr : ∀ k, r = some k → S k) : Turned S w w' := ⟨h.os, h.tape, h.output, h.size, fun k hk hs => h.block k hk (fun e => hs (hr k e.symm))⟩
theorem Turned.trans {S : Nat → Prop} {a b c : World} (h : Turned S a b) (k : Turned S b c) : Turned S a c :=
  ⟨k.os.trans h.os, k.tape.trans h.tape, k.output.trans h.output, Nat.le_trans h.size k.size, fun i hi hs => (k.block i (Nat.lt_of_lt_of_le hi h.size) hs).trans (h.block i hi hs)⟩
theorem Turned.mono {S T : Nat → Prop} {w w' : World} (h : Turned S w w') (hst : ∀ k, k < w.heap.size → S k → T k) : Turned T w w' := ⟨h.os, h.tape, h.output, h.size, fun k hk hs => h.block k hk (fun e => hs (hst k hk e))⟩
theorem Turned.setCell {S : Nat → Prop} {a w : World} (h : Turned S a w) {p : Addr} (hp : S p.block ∨ a.heap.size ≤ p.block) (u : Value) : Turned S a (w.setCell p u) :=
  ⟨h.os, h.tape, h.output, by have := h.size; simpa [World.setCell] using this, fun k hk hs => by
    have hkp : k ≠ p.block := fun e => by
      subst e
      rcases hp with hp | hp
      · exact hs hp
      · omega
    rw [Below.heap_setCell _ _ _ _ hkp]; exact h.block k hk hs⟩
theorem Turned.refl (S : Nat → Prop) (w : World) : Turned S w w := ⟨rfl, rfl, rfl, Nat.le_refl _, fun _ _ _ => rfl⟩
theorem Turned.below {S : Nat → Prop} {w w' : World} {B : Nat} (h : Turned S w w') (hB : B ≤ w.heap.size) (hs : ∀ k, k < B → ¬ S k) : Below B w w' := ⟨h.os, h.tape, h.output, h.size, fun k hk => h.block k (by omega) (hs k hk)⟩
theorem heap_setCell {w : World} {t o : Nat} {arr : Array Value} {ty : TypeId} (h : w.heap[t]? = some (.cells arr ty (0, 0))) (u : Value) : (w.setCell ⟨t, o, none⟩ u).heap[t]? = some (.cells (arr.setIfInBounds o u) ty (0, 0)) := by
  rw [setCell_eq_setRow w t o arr ty (0, 0) u h]; exact heap_setRow h _

/-- What is left when a line's miss is dropped. -/
def dropOf (line : Int) : List (Int × Int) → List (Int × Int)
  | [] => []
  | m :: l => if m.1 == line then l else m :: dropOf line l
theorem drop_split (line : Int) : ∀ (l : List (Int × Int)) (i : Nat), (has line l = false ∧ place line l i = -1 ∧ dropOf line l = l) ∨ ∃ xs m ys, l = xs ++ m :: ys ∧ dropOf line l = xs ++ ys ∧ place line l i = ((i + xs.length : Nat) : Int) ∧ has line l = true := by
  intro l
  induction l with
  | nil => intro i; exact .inl ⟨rfl, rfl, rfl⟩
  | cons a l ih =>
    intro i
    by_cases h : (a.1 == line) = true
    · exact .inr ⟨[], a, l, rfl, by simp [dropOf, h], by simp [place, h], by simp [has, h]⟩
    · have h' : (a.1 == line) = false := by simpa using h
      rcases ih (i + 1) with ⟨h1, h2, h3⟩ | ⟨xs, m, ys, hl, h1, h2, h3⟩
      · exact .inl ⟨by simp [has, h', h1], by simp [place, h', h2], by simp [dropOf, h', h3]⟩
      · exact .inr ⟨a :: xs, m, ys, by simp [hl], by simp [dropOf, h', h1], by simp only [place, h']; simp; rw [h2]; omega, by simp [has, h3]⟩
theorem deleteMiss_at (g cap n p : Nat) (xs ys : List (Int × Int)) (m : Int × Int) (w : World) (hn : (xs ++ m :: ys).length = n) (hp : xs.length = p) (h : MissRow w (.slice (some ⟨g, 0, none⟩) n cap) (xs ++ m :: ys)) (hfew : n ≤ 1000) :
    Calls Tryd.prog 64 #[.slice (some ⟨g, 0, none⟩) n cap, .int .i64 p, .int .i64 ((p : Int) + 1)] w fun e w' => e = .returned (.slice (some ⟨g, 0, none⟩) (n - 1) cap) ∧ MissRow w' (.slice (some ⟨g, 0, none⟩) (n - 1) cap) (xs ++ ys) ∧ w.grownBy w' (some g) := by
  subst hn
  subst hp
  have e : (xs ++ ys).length = (xs ++ m :: ys).length - 1 := by simp
  rw [← e]
  exact deleteMiss g cap xs ys m w h hfew
set_option maxRecDepth 100000 in
set_option maxHeartbeats 400000 in
/-- Drop: a line's miss is under way no more. -/
theorem drop_is (t most : Nat) (l : List (Int × Int)) (v : Value) (line : Int) (w : World) (h : TabAt w t most l v) :
    Calls Tryd.prog 38 #[.pointer (some ⟨t, 0, none⟩), .int .i64 line] w fun e w' => e = .returned (.bool (has line l)) ∧ ∃ v', TabAt w' t most (dropOf line l) v' ∧ v'.ownBlock = v.ownBlock ∧ Turned (fun k => k = t ∨ v.ownBlock = some k) w w' := by
  have hk := known_is t most l v line w h
  rcases drop_split line l 0 with ⟨h1, h2, h3⟩ | ⟨xs, m, ys, hl, h1, h2, h3⟩
  · rw [h2] at hk
    have Hk := Lib.hid hk
    have Ht := Lib.hid h
    rw [h1, h3]
    clear hk h h1 h2 h3
    go_enter Tryd.func38, Tryd.ntmps38
    go_wp2_with fail
    refine (Hk.out).mono ?_
    rintro e w1 ⟨rfl, hb⟩
    have hb' := Lib.hid hb
    clear hb
    go_wp2
    go_ret
    exact ⟨rfl, v, Ht.out.below hb'.out, rfl, Turned.of_below hb'.out⟩
  · rw [h2] at hk
    have Hk := Lib.hid hk
    have Ht := Lib.hid h
    rw [h1, h3]
    clear hk h h1 h2 h3
    subst hl
    go_enter Tryd.func38, Tryd.ntmps38
    go_wp2_with fail
    refine (Hk.out).mono ?_
    rintro e w1 ⟨rfl, hb⟩
    have T1 := Ht.out.below hb
    have hb' := Lib.hid hb
    clear hb
    rcases T1.row.cells with ⟨_, hn⟩ | ⟨g, cap, hv, _⟩
    · simp at hn
    have hfew := T1.few
    generalize hn : (xs ++ m :: ys).length = n at *
    subst hv
    have d1 := T1.list_cell
    have HT := Lib.hid T1
    have Hn := Lib.hid hn
    have hz : ((0 + xs.length : Nat) : Int) = (xs.length : Int) := by simp
    have hpn : xs.length < n := by rw [← hn]; simp
    generalize hp : xs.length = p at *
    have Hp := Lib.hid hp
    clear T1 hn hp
    have hwr : IntKind.i64.wrap ((p : Int) + 1) = (p : Int) + 1 := by rw [IntKind.wrap_i64]; omega
    rw [hz]
    clear hz
    go_wp2_with fail
    refine (deleteMiss_at g cap n p xs ys m _ Hn.out Hp.out HT.out.row hfew).mono ?_
    rintro e w2 ⟨rfl, hr2, hg2⟩
    have hgt : ¬ t = g := fun e => HT.out.ne (by simp [Value.ownBlock, e])
    have hbox : w2.heap[t]? = some (.cells #[.int .i64 most, .slice (some ⟨g, 0, none⟩) n cap] 119 (0, 0)) := by
      rw [hg2.block t (lt_of_heap HT.out.box) (by intro e; simp at e; exact hgt e)]; exact HT.out.box
    have c1 : w2.cell? ⟨t, 1, none⟩ = some (.slice (some ⟨g, 0, none⟩) n cap) := by simp [World.cell?, hbox]
    have f1 : w2.frozen? ⟨t, 1, none⟩ = false := by simp [World.frozen?, hbox]
    have Hr := Lib.hid hr2
    have Hg := Lib.hid hg2
    have Hx := Lib.hid hbox
    clear hr2 hg2 hbox
    go_wp2
    go_ret
    refine ⟨rfl, .slice (some ⟨g, 0, none⟩) (n - 1) cap, ⟨?_, ?_, ?_, ?_⟩, rfl, ?_⟩
    · have := heap_setCell (o := 1) Hx.out (.slice (some ⟨g, 0, none⟩) (n - 1) cap)
      simpa using this
    · exact Hr.out.of_block (fun k hk => Below.heap_setCell _ _ _ _ (by
        simp [Value.ownBlock] at hk
        intro e
        simp at e
        exact hgt (by omega)))
    · simp [Value.ownBlock]
      intro e
      exact hgt e.symm
    · have := HT.out.few
      simp at this ⊢
      omega
    · refine ((Turned.of_below hb'.out).trans (Turned.of_grown Hg.out (fun k hk => ?_))).setCell (Or.inl (Or.inl rfl)) _
      exact Or.inr (by simpa [Value.ownBlock] using hk)
end Go.Proofs.YtjnoaidceddpjaaDoor
