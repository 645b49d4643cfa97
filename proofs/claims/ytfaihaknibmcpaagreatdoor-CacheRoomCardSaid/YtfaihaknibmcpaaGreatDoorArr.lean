/- The lines of a cache (package array): entries, their cells, and where an entry stands. -/
import Derived.Test.YtfaihaknibmcpaaGreatDoorBase
import Derived.WalkSpells
import Derived.Deep.DeepAppendRoom
import Derived.Deep.RegionLaw
import Derived.RegionTactic
import Derived.Deep.RegionHeld3
namespace Go.Proofs.YtfaihaknibmcpaaGreatDoor
open Go.RowKit Go.Extern.Stop Go.Stop Go.Extern

/-- An entry of a line. -/
structure Ent where
  line : Int
  state : Int
  mode : Int
  epoch : Int
  d0 : Int
  d1 : Int
  d2 : Int
  d3 : Int
  h : Bool
  f : Bool
  deriving DecidableEq
def Ent.cells (e : Ent) : List Value := [.int .i64 e.line, .int .i64 e.state, .int .i64 e.mode, .int .i64 e.epoch, .int .u32 e.d0, .int .u32 e.d1, .int .u32 e.d2, .int .u32 e.d3, .bool e.h, .bool e.f]
def Ent.val (e : Ent) : Value := .agg #[.int .i64 e.line, .int .i64 e.state, .int .i64 e.mode, .int .i64 e.epoch, .int .u32 e.d0, .int .u32 e.d1, .int .u32 e.d2, .int .u32 e.d3, .bool e.h, .bool e.f]
def Ent.none : Ent := ⟨0, 0, 0, 0, 0, 0, 0, 0, false, false⟩
def entCells (l : List Ent) : List Value := l.flatMap Ent.cells
theorem entCells_length (l : List Ent) : (entCells l).length = l.length * 10 := by
  induction l with
  | nil => rfl
  | cons a l ih => simp [entCells, Ent.cells] at ih ⊢; omega
theorem entCells_get (l : List Ent) : ∀ (i j : Nat) (e : Ent), l[i]? = some e → j < 10 → (entCells l)[i * 10 + j]? = e.cells[j]? := by
  induction l with
  | nil => intro i j e h; simp at h
  | cons a l ih =>
    intro i j e h hj
    have ec : entCells (a :: l) = a.cells ++ entCells l := rfl
    have hl : a.cells.length = 10 := rfl
    cases i with
    | zero =>
      simp at h
      subst h
      rw [ec, List.getElem?_append_left (by omega)]
      simp
    | succ i =>
      have h' : l[i]? = some e := by simpa using h
      rw [ec, List.getElem?_append_right (by omega), hl, show (i + 1) * 10 + j - 10 = i * 10 + j by omega]
      exact ih i j e h' hj
/-- The ten cells of the entry at a place. -/
theorem entCells_at {w : World} {g : Nat} {l : List Ent} (h : w.heap[g]? = some (.cells (entCells l).toArray 65 (0, 0))) {i : Nat} {e : Ent} (he : l[i]? = some e) :
    w.cell? ⟨g, i * 10, none⟩ = some (.int .i64 e.line) ∧ w.cell? ⟨g, i * 10 + 1, none⟩ = some (.int .i64 e.state) ∧ w.cell? ⟨g, i * 10 + 2, none⟩ = some (.int .i64 e.mode) ∧ w.cell? ⟨g, i * 10 + 3, none⟩ = some (.int .i64 e.epoch) ∧ w.cell? ⟨g, i * 10 + 4, none⟩ = some (.int .u32 e.d0) ∧ w.cell? ⟨g, i * 10 + 5, none⟩ = some (.int .u32 e.d1) ∧ w.cell? ⟨g, i * 10 + 6, none⟩ = some (.int .u32 e.d2) ∧ w.cell? ⟨g, i * 10 + 7, none⟩ = some (.int .u32 e.d3) ∧ w.cell? ⟨g, i * 10 + 8, none⟩ = some (.bool e.h) ∧ w.cell? ⟨g, i * 10 + 9, none⟩ = some (.bool e.f) := by
  have key : ∀ j, j < 10 → w.cell? ⟨g, i * 10 + j, none⟩ = e.cells[j]? := by
    intro j hj
    have := entCells_get l i j e he hj
    simp only [World.cell?, h]
    simpa using this
  exact ⟨key 0 (by omega), key 1 (by omega), key 2 (by omega), key 3 (by omega), key 4 (by omega), key 5 (by omega), key 6 (by omega), key 7 (by omega), key 8 (by omega), key 9 (by omega)⟩

set_option maxRecDepth 100000 in
/-- The question of find: is it there, and that line's? -/
theorem find1 (e : Ent) (line : Int) (b : Nat) (w : World) (hb : w.cell? ⟨b, 0, none⟩ = some (.int .i64 line)) :
    Calls Tryz.prog 112 #[e.val, .pointer (some ⟨b, 0, none⟩)] w fun x w' => x = .returned (.bool ((e.state != 0) && (e.line == line))) ∧ Below w.heap.size w w' := by
  have hlt := cell_lt hb
  have hb1 : ∀ o, (w.alloc o).cell? ⟨b, 0, none⟩ = some (.int .i64 line) := fun o => by rw [World.cell?_alloc_lt _ _ _ hlt]; exact hb
  obtain ⟨x, s, m, ep, d0, d1, d2, d3, hh, ff⟩ := e
  simp only [Ent.val]
  by_cases hs : s = 0
  · subst hs
    go_enter Tryz.func112, Tryz.ntmps112
    go_wp2
    go_ret
    exact ⟨rfl, (Below.refl _ _).alloc (Nat.le_refl _) _⟩
  · have hs' : (s != 0) = true := by simpa using hs
    rw [hs']
    go_enter Tryz.func112, Tryz.ntmps112
    go_wp2
    go_ret
    exact ⟨rfl, (Below.refl _ _).alloc (Nat.le_refl _) _⟩
set_option maxRecDepth 100000 in
/-- The question of free. -/
theorem free1 (e : Ent) (w : World) :
    Calls Tryz.prog 113 #[e.val] w fun x w' => x = .returned (.bool (e.state == 0)) ∧ Below w.heap.size w w' := by
  obtain ⟨x, s, m, ep, d0, d1, d2, d3, hh, ff⟩ := e
  simp only [Ent.val]
  go_enter Tryz.func113, Tryz.ntmps113
  go_wp2
  go_ret
  exact ⟨rfl, (Below.refl _ _).alloc (Nat.le_refl _) _⟩
end Go.Proofs.YtfaihaknibmcpaaGreatDoor
