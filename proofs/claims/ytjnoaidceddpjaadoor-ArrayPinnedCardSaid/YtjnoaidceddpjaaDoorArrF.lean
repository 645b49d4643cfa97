/- The lines of a cache: a set's ways written anew. -/
import Derived.Test.YtjnoaidceddpjaaDoorArrE
namespace Go.Proofs.YtjnoaidceddpjaaDoor
open Go.RowKit Go.Extern.Stop Go.Stop Go.Extern

theorem entCells_append (a b : List Ent) : entCells (a ++ b) = entCells a ++ entCells b := by simp [entCells]
/-- An entry written over another one. -/
theorem entCells_set (l : List Ent) (j : Nat) (e : Ent) (hj : j < l.length) : (entCells l).take (j * 10) ++ e.cells ++ (entCells l).drop (j * 10 + 10) = entCells (l.set j e) := by
  have h1 : l = l.take j ++ l[j] :: l.drop (j + 1) := by rw [← List.drop_eq_getElem_cons hj, List.take_append_drop]
  have h2 : l.set j e = l.take j ++ e :: l.drop (j + 1) := by rw [List.set_eq_take_append_cons_drop, if_pos hj]
  have hl : (entCells (l.take j)).length = j * 10 := by rw [entCells_length, List.length_take, Nat.min_eq_left (by omega)]
  have h3 : entCells l = entCells (l.take j) ++ (l[j].cells ++ entCells (l.drop (j + 1))) := by
    conv => lhs; rw [h1]
    rw [entCells_append]; rfl
  have hc : l[j].cells.length = 10 := rfl
  rw [h2, h3, entCells_append]
  have e1 : (entCells (l.take j) ++ (l[j].cells ++ entCells (l.drop (j + 1)))).take (j * 10) = entCells (l.take j) := by rw [← hl, List.take_left]
  have e2 : (entCells (l.take j) ++ (l[j].cells ++ entCells (l.drop (j + 1)))).drop (j * 10 + 10) = entCells (l.drop (j + 1)) := by
    rw [← hl, ← List.drop_drop, List.drop_left, ← hc, List.drop_left]
  rw [e1, e2, List.append_assoc]; rfl
theorem setRow_heap_other {w : World} {g b : Nat} (c : Array Value) (h : b ≠ g) : (w.setRow g c).heap[b]? = w.heap[b]? := by
  simp only [World.setRow, Array.getElem?_modify]
  rw [if_neg (fun e => h e.symm)]
theorem setCells_set (k : Nat) (S : List SetSt) : ∀ (r : Nat) (s : SetSt) (es : List Ent), S[r]? = some s → setCells k (S.set r { s with es := es }) = setCells k S := by
  induction S with
  | nil => intro r s es h; simp at h
  | cons a l ih =>
    intro r s es h
    cases r with
    | zero => simp at h; subst h; simp [setCells]
    | succ r =>
      simp at h
      have := ih r s es h
      simp only [setCells, List.set_cons_succ, List.flatMap_cons] at this ⊢
      rw [this]
theorem set_g (S : List SetSt) (r : Nat) (s s' : SetSt) (h : S[r]? = some s) (hg : s'.g = s.g) : (S.set r s').map (·.g) = S.map (·.g) := by
  obtain ⟨hr, e⟩ := List.getElem?_eq_some_iff.1 h
  rw [List.map_set, hg, ← e]
  apply List.ext_getElem?
  intro i
  rw [List.getElem?_set]
  by_cases hi : r = i
  · subst hi
    simp [hr]
  · rw [if_neg hi]
theorem mem_set {S : List SetSt} {r : Nat} {s' x : SetSt} (h : x ∈ S.set r s') : x = s' ∨ ∃ i, i ≠ r ∧ S[i]? = some x := by
  obtain ⟨i, hi, e⟩ := List.getElem_of_mem h
  by_cases hr : r = i
  · subst hr
    exact .inl (by rw [← e, List.getElem_set_self])
  · refine .inr ⟨i, fun e => hr e.symm, ?_⟩
    rw [List.getElem_set_ne hr] at e
    have : i < S.length := by simpa using hi
    rw [List.getElem?_eq_getElem this, e]
theorem g_ne {S : List SetSt} (hn : (S.map (·.g)).Nodup) {i r : Nat} {x s : SetSt} (hi : S[i]? = some x) (hr : S[r]? = some s) (hne : i ≠ r) : x.g ≠ s.g := by
  obtain ⟨l1, e1⟩ := List.getElem?_eq_some_iff.1 hi
  obtain ⟨l2, e2⟩ := List.getElem?_eq_some_iff.1 hr
  intro h
  have := (List.getElem_inj (i := i) (j := r) (h₀ := by simpa using l1) (h₁ := by simpa using l2) hn).1 (by simp [e1, e2, h])
  exact hne this
/-- A set's ways written anew. -/
theorem ArrAt.put {B : Nat} {w : World} {a gs k : Nat} {S : List SetSt} (h : ArrAt B w a gs k S) {r : Nat} {s : SetSt} (hs : S[r]? = some s) (es : List Ent) (hl : es.length = k) : ArrAt B (w.setRow s.g (entCells es).toArray) a gs k (S.set r { s with es := es }) := by
  have hm := List.mem_of_getElem? hs
  obtain ⟨hr, -⟩ := List.getElem?_eq_some_iff.1 hs
  have hne := h.ne.2 s hm
  refine ⟨?_, ?_, ?_, ?_, ⟨h.ne.1, ?_⟩, ?_, ⟨h.above.1, h.above.2.1, ?_⟩, ?_⟩
  · rw [setRow_heap_other _ (fun e => hne.1 e.symm), List.length_set]; exact h.box
  · rw [setRow_heap_other _ (fun e => hne.2 e.symm), setCells_set k S r s es hs]; exact h.sets
  · intro x hx
    rcases mem_set hx with rfl | ⟨i, hi, hx⟩
    · exact heap_setRow (h.ways s hm) _
    · rw [setRow_heap_other _ (g_ne h.apart hx hs hi)]
      exact h.ways x (List.mem_of_getElem? hx)
  · intro x hx
    rcases mem_set hx with rfl | ⟨i, hi, hx⟩
    · exact hl
    · exact h.len x (List.mem_of_getElem? hx)
  · intro x hx
    rcases mem_set hx with rfl | ⟨i, hi, hx⟩
    · exact hne
    · exact h.ne.2 x (List.mem_of_getElem? hx)
  · rw [set_g S r s { s with es := es } hs rfl]; exact h.apart
  · intro x hx
    rcases mem_set hx with rfl | ⟨i, hi, hx⟩
    · exact h.above.2.2 s hm
    · exact h.above.2.2 x (List.mem_of_getElem? hx)
  · rw [List.length_set]; exact h.many
theorem Turned.setRow {S : Nat → Prop} {a w : World} (h : Turned S a w) {g : Nat} (hg : S g ∨ a.heap.size ≤ g) (c : Array Value) : Turned S a (w.setRow g c) :=
  ⟨h.os, h.tape, h.output, by have := h.size; simpa [World.setRow] using this, fun k hk hs => by
    have hkg : k ≠ g := fun e => by
      subst e
      rcases hg with hg | hg
      · exact hs hg
      · omega
    rw [setRow_heap_other _ hkg]; exact h.block k hk hs⟩
theorem wpList_store_at {P : Program} {ops : Array Oper} {rest : List Oper} {o : Oper} {a : Act} {w : World} {Q : Exit → Act → World → Prop} (hgd : o.guard = none) (ty : TypeId) (x y : Operand) (ho : o.op = .store ty x y)
    (g off : Nat) (cells : Array Value) (hx : a.eval x = .pointer (some ⟨g, off, none⟩)) (hy : a.eval y = .agg cells)
    (t : TypeId) (cur : Array Value) (hg : w.heap[g]? = some (.cells cur t (0, 0))) (hi : (P.info? ty).map (·.size) = some cells.size) (hfit : off + cells.size ≤ cur.size) (h1 : ∀ v ∈ cells.toList, v.oneCell' = true)
    (cur' : List Value) (hX : cur.toList.take off ++ cells.toList ++ cur.toList.drop (off + cells.size) = cur')
    (h : wpList P ops Q rest (a.put o.dst undef) (w.setRow g cur'.toArray)) : wpList P ops Q (o :: rest) a w :=
  wpList_plain hgd fun _ hK => by
    subst hX
    unfold Oper.wp execOp
    simp only [ho, hx, hy, Instr.storeAt, Instr.sureAddr, Sem.run_bind, Sem.run_pure, Result.andThen_ok, run_storeVar_at w g off ty t cur cells hg hi hfit h1]
    exact hK _ _ h
end Go.Proofs.YtjnoaidceddpjaaDoor
