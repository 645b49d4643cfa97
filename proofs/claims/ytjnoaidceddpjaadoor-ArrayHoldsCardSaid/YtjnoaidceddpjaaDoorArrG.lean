/- The lines of a cache: a set's ways written anew. The lines of a cache: Get of what isn't there, Room, Drop. -/
import Derived.Test.YtjnoaidceddpjaaDoorArrE
namespace Go.Proofs.YtjnoaidceddpjaaDoor
open Go.RowKit Go.Extern.Stop Go.Stop Go.Extern

theorem entCells_append (a b : List Ent) : entCells (a ++ b) = entCells a ++ entCells b := by simp [entCells]
/-- An entry written over another one. -/
theorem entCells_set (l : List Ent) (j : Nat) (e : Ent) (hj : j < l.length) : (entCells l).take (j * 10) ++ e.cells ++ (entCells l).drop (j * 10 + 10) = entCells (l.set j e) := by
  have h1 : l = l.take j ++ l[j] :: l.drop (j + 1) := by rw [← List.drop_eq_getElem_cons hj, List.take_append_drop]
  have h2 : l.set j e = l.take j ++ e :: l.drop (j + 1) := by rw [List.set_eq_take_append_cons_drop, if_pos hj]
  have hl : (entCells (l.take j)).length = j * 10 := by rw [entCells_length, List.length_take, Nat.min_eq_left (by omega)]
  have h3 : entCells l = entCells (l.take j) ++ (l[j].cells ++ entCells (l.drop (j + 1))) := by
    conv => lhs; rw [h1]
    rw [entCells_append]; rfl
  have hc : l[j].cells.length = 10 := rfl
  rw [h2, h3, entCells_append]
  have e1 : (entCells (l.take j) ++ (l[j].cells ++ entCells (l.drop (j + 1)))).take (j * 10) = entCells (l.take j) := by rw [← hl, List.take_left]
  have e2 : (entCells (l.take j) ++ (l[j].cells ++ entCells (l.drop (j + 1)))).drop (j * 10 + 10) = entCells (l.drop (j + 1)) := by
    rw [← hl, ← List.drop_drop, List.drop_left, ← hc, List.drop_left]
  rw [e1, e2, List.append_assoc]; rfl
theorem setRow_heap_other {w : World} {g b : Nat} (c : Array Value) (h : b ≠ g) : (w.setRow g c).heap[b]? = w.heap[b]? := by
  simp only [World.setRow, Array.getElem?_modify]
  rw [if_neg (fun e => h e.symm)]
theorem setCells_set (k : Nat) (S : List SetSt) : ∀ (r : Nat) (s : SetSt) (es : List Ent), S[r]? = some s → setCells k (S.set r { s with es := es }) = setCells k S := by
  induction S with
  | nil => intro r s es h; simp at h
  | cons a l ih =>
    intro r s es h
    cases r with
    | zero => simp at h; subst h; simp [setCells]
    | succ r =>
      simp at h
      have := ih r s es h
      simp only [setCells, List.set_cons_succ, List.flatMap_cons] at this ⊢
      rw [this]
theorem set_g (S : List SetSt) (r : Nat) (s s' : SetSt) (h : S[r]? = some s) (hg : s'.g = s.g) : (S.set r s').map (·.g) = S.map (·.g) := by
  obtain ⟨hr, e⟩ := List.getElem?_eq_some_iff.1 h
  rw [List.map_set, hg, ← e]
  apply List.ext_getElem?
  intro i
  rw [List.getElem?_set]
  by_cases hi : r = i
  · subst hi
    simp [hr]
  · rw [if_neg hi]
theorem mem_set {S : List SetSt} {r : Nat} {s' x : SetSt} (h : x ∈ S.set r s') : x = s' ∨ ∃ i, i ≠ r ∧ S[i]? = some x := by
  obtain ⟨i, hi, e⟩ := List.getElem_of_mem h
  by_cases hr : r = i
  · subst hr
    exact .inl (by rw [← e, List.getElem_set_self])
  · refine .inr ⟨i, fun e => hr e.symm, ?_⟩
    rw [List.getElem_set_ne hr] at e
    have : i < S.length := by simpa using hi
    rw [List.getElem?_eq_getElem this, e]
theorem g_ne {S : List SetSt} (hn : (S.map (·.g)).Nodup) {i r : Nat} {x s : SetSt} (hi : S[i]? = some x) (hr : S[r]? = some s) (hne : i ≠ r) : x.g ≠ s.g := by
  obtain ⟨l1, e1⟩ := List.getElem?_eq_some_iff.1 hi
  obtain ⟨l2, e2⟩ := List.getElem?_eq_some_iff.1 hr
  intro h
  have := (List.getElem_inj (i := i) (j := r) (h₀ := by simpa using l1) (h₁ := by simpa using l2) hn).1 (by simp [e1, e2, h])
  exact hne this
/-- A set's ways written anew. -/
theorem ArrAt.put {B : Nat} {w : World} {a gs k : Nat} {S : List SetSt} (h : ArrAt B w a gs k S) {r : Nat} {s : SetSt} (hs : S[r]? = some s) (es : List Ent) (hl : es.length = k) : ArrAt B (w.setRow s.g (entCells es).toArray) a gs k (S.set r { s with es := es }) := by
  have hm := List.mem_of_getElem? hs
  obtain ⟨hr, -⟩ := List.getElem?_eq_some_iff.1 hs
  have hne := h.ne.2 s hm
  refine ⟨?_, ?_, ?_, ?_, ⟨h.ne.1, ?_⟩, ?_, ⟨h.above.1, h.above.2.1, ?_⟩, ?_⟩
  · rw [setRow_heap_other _ (fun e => hne.1 e.symm), List.length_set]; exact h.box
  · rw [setRow_heap_other _ (fun e => hne.2 e.symm), setCells_set k S r s es hs]; exact h.sets
  · intro x hx
    rcases mem_set hx with rfl | ⟨i, hi, hx⟩
    · exact heap_setRow (h.ways s hm) _
    · rw [setRow_heap_other _ (g_ne h.apart hx hs hi)]
      exact h.ways x (List.mem_of_getElem? hx)
  · intro x hx
    rcases mem_set hx with rfl | ⟨i, hi, hx⟩
    · exact hl
    · exact h.len x (List.mem_of_getElem? hx)
  · intro x hx
    rcases mem_set hx with rfl | ⟨i, hi, hx⟩
    · exact hne
    · exact h.ne.2 x (List.mem_of_getElem? hx)
  · rw [set_g S r s { s with es := es } hs rfl]; exact h.apart
  · intro x hx
    rcases mem_set hx with rfl | ⟨i, hi, hx⟩
    · exact h.above.2.2 s hm
    · exact h.above.2.2 x (List.mem_of_getElem? hx)
  · rw [List.length_set]; exact h.many
theorem Turned.setRow {S : Nat → Prop} {a w : World} (h : Turned S a w) {g : Nat} (hg : S g ∨ a.heap.size ≤ g) (c : Array Value) : Turned S a (w.setRow g c) :=
  ⟨h.os, h.tape, h.output, by have := h.size; simpa [World.setRow] using this, fun k hk hs => by
    have hkg : k ≠ g := fun e => by
      subst e
      rcases hg with hg | hg
      · exact hs hg
      · omega
    rw [setRow_heap_other _ hkg]; exact h.block k hk hs⟩
theorem wpList_store_at {P : Program} {ops : Array Oper} {rest : List Oper} {o : Oper} {a : Act} {w : World} {Q : Exit → Act → World → Prop} (hgd : o.guard = none) (ty : TypeId) (x y : Operand) (ho : o.op = .store ty x y)
    (g off : Nat) (cells : Array Value) (hx : a.eval x = .pointer (some ⟨g, off, none⟩)) (hy : a.eval y = .agg cells)
    (t : TypeId) (cur : Array Value) (hg : w.heap[g]? = some (.cells cur t (0, 0))) (hi : (P.info? ty).map (·.size) = some cells.size) (hfit : off + cells.size ≤ cur.size) (h1 : ∀ v ∈ cells.toList, v.oneCell' = true)
    (cur' : List Value) (hX : cur.toList.take off ++ cells.toList ++ cur.toList.drop (off + cells.size) = cur')
    (h : wpList P ops Q rest (a.put o.dst undef) (w.setRow g cur'.toArray)) : wpList P ops Q (o :: rest) a w :=
  wpList_plain hgd fun _ hK => by
    subst hX
    unfold Oper.wp execOp
    simp only [ho, hx, hy, Instr.storeAt, Instr.sureAddr, Sem.run_bind, Sem.run_pure, Result.andThen_ok, run_storeVar_at w g off ty t cur cells hg hi hfit h1]
    exact hK _ _ h
end Go.Proofs.YtjnoaidceddpjaaDoor
namespace Go.Proofs.YtjnoaidceddpjaaDoor
open Go.RowKit Go.Extern.Stop Go.Stop Go.Extern

/-- find tells that a line isn't there; p: its set, where it has one. -/
def Missing (a : Nat) (line : Int) (p : Option Addr) (w : World) : Prop := Calls Tryd.prog 48 #[.pointer (some ⟨a, 0, none⟩), .int .i64 line] w fun e w' => e = .returned (.tuple #[.pointer p, .int .i64 (-1)]) ∧ Below w.heap.size w w'
theorem missing_in {B a gs k : Nat} {S : List SetSt} {l : Nat} {s : SetSt} {w : World} (h : ArrAt B w a gs k S) (hl : l < 32) (hs : S[l % S.length]? = some s) (hj : s.es.findIdx? (isAt (l : Nat)) = none) : Missing a (l : Nat) (some ⟨gs, l % S.length * 2, none⟩) w := by
  have := find_in B a gs k S l s w h hl hs
  rw [hj] at this
  exact this
theorem missing_out {B a gs k : Nat} {S : List SetSt} {line : Int} {w : World} (h : ArrAt B w a gs k S) (hl : ¬ (0 ≤ line ∧ line ≤ 31)) : Missing a line none w := find_out B a gs k S line w h hl
set_option maxRecDepth 100000 in
set_option maxHeartbeats 4000000 in
theorem get_miss (a : Nat) (line : Int) (p : Option Addr) (w : World) (hf : ∀ o, Missing a line p (w.alloc o)) :
    Calls Tryd.prog 23 #[.pointer (some ⟨a, 0, none⟩), .int .i64 line] w fun x w' => x = .returned (.tuple #[Ent.none.val, .bool false]) ∧ Below w.heap.size w w' := by
  have hA : ∀ o, Below w.heap.size w (w.alloc o) := fun o => (Below.refl _ _).alloc (Nat.le_refl _) _
  have HA := Lib.hid hA
  have HF := Lib.hid hf
  have HONE := Lib.hid (all_oneCell_toArray (ent_one Ent.none))
  clear hA hf
  go_enter Tryd.func23, Tryd.ntmps23
  go_wp2_with fail
  refine Calls.mono (HF.out _) ?_
  rintro x w1 ⟨rfl, hb⟩
  have HB1 := Lib.hid ((HA.out _).trans (hb.mono (HA.out _).size))
  have hres : w1.heap[w.heap.size]? = some (.cells #[.int .i64 0, .int .i64 0, .int .i64 0, .int .i64 0, .int .u32 0, .int .u32 0, .int .u32 0, .int .u32 0, .bool false, .bool false] 32 (0, 0)) := by
    rw [hb.block _ (by simp)]
    exact heap_alloc_new _ _
  clear hb HF HA
  go_wp2_with (refine wpList_store_row rfl 32 (.tmp 4) (.tmp 16) rfl w.heap.size Ent.none.cells.toArray rfl rfl 32 _ hres Tryd.sizeEnt rfl HONE.out ?_)
  have HB2 : Hid (Below w.heap.size w (w1.setRow w.heap.size Ent.none.cells.toArray)) := below_setRow HB1.out (Nat.le_refl _) _
  have hnew := heap_setRow hres Ent.none.cells.toArray
  clear hres
  generalize w1.setRow w.heap.size Ent.none.cells.toArray = w2 at *
  go_wp2
  exact ⟨rfl, _, ret_ent Tryd.results23 _ _ _ _ rfl hnew rfl, rfl, HB2.out⟩
/-- Is a line there, or a way free for it? -/
def roomIn (l : Int) (es : List Ent) : Bool := (es.findIdx? (isAt l)).isSome || (es.findIdx? isFree).isSome
set_option maxRecDepth 100000 in
set_option maxHeartbeats 4000000 in
theorem room_in (B a gs k : Nat) (S : List SetSt) (l : Nat) (s : SetSt) (w : World) (h : ArrAt B w a gs k S) (hl : l < 32) (hs : S[l % S.length]? = some s) :
    Calls Tryd.prog 21 #[.pointer (some ⟨a, 0, none⟩), .int .i64 (l : Nat)] w fun x w' => x = .returned (.bool (roomIn (l : Nat) s.es)) ∧ Below w.heap.size w w' := by
  have HF := Lib.hid (find_in B a gs k S l s w h hl hs)
  have HX : Hid (∀ w', Below w.heap.size w w' → _) := fun w' hb => free_is B a gs k S (l % S.length) s w' (h.below hb) hs
  unfold roomIn
  clear h hs
  generalize l % S.length = r at *
  cases hj : s.es.findIdx? (isAt (l : Nat)) with
  | some j =>
    rw [hj] at HF
    simp only [idxI] at HF
    clear hj
    go_enter Tryd.func21, Tryd.ntmps21
    go_wp2_with fail
    refine HF.out.mono ?_
    rintro x w1 ⟨rfl, hb⟩
    have HB1 := Lib.hid hb
    clear hb HF HX
    go_wp2
    go_ret
    exact ⟨rfl, HB1.out⟩
  | none =>
    rw [hj] at HF
    clear hj
    cases hq : s.es.findIdx? isFree with
    | some q =>
      rw [hq] at HX
      clear hq
      simp only [idxI] at HF HX
      go_enter Tryd.func21, Tryd.ntmps21
      go_wp2_with fail
      refine HF.out.mono ?_
      rintro x w1 ⟨rfl, hb⟩
      have HB1 := Lib.hid hb
      clear hb HF
      go_wp2_with fail
      refine (HX.out w1 HB1.out).mono ?_
      rintro x w2 ⟨rfl, hb⟩
      have HB2 := Lib.hid (HB1.out.trans (hb.mono HB1.out.size))
      clear hb HX
      go_wp2
      go_ret
      exact ⟨rfl, HB2.out⟩
    | none =>
      rw [hq] at HX
      clear hq
      simp only [idxI] at HF HX
      go_enter Tryd.func21, Tryd.ntmps21
      go_wp2_with fail
      refine HF.out.mono ?_
      rintro x w1 ⟨rfl, hb⟩
      have HB1 := Lib.hid hb
      clear hb HF
      go_wp2_with fail
      refine (HX.out w1 HB1.out).mono ?_
      rintro x w2 ⟨rfl, hb⟩
      have HB2 := Lib.hid (HB1.out.trans (hb.mono HB1.out.size))
      clear hb HX
      go_wp2
      go_ret
      exact ⟨rfl, HB2.out⟩
set_option maxRecDepth 100000 in
set_option maxHeartbeats 4000000 in
theorem room_out (a : Nat) (line : Int) (w : World) (hf : Missing a line none w) :
    Calls Tryd.prog 21 #[.pointer (some ⟨a, 0, none⟩), .int .i64 line] w fun x w' => x = .returned (.bool false) ∧ Below w.heap.size w w' := by
  have HF := Lib.hid hf
  clear hf
  go_enter Tryd.func21, Tryd.ntmps21
  go_wp2_with fail
  refine Calls.mono HF.out ?_
  rintro x w1 ⟨rfl, hb⟩
  have HB1 := Lib.hid hb
  clear hb HF
  go_wp2
  go_ret
  exact ⟨rfl, HB1.out⟩
set_option maxRecDepth 100000 in
set_option maxHeartbeats 4000000 in
theorem drop_miss (a : Nat) (line : Int) (p : Option Addr) (w : World) (hf : Missing a line p w) :
    Calls Tryd.prog 19 #[.pointer (some ⟨a, 0, none⟩), .int .i64 line] w fun x w' => x = .returned (.bool false) ∧ Below w.heap.size w w' := by
  have HF := Lib.hid hf
  clear hf
  go_enter Tryd.func19, Tryd.ntmps19
  go_wp2_with fail
  refine Calls.mono HF.out ?_
  rintro x w1 ⟨rfl, hb⟩
  have HB1 := Lib.hid hb
  clear hb HF
  go_wp2
  go_ret
  exact ⟨rfl, HB1.out⟩
set_option maxRecDepth 100000 in
set_option maxHeartbeats 4000000 in
theorem drop_in (B a gs k : Nat) (S : List SetSt) (l : Nat) (s : SetSt) (w : World) (h : ArrAt B w a gs k S) (hl : l < 32) (hs : S[l % S.length]? = some s) (j : Nat) (hj : s.es.findIdx? (isAt (l : Nat)) = some j) :
    Calls Tryd.prog 19 #[.pointer (some ⟨a, 0, none⟩), .int .i64 (l : Nat)] w fun x w' => x = .returned (.bool true) ∧ ArrAt B w' a gs k (S.set (l % S.length) { s with es := s.es.set j Ent.none }) ∧ Turned (fun q => q = s.g) w w' := by
  have HF := Lib.hid (find_in B a gs k S l s w h hl hs)
  rw [hj] at HF
  simp only [idxI] at HF
  have hjk := (ent_facts h hs hj).1
  have hm := List.mem_of_getElem? hs
  have hlen := h.len s hm
  have HX : Hid (∀ w', Below w.heap.size w w' → ArrAt B w' a gs k S) := fun w' hb => h.below hb
  have HS := Lib.hid hs
  have HSET := Lib.hid (entCells_set s.es j Ent.none (by omega))
  have HL : Hid (j * 10 + 10 ≤ (entCells s.es).length) := by show _ ≤ _; rw [entCells_length]; omega
  have HONE := Lib.hid (ent_one Ent.none)
  have HLEN : Hid ((s.es.set j Ent.none).length = k) := by show _ = _; rw [List.length_set]; exact hlen
  clear h hs hj hlen hm
  generalize l % S.length = r at *
  go_enter Tryd.func19, Tryd.ntmps19
  go_wp2_with fail
  refine HF.out.mono ?_
  rintro x w1 ⟨rfl, hb⟩
  have hA := HX.out w1 hb
  obtain ⟨-, c2⟩ := hA.set_cells HS.out
  have hw := hA.ways s (List.mem_of_getElem? HS.out)
  have HA := Lib.hid hA
  have HB1 := Lib.hid hb
  clear hb HF HX hA
  go_wp2_with (refine wpList_store_at rfl 32 (.tmp 21) (.tmp 20) rfl s.g (j * 10) Ent.none.cells.toArray rfl rfl 32 (entCells s.es).toArray hw Tryd.sizeEnt HL.out HONE.out (entCells (s.es.set j Ent.none)) HSET.out ?_)
  have hput := HA.out.put HS.out (s.es.set j Ent.none) HLEN.out
  have hT : Turned (fun q => q = s.g) w (w1.setRow s.g (entCells (s.es.set j Ent.none)).toArray) := (Turned.of_below (S := fun q => q = s.g) HB1.out).setRow (.inl rfl) _
  have HP := Lib.hid hput
  have HT := Lib.hid hT
  clear hput hT hw c2
  go_wp2
  go_ret
  exact ⟨rfl, HP.out, HT.out⟩
end Go.Proofs.YtjnoaidceddpjaaDoor
