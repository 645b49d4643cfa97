/- The lines of a cache: a set's ways written anew. The lines of a cache: Get of what isn't there, Room, Drop. The lines of a cache: Put. The lines of a cache: Put of what is refused. -/
import Derived.Test.YtfaihaknibmcpaaGreatDoorArrE
import Derived.StillTailTactics
namespace Go.Proofs.YtfaihaknibmcpaaGreatDoor
open Go.RowKit Go.Extern.Stop Go.Stop Go.Extern

theorem entCells_append (a b : List Ent) : entCells (a ++ b) = entCells a ++ entCells b := by simp [entCells]
/-- An entry written over another one. -/
theorem entCells_set (l : List Ent) (j : Nat) (e : Ent) (hj : j < l.length) : (entCells l).take (j * 10) ++ e.cells ++ (entCells l).drop (j * 10 + 10) = entCells (l.set j e) := by
  have h1 : l = l.take j ++ l[j] :: l.drop (j + 1) := by rw [← List.drop_eq_getElem_cons hj, List.take_append_drop]
  have h2 : l.set j e = l.take j ++ e :: l.drop (j + 1) := by rw [List.set_eq_take_append_cons_drop, if_pos hj]
  have hl : (entCells (l.take j)).length = j * 10 := by rw [entCells_length, List.length_take, Nat.min_eq_left (by omega)]
  have h3 : entCells l = entCells (l.take j) ++ (l[j].cells ++ entCells (l.drop (j + 1))) := by
    conv => lhs; rw [h1]
    rw [entCells_append]; rfl
  have hc : l[j].cells.length = 10 := rfl
  rw [h2, h3, entCells_append]
  have e1 : (entCells (l.take j) ++ (l[j].cells ++ entCells (l.drop (j + 1)))).take (j * 10) = entCells (l.take j) := by rw [← hl, List.take_left]
  have e2 : (entCells (l.take j) ++ (l[j].cells ++ entCells (l.drop (j + 1)))).drop (j * 10 + 10) = entCells (l.drop (j + 1)) := by
    rw [← hl, ← List.drop_drop, List.drop_left, ← hc, List.drop_left]
  rw [e1, e2, List.append_assoc]; rfl
theorem setRow_heap_other {w : World} {g b : Nat} (c : Array Value) (h : b ≠ g) : (w.setRow g c).heap[b]? = w.heap[b]? := by
  simp only [World.setRow, Array.getElem?_modify]
  rw [if_neg (fun e => h e.symm)]
theorem setCells_set (k : Nat) (S : List SetSt) : ∀ (r : Nat) (s : SetSt) (es : List Ent), S[r]? = some s → setCells k (S.set r { s with es := es }) = setCells k S := by
  induction S with
  | nil => intro r s es h; simp at h
  | cons a l ih =>
    intro r s es h
    cases r with
    | zero => simp at h; subst h; simp [setCells]
    | succ r =>
      simp at h
      have := ih r s es h
      simp only [setCells, List.set_cons_succ, List.flatMap_cons] at this ⊢
      rw [this]
theorem set_g (S : List SetSt) (r : Nat) (s s' : SetSt) (h : S[r]? = some s) (hg : s'.g = s.g) : (S.set r s').map (·.g) = S.map (·.g) := by
  obtain ⟨hr, e⟩ := List.getElem?_eq_some_iff.1 h
  rw [List.map_set, hg, ← e]
  apply List.ext_getElem?
  intro i
  rw [List.getElem?_set]
  by_cases hi : r = i
  · subst hi
    simp [hr]
  · rw [if_neg hi]
theorem mem_set {S : List SetSt} {r : Nat} {s' x : SetSt} (h : x ∈ S.set r s') : x = s' ∨ ∃ i, i ≠ r ∧ S[i]? = some x := by
  obtain ⟨i, hi, e⟩ := List.getElem_of_mem h
  by_cases hr : r = i
  · subst hr
    exact .inl (by rw [← e, List.getElem_set_self])
  · refine .inr ⟨i, fun e => hr e.symm, ?_⟩
    rw [List.getElem_set_ne hr] at e
    have : i < S.length := by simpa using hi
    rw [List.getElem?_eq_getElem this, e]
theorem g_ne {S : List SetSt} (hn : (S.map (·.g)).Nodup) {i r : Nat} {x s : SetSt} (hi : S[i]? = some x) (hr : S[r]? = some s) (hne : i ≠ r) : x.g ≠ s.g := by
  obtain ⟨l1, e1⟩ := List.getElem?_eq_some_iff.1 hi
  obtain ⟨l2, e2⟩ := List.getElem?_eq_some_iff.1 hr
  intro h
  have := (List.getElem_inj (i := i) (j := r) (h₀ := by simpa using l1) (h₁ := by simpa using l2) hn).1 (by simp [e1, e2, h])
  exact hne this
/-- A set's ways written anew. -/
theorem ArrAt.put {B : Nat} {w : World} {a gs k : Nat} {S : List SetSt} (h : ArrAt B w a gs k S) {r : Nat} {s : SetSt} (hs : S[r]? = some s) (es : List Ent) (hl : es.length = k) : ArrAt B (w.setRow s.g (entCells es).toArray) a gs k (S.set r { s with es := es }) := by
  have hm := List.mem_of_getElem? hs
  obtain ⟨hr, -⟩ := List.getElem?_eq_some_iff.1 hs
  have hne := h.ne.2 s hm
  refine ⟨?_, ?_, ?_, ?_, ⟨h.ne.1, ?_⟩, ?_, ⟨h.above.1, h.above.2.1, ?_⟩, ?_⟩
  · rw [setRow_heap_other _ (fun e => hne.1 e.symm), List.length_set]; exact h.box
  · rw [setRow_heap_other _ (fun e => hne.2 e.symm), setCells_set k S r s es hs]; exact h.sets
  · intro x hx
    rcases mem_set hx with rfl | ⟨i, hi, hx⟩
    · exact heap_setRow (h.ways s hm) _
    · rw [setRow_heap_other _ (g_ne h.apart hx hs hi)]
      exact h.ways x (List.mem_of_getElem? hx)
  · intro x hx
    rcases mem_set hx with rfl | ⟨i, hi, hx⟩
    · exact hl
    · exact h.len x (List.mem_of_getElem? hx)
  · intro x hx
    rcases mem_set hx with rfl | ⟨i, hi, hx⟩
    · exact hne
    · exact h.ne.2 x (List.mem_of_getElem? hx)
  · rw [set_g S r s { s with es := es } hs rfl]; exact h.apart
  · intro x hx
    rcases mem_set hx with rfl | ⟨i, hi, hx⟩
    · exact h.above.2.2 s hm
    · exact h.above.2.2 x (List.mem_of_getElem? hx)
  · rw [List.length_set]; exact h.many
theorem Turned.setRow {S : Nat → Prop} {a w : World} (h : Turned S a w) {g : Nat} (hg : S g ∨ a.heap.size ≤ g) (c : Array Value) : Turned S a (w.setRow g c) :=
  ⟨h.os, h.tape, h.output, by have := h.size; simpa [World.setRow] using this, fun k hk hs => by
    have hkg : k ≠ g := fun e => by
      subst e
      rcases hg with hg | hg
      · exact hs hg
      · omega
    rw [setRow_heap_other _ hkg]; exact h.block k hk hs⟩
theorem wpList_store_at {P : Program} {ops : Array Oper} {rest : List Oper} {o : Oper} {a : Act} {w : World} {Q : Exit → Act → World → Prop} (hgd : o.guard = none) (ty : TypeId) (x y : Operand) (ho : o.op = .store ty x y)
    (g off : Nat) (cells : Array Value) (hx : a.eval x = .pointer (some ⟨g, off, none⟩)) (hy : a.eval y = .agg cells)
    (t : TypeId) (cur : Array Value) (hg : w.heap[g]? = some (.cells cur t (0, 0))) (hi : (P.info? ty).map (·.size) = some cells.size) (hfit : off + cells.size ≤ cur.size) (h1 : ∀ v ∈ cells.toList, v.oneCell' = true)
    (cur' : List Value) (hX : cur.toList.take off ++ cells.toList ++ cur.toList.drop (off + cells.size) = cur')
    (h : wpList P ops Q rest (a.put o.dst undef) (w.setRow g cur'.toArray)) : wpList P ops Q (o :: rest) a w :=
  wpList_plain hgd fun _ hK => by
    subst hX
    unfold Oper.wp execOp
    simp only [ho, hx, hy, Instr.storeAt, Instr.sureAddr, Sem.run_bind, Sem.run_pure, Result.andThen_ok, run_storeVar_at w g off ty t cur cells hg hi hfit h1]
    exact hK _ _ h
end Go.Proofs.YtfaihaknibmcpaaGreatDoor
namespace Go.Proofs.YtfaihaknibmcpaaGreatDoor
open Go.RowKit Go.Extern.Stop Go.Stop Go.Extern

/-- find tells that a line isn't there; p: its set, where it has one. -/
def Missing (a : Nat) (line : Int) (p : Option Addr) (w : World) : Prop := Calls Tryz.prog 81 #[.pointer (some ⟨a, 0, none⟩), .int .i64 line] w fun e w' => e = .returned (.tuple #[.pointer p, .int .i64 (-1)]) ∧ Below w.heap.size w w'
theorem missing_in {B a gs k : Nat} {S : List SetSt} {l : Nat} {s : SetSt} {w : World} (h : ArrAt B w a gs k S) (hl : l < 32) (hs : S[l % S.length]? = some s) (hj : s.es.findIdx? (isAt (l : Nat)) = none) : Missing a (l : Nat) (some ⟨gs, l % S.length * 2, none⟩) w := by
  have := find_in B a gs k S l s w h hl hs
  rw [hj] at this
  exact this
theorem missing_out {B a gs k : Nat} {S : List SetSt} {line : Int} {w : World} (h : ArrAt B w a gs k S) (hl : ¬ (0 ≤ line ∧ line ≤ 31)) : Missing a line none w := find_out B a gs k S line w h hl
set_option maxRecDepth 100000 in
set_option maxHeartbeats 4000000 in
theorem get_miss (a : Nat) (line : Int) (p : Option Addr) (w : World) (hf : ∀ o, Missing a line p (w.alloc o)) :
    Calls Tryz.prog 38 #[.pointer (some ⟨a, 0, none⟩), .int .i64 line] w fun x w' => x = .returned (.tuple #[Ent.none.val, .bool false]) ∧ Below w.heap.size w w' := by
  have hA : ∀ o, Below w.heap.size w (w.alloc o) := fun o => (Below.refl _ _).alloc (Nat.le_refl _) _
  have HA := Lib.hid hA
  have HF := Lib.hid hf
  have HONE := Lib.hid (all_oneCell_toArray (ent_one Ent.none))
  clear hA hf
  go_enter Tryz.func38, Tryz.ntmps38
  go_wp2_with fail
  refine Calls.mono (HF.out _) ?_
  rintro x w1 ⟨rfl, hb⟩
  have HB1 := Lib.hid ((HA.out _).trans (hb.mono (HA.out _).size))
  have hres : w1.heap[w.heap.size]? = some (.cells #[.int .i64 0, .int .i64 0, .int .i64 0, .int .i64 0, .int .u32 0, .int .u32 0, .int .u32 0, .int .u32 0, .bool false, .bool false] 65 (0, 0)) := by
    rw [hb.block _ (by simp)]
    exact heap_alloc_new _ _
  clear hb HF HA
  go_wp2_with (refine wpList_store_row rfl 65 (.tmp 4) (.tmp 16) rfl w.heap.size Ent.none.cells.toArray rfl rfl 65 _ hres Tryz.sizeEnt rfl HONE.out ?_)
  have HB2 : Hid (Below w.heap.size w (w1.setRow w.heap.size Ent.none.cells.toArray)) := below_setRow HB1.out (Nat.le_refl _) _
  have hnew := heap_setRow hres Ent.none.cells.toArray
  clear hres
  generalize w1.setRow w.heap.size Ent.none.cells.toArray = w2 at *
  go_wp2
  exact ⟨rfl, _, ret_ent Tryz.results38 _ _ _ _ rfl hnew rfl, rfl, HB2.out⟩
/-- Is a line there, or a way free for it? -/
def roomIn (l : Int) (es : List Ent) : Bool := (es.findIdx? (isAt l)).isSome || (es.findIdx? isFree).isSome
set_option maxRecDepth 100000 in
set_option maxHeartbeats 4000000 in
theorem room_in (B a gs k : Nat) (S : List SetSt) (l : Nat) (s : SetSt) (w : World) (h : ArrAt B w a gs k S) (hl : l < 32) (hs : S[l % S.length]? = some s) :
    Calls Tryz.prog 40 #[.pointer (some ⟨a, 0, none⟩), .int .i64 (l : Nat)] w fun x w' => x = .returned (.bool (roomIn (l : Nat) s.es)) ∧ Below w.heap.size w w' := by
  have HF := Lib.hid (find_in B a gs k S l s w h hl hs)
  have HX : Hid (∀ w', Below w.heap.size w w' → _) := fun w' hb => free_is B a gs k S (l % S.length) s w' (h.below hb) hs
  unfold roomIn
  clear h hs
  generalize l % S.length = r at *
  cases hj : s.es.findIdx? (isAt (l : Nat)) with
  | some j =>
    rw [hj] at HF
    simp only [idxI] at HF
    clear hj
    go_enter Tryz.func40, Tryz.ntmps40
    go_wp2_with fail
    refine HF.out.mono ?_
    rintro x w1 ⟨rfl, hb⟩
    have HB1 := Lib.hid hb
    clear hb HF HX
    go_wp2
    go_ret
    exact ⟨rfl, HB1.out⟩
  | none =>
    rw [hj] at HF
    clear hj
    cases hq : s.es.findIdx? isFree with
    | some q =>
      rw [hq] at HX
      clear hq
      simp only [idxI] at HF HX
      go_enter Tryz.func40, Tryz.ntmps40
      go_wp2_with fail
      refine HF.out.mono ?_
      rintro x w1 ⟨rfl, hb⟩
      have HB1 := Lib.hid hb
      clear hb HF
      go_wp2_with fail
      refine (HX.out w1 HB1.out).mono ?_
      rintro x w2 ⟨rfl, hb⟩
      have HB2 := Lib.hid (HB1.out.trans (hb.mono HB1.out.size))
      clear hb HX
      go_wp2
      go_ret
      exact ⟨rfl, HB2.out⟩
    | none =>
      rw [hq] at HX
      clear hq
      simp only [idxI] at HF HX
      go_enter Tryz.func40, Tryz.ntmps40
      go_wp2_with fail
      refine HF.out.mono ?_
      rintro x w1 ⟨rfl, hb⟩
      have HB1 := Lib.hid hb
      clear hb HF
      go_wp2_with fail
      refine (HX.out w1 HB1.out).mono ?_
      rintro x w2 ⟨rfl, hb⟩
      have HB2 := Lib.hid (HB1.out.trans (hb.mono HB1.out.size))
      clear hb HX
      go_wp2
      go_ret
      exact ⟨rfl, HB2.out⟩
set_option maxRecDepth 100000 in
set_option maxHeartbeats 4000000 in
theorem room_out (a : Nat) (line : Int) (w : World) (hf : Missing a line none w) :
    Calls Tryz.prog 40 #[.pointer (some ⟨a, 0, none⟩), .int .i64 line] w fun x w' => x = .returned (.bool false) ∧ Below w.heap.size w w' := by
  have HF := Lib.hid hf
  clear hf
  go_enter Tryz.func40, Tryz.ntmps40
  go_wp2_with fail
  refine Calls.mono HF.out ?_
  rintro x w1 ⟨rfl, hb⟩
  have HB1 := Lib.hid hb
  clear hb HF
  go_wp2
  go_ret
  exact ⟨rfl, HB1.out⟩
set_option maxRecDepth 100000 in
set_option maxHeartbeats 4000000 in
theorem drop_miss (a : Nat) (line : Int) (p : Option Addr) (w : World) (hf : Missing a line p w) :
    Calls Tryz.prog 68 #[.pointer (some ⟨a, 0, none⟩), .int .i64 line] w fun x w' => x = .returned (.bool false) ∧ Below w.heap.size w w' := by
  have HF := Lib.hid hf
  clear hf
  go_enter Tryz.func68, Tryz.ntmps68
  go_wp2_with fail
  refine Calls.mono HF.out ?_
  rintro x w1 ⟨rfl, hb⟩
  have HB1 := Lib.hid hb
  clear hb HF
  go_wp2
  go_ret
  exact ⟨rfl, HB1.out⟩
set_option maxRecDepth 100000 in
set_option maxHeartbeats 4000000 in
theorem drop_in (B a gs k : Nat) (S : List SetSt) (l : Nat) (s : SetSt) (w : World) (h : ArrAt B w a gs k S) (hl : l < 32) (hs : S[l % S.length]? = some s) (j : Nat) (hj : s.es.findIdx? (isAt (l : Nat)) = some j) :
    Calls Tryz.prog 68 #[.pointer (some ⟨a, 0, none⟩), .int .i64 (l : Nat)] w fun x w' => x = .returned (.bool true) ∧ ArrAt B w' a gs k (S.set (l % S.length) { s with es := s.es.set j Ent.none }) ∧ Turned (fun q => q = s.g) w w' := by
  have HF := Lib.hid (find_in B a gs k S l s w h hl hs)
  rw [hj] at HF
  simp only [idxI] at HF
  have hjk := (ent_facts h hs hj).1
  have hm := List.mem_of_getElem? hs
  have hlen := h.len s hm
  have HX : Hid (∀ w', Below w.heap.size w w' → ArrAt B w' a gs k S) := fun w' hb => h.below hb
  have HS := Lib.hid hs
  have HSET := Lib.hid (entCells_set s.es j Ent.none (by omega))
  have HL : Hid (j * 10 + 10 ≤ (entCells s.es).length) := by show _ ≤ _; rw [entCells_length]; omega
  have HONE := Lib.hid (ent_one Ent.none)
  have HLEN : Hid ((s.es.set j Ent.none).length = k) := by show _ = _; rw [List.length_set]; exact hlen
  clear h hs hj hlen hm
  generalize l % S.length = r at *
  go_enter Tryz.func68, Tryz.ntmps68
  go_wp2_with fail
  refine HF.out.mono ?_
  rintro x w1 ⟨rfl, hb⟩
  have hA := HX.out w1 hb
  obtain ⟨-, c2⟩ := hA.set_cells HS.out
  have hw := hA.ways s (List.mem_of_getElem? HS.out)
  have HA := Lib.hid hA
  have HB1 := Lib.hid hb
  clear hb HF HX hA
  go_wp2_with (refine wpList_store_at rfl 65 (.tmp 21) (.tmp 20) rfl s.g (j * 10) Ent.none.cells.toArray rfl rfl 65 (entCells s.es).toArray hw Tryz.sizeEnt HL.out HONE.out (entCells (s.es.set j Ent.none)) HSET.out ?_)
  have hput := HA.out.put HS.out (s.es.set j Ent.none) HLEN.out
  have hT : Turned (fun q => q = s.g) w (w1.setRow s.g (entCells (s.es.set j Ent.none)).toArray) := (Turned.of_below (S := fun q => q = s.g) HB1.out).setRow (.inl rfl) _
  have HP := Lib.hid hput
  have HT := Lib.hid hT
  clear hput hT hw c2
  go_wp2
  go_ret
  exact ⟨rfl, HP.out, HT.out⟩
end Go.Proofs.YtfaihaknibmcpaaGreatDoor
namespace Go.Proofs.YtfaihaknibmcpaaGreatDoor
open Go.RowKit Go.Extern.Stop Go.Stop Go.Extern

def sayPut (line : Int) (a : Addr) : Value := .iface 91 (.agg #[.string ⟨#[97, 114, 114, 97, 121, 46, 80, 117, 116]⟩, .int .i64 line, .iface 195 (.pointer (some a))])
/-- May an entry be put? -/
def rightE (e : Ent) : Bool := decide (1 ≤ e.state ∧ e.state ≤ 4 ∧ 0 ≤ e.mode ∧ e.mode ≤ 3 ∧ 0 ≤ e.epoch ∧ e.epoch ≤ 255)
/-- Where an entry of a line goes. -/
def placeE (l : Int) (es : List Ent) : Option Nat := match es.findIdx? (isAt l) with
  | some j => some j
  | none => es.findIdx? isFree
theorem box_cells {w : World} {g : Nat} {e : Ent} (h : w.heap[g]? = some (.cells e.cells.toArray 65 (0, 0))) :
    w.cell? ⟨g, 0, none⟩ = some (.int .i64 e.line) ∧ w.cell? ⟨g, 1, none⟩ = some (.int .i64 e.state) ∧ w.cell? ⟨g, 2, none⟩ = some (.int .i64 e.mode) ∧ w.cell? ⟨g, 3, none⟩ = some (.int .i64 e.epoch) ∧ w.cell? ⟨g, 4, none⟩ = some (.int .u32 e.d0) ∧ w.cell? ⟨g, 5, none⟩ = some (.int .u32 e.d1) ∧ w.cell? ⟨g, 6, none⟩ = some (.int .u32 e.d2) ∧ w.cell? ⟨g, 7, none⟩ = some (.int .u32 e.d3) ∧ w.cell? ⟨g, 8, none⟩ = some (.bool e.h) ∧ w.cell? ⟨g, 9, none⟩ = some (.bool e.f) := by
  have h' : w.heap[g]? = some (.cells (entCells [e]).toArray 65 (0, 0)) := by
    rw [h]; simp [entCells]
  have := entCells_at (i := 0) (e := e) h' rfl
  simpa using this
set_option maxRecDepth 100000 in
set_option maxHeartbeats 8000000 in
theorem put_ok (B a gs k : Nat) (S : List SetSt) (l : Nat) (s : SetSt) (w : World) (h : ArrAt B w a gs k S) (hl : l < 32) (hs : S[l % S.length]? = some s) (e : Ent) (hline : e.line = (l : Nat)) (hr : rightE e = true) (j : Nat) (hj : placeE (l : Nat) s.es = some j) :
    Calls Tryz.prog 69 #[.pointer (some ⟨a, 0, none⟩), e.val] w fun x w' => x = .returned .nilIface ∧ ArrAt B w' a gs k (S.set (l % S.length) { s with es := s.es.set j e }) ∧ Turned (fun q => q = s.g) w w' := by
  have hA : ∀ o, Below w.heap.size w (w.alloc o) := fun o => (Below.refl _ _).alloc (Nat.le_refl _) _
  have HA := Lib.hid hA
  have HF : Hid (∀ o, _) := fun o => find_in B a gs k S l s (w.alloc o) (h.below (hA o)) hl hs
  have HX : Hid (∀ w', Below w.heap.size w w' → ArrAt B w' a gs k S) := fun w' hb => h.below hb
  have HFREE : Hid (∀ w', Below w.heap.size w w' → _) := fun w' hb => free_is B a gs k S (l % S.length) s w' (h.below hb) hs
  have hm := List.mem_of_getElem? hs
  have hlen := h.len s hm
  have hjk : j < k := by
    unfold placeE at hj
    cases h1 : s.es.findIdx? (isAt (l : Nat)) with
    | some q => rw [h1] at hj; simp at hj; subst hj; exact (ent_facts h hs h1).1
    | none => rw [h1] at hj; simp at hj; exact (ent_facts h hs hj).1
  have HS := Lib.hid hs
  have HSET := Lib.hid (entCells_set s.es j e (by omega))
  have HL : Hid (j * 10 + 10 ≤ (entCells s.es).length) := by show _ ≤ _; rw [entCells_length]; omega
  have HONE := Lib.hid (ent_one e)
  have HLEN : Hid ((s.es.set j e).length = k) := by show _ = _; rw [List.length_set]; exact hlen
  obtain ⟨r1, r2, r3, r4, r5, r6⟩ : 1 ≤ e.state ∧ e.state ≤ 4 ∧ 0 ≤ e.mode ∧ e.mode ≤ 3 ∧ 0 ≤ e.epoch ∧ e.epoch ≤ 255 := by simpa [rightE] using hr
  clear hA h hs hlen hm hr
  generalize l % S.length = r at *
  rw [← hline] at HF hj
  unfold placeE at hj
  simp only [Ent.val]
  clear hline
  have f1 : ¬ e.state < 1 := by omega
  have f2 : ¬ 4 < e.state := by omega
  have f3 : ¬ e.mode < 0 := by omega
  have f4 : ¬ 3 < e.mode := by omega
  have f5 : ¬ e.epoch < 0 := by omega
  have f6 : ¬ 255 < e.epoch := by omega
  clear r1 r2 r3 r4 r5 r6
  cases hi : s.es.findIdx? (isAt e.line) with
  | some q =>
    rw [hi] at HF hj
    obtain rfl : j = q := by simpa using hj.symm
    clear hi hj
    simp only [idxI] at HF
    go_enter Tryz.func69, Tryz.ntmps69
    go_wp2_with fail
    refine (HF.out _).mono ?_
    rintro x w1 ⟨rfl, hb⟩
    have HB1 := Lib.hid ((HA.out _).trans (hb.mono (HA.out _).size))
    have hbox : w1.heap[w.heap.size]? = some (.cells e.cells.toArray 65 (0, 0)) := by
      rw [hb.block _ (by simp)]
      exact heap_alloc_new _ _
    have HBOX := Lib.hid hbox
    obtain ⟨c0, c1, c2, c3, c4, c5, c6, c7, c8, c9⟩ := box_cells hbox
    clear hb HF HA hbox
    go_wp2_with fail
    have hAt := HX.out w1 HB1.out
    obtain ⟨-, cw⟩ := hAt.set_cells HS.out
    have hw := hAt.ways s (List.mem_of_getElem? HS.out)
    have HAT := Lib.hid hAt
    clear hAt HX HFREE
    go_still_tail 7, (by kernel_rfl)
    change wpList _ _ _ _ _ w1.drew
    have hw' : w1.drew.heap[s.g]? = some (.cells (entCells s.es).toArray 65 (0, 0)) := hw
    have HAD : Hid (ArrAt B w1.drew a gs k S) := HAT.out.below ((Below.refl _ _).drew)
    have HBD : Hid (Below w.heap.size w w1.drew) := HB1.out.drew
    clear c0 c1 c2 c3 c4 c5 c6 c7 c8 c9 cw hw HAT HB1 HBOX
    generalize w1.drew = w4 at *
    go_wp2_with (refine wpList_store_at rfl 65 (.tmp 66) (.tmp 65) rfl s.g (j * 10) e.cells.toArray rfl rfl 65 (entCells s.es).toArray hw' Tryz.sizeEnt HL.out HONE.out (entCells (s.es.set j e)) HSET.out ?_)
    have hput := HAD.out.put HS.out (s.es.set j e) HLEN.out
    have hT : Turned (fun q => q = s.g) w (w4.setRow s.g (entCells (s.es.set j e)).toArray) := (Turned.of_below (S := fun q => q = s.g) HBD.out).setRow (.inl rfl) _
    have HP := Lib.hid hput
    have HT := Lib.hid hT
    clear hput hT hw'
    go_wp2
    go_ret
    exact ⟨rfl, HP.out, HT.out⟩
  | none =>
    rw [hi] at HF hj
    simp only at hj
    rw [hj] at HFREE
    clear hi hj
    simp only [idxI] at HF HFREE
    go_enter Tryz.func69, Tryz.ntmps69
    go_wp2_with fail
    refine (HF.out _).mono ?_
    rintro x w1 ⟨rfl, hb⟩
    have HB1 := Lib.hid ((HA.out _).trans (hb.mono (HA.out _).size))
    have hbox : w1.heap[w.heap.size]? = some (.cells e.cells.toArray 65 (0, 0)) := by
      rw [hb.block _ (by simp)]
      exact heap_alloc_new _ _
    have hsz := lt_of_heap hbox
    have HBOX := Lib.hid hbox
    obtain ⟨c0, c1, c2, c3, c4, c5, c6, c7, c8, c9⟩ := box_cells hbox
    clear hb HF HA hbox
    go_wp2_with fail
    refine (HFREE.out w1 HB1.out).mono ?_
    rintro x w2 ⟨rfl, hb⟩
    have HB2 := Lib.hid (HB1.out.trans (hb.mono HB1.out.size))
    have hbox2 : w2.heap[w.heap.size]? = some (.cells e.cells.toArray 65 (0, 0)) := (hb.block _ hsz).trans HBOX.out
    clear c0 c1 c2 c3 c4 c5 c6 c7 c8 c9 hb HB1 HBOX hsz
    have HBOX := Lib.hid hbox2
    obtain ⟨c0, c1, c2, c3, c4, c5, c6, c7, c8, c9⟩ := box_cells hbox2
    clear hbox2
    go_wp2_with fail
    have hAt := HX.out w2 HB2.out
    obtain ⟨-, cw⟩ := hAt.set_cells HS.out
    have hw := hAt.ways s (List.mem_of_getElem? HS.out)
    have HAT := Lib.hid hAt
    clear hAt HX HFREE
    go_still_tail 7, (by kernel_rfl)
    change wpList _ _ _ _ _ w2.drew
    have hw' : w2.drew.heap[s.g]? = some (.cells (entCells s.es).toArray 65 (0, 0)) := hw
    have HAD : Hid (ArrAt B w2.drew a gs k S) := HAT.out.below ((Below.refl _ _).drew)
    have HBD : Hid (Below w.heap.size w w2.drew) := HB2.out.drew
    clear c0 c1 c2 c3 c4 c5 c6 c7 c8 c9 cw hw HAT HB2 HBOX
    generalize w2.drew = w4 at *
    go_wp2_with (refine wpList_store_at rfl 65 (.tmp 66) (.tmp 65) rfl s.g (j * 10) e.cells.toArray rfl rfl 65 (entCells s.es).toArray hw' Tryz.sizeEnt HL.out HONE.out (entCells (s.es.set j e)) HSET.out ?_)
    have hput := HAD.out.put HS.out (s.es.set j e) HLEN.out
    have hT : Turned (fun q => q = s.g) w (w4.setRow s.g (entCells (s.es.set j e)).toArray) := (Turned.of_below (S := fun q => q = s.g) HBD.out).setRow (.inl rfl) _
    have HP := Lib.hid hput
    have HT := Lib.hid hT
    clear hput hT hw'
    go_wp2
    go_ret
    exact ⟨rfl, HP.out, HT.out⟩
end Go.Proofs.YtfaihaknibmcpaaGreatDoor
namespace Go.Proofs.YtfaihaknibmcpaaGreatDoor
open Go.RowKit Go.Extern.Stop Go.Stop Go.Extern

set_option maxRecDepth 100000 in
set_option maxHeartbeats 8000000 in
theorem put_full (B a gs k : Nat) (S : List SetSt) (l : Nat) (s : SetSt) (w : World) (ad : Nat → Addr) (HSE : Sents w ad) (h : ArrAt B w a gs k S) (hl : l < 32) (hs : S[l % S.length]? = some s) (e : Ent) (hline : e.line = (l : Nat)) (hr : rightE e = true) (hj : placeE (l : Nat) s.es = none) :
    Calls Tryz.prog 69 #[.pointer (some ⟨a, 0, none⟩), e.val] w fun x w' => x = .returned (sayPut e.line (ad 6)) ∧ Below w.heap.size w w' := by
  have hA : ∀ o, Below w.heap.size w (w.alloc o) := fun o => (Below.refl _ _).alloc (Nat.le_refl _) _
  have HA := Lib.hid hA
  have HF : Hid (∀ o, _) := fun o => find_in B a gs k S l s (w.alloc o) (h.below (hA o)) hl hs
  have HFREE : Hid (∀ w', Below w.heap.size w w' → _) := fun w' hb => free_is B a gs k S (l % S.length) s w' (h.below hb) hs
  have HSENT := Lib.hid HSE
  obtain ⟨r1, r2, r3, r4, r5, r6⟩ : 1 ≤ e.state ∧ e.state ≤ 4 ∧ 0 ≤ e.mode ∧ e.mode ≤ 3 ∧ 0 ≤ e.epoch ∧ e.epoch ≤ 255 := by simpa [rightE] using hr
  clear hA h hs hr HSE
  generalize l % S.length = r at *
  rw [← hline] at HF hj
  unfold placeE at hj
  simp only [Ent.val]
  clear hline
  have f1 : ¬ e.state < 1 := by omega
  have f2 : ¬ 4 < e.state := by omega
  have f3 : ¬ e.mode < 0 := by omega
  have f4 : ¬ 3 < e.mode := by omega
  have f5 : ¬ e.epoch < 0 := by omega
  have f6 : ¬ 255 < e.epoch := by omega
  clear r1 r2 r3 r4 r5 r6
  cases hi : s.es.findIdx? (isAt e.line) with
  | some q =>
    rw [hi] at hj
    simp at hj
  | none =>
    rw [hi] at HF hj
    simp only at hj
    rw [hj] at HFREE
    clear hi hj
    simp only [idxI] at HF HFREE
    go_enter Tryz.func69, Tryz.ntmps69
    go_wp2_with fail
    refine (HF.out _).mono ?_
    rintro x w1 ⟨rfl, hb⟩
    have HB1 := Lib.hid ((HA.out _).trans (hb.mono (HA.out _).size))
    have hbox : w1.heap[w.heap.size]? = some (.cells e.cells.toArray 65 (0, 0)) := by
      rw [hb.block _ (by simp)]
      exact heap_alloc_new _ _
    have hsz := lt_of_heap hbox
    have HBOX := Lib.hid hbox
    obtain ⟨c0, c1, c2, c3, c4, c5, c6, c7, c8, c9⟩ := box_cells hbox
    clear hb HF HA hbox
    go_wp2_with fail
    refine (HFREE.out w1 HB1.out).mono ?_
    rintro x w2 ⟨rfl, hb⟩
    have HB2 := Lib.hid (HB1.out.trans (hb.mono HB1.out.size))
    have hbox2 : w2.heap[w.heap.size]? = some (.cells e.cells.toArray 65 (0, 0)) := (hb.block _ hsz).trans HBOX.out
    clear c0 c1 c2 c3 c4 c5 c6 c7 c8 c9 hb HB1 HBOX hsz
    obtain ⟨c0, c1, c2, c3, c4, c5, c6, c7, c8, c9⟩ := box_cells hbox2
    have g6 := (HSENT.out.of_below HB2.out).c6
    clear hbox2
    go_wp2_with fail
    refine (wrap_some _ e.line _ _ _).mono ?_
    rintro x w3 ⟨rfl, hb⟩
    have HB3 := Lib.hid (HB2.out.trans (hb.mono HB2.out.size))
    clear hb
    go_wp2
    go_ret
    exact ⟨rfl, HB3.out⟩
set_option maxRecDepth 100000 in
set_option maxHeartbeats 8000000 in
theorem put_out (a : Nat) (w : World) (ad : Nat → Addr) (HSE : Sents w ad) (e : Ent) (x0 : Int) (hf : ∀ o, Calls Tryz.prog 81 #[.pointer (some ⟨a, 0, none⟩), .int .i64 e.line] (w.alloc o) fun r w' => r = .returned (.tuple #[.pointer none, .int .i64 x0]) ∧ Below (w.alloc o).heap.size (w.alloc o) w') :
    Calls Tryz.prog 69 #[.pointer (some ⟨a, 0, none⟩), e.val] w fun x w' => x = .returned (sayPut e.line (ad 1)) ∧ Below w.heap.size w w' := by
  have hA : ∀ o, Below w.heap.size w (w.alloc o) := fun o => (Below.refl _ _).alloc (Nat.le_refl _) _
  have HA := Lib.hid hA
  have HF := Lib.hid hf
  have HSENT := Lib.hid HSE
  clear hA hf HSE
  simp only [Ent.val]
  have hone : True := trivial
  all_goals
    go_enter Tryz.func69, Tryz.ntmps69
    go_wp2_with fail
    refine (HF.out _).mono ?_
    rintro x w1 ⟨rfl, hb⟩
    have HB1 := Lib.hid ((HA.out _).trans (hb.mono (HA.out _).size))
    have hbox : w1.heap[w.heap.size]? = some (.cells e.cells.toArray 65 (0, 0)) := by
      rw [hb.block _ (by simp)]
      exact heap_alloc_new _ _
    obtain ⟨c0, c1, c2, c3, c4, c5, c6, c7, c8, c9⟩ := box_cells hbox
    have g1 := (HSENT.out.of_below HB1.out).c1
    clear hb HF HA hbox
    go_wp2_with fail
    refine (wrap_some _ e.line _ _ _).mono ?_
    rintro x w3 ⟨rfl, hb⟩
    have HB3 := Lib.hid (HB1.out.trans (hb.mono HB1.out.size))
    clear hb
    go_wp2
    go_ret
    exact ⟨rfl, HB3.out⟩
set_option maxRecDepth 100000 in
set_option maxHeartbeats 8000000 in
theorem put_wrong (a : Nat) (w : World) (ad : Nat → Addr) (HSE : Sents w ad) (e : Ent) (q : Addr) (x0 : Int) (hf : ∀ o, Calls Tryz.prog 81 #[.pointer (some ⟨a, 0, none⟩), .int .i64 e.line] (w.alloc o) fun r w' => r = .returned (.tuple #[.pointer (some q), .int .i64 x0]) ∧ Below (w.alloc o).heap.size (w.alloc o) w') (hr : rightE e = false) :
    Calls Tryz.prog 69 #[.pointer (some ⟨a, 0, none⟩), e.val] w fun x w' => x = .returned (sayPut e.line (ad 1)) ∧ Below w.heap.size w w' := by
  have hA : ∀ o, Below w.heap.size w (w.alloc o) := fun o => (Below.refl _ _).alloc (Nat.le_refl _) _
  have HA := Lib.hid hA
  have HF := Lib.hid hf
  have HSENT := Lib.hid HSE
  clear hA hf HSE
  simp only [Ent.val]
  have hr' : ¬ (1 ≤ e.state ∧ e.state ≤ 4 ∧ 0 ≤ e.mode ∧ e.mode ≤ 3 ∧ 0 ≤ e.epoch ∧ e.epoch ≤ 255) := by simpa [rightE] using hr
  clear hr
  have hcase : (e.state < 1) ∨ (¬ e.state < 1 ∧ 4 < e.state) ∨ (¬ e.state < 1 ∧ ¬ 4 < e.state ∧ e.mode < 0) ∨ (¬ e.state < 1 ∧ ¬ 4 < e.state ∧ ¬ e.mode < 0 ∧ 3 < e.mode) ∨ (¬ e.state < 1 ∧ ¬ 4 < e.state ∧ ¬ e.mode < 0 ∧ ¬ 3 < e.mode ∧ e.epoch < 0) ∨ (¬ e.state < 1 ∧ ¬ 4 < e.state ∧ ¬ e.mode < 0 ∧ ¬ 3 < e.mode ∧ ¬ e.epoch < 0 ∧ 255 < e.epoch) := by omega
  clear hr'
  rcases hcase with f1 | ⟨f1, f2⟩ | ⟨f1, f2, f3⟩ | ⟨f1, f2, f3, f4⟩ | ⟨f1, f2, f3, f4, f5⟩ | ⟨f1, f2, f3, f4, f5, f6⟩
  all_goals
    go_enter Tryz.func69, Tryz.ntmps69
    go_wp2_with fail
    refine (HF.out _).mono ?_
    rintro x w1 ⟨rfl, hb⟩
    have HB1 := Lib.hid ((HA.out _).trans (hb.mono (HA.out _).size))
    have hbox : w1.heap[w.heap.size]? = some (.cells e.cells.toArray 65 (0, 0)) := by
      rw [hb.block _ (by simp)]
      exact heap_alloc_new _ _
    obtain ⟨c0, c1, c2, c3, c4, c5, c6, c7, c8, c9⟩ := box_cells hbox
    have g1 := (HSENT.out.of_below HB1.out).c1
    clear hb HF HA hbox
    go_wp2_with fail
    refine (wrap_some _ e.line _ _ _).mono ?_
    rintro x w3 ⟨rfl, hb⟩
    have HB3 := Lib.hid (HB1.out.trans (hb.mono HB1.out.size))
    clear hb
    go_wp2
    go_ret
    exact ⟨rfl, HB3.out⟩
end Go.Proofs.YtfaihaknibmcpaaGreatDoor
