/- The lines of a cache: Get of what isn't there, Room, Drop. -/
import Derived.Test.YtjnoaidceddpjaaDoorArrF
namespace Go.Proofs.YtjnoaidceddpjaaDoor
open Go.RowKit Go.Extern.Stop Go.Stop Go.Extern

/-- find tells that a line isn't there; p: its set, where it has one. -/
def Missing (a : Nat) (line : Int) (p : Option Addr) (w : World) : Prop := Calls Tryd.prog 48 #[.pointer (some ⟨a, 0, none⟩), .int .i64 line] w fun e w' => e = .returned (.tuple #[.pointer p, .int .i64 (-1)]) ∧ Below w.heap.size w w'
theorem missing_in {B a gs k : Nat} {S : List SetSt} {l : Nat} {s : SetSt} {w : World} (h : ArrAt B w a gs k S) (hl : l < 32) (hs : S[l % S.length]? = some s) (hj : s.es.findIdx? (isAt (l : Nat)) = none) : Missing a (l : Nat) (some ⟨gs, l % S.length * 2, none⟩) w := by
  have := find_in B a gs k S l s w h hl hs
  rw [hj] at this
  exact this
theorem missing_out {B a gs k : Nat} {S : List SetSt} {line : Int} {w : World} (h : ArrAt B w a gs k S) (hl : ¬ (0 ≤ line ∧ line ≤ 31)) : Missing a line none w := find_out B a gs k S line w h hl
set_option maxRecDepth 100000 in
set_option maxHeartbeats 4000000 in
theorem get_miss (a : Nat) (line : Int) (p : Option Addr) (w : World) (hf : ∀ o, Missing a line p (w.alloc o)) :
    Calls Tryd.prog 23 #[.pointer (some ⟨a, 0, none⟩), .int .i64 line] w fun x w' => x = .returned (.tuple #[Ent.none.val, .bool false]) ∧ Below w.heap.size w w' := by
  have hA : ∀ o, Below w.heap.size w (w.alloc o) := fun o => (Below.refl _ _).alloc (Nat.le_refl _) _
  have HA := Lib.hid hA
  have HF := Lib.hid hf
  have HONE := Lib.hid (all_oneCell_toArray (ent_one Ent.none))
  clear hA hf
  go_enter Tryd.func23, Tryd.ntmps23
  go_wp2_with fail
  refine Calls.mono (HF.out _) ?_
  rintro x w1 ⟨rfl, hb⟩
  have HB1 := Lib.hid ((HA.out _).trans (hb.mono (HA.out _).size))
  have hres : w1.heap[w.heap.size]? = some (.cells #[.int .i64 0, .int .i64 0, .int .i64 0, .int .i64 0, .int .u32 0, .int .u32 0, .int .u32 0, .int .u32 0, .bool false, .bool false] 32 (0, 0)) := by
    rw [hb.block _ (by simp)]
    exact heap_alloc_new _ _
  clear hb HF HA
  go_wp2_with (refine wpList_store_row rfl 32 (.tmp 4) (.tmp 16) rfl w.heap.size Ent.none.cells.toArray rfl rfl 32 _ hres Tryd.sizeEnt rfl HONE.out ?_)
  have HB2 : Hid (Below w.heap.size w (w1.setRow w.heap.size Ent.none.cells.toArray)) := below_setRow HB1.out (Nat.le_refl _) _
  have hnew := heap_setRow hres Ent.none.cells.toArray
  clear hres
  generalize w1.setRow w.heap.size Ent.none.cells.toArray = w2 at *
  go_wp2
  exact ⟨rfl, _, ret_ent Tryd.results23 _ _ _ _ rfl hnew rfl, rfl, HB2.out⟩
/-- Is a line there, or a way free for it? -/
def roomIn (l : Int) (es : List Ent) : Bool := (es.findIdx? (isAt l)).isSome || (es.findIdx? isFree).isSome
set_option maxRecDepth 100000 in
set_option maxHeartbeats 4000000 in
theorem room_in (B a gs k : Nat) (S : List SetSt) (l : Nat) (s : SetSt) (w : World) (h : ArrAt B w a gs k S) (hl : l < 32) (hs : S[l % S.length]? = some s) :
    Calls Tryd.prog 21 #[.pointer (some ⟨a, 0, none⟩), .int .i64 (l : Nat)] w fun x w' => x = .returned (.bool (roomIn (l : Nat) s.es)) ∧ Below w.heap.size w w' := by
  have HF := Lib.hid (find_in B a gs k S l s w h hl hs)
  have HX : Hid (∀ w', Below w.heap.size w w' → _) := fun w' hb => free_is B a gs k S (l % S.length) s w' (h.below hb) hs
  unfold roomIn
  clear h hs
  generalize l % S.length = r at *
  cases hj : s.es.findIdx? (isAt (l : Nat)) with
  | some j =>
    rw [hj] at HF
    simp only [idxI] at HF
    clear hj
    go_enter Tryd.func21, Tryd.ntmps21
    go_wp2_with fail
    refine HF.out.mono ?_
    rintro x w1 ⟨rfl, hb⟩
    have HB1 := Lib.hid hb
    clear hb HF HX
    go_wp2
    go_ret
    exact ⟨rfl, HB1.out⟩
  | none =>
    rw [hj] at HF
    clear hj
    cases hq : s.es.findIdx? isFree with
    | some q =>
      rw [hq] at HX
      clear hq
      simp only [idxI] at HF HX
      go_enter Tryd.func21, Tryd.ntmps21
      go_wp2_with fail
      refine HF.out.mono ?_
      rintro x w1 ⟨rfl, hb⟩
      have HB1 := Lib.hid hb
      clear hb HF
      go_wp2_with fail
      refine (HX.out w1 HB1.out).mono ?_
      rintro x w2 ⟨rfl, hb⟩
      have HB2 := Lib.hid (HB1.out.trans (hb.mono HB1.out.size))
      clear hb HX
      go_wp2
      go_ret
      exact ⟨rfl, HB2.out⟩
    | none =>
      rw [hq] at HX
      clear hq
      simp only [idxI] at HF HX
      go_enter Tryd.func21, Tryd.ntmps21
      go_wp2_with fail
      refine HF.out.mono ?_
      rintro x w1 ⟨rfl, hb⟩
      have HB1 := Lib.hid hb
      clear hb HF
      go_wp2_with fail
      refine (HX.out w1 HB1.out).mono ?_
      rintro x w2 ⟨rfl, hb⟩
      have HB2 := Lib.hid (HB1.out.trans (hb.mono HB1.out.size))
      clear hb HX
      go_wp2
      go_ret
      exact ⟨rfl, HB2.out⟩
set_option maxRecDepth 100000 in
set_option maxHeartbeats 4000000 in
theorem room_out (a : Nat) (line : Int) (w : World) (hf : Missing a line none w) :
    Calls Tryd.prog 21 #[.pointer (some ⟨a, 0, none⟩), .int .i64 line] w fun x w' => x = .returned (.bool false) ∧ Below w.heap.size w w' := by
  have HF := Lib.hid hf
  clear hf
  go_enter Tryd.func21, Tryd.ntmps21
  go_wp2_with fail
  refine Calls.mono HF.out ?_
  rintro x w1 ⟨rfl, hb⟩
  have HB1 := Lib.hid hb
  clear hb HF
  go_wp2
  go_ret
  exact ⟨rfl, HB1.out⟩
set_option maxRecDepth 100000 in
set_option maxHeartbeats 4000000 in
theorem drop_miss (a : Nat) (line : Int) (p : Option Addr) (w : World) (hf : Missing a line p w) :
    Calls Tryd.prog 19 #[.pointer (some ⟨a, 0, none⟩), .int .i64 line] w fun x w' => x = .returned (.bool false) ∧ Below w.heap.size w w' := by
  have HF := Lib.hid hf
  clear hf
  go_enter Tryd.func19, Tryd.ntmps19
  go_wp2_with fail
  refine Calls.mono HF.out ?_
  rintro x w1 ⟨rfl, hb⟩
  have HB1 := Lib.hid hb
  clear hb HF
  go_wp2
  go_ret
  exact ⟨rfl, HB1.out⟩
set_option maxRecDepth 100000 in
set_option maxHeartbeats 4000000 in
theorem drop_in (B a gs k : Nat) (S : List SetSt) (l : Nat) (s : SetSt) (w : World) (h : ArrAt B w a gs k S) (hl : l < 32) (hs : S[l % S.length]? = some s) (j : Nat) (hj : s.es.findIdx? (isAt (l : Nat)) = some j) :
    Calls Tryd.prog 19 #[.pointer (some ⟨a, 0, none⟩), .int .i64 (l : Nat)] w fun x w' => x = .returned (.bool true) ∧ ArrAt B w' a gs k (S.set (l % S.length) { s with es := s.es.set j Ent.none }) ∧ Turned (fun q => q = s.g) w w' := by
  have HF := Lib.hid (find_in B a gs k S l s w h hl hs)
  rw [hj] at HF
  simp only [idxI] at HF
  have hjk := (ent_facts h hs hj).1
  have hm := List.mem_of_getElem? hs
  have hlen := h.len s hm
  have HX : Hid (∀ w', Below w.heap.size w w' → ArrAt B w' a gs k S) := fun w' hb => h.below hb
  have HS := Lib.hid hs
  have HSET := Lib.hid (entCells_set s.es j Ent.none (by omega))
  have HL : Hid (j * 10 + 10 ≤ (entCells s.es).length) := by show _ ≤ _; rw [entCells_length]; omega
  have HONE := Lib.hid (ent_one Ent.none)
  have HLEN : Hid ((s.es.set j Ent.none).length = k) := by show _ = _; rw [List.length_set]; exact hlen
  clear h hs hj hlen hm
  generalize l % S.length = r at *
  go_enter Tryd.func19, Tryd.ntmps19
  go_wp2_with fail
  refine HF.out.mono ?_
  rintro x w1 ⟨rfl, hb⟩
  have hA := HX.out w1 hb
  obtain ⟨-, c2⟩ := hA.set_cells HS.out
  have hw := hA.ways s (List.mem_of_getElem? HS.out)
  have HA := Lib.hid hA
  have HB1 := Lib.hid hb
  clear hb HF HX hA
  go_wp2_with (refine wpList_store_at rfl 32 (.tmp 21) (.tmp 20) rfl s.g (j * 10) Ent.none.cells.toArray rfl rfl 32 (entCells s.es).toArray hw Tryd.sizeEnt HL.out HONE.out (entCells (s.es.set j Ent.none)) HSET.out ?_)
  have hput := HA.out.put HS.out (s.es.set j Ent.none) HLEN.out
  have hT : Turned (fun q => q = s.g) w (w1.setRow s.g (entCells (s.es.set j Ent.none)).toArray) := (Turned.of_below (S := fun q => q = s.g) HB1.out).setRow (.inl rfl) _
  have HP := Lib.hid hput
  have HT := Lib.hid hT
  clear hput hT hw c2
  go_wp2
  go_ret
  exact ⟨rfl, HP.out, HT.out⟩
end Go.Proofs.YtjnoaidceddpjaaDoor
