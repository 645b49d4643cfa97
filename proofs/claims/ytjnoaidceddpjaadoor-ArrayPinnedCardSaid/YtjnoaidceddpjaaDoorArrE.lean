/- The lines of a cache: Get and Room. -/
import Derived.Test.YtjnoaidceddpjaaDoorArrD
import Derived.Deep.MidRow
import Derived.Laws.ResultCell
namespace Go.Proofs.YtjnoaidceddpjaaDoor
open Go.RowKit Go.Extern.Stop Go.Stop Go.Extern

/-- A store of some cells into the middle of a row. -/
theorem run_storeVar_at {P : Program} (w : World) (g o : Nat) (ty t : TypeId) (cur : Array Value) (cells : Array Value) (hg : w.heap[g]? = some (.cells cur t (0, 0))) (hi : (P.info? ty).map (·.size) = some cells.size) (hfit : o + cells.size ≤ cur.size) (h1 : ∀ v ∈ cells.toList, v.oneCell' = true) :
    (storeVar ty ⟨g, o, none⟩ (.agg cells)).run P w = .ok () (w.setRow g (cur.toList.take o ++ cells.toList ++ cur.toList.drop (o + cells.size)).toArray) := by
  have := run_storeCells_at (P := P) g o t cells.toList 0 cur w hg (by simpa using hfit) h1
  cases hq : P.info? ty with
  | none => simp [hq] at hi
  | some i =>
    have hs : cells.size = i.size := by simp [hq] at hi; omega
    simp only [Nat.add_zero, Array.length_toList] at this
    rw [hs] at this
    simp [storeVar, sizeOf, typeInfo, hq, Value.cells, hs, this]
theorem ent_one (e : Ent) : ∀ v ∈ e.cells, v.oneCell' = true := by
  intro v hv
  simp only [Ent.cells, List.mem_cons, List.not_mem_nil, or_false] at hv
  rcases hv with rfl | rfl | rfl | rfl | rfl | rfl | rfl | rfl | rfl | rfl <;> rfl
theorem Tryd.sizeEnt : (Tryd.prog.info? 32).map (·.size) = some 10 := by kernel_rfl
theorem ret_ent {fn : Func} {p u : Tmp} (h : fn.results = #[.cell p 32, .tmp u]) (tmps : Array Value) (w : World) (g : Nat) (cs : Array Value) (hp : tmps.getD p undef = .pointer (some ⟨g, 0, none⟩)) (hg : w.heap[g]? = some (.cells cs 32 (0, 0))) (hs : cs.size = 10) :
    (results fn tmps).run Tryd.prog w = .ok (.tuple #[.agg cs, tmps.getD u undef]) w := by
  rw [results_cell_tmp h, hp]
  have := run_loadVar_row (P := Tryd.prog) w g 32 32 cs (0, 0) _ hg Tryd.underlying32 rfl (by rw [hs]; exact Tryd.sizeEnt)
  simp [asAddr, this, Result.andThen]
theorem ent_facts {B : Nat} {w : World} {a gs k : Nat} {S : List SetSt} (h : ArrAt B w a gs k S) {r : Nat} {s : SetSt} (hs : S[r]? = some s) {p : Ent → Bool} {j : Nat} (hj : s.es.findIdx? p = some j) : j < k ∧ ∃ e, s.es[j]? = some e ∧ p e = true := by
  obtain ⟨e, he, hp⟩ := idx_some hj
  have := h.len s (List.mem_of_getElem? hs)
  have := (List.getElem?_eq_some_iff.1 he).1
  exact ⟨by omega, e, he, hp⟩
set_option maxRecDepth 100000 in
set_option maxHeartbeats 4000000 in
theorem get_in (B a gs k : Nat) (S : List SetSt) (l : Nat) (s : SetSt) (w : World) (h : ArrAt B w a gs k S) (hl : l < 32) (hs : S[l % S.length]? = some s) (j : Nat) (e : Ent) (hj : s.es.findIdx? (isAt (l : Nat)) = some j) (he : s.es[j]? = some e) :
    Calls Tryd.prog 23 #[.pointer (some ⟨a, 0, none⟩), .int .i64 (l : Nat)] w fun x w' => x = .returned (.tuple #[e.val, .bool true]) ∧ Below w.heap.size w w' := by
  have hA : ∀ o, Below w.heap.size w (w.alloc o) := fun o => (Below.refl _ _).alloc (Nat.le_refl _) _
  have HA := Lib.hid hA
  have HF : Hid (∀ o, _) := fun o => find_in B a gs k S l s (w.alloc o) (h.below (hA o)) hl hs
  rw [hj] at HF
  have hjk := (ent_facts h hs hj).1
  have HX : Hid (∀ w', Below w.heap.size w w' → w'.cell? ⟨gs, l % S.length * 2 + 1, none⟩ = some (.slice (some ⟨s.g, 0, none⟩) k k) ∧ w'.heap[s.g]? = some (.cells (entCells s.es).toArray 32 (0, 0))) := fun w' hb => ⟨((h.below hb).set_cells hs).2, (h.below hb).ways s (List.mem_of_getElem? hs)⟩
  have HE := Lib.hid he
  clear hA h hs hj he
  simp only [idxI] at HF
  generalize l % S.length = r at *
  go_enter Tryd.func23, Tryd.ntmps23
  go_wp2_with fail
  refine (HF.out _).mono ?_
  rintro x w1 ⟨rfl, hb⟩
  have HB1 := Lib.hid ((HA.out _).trans (hb.mono (HA.out _).size))
  obtain ⟨c2, hw⟩ := HX.out w1 HB1.out
  obtain ⟨c0, c1, c2', c3, c4, c5, c6, c7, c8, c9⟩ := entCells_at hw HE.out
  have hres : w1.heap[w.heap.size]? = some (.cells #[.int .i64 0, .int .i64 0, .int .i64 0, .int .i64 0, .int .u32 0, .int .u32 0, .int .u32 0, .int .u32 0, .bool false, .bool false] 32 (0, 0)) := by
    rw [hb.block _ (by simp)]
    exact heap_alloc_new _ _
  clear hb HF HX hw HE HA
  have HONE := Lib.hid (all_oneCell_toArray (ent_one e))
  simp only [Ent.val]
  go_wp2_with (refine wpList_store_row rfl 32 (.tmp 4) (.tmp 23) rfl w.heap.size e.cells.toArray rfl rfl 32 _ hres Tryd.sizeEnt rfl HONE.out ?_)
  have HB2 : Hid (Below w.heap.size w (w1.setRow w.heap.size e.cells.toArray)) := below_setRow HB1.out (Nat.le_refl _) _
  have hnew := heap_setRow hres e.cells.toArray
  clear hres c0 c1 c2 c2' c3 c4 c5 c6 c7 c8 c9
  generalize w1.setRow w.heap.size e.cells.toArray = w2 at *
  go_wp2
  exact ⟨rfl, _, ret_ent Tryd.results23 _ _ _ _ rfl hnew rfl, rfl, HB2.out⟩
end Go.Proofs.YtjnoaidceddpjaaDoor
