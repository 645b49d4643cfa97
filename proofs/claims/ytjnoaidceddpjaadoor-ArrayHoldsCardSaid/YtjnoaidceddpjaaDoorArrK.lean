/- The lines of a cache: New. -/
import Derived.Test.YtjnoaidceddpjaaDoorArrJ
namespace Go.Proofs.YtjnoaidceddpjaaDoor
open Go.RowKit Go.Extern.Stop Go.Stop Go.Extern

theorem made_of (cs : List Value) (n : Nat) (z : Array Value) (hz : z = cs.toArray) (hn : 0 < cs.length) : madeCells z (n * cs.length) = ((List.replicate n cs).flatten).toArray := by
  subst hz
  have hl : ∀ n, ((List.replicate n cs).flatten).length = n * cs.length := by
    intro n
    induction n with
    | zero => simp
    | succ n ih => rw [List.replicate_succ, List.flatten_cons, List.length_append, ih, Nat.succ_mul]; omega
  have hg : ∀ n i, i < n * cs.length → ((List.replicate n cs).flatten)[i]? = cs[i % cs.length]? := by
    intro n
    induction n with
    | zero => intro i hi; omega
    | succ n ih =>
      intro i hi
      rw [List.replicate_succ, List.flatten_cons]
      by_cases h : i < cs.length
      · rw [List.getElem?_append_left h, Nat.mod_eq_of_lt h]
      · rw [List.getElem?_append_right (by omega), ih (i - cs.length) (by rw [Nat.succ_mul] at hi; omega)]
        rw [show i % cs.length = (i - cs.length) % cs.length from by rw [← Nat.mod_eq_sub_mod (by omega)]]
  apply Array.ext
  · simp [madeCells, hl]
  · intro i h1 h2
    have h3 : i < n * cs.length := by simpa [madeCells] using h1
    have h4 := hg n i h3
    have h5 : i % cs.length < cs.length := Nat.mod_lt _ hn
    have h6 : i < ((List.replicate n cs).flatten).length := by rw [hl]; exact h3
    rw [List.getElem?_eq_getElem h6, List.getElem?_eq_getElem h5] at h4
    have h7 : ((List.replicate n cs).flatten)[i] = cs[i % cs.length] := by simpa using h4
    simp [madeCells, h7, h5]
def freeWays (k : Nat) : List Ent := List.replicate k Ent.none
theorem freeWays_cells (k : Nat) : entCells (freeWays k) = (List.replicate k Ent.none.cells).flatten := by
  unfold entCells freeWays
  rw [List.flatMap_def, List.map_replicate]
/-- The sets of a new array: their blocks one behind the other. -/
def newSets (g k n : Nat) : List SetSt := (List.range n).map fun j => ⟨0, g + j, freeWays k⟩
theorem newSets_length (g k n : Nat) : (newSets g k n).length = n := by simp [newSets]
theorem newSets_succ (g k n : Nat) : newSets g k (n + 1) = newSets g k n ++ [⟨0, g + n, freeWays k⟩] := by
  simp [newSets, List.range_succ]
/-- The sets' cells when i of n have their ways. -/
def partSets (g k n i : Nat) : List Value := setCells k (newSets g k i) ++ (List.replicate (n - i) [Value.int .u8 0, .slice none 0 0]).flatten
theorem setCells_append (k : Nat) (a b : List SetSt) : setCells k (a ++ b) = setCells k a ++ setCells k b := by simp [setCells]
theorem partSets_zero (g k n : Nat) : partSets g k n 0 = (List.replicate n [Value.int .u8 0, .slice none 0 0]).flatten := by simp [partSets, newSets, setCells]
theorem partSets_set (g k n i : Nat) (h : i < n) : (partSets g k n i).set (i * 2 + 1) (.slice (some ⟨g + i, 0, none⟩) k k) = partSets g k n (i + 1) := by
  unfold partSets
  have hl : (setCells k (newSets g k i)).length = i * 2 := by rw [setCells_length, newSets_length]
  rw [List.set_append, if_neg (by omega), hl, show i * 2 + 1 - i * 2 = 1 by omega, show n - i = (n - (i + 1)) + 1 by omega, List.replicate_succ, List.flatten_cons, newSets_succ, setCells_append]
  simp [setCells]
theorem partSets_cell (g k n i : Nat) (h : i < n) : (partSets g k n i)[i * 2 + 1]? = some (.slice none 0 0) := by
  unfold partSets
  have hl : (setCells k (newSets g k i)).length = i * 2 := by rw [setCells_length, newSets_length]
  rw [List.getElem?_append_right (by omega), hl, show i * 2 + 1 - i * 2 = 1 by omega, show n - i = (n - (i + 1)) + 1 by omega, List.replicate_succ, List.flatten_cons]
  rfl
theorem Tryd.infoSet : (Tryd.prog.info? 102).map (fun i => (i.zero, i.size, i.bytes)) = some (some (.agg #[.int .u8 0, .slice none 0 0]), 2, 32) := by kernel_rfl
theorem Tryd.infoEnt : (Tryd.prog.info? 32).map (fun i => (i.zero, i.size, i.bytes)) = some (some Ent.none.val, 10, 56) := by kernel_rfl
theorem make_sets (n : Nat) (hn : n ≤ 8) (W : World) : (Instr.makeSlice 98 (.int .i64 (n : Nat)) (.int .i64 (n : Nat))).run Tryd.prog W = .ok (.slice (some ⟨W.heap.size, 0, none⟩) n n) (W.alloc (.cells ((List.replicate n [Value.int .u8 0, .slice none 0 0]).flatten).toArray 102)) := by
  obtain ⟨i, hi, hx⟩ := Option.map_eq_some_iff.1 Tryd.infoSet
  simp only [Prod.mk.injEq] at hx
  obtain ⟨hz, hs, hb⟩ := hx
  have := run_make (P := Tryd.prog) W 98 102 i _ Tryd.underlying98 hi hz .i64 .i64 (n : Nat) (n : Nat) (by omega) (by omega) (by rw [hb]; omega) (by omega)
  rw [Int.toNat_natCast, hs] at this
  have e : madeCells (Value.agg #[Value.int .u8 0, .slice none 0 0]).cells (n * 2) = ((List.replicate n [Value.int .u8 0, .slice none 0 0]).flatten).toArray := made_of [Value.int .u8 0, .slice none 0 0] n _ rfl (by simp)
  rw [this, e]
theorem make_ways (k : Nat) (hk : k ≤ 8) (W : World) : (Instr.makeSlice 49 (.int .i64 (k : Nat)) (.int .i64 (k : Nat))).run Tryd.prog W = .ok (.slice (some ⟨W.heap.size, 0, none⟩) k k) (W.alloc (.cells (entCells (freeWays k)).toArray 32)) := by
  obtain ⟨i, hi, hx⟩ := Option.map_eq_some_iff.1 Tryd.infoEnt
  simp only [Prod.mk.injEq] at hx
  obtain ⟨hz, hs, hb⟩ := hx
  have := run_make (P := Tryd.prog) W 49 32 i _ Tryd.underlying49 hi hz .i64 .i64 (k : Nat) (k : Nat) (by omega) (by omega) (by rw [hb]; omega) (by omega)
  rw [Int.toNat_natCast, hs] at this
  have e : madeCells Ent.none.val.cells (k * 10) = ((List.replicate k Ent.none.cells).flatten).toArray := made_of Ent.none.cells k _ rfl (by simp [Ent.cells])
  rw [this, freeWays_cells, e]
set_option maxRecDepth 100000 in
set_option maxHeartbeats 8000000 in
theorem newArr_ok (n k : Nat) (w : World) (hn : isPow (n : Nat) = true) (hk : isPow (k : Nat) = true) :
    Calls Tryd.prog 14 #[.int .i64 (n : Nat), .int .i64 (k : Nat)] w fun e w' => ∃ a gs g, e = .returned (.tuple #[.pointer (some ⟨a, 0, none⟩), .nilIface]) ∧ ArrAt w.heap.size w' a gs k (newSets g k n) ∧ Below w.heap.size w w' := by
  have HN : Hid (∀ w, _) := fun w => powerA_is (n : Nat) w
  have HK : Hid (∀ w, _) := fun w => powerA_is (k : Nat) w
  rw [hn] at HN
  rw [hk] at HK
  have n8 : 1 ≤ n ∧ n ≤ 8 := by simp [isPow] at hn; omega
  have k8 : 1 ≤ k ∧ k ≤ 8 := by simp [isPow] at hk; omega
  have HPN := Lib.hid hn
  have HPK := Lib.hid hk
  have m1 := make_sets n n8.2
  have m2 := make_ways k k8.2
  clear hn hk
  go_enter Tryd.func14, Tryd.ntmps14
  go_wp2_with fail
  refine (HN.out w).mono ?_
  rintro e w1 ⟨rfl, rfl⟩
  go_wp2_with fail
  refine (HK.out w1).mono ?_
  rintro e w2 ⟨rfl, rfl⟩
  clear HN HK
  go_wp2_with fail
  generalize hW : (w2.alloc (Obj.cells (List.replicate n [Value.int .u8 0, .slice none 0 0]).flatten.toArray 102)).alloc (Obj.cells #[Value.slice (some ⟨w2.heap.size, 0, none⟩) n n] 100) = w3
  have hB3 : Below w2.heap.size w2 w3 := by rw [← hW]; exact ((Below.refl _ _).alloc (Nat.le_refl _) _).alloc (by simp) _
  have hsz3 : w3.heap.size = w2.heap.size + 2 := by rw [← hW]; simp
  have hbox3 : w3.heap[w2.heap.size + 1]? = some (.cells #[Value.slice (some ⟨w2.heap.size, 0, none⟩) n n] 100 (0, 0)) := by
    rw [← hW]
    have := heap_alloc_new (w2.alloc (Obj.cells (List.replicate n [Value.int .u8 0, .slice none 0 0]).flatten.toArray 102)) (Obj.cells #[Value.slice (some ⟨w2.heap.size, 0, none⟩) n n] 100)
    simpa using this
  have hset3 : w3.heap[w2.heap.size]? = some (.cells (partSets (w2.heap.size + 2) k n 0).toArray 102 (0, 0)) := by
    rw [← hW, partSets_zero]
    have hb := ((Below.refl (w2.alloc (Obj.cells (List.replicate n [Value.int .u8 0, .slice none 0 0]).flatten.toArray 102)).heap.size _).alloc (Nat.le_refl _) (Obj.cells #[Value.slice (some ⟨w2.heap.size, 0, none⟩) n n] 100)).block w2.heap.size (by simp)
    rw [hb]
    exact heap_alloc_new _ _
  have HB3 := Lib.hid hB3
  have HSZ3 := Lib.hid hsz3
  have HBOX3 := Lib.hid hbox3
  have HSET3 := Lib.hid hset3
  clear hW hB3 hsz3 hbox3 hset3 m1
  generalize hN : w2.heap.size = N at *
  have HNN := Lib.hid hN
  clear hN
  go_loopw [27] (fun v wr => ∃ i : Nat, i ≤ n ∧ v = .int .i64 i ∧ Hid (Below N w2 wr) ∧ Hid (wr.heap.size = N + 2 + i) ∧ Hid (wr.heap[N + 1]? = some (.cells #[Value.slice (some ⟨N, 0, none⟩) n n] 100 (0, 0))) ∧ Hid (wr.heap[N]? = some (.cells (partSets (N + 2) k n i).toArray 102 (0, 0))) ∧ Hid (∀ j, j < i → wr.heap[N + 2 + j]? = some (.cells (entCells (freeWays k)).toArray 32 (0, 0)))) (fun v _ => n - (intOf v).toNat)
  case atStart => exact ⟨0, by omega, rfl, HB3, HSZ3, HBOX3, HSET3, fun j hj => by omega⟩
  case round =>
    clear HB3 HSZ3 HBOX3 HSET3
    obtain ⟨i, hi, rfl, HB, HSZ, HBOX, HSET, HWAYS⟩ := hrel
    by_cases hlt : i < n
    · have hc1 : wr.cell? ⟨N + 1, 0, none⟩ = some (.slice (some ⟨N, 0, none⟩) n n) := by simp [World.cell?, HBOX.out]
      have hc2 : wr.cell? ⟨N, i * 2 + 1, none⟩ = some (.slice none 0 0) := by simp [World.cell?, HSET.out, partSets_cell (N + 2) k n i hlt]
      have hfz : wr.frozen? ⟨N, i * 2 + 1, none⟩ = false := nofreeze HSET.out
      have hp1 : N + 1 < wr.heap.size := by rw [HSZ.out]; omega
      have hp2 : N < wr.heap.size := by omega
      have ha1 : ∀ o, (wr.alloc o).cell? ⟨N + 1, 0, none⟩ = some (.slice (some ⟨N, 0, none⟩) n n) := fun o => by rw [World.cell?_alloc_lt _ _ _ hp1]; exact hc1
      have ha2 : ∀ o, (wr.alloc o).cell? ⟨N, i * 2 + 1, none⟩ = some (.slice none 0 0) := fun o => by rw [World.cell?_alloc_lt _ _ _ hp2]; exact hc2
      go_wp2_with fail
      go_region_law (fail)
      all_goals
        generalize hW : ((wr.setCell ⟨N, i * 2 + 1, none⟩ (.slice (some ⟨wr.heap.size, 0, none⟩) k k)).alloc (Obj.cells (entCells (freeWays k)).toArray 32)).drew = w5
        have hT : Turned (fun q => q = N) wr w5 := by
          rw [← hW]
          have h1 : Turned (fun q => q = N) wr (wr.setCell ⟨N, i * 2 + 1, none⟩ (.slice (some ⟨wr.heap.size, 0, none⟩) k k)) := (Turned.refl (fun q => q = N) wr).setCell (p := ⟨N, i * 2 + 1, none⟩) (.inl rfl) _
          exact h1.trans (Turned.of_below (((Below.refl _ _).alloc (Nat.le_refl _) _).drew))
        have hsize : w5.heap.size = N + 2 + (i + 1) := by
          rw [← hW]
          have := HSZ.out
          simp [World.setCell]
          omega
        have hset5 : w5.heap[N]? = some (.cells (partSets (N + 2) k n (i + 1)).toArray 102 (0, 0)) := by
          have hs1 := heap_setCell (o := i * 2 + 1) HSET.out (.slice (some ⟨wr.heap.size, 0, none⟩) k k)
          have hbel : Below (wr.setCell ⟨N, i * 2 + 1, none⟩ (.slice (some ⟨wr.heap.size, 0, none⟩) k k)).heap.size (wr.setCell ⟨N, i * 2 + 1, none⟩ (.slice (some ⟨wr.heap.size, 0, none⟩) k k)) w5 := by
            rw [← hW]; exact ((Below.refl _ _).alloc (Nat.le_refl _) _).drew
          rw [hbel.block N (lt_of_heap hs1), hs1, ← partSets_set (N + 2) k n i hlt, HSZ.out, List.setIfInBounds_toArray]
        have hnew : w5.heap[N + 2 + i]? = some (.cells (entCells (freeWays k)).toArray 32 (0, 0)) := by
          rw [← hW]
          have := heap_alloc_new (wr.setCell ⟨N, i * 2 + 1, none⟩ (.slice (some ⟨wr.heap.size, 0, none⟩) k k)) (Obj.cells (entCells (freeWays k)).toArray 32)
          have e : (wr.setCell ⟨N, i * 2 + 1, none⟩ (.slice (some ⟨wr.heap.size, 0, none⟩) k k)).heap.size = N + 2 + i := by
            have := HSZ.out
            simp [World.setCell]
            omega
          rw [e] at this
          exact this
        have HB5 : Hid (Below N w2 w5) := HB.out.trans (hT.below (by omega) (fun q hq e => by omega))
        have HSZ5 := Lib.hid hsize
        have HBOX5 : Hid (w5.heap[N + 1]? = some (.cells #[Value.slice (some ⟨N, 0, none⟩) n n] 100 (0, 0))) := (hT.block (N + 1) hp1 (by omega)).trans HBOX.out
        have HSET5 := Lib.hid hset5
        have HWAYS5 : Hid (∀ j, j < i + 1 → w5.heap[N + 2 + j]? = some (.cells (entCells (freeWays k)).toArray 32 (0, 0))) := by
          intro j hj
          by_cases e : j = i
          · rw [e]; exact hnew
          · have hj2 := HWAYS.out j (by omega)
            exact (hT.block (N + 2 + j) (lt_of_heap hj2) (by omega)).trans hj2
        clear hW hT hsize hset5 hnew hc1 hc2 hfz hp1 hp2 ha1 ha2 HB HSZ HBOX HSET HWAYS
        go_wp2
        go_roundw
        case rel => exact ⟨i + 1, by omega, by go_num, HB5, HSZ5, HBOX5, HSET5, HWAYS5⟩
        case measure => simp [intOf]; omega
    · obtain rfl : i = n := by omega
      have hA : ArrAt w2.heap.size wr (N + 1) N k (newSets (N + 2) k i) := by
        rw [HNN.out]
        have key : ∀ s ∈ newSets (N + 2) k i, ∃ j, j < i ∧ s = ⟨0, N + 2 + j, freeWays k⟩ := fun s hs => by
          simp only [newSets, List.mem_map, List.mem_range] at hs
          obtain ⟨j, hj, rfl⟩ := hs
          exact ⟨j, hj, rfl⟩
        refine ⟨?_, ?_, ?_, ?_, ⟨by omega, ?_⟩, ?_, ⟨by omega, by omega, ?_⟩, ?_⟩
        · rw [newSets_length]; exact HBOX.out
        · have := HSET.out
          simpa [partSets] using this
        · intro s hs
          obtain ⟨j, hj, rfl⟩ := key s hs
          exact HWAYS.out j hj
        · intro s hs
          obtain ⟨j, hj, rfl⟩ := key s hs
          simp [freeWays]
        · intro s hs
          obtain ⟨j, hj, rfl⟩ := key s hs
          exact ⟨by show N + 2 + j ≠ N + 1; omega, by show N + 2 + j ≠ N; omega⟩
        · simp only [newSets, List.map_map]
          rw [show ((fun s : SetSt => s.g) ∘ fun j => (⟨0, N + 2 + j, freeWays k⟩ : SetSt)) = fun j => N + 2 + j from rfl]
          unfold List.Nodup
          rw [List.pairwise_map]
          refine List.Pairwise.imp ?_ (List.nodup_range (n := i))
          intro a b h e
          have e2 : N + 2 + a = N + 2 + b := e
          omega
        · intro s hs
          obtain ⟨j, hj, rfl⟩ := key s hs
          show N ≤ N + 2 + j
          omega
        · rw [newSets_length]; exact ⟨HPN.out, HPK.out⟩
      have HAA := Lib.hid hA
      have HBB : Hid (Below w2.heap.size w2 wr) := by rw [HNN.out]; exact HB.out
      clear hA HB HSZ HBOX HSET HWAYS m2
      go_wp2_with fail
      go_ret2
      exact ⟨N + 1, N, N + 2, rfl, HAA.out, HBB.out⟩
end Go.Proofs.YtjnoaidceddpjaaDoor
