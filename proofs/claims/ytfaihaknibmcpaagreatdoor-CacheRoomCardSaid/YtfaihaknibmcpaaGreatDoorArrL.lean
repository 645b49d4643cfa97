/- The lines of a cache: Touch. The lines of a cache: New. The lines of a cache: slices.Contains; Victim. -/
import Derived.Test.YtfaihaknibmcpaaGreatDoorArrI
import Derived.Test.YtfaihaknibmcpaaGreatDoorPlru
import Derived.BigQuiet
namespace Go.Proofs.YtfaihaknibmcpaaGreatDoor
open Go.RowKit Go.Extern.Stop Go.Stop Go.Extern

theorem setCells_turn (k : Nat) (S : List SetSt) : ∀ (r : Nat) (s : SetSt) (b : Nat), S[r]? = some s → (setCells k S).set (r * 2) (.int .u8 (b : Nat)) = setCells k (S.set r { s with bits := b }) := by
  induction S with
  | nil => intro r s b h; simp at h
  | cons a l ih =>
    intro r s b h
    cases r with
    | zero => simp at h; subst h; simp [setCells]
    | succ r =>
      simp at h
      have := ih r s b h
      simp only [setCells, List.set_cons_succ, List.flatMap_cons, Nat.add_mul, Nat.one_mul, List.cons_append, List.nil_append] at this ⊢
      rw [← this]
/-- A set's bits turned. -/
theorem ArrAt.turn {B : Nat} {w : World} {a gs k : Nat} {S : List SetSt} (h : ArrAt B w a gs k S) {r : Nat} {s : SetSt} (hs : S[r]? = some s) (b : Nat) : ArrAt B (w.setCell ⟨gs, r * 2, none⟩ (.int .u8 (b : Nat))) a gs k (S.set r { s with bits := b }) := by
  have hm := List.mem_of_getElem? hs
  have hT : Turned (fun q => q = gs) w (w.setCell ⟨gs, r * 2, none⟩ (.int .u8 (b : Nat))) := (Turned.refl (fun q => q = gs) w).setCell (p := ⟨gs, r * 2, none⟩) (.inl rfl) _
  have other : ∀ x, x ∈ S.set r { s with bits := b } → ∃ y ∈ S, y.g = x.g ∧ y.es = x.es := by
    intro x hx
    rcases mem_set hx with rfl | ⟨i, hi, hx⟩
    · exact ⟨s, hm, rfl, rfl⟩
    · exact ⟨x, List.mem_of_getElem? hx, rfl, rfl⟩
  refine ⟨?_, ?_, ?_, ?_, ⟨h.ne.1, ?_⟩, ?_, ⟨h.above.1, h.above.2.1, ?_⟩, ?_⟩
  · rw [hT.block a (lt_of_heap h.box) h.ne.1, List.length_set]; exact h.box
  · rw [← setCells_turn k S r s b hs, ← List.setIfInBounds_toArray]; exact heap_setCell h.sets _
  · intro x hx
    obtain ⟨y, hy, e1, e2⟩ := other x hx
    rw [← e1, ← e2, hT.block y.g (lt_of_heap (h.ways y hy)) (h.ne.2 y hy).2]
    exact h.ways y hy
  · intro x hx
    obtain ⟨y, hy, e1, e2⟩ := other x hx
    rw [← e2]; exact h.len y hy
  · intro x hx
    obtain ⟨y, hy, e1, e2⟩ := other x hx
    rw [← e1]; exact h.ne.2 y hy
  · rw [set_g S r s { s with bits := b } hs rfl]; exact h.apart
  · intro x hx
    obtain ⟨y, hy, e1, e2⟩ := other x hx
    rw [← e1]; exact h.above.2.2 y hy
  · rw [List.length_set]; exact h.many
theorem pow_mem {k : Nat} (h : isPow (k : Nat) = true) : k ∈ [1, 2, 4, 8] := by
  simp [isPow] at h
  simp
  omega
set_option maxRecDepth 100000 in
set_option maxHeartbeats 4000000 in
theorem touch_miss (a : Nat) (line : Int) (p : Option Addr) (w : World) (hf : Missing a line p w) :
    Calls Tryz.prog 75 #[.pointer (some ⟨a, 0, none⟩), .int .i64 line] w fun x w' => x = .returned (.bool false) ∧ Below w.heap.size w w' := by
  have HF := Lib.hid hf
  clear hf
  go_enter Tryz.func75, Tryz.ntmps75
  go_wp2_with fail
  refine Calls.mono HF.out ?_
  rintro x w1 ⟨rfl, hb⟩
  have HB1 := Lib.hid hb
  clear hb HF
  go_wp2
  go_ret
  exact ⟨rfl, HB1.out⟩
set_option maxRecDepth 100000 in
set_option maxHeartbeats 8000000 in
theorem touch_in (B a gs k : Nat) (S : List SetSt) (l : Nat) (s : SetSt) (w : World) (h : ArrAt B w a gs k S) (hl : l < 32) (hs : S[l % S.length]? = some s) (hb : s.bits < 256) (j : Nat) (hj : s.es.findIdx? (isAt (l : Nat)) = some j) :
    Calls Tryz.prog 75 #[.pointer (some ⟨a, 0, none⟩), .int .i64 (l : Nat)] w fun x w' => x = .returned (.bool true) ∧ ArrAt B w' a gs k (S.set (l % S.length) { s with bits := touchB k s.bits j }) ∧ Turned (fun q => q = gs) w w' := by
  have HF := Lib.hid (find_in B a gs k S l s w h hl hs)
  rw [hj] at HF
  simp only [idxI] at HF
  have hjk := (ent_facts h hs hj).1
  have HX : Hid (∀ w', Below w.heap.size w w' → ArrAt B w' a gs k S) := fun w' hb => h.below hb
  have HS := Lib.hid hs
  have HP : Hid (∀ w, _) := fun w => plruTouch_is s.bits k j w hb (pow_mem h.many.2) hjk
  clear h hs hj hb
  generalize l % S.length = r at *
  go_enter Tryz.func75, Tryz.ntmps75
  go_wp2_with fail
  refine HF.out.mono ?_
  rintro x w1 ⟨rfl, hb⟩
  have hA := HX.out w1 hb
  obtain ⟨c1, c2⟩ := hA.set_cells HS.out
  have HA := Lib.hid hA
  have HB1 := Lib.hid hb
  have hfz : w1.frozen? ⟨gs, r * 2, none⟩ = false := nofreeze hA.sets
  clear hb HF HX hA
  go_wp2_with fail
  go_region_law (first
    | (go_at_call 107; refine (HP.out _).mono ?_; rintro x w2 ⟨rfl, nd, rfl⟩)
    | (go_simp; go_at_call 107; refine (HP.out _).mono ?_; rintro x w2 ⟨rfl, nd, rfl⟩))
  all_goals
    have hbd : Below w1.heap.size w1 (w1.drewN (1 + nd)) := below_drewN _ _ _
    have HAT := Lib.hid ((HA.out.below hbd).turn HS.out (touchB k s.bits j))
    have HTT : Hid (Turned (fun q => q = gs) w ((w1.drewN (1 + nd)).setCell ⟨gs, r * 2, none⟩ (.int .u8 (touchB k s.bits j : Nat)))) := (Turned.of_below (S := fun q => q = gs) (HB1.out.trans (hbd.mono HB1.out.size))).setCell (p := ⟨gs, r * 2, none⟩) (.inl rfl) _
    clear hbd c1 c2 hfz HA HB1 HP
    go_wp2
    go_ret
    exact ⟨rfl, HAT.out, HTT.out⟩
end Go.Proofs.YtfaihaknibmcpaaGreatDoor
namespace Go.Proofs.YtfaihaknibmcpaaGreatDoor
open Go.RowKit Go.Extern.Stop Go.Stop Go.Extern

theorem made_of (cs : List Value) (n : Nat) (z : Array Value) (hz : z = cs.toArray) (hn : 0 < cs.length) : madeCells z (n * cs.length) = ((List.replicate n cs).flatten).toArray := by
  subst hz
  have hl : ∀ n, ((List.replicate n cs).flatten).length = n * cs.length := by
    intro n
    induction n with
    | zero => simp
    | succ n ih => rw [List.replicate_succ, List.flatten_cons, List.length_append, ih, Nat.succ_mul]; omega
  have hg : ∀ n i, i < n * cs.length → ((List.replicate n cs).flatten)[i]? = cs[i % cs.length]? := by
    intro n
    induction n with
    | zero => intro i hi; omega
    | succ n ih =>
      intro i hi
      rw [List.replicate_succ, List.flatten_cons]
      by_cases h : i < cs.length
      · rw [List.getElem?_append_left h, Nat.mod_eq_of_lt h]
      · rw [List.getElem?_append_right (by omega), ih (i - cs.length) (by rw [Nat.succ_mul] at hi; omega)]
        rw [show i % cs.length = (i - cs.length) % cs.length from by rw [← Nat.mod_eq_sub_mod (by omega)]]
  apply Array.ext
  · simp [madeCells, hl]
  · intro i h1 h2
    have h3 : i < n * cs.length := by simpa [madeCells] using h1
    have h4 := hg n i h3
    have h5 : i % cs.length < cs.length := Nat.mod_lt _ hn
    have h6 : i < ((List.replicate n cs).flatten).length := by rw [hl]; exact h3
    rw [List.getElem?_eq_getElem h6, List.getElem?_eq_getElem h5] at h4
    have h7 : ((List.replicate n cs).flatten)[i] = cs[i % cs.length] := by simpa using h4
    simp [madeCells, h7, h5]
def freeWays (k : Nat) : List Ent := List.replicate k Ent.none
theorem freeWays_cells (k : Nat) : entCells (freeWays k) = (List.replicate k Ent.none.cells).flatten := by
  unfold entCells freeWays
  rw [List.flatMap_def, List.map_replicate]
/-- The sets of a new array: their blocks one behind the other. -/
def newSets (g k n : Nat) : List SetSt := (List.range n).map fun j => ⟨0, g + j, freeWays k⟩
theorem newSets_length (g k n : Nat) : (newSets g k n).length = n := by simp [newSets]
theorem newSets_succ (g k n : Nat) : newSets g k (n + 1) = newSets g k n ++ [⟨0, g + n, freeWays k⟩] := by
  simp [newSets, List.range_succ]
/-- The sets' cells when i of n have their ways. -/
def partSets (g k n i : Nat) : List Value := setCells k (newSets g k i) ++ (List.replicate (n - i) [Value.int .u8 0, .slice none 0 0]).flatten
theorem setCells_append (k : Nat) (a b : List SetSt) : setCells k (a ++ b) = setCells k a ++ setCells k b := by simp [setCells]
theorem partSets_zero (g k n : Nat) : partSets g k n 0 = (List.replicate n [Value.int .u8 0, .slice none 0 0]).flatten := by simp [partSets, newSets, setCells]
theorem partSets_set (g k n i : Nat) (h : i < n) : (partSets g k n i).set (i * 2 + 1) (.slice (some ⟨g + i, 0, none⟩) k k) = partSets g k n (i + 1) := by
  unfold partSets
  have hl : (setCells k (newSets g k i)).length = i * 2 := by rw [setCells_length, newSets_length]
  rw [List.set_append, if_neg (by omega), hl, show i * 2 + 1 - i * 2 = 1 by omega, show n - i = (n - (i + 1)) + 1 by omega, List.replicate_succ, List.flatten_cons, newSets_succ, setCells_append]
  simp [setCells]
theorem partSets_cell (g k n i : Nat) (h : i < n) : (partSets g k n i)[i * 2 + 1]? = some (.slice none 0 0) := by
  unfold partSets
  have hl : (setCells k (newSets g k i)).length = i * 2 := by rw [setCells_length, newSets_length]
  rw [List.getElem?_append_right (by omega), hl, show i * 2 + 1 - i * 2 = 1 by omega, show n - i = (n - (i + 1)) + 1 by omega, List.replicate_succ, List.flatten_cons]
  rfl
theorem Tryz.infoSet : (Tryz.prog.info? 133).map (fun i => (i.zero, i.size, i.bytes)) = some (some (.agg #[.int .u8 0, .slice none 0 0]), 2, 32) := by kernel_rfl
theorem Tryz.infoEnt : (Tryz.prog.info? 65).map (fun i => (i.zero, i.size, i.bytes)) = some (some Ent.none.val, 10, 56) := by kernel_rfl
theorem make_sets (n : Nat) (hn : n ≤ 8) (W : World) : (Instr.makeSlice 129 (.int .i64 (n : Nat)) (.int .i64 (n : Nat))).run Tryz.prog W = .ok (.slice (some ⟨W.heap.size, 0, none⟩) n n) (W.alloc (.cells ((List.replicate n [Value.int .u8 0, .slice none 0 0]).flatten).toArray 133)) := by
  obtain ⟨i, hi, hx⟩ := Option.map_eq_some_iff.1 Tryz.infoSet
  simp only [Prod.mk.injEq] at hx
  obtain ⟨hz, hs, hb⟩ := hx
  have := run_make (P := Tryz.prog) W 129 133 i _ Tryz.underlying129 hi hz .i64 .i64 (n : Nat) (n : Nat) (by omega) (by omega) (by rw [hb]; omega) (by omega)
  rw [Int.toNat_natCast, hs] at this
  have e : madeCells (Value.agg #[Value.int .u8 0, .slice none 0 0]).cells (n * 2) = ((List.replicate n [Value.int .u8 0, .slice none 0 0]).flatten).toArray := made_of [Value.int .u8 0, .slice none 0 0] n _ rfl (by simp)
  rw [this, e]
theorem make_ways (k : Nat) (hk : k ≤ 8) (W : World) : (Instr.makeSlice 41 (.int .i64 (k : Nat)) (.int .i64 (k : Nat))).run Tryz.prog W = .ok (.slice (some ⟨W.heap.size, 0, none⟩) k k) (W.alloc (.cells (entCells (freeWays k)).toArray 65)) := by
  obtain ⟨i, hi, hx⟩ := Option.map_eq_some_iff.1 Tryz.infoEnt
  simp only [Prod.mk.injEq] at hx
  obtain ⟨hz, hs, hb⟩ := hx
  have := run_make (P := Tryz.prog) W 41 65 i _ Tryz.underlying41 hi hz .i64 .i64 (k : Nat) (k : Nat) (by omega) (by omega) (by rw [hb]; omega) (by omega)
  rw [Int.toNat_natCast, hs] at this
  have e : madeCells Ent.none.val.cells (k * 10) = ((List.replicate k Ent.none.cells).flatten).toArray := made_of Ent.none.cells k _ rfl (by simp [Ent.cells])
  rw [this, freeWays_cells, e]
set_option maxRecDepth 100000 in
set_option maxHeartbeats 8000000 in
theorem newArr_ok (n k : Nat) (w : World) (hn : isPow (n : Nat) = true) (hk : isPow (k : Nat) = true) :
    Calls Tryz.prog 35 #[.int .i64 (n : Nat), .int .i64 (k : Nat)] w fun e w' => ∃ a gs g, e = .returned (.tuple #[.pointer (some ⟨a, 0, none⟩), .nilIface]) ∧ ArrAt w.heap.size w' a gs k (newSets g k n) ∧ Below w.heap.size w w' := by
  have HN : Hid (∀ w, _) := fun w => powerA_is (n : Nat) w
  have HK : Hid (∀ w, _) := fun w => powerA_is (k : Nat) w
  rw [hn] at HN
  rw [hk] at HK
  have n8 : 1 ≤ n ∧ n ≤ 8 := by simp [isPow] at hn; omega
  have k8 : 1 ≤ k ∧ k ≤ 8 := by simp [isPow] at hk; omega
  have HPN := Lib.hid hn
  have HPK := Lib.hid hk
  have m1 := make_sets n n8.2
  have m2 := make_ways k k8.2
  clear hn hk
  go_enter Tryz.func35, Tryz.ntmps35
  go_wp2_with fail
  refine (HN.out w).mono ?_
  rintro e w1 ⟨rfl, rfl⟩
  go_wp2_with fail
  refine (HK.out w1).mono ?_
  rintro e w2 ⟨rfl, rfl⟩
  clear HN HK
  go_wp2_with fail
  generalize hW : (w2.alloc (Obj.cells (List.replicate n [Value.int .u8 0, .slice none 0 0]).flatten.toArray 133)).alloc (Obj.cells #[Value.slice (some ⟨w2.heap.size, 0, none⟩) n n] 131) = w3
  have hB3 : Below w2.heap.size w2 w3 := by rw [← hW]; exact ((Below.refl _ _).alloc (Nat.le_refl _) _).alloc (by simp) _
  have hsz3 : w3.heap.size = w2.heap.size + 2 := by rw [← hW]; simp
  have hbox3 : w3.heap[w2.heap.size + 1]? = some (.cells #[Value.slice (some ⟨w2.heap.size, 0, none⟩) n n] 131 (0, 0)) := by
    rw [← hW]
    have := heap_alloc_new (w2.alloc (Obj.cells (List.replicate n [Value.int .u8 0, .slice none 0 0]).flatten.toArray 133)) (Obj.cells #[Value.slice (some ⟨w2.heap.size, 0, none⟩) n n] 131)
    simpa using this
  have hset3 : w3.heap[w2.heap.size]? = some (.cells (partSets (w2.heap.size + 2) k n 0).toArray 133 (0, 0)) := by
    rw [← hW, partSets_zero]
    have hb := ((Below.refl (w2.alloc (Obj.cells (List.replicate n [Value.int .u8 0, .slice none 0 0]).flatten.toArray 133)).heap.size _).alloc (Nat.le_refl _) (Obj.cells #[Value.slice (some ⟨w2.heap.size, 0, none⟩) n n] 131)).block w2.heap.size (by simp)
    rw [hb]
    exact heap_alloc_new _ _
  have HB3 := Lib.hid hB3
  have HSZ3 := Lib.hid hsz3
  have HBOX3 := Lib.hid hbox3
  have HSET3 := Lib.hid hset3
  clear hW hB3 hsz3 hbox3 hset3 m1
  generalize hN : w2.heap.size = N at *
  have HNN := Lib.hid hN
  clear hN
  go_loopw [27] (fun v wr => ∃ i : Nat, i ≤ n ∧ v = .int .i64 i ∧ Hid (Below N w2 wr) ∧ Hid (wr.heap.size = N + 2 + i) ∧ Hid (wr.heap[N + 1]? = some (.cells #[Value.slice (some ⟨N, 0, none⟩) n n] 131 (0, 0))) ∧ Hid (wr.heap[N]? = some (.cells (partSets (N + 2) k n i).toArray 133 (0, 0))) ∧ Hid (∀ j, j < i → wr.heap[N + 2 + j]? = some (.cells (entCells (freeWays k)).toArray 65 (0, 0)))) (fun v _ => n - (intOf v).toNat)
  case atStart => exact ⟨0, by omega, rfl, HB3, HSZ3, HBOX3, HSET3, fun j hj => by omega⟩
  case round =>
    clear HB3 HSZ3 HBOX3 HSET3
    obtain ⟨i, hi, rfl, HB, HSZ, HBOX, HSET, HWAYS⟩ := hrel
    by_cases hlt : i < n
    · have hc1 : wr.cell? ⟨N + 1, 0, none⟩ = some (.slice (some ⟨N, 0, none⟩) n n) := by simp [World.cell?, HBOX.out]
      have hc2 : wr.cell? ⟨N, i * 2 + 1, none⟩ = some (.slice none 0 0) := by simp [World.cell?, HSET.out, partSets_cell (N + 2) k n i hlt]
      have hfz : wr.frozen? ⟨N, i * 2 + 1, none⟩ = false := nofreeze HSET.out
      have hp1 : N + 1 < wr.heap.size := by rw [HSZ.out]; omega
      have hp2 : N < wr.heap.size := by omega
      have ha1 : ∀ o, (wr.alloc o).cell? ⟨N + 1, 0, none⟩ = some (.slice (some ⟨N, 0, none⟩) n n) := fun o => by rw [World.cell?_alloc_lt _ _ _ hp1]; exact hc1
      have ha2 : ∀ o, (wr.alloc o).cell? ⟨N, i * 2 + 1, none⟩ = some (.slice none 0 0) := fun o => by rw [World.cell?_alloc_lt _ _ _ hp2]; exact hc2
      go_wp2_with fail
      go_region_law (fail)
      all_goals
        generalize hW : ((wr.setCell ⟨N, i * 2 + 1, none⟩ (.slice (some ⟨wr.heap.size, 0, none⟩) k k)).alloc (Obj.cells (entCells (freeWays k)).toArray 65)).drew = w5
        have hT : Turned (fun q => q = N) wr w5 := by
          rw [← hW]
          have h1 : Turned (fun q => q = N) wr (wr.setCell ⟨N, i * 2 + 1, none⟩ (.slice (some ⟨wr.heap.size, 0, none⟩) k k)) := (Turned.refl (fun q => q = N) wr).setCell (p := ⟨N, i * 2 + 1, none⟩) (.inl rfl) _
          exact h1.trans (Turned.of_below (((Below.refl _ _).alloc (Nat.le_refl _) _).drew))
        have hsize : w5.heap.size = N + 2 + (i + 1) := by
          rw [← hW]
          have := HSZ.out
          simp [World.setCell]
          omega
        have hset5 : w5.heap[N]? = some (.cells (partSets (N + 2) k n (i + 1)).toArray 133 (0, 0)) := by
          have hs1 := heap_setCell (o := i * 2 + 1) HSET.out (.slice (some ⟨wr.heap.size, 0, none⟩) k k)
          have hbel : Below (wr.setCell ⟨N, i * 2 + 1, none⟩ (.slice (some ⟨wr.heap.size, 0, none⟩) k k)).heap.size (wr.setCell ⟨N, i * 2 + 1, none⟩ (.slice (some ⟨wr.heap.size, 0, none⟩) k k)) w5 := by
            rw [← hW]; exact ((Below.refl _ _).alloc (Nat.le_refl _) _).drew
          rw [hbel.block N (lt_of_heap hs1), hs1, ← partSets_set (N + 2) k n i hlt, HSZ.out, List.setIfInBounds_toArray]
        have hnew : w5.heap[N + 2 + i]? = some (.cells (entCells (freeWays k)).toArray 65 (0, 0)) := by
          rw [← hW]
          have := heap_alloc_new (wr.setCell ⟨N, i * 2 + 1, none⟩ (.slice (some ⟨wr.heap.size, 0, none⟩) k k)) (Obj.cells (entCells (freeWays k)).toArray 65)
          have e : (wr.setCell ⟨N, i * 2 + 1, none⟩ (.slice (some ⟨wr.heap.size, 0, none⟩) k k)).heap.size = N + 2 + i := by
            have := HSZ.out
            simp [World.setCell]
            omega
          rw [e] at this
          exact this
        have HB5 : Hid (Below N w2 w5) := HB.out.trans (hT.below (by omega) (fun q hq e => by omega))
        have HSZ5 := Lib.hid hsize
        have HBOX5 : Hid (w5.heap[N + 1]? = some (.cells #[Value.slice (some ⟨N, 0, none⟩) n n] 131 (0, 0))) := (hT.block (N + 1) hp1 (by omega)).trans HBOX.out
        have HSET5 := Lib.hid hset5
        have HWAYS5 : Hid (∀ j, j < i + 1 → w5.heap[N + 2 + j]? = some (.cells (entCells (freeWays k)).toArray 65 (0, 0))) := by
          intro j hj
          by_cases e : j = i
          · rw [e]; exact hnew
          · have hj2 := HWAYS.out j (by omega)
            exact (hT.block (N + 2 + j) (lt_of_heap hj2) (by omega)).trans hj2
        clear hW hT hsize hset5 hnew hc1 hc2 hfz hp1 hp2 ha1 ha2 HB HSZ HBOX HSET HWAYS
        go_wp2
        go_roundw
        case rel => exact ⟨i + 1, by omega, by go_num, HB5, HSZ5, HBOX5, HSET5, HWAYS5⟩
        case measure => simp [intOf]; omega
    · obtain rfl : i = n := by omega
      have hA : ArrAt w2.heap.size wr (N + 1) N k (newSets (N + 2) k i) := by
        rw [HNN.out]
        have key : ∀ s ∈ newSets (N + 2) k i, ∃ j, j < i ∧ s = ⟨0, N + 2 + j, freeWays k⟩ := fun s hs => by
          simp only [newSets, List.mem_map, List.mem_range] at hs
          obtain ⟨j, hj, rfl⟩ := hs
          exact ⟨j, hj, rfl⟩
        refine ⟨?_, ?_, ?_, ?_, ⟨by omega, ?_⟩, ?_, ⟨by omega, by omega, ?_⟩, ?_⟩
        · rw [newSets_length]; exact HBOX.out
        · have := HSET.out
          simpa [partSets] using this
        · intro s hs
          obtain ⟨j, hj, rfl⟩ := key s hs
          exact HWAYS.out j hj
        · intro s hs
          obtain ⟨j, hj, rfl⟩ := key s hs
          simp [freeWays]
        · intro s hs
          obtain ⟨j, hj, rfl⟩ := key s hs
          exact ⟨by show N + 2 + j ≠ N + 1; omega, by show N + 2 + j ≠ N; omega⟩
        · simp only [newSets, List.map_map]
          rw [show ((fun s : SetSt => s.g) ∘ fun j => (⟨0, N + 2 + j, freeWays k⟩ : SetSt)) = fun j => N + 2 + j from rfl]
          unfold List.Nodup
          rw [List.pairwise_map]
          refine List.Pairwise.imp ?_ (List.nodup_range (n := i))
          intro a b h e
          have e2 : N + 2 + a = N + 2 + b := e
          omega
        · intro s hs
          obtain ⟨j, hj, rfl⟩ := key s hs
          show N ≤ N + 2 + j
          omega
        · rw [newSets_length]; exact ⟨HPN.out, HPK.out⟩
      have HAA := Lib.hid hA
      have HBB : Hid (Below w2.heap.size w2 wr) := by rw [HNN.out]; exact HB.out
      clear hA HB HSZ HBOX HSET HWAYS m2
      go_wp2_with fail
      go_ret2
      exact ⟨N + 1, N, N + 2, rfl, HAA.out, HBB.out⟩
end Go.Proofs.YtfaihaknibmcpaaGreatDoor
namespace Go.Proofs.YtfaihaknibmcpaaGreatDoor
open Go.RowKit Go.Extern.Stop Go.Stop Go.Extern Go.Proofs.YtfaihaknibmcpaaGreatDoor.PCacheFull Go.Proofs.YtfaihaknibmcpaaGreatDoorW.PrintWords

theorem index_l0 (zs : List Int) (x : Int) (h : zs.length < 1000) : ∀ (d k j : Nat), j + d = zs.length → d < k → ∃ r : Int, slices_Index_int_int.l0 k zs x (zs.length : Int) (j : Int) = some r ∧ (decide (r ≥ 0)) = (zs.drop j).contains x := by
  intro d
  induction d with
  | zero =>
    intro k j hj hk
    obtain ⟨k, rfl⟩ : ∃ m, k = m + 1 := ⟨k - 1, by omega⟩
    simp only [slices_Index_int_int.l0]
    rw [if_neg (by omega)]
    refine ⟨_, rfl, ?_⟩
    rw [List.drop_of_length_le (by omega)]
    simp
  | succ d ih =>
    intro k j hj hk
    obtain ⟨k, rfl⟩ : ∃ m, k = m + 1 := ⟨k - 1, by omega⟩
    have hlt : j < zs.length := by omega
    have hr : rd zs (j : Int) = zs[j] := by simp [rd, hlt]
    have w : wrap64 ((j : Int) + 1) = ((j + 1 : Nat) : Int) := by unfold wrap64; omega
    simp only [slices_Index_int_int.l0]
    rw [if_pos (by omega), if_pos (by omega), if_pos (by omega), hr, w, List.drop_eq_getElem_cons hlt]
    by_cases e : x = zs[j]
    · rw [if_pos e]
      refine ⟨_, rfl, ?_⟩
      rw [List.contains_cons, e]
      simp
    · rw [if_neg e]
      obtain ⟨r, h1, h2⟩ := ih k (j + 1) (by omega) (by omega)
      refine ⟨r, h1, ?_⟩
      rw [h2, List.contains_cons]
      simp [e]
/-- Is a number among these? -/
theorem contains_is (A : Option Addr) (c : Nat) (zs : List Int) (x : Int) (w : World) (hr : Kd.C (Kd.int .i64) w A zs.length zs) (hc : zs.length ≤ c) (hl : zs.length < 1000) :
    Calls Tryz.prog 115 #[.slice A zs.length c, .int .i64 x] w fun e w' => e = .returned (.bool (zs.contains x)) ∧ ∃ n, w' = w.drewN n := by
  obtain ⟨r, h1, h2⟩ := index_l0 zs x hl zs.length 1000 0 (by omega) hl
  have hf : slices_Contains_int_int.f 1000 zs x = some (zs.contains x) := by
    unfold slices_Contains_int_int.f slices_Index_int_int.f
    rw [show ((0 : Int)) = ((0 : Nat) : Int) from rfl, h1, Option.bind_some]
    have h3 : (decide (r ≥ 0)) = zs.contains x := by simpa using h2
    exact congrArg some h3
  refine (slices_Contains_int_int.calls 1000 A c zs x _ w hr hc hf).mono ?_
  rintro e w' ⟨rfl, hd⟩
  exact ⟨rfl, hd.out⟩
/-- The line that goes: the way to which the bits point, unless it is pinned; else the first that isn't. -/
def victimOf (es : List Ent) (v : Nat) (pinned : List Int) : Int := match es[v]? with
  | some e => if pinned.contains e.line then (match es.find? (fun e => !pinned.contains e.line) with | some e => e.line | none => -1) else e.line
  | none => -1
set_option maxRecDepth 100000 in
set_option maxHeartbeats 4000000 in
theorem victim_room (B a gs k : Nat) (S : List SetSt) (l : Nat) (s : SetSt) (w : World) (h : ArrAt B w a gs k S) (hl : l < 32) (hs : S[l % S.length]? = some s) (hroom : roomIn (l : Nat) s.es = true) (A : Option Addr) (n c : Nat) :
    Calls Tryz.prog 84 #[.pointer (some ⟨a, 0, none⟩), .int .i64 (l : Nat), .slice A n c] w fun x w' => x = .returned (.int .i64 (-1)) ∧ Below w.heap.size w w' := by
  have HF := Lib.hid (find_in B a gs k S l s w h hl hs)
  have HX : Hid (∀ w', Below w.heap.size w w' → _) := fun w' hb => free_is B a gs k S (l % S.length) s w' (h.below hb) hs
  unfold roomIn at hroom
  clear h hs
  generalize l % S.length = r at *
  cases hj : s.es.findIdx? (isAt (l : Nat)) with
  | some j =>
    rw [hj] at HF
    simp only [idxI] at HF
    clear hj hroom
    go_enter Tryz.func84, Tryz.ntmps84
    go_wp2_with fail
    refine HF.out.mono ?_
    rintro x w1 ⟨rfl, hb⟩
    have HB1 := Lib.hid hb
    clear hb HF HX
    go_wp2
    go_ret
    exact ⟨rfl, HB1.out⟩
  | none =>
    rw [hj] at HF hroom
    clear hj
    cases hq : s.es.findIdx? isFree with
    | none => rw [hq] at hroom; simp at hroom
    | some q =>
      rw [hq] at HX
      clear hq hroom
      simp only [idxI] at HF HX
      go_enter Tryz.func84, Tryz.ntmps84
      go_wp2_with fail
      refine HF.out.mono ?_
      rintro x w1 ⟨rfl, hb⟩
      have HB1 := Lib.hid hb
      clear hb HF
      go_wp2_with fail
      refine (HX.out w1 HB1.out).mono ?_
      rintro x w2 ⟨rfl, hb⟩
      have HB2 := Lib.hid (HB1.out.trans (hb.mono HB1.out.size))
      clear hb HX
      go_wp2
      go_ret
      exact ⟨rfl, HB2.out⟩
set_option maxRecDepth 100000 in
set_option maxHeartbeats 4000000 in
theorem victim_out (a : Nat) (line : Int) (w : World) (hf : Missing a line none w) (A : Option Addr) (n c : Nat) :
    Calls Tryz.prog 84 #[.pointer (some ⟨a, 0, none⟩), .int .i64 line, .slice A n c] w fun x w' => x = .returned (.int .i64 (-1)) ∧ Below w.heap.size w w' := by
  have HF := Lib.hid hf
  clear hf
  go_enter Tryz.func84, Tryz.ntmps84
  go_wp2_with fail
  refine Calls.mono HF.out ?_
  rintro x w1 ⟨rfl, hb⟩
  have HB1 := Lib.hid hb
  clear hb HF
  go_wp2
  go_ret
  exact ⟨rfl, HB1.out⟩
set_option maxRecDepth 100000 in
set_option maxHeartbeats 16000000 in
theorem victim_in (B a gs k : Nat) (S : List SetSt) (l : Nat) (s : SetSt) (w : World) (h : ArrAt B w a gs k S) (hl : l < 32) (hs : S[l % S.length]? = some s) (hb : s.bits < 256) (hroom : roomIn (l : Nat) s.es = false) (A : Option Addr) (c : Nat) (zs : List Int) (hr : Kd.C (Kd.int .i64) w A zs.length zs) (hc : zs.length ≤ c) (hz : zs.length < 1000) :
    Calls Tryz.prog 84 #[.pointer (some ⟨a, 0, none⟩), .int .i64 (l : Nat), .slice A zs.length c] w fun x w' => x = .returned (.int .i64 (victimOf s.es (victimB k s.bits) zs)) ∧ Below w.heap.size w w' := by
  have HF := Lib.hid (find_in B a gs k S l s w h hl hs)
  have HX : Hid (∀ w', Below w.heap.size w w' → _) := fun w' hb => free_is B a gs k S (l % S.length) s w' (h.below hb) hs
  have HAT : Hid (∀ w', Below w.heap.size w w' → ArrAt B w' a gs k S) := fun w' hb => h.below hb
  have HV : Hid (∀ w, _) := fun w => plruVictim_is s.bits k w hb (pow_mem h.many.2)
  have hvk := (victim_all s.bits hb k (pow_mem h.many.2)).2
  have HCT : Hid (∀ w', Below w.heap.size w w' → ∀ x, _) := fun w' hb x => contains_is A c zs x w' (Kd.C_below hr hb) hc hz
  have hlen := h.len s (List.mem_of_getElem? hs)
  have HS := Lib.hid hs
  obtain ⟨ev, hev⟩ : ∃ e, s.es[victimB k s.bits]? = some e := ⟨_, List.getElem?_eq_getElem (by omega)⟩
  have HEV := Lib.hid hev
  have hk8 := h.pos
  unfold roomIn at hroom
  obtain ⟨hj, hq⟩ : s.es.findIdx? (isAt (l : Nat)) = none ∧ s.es.findIdx? isFree = none := by
    cases h1 : s.es.findIdx? (isAt (l : Nat)) <;> cases h2 : s.es.findIdx? isFree <;> simp [h1, h2] at hroom ⊢
  rw [hj] at HF
  rw [hq] at HX
  simp only [idxI] at HF HX
  have HLEN := Lib.hid hlen
  have HVD : Hid (victimOf s.es (victimB k s.bits) zs = if zs.contains ev.line then (match s.es.find? (fun e => !zs.contains e.line) with | some e => e.line | none => -1) else ev.line) := by
    show _ = _
    unfold victimOf
    rw [hev]
  generalize victimOf s.es (victimB k s.bits) zs = res at *
  clear h hs hj hq hroom hlen hr hc hz hev hb
  generalize l % S.length = r at *
  generalize victimB k s.bits = v at *
  go_enter Tryz.func84, Tryz.ntmps84
  go_wp2_with fail
  refine HF.out.mono ?_
  rintro x w1 ⟨rfl, hb⟩
  have HB1 := Lib.hid hb
  clear hb HF
  go_wp2_with fail
  refine (HX.out w1 HB1.out).mono ?_
  rintro x w2 ⟨rfl, hb⟩
  have HB2 := Lib.hid (HB1.out.trans (hb.mono HB1.out.size))
  clear hb HX HB1
  have hA := HAT.out w2 HB2.out
  obtain ⟨c1, c2⟩ := hA.set_cells HS.out
  have hw := hA.ways s (List.mem_of_getElem? HS.out)
  have hcl := (entCells_at hw HEV.out).1
  have HW := Lib.hid hw
  clear hA hw HAT
  have f1 : (v : Int) < (k : Int) := by omega
  have f0 : (0 : Int) ≤ (v : Int) := by omega
  go_wp2_with fail
  go_quiet (first | (go_at_call 114; (with_reducible refine (HV.out _).mono ?_); rintro e w' ⟨rfl, ⟨nd, rfl⟩⟩; (try first | exact ⟨rfl, _, World.drewN_drewN _ _ _⟩ | exact ⟨rfl, _, Eq.trans (World.drewN_drewN _ _ _) (congrArg (World.drewN _) (Nat.add_assoc _ _ _))⟩)))
  have HB3 : Hid (Below w.heap.size w (w2.drewN nq)) := HB2.out.trans (below_drewN _ _ _)
  have HW3 : Hid ((w2.drewN nq).heap[s.g]? = some (.cells (entCells s.es).toArray 65 (0, 0))) := HW.out
  have c3 : (w2.drewN nq).cell? ⟨gs, r * 2 + 1, none⟩ = some (.slice (some ⟨s.g, 0, none⟩) k k) := c2
  clear c1 c2 hcl HW HB2 HV
  generalize w2.drewN nq = w3 at *
  have HC3 := Lib.hid (HCT.out w3 HB3.out ev.line)
  by_cases hp : zs.contains ev.line = true
  · rw [hp] at HC3
    go_wp2_with fail
    refine HC3.out.mono ?_
    rintro x w4 ⟨rfl, nd, rfl⟩
    have HB4 : Hid (Below w.heap.size w (w3.drewN nd)) := HB3.out.trans (below_drewN _ _ _)
    have HW4 : Hid ((w3.drewN nd).heap[s.g]? = some (.cells (entCells s.es).toArray 65 (0, 0))) := HW3.out
    have c4 : (w3.drewN nd).cell? ⟨gs, r * 2 + 1, none⟩ = some (.slice (some ⟨s.g, 0, none⟩) k k) := c3
    clear c3 HB3 HW3 HC3
    generalize w3.drewN nd = w4 at *
    go_wp2_with fail
    have HRES : Hid (res = match s.es.find? (fun e => !zs.contains e.line) with | some e => e.line | none => -1) := by
      show _ = _
      rw [HVD.out, if_pos hp]
    clear hp c4 HVD
    go_loopw [56] (fun v wr => ∃ i : Nat, i ≤ k ∧ v = .int .i64 i ∧ Hid (Below w.heap.size w wr) ∧ Hid (wr.heap[s.g]? = some (.cells (entCells s.es).toArray 65 (0, 0))) ∧ Hid (s.es.find? (fun e => !zs.contains e.line) = (s.es.drop i).find? (fun e => !zs.contains e.line))) (fun v _ => k - (intOf v).toNat)
    case atStart => exact ⟨0, by omega, rfl, HB4, HW4, rfl⟩
    case round =>
      clear HB4 HW4
      obtain ⟨i, hi, rfl, HB, HW, HFD⟩ := hrel
      by_cases hlt : i < k
      · obtain ⟨e, he⟩ : ∃ e, s.es[i]? = some e := ⟨_, List.getElem?_eq_getElem (by rw [HLEN.out]; exact hlt)⟩
        obtain ⟨c0, c1, c2, c3, c4, c5, c6, c7, c8, c9⟩ := entCells_at HW.out he
        have HDR : Hid ((s.es.drop i).find? (fun e => !zs.contains e.line) = if zs.contains e.line then (s.es.drop (i + 1)).find? (fun e => !zs.contains e.line) else some e) := by
          show _ = _
          have hi2 := List.getElem?_eq_some_iff.1 he
          rw [List.drop_eq_getElem_cons hi2.1, hi2.2, List.find?_cons]
          cases zs.contains e.line <;> rfl
        have HGS := Lib.hid (lt_of_heap HW.out)
        clear he
        go_wp2_with fail
        have HBA : Hid (∀ o, Below w.heap.size w (wr.alloc o)) := fun o => HB.out.alloc HB.out.size o
        have HWA : Hid (∀ o nd, ((wr.alloc o).drewN nd).heap[s.g]? = some (.cells (entCells s.es).toArray 65 (0, 0))) := fun o nd => by
          have hb := ((Below.refl wr.heap.size wr).alloc (Nat.le_refl _) o).block s.g HGS.out
          exact hb.trans HW.out
        cases hpe : zs.contains e.line with
        | true =>
          have HC5 : Hid (∀ o, _) := fun o => HCT.out (wr.alloc o) (HBA.out o) e.line
          rw [hpe] at HC5
          refine (HC5.out _).mono ?_
          rintro x w5 ⟨rfl, nd, rfl⟩
          have HFD2 : Hid (s.es.find? (fun e => !zs.contains e.line) = (s.es.drop (i + 1)).find? (fun e => !zs.contains e.line)) := by
            show _ = _
            rw [HFD.out, HDR.out, if_pos hpe]
          clear hpe HC5 c0 c1 c2 c3 c4 c5 c6 c7 c8 c9
          go_wp2_with fail
          go_roundw
          case rel => exact ⟨i + 1, by omega, by go_num, (HBA.out _).trans (below_drewN _ _ _), HWA.out _ _, HFD2⟩
          case measure => simp [intOf]; omega
        | false =>
          have HC5 : Hid (∀ o, _) := fun o => HCT.out (wr.alloc o) (HBA.out o) e.line
          rw [hpe] at HC5
          refine (HC5.out _).mono ?_
          rintro x w5 ⟨rfl, nd, rfl⟩
          have HRE : Hid (res = e.line) := by
            show _ = _
            rw [HRES.out, HFD.out, HDR.out, if_neg (by rw [hpe]; decide)]
          clear hpe HC5 c0 c1 c2 c3 c4 c5 c6 c7 c8 c9
          go_wp2_with fail
          go_ret
          exact ⟨by rw [HRE.out]; rfl, (HBA.out _).trans (below_drewN _ _ _)⟩
      · have HRE : Hid (res = -1) := by
          show _ = _
          rw [HRES.out, HFD.out, List.drop_of_length_le (by rw [HLEN.out]; omega)]
          rfl
        go_wp2_with fail
        go_ret
        exact ⟨by rw [HRE.out]; rfl, HB.out⟩
  · have hp' : zs.contains ev.line = false := by simpa using hp
    rw [hp'] at HC3
    go_wp2_with fail
    refine HC3.out.mono ?_
    rintro x w4 ⟨rfl, nd, rfl⟩
    have HB4 : Hid (Below w.heap.size w (w3.drewN nd)) := HB3.out.trans (below_drewN _ _ _)
    have HRES : Hid (res = ev.line) := by
      show _ = _
      rw [HVD.out, if_neg hp]
    clear hp hp' HB3 HC3 c3 HVD
    go_wp2
    go_ret
    exact ⟨by rw [HRES.out]; rfl, HB4.out⟩
theorem C_one {w : World} {g : Nat} {x : Int} (h : w.cell? ⟨g, 0, none⟩ = some (.int .i64 x)) : Kd.C (Kd.int .i64) w (some ⟨g, 0, none⟩) [x].length [x] := by
  refine Kd.C_of_reads (d := (0 : Int)) (h1 := fun _ => rfl) ⟨rfl, by simp, fun _ => ⟨⟨g, 0, none⟩, rfl, fun j hj => ?_⟩⟩
  obtain rfl : j = 0 := by simp at hj; omega
  exact h
theorem C_none (w : World) : Kd.C (Kd.int .i64) w none ([] : List Int).length [] := Kd.C_nil _ _
/-- An array of the law's own: it lies above B. -/
def ArrOwn (B : Nat) (w : World) (a k : Nat) (S : List SetSt) : Prop := ∃ gs, ArrAt B w a gs k S
theorem one_get (l : Nat) (s : SetSt) : [s][l % [s].length]? = some s := by simp [Nat.mod_one]
theorem one_set (l : Nat) (s t : SetSt) : [s].set (l % [s].length) t = [t] := by simp [Nat.mod_one]
end Go.Proofs.YtfaihaknibmcpaaGreatDoor
