/- What assentkeep's Config makes of any configuration. The law CacheNew, walked. -/
import Derived.Test.YtfaihaknibmcpaaGreatDoorNew
import Derived.Test.YtfaihaknibmcpaaGreatDoorBase
import Derived.StillTailTactics
import Derived.Test.YtfaihaknibmcpaaGreatDoorSteps
import Derived.Test.YtfaihaknibmcpaaGreatDoorRuns
namespace Go.Proofs.YtfaihaknibmcpaaGreatDoor
open Go.RowKit Go.Extern.Stop Go.Stop Go.Extern

theorem cfg_one (c : Cfg) : ∀ v ∈ c.cells, v.oneCell' = true := by
  intro v hv
  simp only [Cfg.cells, List.mem_cons, List.not_mem_nil, or_false] at hv
  rcases hv with rfl | rfl | rfl | rfl | rfl | rfl | rfl | rfl | rfl <;> rfl
theorem Tryz.sizeCfg : (Tryz.prog.info? 29).map (·.size) = some 9 := by kernel_rfl
theorem ret_cfg {fn : Func} {p : Tmp} (h : fn.results = #[.cell p 29]) (tmps : Array Value) (w : World) (g : Nat) (cs : Array Value) (hp : tmps.getD p undef = .pointer (some ⟨g, 0, none⟩)) (hg : w.heap[g]? = some (.cells cs 29 (0, 0))) (hs : cs.size = 9) :
    (results fn tmps).run Tryz.prog w = .ok (.agg cs) w :=
  results_cell_row h tmps w g 29 cs (0, 0) _ hp hg Tryz.underlying29 rfl (by rw [hs]; exact Tryz.sizeCfg)
set_option maxRecDepth 100000 in
set_option maxHeartbeats 8000000 in
theorem config_in (cores lines sets ways mshrs buffer pool high low o l m b p z : Int) (s k : Int) (hs : s = 0 ∨ s = 1) (hk : k = 0 ∨ k = 1)
    (H1 : ∀ w, Calls Tryz.prog 10 #[.int .i64 cores, .int .i64 1, .int .i64 4] w fun e w' => e = .returned (.int .i64 o) ∧ w' = w)
    (H2 : ∀ w, Calls Tryz.prog 10 #[.int .i64 lines, .int .i64 1, .int .i64 6] w fun e w' => e = .returned (.int .i64 l) ∧ w' = w)
    (H3 : ∀ w, Calls Tryz.prog 10 #[.int .i64 sets, .int .i64 0, .int .i64 1] w fun e w' => e = .returned (.int .i64 s) ∧ w' = w)
    (H4 : ∀ w, Calls Tryz.prog 10 #[.int .i64 ways, .int .i64 0, .int .i64 1] w fun e w' => e = .returned (.int .i64 k) ∧ w' = w)
    (H5 : ∀ w, Calls Tryz.prog 10 #[.int .i64 mshrs, .int .i64 1, .int .i64 3] w fun e w' => e = .returned (.int .i64 m) ∧ w' = w)
    (H6 : ∀ w, Calls Tryz.prog 10 #[.int .i64 buffer, .int .i64 1, .int .i64 3] w fun e w' => e = .returned (.int .i64 b) ∧ w' = w)
    (H7 : ∀ w, Calls Tryz.prog 10 #[.int .i64 pool, .int .i64 1, .int .i64 4] w fun e w' => e = .returned (.int .i64 p) ∧ w' = w)
    (H8 : ∀ w, Calls Tryz.prog 10 #[.int .i64 low, .int .i64 (-1), .int .i64 1] w fun e w' => e = .returned (.int .i64 z) ∧ w' = w)
    (w : World) : Calls Tryz.prog 48 #[Cfg.val ⟨cores, lines, sets, ways, mshrs, buffer, pool, high, low⟩] w fun e w' => e = .returned (Cfg.val ⟨o, l, 1 + s, 1 + k, m, b, p, 2, z⟩) ∧ Below w.heap.size w w' := by
  have h1 := Lib.hid H1
  have h2 := Lib.hid H2
  have h3 := Lib.hid H3
  have h4 := Lib.hid H4
  have h5 := Lib.hid H5
  have h6 := Lib.hid H6
  have h7 := Lib.hid H7
  have h8 := Lib.hid H8
  clear H1 H2 H3 H4 H5 H6 H7 H8
  simp only [Cfg.val]
  go_enter Tryz.func48, Tryz.ntmps48
  go_upto_region 1 with fail
  generalize hW : w.alloc _ = wa
  have hB0 : Below w.heap.size w wa := by rw [← hW]; exact (Below.refl _ _).alloc (Nat.le_refl _) _
  have hbox : wa.heap[w.heap.size]? = some (.cells (Cfg.cells ⟨cores, lines, sets, ways, mshrs, buffer, pool, high, low⟩).toArray 29 (0, 0)) := by rw [← hW]; exact heap_alloc_new _ _
  have hs1 : w.heap.size + 1 = wa.heap.size := by rw [← hW]; simp
  simp only [hs1]
  have hlt : w.heap.size < wa.heap.size := lt_of_heap hbox
  generalize hW2 : wa.alloc _ = wb
  have hnew : wb.heap[wa.heap.size]? = some (.cells #[.int .i64 0, .int .i64 0, .int .i64 0, .int .i64 0, .int .i64 0, .int .i64 0, .int .i64 0, .int .i64 0, .int .i64 0] 29 (0, 0)) := by rw [← hW2]; exact heap_alloc_new _ _
  have hbox2 : wb.heap[w.heap.size]? = some (.cells (Cfg.cells ⟨cores, lines, sets, ways, mshrs, buffer, pool, high, low⟩).toArray 29 (0, 0)) := by rw [← hW2, ((Below.refl wa.heap.size wa).alloc (Nat.le_refl _) _).block _ hlt]; exact hbox
  have hB1 : Below w.heap.size w wb := by rw [← hW2]; exact hB0.alloc hB0.size _
  obtain ⟨m0, m1, m2, m3, m4, m5, m6, m7, m8⟩ := cfg_cells hbox2
  have HB := Lib.hid hB1
  have HNW := Lib.hid hnew
  have HLT := Lib.hid hlt
  clear hbox hbox2 hW hW2 hB0 hs1 hB1 hnew hlt
  generalize hg : w.heap.size = g at *
  generalize hg2 : wa.heap.size = g2 at *
  have HG := Lib.hid hg
  clear hg hg2
  rcases hs with rfl | rfl
  all_goals rcases hk with rfl | rfl
  all_goals
    refine wp_region_still_tail 27 (by kernel_rfl) (by kernel_rfl) ?_
    simp only [List.take_succ_cons, List.take_zero, List.drop_succ_cons, List.drop_zero]
    still_step
    still_step
    still_call h1.out _
    still_step
    still_step
    still_call h2.out _
    still_step
    still_step
    still_call h3.out _
    still_step
    still_step
    still_step
    still_call h4.out _
    still_step
    still_step
    still_step
    still_call h5.out _
    still_step
    still_step
    still_call h6.out _
    still_step
    still_step
    still_call h7.out _
    still_step
    still_step
    still_call h8.out _
    still_step
    refine wpStill_nil ?_
    change wpList _ _ _ _ _ wb.drew
    have HB2 : Hid (Below g w wb.drew) := HB.out.drew
    have hres : wb.drew.heap[g2]? = some (.cells #[.int .i64 0, .int .i64 0, .int .i64 0, .int .i64 0, .int .i64 0, .int .i64 0, .int .i64 0, .int .i64 0, .int .i64 0] 29 (0, 0)) := HNW.out
    clear m0 m1 m2 m3 m4 m5 m6 m7 m8 h1 h2 h3 h4 h5 h6 h7 h8 HNW HB
    generalize wb.drew = wd at *
  · have HONE := Lib.hid (all_oneCell_toArray (cfg_one ⟨o, l, 1 + 0, 1 + 0, m, b, p, 2, z⟩))
    go_wp2_with (refine wpList_store_row rfl 29 (.tmp 2) (.tmp 29) rfl g2 (Cfg.cells ⟨o, l, 1 + 0, 1 + 0, m, b, p, 2, z⟩).toArray rfl rfl 29 _ hres Tryz.sizeCfg rfl HONE.out ?_)
    have hB3 : Below g w (wd.setRow g2 (Cfg.cells ⟨o, l, 1 + 0, 1 + 0, m, b, p, 2, z⟩).toArray) := below_setRow HB2.out (Nat.le_of_lt HLT.out) _
    refine ⟨rfl, _, ret_cfg Tryz.results48 _ _ g2 _ rfl (heap_setRow hres _) rfl, rfl, ?_⟩
    rw [HG.out]
    exact hB3
  · have HONE := Lib.hid (all_oneCell_toArray (cfg_one ⟨o, l, 1 + 0, 1 + 1, m, b, p, 2, z⟩))
    go_wp2_with (refine wpList_store_row rfl 29 (.tmp 2) (.tmp 29) rfl g2 (Cfg.cells ⟨o, l, 1 + 0, 1 + 1, m, b, p, 2, z⟩).toArray rfl rfl 29 _ hres Tryz.sizeCfg rfl HONE.out ?_)
    have hB3 : Below g w (wd.setRow g2 (Cfg.cells ⟨o, l, 1 + 0, 1 + 1, m, b, p, 2, z⟩).toArray) := below_setRow HB2.out (Nat.le_of_lt HLT.out) _
    refine ⟨rfl, _, ret_cfg Tryz.results48 _ _ g2 _ rfl (heap_setRow hres _) rfl, rfl, ?_⟩
    rw [HG.out]
    exact hB3
  · have HONE := Lib.hid (all_oneCell_toArray (cfg_one ⟨o, l, 1 + 1, 1 + 0, m, b, p, 2, z⟩))
    go_wp2_with (refine wpList_store_row rfl 29 (.tmp 2) (.tmp 29) rfl g2 (Cfg.cells ⟨o, l, 1 + 1, 1 + 0, m, b, p, 2, z⟩).toArray rfl rfl 29 _ hres Tryz.sizeCfg rfl HONE.out ?_)
    have hB3 : Below g w (wd.setRow g2 (Cfg.cells ⟨o, l, 1 + 1, 1 + 0, m, b, p, 2, z⟩).toArray) := below_setRow HB2.out (Nat.le_of_lt HLT.out) _
    refine ⟨rfl, _, ret_cfg Tryz.results48 _ _ g2 _ rfl (heap_setRow hres _) rfl, rfl, ?_⟩
    rw [HG.out]
    exact hB3
  · have HONE := Lib.hid (all_oneCell_toArray (cfg_one ⟨o, l, 1 + 1, 1 + 1, m, b, p, 2, z⟩))
    go_wp2_with (refine wpList_store_row rfl 29 (.tmp 2) (.tmp 29) rfl g2 (Cfg.cells ⟨o, l, 1 + 1, 1 + 1, m, b, p, 2, z⟩).toArray rfl rfl 29 _ hres Tryz.sizeCfg rfl HONE.out ?_)
    have hB3 : Below g w (wd.setRow g2 (Cfg.cells ⟨o, l, 1 + 1, 1 + 1, m, b, p, 2, z⟩).toArray) := below_setRow HB2.out (Nat.le_of_lt HLT.out) _
    refine ⟨rfl, _, ret_cfg Tryz.results48 _ _ g2 _ rfl (heap_setRow hres _) rfl, rfl, ?_⟩
    rw [HG.out]
    exact hB3
/-- A small configuration: it may be, and no part is more than six. -/
theorem config_more (c : Cfg) : ∃ c' : Cfg, ∃ n k m : Nat, ∃ o l : Int, (c'.lines = l ∧ 1 ≤ l ∧ l ≤ 6 ∧ 1 ≤ m ∧ m ≤ 3) ∧ badAt c' = none ∧ c'.sets = (n : Nat) ∧ c'.ways = (k : Nat) ∧ c'.mshrs = (m : Nat) ∧ c'.cores = o ∧ 1 ≤ o ∧ o ≤ 4 ∧ (n = 1 ∨ n = 2) ∧ (k = 1 ∨ k = 2) ∧ ∀ w, Calls Tryz.prog 48 #[c.val] w fun e w' => e = .returned c'.val ∧ Below w.heap.size w w' := by
  obtain ⟨cores, lines, sets, ways, mshrs, buffer, pool, high, low⟩ := c
  have a1 := inOf_le (n := cores) (lo := 1) (hi := 4) (by omega)
  have a2 := inOf_le (n := lines) (lo := 1) (hi := 6) (by omega)
  have a3 := inOf_le (n := sets) (lo := 0) (hi := 1) (by omega)
  have a4 := inOf_le (n := ways) (lo := 0) (hi := 1) (by omega)
  have a5 := inOf_le (n := mshrs) (lo := 1) (hi := 3) (by omega)
  have a6 := inOf_le (n := buffer) (lo := 1) (hi := 3) (by omega)
  have a7 := inOf_le (n := pool) (lo := 1) (hi := 4) (by omega)
  have a8 := inOf_le (n := low) (lo := -1) (hi := 1) (by omega)
  have hs : inOf sets 0 1 = 0 ∨ inOf sets 0 1 = 1 := by omega
  have hk : inOf ways 0 1 = 0 ∨ inOf ways 0 1 = 1 := by omega
  have H := config_in cores lines sets ways mshrs buffer pool high low _ _ _ _ _ _ _ _ hs hk (fun w => within_same cores 1 4 w (by omega) (by omega) (by omega)) (fun w => within_same lines 1 6 w (by omega) (by omega) (by omega)) (fun w => within_same sets 0 1 w (by omega) (by omega) (by omega)) (fun w => within_same ways 0 1 w (by omega) (by omega) (by omega)) (fun w => within_same mshrs 1 3 w (by omega) (by omega) (by omega)) (fun w => within_same buffer 1 3 w (by omega) (by omega) (by omega)) (fun w => within_same pool 1 4 w (by omega) (by omega) (by omega)) (fun w => within_same low (-1) 1 w (by omega) (by omega) (by omega))
  refine ⟨_, (1 + inOf sets 0 1).toNat, (1 + inOf ways 0 1).toNat, (inOf mshrs 1 3).toNat, inOf cores 1 4, inOf lines 1 6, ⟨rfl, a2.1, a2.2, by omega, by omega⟩, ?_, ?_, ?_, ?_, ?_, a1.1, a1.2, by omega, by omega, H⟩
  · refine badAt_none (l := okL _) fun j hj => ?_
    have b1 : inB (inOf cores 1 4) 1 64 = true := by simp [inB]; omega
    have b2 : inB (inOf lines 1 6) 1 32 = true := by simp [inB]; omega
    have b3 : isPow (1 + inOf sets 0 1) = true := by rcases hs with h | h <;> rw [h] <;> rfl
    have b4 : isPow (1 + inOf ways 0 1) = true := by rcases hk with h | h <;> rw [h] <;> rfl
    have b5 : inB (inOf mshrs 1 3) 1 8 = true := by simp [inB]; omega
    have b6 : inB (inOf buffer 1 3) 1 8 = true := by simp [inB]; omega
    have b7 : inB (inOf pool 1 4) 1 64 = true := by simp [inB]; omega
    have b9 : (decide (-1 ≤ inOf low (-1) 1) && decide (inOf low (-1) 1 < 2)) = true := by simp; omega
    have hj : j < 9 := hj
    simp only [okL, b1, b2, b3, b4, b5, b6, b7, b9]
    obtain rfl | rfl | rfl | rfl | rfl | rfl | rfl | rfl | rfl : j = 0 ∨ j = 1 ∨ j = 2 ∨ j = 3 ∨ j = 4 ∨ j = 5 ∨ j = 6 ∨ j = 7 ∨ j = 8 := by omega
    all_goals rfl
  · show 1 + inOf sets 0 1 = _
    omega
  · show 1 + inOf ways 0 1 = _
    omega
  · show inOf mshrs 1 3 = _
    omega
  · rfl
/-- A small configuration: it may be, and no part is more than four. -/
theorem config_is (c : Cfg) : ∃ c' : Cfg, ∃ n k m : Nat, ∃ o : Int, badAt c' = none ∧ c'.sets = (n : Nat) ∧ c'.ways = (k : Nat) ∧ c'.mshrs = (m : Nat) ∧ c'.cores = o ∧ 1 ≤ o ∧ o ≤ 4 ∧ (n = 1 ∨ n = 2) ∧ (k = 1 ∨ k = 2) ∧ ∀ w, Calls Tryz.prog 48 #[c.val] w fun e w' => e = .returned c'.val ∧ Below w.heap.size w w' := by
  obtain ⟨c', n, k, m, o, l, _, h⟩ := config_more c
  exact ⟨c', n, k, m, o, h⟩
end Go.Proofs.YtfaihaknibmcpaaGreatDoor
namespace Go.Proofs.YtfaihaknibmcpaaGreatDoor
open Go.RowKit Go.Extern.Stop Go.Stop Go.Extern

/-- A new cache. -/
def nS (c : Int) (n k m g : Nat) : CSt := ⟨c, n, k, m, newSets g k n, []⟩
theorem n_get (c : Int) (n k m g : Nat) (hn : 0 < n) (x : Int) : getS (nS c n k m g).S x = none := getS_new g k n hn x
theorem n_okE (c : Int) (n k m g : Nat) (hn : 0 < n) (x d : Int) : okE (getS (nS c n k m g).S x) d = false := by rw [n_get c n k m g hn x]; rfl
theorem n_write (c : Int) (n k m g : Nat) (hn : 0 < n) (x d v : Int) : writeOk (nS c n k m g) x d = false ∧ writeTo (nS c n k m g) x d v = nS c n k m g := by
  have h : writeOk (nS c n k m g) x d = false := by
    unfold writeOk
    rw [n_okE c n k m g hn x d]
    rfl
  exact ⟨h, write_no h⟩
theorem n_l (q : CSt) (M : Mg) (h : q.l = []) : fwdL q M = [] := by
  unfold fwdL
  rw [h]
  split
  all_goals rfl
theorem n_fwd (c : Int) (n k m g : Nat) (hn : 0 < n) (hc : 0 ≤ c ∧ c ≤ 63) (p : Nat) (hp : p ≤ 5) (x : Int) (hx : 0 ≤ x ∧ x ≤ 31) : forwardOk (nS c n k m g) ⟨((5 + p : Nat) : Int), c, x, 0, 0, 0, 0, 0, 0, 0, 0, 0, false⟩ = true ∧ forwardSays (nS c n k m g) ⟨((5 + p : Nat) : Int), c, x, 0, 0, 0, 0, 0, 0, 0, 0, 0, false⟩ = ⟨11, c, x, 0, 0, 0, 0, 0, 0, 0, 0, 0, false⟩ ∧ forwardTo (nS c n k m g) ⟨((5 + p : Nat) : Int), c, x, 0, 0, 0, 0, 0, 0, 0, 0, 0, false⟩ = nS c n k m g := by
  obtain ⟨r1, r2⟩ := right_fwd (k := ((5 + p : Nat) : Int)) (c := c) (x := x) (by omega) hc hx
  obtain ⟨a1, a2, a3⟩ := away_forward (q := nS c n k m g) (c := c) (x := x) (l := []) ⟨okQ_new c g k n m [] hn, n_get c n k m g hn x, rfl, rfl⟩ (m := ⟨((5 + p : Nat) : Int), c, x, 0, 0, 0, 0, 0, 0, 0, 0, 0, false⟩) rfl r1 r2 rfl
  refine ⟨a1, a2, a3.trans ?_⟩
  rw [n_l _ _ rfl]
  rfl
theorem n_other (c : Int) (n k m g : Nat) (p : Nat) (x : Int) : forwardOk (nS c n k m g) ⟨((5 + p : Nat) : Int), c + 1, x, 0, 0, 0, 0, 0, 0, 0, 0, 0, false⟩ = false ∧ forwardSays (nS c n k m g) ⟨((5 + p : Nat) : Int), c + 1, x, 0, 0, 0, 0, 0, 0, 0, 0, 0, false⟩ = Mg.zero ∧ forwardTo (nS c n k m g) ⟨((5 + p : Nat) : Int), c + 1, x, 0, 0, 0, 0, 0, 0, 0, 0, 0, false⟩ = nS c n k m g :=
  forward_other (q := nS c n k m g) (by show c + 1 ≠ c; omega)
theorem n_used (c : Int) (n k m g : Nat) (hn : n = 1 ∨ n = 2) (hk : k = 1 ∨ k = 2) : usedIn (nS c n k m g).S = [] := by
  show usedIn (newSets g k n) = []
  rcases hn with rfl | rfl
  all_goals rcases hk with rfl | rfl
  all_goals kernel_rfl
set_option maxRecDepth 100000 in
theorem small_is (c c' : Cfg) (H : ∀ w, Calls Tryz.prog 48 #[c.val] w fun e w' => e = .returned c'.val ∧ Below w.heap.size w w') (w : World) : Calls Tryz.prog 18 #[c.val] w fun e w' => e = .returned c'.val ∧ Below w.heap.size w w' := by
  have HC := Lib.hid H
  clear H
  obtain ⟨q1, q2, q3, q4, q5, q6, q7, q8, q9⟩ := c
  simp only [Cfg.val] at *
  have HONE := Lib.hid (all_oneCell_toArray (cfg_one c'))
  obtain ⟨z1, z2, z3, z4, z5, z6, z7, z8, z9⟩ := c'
  simp only at *
  go_enter Tryz.func18, Tryz.ntmps18
  go_wp2_with fail
  generalize hW : (w.alloc _).alloc _ = wa
  have hb0 : Below w.heap.size w wa := by rw [← hW]; exact ((Below.refl _ _).alloc (Nat.le_refl _) _).alloc (by simp) _
  have hr0 : wa.heap[w.heap.size + 1]? = some (.cells #[.int .i64 0, .int .i64 0, .int .i64 0, .int .i64 0, .int .i64 0, .int .i64 0, .int .i64 0, .int .i64 0, .int .i64 0] 29 (0, 0)) := by
    rw [← hW]
    have := heap_alloc_new (w.alloc (.cells #[.int .i64 q1, .int .i64 q2, .int .i64 q3, .int .i64 q4, .int .i64 q5, .int .i64 q6, .int .i64 q7, .int .i64 q8, .int .i64 q9] 29)) (.cells #[.int .i64 0, .int .i64 0, .int .i64 0, .int .i64 0, .int .i64 0, .int .i64 0, .int .i64 0, .int .i64 0, .int .i64 0] 29)
    simp only [World.size_alloc] at this
    exact this
  clear hW
  refine (HC.out _).mono ?_
  rintro r wb ⟨rfl, hb⟩
  have hres := (hb.block (w.heap.size + 1) (lt_of_heap hr0)).trans hr0
  have HB1 := Lib.hid (hb0.trans (hb.mono hb0.size))
  clear hb HC hb0 hr0
  go_wp2_with (refine wpList_store_row rfl 29 (.tmp 2) (.tmp 4) rfl (w.heap.size + 1) (Cfg.cells ⟨z1, z2, z3, z4, z5, z6, z7, z8, z9⟩).toArray rfl rfl 29 _ hres Tryz.sizeCfg rfl HONE.out ?_)
  exact ⟨rfl, _, ret_cfg Tryz.results18 _ _ (w.heap.size + 1) _ rfl (heap_setRow hres _) rfl, rfl, below_setRow HB1.out (Nat.le_succ _) _⟩
set_option maxRecDepth 100000 in
set_option maxHeartbeats 8000000 in
theorem cacheNew_is (cf : Cfg) (core line kind : Int) (w : World) (ad : Nat → Addr) (HSE : Sents w ad) :
    Calls Tryz.prog 9 #[cf.val, .int .i64 core, .int .i64 line, .int .i64 kind] w fun e w' => e = .returned (.bool true) ∧ Below w.heap.size w w' := by
  have HS := Lib.hid HSE
  clear HSE
  obtain ⟨cf', n, kw, m, o, hbad, hs, hk, hm, ho, o1, o4, hn, hkw, C1⟩ := config_is cf
  obtain ⟨x, x0, x31, X1⟩ := within_int line 31 (by omega)
  obtain ⟨p, hp, P1⟩ := within_nat kind 5 (by omega)
  obtain ⟨c, c0, c1, K1⟩ := within_int core (o - 1) (by omega)
  have HC := Lib.hid (small_is cf cf' C1)
  have HX := Lib.hid X1
  have HP := Lib.hid P1
  have HK := Lib.hid K1
  have HN : Hid (n = 1 ∨ n = 2) := hn
  have HW : Hid (kw = 1 ∨ kw = 2) := hkw
  have HN0 : Hid (0 < n) := by show 0 < n; omega
  have HNW : Hid (∀ w ad, Sents w ad → _) := fun w ad S => new_ok cf' c n kw m hbad hs hk hm c0 (by rw [ho]; omega) w ad S
  clear C1 X1 P1 K1 hn hkw hbad hs hk hm
  obtain ⟨q1, q2, q3, q4, q5, q6, q7, q8, q9⟩ := cf
  obtain ⟨z1, z2, z3, z4, z5, z6, z7, z8, z9⟩ := cf'
  have ho : z1 = o := ho
  subst ho
  simp only [Cfg.val] at *
  go_enter Tryz.func9, Tryz.ntmps9
  go_wp2_with fail
  generalize hW : w.alloc _ = wa
  have hb0 : Below w.heap.size w wa := by rw [← hW]; exact (Below.refl _ _).alloc (Nat.le_refl _) _
  have hbx : wa.heap[w.heap.size]? = some (.cells (Cfg.cells ⟨q1, q2, q3, q4, q5, q6, q7, q8, q9⟩).toArray 29 (0, 0)) := by rw [← hW]; exact heap_alloc_new _ _
  have HB0 := Lib.hid hb0
  clear hW hbx hb0
  refine (HC.out _).mono ?_
  rintro r wc ⟨rfl, hb⟩
  have HB1 := Lib.hid (HB0.out.trans (hb.mono HB0.out.size))
  clear hb HC HB0
  go_upto_region 2 with fail
  generalize hW : wc.alloc _ = wd
  have hbx : wd.heap[wc.heap.size]? = some (.cells (Cfg.cells ⟨z1, z2, z3, z4, z5, z6, z7, z8, z9⟩).toArray 29 (0, 0)) := by rw [← hW]; exact heap_alloc_new _ _
  have HB2 : Hid (Below w.heap.size w wd) := by rw [← hW]; exact HB1.out.alloc HB1.out.size _
  clear hW HB1
  obtain ⟨m0, m1, m2, m3, m4, m5, m6, m7, m8⟩ := cfg_cells hbx
  clear hbx
  simp only at m0 m1 m2 m3 m4 m5 m6 m7 m8
  have HSD := Lib.hid (HS.out.of_below HB2.out)
  clear HS
  generalize wc.heap.size = b9 at *
  have hw0 : wrap64 (z1 - 1) = z1 - 1 := by unfold wrap64; omega
  go_wp2_with fail
  refine (HK.out _).mono ?_
  rintro r wk ⟨rfl, rfl⟩
  clear HK hw0
  go_wp2_with fail
  refine (HNW.out _ ad HSD.out).mono ?_
  rintro r w1 ⟨A, g, rfl, hC⟩
  have F1 : Hid (FrameAt (fun _ => False) wk w1 w1 A (nS c n kw m g) []) := FrameAt.start hC
  clear hC HNW m0 m1 m2 m3 m4 m5 m6 m7 m8
  go_wp2_with fail
  refine (HX.out _).mono ?_
  rintro r w1 ⟨rfl, rfl⟩
  clear HX
  go_wp2_with fail
  obtain ⟨a1, a3⟩ := read_away (n_okE c n kw m g HN0.out x 0)
  have a2 := n_okE c n kw m g HN0.out x 0
  have HW := read_is F1.out.cache ad HSD.out x 0
  rw [a1, a2, a3] at HW
  refine HW.mono ?_
  clear HW
  rintro r w2 ⟨rfl, hA, hk⟩
  have F2 := Lib.hid (F1.out.step hA hk)
  clear hA hk F1
  clear a1 a2 a3
  go_wp2_with fail
  have a1 := n_get c n kw m g HN0.out x
  have HW := peek_is F2.out.cache x
  rw [a1] at HW
  simp only [Option.getD_none, Option.isSome_none, Ent.val, Ent.none] at HW
  refine HW.mono ?_
  clear HW
  rintro r w3 ⟨rfl, hb⟩
  have F3 := Lib.hid (F2.out.below hb)
  clear hb F2
  clear a1
  go_upto_region 9 with fail
  generalize hW : w3.alloc _ = w4
  have F4 := Lib.hid (F3.out.layAs (cs := Ent.none.cells.toArray) (t := 65) hW)
  clear hW F3
  generalize w3.heap.size = b16 at *
  go_wp2_with fail
  refine (HP.out _).mono ?_
  rintro r w4 ⟨rfl, rfl⟩
  clear HP
  obtain ⟨f, hf⟩ : ∃ f : Nat, f = 5 + p := ⟨_, rfl⟩
  have hw0 : wrap64 (5 + (p : Int)) = (f : Int) := by unfold wrap64; omega
  have hw1 : 5 + (p : Int) = (f : Int) := by omega
  have hp5 : p ≤ 5 := by omega
  have N1 := n_fwd c n kw m g HN0.out ⟨c0, by omega⟩ p hp5 x ⟨x0, x31⟩
  have N2 := n_other c n kw m g p x
  rw [← hf] at N1 N2
  obtain ⟨a1, a2, a3⟩ := N1
  obtain ⟨d1, d2, d3⟩ := N2
  have A1 := Lib.hid a1
  have A2 := Lib.hid a2
  have A3 := Lib.hid a3
  have D1 := Lib.hid d1
  have D2 := Lib.hid d2
  have D3 := Lib.hid d3
  clear a1 a2 a3 d1 d2 d3 hf hp5
  go_wp2_with fail
  have HW := forward_is F4.out.cache ad HSD.out ⟨f, c, x, 0, 0, 0, 0, 0, 0, 0, 0, 0, false⟩
  rw [A1.out, A2.out, A3.out] at HW
  simp only [Mg.val] at HW
  refine HW.mono ?_
  clear HW
  rintro r w5 ⟨rfl, hA, hk⟩
  have F5 := Lib.hid (F4.out.step hA hk)
  clear hA hk F4
  clear A1 A2 A3 hw0 hw1
  go_upto_region 11 with fail
  generalize hW : w5.alloc _ = w6
  have F6 := Lib.hid (F5.out.layAs (cs := (Mg.cells ⟨11, c, x, 0, 0, 0, 0, 0, 0, 0, 0, 0, false⟩).toArray) (t := 34) hW)
  clear hW F5
  generalize w5.heap.size = b19 at *
  have hw0 : wrap64 (c + 1) = c + 1 := by unfold wrap64; omega
  go_wp2_with fail
  have HW := forward_is F6.out.cache ad HSD.out ⟨f, c + 1, x, 0, 0, 0, 0, 0, 0, 0, 0, 0, false⟩
  rw [D1.out, D2.out, D3.out] at HW
  simp only [Mg.val, Mg.zero] at HW
  refine HW.mono ?_
  clear HW
  rintro r w7 ⟨rfl, hA, hk⟩
  have F7 := Lib.hid (F6.out.step hA hk)
  clear hA hk F6
  clear D1 D2 D3 hw0
  go_upto_region 12 with fail
  generalize hW : w7.alloc _ = w8
  have F8 := Lib.hid (F7.out.skip hW)
  clear hW F7
  go_wp2_with fail
  obtain ⟨a1, a2⟩ := n_write c n kw m g HN0.out x 0 1
  have HW := write_is F8.out.cache ad HSD.out x 0 1
  rw [a1, a2] at HW
  refine HW.mono ?_
  clear HW
  rintro r w9 ⟨rfl, hA, hk⟩
  have F9 := Lib.hid (F8.out.step hA hk)
  clear hA hk F8
  clear a1 a2
  have he := fun w : World => eqMsg_same ⟨11, c, x, 0, 0, 0, 0, 0, 0, 0, 0, 0, false⟩ w
  simp only [Mg.val] at he
  obtain ⟨r0, r1, r2, r3, r4, r5, r6, r7, r8, r9, r10, r11, r12⟩ := msg_cells (F9.out.at 0 rfl)
  obtain ⟨e0, e1, -, -, -, -, -, -, -, -⟩ := box_cells (F9.out.at 1 rfl)
  go_wp2_with fail
  clear he r0 r1 r2 r3 r4 r5 r6 r7 r8 r9 r10 r11 r12 e0 e1
  refine (entries_is F9.out.cache).mono ?_
  rintro r wE ⟨v', rfl, hr, hb⟩
  obtain ⟨AE, cE, rfl⟩ := hr.none (n_used c n kw m g HN.out HW.out)
  have FE := Lib.hid (F9.out.below hb)
  clear hr hb F9
  go_wp2_with fail
  refine (misses_is FE.out.cache).mono ?_
  rintro r wM ⟨v', rfl, hr, -, hb⟩
  obtain ⟨AM, cM, rfl⟩ := hr.none rfl
  have FM := Lib.hid (FE.out.below hb)
  clear hr hb FE
  go_wp2_with fail
  refine (cacheRuns_is wM ad (HSD.out.of_below FM.out.based)).mono ?_
  rintro r wz ⟨rfl, hb⟩
  have HZ := Lib.hid (HB2.out.trans ((FM.out.based.trans (hb.mono FM.out.based.size)).mono HB2.out.size))
  clear hb FM
  go_wp2
  go_ret
  exact ⟨rfl, HZ.out⟩
end Go.Proofs.YtfaihaknibmcpaaGreatDoor
