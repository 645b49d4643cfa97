/- What assentkeep's Config makes of any configuration. -/
import Derived.Test.YtfaihaknibmcpaaGreatDoorNew
import Derived.Test.YtfaihaknibmcpaaGreatDoorBase
import Derived.StillTailTactics
namespace Go.Proofs.YtfaihaknibmcpaaGreatDoor
open Go.RowKit Go.Extern.Stop Go.Stop Go.Extern

theorem cfg_one (c : Cfg) : ∀ v ∈ c.cells, v.oneCell' = true := by
  intro v hv
  simp only [Cfg.cells, List.mem_cons, List.not_mem_nil, or_false] at hv
  rcases hv with rfl | rfl | rfl | rfl | rfl | rfl | rfl | rfl | rfl <;> rfl
theorem Tryz.sizeCfg : (Tryz.prog.info? 29).map (·.size) = some 9 := by kernel_rfl
theorem ret_cfg {fn : Func} {p : Tmp} (h : fn.results = #[.cell p 29]) (tmps : Array Value) (w : World) (g : Nat) (cs : Array Value) (hp : tmps.getD p undef = .pointer (some ⟨g, 0, none⟩)) (hg : w.heap[g]? = some (.cells cs 29 (0, 0))) (hs : cs.size = 9) :
    (results fn tmps).run Tryz.prog w = .ok (.agg cs) w :=
  results_cell_row h tmps w g 29 cs (0, 0) _ hp hg Tryz.underlying29 rfl (by rw [hs]; exact Tryz.sizeCfg)
set_option maxRecDepth 100000 in
set_option maxHeartbeats 8000000 in
theorem config_in (cores lines sets ways mshrs buffer pool high low o l m b p z : Int) (s k : Int) (hs : s = 0 ∨ s = 1) (hk : k = 0 ∨ k = 1)
    (H1 : ∀ w, Calls Tryz.prog 10 #[.int .i64 cores, .int .i64 1, .int .i64 4] w fun e w' => e = .returned (.int .i64 o) ∧ w' = w)
    (H2 : ∀ w, Calls Tryz.prog 10 #[.int .i64 lines, .int .i64 1, .int .i64 6] w fun e w' => e = .returned (.int .i64 l) ∧ w' = w)
    (H3 : ∀ w, Calls Tryz.prog 10 #[.int .i64 sets, .int .i64 0, .int .i64 1] w fun e w' => e = .returned (.int .i64 s) ∧ w' = w)
    (H4 : ∀ w, Calls Tryz.prog 10 #[.int .i64 ways, .int .i64 0, .int .i64 1] w fun e w' => e = .returned (.int .i64 k) ∧ w' = w)
    (H5 : ∀ w, Calls Tryz.prog 10 #[.int .i64 mshrs, .int .i64 1, .int .i64 3] w fun e w' => e = .returned (.int .i64 m) ∧ w' = w)
    (H6 : ∀ w, Calls Tryz.prog 10 #[.int .i64 buffer, .int .i64 1, .int .i64 3] w fun e w' => e = .returned (.int .i64 b) ∧ w' = w)
    (H7 : ∀ w, Calls Tryz.prog 10 #[.int .i64 pool, .int .i64 1, .int .i64 4] w fun e w' => e = .returned (.int .i64 p) ∧ w' = w)
    (H8 : ∀ w, Calls Tryz.prog 10 #[.int .i64 low, .int .i64 (-1), .int .i64 1] w fun e w' => e = .returned (.int .i64 z) ∧ w' = w)
    (w : World) : Calls Tryz.prog 48 #[Cfg.val ⟨cores, lines, sets, ways, mshrs, buffer, pool, high, low⟩] w fun e w' => e = .returned (Cfg.val ⟨o, l, 1 + s, 1 + k, m, b, p, 2, z⟩) ∧ Below w.heap.size w w' := by
  have h1 := Lib.hid H1
  have h2 := Lib.hid H2
  have h3 := Lib.hid H3
  have h4 := Lib.hid H4
  have h5 := Lib.hid H5
  have h6 := Lib.hid H6
  have h7 := Lib.hid H7
  have h8 := Lib.hid H8
  clear H1 H2 H3 H4 H5 H6 H7 H8
  simp only [Cfg.val]
  go_enter Tryz.func48, Tryz.ntmps48
  go_upto_region 1 with fail
  generalize hW : w.alloc _ = wa
  have hB0 : Below w.heap.size w wa := by rw [← hW]; exact (Below.refl _ _).alloc (Nat.le_refl _) _
  have hbox : wa.heap[w.heap.size]? = some (.cells (Cfg.cells ⟨cores, lines, sets, ways, mshrs, buffer, pool, high, low⟩).toArray 29 (0, 0)) := by rw [← hW]; exact heap_alloc_new _ _
  have hs1 : w.heap.size + 1 = wa.heap.size := by rw [← hW]; simp
  simp only [hs1]
  have hlt : w.heap.size < wa.heap.size := lt_of_heap hbox
  generalize hW2 : wa.alloc _ = wb
  have hnew : wb.heap[wa.heap.size]? = some (.cells #[.int .i64 0, .int .i64 0, .int .i64 0, .int .i64 0, .int .i64 0, .int .i64 0, .int .i64 0, .int .i64 0, .int .i64 0] 29 (0, 0)) := by rw [← hW2]; exact heap_alloc_new _ _
  have hbox2 : wb.heap[w.heap.size]? = some (.cells (Cfg.cells ⟨cores, lines, sets, ways, mshrs, buffer, pool, high, low⟩).toArray 29 (0, 0)) := by rw [← hW2, ((Below.refl wa.heap.size wa).alloc (Nat.le_refl _) _).block _ hlt]; exact hbox
  have hB1 : Below w.heap.size w wb := by rw [← hW2]; exact hB0.alloc hB0.size _
  obtain ⟨m0, m1, m2, m3, m4, m5, m6, m7, m8⟩ := cfg_cells hbox2
  have HB := Lib.hid hB1
  have HNW := Lib.hid hnew
  have HLT := Lib.hid hlt
  clear hbox hbox2 hW hW2 hB0 hs1 hB1 hnew hlt
  generalize hg : w.heap.size = g at *
  generalize hg2 : wa.heap.size = g2 at *
  have HG := Lib.hid hg
  clear hg hg2
  rcases hs with rfl | rfl
  all_goals rcases hk with rfl | rfl
  all_goals
    refine wp_region_still_tail 27 (by kernel_rfl) (by kernel_rfl) ?_
    simp only [List.take_succ_cons, List.take_zero, List.drop_succ_cons, List.drop_zero]
    still_step
    still_step
    still_call h1.out _
    still_step
    still_step
    still_call h2.out _
    still_step
    still_step
    still_call h3.out _
    still_step
    still_step
    still_step
    still_call h4.out _
    still_step
    still_step
    still_step
    still_call h5.out _
    still_step
    still_step
    still_call h6.out _
    still_step
    still_step
    still_call h7.out _
    still_step
    still_step
    still_call h8.out _
    still_step
    refine wpStill_nil ?_
    change wpList _ _ _ _ _ wb.drew
    have HB2 : Hid (Below g w wb.drew) := HB.out.drew
    have hres : wb.drew.heap[g2]? = some (.cells #[.int .i64 0, .int .i64 0, .int .i64 0, .int .i64 0, .int .i64 0, .int .i64 0, .int .i64 0, .int .i64 0, .int .i64 0] 29 (0, 0)) := HNW.out
    clear m0 m1 m2 m3 m4 m5 m6 m7 m8 h1 h2 h3 h4 h5 h6 h7 h8 HNW HB
    generalize wb.drew = wd at *
  · have HONE := Lib.hid (all_oneCell_toArray (cfg_one ⟨o, l, 1 + 0, 1 + 0, m, b, p, 2, z⟩))
    go_wp2_with (refine wpList_store_row rfl 29 (.tmp 2) (.tmp 29) rfl g2 (Cfg.cells ⟨o, l, 1 + 0, 1 + 0, m, b, p, 2, z⟩).toArray rfl rfl 29 _ hres Tryz.sizeCfg rfl HONE.out ?_)
    have hB3 : Below g w (wd.setRow g2 (Cfg.cells ⟨o, l, 1 + 0, 1 + 0, m, b, p, 2, z⟩).toArray) := below_setRow HB2.out (Nat.le_of_lt HLT.out) _
    refine ⟨rfl, _, ret_cfg Tryz.results48 _ _ g2 _ rfl (heap_setRow hres _) rfl, rfl, ?_⟩
    rw [HG.out]
    exact hB3
  · have HONE := Lib.hid (all_oneCell_toArray (cfg_one ⟨o, l, 1 + 0, 1 + 1, m, b, p, 2, z⟩))
    go_wp2_with (refine wpList_store_row rfl 29 (.tmp 2) (.tmp 29) rfl g2 (Cfg.cells ⟨o, l, 1 + 0, 1 + 1, m, b, p, 2, z⟩).toArray rfl rfl 29 _ hres Tryz.sizeCfg rfl HONE.out ?_)
    have hB3 : Below g w (wd.setRow g2 (Cfg.cells ⟨o, l, 1 + 0, 1 + 1, m, b, p, 2, z⟩).toArray) := below_setRow HB2.out (Nat.le_of_lt HLT.out) _
    refine ⟨rfl, _, ret_cfg Tryz.results48 _ _ g2 _ rfl (heap_setRow hres _) rfl, rfl, ?_⟩
    rw [HG.out]
    exact hB3
  · have HONE := Lib.hid (all_oneCell_toArray (cfg_one ⟨o, l, 1 + 1, 1 + 0, m, b, p, 2, z⟩))
    go_wp2_with (refine wpList_store_row rfl 29 (.tmp 2) (.tmp 29) rfl g2 (Cfg.cells ⟨o, l, 1 + 1, 1 + 0, m, b, p, 2, z⟩).toArray rfl rfl 29 _ hres Tryz.sizeCfg rfl HONE.out ?_)
    have hB3 : Below g w (wd.setRow g2 (Cfg.cells ⟨o, l, 1 + 1, 1 + 0, m, b, p, 2, z⟩).toArray) := below_setRow HB2.out (Nat.le_of_lt HLT.out) _
    refine ⟨rfl, _, ret_cfg Tryz.results48 _ _ g2 _ rfl (heap_setRow hres _) rfl, rfl, ?_⟩
    rw [HG.out]
    exact hB3
  · have HONE := Lib.hid (all_oneCell_toArray (cfg_one ⟨o, l, 1 + 1, 1 + 1, m, b, p, 2, z⟩))
    go_wp2_with (refine wpList_store_row rfl 29 (.tmp 2) (.tmp 29) rfl g2 (Cfg.cells ⟨o, l, 1 + 1, 1 + 1, m, b, p, 2, z⟩).toArray rfl rfl 29 _ hres Tryz.sizeCfg rfl HONE.out ?_)
    have hB3 : Below g w (wd.setRow g2 (Cfg.cells ⟨o, l, 1 + 1, 1 + 1, m, b, p, 2, z⟩).toArray) := below_setRow HB2.out (Nat.le_of_lt HLT.out) _
    refine ⟨rfl, _, ret_cfg Tryz.results48 _ _ g2 _ rfl (heap_setRow hres _) rfl, rfl, ?_⟩
    rw [HG.out]
    exact hB3
/-- A small configuration: it may be, and no part is more than four. -/
theorem config_is (c : Cfg) : ∃ c' : Cfg, ∃ n k m : Nat, ∃ o : Int, badAt c' = none ∧ c'.sets = (n : Nat) ∧ c'.ways = (k : Nat) ∧ c'.mshrs = (m : Nat) ∧ c'.cores = o ∧ 1 ≤ o ∧ o ≤ 4 ∧ (n = 1 ∨ n = 2) ∧ (k = 1 ∨ k = 2) ∧ ∀ w, Calls Tryz.prog 48 #[c.val] w fun e w' => e = .returned c'.val ∧ Below w.heap.size w w' := by
  obtain ⟨cores, lines, sets, ways, mshrs, buffer, pool, high, low⟩ := c
  have a1 := inOf_le (n := cores) (lo := 1) (hi := 4) (by omega)
  have a2 := inOf_le (n := lines) (lo := 1) (hi := 6) (by omega)
  have a3 := inOf_le (n := sets) (lo := 0) (hi := 1) (by omega)
  have a4 := inOf_le (n := ways) (lo := 0) (hi := 1) (by omega)
  have a5 := inOf_le (n := mshrs) (lo := 1) (hi := 3) (by omega)
  have a6 := inOf_le (n := buffer) (lo := 1) (hi := 3) (by omega)
  have a7 := inOf_le (n := pool) (lo := 1) (hi := 4) (by omega)
  have a8 := inOf_le (n := low) (lo := -1) (hi := 1) (by omega)
  have hs : inOf sets 0 1 = 0 ∨ inOf sets 0 1 = 1 := by omega
  have hk : inOf ways 0 1 = 0 ∨ inOf ways 0 1 = 1 := by omega
  have H := config_in cores lines sets ways mshrs buffer pool high low _ _ _ _ _ _ _ _ hs hk (fun w => within_same cores 1 4 w (by omega) (by omega) (by omega)) (fun w => within_same lines 1 6 w (by omega) (by omega) (by omega)) (fun w => within_same sets 0 1 w (by omega) (by omega) (by omega)) (fun w => within_same ways 0 1 w (by omega) (by omega) (by omega)) (fun w => within_same mshrs 1 3 w (by omega) (by omega) (by omega)) (fun w => within_same buffer 1 3 w (by omega) (by omega) (by omega)) (fun w => within_same pool 1 4 w (by omega) (by omega) (by omega)) (fun w => within_same low (-1) 1 w (by omega) (by omega) (by omega))
  refine ⟨_, (1 + inOf sets 0 1).toNat, (1 + inOf ways 0 1).toNat, (inOf mshrs 1 3).toNat, inOf cores 1 4, ?_, ?_, ?_, ?_, ?_, a1.1, a1.2, by omega, by omega, H⟩
  · refine badAt_none (l := okL _) fun j hj => ?_
    have b1 : inB (inOf cores 1 4) 1 64 = true := by simp [inB]; omega
    have b2 : inB (inOf lines 1 6) 1 32 = true := by simp [inB]; omega
    have b3 : isPow (1 + inOf sets 0 1) = true := by rcases hs with h | h <;> rw [h] <;> rfl
    have b4 : isPow (1 + inOf ways 0 1) = true := by rcases hk with h | h <;> rw [h] <;> rfl
    have b5 : inB (inOf mshrs 1 3) 1 8 = true := by simp [inB]; omega
    have b6 : inB (inOf buffer 1 3) 1 8 = true := by simp [inB]; omega
    have b7 : inB (inOf pool 1 4) 1 64 = true := by simp [inB]; omega
    have b9 : (decide (-1 ≤ inOf low (-1) 1) && decide (inOf low (-1) 1 < 2)) = true := by simp; omega
    have hj : j < 9 := hj
    simp only [okL, b1, b2, b3, b4, b5, b6, b7, b9]
    obtain rfl | rfl | rfl | rfl | rfl | rfl | rfl | rfl | rfl : j = 0 ∨ j = 1 ∨ j = 2 ∨ j = 3 ∨ j = 4 ∨ j = 5 ∨ j = 6 ∨ j = 7 ∨ j = 8 := by omega
    all_goals rfl
  · show 1 + inOf sets 0 1 = _
    omega
  · show 1 + inOf ways 0 1 = _
    omega
  · show inOf mshrs 1 3 = _
    omega
  · rfl
end Go.Proofs.YtfaihaknibmcpaaGreatDoor
