/- geom.Check: a configuration, looked at. A cache: New, where the configuration may be. The law's own data. -/
import Derived.Test.YtfaihaknibmcpaaGreatDoorTot
import Derived.Test.YtfaihaknibmcpaaGreatDoorEqMsg
import Derived.StillTailTactics
import Derived.Test.YtfaihaknibmcpaaGreatDoorFrame
namespace Go.Proofs.YtfaihaknibmcpaaGreatDoor
open Go.RowKit Go.Extern.Stop Go.Stop Go.Extern

structure Cfg where
  cores : Int
  lines : Int
  sets : Int
  ways : Int
  mshrs : Int
  buffer : Int
  pool : Int
  high : Int
  low : Int
def Cfg.cells (c : Cfg) : List Value := [.int .i64 c.cores, .int .i64 c.lines, .int .i64 c.sets, .int .i64 c.ways, .int .i64 c.mshrs, .int .i64 c.buffer, .int .i64 c.pool, .int .i64 c.high, .int .i64 c.low]
def Cfg.val (c : Cfg) : Value := .agg #[.int .i64 c.cores, .int .i64 c.lines, .int .i64 c.sets, .int .i64 c.ways, .int .i64 c.mshrs, .int .i64 c.buffer, .int .i64 c.pool, .int .i64 c.high, .int .i64 c.low]
theorem cfg_cells {w : World} {g : Nat} {c : Cfg} (h : w.heap[g]? = some (.cells c.cells.toArray 29 (0, 0))) :
    w.cell? ⟨g, 0, none⟩ = some (.int .i64 c.cores) ∧ w.cell? ⟨g, 1, none⟩ = some (.int .i64 c.lines) ∧ w.cell? ⟨g, 2, none⟩ = some (.int .i64 c.sets) ∧ w.cell? ⟨g, 3, none⟩ = some (.int .i64 c.ways) ∧ w.cell? ⟨g, 4, none⟩ = some (.int .i64 c.mshrs) ∧ w.cell? ⟨g, 5, none⟩ = some (.int .i64 c.buffer) ∧ w.cell? ⟨g, 6, none⟩ = some (.int .i64 c.pool) ∧ w.cell? ⟨g, 7, none⟩ = some (.int .i64 c.high) ∧ w.cell? ⟨g, 8, none⟩ = some (.int .i64 c.low) := by
  simp [World.cell?, h, Cfg.cells]
def okL (c : Cfg) : List Bool := [inB c.cores 1 64, inB c.lines 1 32, isPow c.sets, isPow c.ways, inB c.mshrs 1 8, inB c.buffer 1 8, inB c.pool 1 64, inB c.high 1 15, decide (-1 ≤ c.low) && decide (c.low < c.high)]
def opCheck : ByteArray := ⟨#[103, 101, 111, 109, 46, 67, 104, 101, 99, 107]⟩
/-- The first that can't be. -/
def badAt (c : Cfg) : Option Nat := (okL c).findIdx? (fun b => !b)
def checkErr (ad : Nat → Addr) (c : Cfg) : Value := match badAt c with
  | none => .nilIface
  | some i => faultV opCheck (i : Nat) (ad 1)
theorem badAt_some {l : List Bool} {i : Nat} (h1 : ∀ j, j < i → l[j]? = some true) (h2 : l[i]? = some false) : l.findIdx? (fun b => !b) = some i := by
  rw [List.findIdx?_eq_some_iff_getElem]
  obtain ⟨h3, h4⟩ := List.getElem?_eq_some_iff.1 h2
  refine ⟨h3, by simp [h4], fun j hj => ?_⟩
  obtain ⟨h5, h6⟩ := List.getElem?_eq_some_iff.1 (h1 j hj)
  simp [h6]
theorem badAt_none {l : List Bool} (h1 : ∀ j, j < l.length → l[j]? = some true) : l.findIdx? (fun b => !b) = none := by
  rw [List.findIdx?_eq_none_iff]
  intro b hb
  obtain ⟨j, hj, rfl⟩ := List.getElem_of_mem hb
  obtain ⟨h5, h6⟩ := List.getElem?_eq_some_iff.1 (h1 j hj)
  simp [h6]
set_option maxRecDepth 100000 in
theorem gwithin_is (n lo hi : Int) (w : World) : Calls Tryz.prog 77 #[.int .i64 n, .int .i64 lo, .int .i64 hi] w fun e w' => e = .returned (.bool (inB n lo hi)) ∧ w' = w := by
  unfold inB
  by_cases h1 : lo ≤ n
  · by_cases h2 : n ≤ hi
    · rw [decide_eq_true h1, decide_eq_true h2]
      go_enter Tryz.func77, Tryz.ntmps77
      go_wp2
      go_ret
      exact ⟨rfl, rfl⟩
    · rw [decide_eq_true h1, decide_eq_false h2]
      go_enter Tryz.func77, Tryz.ntmps77
      go_wp2
      go_ret
      exact ⟨rfl, rfl⟩
  · rw [decide_eq_false h1]
    go_enter Tryz.func77, Tryz.ntmps77
    go_wp2
    go_ret
    exact ⟨rfl, rfl⟩
set_option maxRecDepth 100000 in
set_option maxHeartbeats 4000000 in
theorem check_is (c : Cfg) (l1 : -1 ≤ c.low) (w : World) (ad : Nat → Addr) (HSE : Sents w ad) :
    Calls Tryz.prog 33 #[c.val] w fun e w' => e = .returned (checkErr ad c) ∧ Below w.heap.size w w' := by
  have HS := Lib.hid HSE
  clear HSE
  have HE : Hid (checkErr ad c = match (okL c).findIdx? (fun b => !b) with | none => .nilIface | some i => faultV opCheck (i : Nat) (ad 1)) := rfl
  have HL : Hid (okL c = [inB c.cores 1 64, inB c.lines 1 32, isPow c.sets, isPow c.ways, inB c.mshrs 1 8, inB c.buffer 1 8, inB c.pool 1 64, inB c.high 1 15, decide (-1 ≤ c.low) && decide (c.low < c.high)]) := rfl
  generalize checkErr ad c = er at *
  generalize okL c = ol at *
  obtain ⟨cores, lines, sets, ways, mshrs, buffer, pool, high, low⟩ := c
  simp only [Cfg.val] at *
  have HLO : Hid ((decide (-1 ≤ low) && decide (low < high)) = (decide (-1 ≤ low) && decide (low < high))) := rfl
  generalize hb8 : (decide (-1 ≤ low) && decide (low < high)) = b8 at HL HLO
  clear HLO
  have HB8 := Lib.hid hb8
  clear hb8
  go_enter Tryz.func33, Tryz.ntmps33
  go_upto_region 1 with fail
  generalize hW : w.alloc _ = wa
  have HB0 : Hid (Below w.heap.size w wa) := by rw [← hW]; exact (Below.refl _ _).alloc (Nat.le_refl _) _
  have hbox : wa.heap[w.heap.size]? = some (.cells (Cfg.cells ⟨cores, lines, sets, ways, mshrs, buffer, pool, high, low⟩).toArray 29 (0, 0)) := by rw [← hW]; exact heap_alloc_new _ _
  obtain ⟨m0, m1, m2, m3, m4, m5, m6, m7, m8⟩ := cfg_cells hbox
  clear hW hbox
  have HSZ := Lib.hid (HB0.out.size)
  have HS2 : Hid (∀ w', Below w.heap.size w w' → Sents w' ad) := fun w' hb => HS.out.of_below hb
  generalize hg : w.heap.size = g at *
  have HG := Lib.hid hg
  clear hg
  go_cut [39, 40, 41] (fun u39 u40 u41 wx => ∃ gb : Nat, u39 = .slice (some ⟨gb, 0, none⟩) 9 9 ∧ u40 = .int .i64 9 ∧ u41 = .int .i64 0 ∧ Hid (wx.heap[gb]? = some (.cells #[.bool (inB cores 1 64), .bool (inB lines 1 32), .bool (isPow sets), .bool (isPow ways), .bool (inB mshrs 1 8), .bool (inB buffer 1 8), .bool (inB pool 1 64), .bool (inB high 1 15), .bool b8] 4 (0, 0))) ∧ Hid (Below g w wx))
  case first =>
    clear HE HL
    by_cases l2 : low < high
    · have e : b8 = true := by rw [← HB8.out]; simp [l1, l2]
      subst e
      clear HB8
      first
        | (go_region_held3 (fun w' => w'.cell? ⟨g, 0, none⟩ = some (.int .i64 cores) ∧ w'.cell? ⟨g, 1, none⟩ = some (.int .i64 lines) ∧ w'.cell? ⟨g, 2, none⟩ = some (.int .i64 sets) ∧ w'.cell? ⟨g, 3, none⟩ = some (.int .i64 ways) ∧ w'.cell? ⟨g, 4, none⟩ = some (.int .i64 mshrs) ∧ w'.cell? ⟨g, 5, none⟩ = some (.int .i64 buffer) ∧ w'.cell? ⟨g, 6, none⟩ = some (.int .i64 pool) ∧ w'.cell? ⟨g, 7, none⟩ = some (.int .i64 high) ∧ w'.cell? ⟨g, 8, none⟩ = some (.int .i64 low)) (go_keep) (first | (go_at_call 77; refine (gwithin_is _ _ _ _).mono ?_; rintro r w3 ⟨rfl, rfl⟩) | (go_at_call 78; refine (power_is _ _).mono ?_; rintro r w3 ⟨rfl, rfl⟩)))
        | fail
      go_wp2_with fail
      go_meet
      exact ⟨wa.heap.size, rfl, rfl, rfl, heap_alloc_new _ _, (HB0.out.drew).alloc (by rw [← HG.out]; exact HB0.out.drew.size) _⟩
    · have e : b8 = false := by rw [← HB8.out]; simp [l2]
      have d : decide (low < high) = false := by simpa using l2
      subst e
      clear HB8
      first
        | (go_region_held3 (fun w' => w'.cell? ⟨g, 0, none⟩ = some (.int .i64 cores) ∧ w'.cell? ⟨g, 1, none⟩ = some (.int .i64 lines) ∧ w'.cell? ⟨g, 2, none⟩ = some (.int .i64 sets) ∧ w'.cell? ⟨g, 3, none⟩ = some (.int .i64 ways) ∧ w'.cell? ⟨g, 4, none⟩ = some (.int .i64 mshrs) ∧ w'.cell? ⟨g, 5, none⟩ = some (.int .i64 buffer) ∧ w'.cell? ⟨g, 6, none⟩ = some (.int .i64 pool) ∧ w'.cell? ⟨g, 7, none⟩ = some (.int .i64 high) ∧ w'.cell? ⟨g, 8, none⟩ = some (.int .i64 low)) (go_keep) (first | (go_at_call 77; refine (gwithin_is _ _ _ _).mono ?_; rintro r w3 ⟨rfl, rfl⟩) | (go_at_call 78; refine (power_is _ _).mono ?_; rintro r w3 ⟨rfl, rfl⟩)))
        | fail
      go_wp2_with fail
      go_meet
      exact ⟨wa.heap.size, rfl, rfl, rfl, heap_alloc_new _ _, (HB0.out.drew).alloc (by rw [← HG.out]; exact HB0.out.drew.size) _⟩
  case rest =>
    obtain ⟨gb, rfl, rfl, rfl, HBX, HB1⟩ := hcut
    have HBX : Hid _ := HBX
    have HB1 : Hid _ := HB1
    clear HB8 m0 m1 m2 m3 m4 m5 m6 m7 m8 HB0
    have HLL : Hid (ol.length = 9) := by show _ = _; rw [HL.out]; rfl
    have HCL : Hid (∀ j b, ol[j]? = some b → wc.cell? ⟨gb, j, none⟩ = some (.bool b)) := by
      intro j b hj
      have h9 : j < 9 := by have := (List.getElem?_eq_some_iff.1 hj).1; rw [HLL.out] at this; exact this
      rw [HL.out] at hj
      have hb := HBX.out
      obtain rfl | rfl | rfl | rfl | rfl | rfl | rfl | rfl | rfl : j = 0 ∨ j = 1 ∨ j = 2 ∨ j = 3 ∨ j = 4 ∨ j = 5 ∨ j = 6 ∨ j = 7 ∨ j = 8 := by omega
      all_goals
        simp only [List.getElem?_cons_zero, List.getElem?_cons_succ, Option.some.injEq] at hj
        subst hj
        simp [World.cell?, hb]
    have HS3 := Lib.hid (HS2.out _ HB1.out)
    go_wp2_with fail
    go_loopw [41] (fun v wr => ∃ i : Nat, i ≤ 9 ∧ v = .int .i64 i ∧ Hid (∀ j, j < i → ol[j]? = some true) ∧ wr = wc) (fun v _ => 9 - (intOf v).toNat)
    case atStart => exact ⟨0, by omega, rfl, fun j hj => by omega, by first | rfl | trivial⟩
    case round =>
      obtain ⟨i, hi, rfl, HA, rfl⟩ := hrel
      by_cases hlt : i < 9
      · obtain ⟨b, hb⟩ : ∃ b, ol[i]? = some b := ⟨_, List.getElem?_eq_getElem (by rw [HLL.out]; exact hlt)⟩
        have hcell := HCL.out i b hb
        have HBI := Lib.hid hb
        clear hb
        cases b with
        | true =>
          have HA2 : Hid (∀ j, j < i + 1 → ol[j]? = some true) := fun j hj => by
            by_cases e : j = i
            · rw [e]; exact HBI.out
            · exact HA.out j (by omega)
          go_wp2_with fail
          go_roundw
          case rel => exact ⟨i + 1, by omega, by go_num, HA2, by first | rfl | trivial⟩
          case measure => simp [intOf]; omega
        | false =>
          have hr : er = faultV opCheck (i : Nat) (ad 1) := by rw [HE.out, badAt_some HA.out HBI.out]
          subst hr
          have s1 := HS3.out.c1
          clear HE
          go_wp2_with fail
          refine (wrap_some _ (i : Nat) _ _ _).mono ?_
          rintro r w5 ⟨rfl, hb⟩
          have HB2 : Hid (Below w.heap.size w w5) := by rw [HG.out]; exact HB1.out.trans (hb.mono (by have := HB1.out.size; rw [HG.out] at this; exact this))
          clear hb s1
          go_wp2_with fail
          go_ret
          exact ⟨rfl, HB2.out⟩
      · obtain rfl : i = 9 := by omega
        have hr : er = .nilIface := by rw [HE.out, badAt_none (by rw [HLL.out]; exact HA.out)]
        subst hr
        clear HE
        go_wp2_with fail
        go_ret
        exact ⟨rfl, by rw [HG.out]; exact HB1.out⟩
end Go.Proofs.YtfaihaknibmcpaaGreatDoor
namespace Go.Proofs.YtfaihaknibmcpaaGreatDoor
open Go.RowKit Go.Extern.Stop Go.Stop Go.Extern

theorem Arr.from {w0 w1 w : World} {a gs k : Nat} {gl : List Nat} {S : List SetSt} (h : Arr w1 w a gs k gl S) (hb : Below w0.heap.size w0 w1) : Arr w0 w a gs k gl S :=
  ⟨⟨h.arr.box, h.arr.sets, h.arr.ways, h.arr.len, h.arr.ne, h.arr.apart, ⟨Nat.le_trans hb.size h.arr.above.1, Nat.le_trans hb.size h.arr.above.2.1, fun s hs => Nat.le_trans hb.size (h.arr.above.2.2 s hs)⟩, h.arr.many⟩, hb.trans (h.base.mono hb.size), h.gl, h.bits⟩
theorem OwnT.before {w0 w1 w : World} {t most : Nat} {l : List (Int × Int)} (h : OwnT w1 w t most l) (hb : Below w0.heap.size w0 w1) (G : Nat → Prop) (hG : ∀ k, G k → k < w1.heap.size) : OwnG G w0 w t most l := by
  obtain ⟨v, h⟩ := h
  refine ⟨v, ⟨h.tab, hb.trans (h.base.mono hb.size), Nat.le_trans hb.size h.ht, fun k hk => Nat.le_trans hb.size (h.hv k hk)⟩, fun k hk => ?_⟩
  have h1 := hG k hk
  have h2 := h.ht
  have h3 := h.base.size
  refine ⟨by omega, fun e => ?_, by omega⟩
  have := h.hv k e
  omega
theorem badAt_all {c : Cfg} (h : badAt c = none) : ∀ b ∈ okL c, b = true := by
  intro b hb
  have := (List.findIdx?_eq_none_iff.1 h) b hb
  simpa using this
theorem badAt_low {c : Cfg} (h : badAt c = none) : -1 ≤ c.low := by
  have := badAt_all h (decide (-1 ≤ c.low) && decide (c.low < c.high)) (by simp [okL])
  simp at this
  exact this.1
theorem checkErr_ok {ad : Nat → Addr} {c : Cfg} (h : badAt c = none) : checkErr ad c = .nilIface := by unfold checkErr; rw [h]
set_option maxRecDepth 100000 in
set_option maxHeartbeats 4000000 in
theorem new_ok (c : Cfg) (core : Int) (n k m : Nat) (hbad : badAt c = none) (hs : c.sets = (n : Nat)) (hk : c.ways = (k : Nat)) (hm : c.mshrs = (m : Nat)) (h0 : 0 ≤ core) (h1 : core < c.cores) (w : World) (ad : Nat → Addr) (HSE : Sents w ad) :
    Calls Tryz.prog 11 #[c.val, .int .i64 core] w fun e w' => ∃ A g, e = .returned (.tuple #[.pointer (some ⟨A.c, 0, none⟩), .nilIface]) ∧ CacheAt (fun _ => False) w w' A ⟨core, n, k, m, newSets g k n, []⟩ := by
  have HCK : Hid (∀ w', Below w.heap.size w w' → _) := fun w' hb => check_is c (badAt_low hbad) w' ad (HSE.of_below hb)
  rw [checkErr_ok hbad] at HCK
  have hall := badAt_all hbad
  have pn := hall (isPow c.sets) (by simp [okL])
  have pk := hall (isPow c.ways) (by simp [okL])
  have pm := hall (inB c.mshrs 1 8) (by simp [okL])
  rw [hs] at pn
  rw [hk] at pk
  rw [hm] at pm
  simp [inB] at pm
  have m1 : 1 ≤ m := by omega
  have m8 : m ≤ 8 := by omega
  obtain ⟨cores, lines, sets, ways, mshrs, buffer, pool, high, low⟩ := c
  simp only at hs hk hm h1
  subst hs hk hm
  have HPN := Lib.hid pn
  have HPK := Lib.hid pk
  have HM1 := Lib.hid m1
  have HM8 := Lib.hid m8
  clear hbad hall pn pk pm HSE m1 m8
  simp only [Cfg.val] at *
  go_enter Tryz.func11, Tryz.ntmps11
  have HB1 : Hid (∀ o, Below w.heap.size w (w.alloc o)) := fun o => (Below.refl _ _).alloc (Nat.le_refl _) o
  go_upto_region 1 with fail
  generalize hW : w.alloc _ = wa
  have HBA : Hid (Below w.heap.size w wa) := by rw [← hW]; exact HB1.out _
  have hbox : wa.heap[w.heap.size]? = some (.cells (Cfg.cells ⟨cores, lines, (n : Nat), (k : Nat), (m : Nat), buffer, pool, high, low⟩).toArray 29 (0, 0)) := by rw [← hW]; exact heap_alloc_new _ _
  have HBX : Hid (∀ w', Below wa.heap.size wa w' → w'.heap[w.heap.size]? = some (.cells (Cfg.cells ⟨cores, lines, (n : Nat), (k : Nat), (m : Nat), buffer, pool, high, low⟩).toArray 29 (0, 0))) := fun w' hb => (hb.block _ (lt_of_heap hbox)).trans hbox
  obtain ⟨m0, m1, m2, m3, m4, m5, m6, m7, m8⟩ := cfg_cells hbox
  have HSZ : Hid (w.heap.size < wa.heap.size) := lt_of_heap hbox
  clear hW HB1 hbox
  generalize hgg : w.heap.size = g0 at HBX m0 m1 m2 m3 m4 m5 m6 m7 m8 ⊢
  have HG0 := Lib.hid hgg
  clear hgg
  go_wp2_with fail
  refine (HCK.out _ HBA.out).mono ?_
  rintro r w1 ⟨rfl, hb⟩
  have HB2 := Lib.hid hb
  obtain ⟨m0, m1, m2, m3, m4, m5, m6, m7, m8⟩ := cfg_cells (HBX.out _ hb)
  clear hb HCK
  go_upto_region 7 with fail
  generalize hW : w1.alloc _ = w2
  have HB3 : Hid (Below wa.heap.size wa w2) := by rw [← hW]; exact HB2.out.alloc HB2.out.size _
  have HC1 : Hid (w2.heap[w1.heap.size]? = some (.cells #[.int .i64 core, .int .i64 (n : Nat), .pointer none, .pointer none] 80 (0, 0))) := by rw [← hW]; exact heap_alloc_new _ _
  have HZ1 : Hid (w.heap.size ≤ w1.heap.size) := Nat.le_trans HBA.out.size HB2.out.size
  have HB2' : Hid (wa.heap.size ≤ w1.heap.size) := HB2.out.size
  clear hW HB2
  obtain ⟨m0, m1, m2, m3, m4, m5, m6, m7, m8⟩ := cfg_cells (HBX.out _ HB3.out)
  have HC0 : Hid (wa.heap.size ≤ w1.heap.size) := HB2'.out
  generalize w1.heap.size = bc at *
  have HNW : Hid (∀ w', _) := fun w' => arr_new n k w' HPN.out HPK.out
  go_wp2_with fail
  refine (HNW.out w2).mono ?_
  rintro r w3 ⟨a, gs, g, gl, rfl, hA⟩
  have HA := Lib.hid hA
  have hc1 := (hA.base.block bc (lt_of_heap HC1.out)).trans HC1.out
  have hfz : ∀ c, w3.frozen? ⟨bc, c, none⟩ = false := fun c => nofreeze hc1
  have hc2 : w3.cell? ⟨bc, 2, none⟩ = some (.pointer none) := by simp [World.cell?, hc1]
  have HB4 : Hid (Below wa.heap.size wa w3) := HB3.out.trans (hA.base.mono HB3.out.size)
  have HC2 := Lib.hid hc1
  clear hA hc1 HNW
  go_upto_region 8 with fail
  have HC3 : Hid ((w3.setCell ⟨bc, 2, none⟩ (.pointer (some ⟨a, 0, none⟩))).heap[bc]? = some (.cells #[.int .i64 core, .int .i64 (n : Nat), .pointer (some ⟨a, 0, none⟩), .pointer none] 80 (0, 0))) := heap_setCell HC2.out _
  have HX : Hid (bc < w2.heap.size) := lt_of_heap HC1.out
  have hBW : Below w.heap.size w w2 := HBA.out.trans (HB3.out.mono HBA.out.size)
  have hne : bc ≠ a ∧ ¬ Mine gs gl bc := by
    have h1 := HA.out.arr.above
    have h2 := HX.out
    refine ⟨by omega, fun e => ?_⟩
    have := (HA.out.far bc e).1
    omega
  have HNE := Lib.hid hne
  have HA3 : Hid (Arr w (w3.setCell ⟨bc, 2, none⟩ (.pointer (some ⟨a, 0, none⟩))) a gs k gl (newSets g k n)) :=
    (HA.out.from hBW).aside ((Turned.refl (fun q => q = bc) w3).setCell (.inl rfl) _) fun q hq => by rw [hq]; exact ⟨hne.1, hne.2, HZ1.out⟩
  have HB5 : Hid (Below wa.heap.size wa (w3.setCell ⟨bc, 2, none⟩ (.pointer (some ⟨a, 0, none⟩)))) := HB4.out.trans (((Turned.refl (fun q => q = bc) w3).setCell (.inl rfl) _).below HB4.out.size fun q hq e => by have := HC0.out; omega)
  clear HA hfz hc2 HB4 HC2 HX hBW hne HC1 HB3
  generalize w3.setCell ⟨bc, 2, none⟩ (.pointer (some ⟨a, 0, none⟩)) = w4 at *
  obtain ⟨m0, m1, m2, m3, m4, m5, m6, m7, m8⟩ := cfg_cells (HBX.out _ HB5.out)
  have HOW : Hid (∀ w', _) := fun w' => own_new m w' HM1.out HM8.out
  go_wp2_with fail
  refine (HOW.out w4).mono ?_
  rintro r w5 ⟨rfl, hO⟩
  have hb := hO.base
  have hc1 := (hb.block bc (lt_of_heap HC3.out)).trans HC3.out
  have hfz : ∀ c, w5.frozen? ⟨bc, c, none⟩ = false := fun c => nofreeze hc1
  have hc2 : w5.cell? ⟨bc, 3, none⟩ = some (.pointer none) := by simp [World.cell?, hc1]
  have HC4 : Hid ((w5.setCell ⟨bc, 3, none⟩ (.pointer (some ⟨w4.heap.size, 0, none⟩))).heap[bc]? = some (.cells #[.int .i64 core, .int .i64 (n : Nat), .pointer (some ⟨a, 0, none⟩), .pointer (some ⟨w4.heap.size, 0, none⟩)] 80 (0, 0))) := heap_setCell hc1 _
  have HO : Hid (OwnG (fun q => Kept ⟨bc, a, gs, w4.heap.size, gl⟩ q ∨ False) w (w5.setCell ⟨bc, 3, none⟩ (.pointer (some ⟨w4.heap.size, 0, none⟩))) w4.heap.size m []) := by
    refine (hO.before (HBA.out.trans (HB5.out.mono HBA.out.size)) (fun q => Kept ⟨bc, a, gs, w4.heap.size, gl⟩ q ∨ False) fun q hq => ?_).aside ((Turned.refl (fun q => q = bc) w5).setCell (.inl rfl) _) fun q hq => by rw [hq]; exact ⟨.inl (.inl rfl), HZ1.out⟩
    rcases hq with (rfl | hq) | hq
    · exact lt_of_heap HC3.out
    · exact HA3.out.under q hq
    · exact hq.elim
  have HA5 : Hid (Arr w (w5.setCell ⟨bc, 3, none⟩ (.pointer (some ⟨w4.heap.size, 0, none⟩))) a gs k gl (newSets g k n)) :=
    (HA3.out.below hb).aside ((Turned.refl (fun q => q = bc) w5).setCell (.inl rfl) _) fun q hq => by rw [hq]; exact ⟨HNE.out.1, HNE.out.2, HZ1.out⟩
  have HC : Hid (CacheAt (fun _ => False) w (w5.setCell ⟨bc, 3, none⟩ (.pointer (some ⟨w4.heap.size, 0, none⟩))) ⟨bc, a, gs, w4.heap.size, gl⟩ ⟨core, n, k, m, newSets g k n, []⟩) :=
    ⟨HC4.out, HA5.out, HO.out, fun q hq => hq.elim, ⟨HNE.out.1, HNE.out.2, HZ1.out⟩, ⟨List.Pairwise.nil, fun m hm => by simp at hm⟩, HM8.out, newSets_length g k n⟩
  clear hO hb hc1 HA3 HB5 HC3 HOW HC4 HO HA5 HNE HBX m0 m1 m2 m3 m4 m5 m6 m7 m8
  go_wp2_with fail
  go_ret2
  exact ⟨_, _, rfl, HC.out⟩
end Go.Proofs.YtfaihaknibmcpaaGreatDoor
