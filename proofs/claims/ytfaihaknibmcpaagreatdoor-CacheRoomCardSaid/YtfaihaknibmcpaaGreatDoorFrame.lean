/- A region that draws its order, whose operations only read and whose callees make memory and no more: walked once, in the order of the text. A cache: whose a message is. A cache and the own blocks of a call that goes on: what each step leaves of both. -/
import Derived.Test.YtfaihaknibmcpaaGreatDoorBase
import Derived.BigQuiet
import Derived.Test.YtfaihaknibmcpaaGreatDoorCacheC
import Derived.Test.YtfaihaknibmcpaaGreatDoorMsg
namespace Go.Proofs.YtfaihaknibmcpaaGreatDoor
open Go.RowKit Go.Extern.Stop Go.Stop Go.Extern

/-- A world of a kind. -/
structure Wld (R : World → Prop) where
  w : World
  h : R w
theorem wp_region_under {P : Program} {id : Nat} {Q : Exit → Act → World → Prop} {a : Act} {w : World} {l : List Oper} {R : World → Prop} (hm : P.follows .mixedOrders = true) (hB : Region.lexB .any l.toArray = true) (h0 : R w.drew)
    (h : wpQuiet P l.toArray (fun w' => ∃ z : Wld R, w' = z.w) (fun a' => ∀ w', (∃ z : Wld R, w' = z.w) → Q .normal a' w') l a) : (Code.region id l.toArray true).wp P Q a w :=
  wp_region_quiet (C := fun w' => ∃ z : Wld R, w' = z.w) hm hB ⟨⟨_, h0⟩, rfl⟩ (by simpa using h)
/-- A callee's contract, met in such a world. -/
theorem Calls.under {P : Program} {f : FuncId} {args : Array Value} {w0 : World} {v : Value} (z : Wld (Below w0.heap.size w0))
    (h : Calls P f args z.w fun e w' => e = .returned v ∧ Below z.w.heap.size z.w w') : Calls P f args z.w fun e w'' => e = .returned v ∧ ∃ z' : Wld (Below w0.heap.size w0), w'' = z'.w :=
  h.mono fun _ _ ⟨he, hb⟩ => ⟨he, ⟨⟨_, z.h.trans (hb.mono z.h.size)⟩, rfl⟩⟩
end Go.Proofs.YtfaihaknibmcpaaGreatDoor
namespace Go.Proofs.YtfaihaknibmcpaaGreatDoor
open Go.RowKit Go.Extern.Stop Go.Stop Go.Extern Go.Proofs.YtfaihaknibmcpaaGreatDoor.PCacheFull Go.Proofs.YtfaihaknibmcpaaGreatDoorW.PrintWords

/-- Is a message right, of a pool, to that core? -/
def mineB (m : Mg) (p c : Int) : Bool := rightM m && ((poolOf m.kind == p) && (m.core == c))
section
variable {G : Nat → Prop} {w0 w : World} {A : CAddr} {q : CSt}
set_option maxRecDepth 100000 in
set_option maxHeartbeats 4000000 in
theorem mine_is (h : CacheAt G w0 w A q) (m : Mg) (p : Int) :
    Calls Tryz.prog 65 #[.pointer (some ⟨A.c, 0, none⟩), m.val, .int .i64 p] w fun e w' => e = .returned (.bool (mineB m p q.core)) ∧ Below w.heap.size w w' := by
  have HM : Hid (mineB m p q.core = (rightM m && ((poolOf m.kind == p) && (m.core == q.core)))) := rfl
  have HBX := Lib.hid h.box
  clear h
  generalize mineB m p q.core = res at *
  generalize q.core = qc at *
  have HR : Hid (∀ w, _) := fun w => right_is m w
  have HP : Hid (∀ w, _) := fun w => pool_is m.kind w
  generalize rightM m = rt at *
  generalize poolOf m.kind = pl at *
  obtain ⟨k, c, l, st, mo, ep, wd, v, d0, d1, d2, d3, hs⟩ := m
  go_enter Tryz.func65, Tryz.ntmps65
  simp only [Mg.val] at *
  go_wp2_with fail
  generalize hW : w.alloc _ = wa
  have hbox : wa.heap[w.heap.size]? = some (.cells (Mg.cells ⟨k, c, l, st, mo, ep, wd, v, d0, d1, d2, d3, hs⟩).toArray 34 (0, 0)) := by rw [← hW]; exact heap_alloc_new _ _
  have hbel : Below w.heap.size w wa := by rw [← hW]; exact (Below.refl _ _).alloc (Nat.le_refl _) _
  have HC : Hid (∀ w', Below w.heap.size w w' → w'.cell? ⟨A.c, 0, none⟩ = some (.int .i64 qc)) := fun w' hb => by
    have := (hb.block A.c (lt_of_heap HBX.out)).trans HBX.out
    simp [World.cell?, this]
  have HBM : Hid (∀ w', Below wa.heap.size wa w' → _) := fun w' hb => msg_cells ((hb.block w.heap.size (lt_of_heap hbox)).trans hbox)
  have HWA := Lib.hid hbel
  have HA1 : Hid (∀ w', Below wa.heap.size wa w' → Below w.heap.size w w') := fun w' hb => HWA.out.trans (hb.mono HWA.out.size)
  obtain ⟨m0, m1, m2, m3, m4, m5, m6, m7, m8, m9, m10, m11, m12⟩ := HBM.out wa (Below.refl _ _)
  have cc := HC.out wa hbel
  clear hW hbox hbel HBX
  have HWS : Hid (w.heap.size = w.heap.size) := rfl
  generalize hb0 : w.heap.size = b at HWS HBM m0 m1 m2 m3 m4 m5 m6 m7 m8 m9 m10 m11 m12 ⊢
  clear HWS
  have HB0 := Lib.hid hb0
  clear hb0
  have z0 : ∀ z : Wld (Below wa.heap.size wa), z.w.cell? ⟨b, 0, none⟩ = some (.int .i64 k) := fun z => (HBM.out z.w z.h).1
  have z1 : ∀ z : Wld (Below wa.heap.size wa), z.w.cell? ⟨b, 1, none⟩ = some (.int .i64 c) := fun z => (HBM.out z.w z.h).2.1
  have z2 : ∀ z : Wld (Below wa.heap.size wa), z.w.cell? ⟨b, 2, none⟩ = some (.int .i64 l) := fun z => (HBM.out z.w z.h).2.2.1
  have z3 : ∀ z : Wld (Below wa.heap.size wa), z.w.cell? ⟨b, 3, none⟩ = some (.int .i64 st) := fun z => (HBM.out z.w z.h).2.2.2.1
  have z4 : ∀ z : Wld (Below wa.heap.size wa), z.w.cell? ⟨b, 4, none⟩ = some (.int .i64 mo) := fun z => (HBM.out z.w z.h).2.2.2.2.1
  have z5 : ∀ z : Wld (Below wa.heap.size wa), z.w.cell? ⟨b, 5, none⟩ = some (.int .i64 ep) := fun z => (HBM.out z.w z.h).2.2.2.2.2.1
  have z6 : ∀ z : Wld (Below wa.heap.size wa), z.w.cell? ⟨b, 6, none⟩ = some (.int .i64 wd) := fun z => (HBM.out z.w z.h).2.2.2.2.2.2.1
  have z7 : ∀ z : Wld (Below wa.heap.size wa), z.w.cell? ⟨b, 7, none⟩ = some (.int .u32 v) := fun z => (HBM.out z.w z.h).2.2.2.2.2.2.2.1
  have z8 : ∀ z : Wld (Below wa.heap.size wa), z.w.cell? ⟨b, 8, none⟩ = some (.int .u32 d0) := fun z => (HBM.out z.w z.h).2.2.2.2.2.2.2.2.1
  have z9 : ∀ z : Wld (Below wa.heap.size wa), z.w.cell? ⟨b, 9, none⟩ = some (.int .u32 d1) := fun z => (HBM.out z.w z.h).2.2.2.2.2.2.2.2.2.1
  have z10 : ∀ z : Wld (Below wa.heap.size wa), z.w.cell? ⟨b, 10, none⟩ = some (.int .u32 d2) := fun z => (HBM.out z.w z.h).2.2.2.2.2.2.2.2.2.2.1
  have z11 : ∀ z : Wld (Below wa.heap.size wa), z.w.cell? ⟨b, 11, none⟩ = some (.int .u32 d3) := fun z => (HBM.out z.w z.h).2.2.2.2.2.2.2.2.2.2.2.1
  have z12 : ∀ z : Wld (Below wa.heap.size wa), z.w.cell? ⟨b, 12, none⟩ = some (.bool hs) := fun z => (HBM.out z.w z.h).2.2.2.2.2.2.2.2.2.2.2.2
  have zc : ∀ z : Wld (Below wa.heap.size wa), z.w.cell? ⟨A.c, 0, none⟩ = some (.int .i64 qc) := fun z => HC.out z.w (HA1.out z.w z.h)
  have hnon : Nonempty (Wld (Below wa.heap.size wa)) := ⟨⟨wa, Below.refl _ _⟩⟩
  cases hp : (pl == p)
  all_goals cases rt
  all_goals
    have HRS : Hid (res = _) := HM.out
    rw [hp] at HRS
    simp only [Bool.false_and, Bool.true_and] at HRS
    clear HM
    refine wp_region_under (R := Below wa.heap.size wa) (by kernel_rfl) (by kernel_rfl) (Below.refl _ _).drew ?_
    repeat (go_big_quiet_step (first | (go_at_call 99; exact Calls.under _ (HR.out _)) | (go_at_call 100; exact Calls.under _ (HP.out _))))
    refine wpQuiet_nil ?_
    rintro _ ⟨z, rfl⟩
    have HZ := Lib.hid (HA1.out z.w z.h)
    go_wp2
    go_ret
    exact ⟨by rw [HRS.out]; rfl, HZ.out⟩
end
end Go.Proofs.YtfaihaknibmcpaaGreatDoor
namespace Go.Proofs.YtfaihaknibmcpaaGreatDoor
open Go.RowKit Go.Extern.Stop Go.Stop Go.Extern

/-- A block of the call's own, and what it holds. -/
structure Loc where
  b : Nat
  cs : Array Value
  t : TypeId
def InL (L : List Loc) (k : Nat) : Prop := ∃ x ∈ L, x.b = k
structure FrameAt (G : Nat → Prop) (w0 w wx : World) (A : CAddr) (q : CSt) (L : List Loc) : Prop where
  cache : CacheAt (fun k => G k ∨ InL L k) w0 wx A q
  locs : ∀ x ∈ L, wx.heap[x.b]? = some (.cells x.cs x.t (0, 0))
  keep : ∀ k, G k → wx.heap[k]? = w.heap[k]?
  ne : ∀ k, InL L k → ¬ G k
  nodup : L.Pairwise fun x y => x.b ≠ y.b
section
variable {G : Nat → Prop} {w0 w wx wy : World} {A : CAddr} {q q' : CSt} {L : List Loc}
theorem FrameAt.start (h : CacheAt G w0 w A q) : FrameAt G w0 w w A q [] :=
  ⟨h.less fun k hk => hk.elim id fun ⟨x, hx, _⟩ => by simp at hx, fun x hx => by simp at hx, fun k _ => rfl, fun k ⟨x, hx, _⟩ => by simp at hx, List.Pairwise.nil⟩
theorem FrameAt.push (h : FrameAt G w0 w wx A q L) (hb : Below wx.heap.size wx wy) (b : Nat) (cs : Array Value) (t : TypeId) (h1 : wy.heap[b]? = some (.cells cs t (0, 0))) (h2 : wx.heap.size ≤ b) : FrameAt G w0 w wy A q (⟨b, cs, t⟩ :: L) := by
  refine ⟨h.cache.more hb ?_, ?_, fun k hk => (hb.block k (h.cache.apart k (.inl hk)).2.2.2.2).trans (h.keep k hk), ?_, ?_⟩
  · rintro k (hk | ⟨x, hx, rfl⟩)
    · exact .inl (.inl hk)
    · rcases List.mem_cons.1 hx with rfl | hx
      · exact .inr ⟨h2, lt_of_heap h1⟩
      · exact .inl (.inr ⟨x, hx, rfl⟩)
  · intro x hx
    rcases List.mem_cons.1 hx with rfl | hx
    · exact h1
    · exact (hb.block x.b (lt_of_heap (h.locs x hx))).trans (h.locs x hx)
  · rintro k ⟨x, hx, rfl⟩ hg
    rcases List.mem_cons.1 hx with rfl | hx
    · have := (h.cache.apart _ (.inl hg)).2.2.2.2
      simp only at this
      omega
    · exact h.ne _ ⟨x, hx, rfl⟩ hg
  · refine List.pairwise_cons.2 ⟨fun y hy e => ?_, h.nodup⟩
    have := lt_of_heap (h.locs y hy)
    simp only at e
    omega
theorem FrameAt.below (h : FrameAt G w0 w wx A q L) (hb : Below wx.heap.size wx wy) : FrameAt G w0 w wy A q L :=
  ⟨h.cache.below hb, fun x hx => (hb.block x.b (lt_of_heap (h.locs x hx))).trans (h.locs x hx), fun k hk => (hb.block k (h.cache.apart k (.inl hk)).2.2.2.2).trans (h.keep k hk), h.ne, h.nodup⟩
theorem FrameAt.step (h : FrameAt G w0 w wx A q L) (hC : CacheAt (fun k => G k ∨ InL L k) w0 wy A q') (hk : ∀ k, G k ∨ InL L k → wy.heap[k]? = wx.heap[k]?) : FrameAt G w0 w wy A q' L :=
  ⟨hC, fun x hx => (hk x.b (.inr ⟨x, hx, rfl⟩)).trans (h.locs x hx), fun k hg => (hk k (.inl hg)).trans (h.keep k hg), h.ne, h.nodup⟩
theorem FrameAt.write (h : FrameAt G w0 w wx A q L) (i : Nat) (b : Nat) (cs : Array Value) (t : TypeId) (hi : L[i]? = some ⟨b, cs, t⟩) (cs' : Array Value) (hT : Turned (fun k => k = b) wx wy) (hy : wy.heap[b]? = some (.cells cs' t (0, 0))) : FrameAt G w0 w wy A q (L.set i ⟨b, cs', t⟩) := by
  have hm := List.mem_of_getElem? hi
  have hb : InL L b := ⟨_, hm, rfl⟩
  obtain ⟨hlt, hie⟩ := List.getElem?_eq_some_iff.1 hi
  have key : ∀ x ∈ L.set i ⟨b, cs', t⟩, x = ⟨b, cs', t⟩ ∨ (x ∈ L ∧ x.b ≠ b) := by
    intro x hx
    obtain ⟨j, hj, e⟩ := List.getElem_of_mem hx
    rw [List.length_set] at hj
    rw [List.getElem_set] at e
    by_cases hij : i = j
    · rw [if_pos hij] at e
      exact .inl e.symm
    · rw [if_neg hij] at e
      refine .inr ⟨by rw [← e]; exact List.getElem_mem hj, fun e2 => ?_⟩
      have hp := List.pairwise_iff_getElem.1 h.nodup
      rcases Nat.lt_or_gt_of_ne hij with hl | hl
      · exact hp i j hlt hj hl (by rw [hie, e, e2])
      · exact hp j i hj hlt hl (by rw [hie, e, e2])
  have hin : ∀ k, InL (L.set i ⟨b, cs', t⟩) k → InL L k := by
    rintro k ⟨x, hx, rfl⟩
    rcases key x hx with rfl | ⟨hx, _⟩
    · exact hb
    · exact ⟨x, hx, rfl⟩
  refine ⟨(h.cache.aside hT fun k hk => .inr (by rw [hk]; exact hb)).less fun k hk => hk.elim .inl fun hk => .inr (hin k hk), ?_, fun k hk => (hT.block k (h.cache.apart k (.inl hk)).2.2.2.2 fun e => h.ne b hb (by rw [← e]; exact hk)).trans (h.keep k hk), fun k hk => h.ne k (hin k hk), ?_⟩
  · intro x hx
    rcases key x hx with rfl | ⟨hx, hne⟩
    · exact hy
    · exact (hT.block x.b (lt_of_heap (h.locs x hx)) hne).trans (h.locs x hx)
  · have hm2 : (L.set i ⟨b, cs', t⟩).map Loc.b = L.map Loc.b := by
      rw [List.map_set]
      apply List.ext_getElem?
      intro j
      rw [List.getElem?_set]
      by_cases hij : i = j
      · subst hij
        rw [if_pos rfl, if_pos (by simpa using hlt), List.getElem?_map, hi]
        rfl
      · rw [if_neg hij]
    have h1 := h.nodup
    rw [← List.pairwise_map (f := Loc.b) (R := fun a b => a ≠ b)] at h1 ⊢
    rw [hm2]
    exact h1
theorem FrameAt.setRow (h : FrameAt G w0 w wx A q L) (i : Nat) (b : Nat) (cs : Array Value) (t : TypeId) (hi : L[i]? = some ⟨b, cs, t⟩) (cs' : Array Value) : FrameAt G w0 w (wx.setRow b cs') A q (L.set i ⟨b, cs', t⟩) :=
  h.write i b cs t hi cs' ((Turned.refl (fun k => k = b) wx).setRow (.inl rfl) _) (heap_setRow (h.locs _ (List.mem_of_getElem? hi)) cs')
theorem FrameAt.setCell (h : FrameAt G w0 w wx A q L) (i : Nat) (b : Nat) (cs : Array Value) (t : TypeId) (hi : L[i]? = some ⟨b, cs, t⟩) (o : Nat) (u : Value) : FrameAt G w0 w (wx.setCell ⟨b, o, none⟩ u) A q (L.set i ⟨b, cs.setIfInBounds o u, t⟩) :=
  h.write i b cs t hi _ ((Turned.refl (fun k => k = b) wx).setCell (p := ⟨b, o, none⟩) (.inl rfl) _) (heap_setCell (h.locs _ (List.mem_of_getElem? hi)) u)
theorem FrameAt.drew (h : FrameAt G w0 w wx A q L) : FrameAt G w0 w wx.drew A q L := h.below (Below.refl _ _).drew
theorem FrameAt.finish (h : FrameAt G w0 w wx A q L) : CacheAt G w0 wx A q ∧ ∀ k, G k → wx.heap[k]? = w.heap[k]? := ⟨h.cache.less fun _ hk => .inl hk, h.keep⟩
theorem FrameAt.at (h : FrameAt G w0 w wx A q L) {b : Nat} {cs : Array Value} {t : TypeId} (i : Nat) (hi : L[i]? = some ⟨b, cs, t⟩) : wx.heap[b]? = some (.cells cs t (0, 0)) := h.locs _ (List.mem_of_getElem? hi)
end
theorem Tryz.sizeMsg : (Tryz.prog.info? 34).map (·.size) = some 13 := by kernel_rfl
theorem msg_one (m : Mg) : ∀ v ∈ m.cells, v.oneCell' = true := by
  intro v hv
  simp only [Mg.cells, List.mem_cons, List.not_mem_nil, or_false] at hv
  rcases hv with rfl | rfl | rfl | rfl | rfl | rfl | rfl | rfl | rfl | rfl | rfl | rfl | rfl <;> rfl
theorem ret_msg {fn : Func} {p u : Tmp} (h : fn.results = #[.cell p 34, .tmp u]) (tmps : Array Value) (w : World) (g : Nat) (cs : Array Value) (hp : tmps.getD p undef = .pointer (some ⟨g, 0, none⟩)) (hg : w.heap[g]? = some (.cells cs 34 (0, 0))) (hs : cs.size = 13) :
    (results fn tmps).run Tryz.prog w = .ok (.tuple #[.agg cs, tmps.getD u undef]) w := by
  rw [results_cell_tmp h, hp]
  have := run_loadVar_row (P := Tryz.prog) w g 34 34 cs (0, 0) _ hg Tryz.underlying34 rfl (by rw [hs]; exact Tryz.sizeMsg)
  simp [asAddr, this, Result.andThen]
/-- A block that was made ahead of a callee, and is written behind it. -/
theorem zero_after {w1 w3 : World} (hb : Below ((w1.alloc (.cells #[.int .i64 0, .int .i64 0, .int .i64 0, .int .i64 0, .int .u32 0, .int .u32 0, .int .u32 0, .int .u32 0, .bool false, .bool false] 65)).drew).heap.size ((w1.alloc (.cells #[.int .i64 0, .int .i64 0, .int .i64 0, .int .i64 0, .int .u32 0, .int .u32 0, .int .u32 0, .int .u32 0, .bool false, .bool false] 65)).drew) w3) : w3.heap[w1.heap.size]? = some (.cells Ent.none.cells.toArray 65 (0, 0)) := by
  rw [hb.block w1.heap.size (by simp)]
  exact heap_alloc_new _ _
section
variable {G : Nat → Prop} {w0 w w1 w3 : World} {A : CAddr} {q : CSt} {L : List Loc}
theorem FrameAt.made (h : FrameAt G w0 w w1 A q L) (hb : Below ((w1.alloc (.cells #[.int .i64 0, .int .i64 0, .int .i64 0, .int .i64 0, .int .u32 0, .int .u32 0, .int .u32 0, .int .u32 0, .bool false, .bool false] 65)).drew).heap.size ((w1.alloc (.cells #[.int .i64 0, .int .i64 0, .int .i64 0, .int .i64 0, .int .u32 0, .int .u32 0, .int .u32 0, .int .u32 0, .bool false, .bool false] 65)).drew) w3) : FrameAt G w0 w w3 A q (⟨w1.heap.size, Ent.none.cells.toArray, 65⟩ :: L) := by
  have h1 : Below w1.heap.size w1 w3 := ((Below.refl _ _).alloc (Nat.le_refl _) _).drew.trans (hb.mono (by simp))
  exact h.push h1 w1.heap.size _ _ (zero_after hb) (Nat.le_refl _)
theorem FrameAt.fillE {b : Nat} (h : FrameAt G w0 w w3 A q (⟨b, Ent.none.cells.toArray, 65⟩ :: L)) (x s m ep d0 d1 d2 d3 : Int) (hh ff : Bool) : FrameAt G w0 w ((((((((((w3.setCell ⟨b, 0, none⟩ (.int .i64 x)).setCell ⟨b, 1, none⟩ (.int .i64 s)).setCell ⟨b, 2, none⟩ (.int .i64 m)).setCell ⟨b, 3, none⟩ (.int .i64 ep)).setCell ⟨b, 4, none⟩ (.int .u32 d0)).setCell ⟨b, 5, none⟩ (.int .u32 d1)).setCell ⟨b, 6, none⟩ (.int .u32 d2)).setCell ⟨b, 7, none⟩ (.int .u32 d3)).setCell ⟨b, 8, none⟩ (.bool hh)).setCell ⟨b, 9, none⟩ (.bool ff)) A q (⟨b, (Ent.cells ⟨x, s, m, ep, d0, d1, d2, d3, hh, ff⟩).toArray, 65⟩ :: L) := by
  have f0 : FrameAt G w0 w (w3.setCell ⟨b, 0, none⟩ (.int .i64 x)) A q (⟨b, #[.int .i64 x, .int .i64 0, .int .i64 0, .int .i64 0, .int .u32 0, .int .u32 0, .int .u32 0, .int .u32 0, .bool false, .bool false], 65⟩ :: L) := h.setCell 0 b #[.int .i64 0, .int .i64 0, .int .i64 0, .int .i64 0, .int .u32 0, .int .u32 0, .int .u32 0, .int .u32 0, .bool false, .bool false] _ rfl 0 (.int .i64 x)
  have f1 : FrameAt G w0 w ((w3.setCell ⟨b, 0, none⟩ (.int .i64 x)).setCell ⟨b, 1, none⟩ (.int .i64 s)) A q (⟨b, #[.int .i64 x, .int .i64 s, .int .i64 0, .int .i64 0, .int .u32 0, .int .u32 0, .int .u32 0, .int .u32 0, .bool false, .bool false], 65⟩ :: L) := f0.setCell 0 b #[.int .i64 x, .int .i64 0, .int .i64 0, .int .i64 0, .int .u32 0, .int .u32 0, .int .u32 0, .int .u32 0, .bool false, .bool false] _ rfl 1 (.int .i64 s)
  have f2 : FrameAt G w0 w (((w3.setCell ⟨b, 0, none⟩ (.int .i64 x)).setCell ⟨b, 1, none⟩ (.int .i64 s)).setCell ⟨b, 2, none⟩ (.int .i64 m)) A q (⟨b, #[.int .i64 x, .int .i64 s, .int .i64 m, .int .i64 0, .int .u32 0, .int .u32 0, .int .u32 0, .int .u32 0, .bool false, .bool false], 65⟩ :: L) := f1.setCell 0 b #[.int .i64 x, .int .i64 s, .int .i64 0, .int .i64 0, .int .u32 0, .int .u32 0, .int .u32 0, .int .u32 0, .bool false, .bool false] _ rfl 2 (.int .i64 m)
  have f3 : FrameAt G w0 w ((((w3.setCell ⟨b, 0, none⟩ (.int .i64 x)).setCell ⟨b, 1, none⟩ (.int .i64 s)).setCell ⟨b, 2, none⟩ (.int .i64 m)).setCell ⟨b, 3, none⟩ (.int .i64 ep)) A q (⟨b, #[.int .i64 x, .int .i64 s, .int .i64 m, .int .i64 ep, .int .u32 0, .int .u32 0, .int .u32 0, .int .u32 0, .bool false, .bool false], 65⟩ :: L) := f2.setCell 0 b #[.int .i64 x, .int .i64 s, .int .i64 m, .int .i64 0, .int .u32 0, .int .u32 0, .int .u32 0, .int .u32 0, .bool false, .bool false] _ rfl 3 (.int .i64 ep)
  have f4 : FrameAt G w0 w (((((w3.setCell ⟨b, 0, none⟩ (.int .i64 x)).setCell ⟨b, 1, none⟩ (.int .i64 s)).setCell ⟨b, 2, none⟩ (.int .i64 m)).setCell ⟨b, 3, none⟩ (.int .i64 ep)).setCell ⟨b, 4, none⟩ (.int .u32 d0)) A q (⟨b, #[.int .i64 x, .int .i64 s, .int .i64 m, .int .i64 ep, .int .u32 d0, .int .u32 0, .int .u32 0, .int .u32 0, .bool false, .bool false], 65⟩ :: L) := f3.setCell 0 b #[.int .i64 x, .int .i64 s, .int .i64 m, .int .i64 ep, .int .u32 0, .int .u32 0, .int .u32 0, .int .u32 0, .bool false, .bool false] _ rfl 4 (.int .u32 d0)
  have f5 : FrameAt G w0 w ((((((w3.setCell ⟨b, 0, none⟩ (.int .i64 x)).setCell ⟨b, 1, none⟩ (.int .i64 s)).setCell ⟨b, 2, none⟩ (.int .i64 m)).setCell ⟨b, 3, none⟩ (.int .i64 ep)).setCell ⟨b, 4, none⟩ (.int .u32 d0)).setCell ⟨b, 5, none⟩ (.int .u32 d1)) A q (⟨b, #[.int .i64 x, .int .i64 s, .int .i64 m, .int .i64 ep, .int .u32 d0, .int .u32 d1, .int .u32 0, .int .u32 0, .bool false, .bool false], 65⟩ :: L) := f4.setCell 0 b #[.int .i64 x, .int .i64 s, .int .i64 m, .int .i64 ep, .int .u32 d0, .int .u32 0, .int .u32 0, .int .u32 0, .bool false, .bool false] _ rfl 5 (.int .u32 d1)
  have f6 : FrameAt G w0 w (((((((w3.setCell ⟨b, 0, none⟩ (.int .i64 x)).setCell ⟨b, 1, none⟩ (.int .i64 s)).setCell ⟨b, 2, none⟩ (.int .i64 m)).setCell ⟨b, 3, none⟩ (.int .i64 ep)).setCell ⟨b, 4, none⟩ (.int .u32 d0)).setCell ⟨b, 5, none⟩ (.int .u32 d1)).setCell ⟨b, 6, none⟩ (.int .u32 d2)) A q (⟨b, #[.int .i64 x, .int .i64 s, .int .i64 m, .int .i64 ep, .int .u32 d0, .int .u32 d1, .int .u32 d2, .int .u32 0, .bool false, .bool false], 65⟩ :: L) := f5.setCell 0 b #[.int .i64 x, .int .i64 s, .int .i64 m, .int .i64 ep, .int .u32 d0, .int .u32 d1, .int .u32 0, .int .u32 0, .bool false, .bool false] _ rfl 6 (.int .u32 d2)
  have f7 : FrameAt G w0 w ((((((((w3.setCell ⟨b, 0, none⟩ (.int .i64 x)).setCell ⟨b, 1, none⟩ (.int .i64 s)).setCell ⟨b, 2, none⟩ (.int .i64 m)).setCell ⟨b, 3, none⟩ (.int .i64 ep)).setCell ⟨b, 4, none⟩ (.int .u32 d0)).setCell ⟨b, 5, none⟩ (.int .u32 d1)).setCell ⟨b, 6, none⟩ (.int .u32 d2)).setCell ⟨b, 7, none⟩ (.int .u32 d3)) A q (⟨b, #[.int .i64 x, .int .i64 s, .int .i64 m, .int .i64 ep, .int .u32 d0, .int .u32 d1, .int .u32 d2, .int .u32 d3, .bool false, .bool false], 65⟩ :: L) := f6.setCell 0 b #[.int .i64 x, .int .i64 s, .int .i64 m, .int .i64 ep, .int .u32 d0, .int .u32 d1, .int .u32 d2, .int .u32 0, .bool false, .bool false] _ rfl 7 (.int .u32 d3)
  have f8 : FrameAt G w0 w (((((((((w3.setCell ⟨b, 0, none⟩ (.int .i64 x)).setCell ⟨b, 1, none⟩ (.int .i64 s)).setCell ⟨b, 2, none⟩ (.int .i64 m)).setCell ⟨b, 3, none⟩ (.int .i64 ep)).setCell ⟨b, 4, none⟩ (.int .u32 d0)).setCell ⟨b, 5, none⟩ (.int .u32 d1)).setCell ⟨b, 6, none⟩ (.int .u32 d2)).setCell ⟨b, 7, none⟩ (.int .u32 d3)).setCell ⟨b, 8, none⟩ (.bool hh)) A q (⟨b, #[.int .i64 x, .int .i64 s, .int .i64 m, .int .i64 ep, .int .u32 d0, .int .u32 d1, .int .u32 d2, .int .u32 d3, .bool hh, .bool false], 65⟩ :: L) := f7.setCell 0 b #[.int .i64 x, .int .i64 s, .int .i64 m, .int .i64 ep, .int .u32 d0, .int .u32 d1, .int .u32 d2, .int .u32 d3, .bool false, .bool false] _ rfl 8 (.bool hh)
  have f9 : FrameAt G w0 w ((((((((((w3.setCell ⟨b, 0, none⟩ (.int .i64 x)).setCell ⟨b, 1, none⟩ (.int .i64 s)).setCell ⟨b, 2, none⟩ (.int .i64 m)).setCell ⟨b, 3, none⟩ (.int .i64 ep)).setCell ⟨b, 4, none⟩ (.int .u32 d0)).setCell ⟨b, 5, none⟩ (.int .u32 d1)).setCell ⟨b, 6, none⟩ (.int .u32 d2)).setCell ⟨b, 7, none⟩ (.int .u32 d3)).setCell ⟨b, 8, none⟩ (.bool hh)).setCell ⟨b, 9, none⟩ (.bool ff)) A q (⟨b, #[.int .i64 x, .int .i64 s, .int .i64 m, .int .i64 ep, .int .u32 d0, .int .u32 d1, .int .u32 d2, .int .u32 d3, .bool hh, .bool ff], 65⟩ :: L) := f8.setCell 0 b #[.int .i64 x, .int .i64 s, .int .i64 m, .int .i64 ep, .int .u32 d0, .int .u32 d1, .int .u32 d2, .int .u32 d3, .bool hh, .bool false] _ rfl 9 (.bool ff)
  exact f9
theorem FrameAt.dataE {b : Nat} {x s m ep a0 a1 a2 a3 : Int} {hh ff : Bool} (h : FrameAt G w0 w w3 A q (⟨b, (Ent.cells ⟨x, s, m, ep, a0, a1, a2, a3, hh, ff⟩).toArray, 65⟩ :: L)) (d0 d1 d2 d3 : Int) : FrameAt G w0 w ((((w3.setCell ⟨b, 4, none⟩ (.int .u32 d0)).setCell ⟨b, 5, none⟩ (.int .u32 d1)).setCell ⟨b, 6, none⟩ (.int .u32 d2)).setCell ⟨b, 7, none⟩ (.int .u32 d3)) A q (⟨b, (Ent.cells ⟨x, s, m, ep, d0, d1, d2, d3, hh, ff⟩).toArray, 65⟩ :: L) := by
  have f0 : FrameAt G w0 w (w3.setCell ⟨b, 4, none⟩ (.int .u32 d0)) A q (⟨b, (Ent.cells ⟨x, s, m, ep, d0, a1, a2, a3, hh, ff⟩).toArray, 65⟩ :: L) := h.setCell 0 b _ _ rfl 4 (.int .u32 d0)
  have f1 : FrameAt G w0 w ((w3.setCell ⟨b, 4, none⟩ (.int .u32 d0)).setCell ⟨b, 5, none⟩ (.int .u32 d1)) A q (⟨b, (Ent.cells ⟨x, s, m, ep, d0, d1, a2, a3, hh, ff⟩).toArray, 65⟩ :: L) := f0.setCell 0 b _ _ rfl 5 (.int .u32 d1)
  have f2 : FrameAt G w0 w (((w3.setCell ⟨b, 4, none⟩ (.int .u32 d0)).setCell ⟨b, 5, none⟩ (.int .u32 d1)).setCell ⟨b, 6, none⟩ (.int .u32 d2)) A q (⟨b, (Ent.cells ⟨x, s, m, ep, d0, d1, d2, a3, hh, ff⟩).toArray, 65⟩ :: L) := f1.setCell 0 b _ _ rfl 6 (.int .u32 d2)
  have f3 : FrameAt G w0 w ((((w3.setCell ⟨b, 4, none⟩ (.int .u32 d0)).setCell ⟨b, 5, none⟩ (.int .u32 d1)).setCell ⟨b, 6, none⟩ (.int .u32 d2)).setCell ⟨b, 7, none⟩ (.int .u32 d3)) A q (⟨b, (Ent.cells ⟨x, s, m, ep, d0, d1, d2, d3, hh, ff⟩).toArray, 65⟩ :: L) := f2.setCell 0 b _ _ rfl 7 (.int .u32 d3)
  exact f3
end
end Go.Proofs.YtfaihaknibmcpaaGreatDoor
