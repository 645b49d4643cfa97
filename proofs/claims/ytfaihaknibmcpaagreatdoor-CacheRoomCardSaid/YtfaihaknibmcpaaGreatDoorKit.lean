/- What the laws of a cache want: the law's own data, what is held against what. -/
import Derived.Test.YtfaihaknibmcpaaGreatDoorNew
import Derived.Test.YtfaihaknibmcpaaGreatDoorWant
import Derived.Test.YtfaihaknibmcpaaGreatDoorForward
import Derived.Test.YtfaihaknibmcpaaGreatDoorEqMsg
import Derived.Test.YtfaihaknibmcpaaGreatDoorArrU
namespace Go.Proofs.YtfaihaknibmcpaaGreatDoor
open Go.RowKit Go.Extern.Stop Go.Stop Go.Extern Go.Proofs.YtfaihaknibmcpaaGreatDoor.PCacheFull Go.Proofs.YtfaihaknibmcpaaGreatDoorW.PrintWords

theorem ret_msg1 {fn : Func} {p : Tmp} (h : fn.results = #[.cell p 34]) (tmps : Array Value) (w : World) (g : Nat) (cs : Array Value) (hp : tmps.getD p undef = .pointer (some ⟨g, 0, none⟩)) (hg : w.heap[g]? = some (.cells cs 34 (0, 0))) (hs : cs.size = 13) :
    (results fn tmps).run Tryz.prog w = .ok (.agg cs) w :=
  results_cell_row h tmps w g 34 cs (0, 0) _ hp hg Tryz.underlying34 rfl (by rw [hs]; exact Tryz.sizeMsg)
def dataM (line state d0 d1 d2 d3 : Int) : Mg := ⟨13, 0, line, state, 0, 0, 0, 0, d0, d1, d2, d3, true⟩
set_option maxRecDepth 100000 in
theorem data_is (line state d0 d1 d2 d3 : Int) (w : World) : Calls Tryz.prog 32 #[.int .i64 line, .int .i64 state, .agg #[.int .u32 d0, .int .u32 d1, .int .u32 d2, .int .u32 d3]] w fun x w' => x = .returned (dataM line state d0 d1 d2 d3).val ∧ Below w.heap.size w w' := by
  have HONE := Lib.hid (all_oneCell_toArray (msg_one (dataM line state d0 d1 d2 d3)))
  have HRES : Hid (∀ o o', ((w.alloc o).alloc o').heap[w.heap.size + 1]? = some o') := fun o o' => by
    have := heap_alloc_new (w.alloc o) o'
    simp only [World.size_alloc] at this
    exact this
  go_enter Tryz.func32, Tryz.ntmps32
  go_wp2_with (refine wpList_store_row rfl 34 (.tmp 6) (.tmp 10) rfl (w.heap.size + 1) (dataM line state d0 d1 d2 d3).cells.toArray rfl rfl 34 _ (HRES.out _ _) Tryz.sizeMsg rfl HONE.out ?_)
  refine ⟨rfl, _, ret_msg1 Tryz.results32 _ _ (w.heap.size + 1) _ rfl (heap_setRow (HRES.out _ _) _) rfl, rfl, ?_⟩
  exact below_setRow ((((Below.refl _ _).alloc (Nat.le_refl _) _)).alloc (by simp) _) (by omega) _
theorem keepIs_want (x : Int) (k : Nat) (ad : Nat → Addr) (w : World) (h1 : 1 ≤ k) (h2 : k ≤ 10) (S : Sents w ad) : Calls Tryz.prog 13 #[faultIn x (sentV (ad k)), .int .i64 k, .string ⟨#[99, 97, 99, 104, 101, 46, 87, 97, 110, 116]⟩, .int .i64 x] w fun e w' => e = .returned (.bool true) ∧ Below w.heap.size w w' := keepIs_one _ x k ad w h1 h2 S
theorem eqMsg_same (x : Mg) (w : World) : (binOp .eql 34 x.val x.val).run Tryz.prog w = .ok (.bool true) w := by
  rw [eqMsg]
  simp
theorem FrameAt.based {G : Nat → Prop} {w0 w wx : World} {A : CAddr} {q : CSt} {L : List Loc} (h : FrameAt G w0 w wx A q L) : Below w0.heap.size w0 wx := h.cache.base
/-- A message is laid in a block of the law's own. -/
theorem FrameAt.lay {G : Nat → Prop} {w0 w wx : World} {A : CAddr} {q : CSt} {L : List Loc} (h : FrameAt G w0 w wx A q L) (cs : Array Value) (t : TypeId) : FrameAt G w0 w (wx.alloc (.cells cs t)) A q (⟨wx.heap.size, cs, t⟩ :: L) :=
  h.push ((Below.refl _ _).alloc (Nat.le_refl _) _) wx.heap.size cs t (heap_alloc_new _ _) (Nat.le_refl _)
theorem FrameAt.layAs {G : Nat → Prop} {w0 w wx wy : World} {A : CAddr} {q : CSt} {L : List Loc} {cs : Array Value} {t : TypeId} (h : FrameAt G w0 w wx A q L) (hW : wx.alloc (.cells cs t) = wy) : FrameAt G w0 w wy A q (⟨wx.heap.size, cs, t⟩ :: L) := by
  rw [← hW]
  exact h.lay cs t
/-- A block that is not looked at again. -/
theorem FrameAt.skip {G : Nat → Prop} {w0 w wx wy : World} {A : CAddr} {q : CSt} {L : List Loc} {o : Obj} (h : FrameAt G w0 w wx A q L) (hW : wx.alloc o = wy) : FrameAt G w0 w wy A q L := by
  rw [← hW]
  exact h.below ((Below.refl _ _).alloc (Nat.le_refl _) _)
theorem FrameAt.rest {G : Nat → Prop} {w0 w wx : World} {A : CAddr} {q : CSt} {x : Loc} {L : List Loc} (h : FrameAt G w0 w wx A q (x :: L)) : FrameAt G w0 w wx A q L :=
  ⟨h.cache.less fun _ hk => hk.elim .inl fun ⟨y, hy, e⟩ => .inr ⟨y, List.mem_cons_of_mem _ hy, e⟩, fun y hy => h.locs y (List.mem_cons_of_mem _ hy), h.keep, fun k ⟨y, hy, e⟩ => h.ne k ⟨y, List.mem_cons_of_mem _ hy, e⟩, (List.pairwise_cons.1 h.nodup).2⟩
theorem EntRow.none {B : Nat} {w : World} {v : Value} {l : List Ent} (h : EntRow B w v l) (h0 : l = []) : ∃ A c, v = .slice A 0 c := by
  obtain ⟨A, c, hv⟩ := h.shape
  rw [h0] at hv
  exact ⟨A, c, hv⟩
theorem MissRow.none {w : World} {v : Value} {l : List (Int × Int)} (h : MissRow w v l) (h0 : l = []) : ∃ A c, v = .slice A 0 c := by
  obtain ⟨A, c, hv, _⟩ := h.form
  rw [h0] at hv
  exact ⟨A, c, hv⟩
theorem MissRow.many {w : World} {v : Value} {l : List (Int × Int)} (h : MissRow w v l) {n : Nat} (h0 : l.length = n) : ∃ A c, v = .slice A n c := by
  obtain ⟨A, c, hv, _⟩ := h.form
  rw [h0] at hv
  exact ⟨A, c, hv⟩
theorem within_int (x : Int) (hi : Int) (h : 0 ≤ hi ∧ hi ≤ 1000) : ∃ p : Int, 0 ≤ p ∧ p ≤ hi ∧ ∀ w, Calls Tryz.prog 10 #[.int .i64 x, .int .i64 0, .int .i64 hi] w fun e w' => e = .returned (.int .i64 p) ∧ w' = w := by
  have h1 := inOf_le (n := x) (lo := 0) (hi := hi) h.1
  exact ⟨inOf x 0 hi, h1.1, h1.2, fun w => within_same x 0 hi w (by omega) (by omega) (by omega)⟩
end Go.Proofs.YtfaihaknibmcpaaGreatDoor
