/- Messages: their cells, their pools, what a kind names, which may be. '==' of lines, of entries and of messages, each as one Bool. -/
import Derived.Test.YtfaihaknibmcpaaGreatDoorBase
import Derived.Test.YtfaihaknibmcpaaGreatDoorPrints
import Derived.WalkSpells
import Derived.RegionTactic
import Derived.Deep.RegionLaw
import Derived.Deep.RegionHeld3
import Derived.Deep.DeepCutAuto
import Derived.StillTailTactics
import Derived.BigQuiet
import Derived.Test.YtfaihaknibmcpaaGreatDoorWEqStruct
import Derived.Laws.StructEq
import Derived.ChangeKeysEq
namespace Go.Proofs.YtfaihaknibmcpaaGreatDoor
open Go.RowKit Go.Extern.Stop Go.Stop Go.Extern Go.Proofs.YtfaihaknibmcpaaGreatDoor.PCacheFull Go.Proofs.YtfaihaknibmcpaaGreatDoorW.PrintWords

/-- A message. -/
structure Mg where
  kind : Int
  core : Int
  line : Int
  state : Int
  mode : Int
  epoch : Int
  word : Int
  value : Int
  d0 : Int
  d1 : Int
  d2 : Int
  d3 : Int
  has : Bool
  deriving DecidableEq
def Mg.cells (m : Mg) : List Value := [.int .i64 m.kind, .int .i64 m.core, .int .i64 m.line, .int .i64 m.state, .int .i64 m.mode, .int .i64 m.epoch, .int .i64 m.word, .int .u32 m.value, .int .u32 m.d0, .int .u32 m.d1, .int .u32 m.d2, .int .u32 m.d3, .bool m.has]
def Mg.val (m : Mg) : Value := .agg #[.int .i64 m.kind, .int .i64 m.core, .int .i64 m.line, .int .i64 m.state, .int .i64 m.mode, .int .i64 m.epoch, .int .i64 m.word, .int .u32 m.value, .int .u32 m.d0, .int .u32 m.d1, .int .u32 m.d2, .int .u32 m.d3, .bool m.has]
def Mg.zero : Mg := ⟨0, 0, 0, 0, 0, 0, 0, 0, 0, 0, 0, 0, false⟩
theorem msg_cells {w : World} {g : Nat} {m : Mg} (h : w.heap[g]? = some (.cells m.cells.toArray 34 (0, 0))) :
    w.cell? ⟨g, 0, none⟩ = some (.int .i64 m.kind) ∧ w.cell? ⟨g, 1, none⟩ = some (.int .i64 m.core) ∧ w.cell? ⟨g, 2, none⟩ = some (.int .i64 m.line) ∧ w.cell? ⟨g, 3, none⟩ = some (.int .i64 m.state) ∧ w.cell? ⟨g, 4, none⟩ = some (.int .i64 m.mode) ∧ w.cell? ⟨g, 5, none⟩ = some (.int .i64 m.epoch) ∧ w.cell? ⟨g, 6, none⟩ = some (.int .i64 m.word) ∧ w.cell? ⟨g, 7, none⟩ = some (.int .u32 m.value) ∧ w.cell? ⟨g, 8, none⟩ = some (.int .u32 m.d0) ∧ w.cell? ⟨g, 9, none⟩ = some (.int .u32 m.d1) ∧ w.cell? ⟨g, 10, none⟩ = some (.int .u32 m.d2) ∧ w.cell? ⟨g, 11, none⟩ = some (.int .u32 m.d3) ∧ w.cell? ⟨g, 12, none⟩ = some (.bool m.has) := by
  simp [World.cell?, h, Mg.cells]
def poolOf (k : Int) : Int := if k < 1 then -1 else if k ≤ 4 then 0 else if k ≤ 10 then 1 else if k ≤ 12 then 2 else if k ≤ 15 then 3 else -1
theorem pool_is (k : Int) (w : World) : Calls Tryz.prog 100 #[.int .i64 k] w fun e w' => e = .returned (.int .i64 (poolOf k)) ∧ Below w.heap.size w w' := by
  refine (msg_Pool.calls k (poolOf k) w ?_).mono ?_
  · unfold msg_Pool.f poolOf
    repeat' split
    all_goals rfl
  · rintro e w' ⟨rfl, hd⟩
    obtain ⟨n, rfl⟩ := hd.out
    exact ⟨rfl, below_drewN _ _ _⟩
def inB (n lo hi : Int) : Bool := decide (lo ≤ n) && decide (n ≤ hi)
theorem mwithin_is (n lo hi : Int) (w : World) : Calls Tryz.prog 122 #[.int .i64 n, .int .i64 lo, .int .i64 hi] w fun e w' => e = .returned (.bool (inB n lo hi)) ∧ Below w.heap.size w w' := by
  refine (msg_within.calls n lo hi (inB n lo hi) w ?_).mono ?_
  · unfold msg_within.f inB
    by_cases h : lo ≤ n
    · rw [if_pos h]; simp [h]
    · rw [if_neg h]; simp [h]
  · rintro e w' ⟨rfl, hd⟩
    obtain ⟨n, rfl⟩ := hd.out
    exact ⟨rfl, below_drewN _ _ _⟩
/-- What a kind names: a word, a mode, an epoch, a state. -/
def nWord (k : Int) : Bool := decide (k = 3 ∨ k = 8 ∨ k = 14)
def nMode (k : Int) : Bool := decide (k = 9 ∨ k = 5 ∨ k = 13)
def nEpoch (k : Int) : Bool := decide (k = 9 ∨ k = 13)
def nState (k : Int) : Bool := decide (k = 13 ∨ k = 11)
theorem named_is (k : Int) (w : World) : Calls Tryz.prog 123 #[.int .i64 k] w fun e w' => e = .returned (.agg #[.bool (nWord k), .bool (nMode k), .bool (nEpoch k), .bool (nState k)]) ∧ Below w.heap.size w w' := by
  refine msg_named.calls 5 k _ _ _ _ w ?_
  by_cases h3 : k = 3
  · subst h3; decide
  by_cases h8 : k = 8
  · subst h8; decide
  by_cases h14 : k = 14
  · subst h14; decide
  by_cases h9 : k = 9
  · subst h9; decide
  by_cases h5 : k = 5
  · subst h5; decide
  by_cases h13 : k = 13
  · subst h13; decide
  by_cases h11 : k = 11
  · subst h11; decide
  simp [msg_named.f, msg_named.j0, nWord, nMode, nEpoch, nState, h3, h8, h14, h9, h5, h13, h11]
end Go.Proofs.YtfaihaknibmcpaaGreatDoor
namespace Go.Proofs.YtfaihaknibmcpaaGreatDoor
open Go.RowKit Go.Extern.Stop Go.Stop Go.Extern Go.Proofs.YtfaihaknibmcpaaGreatDoor.PCacheFull Go.Proofs.YtfaihaknibmcpaaGreatDoorW.PrintWords

theorem eqi_cons {P : Program} {d : Nat} {e : TypeId} {n : Nat} {xs ys : Array Value} {j : Nat} {js : List Nat} {a b : Value} {r s : Bool} {w : World} (ha : (part e xs (j * n)).run P w = .ok a w) (hb : (part e ys (j * n)).run P w = .ok b w) (he : (Op.equalIn d e a b).run P w = .ok r w) (hr : (Op.eqItems d e n xs ys js).run P w = .ok s w) : (Op.eqItems d e n xs ys (j :: js)).run P w = .ok (r && s) w := by
  rw [Op.eqItems]
  simp only [Sem.run_bind, ha, hb, he, Result.andThen_ok]
  cases r
  · simp
  · simpa using hr
theorem eqi_nil {P : Program} {d : Nat} {e : TypeId} {n : Nat} {xs ys : Array Value} {w : World} : (Op.eqItems d e n xs ys []).run P w = .ok true w := by simp [Op.eqItems]
theorem Tryz.cellsW : Tryz.prog.cellsOf 30 = 1 := by kernel_rfl
theorem Tryz.infoW : ∃ i, Tryz.prog.info? 30 = some i := by
  have : (Tryz.prog.info? 30).isSome = true := by kernel_rfl
  exact Option.isSome_iff_exists.1 this
theorem eqLineIn (d : Nat) (w : World) (a0 a1 a2 a3 b0 b1 b2 b3 : Int) :
    (Op.equalIn (d + 2) 32 (.agg #[.int .u32 a0, .int .u32 a1, .int .u32 a2, .int .u32 a3]) (.agg #[.int .u32 b0, .int .u32 b1, .int .u32 b2, .int .u32 b3])).run Tryz.prog w = .ok ((a0 == b0) && ((a1 == b1) && ((a2 == b2) && ((a3 == b3) && true)))) w := by
  obtain ⟨i, hi⟩ := Tryz.infoW
  rw [run_equalIn_array w (d + 1) _ _ Tryz.underlying32 hi, Tryz.cellsW]
  show (Op.eqItems (d + 1) 30 1 _ _ [0, 1, 2, 3]).run Tryz.prog w = _
  refine eqi_cons (by go_simp; rfl) (by go_simp; rfl) (by go_simp) ?_
  refine eqi_cons (by go_simp; rfl) (by go_simp; rfl) (by go_simp) ?_
  refine eqi_cons (by go_simp; rfl) (by go_simp; rfl) (by go_simp) ?_
  exact eqi_cons (by go_simp; rfl) (by go_simp; rfl) (by go_simp) eqi_nil
def eqB (x y : Mg) : Bool := (x.kind == y.kind) && ((x.core == y.core) && ((x.line == y.line) && ((x.state == y.state) && ((x.mode == y.mode) && ((x.epoch == y.epoch) && ((x.word == y.word) && ((x.value == y.value) && (((x.d0 == y.d0) && ((x.d1 == y.d1) && ((x.d2 == y.d2) && ((x.d3 == y.d3) && true)))) && (x.has == y.has)))))))))
theorem eqB_iff (x y : Mg) : eqB x y = decide (x = y) := by
  obtain ⟨k, c, l, st, mo, ep, wd, v, d0, d1, d2, d3, hs⟩ := x
  obtain ⟨k', c', l', st', mo', ep', wd', v', d0', d1', d2', d3', hs'⟩ := y
  rw [Bool.eq_iff_iff]
  simp [eqB]
  intro h1 h2 h3 h4 h5 h6 h7 h8
  constructor
  · rintro ⟨⟨h9, h10, h11, h12⟩, h13⟩
    exact ⟨h9, h10, h11, h12, h13⟩
  · rintro ⟨h9, h10, h11, h12, h13⟩
    exact ⟨⟨h9, h10, h11, h12⟩, h13⟩
theorem eqMsgIn (d : Nat) (w : World) (x y : Mg) : (Op.equalIn (d + 3) 34 x.val y.val).run Tryz.prog w = .ok (eqB x y) w := by
  obtain ⟨k, c, l, st, mo, ep, wd, v, d0, d1, d2, d3, hs⟩ := x
  obtain ⟨k', c', l', st', mo', ep', wd', v', d0', d1', d2', d3', hs'⟩ := y
  unfold eqB Mg.val
  refine eqA_of Tryz.underlying34 (by kernel_rfl) ?_
  refine eqf_cons (by rfl) (by go_simp; rfl) (by go_simp; rfl) (by go_simp) ?_
  refine eqf_cons (by rfl) (by go_simp; rfl) (by go_simp; rfl) (by go_simp) ?_
  refine eqf_cons (by rfl) (by go_simp; rfl) (by go_simp; rfl) (by go_simp) ?_
  refine eqf_cons (by rfl) (by go_simp; rfl) (by go_simp; rfl) (by go_simp) ?_
  refine eqf_cons (by rfl) (by go_simp; rfl) (by go_simp; rfl) (by go_simp) ?_
  refine eqf_cons (by rfl) (by go_simp; rfl) (by go_simp; rfl) (by go_simp) ?_
  refine eqf_cons (by rfl) (by go_simp; rfl) (by go_simp; rfl) (by go_simp) ?_
  refine eqf_cons (by rfl) (by go_simp; rfl) (by go_simp; rfl) (by go_simp) ?_
  refine eqf_cons (by rfl) (by go_simp) (by go_simp) (eqLineIn d w _ _ _ _ _ _ _ _) ?_
  exact eqf_last (by rfl) (by go_simp; rfl) (by go_simp; rfl) (by go_simp)
theorem eqMsg (x y : Mg) (w : World) : (binOp .eql 34 x.val y.val).run Tryz.prog w = .ok (.bool (decide (x = y))) w := by
  have h := eqMsgIn 9997 w x y
  rw [eqB_iff] at h
  unfold Mg.val at *
  rw [run_eql_struct, h]
  rfl
theorem neMsg (x y : Mg) (w : World) : (binOp .neq 34 x.val y.val).run Tryz.prog w = .ok (.bool (!decide (x = y))) w := by
  have h := eqMsgIn 9997 w x y
  rw [eqB_iff] at h
  unfold Mg.val at *
  rw [run_neq_struct, h]
  rfl
end Go.Proofs.YtfaihaknibmcpaaGreatDoor
