/- What a law's row wants of an argument that is a list of calls. What a law's row wants of an argument that is a line's words, or a configuration. -/
import Derived.Test.YtfaihaknibmcpaaGreatDoorTot
import Derived.Test.YtfaihaknibmcpaaGreatDoorEqMsg
import Derived.Deep.Slices
import Derived.OpenShut
import Derived.Test.YtfaihaknibmcpaaGreatDoorRowKit
import Derived.Test.YtfaihaknibmcpaaGreatDoorNew
import Derived.Lib.SmallJoins
namespace Go.Proofs.YtfaihaknibmcpaaGreatDoor
open Go.ChangeShapes Go.WideShapes Go.RowKit

/-- A call, as the law's list has it. -/
structure Ask14 where
  kind : Int
  line : Int
  word : Int
  miss : Int
  value : Int
  msg : Mg
def Ask14.cells (q : Ask14) : List Value := .int .i64 q.kind :: .int .i64 q.line :: .int .i64 q.word :: .int .i64 q.miss :: .int .u32 q.value :: q.msg.cells
def CallAt (w : World) (x : Addr) (i : Nat) (q : Ask14) : Prop := ∀ j v, q.cells[j]? = some v → w.cell? (x.add (i * 18 + j)) = some v
def IsCalls (w : World) (A : Option Addr) (len : Nat) : Prop := ∀ i, i < len → ∃ x q, A = some x ∧ CallAt w x i q
/-- A call's cell behind its first one, as a walk spells its place. -/
theorem CallAt.cell {w : World} {x : Addr} {i : Nat} {q : Ask14} (h : CallAt w x i q) (j : Nat) (v : Value) (hj : j ≠ 0) (hv : q.cells[j]? = some v) : w.cell? { block := (x.add (i * 18)).block, off := (x.add (i * 18)).off + j } = some v := by
  have h1 := h j v hv
  rw [← Go.Deep.add_add] at h1
  have e : (x.add (i * 18)).add j = { block := (x.add (i * 18)).block, off := (x.add (i * 18)).off + j } := by
    generalize x.add (i * 18) = y
    unfold Addr.add
    rw [if_neg hj]
  rw [e] at h1
  exact h1
theorem CallAt.first {w : World} {x : Addr} {i : Nat} {q : Ask14} (h : CallAt w x i q) : w.cell? (x.add (i * 18)) = some (.int .i64 q.kind) := h 0 _ rfl
section
variable {H : Type} {enc : TypeId × Value → H} {P : Program} {w : World} {base : Nat} {spare : Nat → Bool} {held : Bool}
theorem intC_of {k : IntKind} {t : TypeId} {c : Value} {n : Nat} {y : DataW H × List MemPlace} (ht : P.underlying t = some (.int k)) (h : DataW.trod enc P w base spare held n t [c] = some y) : ∃ z, c = .int k z := by
  obtain ⟨z, e, _⟩ := DataW.trod_int ht h
  exact ⟨z, by simpa using e⟩
theorem boolC_of {t : TypeId} {c : Value} {n : Nat} {y : DataW H × List MemPlace} (ht : P.underlying t = some .bool) (h : DataW.trod enc P w base spare held n t [c] = some y) : ∃ z, c = .bool z := by
  obtain ⟨z, e, _⟩ := DataW.trod_bool ht h
  exact ⟨z, by simpa using e⟩
end
theorem someC_of {α : Type} {l : List α} {i : Nat} (h : i < l.length) : ∃ y, l[i]? = some y := ⟨_, List.getElem?_eq_getElem h⟩
theorem Tryz.cellsCall : Tryz.prog.cellsOf 52 = 18 := by kernel_rfl
theorem Tryz.cellsMsgC : Tryz.prog.cellsOf 34 = 13 := by kernel_rfl
theorem Tryz.cellsLineC : Tryz.prog.cellsOf 32 = 4 := by kernel_rfl
theorem Tryz.cellsIntC : Tryz.prog.cellsOf 3 = 1 := by kernel_rfl
theorem Tryz.cellsBoolC : Tryz.prog.cellsOf 4 = 1 := by kernel_rfl
theorem Tryz.cellsU32C : Tryz.prog.cellsOf 30 = 1 := by kernel_rfl
section
variable {H : Type} {enc : TypeId × Value → H} {w : World} {base : Nat} {spare : Nat → Bool} {held : Bool}
set_option maxRecDepth 10000 in
theorem msgC_of {n : Nat} {cs : List Value} {y : DataW H × List MemPlace} (h : DataW.trod enc Tryz.prog w base spare held n 34 cs = some y) : ∃ m : Mg, cs = m.cells := by
  obtain ⟨xs, k, _, _, hl, hxl, hf⟩ := DataW.trod_struct Tryz.underlying34 h
  rw [Tryz.cellsMsgC] at hl
  match cs, hl with
  | [c0, c1, c2, c3, c4, c5, c6, c7, c8, c9, c10, c11, c12], _ =>
    have hxl' : xs.length = 10 := hxl
    obtain ⟨y0, e0⟩ := someC_of (l := xs) (i := 0) (by omega)
    have f0 : DataW.trod enc Tryz.prog w base spare held k 3 (([c0, c1, c2, c3, c4, c5, c6, c7, c8, c9, c10, c11, c12].drop 0).take (Tryz.prog.cellsOf 3)) = some y0 := (hf 0 _ rfl).trans e0
    rw [Tryz.cellsIntC] at f0
    have f0 : DataW.trod enc Tryz.prog w base spare held k 3 [c0] = some y0 := f0
    obtain ⟨y1, e1⟩ := someC_of (l := xs) (i := 1) (by omega)
    have f1 : DataW.trod enc Tryz.prog w base spare held k 3 (([c0, c1, c2, c3, c4, c5, c6, c7, c8, c9, c10, c11, c12].drop 1).take (Tryz.prog.cellsOf 3)) = some y1 := (hf 1 _ rfl).trans e1
    rw [Tryz.cellsIntC] at f1
    have f1 : DataW.trod enc Tryz.prog w base spare held k 3 [c1] = some y1 := f1
    obtain ⟨y2, e2⟩ := someC_of (l := xs) (i := 2) (by omega)
    have f2 : DataW.trod enc Tryz.prog w base spare held k 3 (([c0, c1, c2, c3, c4, c5, c6, c7, c8, c9, c10, c11, c12].drop 2).take (Tryz.prog.cellsOf 3)) = some y2 := (hf 2 _ rfl).trans e2
    rw [Tryz.cellsIntC] at f2
    have f2 : DataW.trod enc Tryz.prog w base spare held k 3 [c2] = some y2 := f2
    obtain ⟨y3, e3⟩ := someC_of (l := xs) (i := 3) (by omega)
    have f3 : DataW.trod enc Tryz.prog w base spare held k 3 (([c0, c1, c2, c3, c4, c5, c6, c7, c8, c9, c10, c11, c12].drop 3).take (Tryz.prog.cellsOf 3)) = some y3 := (hf 3 _ rfl).trans e3
    rw [Tryz.cellsIntC] at f3
    have f3 : DataW.trod enc Tryz.prog w base spare held k 3 [c3] = some y3 := f3
    obtain ⟨y4, e4⟩ := someC_of (l := xs) (i := 4) (by omega)
    have f4 : DataW.trod enc Tryz.prog w base spare held k 3 (([c0, c1, c2, c3, c4, c5, c6, c7, c8, c9, c10, c11, c12].drop 4).take (Tryz.prog.cellsOf 3)) = some y4 := (hf 4 _ rfl).trans e4
    rw [Tryz.cellsIntC] at f4
    have f4 : DataW.trod enc Tryz.prog w base spare held k 3 [c4] = some y4 := f4
    obtain ⟨y5, e5⟩ := someC_of (l := xs) (i := 5) (by omega)
    have f5 : DataW.trod enc Tryz.prog w base spare held k 3 (([c0, c1, c2, c3, c4, c5, c6, c7, c8, c9, c10, c11, c12].drop 5).take (Tryz.prog.cellsOf 3)) = some y5 := (hf 5 _ rfl).trans e5
    rw [Tryz.cellsIntC] at f5
    have f5 : DataW.trod enc Tryz.prog w base spare held k 3 [c5] = some y5 := f5
    obtain ⟨y6, e6⟩ := someC_of (l := xs) (i := 6) (by omega)
    have f6 : DataW.trod enc Tryz.prog w base spare held k 3 (([c0, c1, c2, c3, c4, c5, c6, c7, c8, c9, c10, c11, c12].drop 6).take (Tryz.prog.cellsOf 3)) = some y6 := (hf 6 _ rfl).trans e6
    rw [Tryz.cellsIntC] at f6
    have f6 : DataW.trod enc Tryz.prog w base spare held k 3 [c6] = some y6 := f6
    obtain ⟨y7, e7⟩ := someC_of (l := xs) (i := 7) (by omega)
    have f7 : DataW.trod enc Tryz.prog w base spare held k 30 (([c0, c1, c2, c3, c4, c5, c6, c7, c8, c9, c10, c11, c12].drop 7).take (Tryz.prog.cellsOf 30)) = some y7 := (hf 7 _ rfl).trans e7
    rw [Tryz.cellsU32C] at f7
    have f7 : DataW.trod enc Tryz.prog w base spare held k 30 [c7] = some y7 := f7
    obtain ⟨y8, e8⟩ := someC_of (l := xs) (i := 8) (by omega)
    have f8 : DataW.trod enc Tryz.prog w base spare held k 32 (([c0, c1, c2, c3, c4, c5, c6, c7, c8, c9, c10, c11, c12].drop 8).take (Tryz.prog.cellsOf 32)) = some y8 := (hf 8 _ rfl).trans e8
    rw [Tryz.cellsLineC] at f8
    have f8 : DataW.trod enc Tryz.prog w base spare held k 32 [c8, c9, c10, c11] = some y8 := f8
    obtain ⟨y9, e9⟩ := someC_of (l := xs) (i := 9) (by omega)
    have f9 : DataW.trod enc Tryz.prog w base spare held k 4 (([c0, c1, c2, c3, c4, c5, c6, c7, c8, c9, c10, c11, c12].drop 12).take (Tryz.prog.cellsOf 4)) = some y9 := (hf 9 _ rfl).trans e9
    rw [Tryz.cellsBoolC] at f9
    have f9 : DataW.trod enc Tryz.prog w base spare held k 4 [c12] = some y9 := f9
    obtain ⟨z0, rfl⟩ := intC_of Tryz.underlying3 f0
    obtain ⟨z1, rfl⟩ := intC_of Tryz.underlying3 f1
    obtain ⟨z2, rfl⟩ := intC_of Tryz.underlying3 f2
    obtain ⟨z3, rfl⟩ := intC_of Tryz.underlying3 f3
    obtain ⟨z4, rfl⟩ := intC_of Tryz.underlying3 f4
    obtain ⟨z5, rfl⟩ := intC_of Tryz.underlying3 f5
    obtain ⟨z6, rfl⟩ := intC_of Tryz.underlying3 f6
    obtain ⟨z7, rfl⟩ := intC_of Tryz.underlying30 f7
    obtain ⟨b9, rfl⟩ := boolC_of Tryz.underlying4 f9
    obtain ⟨us, m, _, _, _, hul, hu⟩ := DataW.trod_array Tryz.underlying32 f8
    obtain ⟨g0, d0⟩ := someC_of (l := us) (i := 0) (by omega)
    have k0 : DataW.trod enc Tryz.prog w base spare held m 30 (([c8, c9, c10, c11].drop (0 * Tryz.prog.cellsOf 30)).take (Tryz.prog.cellsOf 30)) = some g0 := (hu 0 (by omega)).trans d0
    rw [Tryz.cellsU32C] at k0
    have k0 : DataW.trod enc Tryz.prog w base spare held m 30 [c8] = some g0 := k0
    obtain ⟨g1, d1⟩ := someC_of (l := us) (i := 1) (by omega)
    have k1 : DataW.trod enc Tryz.prog w base spare held m 30 (([c8, c9, c10, c11].drop (1 * Tryz.prog.cellsOf 30)).take (Tryz.prog.cellsOf 30)) = some g1 := (hu 1 (by omega)).trans d1
    rw [Tryz.cellsU32C] at k1
    have k1 : DataW.trod enc Tryz.prog w base spare held m 30 [c9] = some g1 := k1
    obtain ⟨g2, d2⟩ := someC_of (l := us) (i := 2) (by omega)
    have k2 : DataW.trod enc Tryz.prog w base spare held m 30 (([c8, c9, c10, c11].drop (2 * Tryz.prog.cellsOf 30)).take (Tryz.prog.cellsOf 30)) = some g2 := (hu 2 (by omega)).trans d2
    rw [Tryz.cellsU32C] at k2
    have k2 : DataW.trod enc Tryz.prog w base spare held m 30 [c10] = some g2 := k2
    obtain ⟨g3, d3⟩ := someC_of (l := us) (i := 3) (by omega)
    have k3 : DataW.trod enc Tryz.prog w base spare held m 30 (([c8, c9, c10, c11].drop (3 * Tryz.prog.cellsOf 30)).take (Tryz.prog.cellsOf 30)) = some g3 := (hu 3 (by omega)).trans d3
    rw [Tryz.cellsU32C] at k3
    have k3 : DataW.trod enc Tryz.prog w base spare held m 30 [c11] = some g3 := k3
    obtain ⟨u0, rfl⟩ := intC_of Tryz.underlying30 k0
    obtain ⟨u1, rfl⟩ := intC_of Tryz.underlying30 k1
    obtain ⟨u2, rfl⟩ := intC_of Tryz.underlying30 k2
    obtain ⟨u3, rfl⟩ := intC_of Tryz.underlying30 k3
    exact ⟨⟨z0, z1, z2, z3, z4, z5, z6, z7, u0, u1, u2, u3, b9⟩, rfl⟩
set_option maxRecDepth 10000 in
theorem asks_of {a : Option Addr} {len cap : Nat} {d : DataW H} {p : List MemPlace} (h : DataW.Trod enc Tryz.prog w 0 (fun _ => true) held 45 (.slice a len cap) d p) : IsCalls w a len := by
  obtain ⟨fuel, hf⟩ := h
  rcases Go.Deep.open_slice Tryz.underlying45 hf with ⟨hcs, _⟩ | ⟨x, l, cp, m, n, D, Pl, hcs, _, hl, _, hmm, _, hcell⟩
  · simp [Value.cells] at hcs
    obtain ⟨rfl, rfl, rfl⟩ := hcs
    intro i hi
    omega
  · simp [Value.cells] at hcs
    obtain ⟨rfl, rfl, rfl⟩ := hcs
    simp only [if_true] at hmm
    intro i hi
    obtain ⟨cs, h1, h2⟩ := hcell i (by omega)
    rw [Tryz.cellsCall] at h1
    obtain ⟨_, hlen, hc⟩ := World.cells?_some h1
    obtain ⟨xs, k, _, _, _, hxl, hf⟩ := DataW.trod_struct Tryz.underlying52 h2
    have hxl' : xs.length = 6 := hxl
    match cs, hlen with
    | [c0, c1, c2, c3, c4, c5, c6, c7, c8, c9, c10, c11, c12, c13, c14, c15, c16, c17], _ =>
      obtain ⟨y0, e0⟩ := someC_of (l := xs) (i := 0) (by omega)
      have f0 : DataW.trod enc Tryz.prog w 0 (fun _ => true) held k 3 (([c0, c1, c2, c3, c4, c5, c6, c7, c8, c9, c10, c11, c12, c13, c14, c15, c16, c17].drop 0).take (Tryz.prog.cellsOf 3)) = some y0 := (hf 0 _ rfl).trans e0
      rw [Tryz.cellsIntC] at f0
      have f0 : DataW.trod enc Tryz.prog w 0 (fun _ => true) held k 3 [c0] = some y0 := f0
      obtain ⟨y1, e1⟩ := someC_of (l := xs) (i := 1) (by omega)
      have f1 : DataW.trod enc Tryz.prog w 0 (fun _ => true) held k 3 (([c0, c1, c2, c3, c4, c5, c6, c7, c8, c9, c10, c11, c12, c13, c14, c15, c16, c17].drop 1).take (Tryz.prog.cellsOf 3)) = some y1 := (hf 1 _ rfl).trans e1
      rw [Tryz.cellsIntC] at f1
      have f1 : DataW.trod enc Tryz.prog w 0 (fun _ => true) held k 3 [c1] = some y1 := f1
      obtain ⟨y2, e2⟩ := someC_of (l := xs) (i := 2) (by omega)
      have f2 : DataW.trod enc Tryz.prog w 0 (fun _ => true) held k 3 (([c0, c1, c2, c3, c4, c5, c6, c7, c8, c9, c10, c11, c12, c13, c14, c15, c16, c17].drop 2).take (Tryz.prog.cellsOf 3)) = some y2 := (hf 2 _ rfl).trans e2
      rw [Tryz.cellsIntC] at f2
      have f2 : DataW.trod enc Tryz.prog w 0 (fun _ => true) held k 3 [c2] = some y2 := f2
      obtain ⟨y3, e3⟩ := someC_of (l := xs) (i := 3) (by omega)
      have f3 : DataW.trod enc Tryz.prog w 0 (fun _ => true) held k 3 (([c0, c1, c2, c3, c4, c5, c6, c7, c8, c9, c10, c11, c12, c13, c14, c15, c16, c17].drop 3).take (Tryz.prog.cellsOf 3)) = some y3 := (hf 3 _ rfl).trans e3
      rw [Tryz.cellsIntC] at f3
      have f3 : DataW.trod enc Tryz.prog w 0 (fun _ => true) held k 3 [c3] = some y3 := f3
      obtain ⟨y4, e4⟩ := someC_of (l := xs) (i := 4) (by omega)
      have f4 : DataW.trod enc Tryz.prog w 0 (fun _ => true) held k 30 (([c0, c1, c2, c3, c4, c5, c6, c7, c8, c9, c10, c11, c12, c13, c14, c15, c16, c17].drop 4).take (Tryz.prog.cellsOf 30)) = some y4 := (hf 4 _ rfl).trans e4
      rw [Tryz.cellsU32C] at f4
      have f4 : DataW.trod enc Tryz.prog w 0 (fun _ => true) held k 30 [c4] = some y4 := f4
      obtain ⟨y5, e5⟩ := someC_of (l := xs) (i := 5) (by omega)
      have f5 : DataW.trod enc Tryz.prog w 0 (fun _ => true) held k 34 (([c0, c1, c2, c3, c4, c5, c6, c7, c8, c9, c10, c11, c12, c13, c14, c15, c16, c17].drop 5).take (Tryz.prog.cellsOf 34)) = some y5 := (hf 5 _ rfl).trans e5
      rw [Tryz.cellsMsgC] at f5
      have f5 : DataW.trod enc Tryz.prog w 0 (fun _ => true) held k 34 [c5, c6, c7, c8, c9, c10, c11, c12, c13, c14, c15, c16, c17] = some y5 := f5
      obtain ⟨z0, rfl⟩ := intC_of Tryz.underlying3 f0
      obtain ⟨z1, rfl⟩ := intC_of Tryz.underlying3 f1
      obtain ⟨z2, rfl⟩ := intC_of Tryz.underlying3 f2
      obtain ⟨z3, rfl⟩ := intC_of Tryz.underlying3 f3
      obtain ⟨z4, rfl⟩ := intC_of Tryz.underlying30 f4
      obtain ⟨M, hM⟩ := msgC_of f5
      refine ⟨x, ⟨z0, z1, z2, z3, z4, M⟩, rfl, ?_⟩
      intro j v hv
      have hcs2 : (Ask14.cells ⟨z0, z1, z2, z3, z4, M⟩) = [.int .i64 z0, .int .i64 z1, .int .i64 z2, .int .i64 z3, .int .u32 z4, c5, c6, c7, c8, c9, c10, c11, c12, c13, c14, c15, c16, c17] := by
        unfold Ask14.cells
        rw [← hM]
        rfl
      rw [hcs2] at hv
      have hj := (List.getElem?_eq_some_iff.1 hv).1
      have h5 := hc j (by simpa using hj)
      rw [Go.Deep.add_add] at h5
      rw [h5]
      exact hv
end
end Go.Proofs.YtfaihaknibmcpaaGreatDoor
namespace Go.Proofs.YtfaihaknibmcpaaGreatDoor
open Go.ChangeShapes Go.WideShapes Go.RowKit

theorem Tryz.cellsLineA : Tryz.prog.cellsOf 32 = 4 := by kernel_rfl
theorem Tryz.cellsU32A : Tryz.prog.cellsOf 30 = 1 := by kernel_rfl
theorem intA_of {H : Type} {enc : TypeId × Value → H} {P : Program} {w : World} {base : Nat} {spare : Nat → Bool} {held : Bool} {k : IntKind} {t : TypeId} {c : Value} {n : Nat} {y : DataW H × List MemPlace} (ht : P.underlying t = some (.int k)) (h : DataW.trod enc P w base spare held n t [c] = some y) : ∃ z, c = .int k z := by
  obtain ⟨z, e, _⟩ := DataW.trod_int ht h
  exact ⟨z, by simpa using e⟩
theorem okWide_arr {P : Program} {w : World} {r : Reach} {b0 : Nat} {t : TypeId} {v : Value} {n : Nat} {e : TypeId} (ht : P.underlying t = some (.array n e)) (h : Value.okWide P w r b0 t v) : ∃ cs, v = .agg cs ∧ cs.size = P.cellsOf t := by
  simp only [Value.okWide, ht] at h
  obtain ⟨cs, h1, h2, _⟩ := h
  exact ⟨cs, h1, h2⟩
theorem someA_of {α : Type} {l : List α} {i : Nat} (h : i < l.length) : ∃ y, l[i]? = some y := ⟨_, List.getElem?_eq_getElem h⟩
section
variable {H : Type} {enc : TypeId × Value → H} {w : World} {base : Nat} {spare : Nat → Bool} {held : Bool}
set_option maxRecDepth 10000 in
theorem line_of {r : Reach} {b0 : Nat} {v : Value} {d : DataW H} {p : List MemPlace} (hv : Value.okWide Tryz.prog w r b0 32 v) (h : DataW.Trod enc Tryz.prog w base spare held 32 v d p) : ∃ d0 d1 d2 d3 : Int, v = .agg #[.int .u32 d0, .int .u32 d1, .int .u32 d2, .int .u32 d3] := by
  obtain ⟨cs, rfl, hsz⟩ := okWide_arr Tryz.underlying32 hv
  obtain ⟨c4, c5, c6, c7, rfl⟩ := Go.Joins.array4 (hsz.trans Tryz.cellsLineA)
  obtain ⟨fuel, hf⟩ := h
  have hf : DataW.trod enc Tryz.prog w base spare held fuel 32 [c4, c5, c6, c7] = some (d, p) := by simpa [Value.cells] using hf
  obtain ⟨us, m, _, _, _, hul, hu⟩ := DataW.trod_array Tryz.underlying32 hf
  obtain ⟨g0, d0⟩ := someA_of (l := us) (i := 0) (by omega)
  obtain ⟨g1, d1⟩ := someA_of (l := us) (i := 1) (by omega)
  obtain ⟨g2, d2⟩ := someA_of (l := us) (i := 2) (by omega)
  obtain ⟨g3, d3⟩ := someA_of (l := us) (i := 3) (by omega)
  have k0 := (hu 0 (by omega)).trans d0
  rw [Tryz.cellsU32A] at k0
  have k0 : DataW.trod enc Tryz.prog w base spare held m 30 [c4] = some g0 := k0
  have k1 := (hu 1 (by omega)).trans d1
  rw [Tryz.cellsU32A] at k1
  have k1 : DataW.trod enc Tryz.prog w base spare held m 30 [c5] = some g1 := k1
  have k2 := (hu 2 (by omega)).trans d2
  rw [Tryz.cellsU32A] at k2
  have k2 : DataW.trod enc Tryz.prog w base spare held m 30 [c6] = some g2 := k2
  have k3 := (hu 3 (by omega)).trans d3
  rw [Tryz.cellsU32A] at k3
  have k3 : DataW.trod enc Tryz.prog w base spare held m 30 [c7] = some g3 := k3
  obtain ⟨u0, rfl⟩ := intA_of Tryz.underlying30 k0
  obtain ⟨u1, rfl⟩ := intA_of Tryz.underlying30 k1
  obtain ⟨u2, rfl⟩ := intA_of Tryz.underlying30 k2
  obtain ⟨u3, rfl⟩ := intA_of Tryz.underlying30 k3
  exact ⟨u0, u1, u2, u3, rfl⟩
end
theorem Tryz.cellsCfg : Tryz.prog.cellsOf 29 = 9 := by kernel_rfl
theorem Tryz.cellsIntA : Tryz.prog.cellsOf 3 = 1 := by kernel_rfl
theorem array9 {cs : Array Value} (h : cs.size = 9) : ∃ a b c d e f g i j, cs = #[a, b, c, d, e, f, g, i, j] := by
  obtain ⟨l⟩ := cs
  match l, h with
  | [a, b, c, d, e, f, g, i, j], _ => exact ⟨a, b, c, d, e, f, g, i, j, rfl⟩
section
variable {H : Type} {enc : TypeId × Value → H} {w : World} {base : Nat} {spare : Nat → Bool} {held : Bool}
set_option maxRecDepth 10000 in
theorem cfg_of {r : Reach} {b0 : Nat} {v : Value} {d : DataW H} {p : List MemPlace} (hv : Value.okWide Tryz.prog w r b0 29 v) (h : DataW.Trod enc Tryz.prog w base spare held 29 v d p) : ∃ c : Cfg, v = c.val := by
  obtain ⟨cs, rfl, hsz⟩ := okWide_struct Tryz.underlying29 hv
  obtain ⟨c0, c1, c2, c3, c4, c5, c6, c7, c8, rfl⟩ := array9 (hsz.trans Tryz.cellsCfg)
  obtain ⟨fuel, hf⟩ := h
  have hf : DataW.trod enc Tryz.prog w base spare held fuel 29 [c0, c1, c2, c3, c4, c5, c6, c7, c8] = some (d, p) := by simpa [Value.cells] using hf
  obtain ⟨xs, k, _, _, hl, hxl, hff⟩ := DataW.trod_struct Tryz.underlying29 hf
  have hxl' : xs.length = 9 := hxl
  obtain ⟨y0, e0⟩ := someA_of (l := xs) (i := 0) (by omega)
  obtain ⟨y1, e1⟩ := someA_of (l := xs) (i := 1) (by omega)
  obtain ⟨y2, e2⟩ := someA_of (l := xs) (i := 2) (by omega)
  obtain ⟨y3, e3⟩ := someA_of (l := xs) (i := 3) (by omega)
  obtain ⟨y4, e4⟩ := someA_of (l := xs) (i := 4) (by omega)
  obtain ⟨y5, e5⟩ := someA_of (l := xs) (i := 5) (by omega)
  obtain ⟨y6, e6⟩ := someA_of (l := xs) (i := 6) (by omega)
  obtain ⟨y7, e7⟩ := someA_of (l := xs) (i := 7) (by omega)
  obtain ⟨y8, e8⟩ := someA_of (l := xs) (i := 8) (by omega)
  have f0 : DataW.trod enc Tryz.prog w base spare held k 3 (([c0, c1, c2, c3, c4, c5, c6, c7, c8].drop 0).take (Tryz.prog.cellsOf 3)) = some y0 := (hff 0 _ rfl).trans e0
  rw [Tryz.cellsIntA] at f0
  have f0 : DataW.trod enc Tryz.prog w base spare held k 3 [c0] = some y0 := f0
  have f1 : DataW.trod enc Tryz.prog w base spare held k 3 (([c0, c1, c2, c3, c4, c5, c6, c7, c8].drop 1).take (Tryz.prog.cellsOf 3)) = some y1 := (hff 1 _ rfl).trans e1
  rw [Tryz.cellsIntA] at f1
  have f1 : DataW.trod enc Tryz.prog w base spare held k 3 [c1] = some y1 := f1
  have f2 : DataW.trod enc Tryz.prog w base spare held k 3 (([c0, c1, c2, c3, c4, c5, c6, c7, c8].drop 2).take (Tryz.prog.cellsOf 3)) = some y2 := (hff 2 _ rfl).trans e2
  rw [Tryz.cellsIntA] at f2
  have f2 : DataW.trod enc Tryz.prog w base spare held k 3 [c2] = some y2 := f2
  have f3 : DataW.trod enc Tryz.prog w base spare held k 3 (([c0, c1, c2, c3, c4, c5, c6, c7, c8].drop 3).take (Tryz.prog.cellsOf 3)) = some y3 := (hff 3 _ rfl).trans e3
  rw [Tryz.cellsIntA] at f3
  have f3 : DataW.trod enc Tryz.prog w base spare held k 3 [c3] = some y3 := f3
  have f4 : DataW.trod enc Tryz.prog w base spare held k 3 (([c0, c1, c2, c3, c4, c5, c6, c7, c8].drop 4).take (Tryz.prog.cellsOf 3)) = some y4 := (hff 4 _ rfl).trans e4
  rw [Tryz.cellsIntA] at f4
  have f4 : DataW.trod enc Tryz.prog w base spare held k 3 [c4] = some y4 := f4
  have f5 : DataW.trod enc Tryz.prog w base spare held k 3 (([c0, c1, c2, c3, c4, c5, c6, c7, c8].drop 5).take (Tryz.prog.cellsOf 3)) = some y5 := (hff 5 _ rfl).trans e5
  rw [Tryz.cellsIntA] at f5
  have f5 : DataW.trod enc Tryz.prog w base spare held k 3 [c5] = some y5 := f5
  have f6 : DataW.trod enc Tryz.prog w base spare held k 3 (([c0, c1, c2, c3, c4, c5, c6, c7, c8].drop 6).take (Tryz.prog.cellsOf 3)) = some y6 := (hff 6 _ rfl).trans e6
  rw [Tryz.cellsIntA] at f6
  have f6 : DataW.trod enc Tryz.prog w base spare held k 3 [c6] = some y6 := f6
  have f7 : DataW.trod enc Tryz.prog w base spare held k 3 (([c0, c1, c2, c3, c4, c5, c6, c7, c8].drop 7).take (Tryz.prog.cellsOf 3)) = some y7 := (hff 7 _ rfl).trans e7
  rw [Tryz.cellsIntA] at f7
  have f7 : DataW.trod enc Tryz.prog w base spare held k 3 [c7] = some y7 := f7
  have f8 : DataW.trod enc Tryz.prog w base spare held k 3 (([c0, c1, c2, c3, c4, c5, c6, c7, c8].drop 8).take (Tryz.prog.cellsOf 3)) = some y8 := (hff 8 _ rfl).trans e8
  rw [Tryz.cellsIntA] at f8
  have f8 : DataW.trod enc Tryz.prog w base spare held k 3 [c8] = some y8 := f8
  obtain ⟨z0, rfl⟩ := intA_of Tryz.underlying3 f0
  obtain ⟨z1, rfl⟩ := intA_of Tryz.underlying3 f1
  obtain ⟨z2, rfl⟩ := intA_of Tryz.underlying3 f2
  obtain ⟨z3, rfl⟩ := intA_of Tryz.underlying3 f3
  obtain ⟨z4, rfl⟩ := intA_of Tryz.underlying3 f4
  obtain ⟨z5, rfl⟩ := intA_of Tryz.underlying3 f5
  obtain ⟨z6, rfl⟩ := intA_of Tryz.underlying3 f6
  obtain ⟨z7, rfl⟩ := intA_of Tryz.underlying3 f7
  obtain ⟨z8, rfl⟩ := intA_of Tryz.underlying3 f8
  exact ⟨⟨z0, z1, z2, z3, z4, z5, z6, z7, z8⟩, rfl⟩
end
end Go.Proofs.YtfaihaknibmcpaaGreatDoor
