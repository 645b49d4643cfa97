/- What a law's row wants of an argument that is a list of calls. -/
import Derived.Test.YtjnoaidceddpjaaDoorArrR
import Derived.Deep.Slices
import Derived.OpenShut
namespace Go.Proofs.YtjnoaidceddpjaaDoor
open Go.ChangeShapes Go.WideShapes Go.RowKit

/-- A call, as the law's list has it. -/
structure Ask6 where
  kind : Int
  line : Int
  e : Ent
  a : Option Addr
  len : Nat
  cap : Nat
  zs : List Int
def Ask6.cells (q : Ask6) : List Value := .int .i64 q.kind :: .int .i64 q.line :: (q.e.cells ++ [.slice q.a q.len q.cap])
def AskAt (w : World) (x : Addr) (i : Nat) (q : Ask6) : Prop := (∀ j v, q.cells[j]? = some v → w.cell? (x.add (i * 13 + j)) = some v) ∧ IsRow .i64 w q.a q.len q.cap q.zs
def IsAsks (w : World) (A : Option Addr) (len : Nat) : Prop := ∀ i, i < len → ∃ x q, A = some x ∧ AskAt w x i q
section
variable {H : Type} {enc : TypeId × Value → H} {P : Program} {w : World} {base : Nat} {spare : Nat → Bool} {held : Bool}
theorem int_of {k : IntKind} {t : TypeId} {c : Value} {n : Nat} {y : DataW H × List MemPlace} (ht : P.underlying t = some (.int k)) (h : DataW.trod enc P w base spare held n t [c] = some y) : ∃ z, c = .int k z := by
  obtain ⟨z, e, _⟩ := DataW.trod_int ht h
  exact ⟨z, by simpa using e⟩
theorem bool_of {t : TypeId} {c : Value} {n : Nat} {y : DataW H × List MemPlace} (ht : P.underlying t = some .bool) (h : DataW.trod enc P w base spare held n t [c] = some y) : ∃ z, c = .bool z := by
  obtain ⟨z, e, _⟩ := DataW.trod_bool ht h
  exact ⟨z, by simpa using e⟩
end
theorem some_of {α : Type} {l : List α} {i : Nat} (h : i < l.length) : ∃ y, l[i]? = some y := ⟨_, List.getElem?_eq_getElem h⟩
theorem Tryd.cellsAsk : Tryd.prog.cellsOf 47 = 13 := by kernel_rfl
theorem Tryd.cellsEnt : Tryd.prog.cellsOf 32 = 10 := by kernel_rfl
theorem Tryd.cellsLine : Tryd.prog.cellsOf 30 = 4 := by kernel_rfl
theorem Tryd.cellsInt : Tryd.prog.cellsOf 3 = 1 := by kernel_rfl
theorem Tryd.cellsBool : Tryd.prog.cellsOf 4 = 1 := by kernel_rfl
theorem Tryd.cellsU32 : Tryd.prog.cellsOf 28 = 1 := by kernel_rfl
theorem Tryd.cellsInts : Tryd.prog.cellsOf 38 = 1 := by kernel_rfl
section
variable {H : Type} {enc : TypeId × Value → H} {w : World} {base : Nat} {spare : Nat → Bool} {held : Bool}
set_option maxRecDepth 10000 in
theorem ent_of {n : Nat} {cs : List Value} {y : DataW H × List MemPlace} (h : DataW.trod enc Tryd.prog w base spare held n 32 cs = some y) : ∃ e : Ent, cs = e.cells := by
  obtain ⟨xs, k, _, _, hl, hxl, hf⟩ := DataW.trod_struct Tryd.underlying32 h
  rw [Tryd.cellsEnt] at hl
  match cs, hl with
  | [c0, c1, c2, c3, c4, c5, c6, c7, c8, c9], _ =>
    have hxl' : xs.length = 7 := hxl
    obtain ⟨y0, e0⟩ := some_of (l := xs) (i := 0) (by omega)
    obtain ⟨y1, e1⟩ := some_of (l := xs) (i := 1) (by omega)
    obtain ⟨y2, e2⟩ := some_of (l := xs) (i := 2) (by omega)
    obtain ⟨y3, e3⟩ := some_of (l := xs) (i := 3) (by omega)
    obtain ⟨y4, e4⟩ := some_of (l := xs) (i := 4) (by omega)
    obtain ⟨y5, e5⟩ := some_of (l := xs) (i := 5) (by omega)
    obtain ⟨y6, e6⟩ := some_of (l := xs) (i := 6) (by omega)
    have f0 : DataW.trod enc Tryd.prog w base spare held k 3 (([c0, c1, c2, c3, c4, c5, c6, c7, c8, c9].drop 0).take (Tryd.prog.cellsOf 3)) = some y0 := (hf 0 _ rfl).trans e0
    rw [Tryd.cellsInt] at f0
    have f0 : DataW.trod enc Tryd.prog w base spare held k 3 [c0] = some y0 := f0
    have f1 : DataW.trod enc Tryd.prog w base spare held k 3 (([c0, c1, c2, c3, c4, c5, c6, c7, c8, c9].drop 1).take (Tryd.prog.cellsOf 3)) = some y1 := (hf 1 _ rfl).trans e1
    rw [Tryd.cellsInt] at f1
    have f1 : DataW.trod enc Tryd.prog w base spare held k 3 [c1] = some y1 := f1
    have f2 : DataW.trod enc Tryd.prog w base spare held k 3 (([c0, c1, c2, c3, c4, c5, c6, c7, c8, c9].drop 2).take (Tryd.prog.cellsOf 3)) = some y2 := (hf 2 _ rfl).trans e2
    rw [Tryd.cellsInt] at f2
    have f2 : DataW.trod enc Tryd.prog w base spare held k 3 [c2] = some y2 := f2
    have f3 : DataW.trod enc Tryd.prog w base spare held k 3 (([c0, c1, c2, c3, c4, c5, c6, c7, c8, c9].drop 3).take (Tryd.prog.cellsOf 3)) = some y3 := (hf 3 _ rfl).trans e3
    rw [Tryd.cellsInt] at f3
    have f3 : DataW.trod enc Tryd.prog w base spare held k 3 [c3] = some y3 := f3
    have f4 : DataW.trod enc Tryd.prog w base spare held k 30 (([c0, c1, c2, c3, c4, c5, c6, c7, c8, c9].drop 4).take (Tryd.prog.cellsOf 30)) = some y4 := (hf 4 _ rfl).trans e4
    rw [Tryd.cellsLine] at f4
    have f4 : DataW.trod enc Tryd.prog w base spare held k 30 [c4, c5, c6, c7] = some y4 := f4
    have f5 : DataW.trod enc Tryd.prog w base spare held k 4 (([c0, c1, c2, c3, c4, c5, c6, c7, c8, c9].drop 8).take (Tryd.prog.cellsOf 4)) = some y5 := (hf 5 _ rfl).trans e5
    rw [Tryd.cellsBool] at f5
    have f5 : DataW.trod enc Tryd.prog w base spare held k 4 [c8] = some y5 := f5
    have f6 : DataW.trod enc Tryd.prog w base spare held k 4 (([c0, c1, c2, c3, c4, c5, c6, c7, c8, c9].drop 9).take (Tryd.prog.cellsOf 4)) = some y6 := (hf 6 _ rfl).trans e6
    rw [Tryd.cellsBool] at f6
    have f6 : DataW.trod enc Tryd.prog w base spare held k 4 [c9] = some y6 := f6
    obtain ⟨z0, rfl⟩ := int_of Tryd.underlying3 f0
    obtain ⟨z1, rfl⟩ := int_of Tryd.underlying3 f1
    obtain ⟨z2, rfl⟩ := int_of Tryd.underlying3 f2
    obtain ⟨z3, rfl⟩ := int_of Tryd.underlying3 f3
    obtain ⟨b5, rfl⟩ := bool_of Tryd.underlying4 f5
    obtain ⟨b6, rfl⟩ := bool_of Tryd.underlying4 f6
    obtain ⟨us, m, _, _, _, hul, hu⟩ := DataW.trod_array Tryd.underlying30 f4
    obtain ⟨g0, d0⟩ := some_of (l := us) (i := 0) (by omega)
    obtain ⟨g1, d1⟩ := some_of (l := us) (i := 1) (by omega)
    obtain ⟨g2, d2⟩ := some_of (l := us) (i := 2) (by omega)
    obtain ⟨g3, d3⟩ := some_of (l := us) (i := 3) (by omega)
    have k0 : DataW.trod enc Tryd.prog w base spare held m 28 (([c4, c5, c6, c7].drop (0 * Tryd.prog.cellsOf 28)).take (Tryd.prog.cellsOf 28)) = some g0 := (hu 0 (by omega)).trans d0
    rw [Tryd.cellsU32] at k0
    have k0 : DataW.trod enc Tryd.prog w base spare held m 28 [c4] = some g0 := k0
    have k1 : DataW.trod enc Tryd.prog w base spare held m 28 (([c4, c5, c6, c7].drop (1 * Tryd.prog.cellsOf 28)).take (Tryd.prog.cellsOf 28)) = some g1 := (hu 1 (by omega)).trans d1
    rw [Tryd.cellsU32] at k1
    have k1 : DataW.trod enc Tryd.prog w base spare held m 28 [c5] = some g1 := k1
    have k2 : DataW.trod enc Tryd.prog w base spare held m 28 (([c4, c5, c6, c7].drop (2 * Tryd.prog.cellsOf 28)).take (Tryd.prog.cellsOf 28)) = some g2 := (hu 2 (by omega)).trans d2
    rw [Tryd.cellsU32] at k2
    have k2 : DataW.trod enc Tryd.prog w base spare held m 28 [c6] = some g2 := k2
    have k3 : DataW.trod enc Tryd.prog w base spare held m 28 (([c4, c5, c6, c7].drop (3 * Tryd.prog.cellsOf 28)).take (Tryd.prog.cellsOf 28)) = some g3 := (hu 3 (by omega)).trans d3
    rw [Tryd.cellsU32] at k3
    have k3 : DataW.trod enc Tryd.prog w base spare held m 28 [c7] = some g3 := k3
    obtain ⟨u0, rfl⟩ := int_of Tryd.underlying28 k0
    obtain ⟨u1, rfl⟩ := int_of Tryd.underlying28 k1
    obtain ⟨u2, rfl⟩ := int_of Tryd.underlying28 k2
    obtain ⟨u3, rfl⟩ := int_of Tryd.underlying28 k3
    exact ⟨⟨z0, z1, z2, z3, u0, u1, u2, u3, b5, b6⟩, rfl⟩
theorem row_of {n : Nat} {c : Value} {y : DataW H × List MemPlace} (h : DataW.trod enc Tryd.prog w 0 (fun _ => true) held n 38 [c] = some y) : ∃ a len cap zs, c = .slice a len cap ∧ IsRow .i64 w a len cap zs := by
  rcases open_ints Tryd.underlying38 Tryd.underlying3 Tryd.cellsInt h with ⟨hcs, _⟩ | ⟨x, l, cp, zs, hcs, _, hl, hm, hz, _, hcell, hwz⟩
  · exact ⟨none, 0, 0, [], by simpa using hcs, .inl ⟨rfl, rfl, rfl, rfl⟩⟩
  · exact ⟨some x, l, cp, zs, by simpa using hcs, .inr ⟨x, rfl, hl, hm, by simpa using hz, hcell, hwz⟩⟩
set_option maxRecDepth 10000 in
theorem asks_of {a : Option Addr} {len cap : Nat} {d : DataW H} {p : List MemPlace} (h : DataW.Trod enc Tryd.prog w 0 (fun _ => true) held 43 (.slice a len cap) d p) : IsAsks w a len := by
  obtain ⟨fuel, hf⟩ := h
  rcases Go.Deep.open_slice Tryd.underlying43 hf with ⟨hcs, _⟩ | ⟨x, l, cp, m, n, D, Pl, hcs, _, hl, _, hmm, _, hcell⟩
  · simp [Value.cells] at hcs
    obtain ⟨rfl, rfl, rfl⟩ := hcs
    intro i hi
    omega
  · simp [Value.cells] at hcs
    obtain ⟨rfl, rfl, rfl⟩ := hcs
    simp only [if_true] at hmm
    intro i hi
    obtain ⟨cs, h1, h2⟩ := hcell i (by omega)
    rw [Tryd.cellsAsk] at h1
    obtain ⟨_, hlen, hc⟩ := World.cells?_some h1
    obtain ⟨xs, k, _, _, _, hxl, hf⟩ := DataW.trod_struct Tryd.underlying47 h2
    have hxl' : xs.length = 4 := hxl
    match cs, hlen with
    | [c0, c1, c2, c3, c4, c5, c6, c7, c8, c9, c10, c11, c12], _ =>
      obtain ⟨y0, e0⟩ := some_of (l := xs) (i := 0) (by omega)
      obtain ⟨y1, e1⟩ := some_of (l := xs) (i := 1) (by omega)
      obtain ⟨y2, e2⟩ := some_of (l := xs) (i := 2) (by omega)
      obtain ⟨y3, e3⟩ := some_of (l := xs) (i := 3) (by omega)
      have f0 : DataW.trod enc Tryd.prog w 0 (fun _ => true) held k 3 (([c0, c1, c2, c3, c4, c5, c6, c7, c8, c9, c10, c11, c12].drop 0).take (Tryd.prog.cellsOf 3)) = some y0 := (hf 0 _ rfl).trans e0
      rw [Tryd.cellsInt] at f0
      have f0 : DataW.trod enc Tryd.prog w 0 (fun _ => true) held k 3 [c0] = some y0 := f0
      have f1 : DataW.trod enc Tryd.prog w 0 (fun _ => true) held k 3 (([c0, c1, c2, c3, c4, c5, c6, c7, c8, c9, c10, c11, c12].drop 1).take (Tryd.prog.cellsOf 3)) = some y1 := (hf 1 _ rfl).trans e1
      rw [Tryd.cellsInt] at f1
      have f1 : DataW.trod enc Tryd.prog w 0 (fun _ => true) held k 3 [c1] = some y1 := f1
      have f2 : DataW.trod enc Tryd.prog w 0 (fun _ => true) held k 32 (([c0, c1, c2, c3, c4, c5, c6, c7, c8, c9, c10, c11, c12].drop 2).take (Tryd.prog.cellsOf 32)) = some y2 := (hf 2 _ rfl).trans e2
      rw [Tryd.cellsEnt] at f2
      have f2 : DataW.trod enc Tryd.prog w 0 (fun _ => true) held k 32 [c2, c3, c4, c5, c6, c7, c8, c9, c10, c11] = some y2 := f2
      have f3 : DataW.trod enc Tryd.prog w 0 (fun _ => true) held k 38 (([c0, c1, c2, c3, c4, c5, c6, c7, c8, c9, c10, c11, c12].drop 12).take (Tryd.prog.cellsOf 38)) = some y3 := (hf 3 _ rfl).trans e3
      rw [Tryd.cellsInts] at f3
      have f3 : DataW.trod enc Tryd.prog w 0 (fun _ => true) held k 38 [c12] = some y3 := f3
      obtain ⟨z0, rfl⟩ := int_of Tryd.underlying3 f0
      obtain ⟨z1, rfl⟩ := int_of Tryd.underlying3 f1
      obtain ⟨e, he⟩ := ent_of f2
      obtain ⟨b, bl, bc, zs, rfl, hrow⟩ := row_of f3
      refine ⟨x, ⟨z0, z1, e, b, bl, bc, zs⟩, rfl, ?_, hrow⟩
      intro j v hv
      have hcs2 : (Ask6.cells ⟨z0, z1, e, b, bl, bc, zs⟩) = [.int .i64 z0, .int .i64 z1, c2, c3, c4, c5, c6, c7, c8, c9, c10, c11, .slice b bl bc] := by
        unfold Ask6.cells
        rw [← he]
        rfl
      rw [hcs2] at hv
      have hj := (List.getElem?_eq_some_iff.1 hv).1
      have h5 := hc j (by simpa using hj)
      rw [Go.Deep.add_add] at h5
      rw [h5]
      exact hv
end
end Go.Proofs.YtjnoaidceddpjaaDoor
