/- What the row of a law of misses wants of its list of calls. -/
import Derived.Test.YtjnoaidceddpjaaDoorRowKit
import Derived.Deep.Slices
import Derived.OpenShut
namespace Go.Proofs.YtjnoaidceddpjaaDoor
open Go.ChangeShapes Go.WideShapes Go.RowKit

/-- A law's calls: three numbers each. -/
def IsAsks7 (w : World) (A : Option Addr) (len : Nat) : Prop := ∀ i, i < len → ∃ x, ∃ a b c : Int, A = some x ∧ ∀ j v, (#[Value.int .i64 a, .int .i64 b, .int .i64 c] : Array Value).toList[j]? = some v → w.cell? ((x.add (i * 3)).add j) = some v
theorem some_of7 {α : Type} {l : List α} {i : Nat} (h : i < l.length) : ∃ y, l[i]? = some y := ⟨_, List.getElem?_eq_getElem h⟩
theorem Tryd.cellsAsk7 : Tryd.prog.cellsOf 83 = 3 := by kernel_rfl
theorem Tryd.cellsInt7 : Tryd.prog.cellsOf 3 = 1 := by kernel_rfl
section
variable {H : Type} {enc : TypeId × Value → H} {w : World} {base : Nat} {spare : Nat → Bool} {held : Bool}
theorem int_of7 {c : Value} {n : Nat} {y : DataW H × List MemPlace} (h : DataW.trod enc Tryd.prog w base spare held n 3 [c] = some y) : ∃ z, c = .int .i64 z := by
  obtain ⟨z, e, _⟩ := DataW.trod_int Tryd.underlying3 h
  exact ⟨z, by simpa using e⟩
set_option maxRecDepth 10000 in
theorem asks_of {a : Option Addr} {len cap : Nat} {d : DataW H} {p : List MemPlace} (h : DataW.Trod enc Tryd.prog w 0 (fun _ => true) held 78 (.slice a len cap) d p) : IsAsks7 w a len := by
  obtain ⟨fuel, hf⟩ := h
  rcases Go.Deep.open_slice Tryd.underlying78 hf with ⟨hcs, _⟩ | ⟨x, l, cp, m, n, D, Pl, hcs, _, hl, _, hmm, _, hcell⟩
  · simp [Value.cells] at hcs
    obtain ⟨rfl, rfl, rfl⟩ := hcs
    intro i hi
    omega
  · simp [Value.cells] at hcs
    obtain ⟨rfl, rfl, rfl⟩ := hcs
    simp only [if_true] at hmm
    intro i hi
    obtain ⟨cs, h1, h2⟩ := hcell i (by omega)
    rw [Tryd.cellsAsk7] at h1
    obtain ⟨_, hlen, hc⟩ := World.cells?_some h1
    obtain ⟨xs, k, _, _, _, hxl, hf⟩ := DataW.trod_struct Tryd.underlying83 h2
    have hxl' : xs.length = 3 := hxl
    match cs, hlen with
    | [c0, c1, c2], _ =>
      obtain ⟨y0, e0⟩ := some_of7 (l := xs) (i := 0) (by omega)
      obtain ⟨y1, e1⟩ := some_of7 (l := xs) (i := 1) (by omega)
      obtain ⟨y2, e2⟩ := some_of7 (l := xs) (i := 2) (by omega)
      have f0 : DataW.trod enc Tryd.prog w 0 (fun _ => true) held k 3 (([c0, c1, c2].drop 0).take (Tryd.prog.cellsOf 3)) = some y0 := (hf 0 _ rfl).trans e0
      rw [Tryd.cellsInt7] at f0
      have f0 : DataW.trod enc Tryd.prog w 0 (fun _ => true) held k 3 [c0] = some y0 := f0
      have f1 : DataW.trod enc Tryd.prog w 0 (fun _ => true) held k 3 (([c0, c1, c2].drop 1).take (Tryd.prog.cellsOf 3)) = some y1 := (hf 1 _ rfl).trans e1
      rw [Tryd.cellsInt7] at f1
      have f1 : DataW.trod enc Tryd.prog w 0 (fun _ => true) held k 3 [c1] = some y1 := f1
      have f2 : DataW.trod enc Tryd.prog w 0 (fun _ => true) held k 3 (([c0, c1, c2].drop 2).take (Tryd.prog.cellsOf 3)) = some y2 := (hf 2 _ rfl).trans e2
      rw [Tryd.cellsInt7] at f2
      have f2 : DataW.trod enc Tryd.prog w 0 (fun _ => true) held k 3 [c2] = some y2 := f2
      obtain ⟨z0, rfl⟩ := int_of7 f0
      obtain ⟨z1, rfl⟩ := int_of7 f1
      obtain ⟨z2, rfl⟩ := int_of7 f2
      refine ⟨x, z0, z1, z2, rfl, ?_⟩
      intro j v hv
      have hj := (List.getElem?_eq_some_iff.1 hv).1
      have h5 := hc j (by simpa using hj)
      rw [h5]
      exact hv
end
end Go.Proofs.YtjnoaidceddpjaaDoor
