/- What a law's row wants of an argument that is a line's words, or a configuration. -/
import Derived.Test.YtfaihaknibmcpaaGreatDoorRowKit
import Derived.Test.YtfaihaknibmcpaaGreatDoorNew
import Derived.Deep.Slices
import Derived.OpenShut
import Derived.Lib.SmallJoins
namespace Go.Proofs.YtfaihaknibmcpaaGreatDoor
open Go.ChangeShapes Go.WideShapes Go.RowKit

theorem Tryz.cellsLineA : Tryz.prog.cellsOf 32 = 4 := by kernel_rfl
theorem Tryz.cellsU32A : Tryz.prog.cellsOf 30 = 1 := by kernel_rfl
theorem intA_of {H : Type} {enc : TypeId × Value → H} {P : Program} {w : World} {base : Nat} {spare : Nat → Bool} {held : Bool} {k : IntKind} {t : TypeId} {c : Value} {n : Nat} {y : DataW H × List MemPlace} (ht : P.underlying t = some (.int k)) (h : DataW.trod enc P w base spare held n t [c] = some y) : ∃ z, c = .int k z := by
  obtain ⟨z, e, _⟩ := DataW.trod_int ht h
  exact ⟨z, by simpa using e⟩
theorem okWide_arr {P : Program} {w : World} {r : Reach} {b0 : Nat} {t : TypeId} {v : Value} {n : Nat} {e : TypeId} (ht : P.underlying t = some (.array n e)) (h : Value.okWide P w r b0 t v) : ∃ cs, v = .agg cs ∧ cs.size = P.cellsOf t := by
  simp only [Value.okWide, ht] at h
  obtain ⟨cs, h1, h2, _⟩ := h
  exact ⟨cs, h1, h2⟩
theorem someA_of {α : Type} {l : List α} {i : Nat} (h : i < l.length) : ∃ y, l[i]? = some y := ⟨_, List.getElem?_eq_getElem h⟩
section
variable {H : Type} {enc : TypeId × Value → H} {w : World} {base : Nat} {spare : Nat → Bool} {held : Bool}
set_option maxRecDepth 10000 in
theorem line_of {r : Reach} {b0 : Nat} {v : Value} {d : DataW H} {p : List MemPlace} (hv : Value.okWide Tryz.prog w r b0 32 v) (h : DataW.Trod enc Tryz.prog w base spare held 32 v d p) : ∃ d0 d1 d2 d3 : Int, v = .agg #[.int .u32 d0, .int .u32 d1, .int .u32 d2, .int .u32 d3] := by
  obtain ⟨cs, rfl, hsz⟩ := okWide_arr Tryz.underlying32 hv
  obtain ⟨c4, c5, c6, c7, rfl⟩ := Go.Joins.array4 (hsz.trans Tryz.cellsLineA)
  obtain ⟨fuel, hf⟩ := h
  have hf : DataW.trod enc Tryz.prog w base spare held fuel 32 [c4, c5, c6, c7] = some (d, p) := by simpa [Value.cells] using hf
  obtain ⟨us, m, _, _, _, hul, hu⟩ := DataW.trod_array Tryz.underlying32 hf
  obtain ⟨g0, d0⟩ := someA_of (l := us) (i := 0) (by omega)
  obtain ⟨g1, d1⟩ := someA_of (l := us) (i := 1) (by omega)
  obtain ⟨g2, d2⟩ := someA_of (l := us) (i := 2) (by omega)
  obtain ⟨g3, d3⟩ := someA_of (l := us) (i := 3) (by omega)
  have k0 := (hu 0 (by omega)).trans d0
  rw [Tryz.cellsU32A] at k0
  have k0 : DataW.trod enc Tryz.prog w base spare held m 30 [c4] = some g0 := k0
  have k1 := (hu 1 (by omega)).trans d1
  rw [Tryz.cellsU32A] at k1
  have k1 : DataW.trod enc Tryz.prog w base spare held m 30 [c5] = some g1 := k1
  have k2 := (hu 2 (by omega)).trans d2
  rw [Tryz.cellsU32A] at k2
  have k2 : DataW.trod enc Tryz.prog w base spare held m 30 [c6] = some g2 := k2
  have k3 := (hu 3 (by omega)).trans d3
  rw [Tryz.cellsU32A] at k3
  have k3 : DataW.trod enc Tryz.prog w base spare held m 30 [c7] = some g3 := k3
  obtain ⟨u0, rfl⟩ := intA_of Tryz.underlying30 k0
  obtain ⟨u1, rfl⟩ := intA_of Tryz.underlying30 k1
  obtain ⟨u2, rfl⟩ := intA_of Tryz.underlying30 k2
  obtain ⟨u3, rfl⟩ := intA_of Tryz.underlying30 k3
  exact ⟨u0, u1, u2, u3, rfl⟩
end
theorem Tryz.cellsCfg : Tryz.prog.cellsOf 29 = 9 := by kernel_rfl
theorem Tryz.cellsIntA : Tryz.prog.cellsOf 3 = 1 := by kernel_rfl
theorem array9 {cs : Array Value} (h : cs.size = 9) : ∃ a b c d e f g i j, cs = #[a, b, c, d, e, f, g, i, j] := by
  obtain ⟨l⟩ := cs
  match l, h with
  | [a, b, c, d, e, f, g, i, j], _ => exact ⟨a, b, c, d, e, f, g, i, j, rfl⟩
section
variable {H : Type} {enc : TypeId × Value → H} {w : World} {base : Nat} {spare : Nat → Bool} {held : Bool}
set_option maxRecDepth 10000 in
theorem cfg_of {r : Reach} {b0 : Nat} {v : Value} {d : DataW H} {p : List MemPlace} (hv : Value.okWide Tryz.prog w r b0 29 v) (h : DataW.Trod enc Tryz.prog w base spare held 29 v d p) : ∃ c : Cfg, v = c.val := by
  obtain ⟨cs, rfl, hsz⟩ := okWide_struct Tryz.underlying29 hv
  obtain ⟨c0, c1, c2, c3, c4, c5, c6, c7, c8, rfl⟩ := array9 (hsz.trans Tryz.cellsCfg)
  obtain ⟨fuel, hf⟩ := h
  have hf : DataW.trod enc Tryz.prog w base spare held fuel 29 [c0, c1, c2, c3, c4, c5, c6, c7, c8] = some (d, p) := by simpa [Value.cells] using hf
  obtain ⟨xs, k, _, _, hl, hxl, hff⟩ := DataW.trod_struct Tryz.underlying29 hf
  have hxl' : xs.length = 9 := hxl
  obtain ⟨y0, e0⟩ := someA_of (l := xs) (i := 0) (by omega)
  obtain ⟨y1, e1⟩ := someA_of (l := xs) (i := 1) (by omega)
  obtain ⟨y2, e2⟩ := someA_of (l := xs) (i := 2) (by omega)
  obtain ⟨y3, e3⟩ := someA_of (l := xs) (i := 3) (by omega)
  obtain ⟨y4, e4⟩ := someA_of (l := xs) (i := 4) (by omega)
  obtain ⟨y5, e5⟩ := someA_of (l := xs) (i := 5) (by omega)
  obtain ⟨y6, e6⟩ := someA_of (l := xs) (i := 6) (by omega)
  obtain ⟨y7, e7⟩ := someA_of (l := xs) (i := 7) (by omega)
  obtain ⟨y8, e8⟩ := someA_of (l := xs) (i := 8) (by omega)
  have f0 : DataW.trod enc Tryz.prog w base spare held k 3 (([c0, c1, c2, c3, c4, c5, c6, c7, c8].drop 0).take (Tryz.prog.cellsOf 3)) = some y0 := (hff 0 _ rfl).trans e0
  rw [Tryz.cellsIntA] at f0
  have f0 : DataW.trod enc Tryz.prog w base spare held k 3 [c0] = some y0 := f0
  have f1 : DataW.trod enc Tryz.prog w base spare held k 3 (([c0, c1, c2, c3, c4, c5, c6, c7, c8].drop 1).take (Tryz.prog.cellsOf 3)) = some y1 := (hff 1 _ rfl).trans e1
  rw [Tryz.cellsIntA] at f1
  have f1 : DataW.trod enc Tryz.prog w base spare held k 3 [c1] = some y1 := f1
  have f2 : DataW.trod enc Tryz.prog w base spare held k 3 (([c0, c1, c2, c3, c4, c5, c6, c7, c8].drop 2).take (Tryz.prog.cellsOf 3)) = some y2 := (hff 2 _ rfl).trans e2
  rw [Tryz.cellsIntA] at f2
  have f2 : DataW.trod enc Tryz.prog w base spare held k 3 [c2] = some y2 := f2
  have f3 : DataW.trod enc Tryz.prog w base spare held k 3 (([c0, c1, c2, c3, c4, c5, c6, c7, c8].drop 3).take (Tryz.prog.cellsOf 3)) = some y3 := (hff 3 _ rfl).trans e3
  rw [Tryz.cellsIntA] at f3
  have f3 : DataW.trod enc Tryz.prog w base spare held k 3 [c3] = some y3 := f3
  have f4 : DataW.trod enc Tryz.prog w base spare held k 3 (([c0, c1, c2, c3, c4, c5, c6, c7, c8].drop 4).take (Tryz.prog.cellsOf 3)) = some y4 := (hff 4 _ rfl).trans e4
  rw [Tryz.cellsIntA] at f4
  have f4 : DataW.trod enc Tryz.prog w base spare held k 3 [c4] = some y4 := f4
  have f5 : DataW.trod enc Tryz.prog w base spare held k 3 (([c0, c1, c2, c3, c4, c5, c6, c7, c8].drop 5).take (Tryz.prog.cellsOf 3)) = some y5 := (hff 5 _ rfl).trans e5
  rw [Tryz.cellsIntA] at f5
  have f5 : DataW.trod enc Tryz.prog w base spare held k 3 [c5] = some y5 := f5
  have f6 : DataW.trod enc Tryz.prog w base spare held k 3 (([c0, c1, c2, c3, c4, c5, c6, c7, c8].drop 6).take (Tryz.prog.cellsOf 3)) = some y6 := (hff 6 _ rfl).trans e6
  rw [Tryz.cellsIntA] at f6
  have f6 : DataW.trod enc Tryz.prog w base spare held k 3 [c6] = some y6 := f6
  have f7 : DataW.trod enc Tryz.prog w base spare held k 3 (([c0, c1, c2, c3, c4, c5, c6, c7, c8].drop 7).take (Tryz.prog.cellsOf 3)) = some y7 := (hff 7 _ rfl).trans e7
  rw [Tryz.cellsIntA] at f7
  have f7 : DataW.trod enc Tryz.prog w base spare held k 3 [c7] = some y7 := f7
  have f8 : DataW.trod enc Tryz.prog w base spare held k 3 (([c0, c1, c2, c3, c4, c5, c6, c7, c8].drop 8).take (Tryz.prog.cellsOf 3)) = some y8 := (hff 8 _ rfl).trans e8
  rw [Tryz.cellsIntA] at f8
  have f8 : DataW.trod enc Tryz.prog w base spare held k 3 [c8] = some y8 := f8
  obtain ⟨z0, rfl⟩ := intA_of Tryz.underlying3 f0
  obtain ⟨z1, rfl⟩ := intA_of Tryz.underlying3 f1
  obtain ⟨z2, rfl⟩ := intA_of Tryz.underlying3 f2
  obtain ⟨z3, rfl⟩ := intA_of Tryz.underlying3 f3
  obtain ⟨z4, rfl⟩ := intA_of Tryz.underlying3 f4
  obtain ⟨z5, rfl⟩ := intA_of Tryz.underlying3 f5
  obtain ⟨z6, rfl⟩ := intA_of Tryz.underlying3 f6
  obtain ⟨z7, rfl⟩ := intA_of Tryz.underlying3 f7
  obtain ⟨z8, rfl⟩ := intA_of Tryz.underlying3 f8
  exact ⟨⟨z0, z1, z2, z3, z4, z5, z6, z7, z8⟩, rfl⟩
end
end Go.Proofs.YtfaihaknibmcpaaGreatDoor
