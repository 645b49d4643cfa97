/- What a law's row wants of an argument that is a list of bools. -/
import Derived.Test.YtfaihaknibmcpaaDoorLeast
import Derived.Test.YtfaihaknibmcpaaDoorRowKit
import Derived.Deep.Slices
import Derived.OpenShut
namespace Go.Proofs.YtfaihaknibmcpaaDoor
open Go.ChangeShapes Go.WideShapes Go.RowKit

theorem Tryd.cellsBool1 : Tryd.prog.cellsOf 4 = 1 := by kernel_rfl
section
variable {H : Type} {enc : TypeId × Value → H} {w : World} {held : Bool}
theorem bools_of {a : Option Addr} {len cap : Nat} {d : DataW H} {p : List MemPlace} (h : DataW.Trod enc Tryd.prog w 0 (fun _ => true) held 54 (.slice a len cap) d p) : IsBools w a len := by
  obtain ⟨fuel, hf⟩ := h
  rcases Go.Deep.open_slice Tryd.underlying54 hf with ⟨hcs, _⟩ | ⟨x, l, cp, m, n, D, Pl, hcs, _, hl, _, hmm, _, hcell⟩
  · simp [Value.cells] at hcs
    obtain ⟨rfl, rfl, rfl⟩ := hcs
    intro i hi
    omega
  · simp [Value.cells] at hcs
    obtain ⟨rfl, rfl, rfl⟩ := hcs
    simp only [if_true] at hmm
    intro i hi
    obtain ⟨cs, h1, h2⟩ := hcell i (by omega)
    rw [Tryd.cellsBool1] at h1
    obtain ⟨_, hlen, hc⟩ := World.cells?_some h1
    match cs, hlen with
    | [c0], _ =>
      obtain ⟨z, e, _⟩ := DataW.trod_bool Tryd.underlying4 h2
      have e' : c0 = .bool z := by simpa using e
      subst e'
      have h5 := hc 0 (by simp)
      rw [Go.Deep.add_add] at h5
      refine ⟨x, z, rfl, ?_⟩
      simpa using h5
end
end Go.Proofs.YtfaihaknibmcpaaDoor
