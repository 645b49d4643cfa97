/- What a law's row wants of an argument that is a list of numbers. -/
import Derived.Test.YtjnoaidceddpjaaDoorHandle
import Derived.ProofKit
import Derived.SizedLaws
namespace Go.Proofs.YtjnoaidceddpjaaDoor
open Go.ChangeShapes Go.WideShapes Go.RowKit
theorem laidOut : laidOutB Tryd.prog = true := by kernel_rfl
def IsRow (k : IntKind) (w : World) (a : Option Addr) (len cap : Nat) (zs : List Int) : Prop :=
  (a = none ∧ len = 0 ∧ cap = 0 ∧ zs = []) ∨
  ∃ x, a = some x ∧ len ≤ cap ∧ cap ≤ maxLen ∧ zs.length = cap ∧ (∀ i, i < zs.length → w.cell? (x.add i) = some (.int k (zs.getD i 0))) ∧ ∀ n ∈ zs, (Lit.int k n).wf = true
end Go.Proofs.YtjnoaidceddpjaaDoor
