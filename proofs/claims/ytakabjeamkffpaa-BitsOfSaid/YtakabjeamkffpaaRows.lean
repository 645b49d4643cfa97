/-
  No cell of these rows narrows 'for every input' (looked for: loops, veiled, ifaces, maps, wideKeys, modest, calm, conditions, laid).
  DERIVED. THE GIVEN ROWS OF THIS SEAT. 12 by the template 'for every input the law returns true; each argument reads behind the call as it read before'; 0 by the template 'total and deterministic' (their statements: YtakabjeamkffpaaTotals.lean).
  GIVEN WITH THE SEED: the statements are not yours to turn. If you find one false, say at which input.
  Laid BY PROGRAM, IN A SANDBOX (cutbox-rows.mjs): the forced cells as the released guide's own fill.sh prints them over the translation 4208996bf3c62c33… (all of the seat's roots in one cut). By AI agents, Wed Nov 11 2026. No macro, syntax, notation, axiom, sorry.
-/
import Derived.Test.YtakabjeamkffpaaChecked
import GoSem.Claim
import GoSem.ClaimJoined
import GoSem.ClaimMapViews
import Derived.JoinedTies
import Derived.KernelRfl
namespace Go.Proofs.Ytakabjeamkffpaa
/- THE CELL 'sum', in the pinned program and in every row, IS THE sha256 OF THE DUMP (.gsa) THAT YtakabjeamkffpaaProg.lean LOADS. Nothing in Lean hashes anything: it is a label: what it is worth is what the hold of that sum in a sandbox is worth. -/
noncomputable def Try.pinned : Pinned := { name := "ytakabjeamkffpaa", sum := "4208996bf3c62c33fe763c2d315a0d5138d949bff4f93e5e28d17d0f1d0dc0e9", checked := Try.checked }
namespace Rows
def none {H : Type} : Left H := { results := [], args := [] }

/-- 'assentlaw5.PlruRuns': WHATEVER THE INPUT: true; the input reads as it did. -/
def plruRunsSpec : ChangeSpec := { name := "plruRuns", fn := fun _ => fun
  | [] => { results := [.lit (.bool true)], args := [] }
  | _ => none }
def plruRunsRow : OpenClaim := { program := "ytakabjeamkffpaa", sum := "4208996bf3c62c33fe763c2d315a0d5138d949bff4f93e5e28d17d0f1d0dc0e9", func := "assent/assentlaw5.PlruRuns", spec := "plruRuns", apart := false }
def PlruRunsSaid : Prop := plruRunsRow.holds Try.pinned (OpenSpec.ofChange plruRunsSpec)

/-- ITS FALSE NEIGHBOUR: 'it returns false'. Refute it at one input. -/
def plruRunsWrong : ChangeSpec := { name := "plruRuns", fn := fun _ => fun
  | [] => { results := [.lit (.bool false)], args := [] }
  | _ => none }
def PlruRunsWrongFalsely : Prop := plruRunsRow.holds Try.pinned (OpenSpec.ofChange plruRunsWrong)

/-- 'assentlaw5.PlruTells': WHATEVER THE INPUT: true; the input reads as it did. -/
def plruTellsSpec : ChangeSpec := { name := "plruTells", fn := fun _ => fun
  | [d1, d2, d3] => { results := [.lit (.bool true)], args := [d1, d2, d3] }
  | _ => none }
def plruTellsRow : OpenClaim := { program := "ytakabjeamkffpaa", sum := "4208996bf3c62c33fe763c2d315a0d5138d949bff4f93e5e28d17d0f1d0dc0e9", func := "assent/assentlaw5.PlruTells", spec := "plruTells", apart := false }
def PlruTellsSaid : Prop := plruTellsRow.holds Try.pinned (OpenSpec.ofChange plruTellsSpec)

/-- ITS FALSE NEIGHBOUR: 'it returns false'. Refute it at one input. -/
def plruTellsWrong : ChangeSpec := { name := "plruTells", fn := fun _ => fun
  | [d1, d2, d3] => { results := [.lit (.bool false)], args := [d1, d2, d3] }
  | _ => none }
def PlruTellsWrongFalsely : Prop := plruTellsRow.holds Try.pinned (OpenSpec.ofChange plruTellsWrong)

/-- 'assentlaw5.PlruTurns': WHATEVER THE INPUT: true; the input reads as it did. -/
def plruTurnsSpec : ChangeSpec := { name := "plruTurns", fn := fun _ => fun
  | [d1, d2, d3] => { results := [.lit (.bool true)], args := [d1, d2, d3] }
  | _ => none }
def plruTurnsRow : OpenClaim := { program := "ytakabjeamkffpaa", sum := "4208996bf3c62c33fe763c2d315a0d5138d949bff4f93e5e28d17d0f1d0dc0e9", func := "assent/assentlaw5.PlruTurns", spec := "plruTurns", apart := false }
def PlruTurnsSaid : Prop := plruTurnsRow.holds Try.pinned (OpenSpec.ofChange plruTurnsSpec)

/-- ITS FALSE NEIGHBOUR: 'it returns false'. Refute it at one input. -/
def plruTurnsWrong : ChangeSpec := { name := "plruTurns", fn := fun _ => fun
  | [d1, d2, d3] => { results := [.lit (.bool false)], args := [d1, d2, d3] }
  | _ => none }
def PlruTurnsWrongFalsely : Prop := plruTurnsRow.holds Try.pinned (OpenSpec.ofChange plruTurnsWrong)

/-- 'assentlaw5.PlruPath': WHATEVER THE INPUT: true; the input reads as it did. -/
def plruPathSpec : ChangeSpec := { name := "plruPath", fn := fun _ => fun
  | [d1, d2, d3, d4] => { results := [.lit (.bool true)], args := [d1, d2, d3, d4] }
  | _ => none }
def plruPathRow : OpenClaim := { program := "ytakabjeamkffpaa", sum := "4208996bf3c62c33fe763c2d315a0d5138d949bff4f93e5e28d17d0f1d0dc0e9", func := "assent/assentlaw5.PlruPath", spec := "plruPath", apart := false }
def PlruPathSaid : Prop := plruPathRow.holds Try.pinned (OpenSpec.ofChange plruPathSpec)

/-- ITS FALSE NEIGHBOUR: 'it returns false'. Refute it at one input. -/
def plruPathWrong : ChangeSpec := { name := "plruPath", fn := fun _ => fun
  | [d1, d2, d3, d4] => { results := [.lit (.bool false)], args := [d1, d2, d3, d4] }
  | _ => none }
def PlruPathWrongFalsely : Prop := plruPathRow.holds Try.pinned (OpenSpec.ofChange plruPathWrong)

/-- 'assentlaw5.PlruRow': WHATEVER THE INPUT: true; the input reads as it did. -/
def plruRowSpec : ChangeSpec := { name := "plruRow", fn := fun _ => fun
  | [d1, d2, d3] => { results := [.lit (.bool true)], args := [d1, d2, d3] }
  | _ => none }
def plruRowRow : OpenClaim := { program := "ytakabjeamkffpaa", sum := "4208996bf3c62c33fe763c2d315a0d5138d949bff4f93e5e28d17d0f1d0dc0e9", func := "assent/assentlaw5.PlruRow", spec := "plruRow", apart := false }
def PlruRowSaid : Prop := plruRowRow.holds Try.pinned (OpenSpec.ofChange plruRowSpec)

/-- ITS FALSE NEIGHBOUR: 'it returns false'. Refute it at one input. -/
def plruRowWrong : ChangeSpec := { name := "plruRow", fn := fun _ => fun
  | [d1, d2, d3] => { results := [.lit (.bool false)], args := [d1, d2, d3] }
  | _ => none }
def PlruRowWrongFalsely : Prop := plruRowRow.holds Try.pinned (OpenSpec.ofChange plruRowWrong)

/-- 'assentlaw5.PlruOne': WHATEVER THE INPUT: true; the input reads as it did. -/
def plruOneSpec : ChangeSpec := { name := "plruOne", fn := fun _ => fun
  | [d1, d2, d3] => { results := [.lit (.bool true)], args := [d1, d2, d3] }
  | _ => none }
def plruOneRow : OpenClaim := { program := "ytakabjeamkffpaa", sum := "4208996bf3c62c33fe763c2d315a0d5138d949bff4f93e5e28d17d0f1d0dc0e9", func := "assent/assentlaw5.PlruOne", spec := "plruOne", apart := false }
def PlruOneSaid : Prop := plruOneRow.holds Try.pinned (OpenSpec.ofChange plruOneSpec)

/-- ITS FALSE NEIGHBOUR: 'it returns false'. Refute it at one input. -/
def plruOneWrong : ChangeSpec := { name := "plruOne", fn := fun _ => fun
  | [d1, d2, d3] => { results := [.lit (.bool false)], args := [d1, d2, d3] }
  | _ => none }
def PlruOneWrongFalsely : Prop := plruOneRow.holds Try.pinned (OpenSpec.ofChange plruOneWrong)

/-- 'assentlaw4.BitsRuns': WHATEVER THE INPUT: true; the input reads as it did. -/
def bitsRunsSpec : ChangeSpec := { name := "bitsRuns", fn := fun _ => fun
  | [] => { results := [.lit (.bool true)], args := [] }
  | _ => none }
def bitsRunsRow : OpenClaim := { program := "ytakabjeamkffpaa", sum := "4208996bf3c62c33fe763c2d315a0d5138d949bff4f93e5e28d17d0f1d0dc0e9", func := "assent/assentlaw4.BitsRuns", spec := "bitsRuns", apart := false }
def BitsRunsSaid : Prop := bitsRunsRow.holds Try.pinned (OpenSpec.ofChange bitsRunsSpec)

/-- ITS FALSE NEIGHBOUR: 'it returns false'. Refute it at one input. -/
def bitsRunsWrong : ChangeSpec := { name := "bitsRuns", fn := fun _ => fun
  | [] => { results := [.lit (.bool false)], args := [] }
  | _ => none }
def BitsRunsWrongFalsely : Prop := bitsRunsRow.holds Try.pinned (OpenSpec.ofChange bitsRunsWrong)

/-- 'assentlaw4.BitsOrder': WHATEVER THE INPUT: true; the input reads as it did. -/
def bitsOrderSpec : ChangeSpec := { name := "bitsOrder", fn := fun _ => fun
  | [d] => { results := [.lit (.bool true)], args := [d] }
  | _ => none }
def bitsOrderRow : OpenClaim := { program := "ytakabjeamkffpaa", sum := "4208996bf3c62c33fe763c2d315a0d5138d949bff4f93e5e28d17d0f1d0dc0e9", func := "assent/assentlaw4.BitsOrder", spec := "bitsOrder", apart := false }
def BitsOrderSaid : Prop := bitsOrderRow.holds Try.pinned (OpenSpec.ofChange bitsOrderSpec)

/-- ITS FALSE NEIGHBOUR: 'it returns false'. Refute it at one input. -/
def bitsOrderWrong : ChangeSpec := { name := "bitsOrder", fn := fun _ => fun
  | [d] => { results := [.lit (.bool false)], args := [d] }
  | _ => none }
def BitsOrderWrongFalsely : Prop := bitsOrderRow.holds Try.pinned (OpenSpec.ofChange bitsOrderWrong)

/-- 'assentlaw4.BitsTells': WHATEVER THE INPUT: true; the input reads as it did. -/
def bitsTellsSpec : ChangeSpec := { name := "bitsTells", fn := fun _ => fun
  | [d1, d2] => { results := [.lit (.bool true)], args := [d1, d2] }
  | _ => none }
def bitsTellsRow : OpenClaim := { program := "ytakabjeamkffpaa", sum := "4208996bf3c62c33fe763c2d315a0d5138d949bff4f93e5e28d17d0f1d0dc0e9", func := "assent/assentlaw4.BitsTells", spec := "bitsTells", apart := false }
def BitsTellsSaid : Prop := bitsTellsRow.holds Try.pinned (OpenSpec.ofChange bitsTellsSpec)

/-- ITS FALSE NEIGHBOUR: 'it returns false'. Refute it at one input. -/
def bitsTellsWrong : ChangeSpec := { name := "bitsTells", fn := fun _ => fun
  | [d1, d2] => { results := [.lit (.bool false)], args := [d1, d2] }
  | _ => none }
def BitsTellsWrongFalsely : Prop := bitsTellsRow.holds Try.pinned (OpenSpec.ofChange bitsTellsWrong)

/-- 'assentlaw4.BitsOf': WHATEVER THE INPUT: true; the input reads as it did. -/
def bitsOfSpec : ChangeSpec := { name := "bitsOf", fn := fun _ => fun
  | [d1, d2] => { results := [.lit (.bool true)], args := [d1, d2] }
  | _ => none }
def bitsOfRow : OpenClaim := { program := "ytakabjeamkffpaa", sum := "4208996bf3c62c33fe763c2d315a0d5138d949bff4f93e5e28d17d0f1d0dc0e9", func := "assent/assentlaw4.BitsOf", spec := "bitsOf", apart := false }
def BitsOfSaid : Prop := bitsOfRow.holds Try.pinned (OpenSpec.ofChange bitsOfSpec)

/-- ITS FALSE NEIGHBOUR: 'it returns false'. Refute it at one input. -/
def bitsOfWrong : ChangeSpec := { name := "bitsOf", fn := fun _ => fun
  | [d1, d2] => { results := [.lit (.bool false)], args := [d1, d2] }
  | _ => none }
def BitsOfWrongFalsely : Prop := bitsOfRow.holds Try.pinned (OpenSpec.ofChange bitsOfWrong)

/-- 'assentlaw4.BitsParts': WHATEVER THE INPUT: true; the input reads as it did. -/
def bitsPartsSpec : ChangeSpec := { name := "bitsParts", fn := fun _ => fun
  | [d1, d2, d3] => { results := [.lit (.bool true)], args := [d1, d2, d3] }
  | _ => none }
def bitsPartsRow : OpenClaim := { program := "ytakabjeamkffpaa", sum := "4208996bf3c62c33fe763c2d315a0d5138d949bff4f93e5e28d17d0f1d0dc0e9", func := "assent/assentlaw4.BitsParts", spec := "bitsParts", apart := false }
def BitsPartsSaid : Prop := bitsPartsRow.holds Try.pinned (OpenSpec.ofChange bitsPartsSpec)

/-- ITS FALSE NEIGHBOUR: 'it returns false'. Refute it at one input. -/
def bitsPartsWrong : ChangeSpec := { name := "bitsParts", fn := fun _ => fun
  | [d1, d2, d3] => { results := [.lit (.bool false)], args := [d1, d2, d3] }
  | _ => none }
def BitsPartsWrongFalsely : Prop := bitsPartsRow.holds Try.pinned (OpenSpec.ofChange bitsPartsWrong)

/-- 'assentlaw4.BitsAll': WHATEVER THE INPUT: true; the input reads as it did. -/
def bitsAllSpec : ChangeSpec := { name := "bitsAll", fn := fun _ => fun
  | [d] => { results := [.lit (.bool true)], args := [d] }
  | _ => none }
def bitsAllRow : OpenClaim := { program := "ytakabjeamkffpaa", sum := "4208996bf3c62c33fe763c2d315a0d5138d949bff4f93e5e28d17d0f1d0dc0e9", func := "assent/assentlaw4.BitsAll", spec := "bitsAll", apart := false }
def BitsAllSaid : Prop := bitsAllRow.holds Try.pinned (OpenSpec.ofChange bitsAllSpec)

/-- ITS FALSE NEIGHBOUR: 'it returns false'. Refute it at one input. -/
def bitsAllWrong : ChangeSpec := { name := "bitsAll", fn := fun _ => fun
  | [d] => { results := [.lit (.bool false)], args := [d] }
  | _ => none }
def BitsAllWrongFalsely : Prop := bitsAllRow.holds Try.pinned (OpenSpec.ofChange bitsAllWrong)

/- THE SECOND FORM. 'bulk': how many values and letters a reading holds, each counted each time it is reached (what is shared counts as often as it is met; a slice's spare places count too). A statement '..UptoSaid' is the law's where the arguments, and the package variables that the reading takes, are together of bulk at most 1048576: NARROWER than '..Said'. Prove '..Said' where nothing that the law and all that it calls make is longer than what came in: it says more and counts as full. Else prove '..UptoSaid'. A law counts once. -/
mutual
def uptoBulk {H : Type} : DataW H → Nat
  | .lit (.string bytes) => bytes.length + 1
  | .lit _ => 1
  | .nil => 1
  | .ptr d => uptoBulk d + 1
  | .slice elems spare => uptoBulkAll elems + uptoBulkAll spare + 1
  | .agg parts => uptoBulkAll parts + 1
  | .iface _ d => uptoBulk d + 1
  | .map entries => uptoBulkEntries entries + 1
  | .held _ => 1
def uptoBulkAll {H : Type} : List (DataW H) → Nat
  | [] => 0
  | d :: r => uptoBulk d + uptoBulkAll r
def uptoBulkEntries {H : Type} : List (Lit × DataW H) → Nat
  | [] => 0
  | x :: r => uptoBulkEntry x + uptoBulkEntries r
def uptoBulkEntry {H : Type} : Lit × DataW H → Nat
  | (.string bytes, d) => bytes.length + uptoBulk d + 1
  | (_, d) => uptoBulk d + 1
 end
def uptoSmall : (H : Type) → List (DataW H) → Bool := fun _ ds => decide (uptoBulkAll ds ≤ 1048576)
def OpenSpec.upto (s : _root_.Go.ChangeSpec) : _root_.Go.OpenSpec := { _root_.Go.OpenSpec.ofChange s with cond := some uptoSmall }

/-- 'assentlaw5.PlruRuns', WHERE WHAT IT READS IS OF BULK AT MOST 1048576: true; the input reads as it did. -/
def plruRunsUptoRow : OpenClaim := { program := "ytakabjeamkffpaa", sum := "4208996bf3c62c33fe763c2d315a0d5138d949bff4f93e5e28d17d0f1d0dc0e9", func := "assent/assentlaw5.PlruRuns", spec := "plruRuns", apart := false, narrowed := true }
def PlruRunsUptoSaid : Prop := plruRunsUptoRow.holds Try.pinned (OpenSpec.upto plruRunsSpec)

/-- 'assentlaw5.PlruTells', WHERE WHAT IT READS IS OF BULK AT MOST 1048576: true; the input reads as it did. -/
def plruTellsUptoRow : OpenClaim := { program := "ytakabjeamkffpaa", sum := "4208996bf3c62c33fe763c2d315a0d5138d949bff4f93e5e28d17d0f1d0dc0e9", func := "assent/assentlaw5.PlruTells", spec := "plruTells", apart := false, narrowed := true }
def PlruTellsUptoSaid : Prop := plruTellsUptoRow.holds Try.pinned (OpenSpec.upto plruTellsSpec)

/-- 'assentlaw5.PlruTurns', WHERE WHAT IT READS IS OF BULK AT MOST 1048576: true; the input reads as it did. -/
def plruTurnsUptoRow : OpenClaim := { program := "ytakabjeamkffpaa", sum := "4208996bf3c62c33fe763c2d315a0d5138d949bff4f93e5e28d17d0f1d0dc0e9", func := "assent/assentlaw5.PlruTurns", spec := "plruTurns", apart := false, narrowed := true }
def PlruTurnsUptoSaid : Prop := plruTurnsUptoRow.holds Try.pinned (OpenSpec.upto plruTurnsSpec)

/-- 'assentlaw5.PlruPath', WHERE WHAT IT READS IS OF BULK AT MOST 1048576: true; the input reads as it did. -/
def plruPathUptoRow : OpenClaim := { program := "ytakabjeamkffpaa", sum := "4208996bf3c62c33fe763c2d315a0d5138d949bff4f93e5e28d17d0f1d0dc0e9", func := "assent/assentlaw5.PlruPath", spec := "plruPath", apart := false, narrowed := true }
def PlruPathUptoSaid : Prop := plruPathUptoRow.holds Try.pinned (OpenSpec.upto plruPathSpec)

/-- 'assentlaw5.PlruRow', WHERE WHAT IT READS IS OF BULK AT MOST 1048576: true; the input reads as it did. -/
def plruRowUptoRow : OpenClaim := { program := "ytakabjeamkffpaa", sum := "4208996bf3c62c33fe763c2d315a0d5138d949bff4f93e5e28d17d0f1d0dc0e9", func := "assent/assentlaw5.PlruRow", spec := "plruRow", apart := false, narrowed := true }
def PlruRowUptoSaid : Prop := plruRowUptoRow.holds Try.pinned (OpenSpec.upto plruRowSpec)

/-- 'assentlaw5.PlruOne', WHERE WHAT IT READS IS OF BULK AT MOST 1048576: true; the input reads as it did. -/
def plruOneUptoRow : OpenClaim := { program := "ytakabjeamkffpaa", sum := "4208996bf3c62c33fe763c2d315a0d5138d949bff4f93e5e28d17d0f1d0dc0e9", func := "assent/assentlaw5.PlruOne", spec := "plruOne", apart := false, narrowed := true }
def PlruOneUptoSaid : Prop := plruOneUptoRow.holds Try.pinned (OpenSpec.upto plruOneSpec)

/-- 'assentlaw4.BitsRuns', WHERE WHAT IT READS IS OF BULK AT MOST 1048576: true; the input reads as it did. -/
def bitsRunsUptoRow : OpenClaim := { program := "ytakabjeamkffpaa", sum := "4208996bf3c62c33fe763c2d315a0d5138d949bff4f93e5e28d17d0f1d0dc0e9", func := "assent/assentlaw4.BitsRuns", spec := "bitsRuns", apart := false, narrowed := true }
def BitsRunsUptoSaid : Prop := bitsRunsUptoRow.holds Try.pinned (OpenSpec.upto bitsRunsSpec)

/-- 'assentlaw4.BitsOrder', WHERE WHAT IT READS IS OF BULK AT MOST 1048576: true; the input reads as it did. -/
def bitsOrderUptoRow : OpenClaim := { program := "ytakabjeamkffpaa", sum := "4208996bf3c62c33fe763c2d315a0d5138d949bff4f93e5e28d17d0f1d0dc0e9", func := "assent/assentlaw4.BitsOrder", spec := "bitsOrder", apart := false, narrowed := true }
def BitsOrderUptoSaid : Prop := bitsOrderUptoRow.holds Try.pinned (OpenSpec.upto bitsOrderSpec)

/-- 'assentlaw4.BitsTells', WHERE WHAT IT READS IS OF BULK AT MOST 1048576: true; the input reads as it did. -/
def bitsTellsUptoRow : OpenClaim := { program := "ytakabjeamkffpaa", sum := "4208996bf3c62c33fe763c2d315a0d5138d949bff4f93e5e28d17d0f1d0dc0e9", func := "assent/assentlaw4.BitsTells", spec := "bitsTells", apart := false, narrowed := true }
def BitsTellsUptoSaid : Prop := bitsTellsUptoRow.holds Try.pinned (OpenSpec.upto bitsTellsSpec)

/-- 'assentlaw4.BitsOf', WHERE WHAT IT READS IS OF BULK AT MOST 1048576: true; the input reads as it did. -/
def bitsOfUptoRow : OpenClaim := { program := "ytakabjeamkffpaa", sum := "4208996bf3c62c33fe763c2d315a0d5138d949bff4f93e5e28d17d0f1d0dc0e9", func := "assent/assentlaw4.BitsOf", spec := "bitsOf", apart := false, narrowed := true }
def BitsOfUptoSaid : Prop := bitsOfUptoRow.holds Try.pinned (OpenSpec.upto bitsOfSpec)

/-- 'assentlaw4.BitsParts', WHERE WHAT IT READS IS OF BULK AT MOST 1048576: true; the input reads as it did. -/
def bitsPartsUptoRow : OpenClaim := { program := "ytakabjeamkffpaa", sum := "4208996bf3c62c33fe763c2d315a0d5138d949bff4f93e5e28d17d0f1d0dc0e9", func := "assent/assentlaw4.BitsParts", spec := "bitsParts", apart := false, narrowed := true }
def BitsPartsUptoSaid : Prop := bitsPartsUptoRow.holds Try.pinned (OpenSpec.upto bitsPartsSpec)

/-- 'assentlaw4.BitsAll', WHERE WHAT IT READS IS OF BULK AT MOST 1048576: true; the input reads as it did. -/
def bitsAllUptoRow : OpenClaim := { program := "ytakabjeamkffpaa", sum := "4208996bf3c62c33fe763c2d315a0d5138d949bff4f93e5e28d17d0f1d0dc0e9", func := "assent/assentlaw4.BitsAll", spec := "bitsAll", apart := false, narrowed := true }
def BitsAllUptoSaid : Prop := bitsAllUptoRow.holds Try.pinned (OpenSpec.upto bitsAllSpec)

end Rows
end Go.Proofs.Ytakabjeamkffpaa
