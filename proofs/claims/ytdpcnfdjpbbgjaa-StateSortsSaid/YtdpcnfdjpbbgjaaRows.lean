/-
  No cell of these rows narrows 'for every input' (looked for: loops, veiled, ifaces, maps, wideKeys, modest, calm, conditions, laid).
  DERIVED. THE GIVEN ROWS OF THIS SEAT. 7 by the template 'for every input the law returns true; each argument reads behind the call as it read before'; 0 by the template 'total and deterministic' (their statements: YtdpcnfdjpbbgjaaTotals.lean).
  GIVEN WITH THE SEED: the statements are not yours to turn. If you find one false, say at which input.
  Laid BY PROGRAM, IN A SANDBOX (cutbox-rows.mjs): the forced cells as the released guide's own fill.sh prints them over the translation 92b74dbea1af609a… (all of the seat's roots in one cut). By AI agents, Wed Nov 11 2026. No macro, syntax, notation, axiom, sorry.
-/
import Derived.Test.YtdpcnfdjpbbgjaaChecked
import GoSem.Claim
import GoSem.ClaimJoined
import GoSem.ClaimMapViews
import Derived.JoinedTies
import Derived.KernelRfl
namespace Go.Proofs.Ytdpcnfdjpbbgjaa
/- THE CELL 'sum', in the pinned program and in every row, IS THE sha256 OF THE DUMP (.gsa) THAT YtdpcnfdjpbbgjaaProg.lean LOADS. Nothing in Lean hashes anything: it is a label: what it is worth is what the hold of that sum in a sandbox is worth. -/
noncomputable def Try.pinned : Pinned := { name := "ytdpcnfdjpbbgjaa", sum := "92b74dbea1af609a11ba2585533ec5a2a13a10ef0bef6467ccf6a66c62405623", checked := Try.checked }
namespace Rows
def none {H : Type} : Left H := { results := [], args := [] }

/-- 'assentlaw13.StateRuns': WHATEVER THE INPUT: true; the input reads as it did. -/
def stateRunsSpec : ChangeSpec := { name := "stateRuns", fn := fun _ => fun
  | [] => { results := [.lit (.bool true)], args := [] }
  | _ => none }
def stateRunsRow : OpenClaim := { program := "ytdpcnfdjpbbgjaa", sum := "92b74dbea1af609a11ba2585533ec5a2a13a10ef0bef6467ccf6a66c62405623", func := "assent/assentlaw13.StateRuns", spec := "stateRuns", apart := false }
def StateRunsSaid : Prop := stateRunsRow.holds Try.pinned (OpenSpec.ofChange stateRunsSpec)

/-- ITS FALSE NEIGHBOUR: 'it returns false'. Refute it at one input. -/
def stateRunsWrong : ChangeSpec := { name := "stateRuns", fn := fun _ => fun
  | [] => { results := [.lit (.bool false)], args := [] }
  | _ => none }
def StateRunsWrongFalsely : Prop := stateRunsRow.holds Try.pinned (OpenSpec.ofChange stateRunsWrong)

/-- 'assentlaw13.StateTwice': WHATEVER THE INPUT: true; the input reads as it did. -/
def stateTwiceSpec : ChangeSpec := { name := "stateTwice", fn := fun _ => fun
  | [d1, d2, d3] => { results := [.lit (.bool true)], args := [d1, d2, d3] }
  | _ => none }
def stateTwiceRow : OpenClaim := { program := "ytdpcnfdjpbbgjaa", sum := "92b74dbea1af609a11ba2585533ec5a2a13a10ef0bef6467ccf6a66c62405623", func := "assent/assentlaw13.StateTwice", spec := "stateTwice", apart := false }
def StateTwiceSaid : Prop := stateTwiceRow.holds Try.pinned (OpenSpec.ofChange stateTwiceSpec)

/-- ITS FALSE NEIGHBOUR: 'it returns false'. Refute it at one input. -/
def stateTwiceWrong : ChangeSpec := { name := "stateTwice", fn := fun _ => fun
  | [d1, d2, d3] => { results := [.lit (.bool false)], args := [d1, d2, d3] }
  | _ => none }
def StateTwiceWrongFalsely : Prop := stateTwiceRow.holds Try.pinned (OpenSpec.ofChange stateTwiceWrong)

/-- 'assentlaw13.StateModes': WHATEVER THE INPUT: true; the input reads as it did. -/
def stateModesSpec : ChangeSpec := { name := "stateModes", fn := fun _ => fun
  | [d1, d2] => { results := [.lit (.bool true)], args := [d1, d2] }
  | _ => none }
def stateModesRow : OpenClaim := { program := "ytdpcnfdjpbbgjaa", sum := "92b74dbea1af609a11ba2585533ec5a2a13a10ef0bef6467ccf6a66c62405623", func := "assent/assentlaw13.StateModes", spec := "stateModes", apart := false }
def StateModesSaid : Prop := stateModesRow.holds Try.pinned (OpenSpec.ofChange stateModesSpec)

/-- ITS FALSE NEIGHBOUR: 'it returns false'. Refute it at one input. -/
def stateModesWrong : ChangeSpec := { name := "stateModes", fn := fun _ => fun
  | [d1, d2] => { results := [.lit (.bool false)], args := [d1, d2] }
  | _ => none }
def StateModesWrongFalsely : Prop := stateModesRow.holds Try.pinned (OpenSpec.ofChange stateModesWrong)

/-- 'assentlaw13.StateTells': WHATEVER THE INPUT: true; the input reads as it did. -/
def stateTellsSpec : ChangeSpec := { name := "stateTells", fn := fun _ => fun
  | [d1, d2, d3, d4, d5] => { results := [.lit (.bool true)], args := [d1, d2, d3, d4, d5] }
  | _ => none }
def stateTellsRow : OpenClaim := { program := "ytdpcnfdjpbbgjaa", sum := "92b74dbea1af609a11ba2585533ec5a2a13a10ef0bef6467ccf6a66c62405623", func := "assent/assentlaw13.StateTells", spec := "stateTells", apart := false }
def StateTellsSaid : Prop := stateTellsRow.holds Try.pinned (OpenSpec.ofChange stateTellsSpec)

/-- ITS FALSE NEIGHBOUR: 'it returns false'. Refute it at one input. -/
def stateTellsWrong : ChangeSpec := { name := "stateTells", fn := fun _ => fun
  | [d1, d2, d3, d4, d5] => { results := [.lit (.bool false)], args := [d1, d2, d3, d4, d5] }
  | _ => none }
def StateTellsWrongFalsely : Prop := stateTellsRow.holds Try.pinned (OpenSpec.ofChange stateTellsWrong)

/-- 'assentlaw13.StateKeeps': WHATEVER THE INPUT: true; the input reads as it did. -/
def stateKeepsSpec : ChangeSpec := { name := "stateKeeps", fn := fun _ => fun
  | [d1, d2] => { results := [.lit (.bool true)], args := [d1, d2] }
  | _ => none }
def stateKeepsRow : OpenClaim := { program := "ytdpcnfdjpbbgjaa", sum := "92b74dbea1af609a11ba2585533ec5a2a13a10ef0bef6467ccf6a66c62405623", func := "assent/assentlaw13.StateKeeps", spec := "stateKeeps", apart := false }
def StateKeepsSaid : Prop := stateKeepsRow.holds Try.pinned (OpenSpec.ofChange stateKeepsSpec)

/-- ITS FALSE NEIGHBOUR: 'it returns false'. Refute it at one input. -/
def stateKeepsWrong : ChangeSpec := { name := "stateKeeps", fn := fun _ => fun
  | [d1, d2] => { results := [.lit (.bool false)], args := [d1, d2] }
  | _ => none }
def StateKeepsWrongFalsely : Prop := stateKeepsRow.holds Try.pinned (OpenSpec.ofChange stateKeepsWrong)

/-- 'assentlaw13.StateGrants': WHATEVER THE INPUT: true; the input reads as it did. -/
def stateGrantsSpec : ChangeSpec := { name := "stateGrants", fn := fun _ => fun
  | [d1, d2] => { results := [.lit (.bool true)], args := [d1, d2] }
  | _ => none }
def stateGrantsRow : OpenClaim := { program := "ytdpcnfdjpbbgjaa", sum := "92b74dbea1af609a11ba2585533ec5a2a13a10ef0bef6467ccf6a66c62405623", func := "assent/assentlaw13.StateGrants", spec := "stateGrants", apart := false }
def StateGrantsSaid : Prop := stateGrantsRow.holds Try.pinned (OpenSpec.ofChange stateGrantsSpec)

/-- ITS FALSE NEIGHBOUR: 'it returns false'. Refute it at one input. -/
def stateGrantsWrong : ChangeSpec := { name := "stateGrants", fn := fun _ => fun
  | [d1, d2] => { results := [.lit (.bool false)], args := [d1, d2] }
  | _ => none }
def StateGrantsWrongFalsely : Prop := stateGrantsRow.holds Try.pinned (OpenSpec.ofChange stateGrantsWrong)

/-- 'assentlaw13.StateSorts': WHATEVER THE INPUT: true; the input reads as it did. -/
def stateSortsSpec : ChangeSpec := { name := "stateSorts", fn := fun _ => fun
  | [d1, d2] => { results := [.lit (.bool true)], args := [d1, d2] }
  | _ => none }
def stateSortsRow : OpenClaim := { program := "ytdpcnfdjpbbgjaa", sum := "92b74dbea1af609a11ba2585533ec5a2a13a10ef0bef6467ccf6a66c62405623", func := "assent/assentlaw13.StateSorts", spec := "stateSorts", apart := false }
def StateSortsSaid : Prop := stateSortsRow.holds Try.pinned (OpenSpec.ofChange stateSortsSpec)

/-- ITS FALSE NEIGHBOUR: 'it returns false'. Refute it at one input. -/
def stateSortsWrong : ChangeSpec := { name := "stateSorts", fn := fun _ => fun
  | [d1, d2] => { results := [.lit (.bool false)], args := [d1, d2] }
  | _ => none }
def StateSortsWrongFalsely : Prop := stateSortsRow.holds Try.pinned (OpenSpec.ofChange stateSortsWrong)

/- THE SECOND FORM. 'bulk': how many values and letters a reading holds, each counted each time it is reached (what is shared counts as often as it is met; a slice's spare places count too). A statement '..UptoSaid' is the law's where the arguments, and the package variables that the reading takes, are together of bulk at most 1048576: NARROWER than '..Said'. Prove '..Said' where nothing that the law and all that it calls make is longer than what came in: it says more and counts as full. Else prove '..UptoSaid'. A law counts once. -/
mutual
def uptoBulk {H : Type} : DataW H → Nat
  | .lit (.string bytes) => bytes.length + 1
  | .lit _ => 1
  | .nil => 1
  | .ptr d => uptoBulk d + 1
  | .slice elems spare => uptoBulkAll elems + uptoBulkAll spare + 1
  | .agg parts => uptoBulkAll parts + 1
  | .iface _ d => uptoBulk d + 1
  | .map entries => uptoBulkEntries entries + 1
  | .held _ => 1
def uptoBulkAll {H : Type} : List (DataW H) → Nat
  | [] => 0
  | d :: r => uptoBulk d + uptoBulkAll r
def uptoBulkEntries {H : Type} : List (Lit × DataW H) → Nat
  | [] => 0
  | x :: r => uptoBulkEntry x + uptoBulkEntries r
def uptoBulkEntry {H : Type} : Lit × DataW H → Nat
  | (.string bytes, d) => bytes.length + uptoBulk d + 1
  | (_, d) => uptoBulk d + 1
 end
def uptoSmall : (H : Type) → List (DataW H) → Bool := fun _ ds => decide (uptoBulkAll ds ≤ 1048576)
def OpenSpec.upto (s : _root_.Go.ChangeSpec) : _root_.Go.OpenSpec := { _root_.Go.OpenSpec.ofChange s with cond := some uptoSmall }

/-- 'assentlaw13.StateRuns', WHERE WHAT IT READS IS OF BULK AT MOST 1048576: true; the input reads as it did. -/
def stateRunsUptoRow : OpenClaim := { program := "ytdpcnfdjpbbgjaa", sum := "92b74dbea1af609a11ba2585533ec5a2a13a10ef0bef6467ccf6a66c62405623", func := "assent/assentlaw13.StateRuns", spec := "stateRuns", apart := false, narrowed := true }
def StateRunsUptoSaid : Prop := stateRunsUptoRow.holds Try.pinned (OpenSpec.upto stateRunsSpec)

/-- 'assentlaw13.StateTwice', WHERE WHAT IT READS IS OF BULK AT MOST 1048576: true; the input reads as it did. -/
def stateTwiceUptoRow : OpenClaim := { program := "ytdpcnfdjpbbgjaa", sum := "92b74dbea1af609a11ba2585533ec5a2a13a10ef0bef6467ccf6a66c62405623", func := "assent/assentlaw13.StateTwice", spec := "stateTwice", apart := false, narrowed := true }
def StateTwiceUptoSaid : Prop := stateTwiceUptoRow.holds Try.pinned (OpenSpec.upto stateTwiceSpec)

/-- 'assentlaw13.StateModes', WHERE WHAT IT READS IS OF BULK AT MOST 1048576: true; the input reads as it did. -/
def stateModesUptoRow : OpenClaim := { program := "ytdpcnfdjpbbgjaa", sum := "92b74dbea1af609a11ba2585533ec5a2a13a10ef0bef6467ccf6a66c62405623", func := "assent/assentlaw13.StateModes", spec := "stateModes", apart := false, narrowed := true }
def StateModesUptoSaid : Prop := stateModesUptoRow.holds Try.pinned (OpenSpec.upto stateModesSpec)

/-- 'assentlaw13.StateTells', WHERE WHAT IT READS IS OF BULK AT MOST 1048576: true; the input reads as it did. -/
def stateTellsUptoRow : OpenClaim := { program := "ytdpcnfdjpbbgjaa", sum := "92b74dbea1af609a11ba2585533ec5a2a13a10ef0bef6467ccf6a66c62405623", func := "assent/assentlaw13.StateTells", spec := "stateTells", apart := false, narrowed := true }
def StateTellsUptoSaid : Prop := stateTellsUptoRow.holds Try.pinned (OpenSpec.upto stateTellsSpec)

/-- 'assentlaw13.StateKeeps', WHERE WHAT IT READS IS OF BULK AT MOST 1048576: true; the input reads as it did. -/
def stateKeepsUptoRow : OpenClaim := { program := "ytdpcnfdjpbbgjaa", sum := "92b74dbea1af609a11ba2585533ec5a2a13a10ef0bef6467ccf6a66c62405623", func := "assent/assentlaw13.StateKeeps", spec := "stateKeeps", apart := false, narrowed := true }
def StateKeepsUptoSaid : Prop := stateKeepsUptoRow.holds Try.pinned (OpenSpec.upto stateKeepsSpec)

/-- 'assentlaw13.StateGrants', WHERE WHAT IT READS IS OF BULK AT MOST 1048576: true; the input reads as it did. -/
def stateGrantsUptoRow : OpenClaim := { program := "ytdpcnfdjpbbgjaa", sum := "92b74dbea1af609a11ba2585533ec5a2a13a10ef0bef6467ccf6a66c62405623", func := "assent/assentlaw13.StateGrants", spec := "stateGrants", apart := false, narrowed := true }
def StateGrantsUptoSaid : Prop := stateGrantsUptoRow.holds Try.pinned (OpenSpec.upto stateGrantsSpec)

/-- 'assentlaw13.StateSorts', WHERE WHAT IT READS IS OF BULK AT MOST 1048576: true; the input reads as it did. -/
def stateSortsUptoRow : OpenClaim := { program := "ytdpcnfdjpbbgjaa", sum := "92b74dbea1af609a11ba2585533ec5a2a13a10ef0bef6467ccf6a66c62405623", func := "assent/assentlaw13.StateSorts", spec := "stateSorts", apart := false, narrowed := true }
def StateSortsUptoSaid : Prop := stateSortsUptoRow.holds Try.pinned (OpenSpec.upto stateSortsSpec)

end Rows
end Go.Proofs.Ytdpcnfdjpbbgjaa
