/-
  NARROWER THAN 'FOR EVERY INPUT', by the rows' own cells (each row's printed sentence says how): ArrayRuns: laid · ArrayPinned: laid · ArrayKeeps: laid · ArrayFull: laid · ArrayPlays: laid · ArrayHolds: laid · MshrRuns: laid · MshrPlays: laid · MshrBound: laid · MshrKinds: laid · MshrFull: laid.
  DERIVED. THE GIVEN ROWS OF THIS SEAT. 11 by the template 'for every input the law returns true; each argument reads behind the call as it read before'; 0 by the template 'total and deterministic' (their statements: YtjnoaidceddpjaaDoorTotals.lean).
  GIVEN WITH THE SEED: the statements are not yours to turn. If you find one false, say at which input.
  Laid BY PROGRAM, IN A SANDBOX (cutbox-rows.mjs): the forced cells as the released guide's own fill.sh prints them over the translation ec70baa2b7ce60c3… (all of the seat's roots in one cut). By AI agents, Wed Nov 11 2026. No macro, syntax, notation, axiom, sorry.
-/
import Derived.Test.YtjnoaidceddpjaaDoorChecked
import GoSem.Claim
import GoSem.ClaimJoined
import GoSem.ClaimMapViews
import Derived.JoinedTies
import Derived.KernelRfl
namespace Go.Proofs.YtjnoaidceddpjaaDoor
/- THE CELL 'sum', in the pinned program and in every row, IS THE sha256 OF THE DUMP (.gsa) THAT YtjnoaidceddpjaaDoorProg.lean LOADS. Nothing in Lean hashes anything: it is a label: what it is worth is what the hold of that sum in a sandbox is worth. -/
noncomputable def Tryd.pinned : Pinned := { name := "ytjnoaidceddpjaadoor", sum := "ec70baa2b7ce60c3a2b0a9b4cd3e2abf200010dc299f1866a8300eb79ba77c5a", checked := Tryd.checked }
namespace Rows
def none {H : Type} : Left H := { results := [], args := [] }

/- WHAT THE LISTED PACKAGE-LEVEL VARIABLES READ AS WHEN THE CALL BEGINS. Each datum BY PROGRAM (the guide's laid-datum.mjs) off the statement by which the dump's own 'gosem.cut.vars' lays the variable. In a bare row this is a premise. The card (YtjnoaidceddpjaaDoorCards.lean) ties it to the program's text. -/
def laid_errors_errorType {H : Type} : DataW H := .iface "internal/reflectlite.rtype" (.agg [.ptr (.lit (.string [101, 114, 114, 111, 114]))])
def laid_assent_api_ErrArg {H : Type} : DataW H := .iface "*errors.errorString" (.ptr (.agg [.lit (.string [97, 110, 32, 97, 114, 103, 117, 109, 101, 110, 116, 32, 116, 104, 97, 116, 32, 99, 97, 110, 39, 116, 32, 98, 101])]))
def laid_assent_api_ErrLong {H : Type} : DataW H := .iface "*errors.errorString" (.ptr (.agg [.lit (.string [116, 111, 111, 32, 108, 111, 110, 103])]))
def laid_assent_api_ErrShort {H : Type} : DataW H := .iface "*errors.errorString" (.ptr (.agg [.lit (.string [116, 111, 111, 32, 115, 104, 111, 114, 116])]))
def laid_assent_api_ErrForm {H : Type} : DataW H := .iface "*errors.errorString" (.ptr (.agg [.lit (.string [110, 111, 116, 32, 105, 110, 32, 102, 111, 114, 109])]))
def laid_assent_api_ErrTail {H : Type} : DataW H := .iface "*errors.errorString" (.ptr (.agg [.lit (.string [115, 111, 109, 101, 116, 104, 105, 110, 103, 32, 108, 101, 102, 116, 32, 111, 118, 101, 114])]))
def laid_assent_api_ErrFull {H : Type} : DataW H := .iface "*errors.errorString" (.ptr (.agg [.lit (.string [110, 111, 32, 114, 111, 111, 109])]))
def laid_assent_api_ErrBusy {H : Type} : DataW H := .iface "*errors.errorString" (.ptr (.agg [.lit (.string [117, 110, 100, 101, 114, 32, 119, 97, 121])]))
def laid_assent_api_ErrNone {H : Type} : DataW H := .iface "*errors.errorString" (.ptr (.agg [.lit (.string [116, 104, 101, 114, 101, 32, 105, 115, 32, 110, 111, 110, 101])]))
def laid_assent_api_ErrOrder {H : Type} : DataW H := .iface "*errors.errorString" (.ptr (.agg [.lit (.string [110, 111, 116, 32, 105, 110, 32, 111, 114, 100, 101, 114])]))
def laid_assent_api_ErrValue {H : Type} : DataW H := .iface "*errors.errorString" (.ptr (.agg [.lit (.string [97, 110, 111, 116, 104, 101, 114, 32, 118, 97, 108, 117, 101])]))

/-- 'assentlaw6.ArrayRuns': WHATEVER THE INPUT: true; the input reads as it did. -/
def arrayRunsSpec : ChangeSpec := { name := "arrayRuns", fn := fun _ => fun
  | [] => { results := [.lit (.bool true)], args := [] }
  | _ => none }
def arrayRunsRow : OpenClaim := { program := "ytjnoaidceddpjaadoor", sum := "ec70baa2b7ce60c3a2b0a9b4cd3e2abf200010dc299f1866a8300eb79ba77c5a", func := "assent/assentlaw6.ArrayRuns", spec := "arrayRuns", inPlace := ["internal/reflectlite.TypeOf", "internal/reflectlite.ValueOf", "(internal/reflectlite.Value).Type", "(internal/reflectlite.Value).IsNil", "(internal/reflectlite.Value).Elem", "(internal/reflectlite.Value).Set"], unfollowed := true, recurses := true, named := ["assent/api.ErrArg", "assent/api.ErrFull", "assent/api.ErrLong", "assent/api.ErrShort", "assent/api.ErrForm", "assent/api.ErrTail", "assent/api.ErrBusy", "assent/api.ErrNone", "assent/api.ErrOrder", "assent/api.ErrValue", "errors.errorType"], apart := false, laid := [("errors.errorType", laid_errors_errorType), ("assent/api.ErrArg", laid_assent_api_ErrArg), ("assent/api.ErrLong", laid_assent_api_ErrLong), ("assent/api.ErrShort", laid_assent_api_ErrShort), ("assent/api.ErrForm", laid_assent_api_ErrForm), ("assent/api.ErrTail", laid_assent_api_ErrTail), ("assent/api.ErrFull", laid_assent_api_ErrFull), ("assent/api.ErrBusy", laid_assent_api_ErrBusy), ("assent/api.ErrNone", laid_assent_api_ErrNone), ("assent/api.ErrOrder", laid_assent_api_ErrOrder), ("assent/api.ErrValue", laid_assent_api_ErrValue)] }
def ArrayRunsSaid : Prop := arrayRunsRow.holds Tryd.pinned (OpenSpec.ofChange arrayRunsSpec)

/-- ITS FALSE NEIGHBOUR: 'it returns false'. Refute it at one input. -/
def arrayRunsWrong : ChangeSpec := { name := "arrayRuns", fn := fun _ => fun
  | [] => { results := [.lit (.bool false)], args := [] }
  | _ => none }
def ArrayRunsWrongFalsely : Prop := arrayRunsRow.holds Tryd.pinned (OpenSpec.ofChange arrayRunsWrong)

/-- 'assentlaw6.ArrayPinned': WHATEVER THE INPUT: true; the input reads as it did. -/
def arrayPinnedSpec : ChangeSpec := { name := "arrayPinned", fn := fun _ => fun
  | [d1, d2, d3, d4] => { results := [.lit (.bool true)], args := [d1, d2, d3, d4] }
  | _ => none }
def arrayPinnedRow : OpenClaim := { program := "ytjnoaidceddpjaadoor", sum := "ec70baa2b7ce60c3a2b0a9b4cd3e2abf200010dc299f1866a8300eb79ba77c5a", func := "assent/assentlaw6.ArrayPinned", spec := "arrayPinned", inPlace := ["internal/reflectlite.TypeOf", "internal/reflectlite.ValueOf", "(internal/reflectlite.Value).Type", "(internal/reflectlite.Value).IsNil", "(internal/reflectlite.Value).Elem", "(internal/reflectlite.Value).Set"], unfollowed := true, recurses := true, named := ["assent/api.ErrArg", "assent/api.ErrFull", "assent/api.ErrLong", "assent/api.ErrShort", "assent/api.ErrForm", "assent/api.ErrTail", "assent/api.ErrBusy", "assent/api.ErrNone", "assent/api.ErrOrder", "assent/api.ErrValue", "errors.errorType"], apart := false, laid := [("errors.errorType", laid_errors_errorType), ("assent/api.ErrArg", laid_assent_api_ErrArg), ("assent/api.ErrLong", laid_assent_api_ErrLong), ("assent/api.ErrShort", laid_assent_api_ErrShort), ("assent/api.ErrForm", laid_assent_api_ErrForm), ("assent/api.ErrTail", laid_assent_api_ErrTail), ("assent/api.ErrFull", laid_assent_api_ErrFull), ("assent/api.ErrBusy", laid_assent_api_ErrBusy), ("assent/api.ErrNone", laid_assent_api_ErrNone), ("assent/api.ErrOrder", laid_assent_api_ErrOrder), ("assent/api.ErrValue", laid_assent_api_ErrValue)] }
def ArrayPinnedSaid : Prop := arrayPinnedRow.holds Tryd.pinned (OpenSpec.ofChange arrayPinnedSpec)

/-- ITS FALSE NEIGHBOUR: 'it returns false'. Refute it at one input. -/
def arrayPinnedWrong : ChangeSpec := { name := "arrayPinned", fn := fun _ => fun
  | [d1, d2, d3, d4] => { results := [.lit (.bool false)], args := [d1, d2, d3, d4] }
  | _ => none }
def ArrayPinnedWrongFalsely : Prop := arrayPinnedRow.holds Tryd.pinned (OpenSpec.ofChange arrayPinnedWrong)

/-- 'assentlaw6.ArrayKeeps': WHATEVER THE INPUT: true; the input reads as it did. -/
def arrayKeepsSpec : ChangeSpec := { name := "arrayKeeps", fn := fun _ => fun
  | [d1, d2] => { results := [.lit (.bool true)], args := [d1, d2] }
  | _ => none }
def arrayKeepsRow : OpenClaim := { program := "ytjnoaidceddpjaadoor", sum := "ec70baa2b7ce60c3a2b0a9b4cd3e2abf200010dc299f1866a8300eb79ba77c5a", func := "assent/assentlaw6.ArrayKeeps", spec := "arrayKeeps", inPlace := ["internal/reflectlite.TypeOf", "internal/reflectlite.ValueOf", "(internal/reflectlite.Value).Type", "(internal/reflectlite.Value).IsNil", "(internal/reflectlite.Value).Elem", "(internal/reflectlite.Value).Set"], unfollowed := true, recurses := true, named := ["assent/api.ErrArg", "assent/api.ErrFull", "assent/api.ErrLong", "assent/api.ErrShort", "assent/api.ErrForm", "assent/api.ErrTail", "assent/api.ErrBusy", "assent/api.ErrNone", "assent/api.ErrOrder", "assent/api.ErrValue", "errors.errorType"], apart := false, laid := [("errors.errorType", laid_errors_errorType), ("assent/api.ErrArg", laid_assent_api_ErrArg), ("assent/api.ErrLong", laid_assent_api_ErrLong), ("assent/api.ErrShort", laid_assent_api_ErrShort), ("assent/api.ErrForm", laid_assent_api_ErrForm), ("assent/api.ErrTail", laid_assent_api_ErrTail), ("assent/api.ErrFull", laid_assent_api_ErrFull), ("assent/api.ErrBusy", laid_assent_api_ErrBusy), ("assent/api.ErrNone", laid_assent_api_ErrNone), ("assent/api.ErrOrder", laid_assent_api_ErrOrder), ("assent/api.ErrValue", laid_assent_api_ErrValue)] }
def ArrayKeepsSaid : Prop := arrayKeepsRow.holds Tryd.pinned (OpenSpec.ofChange arrayKeepsSpec)

/-- ITS FALSE NEIGHBOUR: 'it returns false'. Refute it at one input. -/
def arrayKeepsWrong : ChangeSpec := { name := "arrayKeeps", fn := fun _ => fun
  | [d1, d2] => { results := [.lit (.bool false)], args := [d1, d2] }
  | _ => none }
def ArrayKeepsWrongFalsely : Prop := arrayKeepsRow.holds Tryd.pinned (OpenSpec.ofChange arrayKeepsWrong)

/-- 'assentlaw6.ArrayFull': WHATEVER THE INPUT: true; the input reads as it did. -/
def arrayFullSpec : ChangeSpec := { name := "arrayFull", fn := fun _ => fun
  | [d1, d2, d3] => { results := [.lit (.bool true)], args := [d1, d2, d3] }
  | _ => none }
def arrayFullRow : OpenClaim := { program := "ytjnoaidceddpjaadoor", sum := "ec70baa2b7ce60c3a2b0a9b4cd3e2abf200010dc299f1866a8300eb79ba77c5a", func := "assent/assentlaw6.ArrayFull", spec := "arrayFull", inPlace := ["internal/reflectlite.TypeOf", "internal/reflectlite.ValueOf", "(internal/reflectlite.Value).Type", "(internal/reflectlite.Value).IsNil", "(internal/reflectlite.Value).Elem", "(internal/reflectlite.Value).Set"], unfollowed := true, recurses := true, named := ["assent/api.ErrArg", "assent/api.ErrFull", "assent/api.ErrLong", "assent/api.ErrShort", "assent/api.ErrForm", "assent/api.ErrTail", "assent/api.ErrBusy", "assent/api.ErrNone", "assent/api.ErrOrder", "assent/api.ErrValue", "errors.errorType"], apart := false, laid := [("errors.errorType", laid_errors_errorType), ("assent/api.ErrArg", laid_assent_api_ErrArg), ("assent/api.ErrLong", laid_assent_api_ErrLong), ("assent/api.ErrShort", laid_assent_api_ErrShort), ("assent/api.ErrForm", laid_assent_api_ErrForm), ("assent/api.ErrTail", laid_assent_api_ErrTail), ("assent/api.ErrFull", laid_assent_api_ErrFull), ("assent/api.ErrBusy", laid_assent_api_ErrBusy), ("assent/api.ErrNone", laid_assent_api_ErrNone), ("assent/api.ErrOrder", laid_assent_api_ErrOrder), ("assent/api.ErrValue", laid_assent_api_ErrValue)] }
def ArrayFullSaid : Prop := arrayFullRow.holds Tryd.pinned (OpenSpec.ofChange arrayFullSpec)

/-- ITS FALSE NEIGHBOUR: 'it returns false'. Refute it at one input. -/
def arrayFullWrong : ChangeSpec := { name := "arrayFull", fn := fun _ => fun
  | [d1, d2, d3] => { results := [.lit (.bool false)], args := [d1, d2, d3] }
  | _ => none }
def ArrayFullWrongFalsely : Prop := arrayFullRow.holds Tryd.pinned (OpenSpec.ofChange arrayFullWrong)

/-- 'assentlaw6.ArrayPlays': WHATEVER THE INPUT: true; the input reads as it did. -/
def arrayPlaysSpec : ChangeSpec := { name := "arrayPlays", fn := fun _ => fun
  | [d1, d2, d3] => { results := [.lit (.bool true)], args := [d1, d2, d3] }
  | _ => none }
def arrayPlaysRow : OpenClaim := { program := "ytjnoaidceddpjaadoor", sum := "ec70baa2b7ce60c3a2b0a9b4cd3e2abf200010dc299f1866a8300eb79ba77c5a", func := "assent/assentlaw6.ArrayPlays", spec := "arrayPlays", inPlace := ["internal/reflectlite.TypeOf", "internal/reflectlite.ValueOf", "(internal/reflectlite.Value).Type", "(internal/reflectlite.Value).IsNil", "(internal/reflectlite.Value).Elem", "(internal/reflectlite.Value).Set"], unfollowed := true, recurses := true, named := ["assent/api.ErrArg", "assent/api.ErrLong", "assent/api.ErrShort", "assent/api.ErrForm", "assent/api.ErrTail", "assent/api.ErrFull", "assent/api.ErrBusy", "assent/api.ErrNone", "assent/api.ErrOrder", "assent/api.ErrValue", "errors.errorType"], apart := false, laid := [("errors.errorType", laid_errors_errorType), ("assent/api.ErrArg", laid_assent_api_ErrArg), ("assent/api.ErrLong", laid_assent_api_ErrLong), ("assent/api.ErrShort", laid_assent_api_ErrShort), ("assent/api.ErrForm", laid_assent_api_ErrForm), ("assent/api.ErrTail", laid_assent_api_ErrTail), ("assent/api.ErrFull", laid_assent_api_ErrFull), ("assent/api.ErrBusy", laid_assent_api_ErrBusy), ("assent/api.ErrNone", laid_assent_api_ErrNone), ("assent/api.ErrOrder", laid_assent_api_ErrOrder), ("assent/api.ErrValue", laid_assent_api_ErrValue)] }
def ArrayPlaysSaid : Prop := arrayPlaysRow.holds Tryd.pinned (OpenSpec.ofChange arrayPlaysSpec)

/-- ITS FALSE NEIGHBOUR: 'it returns false'. Refute it at one input. -/
def arrayPlaysWrong : ChangeSpec := { name := "arrayPlays", fn := fun _ => fun
  | [d1, d2, d3] => { results := [.lit (.bool false)], args := [d1, d2, d3] }
  | _ => none }
def ArrayPlaysWrongFalsely : Prop := arrayPlaysRow.holds Tryd.pinned (OpenSpec.ofChange arrayPlaysWrong)

/-- 'assentlaw6.ArrayHolds': WHATEVER THE INPUT: true; the input reads as it did. -/
def arrayHoldsSpec : ChangeSpec := { name := "arrayHolds", fn := fun _ => fun
  | [d1, d2, d3] => { results := [.lit (.bool true)], args := [d1, d2, d3] }
  | _ => none }
def arrayHoldsRow : OpenClaim := { program := "ytjnoaidceddpjaadoor", sum := "ec70baa2b7ce60c3a2b0a9b4cd3e2abf200010dc299f1866a8300eb79ba77c5a", func := "assent/assentlaw6.ArrayHolds", spec := "arrayHolds", inPlace := ["internal/reflectlite.TypeOf", "internal/reflectlite.ValueOf", "(internal/reflectlite.Value).Type", "(internal/reflectlite.Value).IsNil", "(internal/reflectlite.Value).Elem", "(internal/reflectlite.Value).Set"], unfollowed := true, recurses := true, named := ["assent/api.ErrArg", "assent/api.ErrFull", "assent/api.ErrLong", "assent/api.ErrShort", "assent/api.ErrForm", "assent/api.ErrTail", "assent/api.ErrBusy", "assent/api.ErrNone", "assent/api.ErrOrder", "assent/api.ErrValue", "errors.errorType"], apart := false, laid := [("errors.errorType", laid_errors_errorType), ("assent/api.ErrArg", laid_assent_api_ErrArg), ("assent/api.ErrLong", laid_assent_api_ErrLong), ("assent/api.ErrShort", laid_assent_api_ErrShort), ("assent/api.ErrForm", laid_assent_api_ErrForm), ("assent/api.ErrTail", laid_assent_api_ErrTail), ("assent/api.ErrFull", laid_assent_api_ErrFull), ("assent/api.ErrBusy", laid_assent_api_ErrBusy), ("assent/api.ErrNone", laid_assent_api_ErrNone), ("assent/api.ErrOrder", laid_assent_api_ErrOrder), ("assent/api.ErrValue", laid_assent_api_ErrValue)] }
def ArrayHoldsSaid : Prop := arrayHoldsRow.holds Tryd.pinned (OpenSpec.ofChange arrayHoldsSpec)

/-- ITS FALSE NEIGHBOUR: 'it returns false'. Refute it at one input. -/
def arrayHoldsWrong : ChangeSpec := { name := "arrayHolds", fn := fun _ => fun
  | [d1, d2, d3] => { results := [.lit (.bool false)], args := [d1, d2, d3] }
  | _ => none }
def ArrayHoldsWrongFalsely : Prop := arrayHoldsRow.holds Tryd.pinned (OpenSpec.ofChange arrayHoldsWrong)

/-- 'assentlaw7.MshrRuns': WHATEVER THE INPUT: true; the input reads as it did. -/
def mshrRunsSpec : ChangeSpec := { name := "mshrRuns", fn := fun _ => fun
  | [] => { results := [.lit (.bool true)], args := [] }
  | _ => none }
def mshrRunsRow : OpenClaim := { program := "ytjnoaidceddpjaadoor", sum := "ec70baa2b7ce60c3a2b0a9b4cd3e2abf200010dc299f1866a8300eb79ba77c5a", func := "assent/assentlaw7.MshrRuns", spec := "mshrRuns", inPlace := ["slices.overlaps[assent/mshr.Miss]", "internal/reflectlite.TypeOf", "internal/reflectlite.ValueOf", "(internal/reflectlite.Value).Type", "(internal/reflectlite.Value).IsNil", "(internal/reflectlite.Value).Elem", "(internal/reflectlite.Value).Set"], unfollowed := true, recurses := true, named := ["assent/api.ErrArg", "assent/api.ErrBusy", "assent/api.ErrFull", "assent/api.ErrLong", "assent/api.ErrShort", "assent/api.ErrForm", "assent/api.ErrTail", "assent/api.ErrNone", "assent/api.ErrOrder", "assent/api.ErrValue", "errors.errorType"], apart := false, laid := [("errors.errorType", laid_errors_errorType), ("assent/api.ErrArg", laid_assent_api_ErrArg), ("assent/api.ErrLong", laid_assent_api_ErrLong), ("assent/api.ErrShort", laid_assent_api_ErrShort), ("assent/api.ErrForm", laid_assent_api_ErrForm), ("assent/api.ErrTail", laid_assent_api_ErrTail), ("assent/api.ErrFull", laid_assent_api_ErrFull), ("assent/api.ErrBusy", laid_assent_api_ErrBusy), ("assent/api.ErrNone", laid_assent_api_ErrNone), ("assent/api.ErrOrder", laid_assent_api_ErrOrder), ("assent/api.ErrValue", laid_assent_api_ErrValue)] }
def MshrRunsSaid : Prop := mshrRunsRow.holds Tryd.pinned (OpenSpec.ofChange mshrRunsSpec)

/-- ITS FALSE NEIGHBOUR: 'it returns false'. Refute it at one input. -/
def mshrRunsWrong : ChangeSpec := { name := "mshrRuns", fn := fun _ => fun
  | [] => { results := [.lit (.bool false)], args := [] }
  | _ => none }
def MshrRunsWrongFalsely : Prop := mshrRunsRow.holds Tryd.pinned (OpenSpec.ofChange mshrRunsWrong)

/-- 'assentlaw7.MshrPlays': WHATEVER THE INPUT: true; the input reads as it did. -/
def mshrPlaysSpec : ChangeSpec := { name := "mshrPlays", fn := fun _ => fun
  | [d1, d2] => { results := [.lit (.bool true)], args := [d1, d2] }
  | _ => none }
def mshrPlaysRow : OpenClaim := { program := "ytjnoaidceddpjaadoor", sum := "ec70baa2b7ce60c3a2b0a9b4cd3e2abf200010dc299f1866a8300eb79ba77c5a", func := "assent/assentlaw7.MshrPlays", spec := "mshrPlays", inPlace := ["internal/reflectlite.TypeOf", "internal/reflectlite.ValueOf", "(internal/reflectlite.Value).Type", "(internal/reflectlite.Value).IsNil", "(internal/reflectlite.Value).Elem", "(internal/reflectlite.Value).Set", "slices.overlaps[assent/mshr.Miss]"], unfollowed := true, recurses := true, named := ["assent/api.ErrArg", "assent/api.ErrLong", "assent/api.ErrShort", "assent/api.ErrForm", "assent/api.ErrTail", "assent/api.ErrFull", "assent/api.ErrBusy", "assent/api.ErrNone", "assent/api.ErrOrder", "assent/api.ErrValue", "errors.errorType"], apart := false, laid := [("errors.errorType", laid_errors_errorType), ("assent/api.ErrArg", laid_assent_api_ErrArg), ("assent/api.ErrLong", laid_assent_api_ErrLong), ("assent/api.ErrShort", laid_assent_api_ErrShort), ("assent/api.ErrForm", laid_assent_api_ErrForm), ("assent/api.ErrTail", laid_assent_api_ErrTail), ("assent/api.ErrFull", laid_assent_api_ErrFull), ("assent/api.ErrBusy", laid_assent_api_ErrBusy), ("assent/api.ErrNone", laid_assent_api_ErrNone), ("assent/api.ErrOrder", laid_assent_api_ErrOrder), ("assent/api.ErrValue", laid_assent_api_ErrValue)] }
def MshrPlaysSaid : Prop := mshrPlaysRow.holds Tryd.pinned (OpenSpec.ofChange mshrPlaysSpec)

/-- ITS FALSE NEIGHBOUR: 'it returns false'. Refute it at one input. -/
def mshrPlaysWrong : ChangeSpec := { name := "mshrPlays", fn := fun _ => fun
  | [d1, d2] => { results := [.lit (.bool false)], args := [d1, d2] }
  | _ => none }
def MshrPlaysWrongFalsely : Prop := mshrPlaysRow.holds Tryd.pinned (OpenSpec.ofChange mshrPlaysWrong)

/-- 'assentlaw7.MshrBound': WHATEVER THE INPUT: true; the input reads as it did. -/
def mshrBoundSpec : ChangeSpec := { name := "mshrBound", fn := fun _ => fun
  | [d1, d2] => { results := [.lit (.bool true)], args := [d1, d2] }
  | _ => none }
def mshrBoundRow : OpenClaim := { program := "ytjnoaidceddpjaadoor", sum := "ec70baa2b7ce60c3a2b0a9b4cd3e2abf200010dc299f1866a8300eb79ba77c5a", func := "assent/assentlaw7.MshrBound", spec := "mshrBound", inPlace := ["slices.overlaps[assent/mshr.Miss]", "internal/reflectlite.TypeOf", "internal/reflectlite.ValueOf", "(internal/reflectlite.Value).Type", "(internal/reflectlite.Value).IsNil", "(internal/reflectlite.Value).Elem", "(internal/reflectlite.Value).Set"], unfollowed := true, recurses := true, named := ["assent/api.ErrArg", "assent/api.ErrBusy", "assent/api.ErrFull", "assent/api.ErrLong", "assent/api.ErrShort", "assent/api.ErrForm", "assent/api.ErrTail", "assent/api.ErrNone", "assent/api.ErrOrder", "assent/api.ErrValue", "errors.errorType"], apart := false, laid := [("errors.errorType", laid_errors_errorType), ("assent/api.ErrArg", laid_assent_api_ErrArg), ("assent/api.ErrLong", laid_assent_api_ErrLong), ("assent/api.ErrShort", laid_assent_api_ErrShort), ("assent/api.ErrForm", laid_assent_api_ErrForm), ("assent/api.ErrTail", laid_assent_api_ErrTail), ("assent/api.ErrFull", laid_assent_api_ErrFull), ("assent/api.ErrBusy", laid_assent_api_ErrBusy), ("assent/api.ErrNone", laid_assent_api_ErrNone), ("assent/api.ErrOrder", laid_assent_api_ErrOrder), ("assent/api.ErrValue", laid_assent_api_ErrValue)] }
def MshrBoundSaid : Prop := mshrBoundRow.holds Tryd.pinned (OpenSpec.ofChange mshrBoundSpec)

/-- ITS FALSE NEIGHBOUR: 'it returns false'. Refute it at one input. -/
def mshrBoundWrong : ChangeSpec := { name := "mshrBound", fn := fun _ => fun
  | [d1, d2] => { results := [.lit (.bool false)], args := [d1, d2] }
  | _ => none }
def MshrBoundWrongFalsely : Prop := mshrBoundRow.holds Tryd.pinned (OpenSpec.ofChange mshrBoundWrong)

/-- 'assentlaw7.MshrKinds': WHATEVER THE INPUT: true; the input reads as it did. -/
def mshrKindsSpec : ChangeSpec := { name := "mshrKinds", fn := fun _ => fun
  | [d1, d2, d3] => { results := [.lit (.bool true)], args := [d1, d2, d3] }
  | _ => none }
def mshrKindsRow : OpenClaim := { program := "ytjnoaidceddpjaadoor", sum := "ec70baa2b7ce60c3a2b0a9b4cd3e2abf200010dc299f1866a8300eb79ba77c5a", func := "assent/assentlaw7.MshrKinds", spec := "mshrKinds", inPlace := ["slices.overlaps[assent/mshr.Miss]", "internal/reflectlite.TypeOf", "internal/reflectlite.ValueOf", "(internal/reflectlite.Value).Type", "(internal/reflectlite.Value).IsNil", "(internal/reflectlite.Value).Elem", "(internal/reflectlite.Value).Set"], unfollowed := true, recurses := true, named := ["assent/api.ErrArg", "assent/api.ErrBusy", "assent/api.ErrFull", "assent/api.ErrLong", "assent/api.ErrShort", "assent/api.ErrForm", "assent/api.ErrTail", "assent/api.ErrNone", "assent/api.ErrOrder", "assent/api.ErrValue", "errors.errorType"], apart := false, laid := [("errors.errorType", laid_errors_errorType), ("assent/api.ErrArg", laid_assent_api_ErrArg), ("assent/api.ErrLong", laid_assent_api_ErrLong), ("assent/api.ErrShort", laid_assent_api_ErrShort), ("assent/api.ErrForm", laid_assent_api_ErrForm), ("assent/api.ErrTail", laid_assent_api_ErrTail), ("assent/api.ErrFull", laid_assent_api_ErrFull), ("assent/api.ErrBusy", laid_assent_api_ErrBusy), ("assent/api.ErrNone", laid_assent_api_ErrNone), ("assent/api.ErrOrder", laid_assent_api_ErrOrder), ("assent/api.ErrValue", laid_assent_api_ErrValue)] }
def MshrKindsSaid : Prop := mshrKindsRow.holds Tryd.pinned (OpenSpec.ofChange mshrKindsSpec)

/-- ITS FALSE NEIGHBOUR: 'it returns false'. Refute it at one input. -/
def mshrKindsWrong : ChangeSpec := { name := "mshrKinds", fn := fun _ => fun
  | [d1, d2, d3] => { results := [.lit (.bool false)], args := [d1, d2, d3] }
  | _ => none }
def MshrKindsWrongFalsely : Prop := mshrKindsRow.holds Tryd.pinned (OpenSpec.ofChange mshrKindsWrong)

/-- 'assentlaw7.MshrFull': WHATEVER THE INPUT: true; the input reads as it did. -/
def mshrFullSpec : ChangeSpec := { name := "mshrFull", fn := fun _ => fun
  | [d1, d2] => { results := [.lit (.bool true)], args := [d1, d2] }
  | _ => none }
def mshrFullRow : OpenClaim := { program := "ytjnoaidceddpjaadoor", sum := "ec70baa2b7ce60c3a2b0a9b4cd3e2abf200010dc299f1866a8300eb79ba77c5a", func := "assent/assentlaw7.MshrFull", spec := "mshrFull", inPlace := ["slices.overlaps[assent/mshr.Miss]", "internal/reflectlite.TypeOf", "internal/reflectlite.ValueOf", "(internal/reflectlite.Value).Type", "(internal/reflectlite.Value).IsNil", "(internal/reflectlite.Value).Elem", "(internal/reflectlite.Value).Set"], unfollowed := true, recurses := true, named := ["assent/api.ErrArg", "assent/api.ErrBusy", "assent/api.ErrFull", "assent/api.ErrLong", "assent/api.ErrShort", "assent/api.ErrForm", "assent/api.ErrTail", "assent/api.ErrNone", "assent/api.ErrOrder", "assent/api.ErrValue", "errors.errorType"], apart := false, laid := [("errors.errorType", laid_errors_errorType), ("assent/api.ErrArg", laid_assent_api_ErrArg), ("assent/api.ErrLong", laid_assent_api_ErrLong), ("assent/api.ErrShort", laid_assent_api_ErrShort), ("assent/api.ErrForm", laid_assent_api_ErrForm), ("assent/api.ErrTail", laid_assent_api_ErrTail), ("assent/api.ErrFull", laid_assent_api_ErrFull), ("assent/api.ErrBusy", laid_assent_api_ErrBusy), ("assent/api.ErrNone", laid_assent_api_ErrNone), ("assent/api.ErrOrder", laid_assent_api_ErrOrder), ("assent/api.ErrValue", laid_assent_api_ErrValue)] }
def MshrFullSaid : Prop := mshrFullRow.holds Tryd.pinned (OpenSpec.ofChange mshrFullSpec)

/-- ITS FALSE NEIGHBOUR: 'it returns false'. Refute it at one input. -/
def mshrFullWrong : ChangeSpec := { name := "mshrFull", fn := fun _ => fun
  | [d1, d2] => { results := [.lit (.bool false)], args := [d1, d2] }
  | _ => none }
def MshrFullWrongFalsely : Prop := mshrFullRow.holds Tryd.pinned (OpenSpec.ofChange mshrFullWrong)

/- THE SECOND FORM. 'bulk': how many values and letters a reading holds, each counted each time it is reached (what is shared counts as often as it is met; a slice's spare places count too). A statement '..UptoSaid' is the law's where the arguments, and the package variables that the reading takes, are together of bulk at most 1048576: NARROWER than '..Said'. Prove '..Said' where nothing that the law and all that it calls make is longer than what came in: it says more and counts as full. Else prove '..UptoSaid'. A law counts once. -/
mutual
def uptoBulk {H : Type} : DataW H → Nat
  | .lit (.string bytes) => bytes.length + 1
  | .lit _ => 1
  | .nil => 1
  | .ptr d => uptoBulk d + 1
  | .slice elems spare => uptoBulkAll elems + uptoBulkAll spare + 1
  | .agg parts => uptoBulkAll parts + 1
  | .iface _ d => uptoBulk d + 1
  | .map entries => uptoBulkEntries entries + 1
  | .held _ => 1
def uptoBulkAll {H : Type} : List (DataW H) → Nat
  | [] => 0
  | d :: r => uptoBulk d + uptoBulkAll r
def uptoBulkEntries {H : Type} : List (Lit × DataW H) → Nat
  | [] => 0
  | x :: r => uptoBulkEntry x + uptoBulkEntries r
def uptoBulkEntry {H : Type} : Lit × DataW H → Nat
  | (.string bytes, d) => bytes.length + uptoBulk d + 1
  | (_, d) => uptoBulk d + 1
 end
def uptoSmall : (H : Type) → List (DataW H) → Bool := fun _ ds => decide (uptoBulkAll ds ≤ 1048576)
def OpenSpec.upto (s : _root_.Go.ChangeSpec) : _root_.Go.OpenSpec := { _root_.Go.OpenSpec.ofChange s with cond := some uptoSmall }

/-- 'assentlaw6.ArrayRuns', WHERE WHAT IT READS IS OF BULK AT MOST 1048576: true; the input reads as it did. -/
def arrayRunsUptoRow : OpenClaim := { program := "ytjnoaidceddpjaadoor", sum := "ec70baa2b7ce60c3a2b0a9b4cd3e2abf200010dc299f1866a8300eb79ba77c5a", func := "assent/assentlaw6.ArrayRuns", spec := "arrayRuns", inPlace := ["internal/reflectlite.TypeOf", "internal/reflectlite.ValueOf", "(internal/reflectlite.Value).Type", "(internal/reflectlite.Value).IsNil", "(internal/reflectlite.Value).Elem", "(internal/reflectlite.Value).Set"], unfollowed := true, recurses := true, named := ["assent/api.ErrArg", "assent/api.ErrFull", "assent/api.ErrLong", "assent/api.ErrShort", "assent/api.ErrForm", "assent/api.ErrTail", "assent/api.ErrBusy", "assent/api.ErrNone", "assent/api.ErrOrder", "assent/api.ErrValue", "errors.errorType"], apart := false, laid := [("errors.errorType", laid_errors_errorType), ("assent/api.ErrArg", laid_assent_api_ErrArg), ("assent/api.ErrLong", laid_assent_api_ErrLong), ("assent/api.ErrShort", laid_assent_api_ErrShort), ("assent/api.ErrForm", laid_assent_api_ErrForm), ("assent/api.ErrTail", laid_assent_api_ErrTail), ("assent/api.ErrFull", laid_assent_api_ErrFull), ("assent/api.ErrBusy", laid_assent_api_ErrBusy), ("assent/api.ErrNone", laid_assent_api_ErrNone), ("assent/api.ErrOrder", laid_assent_api_ErrOrder), ("assent/api.ErrValue", laid_assent_api_ErrValue)], narrowed := true }
def ArrayRunsUptoSaid : Prop := arrayRunsUptoRow.holds Tryd.pinned (OpenSpec.upto arrayRunsSpec)

/-- 'assentlaw6.ArrayPinned', WHERE WHAT IT READS IS OF BULK AT MOST 1048576: true; the input reads as it did. -/
def arrayPinnedUptoRow : OpenClaim := { program := "ytjnoaidceddpjaadoor", sum := "ec70baa2b7ce60c3a2b0a9b4cd3e2abf200010dc299f1866a8300eb79ba77c5a", func := "assent/assentlaw6.ArrayPinned", spec := "arrayPinned", inPlace := ["internal/reflectlite.TypeOf", "internal/reflectlite.ValueOf", "(internal/reflectlite.Value).Type", "(internal/reflectlite.Value).IsNil", "(internal/reflectlite.Value).Elem", "(internal/reflectlite.Value).Set"], unfollowed := true, recurses := true, named := ["assent/api.ErrArg", "assent/api.ErrFull", "assent/api.ErrLong", "assent/api.ErrShort", "assent/api.ErrForm", "assent/api.ErrTail", "assent/api.ErrBusy", "assent/api.ErrNone", "assent/api.ErrOrder", "assent/api.ErrValue", "errors.errorType"], apart := false, laid := [("errors.errorType", laid_errors_errorType), ("assent/api.ErrArg", laid_assent_api_ErrArg), ("assent/api.ErrLong", laid_assent_api_ErrLong), ("assent/api.ErrShort", laid_assent_api_ErrShort), ("assent/api.ErrForm", laid_assent_api_ErrForm), ("assent/api.ErrTail", laid_assent_api_ErrTail), ("assent/api.ErrFull", laid_assent_api_ErrFull), ("assent/api.ErrBusy", laid_assent_api_ErrBusy), ("assent/api.ErrNone", laid_assent_api_ErrNone), ("assent/api.ErrOrder", laid_assent_api_ErrOrder), ("assent/api.ErrValue", laid_assent_api_ErrValue)], narrowed := true }
def ArrayPinnedUptoSaid : Prop := arrayPinnedUptoRow.holds Tryd.pinned (OpenSpec.upto arrayPinnedSpec)

/-- 'assentlaw6.ArrayKeeps', WHERE WHAT IT READS IS OF BULK AT MOST 1048576: true; the input reads as it did. -/
def arrayKeepsUptoRow : OpenClaim := { program := "ytjnoaidceddpjaadoor", sum := "ec70baa2b7ce60c3a2b0a9b4cd3e2abf200010dc299f1866a8300eb79ba77c5a", func := "assent/assentlaw6.ArrayKeeps", spec := "arrayKeeps", inPlace := ["internal/reflectlite.TypeOf", "internal/reflectlite.ValueOf", "(internal/reflectlite.Value).Type", "(internal/reflectlite.Value).IsNil", "(internal/reflectlite.Value).Elem", "(internal/reflectlite.Value).Set"], unfollowed := true, recurses := true, named := ["assent/api.ErrArg", "assent/api.ErrFull", "assent/api.ErrLong", "assent/api.ErrShort", "assent/api.ErrForm", "assent/api.ErrTail", "assent/api.ErrBusy", "assent/api.ErrNone", "assent/api.ErrOrder", "assent/api.ErrValue", "errors.errorType"], apart := false, laid := [("errors.errorType", laid_errors_errorType), ("assent/api.ErrArg", laid_assent_api_ErrArg), ("assent/api.ErrLong", laid_assent_api_ErrLong), ("assent/api.ErrShort", laid_assent_api_ErrShort), ("assent/api.ErrForm", laid_assent_api_ErrForm), ("assent/api.ErrTail", laid_assent_api_ErrTail), ("assent/api.ErrFull", laid_assent_api_ErrFull), ("assent/api.ErrBusy", laid_assent_api_ErrBusy), ("assent/api.ErrNone", laid_assent_api_ErrNone), ("assent/api.ErrOrder", laid_assent_api_ErrOrder), ("assent/api.ErrValue", laid_assent_api_ErrValue)], narrowed := true }
def ArrayKeepsUptoSaid : Prop := arrayKeepsUptoRow.holds Tryd.pinned (OpenSpec.upto arrayKeepsSpec)

/-- 'assentlaw6.ArrayFull', WHERE WHAT IT READS IS OF BULK AT MOST 1048576: true; the input reads as it did. -/
def arrayFullUptoRow : OpenClaim := { program := "ytjnoaidceddpjaadoor", sum := "ec70baa2b7ce60c3a2b0a9b4cd3e2abf200010dc299f1866a8300eb79ba77c5a", func := "assent/assentlaw6.ArrayFull", spec := "arrayFull", inPlace := ["internal/reflectlite.TypeOf", "internal/reflectlite.ValueOf", "(internal/reflectlite.Value).Type", "(internal/reflectlite.Value).IsNil", "(internal/reflectlite.Value).Elem", "(internal/reflectlite.Value).Set"], unfollowed := true, recurses := true, named := ["assent/api.ErrArg", "assent/api.ErrFull", "assent/api.ErrLong", "assent/api.ErrShort", "assent/api.ErrForm", "assent/api.ErrTail", "assent/api.ErrBusy", "assent/api.ErrNone", "assent/api.ErrOrder", "assent/api.ErrValue", "errors.errorType"], apart := false, laid := [("errors.errorType", laid_errors_errorType), ("assent/api.ErrArg", laid_assent_api_ErrArg), ("assent/api.ErrLong", laid_assent_api_ErrLong), ("assent/api.ErrShort", laid_assent_api_ErrShort), ("assent/api.ErrForm", laid_assent_api_ErrForm), ("assent/api.ErrTail", laid_assent_api_ErrTail), ("assent/api.ErrFull", laid_assent_api_ErrFull), ("assent/api.ErrBusy", laid_assent_api_ErrBusy), ("assent/api.ErrNone", laid_assent_api_ErrNone), ("assent/api.ErrOrder", laid_assent_api_ErrOrder), ("assent/api.ErrValue", laid_assent_api_ErrValue)], narrowed := true }
def ArrayFullUptoSaid : Prop := arrayFullUptoRow.holds Tryd.pinned (OpenSpec.upto arrayFullSpec)

/-- 'assentlaw6.ArrayPlays', WHERE WHAT IT READS IS OF BULK AT MOST 1048576: true; the input reads as it did. -/
def arrayPlaysUptoRow : OpenClaim := { program := "ytjnoaidceddpjaadoor", sum := "ec70baa2b7ce60c3a2b0a9b4cd3e2abf200010dc299f1866a8300eb79ba77c5a", func := "assent/assentlaw6.ArrayPlays", spec := "arrayPlays", inPlace := ["internal/reflectlite.TypeOf", "internal/reflectlite.ValueOf", "(internal/reflectlite.Value).Type", "(internal/reflectlite.Value).IsNil", "(internal/reflectlite.Value).Elem", "(internal/reflectlite.Value).Set"], unfollowed := true, recurses := true, named := ["assent/api.ErrArg", "assent/api.ErrLong", "assent/api.ErrShort", "assent/api.ErrForm", "assent/api.ErrTail", "assent/api.ErrFull", "assent/api.ErrBusy", "assent/api.ErrNone", "assent/api.ErrOrder", "assent/api.ErrValue", "errors.errorType"], apart := false, laid := [("errors.errorType", laid_errors_errorType), ("assent/api.ErrArg", laid_assent_api_ErrArg), ("assent/api.ErrLong", laid_assent_api_ErrLong), ("assent/api.ErrShort", laid_assent_api_ErrShort), ("assent/api.ErrForm", laid_assent_api_ErrForm), ("assent/api.ErrTail", laid_assent_api_ErrTail), ("assent/api.ErrFull", laid_assent_api_ErrFull), ("assent/api.ErrBusy", laid_assent_api_ErrBusy), ("assent/api.ErrNone", laid_assent_api_ErrNone), ("assent/api.ErrOrder", laid_assent_api_ErrOrder), ("assent/api.ErrValue", laid_assent_api_ErrValue)], narrowed := true }
def ArrayPlaysUptoSaid : Prop := arrayPlaysUptoRow.holds Tryd.pinned (OpenSpec.upto arrayPlaysSpec)

/-- 'assentlaw6.ArrayHolds', WHERE WHAT IT READS IS OF BULK AT MOST 1048576: true; the input reads as it did. -/
def arrayHoldsUptoRow : OpenClaim := { program := "ytjnoaidceddpjaadoor", sum := "ec70baa2b7ce60c3a2b0a9b4cd3e2abf200010dc299f1866a8300eb79ba77c5a", func := "assent/assentlaw6.ArrayHolds", spec := "arrayHolds", inPlace := ["internal/reflectlite.TypeOf", "internal/reflectlite.ValueOf", "(internal/reflectlite.Value).Type", "(internal/reflectlite.Value).IsNil", "(internal/reflectlite.Value).Elem", "(internal/reflectlite.Value).Set"], unfollowed := true, recurses := true, named := ["assent/api.ErrArg", "assent/api.ErrFull", "assent/api.ErrLong", "assent/api.ErrShort", "assent/api.ErrForm", "assent/api.ErrTail", "assent/api.ErrBusy", "assent/api.ErrNone", "assent/api.ErrOrder", "assent/api.ErrValue", "errors.errorType"], apart := false, laid := [("errors.errorType", laid_errors_errorType), ("assent/api.ErrArg", laid_assent_api_ErrArg), ("assent/api.ErrLong", laid_assent_api_ErrLong), ("assent/api.ErrShort", laid_assent_api_ErrShort), ("assent/api.ErrForm", laid_assent_api_ErrForm), ("assent/api.ErrTail", laid_assent_api_ErrTail), ("assent/api.ErrFull", laid_assent_api_ErrFull), ("assent/api.ErrBusy", laid_assent_api_ErrBusy), ("assent/api.ErrNone", laid_assent_api_ErrNone), ("assent/api.ErrOrder", laid_assent_api_ErrOrder), ("assent/api.ErrValue", laid_assent_api_ErrValue)], narrowed := true }
def ArrayHoldsUptoSaid : Prop := arrayHoldsUptoRow.holds Tryd.pinned (OpenSpec.upto arrayHoldsSpec)

/-- 'assentlaw7.MshrRuns', WHERE WHAT IT READS IS OF BULK AT MOST 1048576: true; the input reads as it did. -/
def mshrRunsUptoRow : OpenClaim := { program := "ytjnoaidceddpjaadoor", sum := "ec70baa2b7ce60c3a2b0a9b4cd3e2abf200010dc299f1866a8300eb79ba77c5a", func := "assent/assentlaw7.MshrRuns", spec := "mshrRuns", inPlace := ["slices.overlaps[assent/mshr.Miss]", "internal/reflectlite.TypeOf", "internal/reflectlite.ValueOf", "(internal/reflectlite.Value).Type", "(internal/reflectlite.Value).IsNil", "(internal/reflectlite.Value).Elem", "(internal/reflectlite.Value).Set"], unfollowed := true, recurses := true, named := ["assent/api.ErrArg", "assent/api.ErrBusy", "assent/api.ErrFull", "assent/api.ErrLong", "assent/api.ErrShort", "assent/api.ErrForm", "assent/api.ErrTail", "assent/api.ErrNone", "assent/api.ErrOrder", "assent/api.ErrValue", "errors.errorType"], apart := false, laid := [("errors.errorType", laid_errors_errorType), ("assent/api.ErrArg", laid_assent_api_ErrArg), ("assent/api.ErrLong", laid_assent_api_ErrLong), ("assent/api.ErrShort", laid_assent_api_ErrShort), ("assent/api.ErrForm", laid_assent_api_ErrForm), ("assent/api.ErrTail", laid_assent_api_ErrTail), ("assent/api.ErrFull", laid_assent_api_ErrFull), ("assent/api.ErrBusy", laid_assent_api_ErrBusy), ("assent/api.ErrNone", laid_assent_api_ErrNone), ("assent/api.ErrOrder", laid_assent_api_ErrOrder), ("assent/api.ErrValue", laid_assent_api_ErrValue)], narrowed := true }
def MshrRunsUptoSaid : Prop := mshrRunsUptoRow.holds Tryd.pinned (OpenSpec.upto mshrRunsSpec)

/-- 'assentlaw7.MshrPlays', WHERE WHAT IT READS IS OF BULK AT MOST 1048576: true; the input reads as it did. -/
def mshrPlaysUptoRow : OpenClaim := { program := "ytjnoaidceddpjaadoor", sum := "ec70baa2b7ce60c3a2b0a9b4cd3e2abf200010dc299f1866a8300eb79ba77c5a", func := "assent/assentlaw7.MshrPlays", spec := "mshrPlays", inPlace := ["internal/reflectlite.TypeOf", "internal/reflectlite.ValueOf", "(internal/reflectlite.Value).Type", "(internal/reflectlite.Value).IsNil", "(internal/reflectlite.Value).Elem", "(internal/reflectlite.Value).Set", "slices.overlaps[assent/mshr.Miss]"], unfollowed := true, recurses := true, named := ["assent/api.ErrArg", "assent/api.ErrLong", "assent/api.ErrShort", "assent/api.ErrForm", "assent/api.ErrTail", "assent/api.ErrFull", "assent/api.ErrBusy", "assent/api.ErrNone", "assent/api.ErrOrder", "assent/api.ErrValue", "errors.errorType"], apart := false, laid := [("errors.errorType", laid_errors_errorType), ("assent/api.ErrArg", laid_assent_api_ErrArg), ("assent/api.ErrLong", laid_assent_api_ErrLong), ("assent/api.ErrShort", laid_assent_api_ErrShort), ("assent/api.ErrForm", laid_assent_api_ErrForm), ("assent/api.ErrTail", laid_assent_api_ErrTail), ("assent/api.ErrFull", laid_assent_api_ErrFull), ("assent/api.ErrBusy", laid_assent_api_ErrBusy), ("assent/api.ErrNone", laid_assent_api_ErrNone), ("assent/api.ErrOrder", laid_assent_api_ErrOrder), ("assent/api.ErrValue", laid_assent_api_ErrValue)], narrowed := true }
def MshrPlaysUptoSaid : Prop := mshrPlaysUptoRow.holds Tryd.pinned (OpenSpec.upto mshrPlaysSpec)

/-- 'assentlaw7.MshrBound', WHERE WHAT IT READS IS OF BULK AT MOST 1048576: true; the input reads as it did. -/
def mshrBoundUptoRow : OpenClaim := { program := "ytjnoaidceddpjaadoor", sum := "ec70baa2b7ce60c3a2b0a9b4cd3e2abf200010dc299f1866a8300eb79ba77c5a", func := "assent/assentlaw7.MshrBound", spec := "mshrBound", inPlace := ["slices.overlaps[assent/mshr.Miss]", "internal/reflectlite.TypeOf", "internal/reflectlite.ValueOf", "(internal/reflectlite.Value).Type", "(internal/reflectlite.Value).IsNil", "(internal/reflectlite.Value).Elem", "(internal/reflectlite.Value).Set"], unfollowed := true, recurses := true, named := ["assent/api.ErrArg", "assent/api.ErrBusy", "assent/api.ErrFull", "assent/api.ErrLong", "assent/api.ErrShort", "assent/api.ErrForm", "assent/api.ErrTail", "assent/api.ErrNone", "assent/api.ErrOrder", "assent/api.ErrValue", "errors.errorType"], apart := false, laid := [("errors.errorType", laid_errors_errorType), ("assent/api.ErrArg", laid_assent_api_ErrArg), ("assent/api.ErrLong", laid_assent_api_ErrLong), ("assent/api.ErrShort", laid_assent_api_ErrShort), ("assent/api.ErrForm", laid_assent_api_ErrForm), ("assent/api.ErrTail", laid_assent_api_ErrTail), ("assent/api.ErrFull", laid_assent_api_ErrFull), ("assent/api.ErrBusy", laid_assent_api_ErrBusy), ("assent/api.ErrNone", laid_assent_api_ErrNone), ("assent/api.ErrOrder", laid_assent_api_ErrOrder), ("assent/api.ErrValue", laid_assent_api_ErrValue)], narrowed := true }
def MshrBoundUptoSaid : Prop := mshrBoundUptoRow.holds Tryd.pinned (OpenSpec.upto mshrBoundSpec)

/-- 'assentlaw7.MshrKinds', WHERE WHAT IT READS IS OF BULK AT MOST 1048576: true; the input reads as it did. -/
def mshrKindsUptoRow : OpenClaim := { program := "ytjnoaidceddpjaadoor", sum := "ec70baa2b7ce60c3a2b0a9b4cd3e2abf200010dc299f1866a8300eb79ba77c5a", func := "assent/assentlaw7.MshrKinds", spec := "mshrKinds", inPlace := ["slices.overlaps[assent/mshr.Miss]", "internal/reflectlite.TypeOf", "internal/reflectlite.ValueOf", "(internal/reflectlite.Value).Type", "(internal/reflectlite.Value).IsNil", "(internal/reflectlite.Value).Elem", "(internal/reflectlite.Value).Set"], unfollowed := true, recurses := true, named := ["assent/api.ErrArg", "assent/api.ErrBusy", "assent/api.ErrFull", "assent/api.ErrLong", "assent/api.ErrShort", "assent/api.ErrForm", "assent/api.ErrTail", "assent/api.ErrNone", "assent/api.ErrOrder", "assent/api.ErrValue", "errors.errorType"], apart := false, laid := [("errors.errorType", laid_errors_errorType), ("assent/api.ErrArg", laid_assent_api_ErrArg), ("assent/api.ErrLong", laid_assent_api_ErrLong), ("assent/api.ErrShort", laid_assent_api_ErrShort), ("assent/api.ErrForm", laid_assent_api_ErrForm), ("assent/api.ErrTail", laid_assent_api_ErrTail), ("assent/api.ErrFull", laid_assent_api_ErrFull), ("assent/api.ErrBusy", laid_assent_api_ErrBusy), ("assent/api.ErrNone", laid_assent_api_ErrNone), ("assent/api.ErrOrder", laid_assent_api_ErrOrder), ("assent/api.ErrValue", laid_assent_api_ErrValue)], narrowed := true }
def MshrKindsUptoSaid : Prop := mshrKindsUptoRow.holds Tryd.pinned (OpenSpec.upto mshrKindsSpec)

/-- 'assentlaw7.MshrFull', WHERE WHAT IT READS IS OF BULK AT MOST 1048576: true; the input reads as it did. -/
def mshrFullUptoRow : OpenClaim := { program := "ytjnoaidceddpjaadoor", sum := "ec70baa2b7ce60c3a2b0a9b4cd3e2abf200010dc299f1866a8300eb79ba77c5a", func := "assent/assentlaw7.MshrFull", spec := "mshrFull", inPlace := ["slices.overlaps[assent/mshr.Miss]", "internal/reflectlite.TypeOf", "internal/reflectlite.ValueOf", "(internal/reflectlite.Value).Type", "(internal/reflectlite.Value).IsNil", "(internal/reflectlite.Value).Elem", "(internal/reflectlite.Value).Set"], unfollowed := true, recurses := true, named := ["assent/api.ErrArg", "assent/api.ErrBusy", "assent/api.ErrFull", "assent/api.ErrLong", "assent/api.ErrShort", "assent/api.ErrForm", "assent/api.ErrTail", "assent/api.ErrNone", "assent/api.ErrOrder", "assent/api.ErrValue", "errors.errorType"], apart := false, laid := [("errors.errorType", laid_errors_errorType), ("assent/api.ErrArg", laid_assent_api_ErrArg), ("assent/api.ErrLong", laid_assent_api_ErrLong), ("assent/api.ErrShort", laid_assent_api_ErrShort), ("assent/api.ErrForm", laid_assent_api_ErrForm), ("assent/api.ErrTail", laid_assent_api_ErrTail), ("assent/api.ErrFull", laid_assent_api_ErrFull), ("assent/api.ErrBusy", laid_assent_api_ErrBusy), ("assent/api.ErrNone", laid_assent_api_ErrNone), ("assent/api.ErrOrder", laid_assent_api_ErrOrder), ("assent/api.ErrValue", laid_assent_api_ErrValue)], narrowed := true }
def MshrFullUptoSaid : Prop := mshrFullUptoRow.holds Tryd.pinned (OpenSpec.upto mshrFullSpec)

end Rows
end Go.Proofs.YtjnoaidceddpjaaDoor
