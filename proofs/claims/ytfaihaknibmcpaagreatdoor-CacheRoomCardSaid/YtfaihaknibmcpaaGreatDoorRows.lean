/-
  NARROWER THAN 'FOR EVERY INPUT', by the rows' own cells (each row's printed sentence says how): CacheFull: laid · CachePlays: laid · CacheRoom: laid · CacheWrites: laid · CacheTurns: laid · CacheLost: laid · CacheNew: laid.
  DERIVED. THE GIVEN ROWS OF THIS SEAT. 7 by the template 'for every input the law returns true; each argument reads behind the call as it read before'; 0 by the template 'total and deterministic' (their statements: YtfaihaknibmcpaaGreatDoorTotals.lean).
  GIVEN WITH THE SEED: the statements are not yours to turn. If you find one false, say at which input.
  Laid BY PROGRAM, IN A SANDBOX (cutbox-rows.mjs): the forced cells as the released guide's own fill.sh prints them over the translation c4d686041a31a40e… (all of the seat's roots in one cut). By AI agents, Wed Nov 11 2026. No macro, syntax, notation, axiom, sorry.
-/
import Derived.Test.YtfaihaknibmcpaaGreatDoorChecked
import GoSem.Claim
import GoSem.ClaimJoined
import GoSem.ClaimMapViews
import Derived.JoinedTies
import Derived.KernelRfl
namespace Go.Proofs.YtfaihaknibmcpaaGreatDoor
/- THE CELL 'sum', in the pinned program and in every row, IS THE sha256 OF THE DUMP (.gsa) THAT YtfaihaknibmcpaaGreatDoorProg.lean LOADS. Nothing in Lean hashes anything: it is a label: what it is worth is what the hold of that sum in a sandbox is worth. -/
noncomputable def Tryz.pinned : Pinned := { name := "ytfaihaknibmcpaagreatdoor", sum := "c4d686041a31a40e8b1574b8c40d600554ee6cc2dad7052397fe9d50bc57b45b", checked := Tryz.checked }
namespace Rows
def none {H : Type} : Left H := { results := [], args := [] }

/- WHAT THE LISTED PACKAGE-LEVEL VARIABLES READ AS WHEN THE CALL BEGINS. Each datum BY PROGRAM (the guide's laid-datum.mjs) off the statement by which the dump's own 'gosem.cut.vars' lays the variable. In a bare row this is a premise. The card (YtfaihaknibmcpaaGreatDoorCards.lean) ties it to the program's text. -/
def laid_errors_errorType {H : Type} : DataW H := .iface "internal/reflectlite.rtype" (.agg [.ptr (.lit (.string [101, 114, 114, 111, 114]))])
def laid_assent_api_ErrArg {H : Type} : DataW H := .iface "*errors.errorString" (.ptr (.agg [.lit (.string [97, 110, 32, 97, 114, 103, 117, 109, 101, 110, 116, 32, 116, 104, 97, 116, 32, 99, 97, 110, 39, 116, 32, 98, 101])]))
def laid_assent_api_ErrLong {H : Type} : DataW H := .iface "*errors.errorString" (.ptr (.agg [.lit (.string [116, 111, 111, 32, 108, 111, 110, 103])]))
def laid_assent_api_ErrShort {H : Type} : DataW H := .iface "*errors.errorString" (.ptr (.agg [.lit (.string [116, 111, 111, 32, 115, 104, 111, 114, 116])]))
def laid_assent_api_ErrForm {H : Type} : DataW H := .iface "*errors.errorString" (.ptr (.agg [.lit (.string [110, 111, 116, 32, 105, 110, 32, 102, 111, 114, 109])]))
def laid_assent_api_ErrTail {H : Type} : DataW H := .iface "*errors.errorString" (.ptr (.agg [.lit (.string [115, 111, 109, 101, 116, 104, 105, 110, 103, 32, 108, 101, 102, 116, 32, 111, 118, 101, 114])]))
def laid_assent_api_ErrFull {H : Type} : DataW H := .iface "*errors.errorString" (.ptr (.agg [.lit (.string [110, 111, 32, 114, 111, 111, 109])]))
def laid_assent_api_ErrBusy {H : Type} : DataW H := .iface "*errors.errorString" (.ptr (.agg [.lit (.string [117, 110, 100, 101, 114, 32, 119, 97, 121])]))
def laid_assent_api_ErrNone {H : Type} : DataW H := .iface "*errors.errorString" (.ptr (.agg [.lit (.string [116, 104, 101, 114, 101, 32, 105, 115, 32, 110, 111, 110, 101])]))
def laid_assent_api_ErrOrder {H : Type} : DataW H := .iface "*errors.errorString" (.ptr (.agg [.lit (.string [110, 111, 116, 32, 105, 110, 32, 111, 114, 100, 101, 114])]))
def laid_assent_api_ErrValue {H : Type} : DataW H := .iface "*errors.errorString" (.ptr (.agg [.lit (.string [97, 110, 111, 116, 104, 101, 114, 32, 118, 97, 108, 117, 101])]))

/-- 'assentlaw14.CacheFull': WHATEVER THE INPUT: true; the input reads as it did. -/
def cacheFullSpec : ChangeSpec := { name := "cacheFull", fn := fun _ => fun
  | [d1, d2] => { results := [.lit (.bool true)], args := [d1, d2] }
  | _ => none }
def cacheFullRow : OpenClaim := { program := "ytfaihaknibmcpaagreatdoor", sum := "c4d686041a31a40e8b1574b8c40d600554ee6cc2dad7052397fe9d50bc57b45b", func := "assent/assentlaw14.CacheFull", spec := "cacheFull", inPlace := ["slices.overlaps[assent/mshr.Miss]", "internal/reflectlite.TypeOf", "internal/reflectlite.ValueOf", "(internal/reflectlite.Value).Type", "(internal/reflectlite.Value).IsNil", "(internal/reflectlite.Value).Elem", "(internal/reflectlite.Value).Set"], unfollowed := true, recurses := true, named := ["assent/api.ErrArg", "assent/api.ErrBusy", "assent/api.ErrFull", "assent/api.ErrLong", "assent/api.ErrShort", "assent/api.ErrForm", "assent/api.ErrTail", "assent/api.ErrNone", "assent/api.ErrOrder", "assent/api.ErrValue", "errors.errorType"], apart := false, laid := [("errors.errorType", laid_errors_errorType), ("assent/api.ErrArg", laid_assent_api_ErrArg), ("assent/api.ErrLong", laid_assent_api_ErrLong), ("assent/api.ErrShort", laid_assent_api_ErrShort), ("assent/api.ErrForm", laid_assent_api_ErrForm), ("assent/api.ErrTail", laid_assent_api_ErrTail), ("assent/api.ErrFull", laid_assent_api_ErrFull), ("assent/api.ErrBusy", laid_assent_api_ErrBusy), ("assent/api.ErrNone", laid_assent_api_ErrNone), ("assent/api.ErrOrder", laid_assent_api_ErrOrder), ("assent/api.ErrValue", laid_assent_api_ErrValue)] }
def CacheFullSaid : Prop := cacheFullRow.holds Tryz.pinned (OpenSpec.ofChange cacheFullSpec)

/-- ITS FALSE NEIGHBOUR: 'it returns false'. Refute it at one input. -/
def cacheFullWrong : ChangeSpec := { name := "cacheFull", fn := fun _ => fun
  | [d1, d2] => { results := [.lit (.bool false)], args := [d1, d2] }
  | _ => none }
def CacheFullWrongFalsely : Prop := cacheFullRow.holds Tryz.pinned (OpenSpec.ofChange cacheFullWrong)

/-- 'assentlaw14.CachePlays': WHATEVER THE INPUT: true; the input reads as it did. -/
def cachePlaysSpec : ChangeSpec := { name := "cachePlays", fn := fun _ => fun
  | [d1, d2, d3, d4] => { results := [.lit (.bool true)], args := [d1, d2, d3, d4] }
  | _ => none }
def cachePlaysRow : OpenClaim := { program := "ytfaihaknibmcpaagreatdoor", sum := "c4d686041a31a40e8b1574b8c40d600554ee6cc2dad7052397fe9d50bc57b45b", func := "assent/assentlaw14.CachePlays", spec := "cachePlays", inPlace := ["internal/reflectlite.TypeOf", "internal/reflectlite.ValueOf", "(internal/reflectlite.Value).Type", "(internal/reflectlite.Value).IsNil", "(internal/reflectlite.Value).Elem", "(internal/reflectlite.Value).Set", "slices.overlaps[assent/mshr.Miss]"], unfollowed := true, recurses := true, named := ["assent/api.ErrArg", "assent/api.ErrLong", "assent/api.ErrShort", "assent/api.ErrForm", "assent/api.ErrTail", "assent/api.ErrFull", "assent/api.ErrBusy", "assent/api.ErrNone", "assent/api.ErrOrder", "assent/api.ErrValue", "errors.errorType"], apart := false, laid := [("errors.errorType", laid_errors_errorType), ("assent/api.ErrArg", laid_assent_api_ErrArg), ("assent/api.ErrLong", laid_assent_api_ErrLong), ("assent/api.ErrShort", laid_assent_api_ErrShort), ("assent/api.ErrForm", laid_assent_api_ErrForm), ("assent/api.ErrTail", laid_assent_api_ErrTail), ("assent/api.ErrFull", laid_assent_api_ErrFull), ("assent/api.ErrBusy", laid_assent_api_ErrBusy), ("assent/api.ErrNone", laid_assent_api_ErrNone), ("assent/api.ErrOrder", laid_assent_api_ErrOrder), ("assent/api.ErrValue", laid_assent_api_ErrValue)] }
def CachePlaysSaid : Prop := cachePlaysRow.holds Tryz.pinned (OpenSpec.ofChange cachePlaysSpec)

/-- ITS FALSE NEIGHBOUR: 'it returns false'. Refute it at one input. -/
def cachePlaysWrong : ChangeSpec := { name := "cachePlays", fn := fun _ => fun
  | [d1, d2, d3, d4] => { results := [.lit (.bool false)], args := [d1, d2, d3, d4] }
  | _ => none }
def CachePlaysWrongFalsely : Prop := cachePlaysRow.holds Tryz.pinned (OpenSpec.ofChange cachePlaysWrong)

/-- 'assentlaw14.CacheRoom': WHATEVER THE INPUT: true; the input reads as it did. -/
def cacheRoomSpec : ChangeSpec := { name := "cacheRoom", fn := fun _ => fun
  | [d1, d2] => { results := [.lit (.bool true)], args := [d1, d2] }
  | _ => none }
def cacheRoomRow : OpenClaim := { program := "ytfaihaknibmcpaagreatdoor", sum := "c4d686041a31a40e8b1574b8c40d600554ee6cc2dad7052397fe9d50bc57b45b", func := "assent/assentlaw14.CacheRoom", spec := "cacheRoom", inPlace := ["slices.overlaps[assent/mshr.Miss]", "internal/reflectlite.TypeOf", "internal/reflectlite.ValueOf", "(internal/reflectlite.Value).Type", "(internal/reflectlite.Value).IsNil", "(internal/reflectlite.Value).Elem", "(internal/reflectlite.Value).Set"], unfollowed := true, recurses := true, named := ["assent/api.ErrArg", "assent/api.ErrBusy", "assent/api.ErrFull", "assent/api.ErrLong", "assent/api.ErrShort", "assent/api.ErrForm", "assent/api.ErrTail", "assent/api.ErrNone", "assent/api.ErrOrder", "assent/api.ErrValue", "errors.errorType"], apart := false, laid := [("errors.errorType", laid_errors_errorType), ("assent/api.ErrArg", laid_assent_api_ErrArg), ("assent/api.ErrLong", laid_assent_api_ErrLong), ("assent/api.ErrShort", laid_assent_api_ErrShort), ("assent/api.ErrForm", laid_assent_api_ErrForm), ("assent/api.ErrTail", laid_assent_api_ErrTail), ("assent/api.ErrFull", laid_assent_api_ErrFull), ("assent/api.ErrBusy", laid_assent_api_ErrBusy), ("assent/api.ErrNone", laid_assent_api_ErrNone), ("assent/api.ErrOrder", laid_assent_api_ErrOrder), ("assent/api.ErrValue", laid_assent_api_ErrValue)] }
def CacheRoomSaid : Prop := cacheRoomRow.holds Tryz.pinned (OpenSpec.ofChange cacheRoomSpec)

/-- ITS FALSE NEIGHBOUR: 'it returns false'. Refute it at one input. -/
def cacheRoomWrong : ChangeSpec := { name := "cacheRoom", fn := fun _ => fun
  | [d1, d2] => { results := [.lit (.bool false)], args := [d1, d2] }
  | _ => none }
def CacheRoomWrongFalsely : Prop := cacheRoomRow.holds Tryz.pinned (OpenSpec.ofChange cacheRoomWrong)

/-- 'assentlaw14.CacheWrites': WHATEVER THE INPUT: true; the input reads as it did. -/
def cacheWritesSpec : ChangeSpec := { name := "cacheWrites", fn := fun _ => fun
  | [d1, d2, d3, d4] => { results := [.lit (.bool true)], args := [d1, d2, d3, d4] }
  | _ => none }
def cacheWritesRow : OpenClaim := { program := "ytfaihaknibmcpaagreatdoor", sum := "c4d686041a31a40e8b1574b8c40d600554ee6cc2dad7052397fe9d50bc57b45b", func := "assent/assentlaw14.CacheWrites", spec := "cacheWrites", inPlace := ["slices.overlaps[assent/mshr.Miss]", "internal/reflectlite.TypeOf", "internal/reflectlite.ValueOf", "(internal/reflectlite.Value).Type", "(internal/reflectlite.Value).IsNil", "(internal/reflectlite.Value).Elem", "(internal/reflectlite.Value).Set"], unfollowed := true, recurses := true, named := ["assent/api.ErrArg", "assent/api.ErrFull", "assent/api.ErrBusy", "assent/api.ErrLong", "assent/api.ErrShort", "assent/api.ErrForm", "assent/api.ErrTail", "assent/api.ErrNone", "assent/api.ErrOrder", "assent/api.ErrValue", "errors.errorType"], apart := false, laid := [("errors.errorType", laid_errors_errorType), ("assent/api.ErrArg", laid_assent_api_ErrArg), ("assent/api.ErrLong", laid_assent_api_ErrLong), ("assent/api.ErrShort", laid_assent_api_ErrShort), ("assent/api.ErrForm", laid_assent_api_ErrForm), ("assent/api.ErrTail", laid_assent_api_ErrTail), ("assent/api.ErrFull", laid_assent_api_ErrFull), ("assent/api.ErrBusy", laid_assent_api_ErrBusy), ("assent/api.ErrNone", laid_assent_api_ErrNone), ("assent/api.ErrOrder", laid_assent_api_ErrOrder), ("assent/api.ErrValue", laid_assent_api_ErrValue)] }
def CacheWritesSaid : Prop := cacheWritesRow.holds Tryz.pinned (OpenSpec.ofChange cacheWritesSpec)

/-- ITS FALSE NEIGHBOUR: 'it returns false'. Refute it at one input. -/
def cacheWritesWrong : ChangeSpec := { name := "cacheWrites", fn := fun _ => fun
  | [d1, d2, d3, d4] => { results := [.lit (.bool false)], args := [d1, d2, d3, d4] }
  | _ => none }
def CacheWritesWrongFalsely : Prop := cacheWritesRow.holds Tryz.pinned (OpenSpec.ofChange cacheWritesWrong)

/-- 'assentlaw14.CacheTurns': WHATEVER THE INPUT: true; the input reads as it did. -/
def cacheTurnsSpec : ChangeSpec := { name := "cacheTurns", fn := fun _ => fun
  | [d1, d2, d3, d4, d5] => { results := [.lit (.bool true)], args := [d1, d2, d3, d4, d5] }
  | _ => none }
def cacheTurnsRow : OpenClaim := { program := "ytfaihaknibmcpaagreatdoor", sum := "c4d686041a31a40e8b1574b8c40d600554ee6cc2dad7052397fe9d50bc57b45b", func := "assent/assentlaw14.CacheTurns", spec := "cacheTurns", inPlace := ["slices.overlaps[assent/mshr.Miss]", "internal/reflectlite.TypeOf", "internal/reflectlite.ValueOf", "(internal/reflectlite.Value).Type", "(internal/reflectlite.Value).IsNil", "(internal/reflectlite.Value).Elem", "(internal/reflectlite.Value).Set"], unfollowed := true, recurses := true, named := ["assent/api.ErrArg", "assent/api.ErrBusy", "assent/api.ErrFull", "assent/api.ErrLong", "assent/api.ErrShort", "assent/api.ErrForm", "assent/api.ErrTail", "assent/api.ErrNone", "assent/api.ErrOrder", "assent/api.ErrValue", "errors.errorType"], apart := false, laid := [("errors.errorType", laid_errors_errorType), ("assent/api.ErrArg", laid_assent_api_ErrArg), ("assent/api.ErrLong", laid_assent_api_ErrLong), ("assent/api.ErrShort", laid_assent_api_ErrShort), ("assent/api.ErrForm", laid_assent_api_ErrForm), ("assent/api.ErrTail", laid_assent_api_ErrTail), ("assent/api.ErrFull", laid_assent_api_ErrFull), ("assent/api.ErrBusy", laid_assent_api_ErrBusy), ("assent/api.ErrNone", laid_assent_api_ErrNone), ("assent/api.ErrOrder", laid_assent_api_ErrOrder), ("assent/api.ErrValue", laid_assent_api_ErrValue)] }
def CacheTurnsSaid : Prop := cacheTurnsRow.holds Tryz.pinned (OpenSpec.ofChange cacheTurnsSpec)

/-- ITS FALSE NEIGHBOUR: 'it returns false'. Refute it at one input. -/
def cacheTurnsWrong : ChangeSpec := { name := "cacheTurns", fn := fun _ => fun
  | [d1, d2, d3, d4, d5] => { results := [.lit (.bool false)], args := [d1, d2, d3, d4, d5] }
  | _ => none }
def CacheTurnsWrongFalsely : Prop := cacheTurnsRow.holds Tryz.pinned (OpenSpec.ofChange cacheTurnsWrong)

/-- 'assentlaw14.CacheLost': WHATEVER THE INPUT: true; the input reads as it did. -/
def cacheLostSpec : ChangeSpec := { name := "cacheLost", fn := fun _ => fun
  | [d1, d2, d3] => { results := [.lit (.bool true)], args := [d1, d2, d3] }
  | _ => none }
def cacheLostRow : OpenClaim := { program := "ytfaihaknibmcpaagreatdoor", sum := "c4d686041a31a40e8b1574b8c40d600554ee6cc2dad7052397fe9d50bc57b45b", func := "assent/assentlaw14.CacheLost", spec := "cacheLost", inPlace := ["slices.overlaps[assent/mshr.Miss]", "internal/reflectlite.TypeOf", "internal/reflectlite.ValueOf", "(internal/reflectlite.Value).Type", "(internal/reflectlite.Value).IsNil", "(internal/reflectlite.Value).Elem", "(internal/reflectlite.Value).Set"], unfollowed := true, recurses := true, named := ["assent/api.ErrArg", "assent/api.ErrBusy", "assent/api.ErrFull", "assent/api.ErrLong", "assent/api.ErrShort", "assent/api.ErrForm", "assent/api.ErrTail", "assent/api.ErrNone", "assent/api.ErrOrder", "assent/api.ErrValue", "errors.errorType"], apart := false, laid := [("errors.errorType", laid_errors_errorType), ("assent/api.ErrArg", laid_assent_api_ErrArg), ("assent/api.ErrLong", laid_assent_api_ErrLong), ("assent/api.ErrShort", laid_assent_api_ErrShort), ("assent/api.ErrForm", laid_assent_api_ErrForm), ("assent/api.ErrTail", laid_assent_api_ErrTail), ("assent/api.ErrFull", laid_assent_api_ErrFull), ("assent/api.ErrBusy", laid_assent_api_ErrBusy), ("assent/api.ErrNone", laid_assent_api_ErrNone), ("assent/api.ErrOrder", laid_assent_api_ErrOrder), ("assent/api.ErrValue", laid_assent_api_ErrValue)] }
def CacheLostSaid : Prop := cacheLostRow.holds Tryz.pinned (OpenSpec.ofChange cacheLostSpec)

/-- ITS FALSE NEIGHBOUR: 'it returns false'. Refute it at one input. -/
def cacheLostWrong : ChangeSpec := { name := "cacheLost", fn := fun _ => fun
  | [d1, d2, d3] => { results := [.lit (.bool false)], args := [d1, d2, d3] }
  | _ => none }
def CacheLostWrongFalsely : Prop := cacheLostRow.holds Tryz.pinned (OpenSpec.ofChange cacheLostWrong)

/-- 'assentlaw14.CacheNew': WHATEVER THE INPUT: true; the input reads as it did. -/
def cacheNewSpec : ChangeSpec := { name := "cacheNew", fn := fun _ => fun
  | [d1, d2, d3, d4] => { results := [.lit (.bool true)], args := [d1, d2, d3, d4] }
  | _ => none }
def cacheNewRow : OpenClaim := { program := "ytfaihaknibmcpaagreatdoor", sum := "c4d686041a31a40e8b1574b8c40d600554ee6cc2dad7052397fe9d50bc57b45b", func := "assent/assentlaw14.CacheNew", spec := "cacheNew", inPlace := ["slices.overlaps[assent/mshr.Miss]", "internal/reflectlite.TypeOf", "internal/reflectlite.ValueOf", "(internal/reflectlite.Value).Type", "(internal/reflectlite.Value).IsNil", "(internal/reflectlite.Value).Elem", "(internal/reflectlite.Value).Set"], unfollowed := true, recurses := true, named := ["assent/api.ErrArg", "assent/api.ErrFull", "assent/api.ErrBusy", "assent/api.ErrLong", "assent/api.ErrShort", "assent/api.ErrForm", "assent/api.ErrTail", "assent/api.ErrNone", "assent/api.ErrOrder", "assent/api.ErrValue", "errors.errorType"], apart := false, laid := [("errors.errorType", laid_errors_errorType), ("assent/api.ErrArg", laid_assent_api_ErrArg), ("assent/api.ErrLong", laid_assent_api_ErrLong), ("assent/api.ErrShort", laid_assent_api_ErrShort), ("assent/api.ErrForm", laid_assent_api_ErrForm), ("assent/api.ErrTail", laid_assent_api_ErrTail), ("assent/api.ErrFull", laid_assent_api_ErrFull), ("assent/api.ErrBusy", laid_assent_api_ErrBusy), ("assent/api.ErrNone", laid_assent_api_ErrNone), ("assent/api.ErrOrder", laid_assent_api_ErrOrder), ("assent/api.ErrValue", laid_assent_api_ErrValue)] }
def CacheNewSaid : Prop := cacheNewRow.holds Tryz.pinned (OpenSpec.ofChange cacheNewSpec)

/-- ITS FALSE NEIGHBOUR: 'it returns false'. Refute it at one input. -/
def cacheNewWrong : ChangeSpec := { name := "cacheNew", fn := fun _ => fun
  | [d1, d2, d3, d4] => { results := [.lit (.bool false)], args := [d1, d2, d3, d4] }
  | _ => none }
def CacheNewWrongFalsely : Prop := cacheNewRow.holds Tryz.pinned (OpenSpec.ofChange cacheNewWrong)

/- THE SECOND FORM. 'bulk': how many values and letters a reading holds, each counted each time it is reached (what is shared counts as often as it is met; a slice's spare places count too). A statement '..UptoSaid' is the law's where the arguments, and the package variables that the reading takes, are together of bulk at most 1048576: NARROWER than '..Said'. Prove '..Said' where nothing that the law and all that it calls make is longer than what came in: it says more and counts as full. Else prove '..UptoSaid'. A law counts once. -/
mutual
def uptoBulk {H : Type} : DataW H → Nat
  | .lit (.string bytes) => bytes.length + 1
  | .lit _ => 1
  | .nil => 1
  | .ptr d => uptoBulk d + 1
  | .slice elems spare => uptoBulkAll elems + uptoBulkAll spare + 1
  | .agg parts => uptoBulkAll parts + 1
  | .iface _ d => uptoBulk d + 1
  | .map entries => uptoBulkEntries entries + 1
  | .held _ => 1
def uptoBulkAll {H : Type} : List (DataW H) → Nat
  | [] => 0
  | d :: r => uptoBulk d + uptoBulkAll r
def uptoBulkEntries {H : Type} : List (Lit × DataW H) → Nat
  | [] => 0
  | x :: r => uptoBulkEntry x + uptoBulkEntries r
def uptoBulkEntry {H : Type} : Lit × DataW H → Nat
  | (.string bytes, d) => bytes.length + uptoBulk d + 1
  | (_, d) => uptoBulk d + 1
 end
def uptoSmall : (H : Type) → List (DataW H) → Bool := fun _ ds => decide (uptoBulkAll ds ≤ 1048576)
def OpenSpec.upto (s : _root_.Go.ChangeSpec) : _root_.Go.OpenSpec := { _root_.Go.OpenSpec.ofChange s with cond := some uptoSmall }

/-- 'assentlaw14.CacheFull', WHERE WHAT IT READS IS OF BULK AT MOST 1048576: true; the input reads as it did. -/
def cacheFullUptoRow : OpenClaim := { program := "ytfaihaknibmcpaagreatdoor", sum := "c4d686041a31a40e8b1574b8c40d600554ee6cc2dad7052397fe9d50bc57b45b", func := "assent/assentlaw14.CacheFull", spec := "cacheFull", inPlace := ["slices.overlaps[assent/mshr.Miss]", "internal/reflectlite.TypeOf", "internal/reflectlite.ValueOf", "(internal/reflectlite.Value).Type", "(internal/reflectlite.Value).IsNil", "(internal/reflectlite.Value).Elem", "(internal/reflectlite.Value).Set"], unfollowed := true, recurses := true, named := ["assent/api.ErrArg", "assent/api.ErrBusy", "assent/api.ErrFull", "assent/api.ErrLong", "assent/api.ErrShort", "assent/api.ErrForm", "assent/api.ErrTail", "assent/api.ErrNone", "assent/api.ErrOrder", "assent/api.ErrValue", "errors.errorType"], apart := false, laid := [("errors.errorType", laid_errors_errorType), ("assent/api.ErrArg", laid_assent_api_ErrArg), ("assent/api.ErrLong", laid_assent_api_ErrLong), ("assent/api.ErrShort", laid_assent_api_ErrShort), ("assent/api.ErrForm", laid_assent_api_ErrForm), ("assent/api.ErrTail", laid_assent_api_ErrTail), ("assent/api.ErrFull", laid_assent_api_ErrFull), ("assent/api.ErrBusy", laid_assent_api_ErrBusy), ("assent/api.ErrNone", laid_assent_api_ErrNone), ("assent/api.ErrOrder", laid_assent_api_ErrOrder), ("assent/api.ErrValue", laid_assent_api_ErrValue)], narrowed := true }
def CacheFullUptoSaid : Prop := cacheFullUptoRow.holds Tryz.pinned (OpenSpec.upto cacheFullSpec)

/-- 'assentlaw14.CachePlays', WHERE WHAT IT READS IS OF BULK AT MOST 1048576: true; the input reads as it did. -/
def cachePlaysUptoRow : OpenClaim := { program := "ytfaihaknibmcpaagreatdoor", sum := "c4d686041a31a40e8b1574b8c40d600554ee6cc2dad7052397fe9d50bc57b45b", func := "assent/assentlaw14.CachePlays", spec := "cachePlays", inPlace := ["internal/reflectlite.TypeOf", "internal/reflectlite.ValueOf", "(internal/reflectlite.Value).Type", "(internal/reflectlite.Value).IsNil", "(internal/reflectlite.Value).Elem", "(internal/reflectlite.Value).Set", "slices.overlaps[assent/mshr.Miss]"], unfollowed := true, recurses := true, named := ["assent/api.ErrArg", "assent/api.ErrLong", "assent/api.ErrShort", "assent/api.ErrForm", "assent/api.ErrTail", "assent/api.ErrFull", "assent/api.ErrBusy", "assent/api.ErrNone", "assent/api.ErrOrder", "assent/api.ErrValue", "errors.errorType"], apart := false, laid := [("errors.errorType", laid_errors_errorType), ("assent/api.ErrArg", laid_assent_api_ErrArg), ("assent/api.ErrLong", laid_assent_api_ErrLong), ("assent/api.ErrShort", laid_assent_api_ErrShort), ("assent/api.ErrForm", laid_assent_api_ErrForm), ("assent/api.ErrTail", laid_assent_api_ErrTail), ("assent/api.ErrFull", laid_assent_api_ErrFull), ("assent/api.ErrBusy", laid_assent_api_ErrBusy), ("assent/api.ErrNone", laid_assent_api_ErrNone), ("assent/api.ErrOrder", laid_assent_api_ErrOrder), ("assent/api.ErrValue", laid_assent_api_ErrValue)], narrowed := true }
def CachePlaysUptoSaid : Prop := cachePlaysUptoRow.holds Tryz.pinned (OpenSpec.upto cachePlaysSpec)

/-- 'assentlaw14.CacheRoom', WHERE WHAT IT READS IS OF BULK AT MOST 1048576: true; the input reads as it did. -/
def cacheRoomUptoRow : OpenClaim := { program := "ytfaihaknibmcpaagreatdoor", sum := "c4d686041a31a40e8b1574b8c40d600554ee6cc2dad7052397fe9d50bc57b45b", func := "assent/assentlaw14.CacheRoom", spec := "cacheRoom", inPlace := ["slices.overlaps[assent/mshr.Miss]", "internal/reflectlite.TypeOf", "internal/reflectlite.ValueOf", "(internal/reflectlite.Value).Type", "(internal/reflectlite.Value).IsNil", "(internal/reflectlite.Value).Elem", "(internal/reflectlite.Value).Set"], unfollowed := true, recurses := true, named := ["assent/api.ErrArg", "assent/api.ErrBusy", "assent/api.ErrFull", "assent/api.ErrLong", "assent/api.ErrShort", "assent/api.ErrForm", "assent/api.ErrTail", "assent/api.ErrNone", "assent/api.ErrOrder", "assent/api.ErrValue", "errors.errorType"], apart := false, laid := [("errors.errorType", laid_errors_errorType), ("assent/api.ErrArg", laid_assent_api_ErrArg), ("assent/api.ErrLong", laid_assent_api_ErrLong), ("assent/api.ErrShort", laid_assent_api_ErrShort), ("assent/api.ErrForm", laid_assent_api_ErrForm), ("assent/api.ErrTail", laid_assent_api_ErrTail), ("assent/api.ErrFull", laid_assent_api_ErrFull), ("assent/api.ErrBusy", laid_assent_api_ErrBusy), ("assent/api.ErrNone", laid_assent_api_ErrNone), ("assent/api.ErrOrder", laid_assent_api_ErrOrder), ("assent/api.ErrValue", laid_assent_api_ErrValue)], narrowed := true }
def CacheRoomUptoSaid : Prop := cacheRoomUptoRow.holds Tryz.pinned (OpenSpec.upto cacheRoomSpec)

/-- 'assentlaw14.CacheWrites', WHERE WHAT IT READS IS OF BULK AT MOST 1048576: true; the input reads as it did. -/
def cacheWritesUptoRow : OpenClaim := { program := "ytfaihaknibmcpaagreatdoor", sum := "c4d686041a31a40e8b1574b8c40d600554ee6cc2dad7052397fe9d50bc57b45b", func := "assent/assentlaw14.CacheWrites", spec := "cacheWrites", inPlace := ["slices.overlaps[assent/mshr.Miss]", "internal/reflectlite.TypeOf", "internal/reflectlite.ValueOf", "(internal/reflectlite.Value).Type", "(internal/reflectlite.Value).IsNil", "(internal/reflectlite.Value).Elem", "(internal/reflectlite.Value).Set"], unfollowed := true, recurses := true, named := ["assent/api.ErrArg", "assent/api.ErrFull", "assent/api.ErrBusy", "assent/api.ErrLong", "assent/api.ErrShort", "assent/api.ErrForm", "assent/api.ErrTail", "assent/api.ErrNone", "assent/api.ErrOrder", "assent/api.ErrValue", "errors.errorType"], apart := false, laid := [("errors.errorType", laid_errors_errorType), ("assent/api.ErrArg", laid_assent_api_ErrArg), ("assent/api.ErrLong", laid_assent_api_ErrLong), ("assent/api.ErrShort", laid_assent_api_ErrShort), ("assent/api.ErrForm", laid_assent_api_ErrForm), ("assent/api.ErrTail", laid_assent_api_ErrTail), ("assent/api.ErrFull", laid_assent_api_ErrFull), ("assent/api.ErrBusy", laid_assent_api_ErrBusy), ("assent/api.ErrNone", laid_assent_api_ErrNone), ("assent/api.ErrOrder", laid_assent_api_ErrOrder), ("assent/api.ErrValue", laid_assent_api_ErrValue)], narrowed := true }
def CacheWritesUptoSaid : Prop := cacheWritesUptoRow.holds Tryz.pinned (OpenSpec.upto cacheWritesSpec)

/-- 'assentlaw14.CacheTurns', WHERE WHAT IT READS IS OF BULK AT MOST 1048576: true; the input reads as it did. -/
def cacheTurnsUptoRow : OpenClaim := { program := "ytfaihaknibmcpaagreatdoor", sum := "c4d686041a31a40e8b1574b8c40d600554ee6cc2dad7052397fe9d50bc57b45b", func := "assent/assentlaw14.CacheTurns", spec := "cacheTurns", inPlace := ["slices.overlaps[assent/mshr.Miss]", "internal/reflectlite.TypeOf", "internal/reflectlite.ValueOf", "(internal/reflectlite.Value).Type", "(internal/reflectlite.Value).IsNil", "(internal/reflectlite.Value).Elem", "(internal/reflectlite.Value).Set"], unfollowed := true, recurses := true, named := ["assent/api.ErrArg", "assent/api.ErrBusy", "assent/api.ErrFull", "assent/api.ErrLong", "assent/api.ErrShort", "assent/api.ErrForm", "assent/api.ErrTail", "assent/api.ErrNone", "assent/api.ErrOrder", "assent/api.ErrValue", "errors.errorType"], apart := false, laid := [("errors.errorType", laid_errors_errorType), ("assent/api.ErrArg", laid_assent_api_ErrArg), ("assent/api.ErrLong", laid_assent_api_ErrLong), ("assent/api.ErrShort", laid_assent_api_ErrShort), ("assent/api.ErrForm", laid_assent_api_ErrForm), ("assent/api.ErrTail", laid_assent_api_ErrTail), ("assent/api.ErrFull", laid_assent_api_ErrFull), ("assent/api.ErrBusy", laid_assent_api_ErrBusy), ("assent/api.ErrNone", laid_assent_api_ErrNone), ("assent/api.ErrOrder", laid_assent_api_ErrOrder), ("assent/api.ErrValue", laid_assent_api_ErrValue)], narrowed := true }
def CacheTurnsUptoSaid : Prop := cacheTurnsUptoRow.holds Tryz.pinned (OpenSpec.upto cacheTurnsSpec)

/-- 'assentlaw14.CacheLost', WHERE WHAT IT READS IS OF BULK AT MOST 1048576: true; the input reads as it did. -/
def cacheLostUptoRow : OpenClaim := { program := "ytfaihaknibmcpaagreatdoor", sum := "c4d686041a31a40e8b1574b8c40d600554ee6cc2dad7052397fe9d50bc57b45b", func := "assent/assentlaw14.CacheLost", spec := "cacheLost", inPlace := ["slices.overlaps[assent/mshr.Miss]", "internal/reflectlite.TypeOf", "internal/reflectlite.ValueOf", "(internal/reflectlite.Value).Type", "(internal/reflectlite.Value).IsNil", "(internal/reflectlite.Value).Elem", "(internal/reflectlite.Value).Set"], unfollowed := true, recurses := true, named := ["assent/api.ErrArg", "assent/api.ErrBusy", "assent/api.ErrFull", "assent/api.ErrLong", "assent/api.ErrShort", "assent/api.ErrForm", "assent/api.ErrTail", "assent/api.ErrNone", "assent/api.ErrOrder", "assent/api.ErrValue", "errors.errorType"], apart := false, laid := [("errors.errorType", laid_errors_errorType), ("assent/api.ErrArg", laid_assent_api_ErrArg), ("assent/api.ErrLong", laid_assent_api_ErrLong), ("assent/api.ErrShort", laid_assent_api_ErrShort), ("assent/api.ErrForm", laid_assent_api_ErrForm), ("assent/api.ErrTail", laid_assent_api_ErrTail), ("assent/api.ErrFull", laid_assent_api_ErrFull), ("assent/api.ErrBusy", laid_assent_api_ErrBusy), ("assent/api.ErrNone", laid_assent_api_ErrNone), ("assent/api.ErrOrder", laid_assent_api_ErrOrder), ("assent/api.ErrValue", laid_assent_api_ErrValue)], narrowed := true }
def CacheLostUptoSaid : Prop := cacheLostUptoRow.holds Tryz.pinned (OpenSpec.upto cacheLostSpec)

/-- 'assentlaw14.CacheNew', WHERE WHAT IT READS IS OF BULK AT MOST 1048576: true; the input reads as it did. -/
def cacheNewUptoRow : OpenClaim := { program := "ytfaihaknibmcpaagreatdoor", sum := "c4d686041a31a40e8b1574b8c40d600554ee6cc2dad7052397fe9d50bc57b45b", func := "assent/assentlaw14.CacheNew", spec := "cacheNew", inPlace := ["slices.overlaps[assent/mshr.Miss]", "internal/reflectlite.TypeOf", "internal/reflectlite.ValueOf", "(internal/reflectlite.Value).Type", "(internal/reflectlite.Value).IsNil", "(internal/reflectlite.Value).Elem", "(internal/reflectlite.Value).Set"], unfollowed := true, recurses := true, named := ["assent/api.ErrArg", "assent/api.ErrFull", "assent/api.ErrBusy", "assent/api.ErrLong", "assent/api.ErrShort", "assent/api.ErrForm", "assent/api.ErrTail", "assent/api.ErrNone", "assent/api.ErrOrder", "assent/api.ErrValue", "errors.errorType"], apart := false, laid := [("errors.errorType", laid_errors_errorType), ("assent/api.ErrArg", laid_assent_api_ErrArg), ("assent/api.ErrLong", laid_assent_api_ErrLong), ("assent/api.ErrShort", laid_assent_api_ErrShort), ("assent/api.ErrForm", laid_assent_api_ErrForm), ("assent/api.ErrTail", laid_assent_api_ErrTail), ("assent/api.ErrFull", laid_assent_api_ErrFull), ("assent/api.ErrBusy", laid_assent_api_ErrBusy), ("assent/api.ErrNone", laid_assent_api_ErrNone), ("assent/api.ErrOrder", laid_assent_api_ErrOrder), ("assent/api.ErrValue", laid_assent_api_ErrValue)], narrowed := true }
def CacheNewUptoSaid : Prop := cacheNewUptoRow.holds Tryz.pinned (OpenSpec.upto cacheNewSpec)

end Rows
end Go.Proofs.YtfaihaknibmcpaaGreatDoor
