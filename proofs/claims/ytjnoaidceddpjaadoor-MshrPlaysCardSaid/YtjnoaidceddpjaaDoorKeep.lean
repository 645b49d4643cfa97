/- What errors.Is, errors.As, fault.Wrap and assentkeep's calls answer, where an error is a chain of api.Fault values over a sentinel of package api. The sentinels' cells are conditions of each contract. What errors.As answers at a *api.Fault, where the error is a Fault. What fault.Wrap and assentkeep's Error, Is and Only answer. The sentinels' cells are conditions, told once in Sents. -/
import Derived.Test.YtjnoaidceddpjaaDoorChecked
import Derived.WalkKit
import Derived.LaidEql
import Derived.Stop.Asserts
import Derived.RowKitTokens
import Derived.Below
import Derived.Outline
import Derived.Deep.DeepFit
import Derived.Deep.QuietTactic
import Derived.BigQuiet
import Derived.WideLaws
import Derived.Lib.Hide
namespace Go.Proofs.YtjnoaidceddpjaaDoor
open Go.RowKit Go.Extern.Stop Go.Stop Go.Extern

def Tryd.eTypeOf : Array Value → Sem Value := ReflectliteType.typeOf
theorem Tryd.xTypeOf (args : Array Value) (w : World) : (callFunc 72 args).run Tryd.prog w = ((Tryd.eTypeOf args).run Tryd.prog w).andThen fun v w' => Result.ok (Next.value v) w' := @run_callFunc_extern Tryd.prog 72 _ Tryd.eTypeOf Tryd.func72 (by kernel_rfl) (by kernel_rfl) (by kernel_rfl) (by kernel_rfl) args w
def Tryd.eComparable : Array Value → Sem Value := ReflectliteType.method fun t => do Rtype.noPackHeld "Comparable" t; pure (.bool (← typeInfo t).comparable)
theorem Tryd.xComparable (args : Array Value) (w : World) : (callFunc 115 args).run Tryd.prog w = ((Tryd.eComparable args).run Tryd.prog w).andThen fun v w' => Result.ok (Next.value v) w' := @run_callFunc_extern Tryd.prog 115 _ Tryd.eComparable Tryd.func115 (by kernel_rfl) (by kernel_rfl) (by kernel_rfl) (by kernel_rfl) args w
def Tryd.eValueOf : Array Value → Sem Value := fun args => ReflectliteValue.unpack (args.getD 0 (.tuple #[]))
theorem Tryd.xValueOf (args : Array Value) (w : World) : (callFunc 74 args).run Tryd.prog w = ((Tryd.eValueOf args).run Tryd.prog w).andThen fun v w' => Result.ok (Next.value v) w' := @run_callFunc_extern Tryd.prog 74 _ Tryd.eValueOf Tryd.func74 (by kernel_rfl) (by kernel_rfl) (by kernel_rfl) (by kernel_rfl) args w
def Tryd.eType : Array Value → Sem Value := ReflectliteValue.methodAny (ReflectliteValue.valueError "reflectlite.Value.Type" 0) fun t _ _ _ => ReflectliteType.toType t
theorem Tryd.xType (args : Array Value) (w : World) : (callFunc 75 args).run Tryd.prog w = ((Tryd.eType args).run Tryd.prog w).andThen fun v w' => Result.ok (Next.value v) w' := @run_callFunc_extern Tryd.prog 75 _ Tryd.eType Tryd.func75 (by kernel_rfl) (by kernel_rfl) (by kernel_rfl) (by kernel_rfl) args w
def Tryd.eIsNil : Array Value → Sem Value := ReflectliteValue.method (ReflectliteValue.valueError "reflectlite.Value.IsNil" 0) ReflectliteValue.isNil
theorem Tryd.xIsNil (args : Array Value) (w : World) : (callFunc 76 args).run Tryd.prog w = ((Tryd.eIsNil args).run Tryd.prog w).andThen fun v w' => Result.ok (Next.value v) w' := @run_callFunc_extern Tryd.prog 76 _ Tryd.eIsNil Tryd.func76 (by kernel_rfl) (by kernel_rfl) (by kernel_rfl) (by kernel_rfl) args w
def Tryd.eKind : Array Value → Sem Value := ReflectliteType.abiMethod fun t => do pure (.int .u8 (← Rtype.kind t))
theorem Tryd.xKind (args : Array Value) (w : World) : (callFunc 105 args).run Tryd.prog w = ((Tryd.eKind args).run Tryd.prog w).andThen fun v w' => Result.ok (Next.value v) w' := @run_callFunc_extern Tryd.prog 105 _ Tryd.eKind Tryd.func105 (by kernel_rfl) (by kernel_rfl) (by kernel_rfl) (by kernel_rfl) args w
def Tryd.eTElem : Array Value → Sem Value := ReflectliteType.method ReflectliteType.elem
theorem Tryd.xTElem (args : Array Value) (w : World) : (callFunc 116 args).run Tryd.prog w = ((Tryd.eTElem args).run Tryd.prog w).andThen fun v w' => Result.ok (Next.value v) w' := @run_callFunc_extern Tryd.prog 116 _ Tryd.eTElem Tryd.func116 (by kernel_rfl) (by kernel_rfl) (by kernel_rfl) (by kernel_rfl) args w
def Tryd.eImplements : Array Value → Sem Value := ReflectliteType.relation "Implements" ReflectliteType.implements_
theorem Tryd.xImplements (args : Array Value) (w : World) : (callFunc 117 args).run Tryd.prog w = ((Tryd.eImplements args).run Tryd.prog w).andThen fun v w' => Result.ok (Next.value v) w' := @run_callFunc_extern Tryd.prog 117 _ Tryd.eImplements Tryd.func117 (by kernel_rfl) (by kernel_rfl) (by kernel_rfl) (by kernel_rfl) args w
def Tryd.eAssignable : Array Value → Sem Value := ReflectliteType.relation "AssignableTo" ReflectliteType.assignableTo
theorem Tryd.xAssignable (args : Array Value) (w : World) : (callFunc 114 args).run Tryd.prog w = ((Tryd.eAssignable args).run Tryd.prog w).andThen fun v w' => Result.ok (Next.value v) w' := @run_callFunc_extern Tryd.prog 114 _ Tryd.eAssignable Tryd.func114 (by kernel_rfl) (by kernel_rfl) (by kernel_rfl) (by kernel_rfl) args w
def Tryd.eElem : Array Value → Sem Value := ReflectliteValue.method (ReflectliteValue.valueError "reflectlite.Value.Elem" 0) ReflectliteValue.elem
theorem Tryd.xElem (args : Array Value) (w : World) : (callFunc 85 args).run Tryd.prog w = ((Tryd.eElem args).run Tryd.prog w).andThen fun v w' => Result.ok (Next.value v) w' := @run_callFunc_extern Tryd.prog 85 _ Tryd.eElem Tryd.func85 (by kernel_rfl) (by kernel_rfl) (by kernel_rfl) (by kernel_rfl) args w
def Tryd.eSet : Array Value → Sem Value := ReflectliteValue.set
theorem Tryd.xSet (args : Array Value) (w : World) : (callFunc 86 args).run Tryd.prog w = ((Tryd.eSet args).run Tryd.prog w).andThen fun v w' => Result.ok (Next.value v) w' := @run_callFunc_extern Tryd.prog 86 _ Tryd.eSet Tryd.func86 (by kernel_rfl) (by kernel_rfl) (by kernel_rfl) (by kernel_rfl) args w

theorem Tryd.isTypeOf (v : Value) (w : World) : (Tryd.eTypeOf #[.iface 165 v]).run Tryd.prog w = .ok (.iface 149 (.agg #[.pointer (some ⟨11, 165, none⟩)])) w := by kernel_rfl
theorem Tryd.isComparable (w : World) : (Tryd.eComparable #[.agg #[.pointer (some ⟨11, 165, none⟩)]]).run Tryd.prog w = .ok (.bool true) w := by kernel_rfl
theorem Tryd.isMethodComparable (v : Value) (w : World) : (Go.method 297 149 v "Comparable").run Tryd.prog w = .ok (115, v) w := by kernel_rfl
theorem Tryd.isComp : (Tryd.prog.info? 165).map (·.comparable) = some true := by kernel_rfl
theorem Tryd.isSize : (Tryd.prog.info? 185).map (·.size) = some 1 := by kernel_rfl
theorem Tryd.noIsE (v : Value) (xT : TypeId) (w : World) : (Instr.typeAssert (.iface 165 v) xT 151 true).run Tryd.prog w = .ok (.tuple #[.nilIface, .bool false]) w := run_typeAssert_lacksB Tryd.underlying151 (by kernel_rfl) (by kernel_rfl) v xT w
theorem Tryd.noUnwrapE (v : Value) (xT : TypeId) (w : World) : (Instr.typeAssert (.iface 165 v) xT 154 true).run Tryd.prog w = .ok (.tuple #[.nilIface, .bool false]) w := run_typeAssert_lacksB Tryd.underlying154 (by kernel_rfl) (by kernel_rfl) v xT w
theorem Tryd.noUnwrapsE (v : Value) (xT : TypeId) (w : World) : (Instr.typeAssert (.iface 165 v) xT 156 true).run Tryd.prog w = .ok (.tuple #[.nilIface, .bool false]) w := run_typeAssert_lacksB Tryd.underlying156 (by kernel_rfl) (by kernel_rfl) v xT w
theorem Tryd.noIsF (v : Value) (xT : TypeId) (w : World) : (Instr.typeAssert (.iface 111 v) xT 151 true).run Tryd.prog w = .ok (.tuple #[.nilIface, .bool false]) w := run_typeAssert_lacksB Tryd.underlying151 (by kernel_rfl) (by kernel_rfl) v xT w
theorem Tryd.hasUnwrapF (v : Value) (xT : TypeId) (w : World) : (Instr.typeAssert (.iface 111 v) xT 154 true).run Tryd.prog w = .ok (.tuple #[.iface 111 v, .bool true]) w := run_typeAssert_hasB Tryd.underlying154 (by kernel_rfl) v xT w
theorem Tryd.methodUnwrap (v : Value) (w : World) : (Go.method 297 111 v "Unwrap").run Tryd.prog w = .ok (109, v) w := by kernel_rfl
/-- A sentinel, and a Fault. -/
def Tryd.sent (a : Addr) : Value := .iface 165 (.pointer (some a))

theorem Below.heap_lift1 {w : World} {k : Nat} {x : Obj} (h : w.heap[k]? = some x) (o : Obj) : (w.alloc o).heap[k]? = some x := by
  rw [Below.heap_alloc _ _ _ (Array.getElem?_eq_some_iff.1 h).1]; exact h
theorem Below.heap_lift2 {w : World} {k : Nat} {x : Obj} (h : w.heap[k]? = some x) (o p : Obj) : ((w.alloc o).alloc p).heap[k]? = some x := Below.heap_lift1 (Below.heap_lift1 h o) p

set_option maxRecDepth 100000 in
set_option maxHeartbeats 2000000 in
/-- errors.Is(f, x), f a Fault that wraps x itself: one Unwrap, then equal. -/
theorem is1_same (op0 : ByteArray) (at0 : Int) (b : Addr) (w : World) :
    Calls Tryd.prog 53 #[.iface 111 (.agg #[.string op0, .int .i64 at0, .iface 165 (.pointer (some b))]), .iface 165 (.pointer (some b))] w fun e w' => e = .returned (.bool true) ∧ Below w.heap.size w w' := by
  obtain ⟨i, hi, hcmp⟩ := Option.map_eq_some_iff.1 Tryd.isComp
  obtain ⟨j, hj, hjs⟩ := Option.map_eq_some_iff.1 Tryd.isSize
  have h8 := Tryd.xTypeOf
  have h32 := Tryd.xComparable
  have tT := Tryd.isTypeOf
  have cT := Tryd.isComparable
  have mR := Tryd.isMethodComparable
  have nE := Tryd.noIsE
  have uE := Tryd.noUnwrapE
  have vE := Tryd.noUnwrapsE
  have nW := Tryd.noIsF
  have uW := Tryd.hasUnwrapF
  have mU := Tryd.methodUnwrap
  have heq := fun w => run_eql_iface_ptr_same (P := Tryd.prog) w b Tryd.underlying24 Tryd.underlying165 hi hcmp hj
  have hty0 := fun w => run_eql_iface_types (P := Tryd.prog) 111 165 (.agg #[.string op0, .int .i64 at0, .iface 165 (.pointer (some b))]) (.pointer (some b)) Tryd.underlying24 (by decide) w
  go_enter Tryd.func53, Tryd.ntmps53
  go_wp2
  refine wp_loop_rounds 2 ?_
  rw [rounds_succ]
  go_wp2
  rw [rounds_succ]
  go_wp2
  go_ret
  exact ⟨rfl, (Below.refl _ _).alloc (by simp) _⟩
set_option maxRecDepth 100000 in
set_option maxHeartbeats 2000000 in
/-- errors.Is(f, x), f a Fault that wraps another sentinel. -/
theorem is1_other (op0 : ByteArray) (at0 : Int) (b : Addr) (a : Addr) (ca cb : Array Value) (ta tb : TypeId) (w : World) (hne : a ≠ b) (ha : w.heap[a.block]? = some (.cells ca ta (0, 0))) (hb : w.heap[b.block]? = some (.cells cb tb (0, 0))) :
    Calls Tryd.prog 53 #[.iface 111 (.agg #[.string op0, .int .i64 at0, .iface 165 (.pointer (some a))]), .iface 165 (.pointer (some b))] w fun e w' => e = .returned (.bool false) ∧ Below w.heap.size w w' := by
  obtain ⟨i, hi, hcmp⟩ := Option.map_eq_some_iff.1 Tryd.isComp
  obtain ⟨j, hj, hjs⟩ := Option.map_eq_some_iff.1 Tryd.isSize
  have h8 := Tryd.xTypeOf
  have h32 := Tryd.xComparable
  have tT := Tryd.isTypeOf
  have cT := Tryd.isComparable
  have mR := Tryd.isMethodComparable
  have nE := Tryd.noIsE
  have uE := Tryd.noUnwrapE
  have vE := Tryd.noUnwrapsE
  have nW := Tryd.noIsF
  have uW := Tryd.hasUnwrapF
  have mU := Tryd.methodUnwrap
  have heq := run_eql_iface_ptr_other (P := Tryd.prog) (w.alloc (.cells #[.string op0, .int .i64 at0, .iface 165 (.pointer (some a))] 111)) (a := a) (b := b) Tryd.underlying24 Tryd.underlying165 hi hcmp hj (by rw [hjs]; decide) hne (by simpa using (Below.heap_lift1 ha _)) (by simpa using (Below.heap_lift1 hb _))
  have hty0 := fun w => run_eql_iface_types (P := Tryd.prog) 111 165 (.agg #[.string op0, .int .i64 at0, .iface 165 (.pointer (some a))]) (.pointer (some b)) Tryd.underlying24 (by decide) w
  go_enter Tryd.func53, Tryd.ntmps53
  go_wp2
  refine wp_loop_rounds 2 ?_
  rw [rounds_succ]
  go_wp2
  rw [rounds_succ]
  go_wp2
  go_ret
  exact ⟨rfl, (Below.refl _ _).alloc (by simp) _⟩
set_option maxRecDepth 100000 in
set_option maxHeartbeats 2000000 in
/-- errors.Is(f, x), f a Fault that wraps a Fault that wraps x. -/
theorem is2_same (op0 : ByteArray) (at0 : Int) (op1 : ByteArray) (at1 : Int) (b : Addr) (w : World) :
    Calls Tryd.prog 53 #[.iface 111 (.agg #[.string op0, .int .i64 at0, .iface 111 (.agg #[.string op1, .int .i64 at1, .iface 165 (.pointer (some b))])]), .iface 165 (.pointer (some b))] w fun e w' => e = .returned (.bool true) ∧ Below w.heap.size w w' := by
  obtain ⟨i, hi, hcmp⟩ := Option.map_eq_some_iff.1 Tryd.isComp
  obtain ⟨j, hj, hjs⟩ := Option.map_eq_some_iff.1 Tryd.isSize
  have h8 := Tryd.xTypeOf
  have h32 := Tryd.xComparable
  have tT := Tryd.isTypeOf
  have cT := Tryd.isComparable
  have mR := Tryd.isMethodComparable
  have nE := Tryd.noIsE
  have uE := Tryd.noUnwrapE
  have vE := Tryd.noUnwrapsE
  have nW := Tryd.noIsF
  have uW := Tryd.hasUnwrapF
  have mU := Tryd.methodUnwrap
  have heq := fun w => run_eql_iface_ptr_same (P := Tryd.prog) w b Tryd.underlying24 Tryd.underlying165 hi hcmp hj
  have hty0 := fun w => run_eql_iface_types (P := Tryd.prog) 111 165 (.agg #[.string op0, .int .i64 at0, .iface 111 (.agg #[.string op1, .int .i64 at1, .iface 165 (.pointer (some b))])]) (.pointer (some b)) Tryd.underlying24 (by decide) w
  have hty1 := fun w => run_eql_iface_types (P := Tryd.prog) 111 165 (.agg #[.string op1, .int .i64 at1, .iface 165 (.pointer (some b))]) (.pointer (some b)) Tryd.underlying24 (by decide) w
  go_enter Tryd.func53, Tryd.ntmps53
  go_wp2
  refine wp_loop_rounds 3 ?_
  rw [rounds_succ]
  go_wp2
  rw [rounds_succ]
  go_wp2
  rw [rounds_succ]
  go_wp2
  go_ret
  exact ⟨rfl, ((Below.refl _ _).alloc (by simp) _).alloc (by simp) _⟩
set_option maxRecDepth 100000 in
set_option maxHeartbeats 2000000 in
/-- errors.Is(f, x), f a Fault that wraps a Fault that wraps another sentinel. -/
theorem is2_other (op0 : ByteArray) (at0 : Int) (op1 : ByteArray) (at1 : Int) (b : Addr) (a : Addr) (ca cb : Array Value) (ta tb : TypeId) (w : World) (hne : a ≠ b) (ha : w.heap[a.block]? = some (.cells ca ta (0, 0))) (hb : w.heap[b.block]? = some (.cells cb tb (0, 0))) :
    Calls Tryd.prog 53 #[.iface 111 (.agg #[.string op0, .int .i64 at0, .iface 111 (.agg #[.string op1, .int .i64 at1, .iface 165 (.pointer (some a))])]), .iface 165 (.pointer (some b))] w fun e w' => e = .returned (.bool false) ∧ Below w.heap.size w w' := by
  obtain ⟨i, hi, hcmp⟩ := Option.map_eq_some_iff.1 Tryd.isComp
  obtain ⟨j, hj, hjs⟩ := Option.map_eq_some_iff.1 Tryd.isSize
  have h8 := Tryd.xTypeOf
  have h32 := Tryd.xComparable
  have tT := Tryd.isTypeOf
  have cT := Tryd.isComparable
  have mR := Tryd.isMethodComparable
  have nE := Tryd.noIsE
  have uE := Tryd.noUnwrapE
  have vE := Tryd.noUnwrapsE
  have nW := Tryd.noIsF
  have uW := Tryd.hasUnwrapF
  have mU := Tryd.methodUnwrap
  have heq := run_eql_iface_ptr_other (P := Tryd.prog) ((w.alloc (.cells #[.string op0, .int .i64 at0, .iface 111 (.agg #[.string op1, .int .i64 at1, .iface 165 (.pointer (some a))])] 111)).alloc (.cells #[.string op1, .int .i64 at1, .iface 165 (.pointer (some a))] 111)) (a := a) (b := b) Tryd.underlying24 Tryd.underlying165 hi hcmp hj (by rw [hjs]; decide) hne (by simpa using (Below.heap_lift2 ha _ _)) (by simpa using (Below.heap_lift2 hb _ _))
  have hty0 := fun w => run_eql_iface_types (P := Tryd.prog) 111 165 (.agg #[.string op0, .int .i64 at0, .iface 111 (.agg #[.string op1, .int .i64 at1, .iface 165 (.pointer (some a))])]) (.pointer (some b)) Tryd.underlying24 (by decide) w
  have hty1 := fun w => run_eql_iface_types (P := Tryd.prog) 111 165 (.agg #[.string op1, .int .i64 at1, .iface 165 (.pointer (some a))]) (.pointer (some b)) Tryd.underlying24 (by decide) w
  go_enter Tryd.func53, Tryd.ntmps53
  go_wp2
  refine wp_loop_rounds 3 ?_
  rw [rounds_succ]
  go_wp2
  rw [rounds_succ]
  go_wp2
  rw [rounds_succ]
  go_wp2
  go_ret
  exact ⟨rfl, ((Below.refl _ _).alloc (by simp) _).alloc (by simp) _⟩
set_option maxRecDepth 100000 in
/-- errors.Is(nil, x). -/
theorem is_nil (b : Addr) (w : World) :
    Calls Tryd.prog 53 #[.nilIface, .iface 165 (.pointer (some b))] w fun e w' => e = .returned (.bool false) ∧ Below w.heap.size w w' := by
  have hn := run_eql_iface_nil_left (P := Tryd.prog) w 165 (.pointer (some b)) Tryd.underlying24
  go_enter Tryd.func53, Tryd.ntmps53
  go_wp2
  go_ret
  exact ⟨rfl, Below.refl _ _⟩
end Go.Proofs.YtjnoaidceddpjaaDoor
namespace Go.Proofs.YtjnoaidceddpjaaDoor
open Go.RowKit Go.Extern.Stop Go.Stop Go.Extern


theorem Tryd.vPF (t : Addr) (w : World) : (Tryd.eValueOf #[.iface 115 (.pointer (some t))]).run Tryd.prog w = .ok (.agg #[.pointer (some ⟨11, 115, none⟩), .pointer (some ⟨w.heap.size, 0, none⟩), .int .u64 150]) (w.alloc (.cells #[.pointer (some t)] 115)) := by kernel_rfl
theorem Tryd.vTF (s : ByteArray) (n : Int) (te : TypeId) (ve : Value) (w : World) : (Tryd.eValueOf #[.iface 111 (.agg #[.string s, .int .i64 n, .iface te ve])]).run Tryd.prog w = .ok (.agg #[.pointer (some ⟨11, 111, none⟩), .pointer (some ⟨w.heap.size, 0, none⟩), .int .u64 153]) (w.alloc (.cells #[.string s, .int .i64 n, .iface te ve] 111)) := by kernel_rfl
theorem Tryd.tPF (a : Addr) (w : World) : (Tryd.eType #[.agg #[.pointer (some ⟨11, 115, none⟩), .pointer (some a), .int .u64 150]]).run Tryd.prog w = .ok (.iface 149 (.agg #[.pointer (some ⟨11, 115, none⟩)])) w := by kernel_rfl
theorem Tryd.methodKind (h : Value) (w : World) : (Go.method 297 149 (.agg #[h]) "Kind").run Tryd.prog w = .ok (105, h) w := by kernel_rfl
theorem Tryd.methodElem (h : Value) (w : World) : (Go.method 297 149 (.agg #[h]) "Elem").run Tryd.prog w = .ok (116, .agg #[h]) w := by kernel_rfl
theorem Tryd.methodImplements (h : Value) (w : World) : (Go.method 297 149 (.agg #[h]) "Implements").run Tryd.prog w = .ok (117, .agg #[h]) w := by kernel_rfl
theorem Tryd.methodAssignableTo (h : Value) (w : World) : (Go.method 297 149 (.agg #[h]) "AssignableTo").run Tryd.prog w = .ok (114, .agg #[h]) w := by kernel_rfl
theorem Tryd.kPF (w : World) : (Tryd.eKind #[.pointer (some ⟨11, 115, none⟩)]).run Tryd.prog w = .ok (.int .u8 22) w := by kernel_rfl
theorem Tryd.kTF (w : World) : (Tryd.eKind #[.pointer (some ⟨11, 111, none⟩)]).run Tryd.prog w = .ok (.int .u8 25) w := by kernel_rfl
theorem Tryd.ePF (w : World) : (Tryd.eTElem #[.agg #[.pointer (some ⟨11, 115, none⟩)]]).run Tryd.prog w = .ok (.iface 149 (.agg #[.pointer (some ⟨11, 111, none⟩)])) w := by kernel_rfl
theorem Tryd.iTF (w : World) : (Tryd.eImplements #[.agg #[.pointer (some ⟨11, 111, none⟩)], .iface 149 (.agg #[.pointer (some ⟨11, 24, none⟩)])]).run Tryd.prog w = .ok (.bool true) w := by kernel_rfl
theorem Tryd.oTF (v : Value) (w : World) : (Tryd.eTypeOf #[.iface 111 v]).run Tryd.prog w = .ok (.iface 149 (.agg #[.pointer (some ⟨11, 111, none⟩)])) w := by kernel_rfl
theorem Tryd.aTF (w : World) : (Tryd.eAssignable #[.agg #[.pointer (some ⟨11, 111, none⟩)], .iface 149 (.agg #[.pointer (some ⟨11, 111, none⟩)])]).run Tryd.prog w = .ok (.bool true) w := by kernel_rfl

theorem Tryd.mrl (z : Sem Value) (g : TypeId → Addr → Nat → Nat → Sem Value) (v : Value) :
    ReflectliteValue.method z g #[v] = (do match ← ReflectliteValue.parts v with | none => z | some (t, a, fl) => g t a fl (fl % 32)) := rfl
theorem Tryd.partsPF (a : Addr) (w : World) : (ReflectliteValue.parts (.agg #[.pointer (some ⟨11, 115, none⟩), .pointer (some a), .int .u64 150])).run Tryd.prog w = .ok (some (115, a, 150)) w := by kernel_rfl
theorem Tryd.nPF (a p : Addr) (W : World) (ha : W.cell? a = some (.pointer (some p))) :
    (Tryd.eIsNil #[.agg #[.pointer (some ⟨11, 115, none⟩), .pointer (some a), .int .u64 150]]).run Tryd.prog W = .ok (.bool false) W := by
  unfold Tryd.eIsNil
  rw [Tryd.mrl]
  simp only [Sem.run_bind, Tryd.partsPF, Result.andThen]
  simp [ReflectliteValue.isNil, loadVar, isAgg, underlying, Tryd.underlying115, ha, Result.andThen]
theorem Tryd.elemOfPF (w : World) : (Rtype.elem? 115).run Tryd.prog w = .ok (some 111) w := by kernel_rfl
theorem Tryd.mkTF (p : Addr) (w : World) : (ReflectliteValue.mk 111 p ReflectliteValue.flagAddr).run Tryd.prog w = .ok (.agg #[.pointer (some ⟨11, 111, none⟩), .pointer (some p), .int .u64 409]) w := by kernel_rfl
theorem Tryd.lPF (a p : Addr) (W : World) (ha : W.cell? a = some (.pointer (some p))) :
    (Tryd.eElem #[.agg #[.pointer (some ⟨11, 115, none⟩), .pointer (some a), .int .u64 150]]).run Tryd.prog W
      = .ok (.agg #[.pointer (some ⟨11, 111, none⟩), .pointer (some p), .int .u64 409]) W := by
  unfold Tryd.eElem
  rw [Tryd.mrl]
  simp only [Sem.run_bind, Tryd.partsPF, Result.andThen]
  simp [ReflectliteValue.elem, loadVar, isAgg, underlying, Tryd.underlying115, ha, Result.andThen, Tryd.elemOfPF, Tryd.mkTF]
theorem Tryd.rls (v x : Value) : Tryd.eSet #[v, x] = (do
    let (some (dst, a, fl), some (src, b, _)) := (← ReflectliteValue.parts v, ← ReflectliteValue.parts x)
      | unsupported (.noEntry "extern/(internal/reflectlite.Value).Set.zeroValue")
    if fl / ReflectliteValue.flagAddr % 2 == 0 then unsupported (.noEntry "extern/(internal/reflectlite.Value).Set.unaddressable")
    let val ← loadVar src b
    if ← Rtype.directlyAssignable dst src then storeVar dst a val
    else if ← Rtype.implements dst src then
      if (← Rtype.kind src) == 20 then
        match val with
        | .nilIface => unsupported (.noEntry "extern/reflectlite: a nil value of one interface type handed on as a value of another")
        | _ => storeVar dst a val
      else storeVar dst a (.iface src val)
    else panicString ("reflectlite.Set: value of type " ++ (← Rtype.spelt src) ++ " is not assignable to type " ++ (← Rtype.spelt dst))
    pure (.tuple #[])) := rfl
theorem Tryd.partsTFa (a : Addr) (w : World) : (ReflectliteValue.parts (.agg #[.pointer (some ⟨11, 111, none⟩), .pointer (some a), .int .u64 409])).run Tryd.prog w = .ok (some (111, a, 409)) w := by kernel_rfl
theorem Tryd.partsTF (a : Addr) (w : World) : (ReflectliteValue.parts (.agg #[.pointer (some ⟨11, 111, none⟩), .pointer (some a), .int .u64 153])).run Tryd.prog w = .ok (some (111, a, 153)) w := by kernel_rfl
theorem Tryd.directTF (w : World) : (Rtype.directlyAssignable 111 111).run Tryd.prog w = .ok true w := by kernel_rfl
theorem Tryd.sizeTF (w : World) : (sizeOf 111).run Tryd.prog w = .ok 3 w := by kernel_rfl
/-- (Value).Set: the Fault at the block 'tb' gets what the Value's own variable 'b' holds. -/
theorem Tryd.setTF (tb b : Nat) (s : ByteArray) (n : Int) (te : TypeId) (ve : Value) (c0 c1 c2 : Value) (t : TypeId) (W : World)
    (hb0 : W.cell? ⟨b, 0, none⟩ = some (.string s)) (hb1 : W.cell? ⟨b, 1, none⟩ = some (.int .i64 n)) (hb2 : W.cell? ⟨b, 2, none⟩ = some (.iface te ve))
    (ht : W.heap[tb]? = some (.cells #[c0, c1, c2] t (0, 0))) :
    (Tryd.eSet #[.agg #[.pointer (some ⟨11, 111, none⟩), .pointer (some ⟨tb, 0, none⟩), .int .u64 409], .agg #[.pointer (some ⟨11, 111, none⟩), .pointer (some ⟨b, 0, none⟩), .int .u64 153]]).run Tryd.prog W
      = .ok (.tuple #[]) (W.setRow tb #[.string s, .int .i64 n, .iface te ve]) := by
  have hl := run_loadCells_list (P := Tryd.prog) (w := W) ⟨b, 0, none⟩ [.string s, .int .i64 n, .iface te ve] (by
    intro j v hj
    match j, hj with
    | 0, h => simp at h; subst h; simpa [Addr.add] using hb0
    | 1, h => simp at h; subst h; simpa [Addr.add] using hb1
    | 2, h => simp at h; subst h; simpa [Addr.add] using hb2
    | j + 3, h => simp at h)
  have hs := run_storeCells_at (P := Tryd.prog) tb 0 t [.string s, .int .i64 n, .iface te ve] 0 #[c0, c1, c2] W ht (by simp) (by simp [Value.oneCell'])
  simp only [List.length_cons, List.length_nil, Nat.zero_add, Nat.reduceAdd] at hl
  rw [Tryd.rls]
  simp only [Sem.run_bind, Tryd.partsTFa, Tryd.partsTF, Result.andThen]
  simp [ReflectliteValue.flagAddr, loadVar, isAgg, underlying, Tryd.underlying111, hl, Result.andThen, Tryd.directTF, storeVar, Value.cells]
  simp at hs
  rw [hs]

theorem lt_of_heap {w : World} {k : Nat} {x : Obj} (h : w.heap[k]? = some x) : k < w.heap.size := (Array.getElem?_eq_some_iff.1 h).1
theorem below_setRow {B : Nat} {a w : World} (h : Below B a w) {g : Nat} (hg : B ≤ g) (c : Array Value) : Below B a (w.setRow g c) := by
  refine h.trans ⟨rfl, rfl, rfl, by simp [World.setRow], fun k hk => ?_⟩
  simp only [World.setRow, Array.getElem?_modify]
  rw [if_neg (by omega)]
theorem heap_setRow {w : World} {g : Nat} {c0 : Array Value} {t : TypeId} (h : w.heap[g]? = some (.cells c0 t (0, 0))) (c : Array Value) : (w.setRow g c).heap[g]? = some (.cells c t (0, 0)) := setRow_heap w g c0 c t (0, 0) h
set_option maxRecDepth 100000 in
set_option maxHeartbeats 4000000 in
/-- errors.As(f, &x), f a Fault, x a Fault: true, and x is f. -/
theorem as_hit (s : ByteArray) (n : Int) (te : TypeId) (ve : Value) (tb : Nat) (c0 c1 c2 : Value) (t : TypeId) (w : World)
    (hg : w.cell? ⟨10, 0, none⟩ = some (.iface 149 (.agg #[.pointer (some ⟨11, 24, none⟩)])))
    (ht : w.heap[tb]? = some (.cells #[c0, c1, c2] t (0, 0))) (hpos : 11 ≤ tb) :
    Calls Tryd.prog 55 #[.iface 111 (.agg #[.string s, .int .i64 n, .iface te ve]), .iface 115 (.pointer (some ⟨tb, 0, none⟩))] w fun e w' => e = .returned (.bool true) ∧ w'.heap[tb]? = some (.cells #[.string s, .int .i64 n, .iface te ve] t (0, 0)) ∧ Below tb w w' := by
  have x1 := Tryd.xTypeOf
  have x2 := Tryd.xValueOf
  have x3 := Tryd.xType
  have x4 := Tryd.xIsNil
  have x5 := Tryd.xKind
  have x6 := Tryd.xTElem
  have x7 := Tryd.xImplements
  have x8 := Tryd.xAssignable
  have x9 := Tryd.xElem
  have x10 := Tryd.xSet
  have f1 := Tryd.vPF
  have f2 := Tryd.vTF
  have f3 := Tryd.tPF
  have f4 := Tryd.methodKind
  have f5 := Tryd.methodElem
  have f6 := Tryd.methodImplements
  have f7 := Tryd.methodAssignableTo
  have f8 := Tryd.kPF
  have f9 := Tryd.kTF
  have f10 := Tryd.ePF
  have f11 := Tryd.iTF
  have f12 := Tryd.oTF
  have f13 := Tryd.aTF
  have hlt := lt_of_heap ht
  have n8 := Tryd.nPF ⟨w.heap.size, 0, none⟩ ⟨tb, 0, none⟩ ((w.alloc (.cells #[.pointer (some ⟨tb, 0, none⟩)] 115)).alloc (.cells #[.pointer (some ⟨11, 115, none⟩), .pointer (some ⟨w.heap.size, 0, none⟩), .int .u64 150] 136)) (by simp)
  have el := Tryd.lPF ⟨w.heap.size, 0, none⟩ ⟨tb, 0, none⟩ (((w.alloc (.cells #[.pointer (some ⟨tb, 0, none⟩)] 115)).alloc (.cells #[.pointer (some ⟨11, 115, none⟩), .pointer (some ⟨w.heap.size, 0, none⟩), .int .u64 150] 136)).alloc (.cells #[.pointer (some ⟨11, 115, none⟩), .pointer (some ⟨w.heap.size, 0, none⟩), .int .u64 150] 136)) (by rw [World.cell?_alloc_lt _ _ _ (by simp; omega)]; simp)
  have hT4 : ((((w.alloc (.cells #[.pointer (some ⟨tb, 0, none⟩)] 115)).alloc (.cells #[.pointer (some ⟨11, 115, none⟩), .pointer (some ⟨w.heap.size, 0, none⟩), .int .u64 150] 136)).alloc (.cells #[.pointer (some ⟨11, 115, none⟩), .pointer (some ⟨w.heap.size, 0, none⟩), .int .u64 150] 136)).alloc (.cells #[.string s, .int .i64 n, .iface te ve] 111)).heap[tb]? = some (.cells #[c0, c1, c2] t (0, 0)) :=
    Below.heap_lift2 (Below.heap_lift2 ht _ _) _ _
  have st := Tryd.setTF tb (w.heap.size + 1 + 1 + 1) s n te ve c0 c1 c2 t _ (by rw [World.cell?_alloc_at _ _ _ _ (by simp)]; rfl) (by rw [World.cell?_alloc_at _ _ _ _ (by simp)]; rfl) (by rw [World.cell?_alloc_at _ _ _ _ (by simp)]; rfl) hT4
  have hg1 : ∀ o p, ((w.alloc o).alloc p).cell? ⟨10, 0, none⟩ = some (.iface 149 (.agg #[.pointer (some ⟨11, 24, none⟩)])) := by
    intro o p
    rw [World.cell?_alloc_lt _ _ _ (by simp; omega), World.cell?_alloc_lt _ _ _ (by change 10 < w.heap.size; omega)]; exact hg
  go_enter Tryd.func55, Tryd.ntmps55
  go_wp2
  refine wp_loop_rounds 1 ?_
  rw [rounds_succ]
  go_wp2
  go_ret
  refine ⟨rfl, heap_setRow hT4 _, ?_⟩
  exact below_setRow (((((Below.refl tb w).alloc (by omega) _).alloc (by simp; omega) _).alloc (by simp; omega) _).alloc (by simp; omega) _) (Nat.le_refl _) _
end Go.Proofs.YtjnoaidceddpjaaDoor
namespace Go.Proofs.YtjnoaidceddpjaaDoor
open Go.RowKit Go.Extern.Stop Go.Stop Go.Extern

/-- The sentinels of package api lie where the variables say: a k is the address of the one of code k. -/
structure Sents (w : World) (a : Nat → Addr) : Prop where
  c1 : w.cell? ⟨0, 0, none⟩ = some (.iface 165 (.pointer (some (a 1))))
  c2 : w.cell? ⟨3, 0, none⟩ = some (.iface 165 (.pointer (some (a 2))))
  c3 : w.cell? ⟨4, 0, none⟩ = some (.iface 165 (.pointer (some (a 3))))
  c4 : w.cell? ⟨5, 0, none⟩ = some (.iface 165 (.pointer (some (a 4))))
  c5 : w.cell? ⟨6, 0, none⟩ = some (.iface 165 (.pointer (some (a 5))))
  c6 : w.cell? ⟨1, 0, none⟩ = some (.iface 165 (.pointer (some (a 6))))
  c7 : w.cell? ⟨2, 0, none⟩ = some (.iface 165 (.pointer (some (a 7))))
  c8 : w.cell? ⟨7, 0, none⟩ = some (.iface 165 (.pointer (some (a 8))))
  c9 : w.cell? ⟨8, 0, none⟩ = some (.iface 165 (.pointer (some (a 9))))
  c10 : w.cell? ⟨9, 0, none⟩ = some (.iface 165 (.pointer (some (a 10))))
  ety : w.cell? ⟨10, 0, none⟩ = some (.iface 149 (.agg #[.pointer (some ⟨11, 24, none⟩)]))
  row : ∀ k, 1 ≤ k → k ≤ 10 → ∃ c t, w.heap[(a k).block]? = some (.cells c t (0, 0))
  ne : ∀ i j, 1 ≤ i → i ≤ 10 → 1 ≤ j → j ≤ 10 → i ≠ j → a i ≠ a j
  big : 11 ≤ w.heap.size
theorem cell_lt {w : World} {p : Addr} {v : Value} (h : w.cell? p = some v) : p.block < w.heap.size := World.block_lt_of_cell? w p h
theorem Sents.of_below {w w' : World} {a : Nat → Addr} (h : Sents w a) (hb : Below w.heap.size w w') : Sents w' a where
  c1 := (hb.cell (cell_lt h.c1)).trans h.c1
  c2 := (hb.cell (cell_lt h.c2)).trans h.c2
  c3 := (hb.cell (cell_lt h.c3)).trans h.c3
  c4 := (hb.cell (cell_lt h.c4)).trans h.c4
  c5 := (hb.cell (cell_lt h.c5)).trans h.c5
  c6 := (hb.cell (cell_lt h.c6)).trans h.c6
  c7 := (hb.cell (cell_lt h.c7)).trans h.c7
  c8 := (hb.cell (cell_lt h.c8)).trans h.c8
  c9 := (hb.cell (cell_lt h.c9)).trans h.c9
  c10 := (hb.cell (cell_lt h.c10)).trans h.c10
  ety := (hb.cell (cell_lt h.ety)).trans h.ety
  row := fun k h1 h2 => by
    obtain ⟨c, t, hc⟩ := h.row k h1 h2
    exact ⟨c, t, by rw [hb.block _ (lt_of_heap hc)]; exact hc⟩
  ne := h.ne
  big := Nat.le_trans h.big hb.size

set_option maxRecDepth 100000 in
/-- fault.Wrap(op, at, nil). -/
theorem wrap_nil (op : ByteArray) (n : Int) (w : World) : Calls Tryd.prog 47 #[.string op, .int .i64 n, .nilIface] w fun e w' => e = .returned .nilIface ∧ w' = w := by
  go_enter Tryd.func47, Tryd.ntmps47
  go_wp2
  go_ret
  exact ⟨rfl, rfl⟩
set_option maxRecDepth 100000 in
/-- fault.Wrap(op, at, e), e no nil. -/
theorem wrap_some (op : ByteArray) (n : Int) (te : TypeId) (ve : Value) (w : World) : Calls Tryd.prog 47 #[.string op, .int .i64 n, .iface te ve] w fun e w' => e = .returned (.iface 111 (.agg #[.string op, .int .i64 n, .iface te ve])) ∧ Below w.heap.size w w' := by
  have hn := fun w : World => run_eql_held_nil (P := Tryd.prog) w 24 te ve (by kernel_rfl)
  go_enter Tryd.func47, Tryd.ntmps47
  go_wp2
  go_ret
  exact ⟨rfl, by first | exact Below.refl _ _ | exact (Below.refl _ _).alloc (Nat.le_refl _) _⟩
set_option maxRecDepth 100000 in
/-- assentkeep.Error of a code. -/
theorem error_of (k : Nat) (a : Nat → Addr) (w : World) (h1 : 1 ≤ k) (h2 : k ≤ 10) (S : Sents w a) : Calls Tryd.prog 54 #[.int .i64 k] w fun e w' => e = .returned (.iface 165 (.pointer (some (a k)))) ∧ w' = w := by
  have g1 := S.c1
  have g2 := S.c2
  have g3 := S.c3
  have g4 := S.c4
  have g5 := S.c5
  have g6 := S.c6
  have g7 := S.c7
  have g8 := S.c8
  have g9 := S.c9
  have g10 := S.c10
  obtain rfl | rfl | rfl | rfl | rfl | rfl | rfl | rfl | rfl | rfl : k = 1 ∨ k = 2 ∨ k = 3 ∨ k = 4 ∨ k = 5 ∨ k = 6 ∨ k = 7 ∨ k = 8 ∨ k = 9 ∨ k = 10 := by omega
  all_goals
    go_enter Tryd.func54, Tryd.ntmps54
    go_wp2
    go_ret
    exact ⟨rfl, rfl⟩
set_option maxRecDepth 100000 in
set_option maxHeartbeats 2000000 in
/-- assentkeep.Is(nil, 0, ..). -/
theorem keepIs_nil (op : ByteArray) (n : Int) (w : World) : Calls Tryd.prog 20 #[.nilIface, .int .i64 0, .string op, .int .i64 n] w fun e w' => e = .returned (.bool true) ∧ w' = w := by
  go_enter Tryd.func20, Tryd.ntmps20
  go_wp2
  go_ret
  exact ⟨rfl, rfl⟩
set_option maxRecDepth 100000 in
set_option maxHeartbeats 4000000 in
/-- assentkeep.Is of a Fault over the sentinel of that code, with that Op and that place. -/
theorem keepIs_one (op : ByteArray) (n : Int) (k : Nat) (a : Nat → Addr) (w : World) (h1 : 1 ≤ k) (h2 : k ≤ 10) (S : Sents w a) : Calls Tryd.prog 20 #[.iface 111 (.agg #[.string op, .int .i64 n, .iface 165 (.pointer (some (a k)))]), .int .i64 k, .string op, .int .i64 n] w fun e w' => e = .returned (.bool true) ∧ Below w.heap.size w w' := by
  have hk : ((k : Int) == 0) = false := by simp; omega
  have hn := fun w : World => run_neq_held_nil (P := Tryd.prog) w 24 111 (.agg #[.string op, .int .i64 n, .iface 165 (.pointer (some (a k)))]) (by kernel_rfl)
  go_enter Tryd.func20, Tryd.ntmps20
  go_wp2_with fail
  refine (error_of k a _ h1 h2 (S.of_below ((Below.refl _ _).alloc (Nat.le_refl _) _))).mono ?_
  rintro e w1 ⟨rfl, rfl⟩
  go_wp2_with fail
  refine (is1_same op n (a k) _).mono ?_
  rintro e w1 ⟨rfl, hb⟩
  have hB : w1.heap[w.heap.size]? = some (.cells #[.string ByteArray.empty, .int .i64 0, .nilIface] 111 (0, 0)) := by
    rw [hb.block _ (by simp)]
    exact heap_alloc_new _ _
  have hb1 : Below w.heap.size w w1 := ((Below.refl _ _).alloc (Nat.le_refl _) _).trans (hb.mono (by simp))
  have S1 := S.of_below hb1
  have hz : w.heap.size < w1.heap.size := lt_of_heap hB
  go_wp2_with fail
  refine (as_hit op n _ _ w.heap.size _ _ _ _ _ S1.ety hB S.big).mono ?_
  rintro e w2 ⟨rfl, hB2, hb2⟩
  have d0 : w2.cell? ⟨w.heap.size, 0, none⟩ = some (.string op) := by simp [World.cell?, hB2]
  have d1 : w2.cell? ⟨w.heap.size, 1, none⟩ = some (.int .i64 n) := by simp [World.cell?, hB2]
  go_wp2
  go_ret
  exact ⟨rfl, hb1.trans hb2⟩
theorem Sents.heap_row {w : World} {a : Nat → Addr} (S : Sents w a) (k : Nat) (h1 : 1 ≤ k) (h2 : k ≤ 10) : ∃ c t, w.heap[(a k).block]? = some (.cells c t (0, 0)) := S.row k h1 h2
set_option maxRecDepth 100000 in
set_option maxHeartbeats 4000000 in
/-- assentkeep.Only of a Fault over the sentinel of that code. -/
theorem only_one (op : ByteArray) (n : Int) (k : Nat) (a : Nat → Addr) (w : World) (h1 : 1 ≤ k) (h2 : k ≤ 10) (S : Sents w a) : Calls Tryd.prog 42 #[.iface 111 (.agg #[.string op, .int .i64 n, .iface 165 (.pointer (some (a k)))]), .int .i64 k] w fun e w' => e = .returned (.bool true) ∧ Below w.heap.size w w' := by
  have hn := fun w : World => run_eql_held_nil (P := Tryd.prog) w 24 111 (.agg #[.string op, .int .i64 n, .iface 165 (.pointer (some (a k)))]) (by kernel_rfl)
  have hk : ((k : Int) == 0) = false := by simp; omega
  go_enter Tryd.func42, Tryd.ntmps42
  go_wp2
  go_loopw [5] (fun v wr => ∃ c : Nat, 1 ≤ c ∧ c ≤ 11 ∧ v = .int .i64 c ∧ Hid (Below w.heap.size w wr)) (fun v _ => 11 - (intOf v).toNat)
  case atStart => exact ⟨1, by omega, by omega, rfl, Below.refl _ _⟩
  case round =>
    obtain ⟨c, hc1, hc2, rfl, hb⟩ := hrel
    by_cases hlt : c ≤ 10
    · have S1 := S.of_below hb.out
      by_cases hck : c = k
      · subst hck
        have he : ((c : Int) == (c : Int)) = true := by simp
        go_wp2_with fail
        refine (error_of c a _ hc1 hlt S1).mono ?_
        rintro e w1 ⟨rfl, rfl⟩
        go_wp2_with fail
        refine (is1_same op n (a c) _).mono ?_
        rintro e w1 ⟨rfl, hb2⟩
        have hb3 : Hid (Below w.heap.size w w1) := hb.out.trans (hb2.mono hb.out.size)
        clear hb2
        go_wp2
        go_roundw
        case rel => exact ⟨c + 1, by omega, by omega, by go_num, hb3⟩
        case measure => simp [intOf]; omega
      · have he : ((c : Int) == (k : Int)) = false := by simp; omega
        obtain ⟨ca, ta, hra⟩ := S1.row k h1 h2
        obtain ⟨cb, tb, hrb⟩ := S1.row c hc1 hlt
        have Hra := Lib.hid hra
        have Hrb := Lib.hid hrb
        clear hra hrb
        go_wp2_with fail
        refine (error_of c a _ hc1 hlt S1).mono ?_
        rintro e w1 ⟨rfl, rfl⟩
        go_wp2_with fail
        refine (is1_other op n (a c) (a k) ca cb ta tb _ (S.ne k c h1 h2 hc1 hlt (fun h => hck h.symm)) Hra.out Hrb.out).mono ?_
        rintro e w1 ⟨rfl, hb2⟩
        have hb3 : Hid (Below w.heap.size w w1) := hb.out.trans (hb2.mono hb.out.size)
        clear hb2
        go_wp2
        go_roundw
        case rel => exact ⟨c + 1, by omega, by omega, by go_num, hb3⟩
        case measure => simp [intOf]; omega
    · go_wp2
      go_ret
      exact ⟨rfl, hb.out⟩
set_option maxRecDepth 100000 in
set_option maxHeartbeats 4000000 in
/-- assentkeep.Only(nil, 0). -/
theorem only_nil (a : Nat → Addr) (w : World) (S : Sents w a) : Calls Tryd.prog 42 #[.nilIface, .int .i64 0] w fun e w' => e = .returned (.bool true) ∧ Below w.heap.size w w' := by
  go_enter Tryd.func42, Tryd.ntmps42
  go_wp2
  go_loopw [5] (fun v wr => ∃ c : Nat, 1 ≤ c ∧ c ≤ 11 ∧ v = .int .i64 c ∧ Hid (Below w.heap.size w wr)) (fun v _ => 11 - (intOf v).toNat)
  case atStart => exact ⟨1, by omega, by omega, rfl, Below.refl _ _⟩
  case round =>
    obtain ⟨c, hc1, hc2, rfl, hb⟩ := hrel
    by_cases hlt : c ≤ 10
    · have S1 := S.of_below hb.out
      have he : ((c : Int) == 0) = false := by simp; omega
      go_wp2_with fail
      refine (error_of c a _ hc1 hlt S1).mono ?_
      rintro e w1 ⟨rfl, rfl⟩
      go_wp2_with fail
      refine (is_nil (a c) _).mono ?_
      rintro e w1 ⟨rfl, hb2⟩
      have hb3 : Hid (Below w.heap.size w w1) := hb.out.trans (hb2.mono hb.out.size)
      clear hb2
      go_wp2
      go_roundw
      case rel => exact ⟨c + 1, by omega, by omega, by go_num, hb3⟩
      case measure => simp [intOf]; omega
    · go_wp2
      go_ret
      exact ⟨rfl, hb.out⟩
end Go.Proofs.YtjnoaidceddpjaaDoor
