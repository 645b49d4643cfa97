/- What errors.Is, errors.As, fault.Wrap and assentkeep's calls answer, where an error is a chain of api.Fault values over a sentinel of package api. The sentinels' cells are conditions of each contract. -/
import Derived.Test.YtjnoaidceddpjaaDoorChecked
import Derived.WalkKit
import Derived.LaidEql
import Derived.Stop.Asserts
import Derived.RowKitTokens
import Derived.Below
import Derived.Outline
import Derived.Deep.DeepFit
import Derived.Deep.QuietTactic
import Derived.BigQuiet
namespace Go.Proofs.YtjnoaidceddpjaaDoor
open Go.RowKit Go.Extern.Stop Go.Stop Go.Extern

def Tryd.eTypeOf : Array Value → Sem Value := ReflectliteType.typeOf
theorem Tryd.xTypeOf (args : Array Value) (w : World) : (callFunc 72 args).run Tryd.prog w = ((Tryd.eTypeOf args).run Tryd.prog w).andThen fun v w' => Result.ok (Next.value v) w' := @run_callFunc_extern Tryd.prog 72 _ Tryd.eTypeOf Tryd.func72 (by kernel_rfl) (by kernel_rfl) (by kernel_rfl) (by kernel_rfl) args w
def Tryd.eComparable : Array Value → Sem Value := ReflectliteType.method fun t => do Rtype.noPackHeld "Comparable" t; pure (.bool (← typeInfo t).comparable)
theorem Tryd.xComparable (args : Array Value) (w : World) : (callFunc 115 args).run Tryd.prog w = ((Tryd.eComparable args).run Tryd.prog w).andThen fun v w' => Result.ok (Next.value v) w' := @run_callFunc_extern Tryd.prog 115 _ Tryd.eComparable Tryd.func115 (by kernel_rfl) (by kernel_rfl) (by kernel_rfl) (by kernel_rfl) args w
def Tryd.eValueOf : Array Value → Sem Value := fun args => ReflectliteValue.unpack (args.getD 0 (.tuple #[]))
theorem Tryd.xValueOf (args : Array Value) (w : World) : (callFunc 74 args).run Tryd.prog w = ((Tryd.eValueOf args).run Tryd.prog w).andThen fun v w' => Result.ok (Next.value v) w' := @run_callFunc_extern Tryd.prog 74 _ Tryd.eValueOf Tryd.func74 (by kernel_rfl) (by kernel_rfl) (by kernel_rfl) (by kernel_rfl) args w
def Tryd.eType : Array Value → Sem Value := ReflectliteValue.methodAny (ReflectliteValue.valueError "reflectlite.Value.Type" 0) fun t _ _ _ => ReflectliteType.toType t
theorem Tryd.xType (args : Array Value) (w : World) : (callFunc 75 args).run Tryd.prog w = ((Tryd.eType args).run Tryd.prog w).andThen fun v w' => Result.ok (Next.value v) w' := @run_callFunc_extern Tryd.prog 75 _ Tryd.eType Tryd.func75 (by kernel_rfl) (by kernel_rfl) (by kernel_rfl) (by kernel_rfl) args w
def Tryd.eIsNil : Array Value → Sem Value := ReflectliteValue.method (ReflectliteValue.valueError "reflectlite.Value.IsNil" 0) ReflectliteValue.isNil
theorem Tryd.xIsNil (args : Array Value) (w : World) : (callFunc 76 args).run Tryd.prog w = ((Tryd.eIsNil args).run Tryd.prog w).andThen fun v w' => Result.ok (Next.value v) w' := @run_callFunc_extern Tryd.prog 76 _ Tryd.eIsNil Tryd.func76 (by kernel_rfl) (by kernel_rfl) (by kernel_rfl) (by kernel_rfl) args w
def Tryd.eKind : Array Value → Sem Value := ReflectliteType.abiMethod fun t => do pure (.int .u8 (← Rtype.kind t))
theorem Tryd.xKind (args : Array Value) (w : World) : (callFunc 105 args).run Tryd.prog w = ((Tryd.eKind args).run Tryd.prog w).andThen fun v w' => Result.ok (Next.value v) w' := @run_callFunc_extern Tryd.prog 105 _ Tryd.eKind Tryd.func105 (by kernel_rfl) (by kernel_rfl) (by kernel_rfl) (by kernel_rfl) args w
def Tryd.eTElem : Array Value → Sem Value := ReflectliteType.method ReflectliteType.elem
theorem Tryd.xTElem (args : Array Value) (w : World) : (callFunc 116 args).run Tryd.prog w = ((Tryd.eTElem args).run Tryd.prog w).andThen fun v w' => Result.ok (Next.value v) w' := @run_callFunc_extern Tryd.prog 116 _ Tryd.eTElem Tryd.func116 (by kernel_rfl) (by kernel_rfl) (by kernel_rfl) (by kernel_rfl) args w
def Tryd.eImplements : Array Value → Sem Value := ReflectliteType.relation "Implements" ReflectliteType.implements_
theorem Tryd.xImplements (args : Array Value) (w : World) : (callFunc 117 args).run Tryd.prog w = ((Tryd.eImplements args).run Tryd.prog w).andThen fun v w' => Result.ok (Next.value v) w' := @run_callFunc_extern Tryd.prog 117 _ Tryd.eImplements Tryd.func117 (by kernel_rfl) (by kernel_rfl) (by kernel_rfl) (by kernel_rfl) args w
def Tryd.eAssignable : Array Value → Sem Value := ReflectliteType.relation "AssignableTo" ReflectliteType.assignableTo
theorem Tryd.xAssignable (args : Array Value) (w : World) : (callFunc 114 args).run Tryd.prog w = ((Tryd.eAssignable args).run Tryd.prog w).andThen fun v w' => Result.ok (Next.value v) w' := @run_callFunc_extern Tryd.prog 114 _ Tryd.eAssignable Tryd.func114 (by kernel_rfl) (by kernel_rfl) (by kernel_rfl) (by kernel_rfl) args w
def Tryd.eElem : Array Value → Sem Value := ReflectliteValue.method (ReflectliteValue.valueError "reflectlite.Value.Elem" 0) ReflectliteValue.elem
theorem Tryd.xElem (args : Array Value) (w : World) : (callFunc 85 args).run Tryd.prog w = ((Tryd.eElem args).run Tryd.prog w).andThen fun v w' => Result.ok (Next.value v) w' := @run_callFunc_extern Tryd.prog 85 _ Tryd.eElem Tryd.func85 (by kernel_rfl) (by kernel_rfl) (by kernel_rfl) (by kernel_rfl) args w
def Tryd.eSet : Array Value → Sem Value := ReflectliteValue.set
theorem Tryd.xSet (args : Array Value) (w : World) : (callFunc 86 args).run Tryd.prog w = ((Tryd.eSet args).run Tryd.prog w).andThen fun v w' => Result.ok (Next.value v) w' := @run_callFunc_extern Tryd.prog 86 _ Tryd.eSet Tryd.func86 (by kernel_rfl) (by kernel_rfl) (by kernel_rfl) (by kernel_rfl) args w

theorem Tryd.isTypeOf (v : Value) (w : World) : (Tryd.eTypeOf #[.iface 165 v]).run Tryd.prog w = .ok (.iface 149 (.agg #[.pointer (some ⟨11, 165, none⟩)])) w := by kernel_rfl
theorem Tryd.isComparable (w : World) : (Tryd.eComparable #[.agg #[.pointer (some ⟨11, 165, none⟩)]]).run Tryd.prog w = .ok (.bool true) w := by kernel_rfl
theorem Tryd.isMethodComparable (v : Value) (w : World) : (Go.method 297 149 v "Comparable").run Tryd.prog w = .ok (115, v) w := by kernel_rfl
theorem Tryd.isComp : (Tryd.prog.info? 165).map (·.comparable) = some true := by kernel_rfl
theorem Tryd.isSize : (Tryd.prog.info? 185).map (·.size) = some 1 := by kernel_rfl
theorem Tryd.noIsE (v : Value) (xT : TypeId) (w : World) : (Instr.typeAssert (.iface 165 v) xT 151 true).run Tryd.prog w = .ok (.tuple #[.nilIface, .bool false]) w := run_typeAssert_lacksB Tryd.underlying151 (by kernel_rfl) (by kernel_rfl) v xT w
theorem Tryd.noUnwrapE (v : Value) (xT : TypeId) (w : World) : (Instr.typeAssert (.iface 165 v) xT 154 true).run Tryd.prog w = .ok (.tuple #[.nilIface, .bool false]) w := run_typeAssert_lacksB Tryd.underlying154 (by kernel_rfl) (by kernel_rfl) v xT w
theorem Tryd.noUnwrapsE (v : Value) (xT : TypeId) (w : World) : (Instr.typeAssert (.iface 165 v) xT 156 true).run Tryd.prog w = .ok (.tuple #[.nilIface, .bool false]) w := run_typeAssert_lacksB Tryd.underlying156 (by kernel_rfl) (by kernel_rfl) v xT w
theorem Tryd.noIsF (v : Value) (xT : TypeId) (w : World) : (Instr.typeAssert (.iface 111 v) xT 151 true).run Tryd.prog w = .ok (.tuple #[.nilIface, .bool false]) w := run_typeAssert_lacksB Tryd.underlying151 (by kernel_rfl) (by kernel_rfl) v xT w
theorem Tryd.hasUnwrapF (v : Value) (xT : TypeId) (w : World) : (Instr.typeAssert (.iface 111 v) xT 154 true).run Tryd.prog w = .ok (.tuple #[.iface 111 v, .bool true]) w := run_typeAssert_hasB Tryd.underlying154 (by kernel_rfl) v xT w
theorem Tryd.methodUnwrap (v : Value) (w : World) : (Go.method 297 111 v "Unwrap").run Tryd.prog w = .ok (109, v) w := by kernel_rfl
/-- A sentinel, and a Fault. -/
def Tryd.sent (a : Addr) : Value := .iface 165 (.pointer (some a))

theorem Below.heap_lift1 {w : World} {k : Nat} {x : Obj} (h : w.heap[k]? = some x) (o : Obj) : (w.alloc o).heap[k]? = some x := by
  rw [Below.heap_alloc _ _ _ (Array.getElem?_eq_some_iff.1 h).1]; exact h
theorem Below.heap_lift2 {w : World} {k : Nat} {x : Obj} (h : w.heap[k]? = some x) (o p : Obj) : ((w.alloc o).alloc p).heap[k]? = some x := Below.heap_lift1 (Below.heap_lift1 h o) p

set_option maxRecDepth 100000 in
set_option maxHeartbeats 2000000 in
/-- errors.Is(f, x), f a Fault that wraps x itself: one Unwrap, then equal. -/
theorem is1_same (op0 : ByteArray) (at0 : Int) (b : Addr) (w : World) :
    Calls Tryd.prog 53 #[.iface 111 (.agg #[.string op0, .int .i64 at0, .iface 165 (.pointer (some b))]), .iface 165 (.pointer (some b))] w fun e w' => e = .returned (.bool true) ∧ Below w.heap.size w w' := by
  obtain ⟨i, hi, hcmp⟩ := Option.map_eq_some_iff.1 Tryd.isComp
  obtain ⟨j, hj, hjs⟩ := Option.map_eq_some_iff.1 Tryd.isSize
  have h8 := Tryd.xTypeOf
  have h32 := Tryd.xComparable
  have tT := Tryd.isTypeOf
  have cT := Tryd.isComparable
  have mR := Tryd.isMethodComparable
  have nE := Tryd.noIsE
  have uE := Tryd.noUnwrapE
  have vE := Tryd.noUnwrapsE
  have nW := Tryd.noIsF
  have uW := Tryd.hasUnwrapF
  have mU := Tryd.methodUnwrap
  have heq := fun w => run_eql_iface_ptr_same (P := Tryd.prog) w b Tryd.underlying24 Tryd.underlying165 hi hcmp hj
  have hty0 := fun w => run_eql_iface_types (P := Tryd.prog) 111 165 (.agg #[.string op0, .int .i64 at0, .iface 165 (.pointer (some b))]) (.pointer (some b)) Tryd.underlying24 (by decide) w
  go_enter Tryd.func53, Tryd.ntmps53
  go_wp2
  refine wp_loop_rounds 2 ?_
  rw [rounds_succ]
  go_wp2
  rw [rounds_succ]
  go_wp2
  go_ret
  exact ⟨rfl, (Below.refl _ _).alloc (by simp) _⟩
set_option maxRecDepth 100000 in
set_option maxHeartbeats 2000000 in
/-- errors.Is(f, x), f a Fault that wraps another sentinel. -/
theorem is1_other (op0 : ByteArray) (at0 : Int) (b : Addr) (a : Addr) (ca cb : Array Value) (ta tb : TypeId) (w : World) (hne : a ≠ b) (ha : w.heap[a.block]? = some (.cells ca ta (0, 0))) (hb : w.heap[b.block]? = some (.cells cb tb (0, 0))) :
    Calls Tryd.prog 53 #[.iface 111 (.agg #[.string op0, .int .i64 at0, .iface 165 (.pointer (some a))]), .iface 165 (.pointer (some b))] w fun e w' => e = .returned (.bool false) ∧ Below w.heap.size w w' := by
  obtain ⟨i, hi, hcmp⟩ := Option.map_eq_some_iff.1 Tryd.isComp
  obtain ⟨j, hj, hjs⟩ := Option.map_eq_some_iff.1 Tryd.isSize
  have h8 := Tryd.xTypeOf
  have h32 := Tryd.xComparable
  have tT := Tryd.isTypeOf
  have cT := Tryd.isComparable
  have mR := Tryd.isMethodComparable
  have nE := Tryd.noIsE
  have uE := Tryd.noUnwrapE
  have vE := Tryd.noUnwrapsE
  have nW := Tryd.noIsF
  have uW := Tryd.hasUnwrapF
  have mU := Tryd.methodUnwrap
  have heq := run_eql_iface_ptr_other (P := Tryd.prog) (w.alloc (.cells #[.string op0, .int .i64 at0, .iface 165 (.pointer (some a))] 111)) (a := a) (b := b) Tryd.underlying24 Tryd.underlying165 hi hcmp hj (by rw [hjs]; decide) hne (by simpa using (Below.heap_lift1 ha _)) (by simpa using (Below.heap_lift1 hb _))
  have hty0 := fun w => run_eql_iface_types (P := Tryd.prog) 111 165 (.agg #[.string op0, .int .i64 at0, .iface 165 (.pointer (some a))]) (.pointer (some b)) Tryd.underlying24 (by decide) w
  go_enter Tryd.func53, Tryd.ntmps53
  go_wp2
  refine wp_loop_rounds 2 ?_
  rw [rounds_succ]
  go_wp2
  rw [rounds_succ]
  go_wp2
  go_ret
  exact ⟨rfl, (Below.refl _ _).alloc (by simp) _⟩
set_option maxRecDepth 100000 in
set_option maxHeartbeats 2000000 in
/-- errors.Is(f, x), f a Fault that wraps a Fault that wraps x. -/
theorem is2_same (op0 : ByteArray) (at0 : Int) (op1 : ByteArray) (at1 : Int) (b : Addr) (w : World) :
    Calls Tryd.prog 53 #[.iface 111 (.agg #[.string op0, .int .i64 at0, .iface 111 (.agg #[.string op1, .int .i64 at1, .iface 165 (.pointer (some b))])]), .iface 165 (.pointer (some b))] w fun e w' => e = .returned (.bool true) ∧ Below w.heap.size w w' := by
  obtain ⟨i, hi, hcmp⟩ := Option.map_eq_some_iff.1 Tryd.isComp
  obtain ⟨j, hj, hjs⟩ := Option.map_eq_some_iff.1 Tryd.isSize
  have h8 := Tryd.xTypeOf
  have h32 := Tryd.xComparable
  have tT := Tryd.isTypeOf
  have cT := Tryd.isComparable
  have mR := Tryd.isMethodComparable
  have nE := Tryd.noIsE
  have uE := Tryd.noUnwrapE
  have vE := Tryd.noUnwrapsE
  have nW := Tryd.noIsF
  have uW := Tryd.hasUnwrapF
  have mU := Tryd.methodUnwrap
  have heq := fun w => run_eql_iface_ptr_same (P := Tryd.prog) w b Tryd.underlying24 Tryd.underlying165 hi hcmp hj
  have hty0 := fun w => run_eql_iface_types (P := Tryd.prog) 111 165 (.agg #[.string op0, .int .i64 at0, .iface 111 (.agg #[.string op1, .int .i64 at1, .iface 165 (.pointer (some b))])]) (.pointer (some b)) Tryd.underlying24 (by decide) w
  have hty1 := fun w => run_eql_iface_types (P := Tryd.prog) 111 165 (.agg #[.string op1, .int .i64 at1, .iface 165 (.pointer (some b))]) (.pointer (some b)) Tryd.underlying24 (by decide) w
  go_enter Tryd.func53, Tryd.ntmps53
  go_wp2
  refine wp_loop_rounds 3 ?_
  rw [rounds_succ]
  go_wp2
  rw [rounds_succ]
  go_wp2
  rw [rounds_succ]
  go_wp2
  go_ret
  exact ⟨rfl, ((Below.refl _ _).alloc (by simp) _).alloc (by simp) _⟩
set_option maxRecDepth 100000 in
set_option maxHeartbeats 2000000 in
/-- errors.Is(f, x), f a Fault that wraps a Fault that wraps another sentinel. -/
theorem is2_other (op0 : ByteArray) (at0 : Int) (op1 : ByteArray) (at1 : Int) (b : Addr) (a : Addr) (ca cb : Array Value) (ta tb : TypeId) (w : World) (hne : a ≠ b) (ha : w.heap[a.block]? = some (.cells ca ta (0, 0))) (hb : w.heap[b.block]? = some (.cells cb tb (0, 0))) :
    Calls Tryd.prog 53 #[.iface 111 (.agg #[.string op0, .int .i64 at0, .iface 111 (.agg #[.string op1, .int .i64 at1, .iface 165 (.pointer (some a))])]), .iface 165 (.pointer (some b))] w fun e w' => e = .returned (.bool false) ∧ Below w.heap.size w w' := by
  obtain ⟨i, hi, hcmp⟩ := Option.map_eq_some_iff.1 Tryd.isComp
  obtain ⟨j, hj, hjs⟩ := Option.map_eq_some_iff.1 Tryd.isSize
  have h8 := Tryd.xTypeOf
  have h32 := Tryd.xComparable
  have tT := Tryd.isTypeOf
  have cT := Tryd.isComparable
  have mR := Tryd.isMethodComparable
  have nE := Tryd.noIsE
  have uE := Tryd.noUnwrapE
  have vE := Tryd.noUnwrapsE
  have nW := Tryd.noIsF
  have uW := Tryd.hasUnwrapF
  have mU := Tryd.methodUnwrap
  have heq := run_eql_iface_ptr_other (P := Tryd.prog) ((w.alloc (.cells #[.string op0, .int .i64 at0, .iface 111 (.agg #[.string op1, .int .i64 at1, .iface 165 (.pointer (some a))])] 111)).alloc (.cells #[.string op1, .int .i64 at1, .iface 165 (.pointer (some a))] 111)) (a := a) (b := b) Tryd.underlying24 Tryd.underlying165 hi hcmp hj (by rw [hjs]; decide) hne (by simpa using (Below.heap_lift2 ha _ _)) (by simpa using (Below.heap_lift2 hb _ _))
  have hty0 := fun w => run_eql_iface_types (P := Tryd.prog) 111 165 (.agg #[.string op0, .int .i64 at0, .iface 111 (.agg #[.string op1, .int .i64 at1, .iface 165 (.pointer (some a))])]) (.pointer (some b)) Tryd.underlying24 (by decide) w
  have hty1 := fun w => run_eql_iface_types (P := Tryd.prog) 111 165 (.agg #[.string op1, .int .i64 at1, .iface 165 (.pointer (some a))]) (.pointer (some b)) Tryd.underlying24 (by decide) w
  go_enter Tryd.func53, Tryd.ntmps53
  go_wp2
  refine wp_loop_rounds 3 ?_
  rw [rounds_succ]
  go_wp2
  rw [rounds_succ]
  go_wp2
  rw [rounds_succ]
  go_wp2
  go_ret
  exact ⟨rfl, ((Below.refl _ _).alloc (by simp) _).alloc (by simp) _⟩
set_option maxRecDepth 100000 in
/-- errors.Is(nil, x). -/
theorem is_nil (b : Addr) (w : World) :
    Calls Tryd.prog 53 #[.nilIface, .iface 165 (.pointer (some b))] w fun e w' => e = .returned (.bool false) ∧ Below w.heap.size w w' := by
  have hn := run_eql_iface_nil_left (P := Tryd.prog) w 165 (.pointer (some b)) Tryd.underlying24
  go_enter Tryd.func53, Tryd.ntmps53
  go_wp2
  go_ret
  exact ⟨rfl, Below.refl _ _⟩
end Go.Proofs.YtjnoaidceddpjaaDoor
