/- What errors.As answers at a *api.Fault, where the error is a Fault. -/
import Derived.Test.YtjnoaidceddpjaaDoorErrs
namespace Go.Proofs.YtjnoaidceddpjaaDoor
open Go.RowKit Go.Extern.Stop Go.Stop Go.Extern


theorem Tryd.vPF (t : Addr) (w : World) : (Tryd.eValueOf #[.iface 115 (.pointer (some t))]).run Tryd.prog w = .ok (.agg #[.pointer (some ⟨11, 115, none⟩), .pointer (some ⟨w.heap.size, 0, none⟩), .int .u64 150]) (w.alloc (.cells #[.pointer (some t)] 115)) := by kernel_rfl
theorem Tryd.vTF (s : ByteArray) (n : Int) (te : TypeId) (ve : Value) (w : World) : (Tryd.eValueOf #[.iface 111 (.agg #[.string s, .int .i64 n, .iface te ve])]).run Tryd.prog w = .ok (.agg #[.pointer (some ⟨11, 111, none⟩), .pointer (some ⟨w.heap.size, 0, none⟩), .int .u64 153]) (w.alloc (.cells #[.string s, .int .i64 n, .iface te ve] 111)) := by kernel_rfl
theorem Tryd.tPF (a : Addr) (w : World) : (Tryd.eType #[.agg #[.pointer (some ⟨11, 115, none⟩), .pointer (some a), .int .u64 150]]).run Tryd.prog w = .ok (.iface 149 (.agg #[.pointer (some ⟨11, 115, none⟩)])) w := by kernel_rfl
theorem Tryd.methodKind (h : Value) (w : World) : (Go.method 297 149 (.agg #[h]) "Kind").run Tryd.prog w = .ok (105, h) w := by kernel_rfl
theorem Tryd.methodElem (h : Value) (w : World) : (Go.method 297 149 (.agg #[h]) "Elem").run Tryd.prog w = .ok (116, .agg #[h]) w := by kernel_rfl
theorem Tryd.methodImplements (h : Value) (w : World) : (Go.method 297 149 (.agg #[h]) "Implements").run Tryd.prog w = .ok (117, .agg #[h]) w := by kernel_rfl
theorem Tryd.methodAssignableTo (h : Value) (w : World) : (Go.method 297 149 (.agg #[h]) "AssignableTo").run Tryd.prog w = .ok (114, .agg #[h]) w := by kernel_rfl
theorem Tryd.kPF (w : World) : (Tryd.eKind #[.pointer (some ⟨11, 115, none⟩)]).run Tryd.prog w = .ok (.int .u8 22) w := by kernel_rfl
theorem Tryd.kTF (w : World) : (Tryd.eKind #[.pointer (some ⟨11, 111, none⟩)]).run Tryd.prog w = .ok (.int .u8 25) w := by kernel_rfl
theorem Tryd.ePF (w : World) : (Tryd.eTElem #[.agg #[.pointer (some ⟨11, 115, none⟩)]]).run Tryd.prog w = .ok (.iface 149 (.agg #[.pointer (some ⟨11, 111, none⟩)])) w := by kernel_rfl
theorem Tryd.iTF (w : World) : (Tryd.eImplements #[.agg #[.pointer (some ⟨11, 111, none⟩)], .iface 149 (.agg #[.pointer (some ⟨11, 24, none⟩)])]).run Tryd.prog w = .ok (.bool true) w := by kernel_rfl
theorem Tryd.oTF (v : Value) (w : World) : (Tryd.eTypeOf #[.iface 111 v]).run Tryd.prog w = .ok (.iface 149 (.agg #[.pointer (some ⟨11, 111, none⟩)])) w := by kernel_rfl
theorem Tryd.aTF (w : World) : (Tryd.eAssignable #[.agg #[.pointer (some ⟨11, 111, none⟩)], .iface 149 (.agg #[.pointer (some ⟨11, 111, none⟩)])]).run Tryd.prog w = .ok (.bool true) w := by kernel_rfl

theorem Tryd.mrl (z : Sem Value) (g : TypeId → Addr → Nat → Nat → Sem Value) (v : Value) :
    ReflectliteValue.method z g #[v] = (do match ← ReflectliteValue.parts v with | none => z | some (t, a, fl) => g t a fl (fl % 32)) := rfl
theorem Tryd.partsPF (a : Addr) (w : World) : (ReflectliteValue.parts (.agg #[.pointer (some ⟨11, 115, none⟩), .pointer (some a), .int .u64 150])).run Tryd.prog w = .ok (some (115, a, 150)) w := by kernel_rfl
theorem Tryd.nPF (a p : Addr) (W : World) (ha : W.cell? a = some (.pointer (some p))) :
    (Tryd.eIsNil #[.agg #[.pointer (some ⟨11, 115, none⟩), .pointer (some a), .int .u64 150]]).run Tryd.prog W = .ok (.bool false) W := by
  unfold Tryd.eIsNil
  rw [Tryd.mrl]
  simp only [Sem.run_bind, Tryd.partsPF, Result.andThen]
  simp [ReflectliteValue.isNil, loadVar, isAgg, underlying, Tryd.underlying115, ha, Result.andThen]
theorem Tryd.elemOfPF (w : World) : (Rtype.elem? 115).run Tryd.prog w = .ok (some 111) w := by kernel_rfl
theorem Tryd.mkTF (p : Addr) (w : World) : (ReflectliteValue.mk 111 p ReflectliteValue.flagAddr).run Tryd.prog w = .ok (.agg #[.pointer (some ⟨11, 111, none⟩), .pointer (some p), .int .u64 409]) w := by kernel_rfl
theorem Tryd.lPF (a p : Addr) (W : World) (ha : W.cell? a = some (.pointer (some p))) :
    (Tryd.eElem #[.agg #[.pointer (some ⟨11, 115, none⟩), .pointer (some a), .int .u64 150]]).run Tryd.prog W
      = .ok (.agg #[.pointer (some ⟨11, 111, none⟩), .pointer (some p), .int .u64 409]) W := by
  unfold Tryd.eElem
  rw [Tryd.mrl]
  simp only [Sem.run_bind, Tryd.partsPF, Result.andThen]
  simp [ReflectliteValue.elem, loadVar, isAgg, underlying, Tryd.underlying115, ha, Result.andThen, Tryd.elemOfPF, Tryd.mkTF]
theorem Tryd.rls (v x : Value) : Tryd.eSet #[v, x] = (do
    let (some (dst, a, fl), some (src, b, _)) := (← ReflectliteValue.parts v, ← ReflectliteValue.parts x)
      | unsupported (.noEntry "extern/(internal/reflectlite.Value).Set.zeroValue")
    if fl / ReflectliteValue.flagAddr % 2 == 0 then unsupported (.noEntry "extern/(internal/reflectlite.Value).Set.unaddressable")
    let val ← loadVar src b
    if ← Rtype.directlyAssignable dst src then storeVar dst a val
    else if ← Rtype.implements dst src then
      if (← Rtype.kind src) == 20 then
        match val with
        | .nilIface => unsupported (.noEntry "extern/reflectlite: a nil value of one interface type handed on as a value of another")
        | _ => storeVar dst a val
      else storeVar dst a (.iface src val)
    else panicString ("reflectlite.Set: value of type " ++ (← Rtype.spelt src) ++ " is not assignable to type " ++ (← Rtype.spelt dst))
    pure (.tuple #[])) := rfl
theorem Tryd.partsTFa (a : Addr) (w : World) : (ReflectliteValue.parts (.agg #[.pointer (some ⟨11, 111, none⟩), .pointer (some a), .int .u64 409])).run Tryd.prog w = .ok (some (111, a, 409)) w := by kernel_rfl
theorem Tryd.partsTF (a : Addr) (w : World) : (ReflectliteValue.parts (.agg #[.pointer (some ⟨11, 111, none⟩), .pointer (some a), .int .u64 153])).run Tryd.prog w = .ok (some (111, a, 153)) w := by kernel_rfl
theorem Tryd.directTF (w : World) : (Rtype.directlyAssignable 111 111).run Tryd.prog w = .ok true w := by kernel_rfl
theorem Tryd.sizeTF (w : World) : (sizeOf 111).run Tryd.prog w = .ok 3 w := by kernel_rfl
/-- (Value).Set: the Fault at the block 'tb' gets what the Value's own variable 'b' holds. -/
theorem Tryd.setTF (tb b : Nat) (s : ByteArray) (n : Int) (te : TypeId) (ve : Value) (c0 c1 c2 : Value) (t : TypeId) (W : World)
    (hb0 : W.cell? ⟨b, 0, none⟩ = some (.string s)) (hb1 : W.cell? ⟨b, 1, none⟩ = some (.int .i64 n)) (hb2 : W.cell? ⟨b, 2, none⟩ = some (.iface te ve))
    (ht : W.heap[tb]? = some (.cells #[c0, c1, c2] t (0, 0))) :
    (Tryd.eSet #[.agg #[.pointer (some ⟨11, 111, none⟩), .pointer (some ⟨tb, 0, none⟩), .int .u64 409], .agg #[.pointer (some ⟨11, 111, none⟩), .pointer (some ⟨b, 0, none⟩), .int .u64 153]]).run Tryd.prog W
      = .ok (.tuple #[]) (W.setRow tb #[.string s, .int .i64 n, .iface te ve]) := by
  have hl := run_loadCells_list (P := Tryd.prog) (w := W) ⟨b, 0, none⟩ [.string s, .int .i64 n, .iface te ve] (by
    intro j v hj
    match j, hj with
    | 0, h => simp at h; subst h; simpa [Addr.add] using hb0
    | 1, h => simp at h; subst h; simpa [Addr.add] using hb1
    | 2, h => simp at h; subst h; simpa [Addr.add] using hb2
    | j + 3, h => simp at h)
  have hs := run_storeCells_at (P := Tryd.prog) tb 0 t [.string s, .int .i64 n, .iface te ve] 0 #[c0, c1, c2] W ht (by simp) (by simp [Value.oneCell'])
  simp only [List.length_cons, List.length_nil, Nat.zero_add, Nat.reduceAdd] at hl
  rw [Tryd.rls]
  simp only [Sem.run_bind, Tryd.partsTFa, Tryd.partsTF, Result.andThen]
  simp [ReflectliteValue.flagAddr, loadVar, isAgg, underlying, Tryd.underlying111, hl, Result.andThen, Tryd.directTF, storeVar, Value.cells, Tryd.sizeTF]
  simp at hs
  rw [hs]

theorem lt_of_heap {w : World} {k : Nat} {x : Obj} (h : w.heap[k]? = some x) : k < w.heap.size := (Array.getElem?_eq_some_iff.1 h).1
theorem below_setRow {B : Nat} {a w : World} (h : Below B a w) {g : Nat} (hg : B ≤ g) (c : Array Value) : Below B a (w.setRow g c) := by
  refine h.trans ⟨rfl, rfl, rfl, by simp [World.setRow], fun k hk => ?_⟩
  simp only [World.setRow, Array.getElem?_modify]
  rw [if_neg (by omega)]
theorem heap_setRow {w : World} {g : Nat} {c0 : Array Value} {t : TypeId} (h : w.heap[g]? = some (.cells c0 t (0, 0))) (c : Array Value) : (w.setRow g c).heap[g]? = some (.cells c t (0, 0)) := setRow_heap w g c0 c t (0, 0) h
set_option maxRecDepth 100000 in
set_option maxHeartbeats 4000000 in
/-- errors.As(f, &x), f a Fault, x a Fault: true, and x is f. -/
theorem as_hit (s : ByteArray) (n : Int) (te : TypeId) (ve : Value) (tb : Nat) (c0 c1 c2 : Value) (t : TypeId) (w : World)
    (hg : w.cell? ⟨10, 0, none⟩ = some (.iface 149 (.agg #[.pointer (some ⟨11, 24, none⟩)])))
    (ht : w.heap[tb]? = some (.cells #[c0, c1, c2] t (0, 0))) (hpos : 11 ≤ tb) :
    Calls Tryd.prog 55 #[.iface 111 (.agg #[.string s, .int .i64 n, .iface te ve]), .iface 115 (.pointer (some ⟨tb, 0, none⟩))] w fun e w' => e = .returned (.bool true) ∧ w'.heap[tb]? = some (.cells #[.string s, .int .i64 n, .iface te ve] t (0, 0)) ∧ Below tb w w' := by
  have x1 := Tryd.xTypeOf
  have x2 := Tryd.xValueOf
  have x3 := Tryd.xType
  have x4 := Tryd.xIsNil
  have x5 := Tryd.xKind
  have x6 := Tryd.xTElem
  have x7 := Tryd.xImplements
  have x8 := Tryd.xAssignable
  have x9 := Tryd.xElem
  have x10 := Tryd.xSet
  have f1 := Tryd.vPF
  have f2 := Tryd.vTF
  have f3 := Tryd.tPF
  have f4 := Tryd.methodKind
  have f5 := Tryd.methodElem
  have f6 := Tryd.methodImplements
  have f7 := Tryd.methodAssignableTo
  have f8 := Tryd.kPF
  have f9 := Tryd.kTF
  have f10 := Tryd.ePF
  have f11 := Tryd.iTF
  have f12 := Tryd.oTF
  have f13 := Tryd.aTF
  have hlt := lt_of_heap ht
  have n8 := Tryd.nPF ⟨w.heap.size, 0, none⟩ ⟨tb, 0, none⟩ ((w.alloc (.cells #[.pointer (some ⟨tb, 0, none⟩)] 115)).alloc (.cells #[.pointer (some ⟨11, 115, none⟩), .pointer (some ⟨w.heap.size, 0, none⟩), .int .u64 150] 136)) (by simp)
  have el := Tryd.lPF ⟨w.heap.size, 0, none⟩ ⟨tb, 0, none⟩ (((w.alloc (.cells #[.pointer (some ⟨tb, 0, none⟩)] 115)).alloc (.cells #[.pointer (some ⟨11, 115, none⟩), .pointer (some ⟨w.heap.size, 0, none⟩), .int .u64 150] 136)).alloc (.cells #[.pointer (some ⟨11, 115, none⟩), .pointer (some ⟨w.heap.size, 0, none⟩), .int .u64 150] 136)) (by rw [World.cell?_alloc_lt _ _ _ (by simp; omega)]; simp)
  have hT4 : ((((w.alloc (.cells #[.pointer (some ⟨tb, 0, none⟩)] 115)).alloc (.cells #[.pointer (some ⟨11, 115, none⟩), .pointer (some ⟨w.heap.size, 0, none⟩), .int .u64 150] 136)).alloc (.cells #[.pointer (some ⟨11, 115, none⟩), .pointer (some ⟨w.heap.size, 0, none⟩), .int .u64 150] 136)).alloc (.cells #[.string s, .int .i64 n, .iface te ve] 111)).heap[tb]? = some (.cells #[c0, c1, c2] t (0, 0)) :=
    Below.heap_lift2 (Below.heap_lift2 ht _ _) _ _
  have st := Tryd.setTF tb (w.heap.size + 1 + 1 + 1) s n te ve c0 c1 c2 t _ (by rw [World.cell?_alloc_at _ _ _ _ (by simp)]; rfl) (by rw [World.cell?_alloc_at _ _ _ _ (by simp)]; rfl) (by rw [World.cell?_alloc_at _ _ _ _ (by simp)]; rfl) hT4
  have hg1 : ∀ o p, ((w.alloc o).alloc p).cell? ⟨10, 0, none⟩ = some (.iface 149 (.agg #[.pointer (some ⟨11, 24, none⟩)])) := by
    intro o p
    rw [World.cell?_alloc_lt _ _ _ (by simp; omega), World.cell?_alloc_lt _ _ _ (by change 10 < w.heap.size; omega)]; exact hg
  go_enter Tryd.func55, Tryd.ntmps55
  go_wp2
  refine wp_loop_rounds 1 ?_
  rw [rounds_succ]
  go_wp2
  go_ret
  refine ⟨rfl, heap_setRow hT4 _, ?_⟩
  exact below_setRow (((((Below.refl tb w).alloc (by omega) _).alloc (by simp; omega) _).alloc (by simp; omega) _).alloc (by simp; omega) _) (Nat.le_refl _) _
end Go.Proofs.YtjnoaidceddpjaaDoor

