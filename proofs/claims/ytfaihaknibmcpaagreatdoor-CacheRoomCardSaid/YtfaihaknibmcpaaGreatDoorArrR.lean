/- Rows of numbers of the call's own. -/
import Derived.Test.YtfaihaknibmcpaaGreatDoorArrO
import Derived.Test.YtfaihaknibmcpaaGreatDoorRowKit
namespace Go.Proofs.YtfaihaknibmcpaaGreatDoor
open Go.RowKit Go.Extern.Stop Go.Stop Go.Extern Go.Proofs.YtfaihaknibmcpaaGreatDoor.PCacheFull Go.Proofs.YtfaihaknibmcpaaGreatDoorW.PrintWords

/-- What leaves an array's blocks alone leaves the array. -/
theorem Arr.aside {w0 w w' : World} {a gs k : Nat} {gl : List Nat} {S : List SetSt} (h : Arr w0 w a gs k gl S) {T : Nat → Prop} (hT : Turned T w w') (hd : ∀ q, T q → q ≠ a ∧ ¬ Mine gs gl q ∧ w0.heap.size ≤ q) : Arr w0 w' a gs k gl S := by
  refine ⟨⟨?_, ?_, ?_, h.arr.len, h.arr.ne, h.arr.apart, h.arr.above, h.arr.many⟩, h.base.trans (hT.below h.base.size fun q hq e => by have := (hd q e).2.2; omega), h.gl, h.bits⟩
  · rw [hT.block a (lt_of_heap h.arr.box) fun e => (hd a e).1 rfl]; exact h.arr.box
  · rw [hT.block gs (lt_of_heap h.arr.sets) fun e => (hd gs e).2.1 (.inl rfl)]; exact h.arr.sets
  · intro s hs
    rw [hT.block s.g (lt_of_heap (h.arr.ways s hs)) fun e => (hd s.g e).2.1 (.inr (h.mem hs))]
    exact h.arr.ways s hs
theorem Arr.above {w0 w w' : World} {a gs k : Nat} {gl : List Nat} {S : List SetSt} (h : Arr w0 w a gs k gl S) {B : Nat} (hB : ∀ q, q = a ∨ Mine gs gl q → q < B) (h0 : w0.heap.size ≤ B) (hT : Turned (fun q => B ≤ q) w w') : Arr w0 w' a gs k gl S :=
  h.aside hT fun q hq => ⟨fun e => by have := hB q (.inl e); omega, fun e => by have := hB q (.inr e); omega, by omega⟩
theorem Arr.under {w0 w : World} {a gs k : Nat} {gl : List Nat} {S : List SetSt} (h : Arr w0 w a gs k gl S) : ∀ q, q = a ∨ Mine gs gl q → q < w.heap.size := by
  rintro q (rfl | hq)
  · exact lt_of_heap h.arr.box
  · exact (h.far q hq).2
def IntRow (B : Nat) (w : World) (v : Value) (zs : List Int) : Prop := w.ownsRow B 3 1 v zs.length (zs.map (Value.int .i64))
theorem IntRow.nil (B : Nat) (w : World) : IntRow B w (.slice none 0 0) [] := World.ownsRow_nil _ _ _ _
theorem IntRow.turned {B : Nat} {w w' : World} {v : Value} {zs : List Int} (h : IntRow B w v zs) {T : Nat → Prop} (hT : Turned T w w') (hd : ∀ q, T q → q < B) : IntRow B w' v zs := by
  refine ⟨h.1, ?_⟩
  rcases h.2 with hn | ⟨g, cap, cur, rfl, hB, hgg, rest⟩
  · exact .inl hn
  · exact .inr ⟨g, cap, cur, rfl, hB, (hT.block g (lt_of_heap hgg) (fun e => by have := hd g e; omega)).trans hgg, rest⟩
theorem IntRow.below {B : Nat} {w w' : World} {v : Value} {zs : List Int} (h : IntRow B w v zs) (hb : Below w.heap.size w w') : IntRow B w' v zs :=
  h.turned (T := fun _ => False) (.of_below hb) fun _ e => e.elim
theorem IntRow.shape {B : Nat} {w : World} {v : Value} {zs : List Int} (h : IntRow B w v zs) : ∃ A c, v = .slice A zs.length c ∧ zs.length ≤ c ∧ Kd.C (Kd.int .i64) w A zs.length zs ∧ (∀ g, v.ownBlock = some g → B ≤ g ∧ g < w.heap.size) := by
  have hlt := h.lt
  rcases h.2 with ⟨rfl, h0⟩ | ⟨g, cap, cur, rfl, hB, hgg, hcc, hcm, hcs, ht⟩
  · obtain rfl : zs = [] := List.eq_nil_of_length_eq_zero h0
    exact ⟨none, 0, rfl, Nat.le_refl _, Kd.C_nil _ _, hlt⟩
  · refine ⟨some ⟨g, 0, none⟩, cap, rfl, hcc, ?_, hlt⟩
    have hm : zs.length ≤ 9223372036854775807 := by
      have : cap ≤ 9223372036854775807 := by simpa [maxLen] using hcm
      omega
    refine Kd.C_of_reads (d := (0 : Int)) (h1 := fun _ => rfl) ⟨rfl, by omega, fun _ => ⟨⟨g, 0, none⟩, rfl, fun j hj => ?_⟩⟩
    have hj' : j < zs.length := hj
    have hx := h.cells (g := g) rfl j (.int .i64 (zs.getD j 0)) (by simp [hj'])
    exact hx
theorem IntRow.cell {B : Nat} {w : World} {v : Value} {zs : List Int} (h : IntRow B w v zs) {i : Nat} {x : Int} (hx : zs[i]? = some x) : ∃ g c, v = .slice (some ⟨g, 0, none⟩) zs.length c ∧ w.cell? ⟨g, i, none⟩ = some (.int .i64 x) ∧ B ≤ g ∧ g < w.heap.size := by
  have hlt := h.lt
  have hi := (List.getElem?_eq_some_iff.1 hx).1
  rcases h.2 with ⟨rfl, h0⟩ | ⟨g, cap, cur, rfl, hB, hgg, hcc, hcm, hcs, ht⟩
  · omega
  · refine ⟨g, cap, rfl, ?_, hlt g rfl⟩
    have h1 := h.cells (g := g) rfl i (.int .i64 x) (by simp [hx])
    have e : (⟨g, 0, none⟩ : Addr).add i = ⟨g, i, none⟩ := by unfold Addr.add; split <;> simp_all
    rw [e] at h1
    exact h1
theorem Tryz.infoInt : (Tryz.prog.info? 3).map (fun i => (i.zero, i.size, i.bytes)) = some (some (.int .i64 0), 1, 8) := by kernel_rfl
/-- A number appended to a row of the call's own. -/
theorem wpList_append_int {ops : Array Oper} {rest : List Oper} {o : Oper} {a : Act} {w : World} {Q : Exit → Act → World → Prop} (hgd : o.guard = none) (s x : Operand)
    (ho : o.op = .call { callee := .builtin .append, args := #[s, x], argTypes := #[70, 70] })
    (B : Nat) (v : Value) (zs : List Int) (hs : a.eval s = v) (hown : IntRow B w v zs) (g : Nat) (y : Int) (hx : a.eval x = .slice (some ⟨g, 0, none⟩) 1 1) (hy : w.cell? ⟨g, 0, none⟩ = some (.int .i64 y)) (hz : zs.length < 1000) (hbase : B ≤ w.heap.size)
    (h : ∀ v' w', IntRow B w' v' (zs ++ [y]) → Turned (fun q => B ≤ q) w w' → wpList Tryz.prog ops Q rest (a.put o.dst v') w') : wpList Tryz.prog ops Q (o :: rest) a w := by
  obtain ⟨i0, hi0, hz0, hz1, hz2⟩ := info_parts Tryz.infoInt
  refine wpList_append_own _ hgd s x 70 ho B 3 i0 (.int .i64 0) 1 8 Tryz.underlying70 hi0 hz0 hz1 hz2 rfl (by decide) v zs.length _ hs hown ⟨g, 0, none⟩ 1 1 [.int .i64 y] hx rfl ?_ ?_ (by unfold maxLen; omega) (by omega) hbase ?_
  · intro j u hu
    obtain ⟨rfl, rfl⟩ : j = 0 ∧ u = .int .i64 y := by
      cases j with
      | zero => simpa using hu.symm
      | succ j => simp at hu
    exact hy
  · intro u hu
    simp at hu
    subst hu
    rfl
  · intro v' w' h1 h2 _
    refine h v' w' ?_ (.of_grown h2 fun q hq => (hown.lt q hq).1)
    show w'.ownsRow _ _ _ _ _ _
    rw [List.length_append, List.map_append]
    exact h1
/-- The same of an operation with a guard. -/
theorem wpList_append_int_if {ops : Array Oper} {rest : List Oper} {o : Oper} {a : Act} {w : World} {Q : Exit → Act → World → Prop} (hgd : Region.wanted o (yielded ops a.tmps) = true) (s x : Operand)
    (ho : o.op = .call { callee := .builtin .append, args := #[s, x], argTypes := #[70, 70] })
    (B : Nat) (v : Value) (zs : List Int) (hs : a.eval s = v) (hown : IntRow B w v zs) (g : Nat) (y : Int) (hx : a.eval x = .slice (some ⟨g, 0, none⟩) 1 1) (hy : w.cell? ⟨g, 0, none⟩ = some (.int .i64 y)) (hz : zs.length < 1000) (hbase : B ≤ w.heap.size)
    (h : ∀ v' w', IntRow B w' v' (zs ++ [y]) → Turned (fun q => B ≤ q) w w' → wpList Tryz.prog ops Q rest (a.put o.dst v') w') : wpList Tryz.prog ops Q (o :: rest) a w := by
  obtain ⟨i0, hi0, hz0, hz1, hz2⟩ := info_parts Tryz.infoInt
  refine wpList_step fun K hK => ?_
  rw [if_pos hgd]
  refine wp_append_own _ s x 70 ho B 3 i0 (.int .i64 0) 1 8 Tryz.underlying70 hi0 hz0 hz1 hz2 rfl (by decide) v zs.length _ hs hown ⟨g, 0, none⟩ 1 1 [.int .i64 y] hx rfl ?_ ?_ (by unfold maxLen; omega) (by omega) hbase ?_
  · intro j u hu
    obtain ⟨rfl, rfl⟩ : j = 0 ∧ u = .int .i64 y := by
      cases j with
      | zero => simpa using hu.symm
      | succ j => simp at hu
    exact hy
  · intro u hu
    simp at hu
    subst hu
    rfl
  · intro v' w' h1 h2 _
    refine hK _ _ (h v' w' ?_ (.of_grown h2 fun q hq => (hown.lt q hq).1))
    show w'.ownsRow _ _ _ _ _ _
    rw [List.length_append, List.map_append]
    exact h1
end Go.Proofs.YtfaihaknibmcpaaGreatDoor
