/- A struct read out of an element of a slice. -/
import Derived.Test.YtjnoaidceddpjaaDoorBase
import Derived.Deep.MidRow
namespace Go.Proofs.YtjnoaidceddpjaaDoor
open Go.RowKit Go.Extern.Stop Go.Stop Go.Extern

theorem wpList_load_elem {P : Program} {ops : Array Oper} {rest : List Oper} {op : Oper} {a : Act} {w : World} {Q : Exit → Act → World → Prop} (hgd : op.guard = none) (ty : TypeId) (x : Operand) (ho : op.op = .load ty x)
    (y : Addr) (hx : a.eval x = .pointer (some y)) (vs : Array Value) (d : TypeDesc) (hc : ∀ j v, vs.toList[j]? = some v → w.cell? (y.add j) = some v)
    (hu : P.underlying ty = some d) (hd : d.isRow = true) (hi : (P.info? ty).map (·.size) = some vs.size)
    (h : wpList P ops Q rest (a.put op.dst (.agg vs)) w) : wpList P ops Q (op :: rest) a w := by
  refine wpList_plain hgd fun K hK => ?_
  obtain ⟨cs⟩ := vs
  have hl : (loadCells y cs.length).run P w = .ok cs.toArray w := run_loadCells_list (P := P) w y cs hc
  have hv : (loadVar ty y).run P w = .ok (.agg ⟨cs⟩) w := by
    cases hq : P.info? ty with
    | none => simp [hq] at hi
    | some i =>
      have hs : i.size = cs.length := by simpa [hq] using hi
      have hagg : (isAgg ty).run P w = .ok true w := by
        unfold isAgg
        rw [Sem.run_bind, run_underlying hu w]
        cases d <;> simp_all
      simp [loadVar, Sem.run_bind, hagg, sizeOf, typeInfo, hq, hs, hl]
  unfold Oper.wp execOp
  simp only [ho, hx, Instr.loadAt, Instr.sureAddr, Sem.run_bind, Sem.run_pure, Result.andThen_ok, hv]
  exact hK _ _ h
end Go.Proofs.YtjnoaidceddpjaaDoor
