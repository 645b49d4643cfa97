/- What the rows' cell 'laid' gives the walks: the sentinels are there, and differ. A world that meets the rows' cell 'laid'. What a row over the laid sentinels wants: the handle's cell, out of what is laid. What a law's row wants of an argument that is a list of numbers. -/
import Derived.Test.YtjnoaidceddpjaaDoorKeep
import Derived.Test.YtjnoaidceddpjaaDoorRows
import Derived.Stop.LaidTwo
import Derived.LaidSub
import Derived.LaidHandle
import Derived.ChangeVars
import Derived.ProofKit
import Derived.Test.YtjnoaidceddpjaaDoorCards
import Derived.Test.YtjnoaidceddpjaaDoorTie
import Derived.ChangeSame
import Derived.JoinedOf
import Derived.SevenTiedAt
import Derived.SizedLaws
namespace Go.Proofs.YtjnoaidceddpjaaDoor
open Go.RowKit Go.Extern.Stop Go.Stop Go.Extern

abbrev laidList : List (String × DataW Unit) := Rows.arrayRunsRow.laid
def addrAt (W : World) (g : Nat) : Addr := match W.cell? ⟨g, 0, none⟩ with
  | some (.iface _ (.pointer (some a))) => a
  | _ => ⟨0, 0, none⟩
theorem Tryd.star : "*" ++ "errors.errorString" = "*errors.errorString" := by decide
theorem rowOfErr (u : TypeId) (h : Tryd.prog.typeName? 3 u = some "*errors.errorString") : u = 165 :=
  typeName_ptr_named (nm := "errors.errorString") (by rw [Tryd.star]; kernel_rfl) (by kernel_rfl) (by decide) u (by rw [Tryd.star]; exact h)
theorem sent_two {W : World} {n0 n1 : String} {x0 x1 : List UInt8} {g0 g1 : Nat} (h : laidMet Tryd.prog [(n0, .iface "*errors.errorString" (.ptr (.agg [.lit (.string x0)]))), (n1, .iface "*errors.errorString" (.ptr (.agg [.lit (.string x1)])))] W)
    (e0 : Tryd.prog.globalNamed n0 = some g0) (t0 : (Tryd.prog.globals[g0]?).map (·.type) = some 24) (e1 : Tryd.prog.globalNamed n1 = some g1) (t1 : (Tryd.prog.globals[g1]?).map (·.type) = some 24) :
    W.cell? ⟨g0, 0, none⟩ = some (.iface 165 (.pointer (some (addrAt W g0)))) ∧ W.cell? ⟨g1, 0, none⟩ = some (.iface 165 (.pointer (some (addrAt W g1)))) ∧ addrAt W g0 ≠ addrAt W g1 ∧
      (∃ c t, W.heap[(addrAt W g0).block]? = some (.cells c t (0, 0))) ∧ ∃ c t, W.heap[(addrAt W g1).block]? = some (.cells c t (0, 0)) := by
  obtain ⟨a0, a1, s0, s1, c0, c1, u0, u1, hv0, hv1, -, -, -, -, -, -, hne, hb0, hb1⟩ := laid_sentinels2 (tp := 165) (te := 185) (ts := 9) h e0 t0 e1 t1 Tryd.underlying24 rowOfErr Tryd.underlying165 Tryd.underlying185 rfl rfl Tryd.underlying9 (by kernel_rfl) (by kernel_rfl)
  have k0 : W.cell? ⟨g0, 0, none⟩ = some (.iface 165 (.pointer (some a0))) := by simpa using World.var?_cell e0 hv0 0
  have k1 : W.cell? ⟨g1, 0, none⟩ = some (.iface 165 (.pointer (some a1))) := by simpa using World.var?_cell e1 hv1 0
  have f0 : addrAt W g0 = a0 := by simp [addrAt, k0]
  have f1 : addrAt W g1 = a1 := by simp [addrAt, k1]
  rw [f0, f1]
  exact ⟨k0, k1, hne, ⟨c0, u0, hb0⟩, ⟨c1, u1, hb1⟩⟩
def gOf : Nat → Nat
  | 1 => 0
  | 2 => 3
  | 3 => 4
  | 4 => 5
  | 5 => 6
  | 6 => 1
  | 7 => 2
  | 8 => 7
  | 9 => 8
  | 10 => 9
  | _ => 0
set_option maxRecDepth 100000 in
theorem sents_of_laid {W : World} (h : laidMetH Tryd.prog laidList W) (hety : W.cell? ⟨10, 0, none⟩ = some (.iface 149 (.agg #[.pointer (some ⟨11, 24, none⟩)]))) : Sents W (fun k => addrAt W (gOf k)) := by
  have hL := (laidMetH_iff.1 h).1
  have t_1_2 := sent_two (g0 := 0) (g1 := 3) (hL.filter (fun x => x.1 == "assent/api.ErrArg" || x.1 == "assent/api.ErrLong")) (by kernel_rfl) (by kernel_rfl) (by kernel_rfl) (by kernel_rfl)
  have t_1_3 := sent_two (g0 := 0) (g1 := 4) (hL.filter (fun x => x.1 == "assent/api.ErrArg" || x.1 == "assent/api.ErrShort")) (by kernel_rfl) (by kernel_rfl) (by kernel_rfl) (by kernel_rfl)
  have t_1_4 := sent_two (g0 := 0) (g1 := 5) (hL.filter (fun x => x.1 == "assent/api.ErrArg" || x.1 == "assent/api.ErrForm")) (by kernel_rfl) (by kernel_rfl) (by kernel_rfl) (by kernel_rfl)
  have t_1_5 := sent_two (g0 := 0) (g1 := 6) (hL.filter (fun x => x.1 == "assent/api.ErrArg" || x.1 == "assent/api.ErrTail")) (by kernel_rfl) (by kernel_rfl) (by kernel_rfl) (by kernel_rfl)
  have t_1_6 := sent_two (g0 := 0) (g1 := 1) (hL.filter (fun x => x.1 == "assent/api.ErrArg" || x.1 == "assent/api.ErrFull")) (by kernel_rfl) (by kernel_rfl) (by kernel_rfl) (by kernel_rfl)
  have t_1_7 := sent_two (g0 := 0) (g1 := 2) (hL.filter (fun x => x.1 == "assent/api.ErrArg" || x.1 == "assent/api.ErrBusy")) (by kernel_rfl) (by kernel_rfl) (by kernel_rfl) (by kernel_rfl)
  have t_1_8 := sent_two (g0 := 0) (g1 := 7) (hL.filter (fun x => x.1 == "assent/api.ErrArg" || x.1 == "assent/api.ErrNone")) (by kernel_rfl) (by kernel_rfl) (by kernel_rfl) (by kernel_rfl)
  have t_1_9 := sent_two (g0 := 0) (g1 := 8) (hL.filter (fun x => x.1 == "assent/api.ErrArg" || x.1 == "assent/api.ErrOrder")) (by kernel_rfl) (by kernel_rfl) (by kernel_rfl) (by kernel_rfl)
  have t_1_10 := sent_two (g0 := 0) (g1 := 9) (hL.filter (fun x => x.1 == "assent/api.ErrArg" || x.1 == "assent/api.ErrValue")) (by kernel_rfl) (by kernel_rfl) (by kernel_rfl) (by kernel_rfl)
  have t_2_3 := sent_two (g0 := 3) (g1 := 4) (hL.filter (fun x => x.1 == "assent/api.ErrLong" || x.1 == "assent/api.ErrShort")) (by kernel_rfl) (by kernel_rfl) (by kernel_rfl) (by kernel_rfl)
  have t_2_4 := sent_two (g0 := 3) (g1 := 5) (hL.filter (fun x => x.1 == "assent/api.ErrLong" || x.1 == "assent/api.ErrForm")) (by kernel_rfl) (by kernel_rfl) (by kernel_rfl) (by kernel_rfl)
  have t_2_5 := sent_two (g0 := 3) (g1 := 6) (hL.filter (fun x => x.1 == "assent/api.ErrLong" || x.1 == "assent/api.ErrTail")) (by kernel_rfl) (by kernel_rfl) (by kernel_rfl) (by kernel_rfl)
  have t_2_6 := sent_two (g0 := 3) (g1 := 1) (hL.filter (fun x => x.1 == "assent/api.ErrLong" || x.1 == "assent/api.ErrFull")) (by kernel_rfl) (by kernel_rfl) (by kernel_rfl) (by kernel_rfl)
  have t_2_7 := sent_two (g0 := 3) (g1 := 2) (hL.filter (fun x => x.1 == "assent/api.ErrLong" || x.1 == "assent/api.ErrBusy")) (by kernel_rfl) (by kernel_rfl) (by kernel_rfl) (by kernel_rfl)
  have t_2_8 := sent_two (g0 := 3) (g1 := 7) (hL.filter (fun x => x.1 == "assent/api.ErrLong" || x.1 == "assent/api.ErrNone")) (by kernel_rfl) (by kernel_rfl) (by kernel_rfl) (by kernel_rfl)
  have t_2_9 := sent_two (g0 := 3) (g1 := 8) (hL.filter (fun x => x.1 == "assent/api.ErrLong" || x.1 == "assent/api.ErrOrder")) (by kernel_rfl) (by kernel_rfl) (by kernel_rfl) (by kernel_rfl)
  have t_2_10 := sent_two (g0 := 3) (g1 := 9) (hL.filter (fun x => x.1 == "assent/api.ErrLong" || x.1 == "assent/api.ErrValue")) (by kernel_rfl) (by kernel_rfl) (by kernel_rfl) (by kernel_rfl)
  have t_3_4 := sent_two (g0 := 4) (g1 := 5) (hL.filter (fun x => x.1 == "assent/api.ErrShort" || x.1 == "assent/api.ErrForm")) (by kernel_rfl) (by kernel_rfl) (by kernel_rfl) (by kernel_rfl)
  have t_3_5 := sent_two (g0 := 4) (g1 := 6) (hL.filter (fun x => x.1 == "assent/api.ErrShort" || x.1 == "assent/api.ErrTail")) (by kernel_rfl) (by kernel_rfl) (by kernel_rfl) (by kernel_rfl)
  have t_3_6 := sent_two (g0 := 4) (g1 := 1) (hL.filter (fun x => x.1 == "assent/api.ErrShort" || x.1 == "assent/api.ErrFull")) (by kernel_rfl) (by kernel_rfl) (by kernel_rfl) (by kernel_rfl)
  have t_3_7 := sent_two (g0 := 4) (g1 := 2) (hL.filter (fun x => x.1 == "assent/api.ErrShort" || x.1 == "assent/api.ErrBusy")) (by kernel_rfl) (by kernel_rfl) (by kernel_rfl) (by kernel_rfl)
  have t_3_8 := sent_two (g0 := 4) (g1 := 7) (hL.filter (fun x => x.1 == "assent/api.ErrShort" || x.1 == "assent/api.ErrNone")) (by kernel_rfl) (by kernel_rfl) (by kernel_rfl) (by kernel_rfl)
  have t_3_9 := sent_two (g0 := 4) (g1 := 8) (hL.filter (fun x => x.1 == "assent/api.ErrShort" || x.1 == "assent/api.ErrOrder")) (by kernel_rfl) (by kernel_rfl) (by kernel_rfl) (by kernel_rfl)
  have t_3_10 := sent_two (g0 := 4) (g1 := 9) (hL.filter (fun x => x.1 == "assent/api.ErrShort" || x.1 == "assent/api.ErrValue")) (by kernel_rfl) (by kernel_rfl) (by kernel_rfl) (by kernel_rfl)
  have t_4_5 := sent_two (g0 := 5) (g1 := 6) (hL.filter (fun x => x.1 == "assent/api.ErrForm" || x.1 == "assent/api.ErrTail")) (by kernel_rfl) (by kernel_rfl) (by kernel_rfl) (by kernel_rfl)
  have t_4_6 := sent_two (g0 := 5) (g1 := 1) (hL.filter (fun x => x.1 == "assent/api.ErrForm" || x.1 == "assent/api.ErrFull")) (by kernel_rfl) (by kernel_rfl) (by kernel_rfl) (by kernel_rfl)
  have t_4_7 := sent_two (g0 := 5) (g1 := 2) (hL.filter (fun x => x.1 == "assent/api.ErrForm" || x.1 == "assent/api.ErrBusy")) (by kernel_rfl) (by kernel_rfl) (by kernel_rfl) (by kernel_rfl)
  have t_4_8 := sent_two (g0 := 5) (g1 := 7) (hL.filter (fun x => x.1 == "assent/api.ErrForm" || x.1 == "assent/api.ErrNone")) (by kernel_rfl) (by kernel_rfl) (by kernel_rfl) (by kernel_rfl)
  have t_4_9 := sent_two (g0 := 5) (g1 := 8) (hL.filter (fun x => x.1 == "assent/api.ErrForm" || x.1 == "assent/api.ErrOrder")) (by kernel_rfl) (by kernel_rfl) (by kernel_rfl) (by kernel_rfl)
  have t_4_10 := sent_two (g0 := 5) (g1 := 9) (hL.filter (fun x => x.1 == "assent/api.ErrForm" || x.1 == "assent/api.ErrValue")) (by kernel_rfl) (by kernel_rfl) (by kernel_rfl) (by kernel_rfl)
  have t_5_6 := sent_two (g0 := 6) (g1 := 1) (hL.filter (fun x => x.1 == "assent/api.ErrTail" || x.1 == "assent/api.ErrFull")) (by kernel_rfl) (by kernel_rfl) (by kernel_rfl) (by kernel_rfl)
  have t_5_7 := sent_two (g0 := 6) (g1 := 2) (hL.filter (fun x => x.1 == "assent/api.ErrTail" || x.1 == "assent/api.ErrBusy")) (by kernel_rfl) (by kernel_rfl) (by kernel_rfl) (by kernel_rfl)
  have t_5_8 := sent_two (g0 := 6) (g1 := 7) (hL.filter (fun x => x.1 == "assent/api.ErrTail" || x.1 == "assent/api.ErrNone")) (by kernel_rfl) (by kernel_rfl) (by kernel_rfl) (by kernel_rfl)
  have t_5_9 := sent_two (g0 := 6) (g1 := 8) (hL.filter (fun x => x.1 == "assent/api.ErrTail" || x.1 == "assent/api.ErrOrder")) (by kernel_rfl) (by kernel_rfl) (by kernel_rfl) (by kernel_rfl)
  have t_5_10 := sent_two (g0 := 6) (g1 := 9) (hL.filter (fun x => x.1 == "assent/api.ErrTail" || x.1 == "assent/api.ErrValue")) (by kernel_rfl) (by kernel_rfl) (by kernel_rfl) (by kernel_rfl)
  have t_6_7 := sent_two (g0 := 1) (g1 := 2) (hL.filter (fun x => x.1 == "assent/api.ErrFull" || x.1 == "assent/api.ErrBusy")) (by kernel_rfl) (by kernel_rfl) (by kernel_rfl) (by kernel_rfl)
  have t_6_8 := sent_two (g0 := 1) (g1 := 7) (hL.filter (fun x => x.1 == "assent/api.ErrFull" || x.1 == "assent/api.ErrNone")) (by kernel_rfl) (by kernel_rfl) (by kernel_rfl) (by kernel_rfl)
  have t_6_9 := sent_two (g0 := 1) (g1 := 8) (hL.filter (fun x => x.1 == "assent/api.ErrFull" || x.1 == "assent/api.ErrOrder")) (by kernel_rfl) (by kernel_rfl) (by kernel_rfl) (by kernel_rfl)
  have t_6_10 := sent_two (g0 := 1) (g1 := 9) (hL.filter (fun x => x.1 == "assent/api.ErrFull" || x.1 == "assent/api.ErrValue")) (by kernel_rfl) (by kernel_rfl) (by kernel_rfl) (by kernel_rfl)
  have t_7_8 := sent_two (g0 := 2) (g1 := 7) (hL.filter (fun x => x.1 == "assent/api.ErrBusy" || x.1 == "assent/api.ErrNone")) (by kernel_rfl) (by kernel_rfl) (by kernel_rfl) (by kernel_rfl)
  have t_7_9 := sent_two (g0 := 2) (g1 := 8) (hL.filter (fun x => x.1 == "assent/api.ErrBusy" || x.1 == "assent/api.ErrOrder")) (by kernel_rfl) (by kernel_rfl) (by kernel_rfl) (by kernel_rfl)
  have t_7_10 := sent_two (g0 := 2) (g1 := 9) (hL.filter (fun x => x.1 == "assent/api.ErrBusy" || x.1 == "assent/api.ErrValue")) (by kernel_rfl) (by kernel_rfl) (by kernel_rfl) (by kernel_rfl)
  have t_8_9 := sent_two (g0 := 7) (g1 := 8) (hL.filter (fun x => x.1 == "assent/api.ErrNone" || x.1 == "assent/api.ErrOrder")) (by kernel_rfl) (by kernel_rfl) (by kernel_rfl) (by kernel_rfl)
  have t_8_10 := sent_two (g0 := 7) (g1 := 9) (hL.filter (fun x => x.1 == "assent/api.ErrNone" || x.1 == "assent/api.ErrValue")) (by kernel_rfl) (by kernel_rfl) (by kernel_rfl) (by kernel_rfl)
  have t_9_10 := sent_two (g0 := 8) (g1 := 9) (hL.filter (fun x => x.1 == "assent/api.ErrOrder" || x.1 == "assent/api.ErrValue")) (by kernel_rfl) (by kernel_rfl) (by kernel_rfl) (by kernel_rfl)
  refine ⟨t_1_2.1, t_2_3.1, t_3_4.1, t_4_5.1, t_5_6.1, t_6_7.1, t_7_8.1, t_8_9.1, t_9_10.1, t_9_10.2.1, hety, ?_, ?_, ?_⟩
  · intro k h1 h2
    rcases (show k = 1 ∨ k = 2 ∨ k = 3 ∨ k = 4 ∨ k = 5 ∨ k = 6 ∨ k = 7 ∨ k = 8 ∨ k = 9 ∨ k = 10 by omega) with rfl | rfl | rfl | rfl | rfl | rfl | rfl | rfl | rfl | rfl
    · exact t_1_2.2.2.2.1
    · exact t_2_3.2.2.2.1
    · exact t_3_4.2.2.2.1
    · exact t_4_5.2.2.2.1
    · exact t_5_6.2.2.2.1
    · exact t_6_7.2.2.2.1
    · exact t_7_8.2.2.2.1
    · exact t_8_9.2.2.2.1
    · exact t_9_10.2.2.2.1
    · exact t_9_10.2.2.2.2
  · have key : ∀ i j, 1 ≤ i → i < j → j ≤ 10 → addrAt W (gOf i) ≠ addrAt W (gOf j) := by
      intro i j h1 h2 h3
      rcases (show i = 1 ∨ i = 2 ∨ i = 3 ∨ i = 4 ∨ i = 5 ∨ i = 6 ∨ i = 7 ∨ i = 8 ∨ i = 9 by omega) with rfl | rfl | rfl | rfl | rfl | rfl | rfl | rfl | rfl
      · rcases (show j = 2 ∨ j = 3 ∨ j = 4 ∨ j = 5 ∨ j = 6 ∨ j = 7 ∨ j = 8 ∨ j = 9 ∨ j = 10 by omega) with rfl | rfl | rfl | rfl | rfl | rfl | rfl | rfl | rfl
        · exact t_1_2.2.2.1
        · exact t_1_3.2.2.1
        · exact t_1_4.2.2.1
        · exact t_1_5.2.2.1
        · exact t_1_6.2.2.1
        · exact t_1_7.2.2.1
        · exact t_1_8.2.2.1
        · exact t_1_9.2.2.1
        · exact t_1_10.2.2.1
      · rcases (show j = 3 ∨ j = 4 ∨ j = 5 ∨ j = 6 ∨ j = 7 ∨ j = 8 ∨ j = 9 ∨ j = 10 by omega) with rfl | rfl | rfl | rfl | rfl | rfl | rfl | rfl
        · exact t_2_3.2.2.1
        · exact t_2_4.2.2.1
        · exact t_2_5.2.2.1
        · exact t_2_6.2.2.1
        · exact t_2_7.2.2.1
        · exact t_2_8.2.2.1
        · exact t_2_9.2.2.1
        · exact t_2_10.2.2.1
      · rcases (show j = 4 ∨ j = 5 ∨ j = 6 ∨ j = 7 ∨ j = 8 ∨ j = 9 ∨ j = 10 by omega) with rfl | rfl | rfl | rfl | rfl | rfl | rfl
        · exact t_3_4.2.2.1
        · exact t_3_5.2.2.1
        · exact t_3_6.2.2.1
        · exact t_3_7.2.2.1
        · exact t_3_8.2.2.1
        · exact t_3_9.2.2.1
        · exact t_3_10.2.2.1
      · rcases (show j = 5 ∨ j = 6 ∨ j = 7 ∨ j = 8 ∨ j = 9 ∨ j = 10 by omega) with rfl | rfl | rfl | rfl | rfl | rfl
        · exact t_4_5.2.2.1
        · exact t_4_6.2.2.1
        · exact t_4_7.2.2.1
        · exact t_4_8.2.2.1
        · exact t_4_9.2.2.1
        · exact t_4_10.2.2.1
      · rcases (show j = 6 ∨ j = 7 ∨ j = 8 ∨ j = 9 ∨ j = 10 by omega) with rfl | rfl | rfl | rfl | rfl
        · exact t_5_6.2.2.1
        · exact t_5_7.2.2.1
        · exact t_5_8.2.2.1
        · exact t_5_9.2.2.1
        · exact t_5_10.2.2.1
      · rcases (show j = 7 ∨ j = 8 ∨ j = 9 ∨ j = 10 by omega) with rfl | rfl | rfl | rfl
        · exact t_6_7.2.2.1
        · exact t_6_8.2.2.1
        · exact t_6_9.2.2.1
        · exact t_6_10.2.2.1
      · rcases (show j = 8 ∨ j = 9 ∨ j = 10 by omega) with rfl | rfl | rfl
        · exact t_7_8.2.2.1
        · exact t_7_9.2.2.1
        · exact t_7_10.2.2.1
      · rcases (show j = 9 ∨ j = 10 by omega) with rfl | rfl
        · exact t_8_9.2.2.1
        · exact t_8_10.2.2.1
      · obtain rfl : j = 10 := by omega
        exact t_9_10.2.2.1
    intro i j h1 h2 h3 h4 hne
    rcases Nat.lt_or_ge i j with hl | hl
    · exact key i j h1 hl h4
    · exact (key j i h3 (by omega) h2).symm
  · have := cell_lt hety
    simp at this
    omega
end Go.Proofs.YtjnoaidceddpjaaDoor
namespace Go.Proofs.YtjnoaidceddpjaaDoor
open Go.RowKit Go.ChangeShapes Go.WideShapes
noncomputable def low : Nat := (World.holding Tryd.prog default ⟨#[], #[], []⟩).heap.size
noncomputable def layCell (v : Value) : Obj → Obj
  | .cells _ t frozen => .cells #[v] t frozen
  | o => o
noncomputable def laidWorld (os : Os) : World :=
  let w0 := World.holding Tryd.prog os ⟨#[.cells #[.string ⟨#[97, 110, 32, 97, 114, 103, 117, 109, 101, 110, 116, 32, 116, 104, 97, 116, 32, 99, 97, 110, 39, 116, 32, 98, 101]⟩] 185, .cells #[.string ⟨#[116, 111, 111, 32, 108, 111, 110, 103]⟩] 185, .cells #[.string ⟨#[116, 111, 111, 32, 115, 104, 111, 114, 116]⟩] 185, .cells #[.string ⟨#[110, 111, 116, 32, 105, 110, 32, 102, 111, 114, 109]⟩] 185, .cells #[.string ⟨#[115, 111, 109, 101, 116, 104, 105, 110, 103, 32, 108, 101, 102, 116, 32, 111, 118, 101, 114]⟩] 185, .cells #[.string ⟨#[110, 111, 32, 114, 111, 111, 109]⟩] 185, .cells #[.string ⟨#[117, 110, 100, 101, 114, 32, 119, 97, 121]⟩] 185, .cells #[.string ⟨#[116, 104, 101, 114, 101, 32, 105, 115, 32, 110, 111, 110, 101]⟩] 185, .cells #[.string ⟨#[110, 111, 116, 32, 105, 110, 32, 111, 114, 100, 101, 114]⟩] 185, .cells #[.string ⟨#[97, 110, 111, 116, 104, 101, 114, 32, 118, 97, 108, 117, 101]⟩] 185], #[], []⟩
  { w0 with heap := (((((((((((w0.heap.modify 0 (layCell (.iface 165 (.pointer (some ⟨low + 0, 0, none⟩))))).modify 3 (layCell (.iface 165 (.pointer (some ⟨low + 1, 0, none⟩))))).modify 4 (layCell (.iface 165 (.pointer (some ⟨low + 2, 0, none⟩))))).modify 5 (layCell (.iface 165 (.pointer (some ⟨low + 3, 0, none⟩))))).modify 6 (layCell (.iface 165 (.pointer (some ⟨low + 4, 0, none⟩))))).modify 1 (layCell (.iface 165 (.pointer (some ⟨low + 5, 0, none⟩))))).modify 2 (layCell (.iface 165 (.pointer (some ⟨low + 6, 0, none⟩))))).modify 7 (layCell (.iface 165 (.pointer (some ⟨low + 7, 0, none⟩))))).modify 8 (layCell (.iface 165 (.pointer (some ⟨low + 8, 0, none⟩))))).modify 9 (layCell (.iface 165 (.pointer (some ⟨low + 9, 0, none⟩))))).modify 10 (layCell (.iface 149 (.agg #[.pointer (some ⟨11, 24, none⟩)])))) }
theorem laidWorld_met (os : Os) (args : Array Value) : laidMetH Tryd.prog laidList ((laidWorld os).forCall (fun _ _ => 0) ⟨#[], args, []⟩).memory :=
  laidMetH_of_parts (laidMet_of_run (ps := [.cell 0 0, .cell (low + 0) 0, .cell 3 0, .cell (low + 1) 0, .cell 4 0, .cell (low + 2) 0, .cell 5 0, .cell (low + 3) 0, .cell 6 0, .cell (low + 4) 0, .cell 1 0, .cell (low + 5) 0, .cell 2 0, .cell (low + 6) 0, .cell 7 0, .cell (low + 7) 0, .cell 8 0, .cell (low + 8) 0, .cell 9 0, .cell (low + 9) 0]) 8 (by kernel_rfl) (by kernel_rfl) (by kernel_rfl)) (by kernel_rfl)
end Go.Proofs.YtjnoaidceddpjaaDoor
namespace Go.Proofs.YtjnoaidceddpjaaDoor
open Go.ChangeShapes Go.WideShapes Go.RowKit

theorem Tryd.own1 : ownKnob Tryd.prog.godebug = none := by kernel_rfl
theorem Tryd.et : Tryd.prog.globalNamed "errors.errorType" = some 10 := by kernel_rfl
theorem Tryd.rt : (Tryd.prog.cutTypes.find? (·.1 == "internal/reflectlite.rtype")).map (·.2) = some 149 := by kernel_rfl
theorem Tryd.oneRow : ((List.range (297 - 100)).filter fun t => Tryd.prog.rowNamed t [101, 114, 114, 111, 114]) = [24] := by kernel_rfl
theorem Tryd.typesSize : Tryd.prog.types.size = 297 - 100 := by kernel_rfl
theorem handle_of_laid {W : World} (h : laidMetH Tryd.prog laidList W) : W.cell? ⟨10, 0, none⟩ = some (.iface 149 (.agg #[.pointer (some ⟨11, 24, none⟩)])) := by
  have h' : handlesMet Tryd.prog [("errors.errorType", Rows.laid_errors_errorType)] W := (laidMetH_iff.1 h).2
  obtain ⟨name, u, ty, e1, e2, e3, e4, e5⟩ := h' _ (List.mem_singleton.2 rfl)
  have en : name = [101, 114, 114, 111, 114] := (Option.some.inj e1).symm
  subst en
  obtain rfl := Option.some.inj (Tryd.rt.symm.trans e2)
  have hm : ty ∈ (List.range (297 - 100)).filter fun t => Tryd.prog.rowNamed t [101, 114, 114, 111, 114] := List.mem_filter.2 ⟨List.mem_range.2 (by rw [← Tryd.typesSize]; exact e3), e4⟩
  rw [Tryd.oneRow] at hm
  obtain rfl := List.mem_singleton.1 hm
  have hh : typeHandle Tryd.prog 24 = .pointer (some ⟨11, 24, none⟩) := by kernel_rfl
  rw [hh] at e5
  simpa using World.var?_cell Tryd.et e5 0
end Go.Proofs.YtjnoaidceddpjaaDoor
namespace Go.Proofs.YtjnoaidceddpjaaDoor
open Go.ChangeShapes Go.WideShapes Go.RowKit
theorem laidOut : laidOutB Tryd.prog = true := by kernel_rfl
def IsRow (k : IntKind) (w : World) (a : Option Addr) (len cap : Nat) (zs : List Int) : Prop :=
  (a = none ∧ len = 0 ∧ cap = 0 ∧ zs = []) ∨
  ∃ x, a = some x ∧ len ≤ cap ∧ cap ≤ maxLen ∧ zs.length = cap ∧ (∀ i, i < zs.length → w.cell? (x.add i) = some (.int k (zs.getD i 0))) ∧ ∀ n ∈ zs, (Lit.int k n).wf = true
end Go.Proofs.YtjnoaidceddpjaaDoor
