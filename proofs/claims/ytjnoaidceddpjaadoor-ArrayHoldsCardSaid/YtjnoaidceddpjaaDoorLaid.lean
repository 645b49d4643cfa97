/- What the rows' cell 'laid' gives the walks: the sentinels are there, and differ. -/
import Derived.Test.YtjnoaidceddpjaaDoorKeep
import Derived.Test.YtjnoaidceddpjaaDoorRows
import Derived.Stop.LaidTwo
import Derived.LaidSub
import Derived.LaidHandle
namespace Go.Proofs.YtjnoaidceddpjaaDoor
open Go.RowKit Go.Extern.Stop Go.Stop Go.Extern

abbrev laidList : List (String × DataW Unit) := Rows.mshrRunsRow.laid
def addrAt (W : World) (g : Nat) : Addr := match W.cell? ⟨g, 0, none⟩ with
  | some (.iface _ (.pointer (some a))) => a
  | _ => ⟨0, 0, none⟩
theorem Tryd.star : "*" ++ "errors.errorString" = "*errors.errorString" := by decide
theorem rowOfErr (u : TypeId) (h : Tryd.prog.typeName? 3 u = some "*errors.errorString") : u = 165 :=
  typeName_ptr_named (nm := "errors.errorString") (by rw [Tryd.star]; kernel_rfl) (by kernel_rfl) (by decide) u (by rw [Tryd.star]; exact h)
theorem sent_two {W : World} {n0 n1 : String} {x0 x1 : List UInt8} {g0 g1 : Nat} (h : laidMet Tryd.prog [(n0, .iface "*errors.errorString" (.ptr (.agg [.lit (.string x0)]))), (n1, .iface "*errors.errorString" (.ptr (.agg [.lit (.string x1)])))] W)
    (e0 : Tryd.prog.globalNamed n0 = some g0) (t0 : (Tryd.prog.globals[g0]?).map (·.type) = some 24) (e1 : Tryd.prog.globalNamed n1 = some g1) (t1 : (Tryd.prog.globals[g1]?).map (·.type) = some 24) :
    W.cell? ⟨g0, 0, none⟩ = some (.iface 165 (.pointer (some (addrAt W g0)))) ∧ W.cell? ⟨g1, 0, none⟩ = some (.iface 165 (.pointer (some (addrAt W g1)))) ∧ addrAt W g0 ≠ addrAt W g1 ∧
      (∃ c t, W.heap[(addrAt W g0).block]? = some (.cells c t (0, 0))) ∧ ∃ c t, W.heap[(addrAt W g1).block]? = some (.cells c t (0, 0)) := by
  obtain ⟨a0, a1, s0, s1, c0, c1, u0, u1, hv0, hv1, -, -, -, -, -, -, hne, hb0, hb1⟩ := laid_sentinels2 (tp := 165) (te := 185) (ts := 9) h e0 t0 e1 t1 Tryd.underlying24 rowOfErr Tryd.underlying165 Tryd.underlying185 rfl rfl Tryd.underlying9 (by kernel_rfl) (by kernel_rfl)
  have k0 : W.cell? ⟨g0, 0, none⟩ = some (.iface 165 (.pointer (some a0))) := by simpa using World.var?_cell e0 hv0 0
  have k1 : W.cell? ⟨g1, 0, none⟩ = some (.iface 165 (.pointer (some a1))) := by simpa using World.var?_cell e1 hv1 0
  have f0 : addrAt W g0 = a0 := by simp [addrAt, k0]
  have f1 : addrAt W g1 = a1 := by simp [addrAt, k1]
  rw [f0, f1]
  exact ⟨k0, k1, hne, ⟨c0, u0, hb0⟩, ⟨c1, u1, hb1⟩⟩
def gOf : Nat → Nat
  | 1 => 0
  | 2 => 3
  | 3 => 4
  | 4 => 5
  | 5 => 6
  | 6 => 1
  | 7 => 2
  | 8 => 7
  | 9 => 8
  | 10 => 9
  | _ => 0
set_option maxRecDepth 100000 in
theorem sents_of_laid {W : World} (h : laidMetH Tryd.prog laidList W) (hety : W.cell? ⟨10, 0, none⟩ = some (.iface 149 (.agg #[.pointer (some ⟨11, 24, none⟩)]))) : Sents W (fun k => addrAt W (gOf k)) := by
  have hL := (laidMetH_iff.1 h).1
  have t_1_2 := sent_two (g0 := 0) (g1 := 3) (hL.filter (fun x => x.1 == "assent/api.ErrArg" || x.1 == "assent/api.ErrLong")) (by kernel_rfl) (by kernel_rfl) (by kernel_rfl) (by kernel_rfl)
  have t_1_3 := sent_two (g0 := 0) (g1 := 4) (hL.filter (fun x => x.1 == "assent/api.ErrArg" || x.1 == "assent/api.ErrShort")) (by kernel_rfl) (by kernel_rfl) (by kernel_rfl) (by kernel_rfl)
  have t_1_4 := sent_two (g0 := 0) (g1 := 5) (hL.filter (fun x => x.1 == "assent/api.ErrArg" || x.1 == "assent/api.ErrForm")) (by kernel_rfl) (by kernel_rfl) (by kernel_rfl) (by kernel_rfl)
  have t_1_5 := sent_two (g0 := 0) (g1 := 6) (hL.filter (fun x => x.1 == "assent/api.ErrArg" || x.1 == "assent/api.ErrTail")) (by kernel_rfl) (by kernel_rfl) (by kernel_rfl) (by kernel_rfl)
  have t_1_6 := sent_two (g0 := 0) (g1 := 1) (hL.filter (fun x => x.1 == "assent/api.ErrArg" || x.1 == "assent/api.ErrFull")) (by kernel_rfl) (by kernel_rfl) (by kernel_rfl) (by kernel_rfl)
  have t_1_7 := sent_two (g0 := 0) (g1 := 2) (hL.filter (fun x => x.1 == "assent/api.ErrArg" || x.1 == "assent/api.ErrBusy")) (by kernel_rfl) (by kernel_rfl) (by kernel_rfl) (by kernel_rfl)
  have t_1_8 := sent_two (g0 := 0) (g1 := 7) (hL.filter (fun x => x.1 == "assent/api.ErrArg" || x.1 == "assent/api.ErrNone")) (by kernel_rfl) (by kernel_rfl) (by kernel_rfl) (by kernel_rfl)
  have t_1_9 := sent_two (g0 := 0) (g1 := 8) (hL.filter (fun x => x.1 == "assent/api.ErrArg" || x.1 == "assent/api.ErrOrder")) (by kernel_rfl) (by kernel_rfl) (by kernel_rfl) (by kernel_rfl)
  have t_1_10 := sent_two (g0 := 0) (g1 := 9) (hL.filter (fun x => x.1 == "assent/api.ErrArg" || x.1 == "assent/api.ErrValue")) (by kernel_rfl) (by kernel_rfl) (by kernel_rfl) (by kernel_rfl)
  have t_2_3 := sent_two (g0 := 3) (g1 := 4) (hL.filter (fun x => x.1 == "assent/api.ErrLong" || x.1 == "assent/api.ErrShort")) (by kernel_rfl) (by kernel_rfl) (by kernel_rfl) (by kernel_rfl)
  have t_2_4 := sent_two (g0 := 3) (g1 := 5) (hL.filter (fun x => x.1 == "assent/api.ErrLong" || x.1 == "assent/api.ErrForm")) (by kernel_rfl) (by kernel_rfl) (by kernel_rfl) (by kernel_rfl)
  have t_2_5 := sent_two (g0 := 3) (g1 := 6) (hL.filter (fun x => x.1 == "assent/api.ErrLong" || x.1 == "assent/api.ErrTail")) (by kernel_rfl) (by kernel_rfl) (by kernel_rfl) (by kernel_rfl)
  have t_2_6 := sent_two (g0 := 3) (g1 := 1) (hL.filter (fun x => x.1 == "assent/api.ErrLong" || x.1 == "assent/api.ErrFull")) (by kernel_rfl) (by kernel_rfl) (by kernel_rfl) (by kernel_rfl)
  have t_2_7 := sent_two (g0 := 3) (g1 := 2) (hL.filter (fun x => x.1 == "assent/api.ErrLong" || x.1 == "assent/api.ErrBusy")) (by kernel_rfl) (by kernel_rfl) (by kernel_rfl) (by kernel_rfl)
  have t_2_8 := sent_two (g0 := 3) (g1 := 7) (hL.filter (fun x => x.1 == "assent/api.ErrLong" || x.1 == "assent/api.ErrNone")) (by kernel_rfl) (by kernel_rfl) (by kernel_rfl) (by kernel_rfl)
  have t_2_9 := sent_two (g0 := 3) (g1 := 8) (hL.filter (fun x => x.1 == "assent/api.ErrLong" || x.1 == "assent/api.ErrOrder")) (by kernel_rfl) (by kernel_rfl) (by kernel_rfl) (by kernel_rfl)
  have t_2_10 := sent_two (g0 := 3) (g1 := 9) (hL.filter (fun x => x.1 == "assent/api.ErrLong" || x.1 == "assent/api.ErrValue")) (by kernel_rfl) (by kernel_rfl) (by kernel_rfl) (by kernel_rfl)
  have t_3_4 := sent_two (g0 := 4) (g1 := 5) (hL.filter (fun x => x.1 == "assent/api.ErrShort" || x.1 == "assent/api.ErrForm")) (by kernel_rfl) (by kernel_rfl) (by kernel_rfl) (by kernel_rfl)
  have t_3_5 := sent_two (g0 := 4) (g1 := 6) (hL.filter (fun x => x.1 == "assent/api.ErrShort" || x.1 == "assent/api.ErrTail")) (by kernel_rfl) (by kernel_rfl) (by kernel_rfl) (by kernel_rfl)
  have t_3_6 := sent_two (g0 := 4) (g1 := 1) (hL.filter (fun x => x.1 == "assent/api.ErrShort" || x.1 == "assent/api.ErrFull")) (by kernel_rfl) (by kernel_rfl) (by kernel_rfl) (by kernel_rfl)
  have t_3_7 := sent_two (g0 := 4) (g1 := 2) (hL.filter (fun x => x.1 == "assent/api.ErrShort" || x.1 == "assent/api.ErrBusy")) (by kernel_rfl) (by kernel_rfl) (by kernel_rfl) (by kernel_rfl)
  have t_3_8 := sent_two (g0 := 4) (g1 := 7) (hL.filter (fun x => x.1 == "assent/api.ErrShort" || x.1 == "assent/api.ErrNone")) (by kernel_rfl) (by kernel_rfl) (by kernel_rfl) (by kernel_rfl)
  have t_3_9 := sent_two (g0 := 4) (g1 := 8) (hL.filter (fun x => x.1 == "assent/api.ErrShort" || x.1 == "assent/api.ErrOrder")) (by kernel_rfl) (by kernel_rfl) (by kernel_rfl) (by kernel_rfl)
  have t_3_10 := sent_two (g0 := 4) (g1 := 9) (hL.filter (fun x => x.1 == "assent/api.ErrShort" || x.1 == "assent/api.ErrValue")) (by kernel_rfl) (by kernel_rfl) (by kernel_rfl) (by kernel_rfl)
  have t_4_5 := sent_two (g0 := 5) (g1 := 6) (hL.filter (fun x => x.1 == "assent/api.ErrForm" || x.1 == "assent/api.ErrTail")) (by kernel_rfl) (by kernel_rfl) (by kernel_rfl) (by kernel_rfl)
  have t_4_6 := sent_two (g0 := 5) (g1 := 1) (hL.filter (fun x => x.1 == "assent/api.ErrForm" || x.1 == "assent/api.ErrFull")) (by kernel_rfl) (by kernel_rfl) (by kernel_rfl) (by kernel_rfl)
  have t_4_7 := sent_two (g0 := 5) (g1 := 2) (hL.filter (fun x => x.1 == "assent/api.ErrForm" || x.1 == "assent/api.ErrBusy")) (by kernel_rfl) (by kernel_rfl) (by kernel_rfl) (by kernel_rfl)
  have t_4_8 := sent_two (g0 := 5) (g1 := 7) (hL.filter (fun x => x.1 == "assent/api.ErrForm" || x.1 == "assent/api.ErrNone")) (by kernel_rfl) (by kernel_rfl) (by kernel_rfl) (by kernel_rfl)
  have t_4_9 := sent_two (g0 := 5) (g1 := 8) (hL.filter (fun x => x.1 == "assent/api.ErrForm" || x.1 == "assent/api.ErrOrder")) (by kernel_rfl) (by kernel_rfl) (by kernel_rfl) (by kernel_rfl)
  have t_4_10 := sent_two (g0 := 5) (g1 := 9) (hL.filter (fun x => x.1 == "assent/api.ErrForm" || x.1 == "assent/api.ErrValue")) (by kernel_rfl) (by kernel_rfl) (by kernel_rfl) (by kernel_rfl)
  have t_5_6 := sent_two (g0 := 6) (g1 := 1) (hL.filter (fun x => x.1 == "assent/api.ErrTail" || x.1 == "assent/api.ErrFull")) (by kernel_rfl) (by kernel_rfl) (by kernel_rfl) (by kernel_rfl)
  have t_5_7 := sent_two (g0 := 6) (g1 := 2) (hL.filter (fun x => x.1 == "assent/api.ErrTail" || x.1 == "assent/api.ErrBusy")) (by kernel_rfl) (by kernel_rfl) (by kernel_rfl) (by kernel_rfl)
  have t_5_8 := sent_two (g0 := 6) (g1 := 7) (hL.filter (fun x => x.1 == "assent/api.ErrTail" || x.1 == "assent/api.ErrNone")) (by kernel_rfl) (by kernel_rfl) (by kernel_rfl) (by kernel_rfl)
  have t_5_9 := sent_two (g0 := 6) (g1 := 8) (hL.filter (fun x => x.1 == "assent/api.ErrTail" || x.1 == "assent/api.ErrOrder")) (by kernel_rfl) (by kernel_rfl) (by kernel_rfl) (by kernel_rfl)
  have t_5_10 := sent_two (g0 := 6) (g1 := 9) (hL.filter (fun x => x.1 == "assent/api.ErrTail" || x.1 == "assent/api.ErrValue")) (by kernel_rfl) (by kernel_rfl) (by kernel_rfl) (by kernel_rfl)
  have t_6_7 := sent_two (g0 := 1) (g1 := 2) (hL.filter (fun x => x.1 == "assent/api.ErrFull" || x.1 == "assent/api.ErrBusy")) (by kernel_rfl) (by kernel_rfl) (by kernel_rfl) (by kernel_rfl)
  have t_6_8 := sent_two (g0 := 1) (g1 := 7) (hL.filter (fun x => x.1 == "assent/api.ErrFull" || x.1 == "assent/api.ErrNone")) (by kernel_rfl) (by kernel_rfl) (by kernel_rfl) (by kernel_rfl)
  have t_6_9 := sent_two (g0 := 1) (g1 := 8) (hL.filter (fun x => x.1 == "assent/api.ErrFull" || x.1 == "assent/api.ErrOrder")) (by kernel_rfl) (by kernel_rfl) (by kernel_rfl) (by kernel_rfl)
  have t_6_10 := sent_two (g0 := 1) (g1 := 9) (hL.filter (fun x => x.1 == "assent/api.ErrFull" || x.1 == "assent/api.ErrValue")) (by kernel_rfl) (by kernel_rfl) (by kernel_rfl) (by kernel_rfl)
  have t_7_8 := sent_two (g0 := 2) (g1 := 7) (hL.filter (fun x => x.1 == "assent/api.ErrBusy" || x.1 == "assent/api.ErrNone")) (by kernel_rfl) (by kernel_rfl) (by kernel_rfl) (by kernel_rfl)
  have t_7_9 := sent_two (g0 := 2) (g1 := 8) (hL.filter (fun x => x.1 == "assent/api.ErrBusy" || x.1 == "assent/api.ErrOrder")) (by kernel_rfl) (by kernel_rfl) (by kernel_rfl) (by kernel_rfl)
  have t_7_10 := sent_two (g0 := 2) (g1 := 9) (hL.filter (fun x => x.1 == "assent/api.ErrBusy" || x.1 == "assent/api.ErrValue")) (by kernel_rfl) (by kernel_rfl) (by kernel_rfl) (by kernel_rfl)
  have t_8_9 := sent_two (g0 := 7) (g1 := 8) (hL.filter (fun x => x.1 == "assent/api.ErrNone" || x.1 == "assent/api.ErrOrder")) (by kernel_rfl) (by kernel_rfl) (by kernel_rfl) (by kernel_rfl)
  have t_8_10 := sent_two (g0 := 7) (g1 := 9) (hL.filter (fun x => x.1 == "assent/api.ErrNone" || x.1 == "assent/api.ErrValue")) (by kernel_rfl) (by kernel_rfl) (by kernel_rfl) (by kernel_rfl)
  have t_9_10 := sent_two (g0 := 8) (g1 := 9) (hL.filter (fun x => x.1 == "assent/api.ErrOrder" || x.1 == "assent/api.ErrValue")) (by kernel_rfl) (by kernel_rfl) (by kernel_rfl) (by kernel_rfl)
  refine ⟨t_1_2.1, t_2_3.1, t_3_4.1, t_4_5.1, t_5_6.1, t_6_7.1, t_7_8.1, t_8_9.1, t_9_10.1, t_9_10.2.1, hety, ?_, ?_, ?_⟩
  · intro k h1 h2
    rcases (show k = 1 ∨ k = 2 ∨ k = 3 ∨ k = 4 ∨ k = 5 ∨ k = 6 ∨ k = 7 ∨ k = 8 ∨ k = 9 ∨ k = 10 by omega) with rfl | rfl | rfl | rfl | rfl | rfl | rfl | rfl | rfl | rfl
    · exact t_1_2.2.2.2.1
    · exact t_2_3.2.2.2.1
    · exact t_3_4.2.2.2.1
    · exact t_4_5.2.2.2.1
    · exact t_5_6.2.2.2.1
    · exact t_6_7.2.2.2.1
    · exact t_7_8.2.2.2.1
    · exact t_8_9.2.2.2.1
    · exact t_9_10.2.2.2.1
    · exact t_9_10.2.2.2.2
  · have key : ∀ i j, 1 ≤ i → i < j → j ≤ 10 → addrAt W (gOf i) ≠ addrAt W (gOf j) := by
      intro i j h1 h2 h3
      rcases (show i = 1 ∨ i = 2 ∨ i = 3 ∨ i = 4 ∨ i = 5 ∨ i = 6 ∨ i = 7 ∨ i = 8 ∨ i = 9 by omega) with rfl | rfl | rfl | rfl | rfl | rfl | rfl | rfl | rfl
      · rcases (show j = 2 ∨ j = 3 ∨ j = 4 ∨ j = 5 ∨ j = 6 ∨ j = 7 ∨ j = 8 ∨ j = 9 ∨ j = 10 by omega) with rfl | rfl | rfl | rfl | rfl | rfl | rfl | rfl | rfl
        · exact t_1_2.2.2.1
        · exact t_1_3.2.2.1
        · exact t_1_4.2.2.1
        · exact t_1_5.2.2.1
        · exact t_1_6.2.2.1
        · exact t_1_7.2.2.1
        · exact t_1_8.2.2.1
        · exact t_1_9.2.2.1
        · exact t_1_10.2.2.1
      · rcases (show j = 3 ∨ j = 4 ∨ j = 5 ∨ j = 6 ∨ j = 7 ∨ j = 8 ∨ j = 9 ∨ j = 10 by omega) with rfl | rfl | rfl | rfl | rfl | rfl | rfl | rfl
        · exact t_2_3.2.2.1
        · exact t_2_4.2.2.1
        · exact t_2_5.2.2.1
        · exact t_2_6.2.2.1
        · exact t_2_7.2.2.1
        · exact t_2_8.2.2.1
        · exact t_2_9.2.2.1
        · exact t_2_10.2.2.1
      · rcases (show j = 4 ∨ j = 5 ∨ j = 6 ∨ j = 7 ∨ j = 8 ∨ j = 9 ∨ j = 10 by omega) with rfl | rfl | rfl | rfl | rfl | rfl | rfl
        · exact t_3_4.2.2.1
        · exact t_3_5.2.2.1
        · exact t_3_6.2.2.1
        · exact t_3_7.2.2.1
        · exact t_3_8.2.2.1
        · exact t_3_9.2.2.1
        · exact t_3_10.2.2.1
      · rcases (show j = 5 ∨ j = 6 ∨ j = 7 ∨ j = 8 ∨ j = 9 ∨ j = 10 by omega) with rfl | rfl | rfl | rfl | rfl | rfl
        · exact t_4_5.2.2.1
        · exact t_4_6.2.2.1
        · exact t_4_7.2.2.1
        · exact t_4_8.2.2.1
        · exact t_4_9.2.2.1
        · exact t_4_10.2.2.1
      · rcases (show j = 6 ∨ j = 7 ∨ j = 8 ∨ j = 9 ∨ j = 10 by omega) with rfl | rfl | rfl | rfl | rfl
        · exact t_5_6.2.2.1
        · exact t_5_7.2.2.1
        · exact t_5_8.2.2.1
        · exact t_5_9.2.2.1
        · exact t_5_10.2.2.1
      · rcases (show j = 7 ∨ j = 8 ∨ j = 9 ∨ j = 10 by omega) with rfl | rfl | rfl | rfl
        · exact t_6_7.2.2.1
        · exact t_6_8.2.2.1
        · exact t_6_9.2.2.1
        · exact t_6_10.2.2.1
      · rcases (show j = 8 ∨ j = 9 ∨ j = 10 by omega) with rfl | rfl | rfl
        · exact t_7_8.2.2.1
        · exact t_7_9.2.2.1
        · exact t_7_10.2.2.1
      · rcases (show j = 9 ∨ j = 10 by omega) with rfl | rfl
        · exact t_8_9.2.2.1
        · exact t_8_10.2.2.1
      · obtain rfl : j = 10 := by omega
        exact t_9_10.2.2.1
    intro i j h1 h2 h3 h4 hne
    rcases Nat.lt_or_ge i j with hl | hl
    · exact key i j h1 hl h4
    · exact (key j i h3 (by omega) h2).symm
  · have := cell_lt hety
    simp at this
    omega
end Go.Proofs.YtjnoaidceddpjaaDoor
