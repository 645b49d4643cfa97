/- The law ArrayRuns, walked. -/
import Derived.Test.YtjnoaidceddpjaaDoorArrL
namespace Go.Proofs.YtjnoaidceddpjaaDoor
open Go.RowKit Go.Extern.Stop Go.Stop Go.Extern Go.Proofs.YtjnoaidceddpjaaDoor.PArrayPlays Go.Proofs.YtjnoaidceddpjaaDoorW.PrintWords

theorem ret_ent1 {fn : Func} {p : Tmp} (h : fn.results = #[.cell p 32]) (tmps : Array Value) (w : World) (g : Nat) (cs : Array Value) (hp : tmps.getD p undef = .pointer (some ⟨g, 0, none⟩)) (hg : w.heap[g]? = some (.cells cs 32 (0, 0))) (hs : cs.size = 10) :
    (results fn tmps).run Tryd.prog w = .ok (.agg cs) w :=
  results_cell_row h tmps w g 32 cs (0, 0) _ hp hg Tryd.underlying32 rfl (by rw [hs]; exact Tryd.sizeEnt)
/-- A Shared entry of a line. -/
def ofE (line : Int) : Ent := ⟨line, 1, 0, 0, 0, 0, 0, 0, false, false⟩
set_option maxRecDepth 100000 in
theorem of_is (line : Int) (w : World) : Calls Tryd.prog 16 #[.int .i64 line] w fun x w' => x = .returned (ofE line).val ∧ Below w.heap.size w w' := by
  have HONE := Lib.hid (all_oneCell_toArray (ent_one (ofE line)))
  have hres : ∀ o, (w.alloc o).heap[w.heap.size]? = some o := fun o => heap_alloc_new _ _
  go_enter Tryd.func16, Tryd.ntmps16
  go_wp2_with (refine wpList_store_row rfl 32 (.tmp 2) (.tmp 4) rfl w.heap.size (ofE line).cells.toArray rfl rfl 32 _ (hres _) Tryd.sizeEnt rfl HONE.out ?_)
  refine ⟨rfl, _, ret_ent1 Tryd.results16 _ _ w.heap.size _ rfl (heap_setRow (hres _) _) rfl, rfl, ?_⟩
  exact below_setRow ((Below.refl _ _).alloc (Nat.le_refl _) _) (Nat.le_refl _) _
theorem C_one {w : World} {g : Nat} {x : Int} (h : w.cell? ⟨g, 0, none⟩ = some (.int .i64 x)) : Kd.C (Kd.int .i64) w (some ⟨g, 0, none⟩) [x].length [x] := by
  refine Kd.C_of_reads (d := (0 : Int)) (h1 := fun _ => rfl) ⟨rfl, by simp, fun _ => ⟨⟨g, 0, none⟩, rfl, fun j hj => ?_⟩⟩
  obtain rfl : j = 0 := by simp at hj; omega
  exact h
theorem C_none (w : World) : Kd.C (Kd.int .i64) w none ([] : List Int).length [] := Kd.C_nil _ _
/-- An array of the law's own: it lies above B. -/
def ArrOwn (B : Nat) (w : World) (a k : Nat) (S : List SetSt) : Prop := ∃ gs, ArrAt B w a gs k S
theorem one_get (l : Nat) (s : SetSt) : [s][l % [s].length]? = some s := by simp [Nat.mod_one]
theorem one_set (l : Nat) (s t : SetSt) : [s].set (l % [s].length) t = [t] := by simp [Nat.mod_one]
theorem run_touch : touchB 2 0 0 = 1 ∧ victimB 2 1 = 1 := by decide +kernel
set_option maxRecDepth 100000 in
set_option maxHeartbeats 16000000 in
theorem arrayRuns_is (w : World) (ad : Nat → Addr) (HSE : Sents w ad) :
    Calls Tryd.prog 3 #[] w fun e w' => e = .returned (.bool true) ∧ Below w.heap.size w w' := by
  have HS := Lib.hid HSE
  clear HSE
  go_enter Tryd.func3, Tryd.ntmps3
  go_wp2_with fail
  refine (newArr_ok 1 2 w rfl rfl).mono ?_
  rintro e w1 ⟨a, gs, g, rfl, hA, hb⟩
  have HB1 := Lib.hid hb
  have HA1 : Hid (ArrAt w.heap.size w1 a gs 2 [⟨0, g, [Ent.none, Ent.none]⟩]) := hA
  clear hb hA
  go_wp2_with fail
  refine (of_is 1 w1).mono ?_
  rintro e w2 ⟨rfl, hb⟩
  have HB2 := Lib.hid (HB1.out.trans (hb.mono HB1.out.size))
  have HA2 := Lib.hid (HA1.out.below hb)
  clear hb HB1 HA1
  go_wp2_with fail
  refine (put_ok w.heap.size a gs 2 _ 1 ⟨0, g, [Ent.none, Ent.none]⟩ w2 HA2.out (by omega) (one_get _ _) (ofE 1) rfl rfl 0 rfl).mono ?_
  rintro e w3 ⟨rfl, hA, hT⟩
  have hga := HA2.out.above.2.2 ⟨0, g, [Ent.none, Ent.none]⟩ (by simp)
  have HB3 := Lib.hid (HB2.out.trans (hT.below HB2.out.size (fun q hq e => by have : q = g := e; have : w.heap.size ≤ g := hga; omega)))
  rw [one_set] at hA
  have HA3 : Hid (ArrAt w.heap.size w3 a gs 2 [⟨0, g, [ofE 1, Ent.none]⟩]) := hA
  clear hA hT HB2 HA2
  go_wp2_with fail
  refine (of_is 2 w3).mono ?_
  rintro e w4 ⟨rfl, hb⟩
  have HB4 := Lib.hid (HB3.out.trans (hb.mono HB3.out.size))
  have HA4 := Lib.hid (HA3.out.below hb)
  clear hb HB3 HA3
  go_wp2_with fail
  refine (put_ok w.heap.size a gs 2 _ 2 ⟨0, g, [ofE 1, Ent.none]⟩ w4 HA4.out (by omega) (one_get _ _) (ofE 2) rfl rfl 1 rfl).mono ?_
  rintro e w5 ⟨rfl, hA, hT⟩
  have HB5 := Lib.hid (HB4.out.trans (hT.below HB4.out.size (fun q hq e => by have : q = g := e; have : w.heap.size ≤ g := hga; omega)))
  rw [one_set] at hA
  have HA5 : Hid (ArrAt w.heap.size w5 a gs 2 [⟨0, g, [ofE 1, ofE 2]⟩]) := hA
  clear hA hT HB4 HA4
  go_wp2_with fail
  refine (of_is 3 w5).mono ?_
  rintro e w6 ⟨rfl, hb⟩
  have HB6 := Lib.hid (HB5.out.trans (hb.mono HB5.out.size))
  have HA6 := Lib.hid (HA5.out.below hb)
  clear hb HB5 HA5
  go_wp2_with fail
  refine (put_full w.heap.size a gs 2 _ 3 ⟨0, g, [ofE 1, ofE 2]⟩ w6 ad (HS.out.of_below HB6.out) HA6.out (by omega) (one_get _ _) (ofE 3) rfl rfl rfl).mono ?_
  rintro e w7 ⟨rfl, hb⟩
  have HB7 := Lib.hid (HB6.out.trans (hb.mono HB6.out.size))
  have HA7 := Lib.hid (HA6.out.below hb)
  clear hb HB6 HA6
  go_wp2_with fail
  refine (touch_in w.heap.size a gs 2 _ 1 ⟨0, g, [ofE 1, ofE 2]⟩ w7 HA7.out (by omega) (one_get _ _) (by show 0 < 256; omega) 0 rfl).mono ?_
  rintro e w8 ⟨rfl, hA, hT⟩
  have hgs := HA7.out.above.2.1
  have HB8 := Lib.hid (HB7.out.trans (hT.below HB7.out.size (fun q hq e => by have : q = gs := e; omega)))
  rw [one_set] at hA
  have hA' : ArrAt w.heap.size w8 a gs 2 [⟨touchB 2 0 0, g, [ofE 1, ofE 2]⟩] := hA
  rw [run_touch.1] at hA'
  have HA8 := Lib.hid hA'
  clear hA hA' hT HB7 HA7
  go_wp2_with fail
  have HV8 := Lib.hid (victim_in w.heap.size a gs 2 _ 3 ⟨1, g, [ofE 1, ofE 2]⟩ w8 HA8.out (by omega) (one_get _ _) (by show 1 < 256; omega) rfl none 0 [] (C_none _) (by simp) (by simp))
  have e8 : victimOf [ofE 1, ofE 2] (victimB 2 1) [] = 2 := by rw [run_touch.2]; rfl
  rw [show victimOf (SetSt.mk 1 g [ofE 1, ofE 2]).es (victimB 2 (SetSt.mk 1 g [ofE 1, ofE 2]).bits) [] = 2 from e8] at HV8
  refine HV8.out.mono ?_
  rintro e w9 ⟨rfl, hb⟩
  have HB9 := Lib.hid (HB8.out.trans (hb.mono HB8.out.size))
  have HA9 := Lib.hid (HA8.out.below hb)
  clear hb HB8 HA8 HV8 e8
  go_wp2_with fail
  generalize hX : w9.alloc (Obj.cells #[Value.int IntKind.i64 2] 3) = w10
  have hc10 : w10.cell? ⟨w9.heap.size, 0, none⟩ = some (.int .i64 2) := by
    rw [← hX]
    have h10 := heap_alloc_new w9 (Obj.cells #[Value.int IntKind.i64 2] 3)
    unfold World.cell?
    rw [h10]
    rfl
  have hb10 : Below w9.heap.size w9 w10 := by rw [← hX]; exact (Below.refl _ _).alloc (Nat.le_refl _) _
  have HB10 := Lib.hid (HB9.out.trans (hb10.mono HB9.out.size))
  have HA10 := Lib.hid (HA9.out.below hb10)
  have HV10 := Lib.hid (victim_in w.heap.size a gs 2 _ 3 ⟨1, g, [ofE 1, ofE 2]⟩ w10 HA10.out (by omega) (one_get _ _) (by show 1 < 256; omega) rfl (some ⟨w9.heap.size, 0, none⟩) 1 [2] (C_one hc10) (by simp) (by simp))
  have e10 : victimOf [ofE 1, ofE 2] (victimB 2 1) [2] = 1 := by rw [run_touch.2]; rfl
  rw [show victimOf (SetSt.mk 1 g [ofE 1, ofE 2]).es (victimB 2 (SetSt.mk 1 g [ofE 1, ofE 2]).bits) [2] = 1 from e10] at HV10
  clear hc10 hb10 hX e10 HB9 HA9
  refine HV10.out.mono ?_
  rintro e w11 ⟨rfl, hb⟩
  have HB11 := Lib.hid (HB10.out.trans (hb.mono HB10.out.size))
  have HA11 := Lib.hid (HA10.out.below hb)
  clear hb HB10 HA10 HV10
  go_wp2_with fail
  refine (drop_in w.heap.size a gs 2 _ 2 ⟨1, g, [ofE 1, ofE 2]⟩ w11 HA11.out (by omega) (one_get _ _) 1 rfl).mono ?_
  rintro e w12 ⟨rfl, hA, hT⟩
  have HB12 := Lib.hid (HB11.out.trans (hT.below HB11.out.size (fun q hq e => by have : q = g := e; have : w.heap.size ≤ g := hga; omega)))
  rw [one_set] at hA
  have HA12 : Hid (ArrAt w.heap.size w12 a gs 2 [⟨1, g, [ofE 1, Ent.none]⟩]) := hA
  clear hA hT HB11 HA11
  go_wp2_with fail
  refine (keepIs_one _ 3 6 ad w12 (by omega) (by omega) (HS.out.of_below HB12.out)).mono ?_
  rintro e w13 ⟨rfl, hb⟩
  have HB13 := Lib.hid (HB12.out.trans (hb.mono HB12.out.size))
  have HA13 := Lib.hid (HA12.out.below hb)
  clear hb HB12 HA12
  go_wp2_with fail
  refine (room_in w.heap.size a gs 2 _ 3 ⟨1, g, [ofE 1, Ent.none]⟩ w13 HA13.out (by omega) (one_get _ _)).mono ?_
  rintro e w14 ⟨rfl, hb⟩
  have HB14 := Lib.hid (HB13.out.trans (hb.mono HB13.out.size))
  clear hb HB13 HA13
  have hroom : roomIn ((3 : Nat) : Int) [ofE 1, Ent.none] = true := rfl
  simp only [hroom]
  go_wp2
  go_ret
  exact ⟨rfl, HB14.out⟩
end Go.Proofs.YtjnoaidceddpjaaDoor
