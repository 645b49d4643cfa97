/- The law MshrRuns, walked. -/
import Derived.Test.YtjnoaidceddpjaaDoorMshrL
namespace Go.Proofs.YtjnoaidceddpjaaDoor
open Go.RowKit Go.Extern.Stop Go.Stop Go.Extern

theorem rising_nil : Rising [] := ⟨List.Pairwise.nil, by simp⟩
theorem rising_one (x y : Int) (h1 : 0 ≤ x) (h2 : x < 32) : Rising [(x, y)] := ⟨by simp, by simp; omega⟩
set_option maxRecDepth 100000 in
set_option maxHeartbeats 4000000 in
theorem mshrRuns_is (w : World) (a : Nat → Addr) (S : Sents w a) :
    Calls Tryd.prog 9 #[] w fun e w' => e = .returned (.bool true) ∧ Below w.heap.size w w' := by
  have HS := Lib.hid S
  clear S
  go_enter Tryd.func9, Tryd.ntmps9
  go_wp2_with fail
  refine (own_new 1 w (by omega) (by omega)).mono ?_
  rintro e w1 ⟨rfl, h⟩
  have H := Lib.hid h
  clear h
  go_wp2_with fail
  refine (own_add w _ 1 [] 3 1 w1 H.out rising_nil (by omega) (by omega) (by omega) (by omega) rfl (by simp) (by omega)).mono ?_
  clear H
  rintro e w2 ⟨rfl, h⟩
  have H := Lib.hid h
  clear h
  go_wp2_with fail
  refine (own_busy w _ 1 [(3, 1)] 3 2 w2 a HS.out H.out (rising_one 3 1 (by omega) (by omega)) (by omega) (by omega) (by omega) (by omega) rfl).mono ?_
  clear H
  rintro e w3 ⟨rfl, h⟩
  have H := Lib.hid h
  clear h
  go_wp2_with fail
  refine (own_fulls w _ 1 [(3, 1)] 4 1 w3 a HS.out H.out (rising_one 3 1 (by omega) (by omega)) (by omega) (by omega) (by omega) (by omega) rfl (by simp)).mono ?_
  clear H
  rintro e w4 ⟨rfl, h⟩
  have H := Lib.hid h
  clear h
  go_wp2_with fail
  refine (own_get w _ 1 [(3, 1)] 3 w4 H.out).mono ?_
  clear H
  rintro e w5 ⟨rfl, h⟩
  have H := Lib.hid h
  clear h
  go_wp2_with fail
  refine (own_full w _ 1 [(3, 1)] w5 H.out).mono ?_
  clear H
  rintro e w6 ⟨rfl, h⟩
  have H := Lib.hid h
  clear h
  simp only [sayAdd, show kindOf 3 [((3 : Int), (1 : Int))] = 1 from rfl, show has 3 [((3 : Int), (1 : Int))] = true from rfl, show decide (1 ≤ [((3 : Int), (1 : Int))].length) = true from rfl]
  go_wp2_with fail
  refine (keepIs_one _ 3 7 a w6 (by omega) (by omega) (H.out.sents HS.out)).mono ?_
  rintro e w7 ⟨rfl, hb⟩
  have H7 := Lib.hid (H.out.below hb)
  clear hb H
  go_wp2_with fail
  refine (keepIs_one _ 4 6 a w7 (by omega) (by omega) (H7.out.sents HS.out)).mono ?_
  rintro e w8 ⟨rfl, hb⟩
  have H := Lib.hid (H7.out.below hb)
  clear hb H7
  go_wp2_with fail
  refine (own_drop w _ 1 [(3, 1)] 3 w8 H.out).mono ?_
  clear H
  rintro e w9 ⟨rfl, h⟩
  have H := Lib.hid h
  clear h
  simp only [show has 3 [((3 : Int), (1 : Int))] = true from rfl]
  go_wp2_with fail
  refine (own_list w _ 1 [] w9 H.out).mono ?_
  clear H
  rintro e w10 ⟨v', rfl, hr, _, h⟩
  have H := Lib.hid h
  clear h
  rcases hr.cells with ⟨rfl, -⟩ | ⟨g, cap, rfl, -⟩
  all_goals
    clear hr
    go_wp2
    go_ret
    exact ⟨rfl, H.out.base⟩
end Go.Proofs.YtjnoaidceddpjaaDoor
