/- The table of misses (package mshr): Add, where the line is not under way. -/
import Derived.Test.YtjnoaidceddpjaaDoorMshrJ
namespace Go.Proofs.YtjnoaidceddpjaaDoor
open Go.RowKit Go.Extern.Stop Go.Stop Go.Extern

set_option maxRecDepth 100000 in
set_option maxHeartbeats 1000000 in
theorem add_full (t most : Nat) (l : List (Int × Int)) (v : Value) (line kind : Int) (w : World) (a : Nat → Addr) (S : Sents w a) (h : TabAt w t most l v) (hr : Rising l) (h1 : 0 ≤ line) (h2 : line < 32) (h3 : 1 ≤ kind) (h4 : kind ≤ 4) (hh : has line l = false) (hf : most ≤ l.length) :
    Calls Tryd.prog 35 #[.pointer (some ⟨t, 0, none⟩), .int .i64 line, .int .i64 kind] w fun e w' => e = .returned (sayAdd line (a 6)) ∧ Below w.heap.size w w' := by
  have HS := Lib.hid S
  have hat := at_is t most l v line w h hr h1 h2
  rw [hh] at hat
  have Hat := Lib.hid hat
  have HT := Lib.hid h
  have Hf := Lib.hid hf
  clear h hr hh hat S hf
  unfold sayAdd
  go_enter Tryd.func35, Tryd.ntmps35
  go_wp2_with fail
  refine (Hat.out).mono ?_
  rintro e w1 ⟨rfl, hb⟩
  have hb' := Lib.hid hb
  have hful := full_is t most l v w1 (HT.out.below hb)
  rw [decide_eq_true Hf.out] at hful
  have Hful := Lib.hid hful
  clear hb hful
  go_wp2_with fail
  refine (Hful.out).mono ?_
  rintro e w2 ⟨rfl, k, rfl⟩
  have hb3 := hb'.out.trans (below_drewN w.heap.size w1 k)
  have g6 := (HS.out.of_below hb3).c6
  have hb3' := Lib.hid hb3
  clear hb3
  go_wp2_with fail
  refine (wrap_some _ line _ _ _).mono ?_
  rintro e w3 ⟨rfl, hb2⟩
  have hb2' := Lib.hid hb2
  clear hb2
  go_wp2
  go_ret
  exact ⟨rfl, hb3'.out.trans (hb2'.out.mono hb3'.out.size)⟩
set_option maxRecDepth 100000 in
set_option maxHeartbeats 1000000 in
theorem add_in (t most : Nat) (l : List (Int × Int)) (v : Value) (line kind : Int) (w : World) (h : TabAt w t most l v) (hr : Rising l) (h1 : 0 ≤ line) (h2 : line < 32) (h3 : 1 ≤ kind) (h4 : kind ≤ 4) (hh : has line l = false) (hf : ¬ most ≤ l.length) (hm : most ≤ 8) :
    Calls Tryd.prog 35 #[.pointer (some ⟨t, 0, none⟩), .int .i64 line, .int .i64 kind] w fun e w' => e = .returned .nilIface ∧ ∃ v', TabAt w' t most (l.take (lbOf line l) ++ (line, kind) :: l.drop (lbOf line l)) v' ∧ (v'.ownBlock = v.ownBlock ∨ ∃ k, v'.ownBlock = some k ∧ w.heap.size ≤ k) ∧ Turned (fun k => k = t ∨ v.ownBlock = some k) w w' := by
  have hat := at_is t most l v line w h hr h1 h2
  rw [hh] at hat
  have Hat := Lib.hid hat
  have HT := Lib.hid h
  have Hf := Lib.hid hf
  have hlb := lb_le line l
  clear h hr hh hat hf
  go_enter Tryd.func35, Tryd.ntmps35
  go_wp2_with fail
  refine (Hat.out).mono ?_
  rintro e w1 ⟨rfl, hb⟩
  have hb' := Lib.hid hb
  have hful := full_is t most l v w1 (HT.out.below hb)
  rw [decide_eq_false Hf.out] at hful
  have Hful := Lib.hid hful
  have HT1 := Lib.hid (HT.out.below hb)
  clear hb hful
  go_wp2_with fail
  refine (Hful.out).mono ?_
  rintro e w2 ⟨rfl, k, rfl⟩
  have hb3 := hb'.out.trans (below_drewN w.heap.size w1 k)
  have HT2 := Lib.hid (HT.out.below hb3)
  have d1 := (HT.out.below hb3).list_cell
  have hb3' := Lib.hid hb3
  clear hb3
  go_wp2_with fail
  have TW : TabAt ((w1.drewN k).alloc (.cells #[.int .i64 line, .int .i64 kind] 91)) t most l v := HT2.out.below ((Below.refl _ _).alloc (Nat.le_refl _) _)
  have hbW : Below w.heap.size w ((w1.drewN k).alloc (.cells #[.int .i64 line, .int .i64 kind] 91)) := hb3'.out.alloc hb3'.out.size _
  have hnew : ((w1.drewN k).alloc (.cells #[.int .i64 line, .int .i64 kind] 91)).heap[w1.heap.size]? = some (.cells #[.int .i64 line, .int .i64 kind] 91 (0, 0)) := heap_alloc_new (w1.drewN k) _
  have hlt : w.heap.size ≤ w1.heap.size := hb'.out.size
  have htd : l.take (lbOf line l) ++ l.drop (lbOf line l) = l := List.take_append_drop _ _
  refine (insertMiss v l.length (lbOf line l) (l.take (lbOf line l)) (l.drop (lbOf line l)) line kind w1.heap.size _ (by rw [htd]; exact TW.row) (by rw [htd]) (by rw [List.length_take]; omega) TW.few (fun q hq e => by
    have := HT.out.row.lt hq
    omega) hnew).mono ?_
  rintro e w3 ⟨v', rfl, hr3, hg3, ho3⟩
  obtain ⟨g, n, cap, rfl⟩ : ∃ g n cap, v' = .slice (some ⟨g, 0, none⟩) n cap := by
    rcases hr3.cells with ⟨_, h⟩ | ⟨g, cap, h, _⟩
    · simp at h
    · exact ⟨g, _, cap, h⟩
  generalize (w1.drewN k).alloc (.cells #[.int .i64 line, .int .i64 kind] 91) = W at TW hbW hnew hg3 ho3
  have hbox : w3.heap[t]? = some (.cells #[.int .i64 most, v] 119 (0, 0)) := by
    rw [hg3.block t (lt_of_heap TW.box) (fun e => TW.ne e.symm)]; exact TW.box
  have c1 : w3.cell? ⟨t, 1, none⟩ = some v := by simp [World.cell?, hbox]
  have f1 : w3.frozen? ⟨t, 1, none⟩ = false := by simp [World.frozen?, hbox]
  have Hr := Lib.hid hr3
  have Hg := Lib.hid hg3
  have Ho := Lib.hid ho3
  have Hx := Lib.hid hbox
  have HW := Lib.hid hbW
  have Htd := Lib.hid htd
  have HTW := Lib.hid TW
  clear hr3 hg3 ho3 hbox hbW TW htd hnew
  go_wp2
  go_ret
  have hne : (Value.slice (some ⟨g, 0, none⟩) n cap).ownBlock ≠ some t := by
    have hT := lt_of_heap HT.out.box
    rcases Ho.out with h | ⟨q, h, hq⟩
    · rw [h]; exact HT.out.ne
    · rw [h]
      intro e
      simp at e
      have := HW.out.size
      omega
  refine ⟨rfl, _, ⟨?_, ?_, hne, ?_⟩, ?_, ?_⟩
  · have := heap_setCell (o := 1) Hx.out (Value.slice (some ⟨g, 0, none⟩) n cap)
    simpa using this
  · exact Hr.out.of_block (fun q hq => Below.heap_setCell _ _ _ _ (by
      intro e
      simp at e
      exact hne (by rw [hq, e])))
  · have := HT.out.few
    have hF := Hf.out
    simp
    omega
  · rcases Ho.out with h | ⟨q, h, hq⟩
    · exact .inl h
    · exact .inr ⟨q, h, Nat.le_trans HW.out.size hq⟩
  · have hT : Turned (fun k => k = t ∨ v.ownBlock = some k) w w3 := (Turned.of_below HW.out).trans (Turned.of_grown Hg.out (fun q hq => Or.inr hq))
    exact hT.setCell (Or.inl (Or.inl rfl)) _
end Go.Proofs.YtjnoaidceddpjaaDoor
