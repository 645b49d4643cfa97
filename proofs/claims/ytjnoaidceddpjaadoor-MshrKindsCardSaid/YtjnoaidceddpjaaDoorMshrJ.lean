/- The table of misses (package mshr): Add, of a line and a kind. -/
import Derived.Test.YtjnoaidceddpjaaDoorMshrI
namespace Go.Proofs.YtjnoaidceddpjaaDoor
open Go.RowKit Go.Extern.Stop Go.Stop Go.Extern

theorem Sents.below {w w' : World} {a : Nat → Addr} (S : Sents w a) (h : Below w.heap.size w w') : Sents w' a := S.of_below h
set_option maxRecDepth 100000 in
set_option maxHeartbeats 1000000 in
theorem add_busy (t most : Nat) (l : List (Int × Int)) (v : Value) (line kind : Int) (w : World) (a : Nat → Addr) (S : Sents w a) (h : TabAt w t most l v) (hr : Rising l) (h1 : 0 ≤ line) (h2 : line < 32) (h3 : 1 ≤ kind) (h4 : kind ≤ 4) (hh : has line l = true) :
    Calls Tryd.prog 35 #[.pointer (some ⟨t, 0, none⟩), .int .i64 line, .int .i64 kind] w fun e w' => e = .returned (sayAdd line (a 7)) ∧ Below w.heap.size w w' := by
  have HS := Lib.hid S
  have hat := at_is t most l v line w h hr h1 h2
  rw [hh] at hat
  have Hat := Lib.hid hat
  clear h hr hh hat S
  unfold sayAdd
  go_enter Tryd.func35, Tryd.ntmps35
  go_wp2_with fail
  refine (Hat.out).mono ?_
  rintro e w1 ⟨rfl, hb⟩
  have hb' := Lib.hid hb
  have g7 := (HS.out.of_below hb).c7
  clear hb
  go_wp2_with fail
  refine (wrap_some _ line _ _ _).mono ?_
  rintro e w2 ⟨rfl, hb2⟩
  have hb2' := Lib.hid hb2
  clear hb2
  go_wp2
  go_ret
  exact ⟨rfl, hb'.out.trans (hb2'.out.mono hb'.out.size)⟩
end Go.Proofs.YtjnoaidceddpjaaDoor
