/- The table of misses (package mshr): Add. -/
import Derived.Test.YtjnoaidceddpjaaDoorMshrH
namespace Go.Proofs.YtjnoaidceddpjaaDoor
open Go.RowKit Go.Extern.Stop Go.Stop Go.Extern

def sayAdd (line : Int) (a : Addr) : Value := .iface 111 (.agg #[.string ⟨#[109, 115, 104, 114, 46, 65, 100, 100]⟩, .int .i64 line, .iface 165 (.pointer (some a))])
set_option maxRecDepth 100000 in
set_option maxHeartbeats 1000000 in
theorem add_arg (t : Nat) (line kind : Int) (w : World) (a : Nat → Addr) (S : Sents w a) (h : line < 0 ∨ 32 ≤ line ∨ kind < 1 ∨ 4 < kind) :
    Calls Tryd.prog 35 #[.pointer (some ⟨t, 0, none⟩), .int .i64 line, .int .i64 kind] w fun e w' => e = .returned (sayAdd line (a 1)) ∧ Below w.heap.size w w' := by
  have g1 := S.c1
  unfold sayAdd
  by_cases h1 : line < 0
  · go_enter Tryd.func35, Tryd.ntmps35
    go_wp2_with fail
    refine (wrap_some _ line _ _ _).mono ?_
    rintro e w1 ⟨rfl, hb⟩
    have hb' := Lib.hid hb
    clear hb
    go_wp2
    go_ret
    exact ⟨rfl, hb'.out⟩
  · have h1' : 0 ≤ line := by omega
    by_cases h2 : 32 ≤ line
    · go_enter Tryd.func35, Tryd.ntmps35
      go_wp2_with fail
      refine (wrap_some _ line _ _ _).mono ?_
      rintro e w1 ⟨rfl, hb⟩
      have hb' := Lib.hid hb
      clear hb
      go_wp2
      go_ret
      exact ⟨rfl, hb'.out⟩
    · have h2' : line < 32 := by omega
      by_cases h3 : kind < 1
      · go_enter Tryd.func35, Tryd.ntmps35
        go_wp2_with fail
        refine (wrap_some _ line _ _ _).mono ?_
        rintro e w1 ⟨rfl, hb⟩
        have hb' := Lib.hid hb
        clear hb
        go_wp2
        go_ret
        exact ⟨rfl, hb'.out⟩
      · have h3' : 1 ≤ kind := by omega
        have h4 : 4 < kind := by omega
        go_enter Tryd.func35, Tryd.ntmps35
        go_wp2_with fail
        refine (wrap_some _ line _ _ _).mono ?_
        rintro e w1 ⟨rfl, hb⟩
        have hb' := Lib.hid hb
        clear hb
        go_wp2
        go_ret
        exact ⟨rfl, hb'.out⟩
end Go.Proofs.YtjnoaidceddpjaaDoor
