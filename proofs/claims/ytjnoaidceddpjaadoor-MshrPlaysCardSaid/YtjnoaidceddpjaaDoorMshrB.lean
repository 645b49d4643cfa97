/- The table of misses (package mshr): New, List. -/
import Derived.Test.YtjnoaidceddpjaaDoorMshr
import Derived.WalkSpells
namespace Go.Proofs.YtjnoaidceddpjaaDoor
open Go.RowKit Go.Extern.Stop Go.Stop Go.Extern

set_option maxRecDepth 100000 in
set_option maxHeartbeats 1000000 in
theorem newTab_ok (most : Nat) (w : World) (h1 : 1 ≤ most) (h2 : most ≤ 8) :
    Calls Tryd.prog 34 #[.int .i64 most] w fun e w' => e = .returned (.tuple #[.pointer (some ⟨w.heap.size, 0, none⟩), .nilIface]) ∧ TabAt w' w.heap.size most [] (.slice none 0 0) ∧ Below w.heap.size w w' := by
  go_enter Tryd.func34, Tryd.ntmps34
  go_wp2
  go_ret2
  refine ⟨rfl, ⟨heap_alloc_new _ _, World.ownsRow_nil _ _ _ _, by simp [Value.ownBlock], by simp⟩, (Below.refl _ _).alloc (Nat.le_refl _) _⟩
set_option maxRecDepth 100000 in
set_option maxHeartbeats 1000000 in
theorem newTab_no (most : Int) (w : World) (a : Nat → Addr) (S : Sents w a) (h : most < 1 ∨ 8 < most) :
    Calls Tryd.prog 34 #[.int .i64 most] w fun e w' => e = .returned (.tuple #[.pointer none, .iface 111 (.agg #[.string ⟨#[109, 115, 104, 114, 46, 78, 101, 119]⟩, .int .i64 most, .iface 165 (.pointer (some (a 1)))])]) ∧ Below w.heap.size w w' := by
  have g1 := S.c1
  rcases h with h | h
  all_goals
    go_enter Tryd.func34, Tryd.ntmps34
    go_wp2_with fail
    refine (wrap_some _ most _ _ _).mono ?_
    rintro e w1 ⟨rfl, hb⟩
    have hb' := Lib.hid hb
    clear hb
    go_wp2
    go_ret2
    exact ⟨rfl, hb'.out⟩
theorem MissRow.of_owns {w : World} {v : Value} {l : List (Int × Int)} {base : Nat} (h : w.ownsRow base 91 2 v l.length (missCells l)) : MissRow w v l := by
  refine ⟨h.1, ?_⟩
  rcases h.2 with hn | ⟨g, cap, cur, hv, hb, rest⟩
  · exact .inl hn
  · exact .inr ⟨g, cap, cur, hv, Nat.zero_le _, rest⟩
theorem Tryd.infoMiss : (Tryd.prog.info? 91).map (fun i => (i.zero, i.size, i.bytes)) = some (some (.agg #[.int .i64 0, .int .i64 0]), 2, 16) := by kernel_rfl
set_option maxRecDepth 100000 in
set_option maxHeartbeats 1000000 in
theorem cloneMiss (v : Value) (l : List (Int × Int)) (w : World) (h : MissRow w v l) (hfew : l.length ≤ 1000) :
    Calls Tryd.prog 65 #[v] w fun e w' => ∃ v', e = .returned v' ∧ MissRow w' v' l ∧ (∀ k, v'.ownBlock = some k → w.heap.size ≤ k) ∧ Below w.heap.size w w' := by
  rcases h.cells with ⟨rfl, rfl⟩ | ⟨g, cap, rfl, hc⟩
  · have hq := fun w : World => Lib.run_eql_slice_nil (P := Tryd.prog) w 76 91 none 0 0 0 0 Tryd.underlying76
    go_enter Tryd.func65, Tryd.ntmps65
    go_wp2
    go_ret
    exact ⟨_, rfl, World.ownsRow_nil _ _ _ _, by simp [Value.ownBlock], Below.refl _ _⟩
  · have hq := fun w : World => Lib.run_eql_slice_nil (P := Tryd.prog) w 76 91 (some ⟨g, 0, none⟩) l.length cap 0 0 Tryd.underlying76
    obtain ⟨i0, hi, hz0, hz1, hz2⟩ := info_parts Tryd.infoMiss
    have hn : ∀ j u, (missCells l)[j]? = some u → (w.alloc (.cells #[] 91)).cell? ((⟨g, 0, none⟩ : Addr).add j) = some u := by
      intro j u hu
      have := (World.ownsRow.cells h (g := g) rfl j u hu)
      rw [World.cell?_alloc_lt _ _ _ (by have := cell_lt this; simpa [Addr.add] using this)]; exact this
    have hone : ∀ u ∈ missCells l, u.oneCell' = true := by
      intro u hu
      simp only [missCells, List.mem_flatMap] at hu
      obtain ⟨m, _, hm⟩ := hu
      simp at hm
      rcases hm with rfl | rfl <;> rfl
    have hown := World.ownsRow_made (base := w.heap.size) (e := 91) (size := 2) w #[] 0 (Nat.le_refl _) (by unfold maxLen; omega) (by simp)
    have hlen := missCells_length l
    have Hn := Lib.hid hn
    have Ho := Lib.hid hone
    have Hw := Lib.hid hown
    have Hl := Lib.hid hlen
    clear hn hone hown hc h hlen
    go_enter Tryd.func65, Tryd.ntmps65
    go_wp2_with (at_builtin; refine wpList_append_own _ rfl (.tmp 5) (.tmp 6) 76 rfl w.heap.size 91 i0 (.agg #[.int .i64 0, .int .i64 0]) 2 16 Tryd.underlying76 hi hz0 hz1 hz2 rfl (by decide) _ 0 [] rfl Hw.out ⟨g, 0, none⟩ l.length cap (missCells l) rfl Hl.out Hn.out Ho.out (by unfold maxLen; omega) (by omega) (by simp) ?_; intro v' w1 hown' hgrow _; have Hown := Lib.hid hown'; have Hg := Lib.hid hgrow; clear hown' hgrow)
    go_ret
    have hrow := Hown.out
    rw [Nat.zero_add, List.nil_append] at hrow
    exact ⟨v', rfl, MissRow.of_owns hrow, fun k hk => (hrow.lt k hk).1, (((Below.refl _ _).alloc (Nat.le_refl _) _).grown (row := some w.heap.size) Hg.out (by simp) (by intro k hk; simp at hk; omega))⟩
end Go.Proofs.YtjnoaidceddpjaaDoor
