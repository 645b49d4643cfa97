/- Same, over two rows of misses. -/
import Derived.Test.YtjnoaidceddpjaaDoorMshrF
import Derived.Test.YtjnoaidceddpjaaDoorBook
namespace Go.Proofs.YtjnoaidceddpjaaDoor
open Go.RowKit Go.Extern.Stop Go.Stop Go.Extern

/-- Do two rows agree from the place i on? -/
theorem eq_at {l1 l2 : List (Int × Int)} (_h : l1.length = l2.length) : ∀ (i : Nat), i < l1.length → ∀ m1 m2, l1[i]? = some m1 → l2[i]? = some m2 → (l1.drop i = l2.drop i ↔ m1 = m2 ∧ l1.drop (i + 1) = l2.drop (i + 1)) := by
  intro i hi m1 m2 h1 h2
  have e1 := (List.getElem?_eq_some_iff.1 h1)
  have e2 := (List.getElem?_eq_some_iff.1 h2)
  rw [List.drop_eq_getElem_cons e1.1, List.drop_eq_getElem_cons e2.1, e1.2, e2.2]
  simp
theorem beq_pair (x y u v : Int) : ((x == u) && (y == v)) = decide ((x, y) = (u, v)) := by
  by_cases h1 : x = u <;> by_cases h2 : y = v <;> simp [h1, h2]
set_option maxRecDepth 100000 in
set_option maxHeartbeats 2000000 in
theorem sameMiss (v1 v2 : Value) (l1 l2 : List (Int × Int)) (w : World) (h1 : MissRow w v1 l1) (h2 : MissRow w v2 l2) (few : l1.length ≤ 1000) (few2 : l2.length ≤ 1000) :
    Calls Tryd.prog 45 #[v1, v2] w fun e w' => e = .returned (.bool (decide (l1 = l2))) ∧ Below w.heap.size w w' := by
  by_cases hlen : l1.length = l2.length
  · rcases h1.cells with ⟨rfl, rfl⟩ | ⟨g1, c1, rfl, d1⟩
    · have : l2 = [] := List.length_eq_zero_iff.1 (by simpa using hlen.symm)
      subst this
      rcases h2.cells with ⟨rfl, -⟩ | ⟨g2, c2, rfl, -⟩
      all_goals
        clear h1 h2
        go_enter Tryd.func45, Tryd.ntmps45
        go_wp2
        refine wp_loop_rounds 1 ?_
        rw [rounds_succ]
        go_wp2
        go_ret
        exact ⟨by simp, Below.refl _ _⟩
    · rcases h2.cells with ⟨rfl, rfl⟩ | ⟨g2, c2, rfl, d2⟩
      · have : l1 = [] := List.length_eq_zero_iff.1 (by simpa using hlen)
        subst this
        clear h1 h2 d1
        go_enter Tryd.func45, Tryd.ntmps45
        go_wp2
        refine wp_loop_rounds 1 ?_
        rw [rounds_succ]
        go_wp2
        go_ret
        exact ⟨by simp, Below.refl _ _⟩
      · have hE := Lib.hid (eq_at hlen)
        generalize hn : l1.length = n at *
        have hn2 : l2.length = n := hlen.symm
        have HN1 := Lib.hid hn
        have HN2 := Lib.hid hn2
        rw [← hlen]
        have D1 := Lib.hid d1
        have D2 := Lib.hid d2
        clear h1 h2 d1 d2 hn hn2 hlen few2
        go_enter Tryd.func45, Tryd.ntmps45
        go_wp2
        go_loopw [5] (fun v wr => ∃ i : Nat, i ≤ n ∧ v = .int .i64 i ∧ Hid (l1 = l2 ↔ l1.drop i = l2.drop i) ∧ Hid (Below w.heap.size w wr)) (fun v _ => n - (intOf v).toNat)
        case atStart => exact ⟨0, by omega, rfl, by simp [Hid], Below.refl _ _⟩
        case round =>
          obtain ⟨i, hi, rfl, hp, hbel⟩ := hrel
          by_cases hlt : i < n
          · obtain ⟨⟨x, y⟩, hxy⟩ : ∃ m, l1[i]? = some m := ⟨_, List.getElem?_eq_getElem (by rw [HN1.out]; exact hlt)⟩
            obtain ⟨⟨x', y'⟩, hxy'⟩ : ∃ m, l2[i]? = some m := ⟨_, List.getElem?_eq_getElem (by rw [HN2.out]; exact hlt)⟩
            have hst := Lib.hid (hE.out i hlt _ _ hxy hxy')
            obtain ⟨d0, d1⟩ := D1.out i _ hxy
            obtain ⟨f0, f1⟩ := D2.out i _ hxy'
            have e0 := (hbel.out.cell (cell_lt d0)).trans d0
            have e1 := (hbel.out.cell (cell_lt d1)).trans d1
            have e2 := (hbel.out.cell (cell_lt f0)).trans f0
            have e3 := (hbel.out.cell (cell_lt f1)).trans f1
            clear hxy hxy' d0 d1 f0 f1
            by_cases hx : x = x' ∧ y = y'
            · obtain ⟨rfl, rfl⟩ := hx
              go_wp2_with fail
              go_quiet (fail)
              go_wp2_with fail
              go_roundw
              case rel => exact ⟨i + 1, by omega, by go_num, hp.out.trans (hst.out.trans (by simp)), hbel.out.trans (below_drewN _ _ _)⟩
              case measure => simp [intOf]; omega
            · by_cases hxx : x = x'
              · subst hxx
                have hyy : ¬ y = y' := fun e => hx ⟨rfl, e⟩
                have hy' : (y == y') = false := by simpa using hyy
                have hno : decide (l1 = l2) = false := by simpa using fun e => hyy (by have := (hst.out.1 (hp.out.1 e)).1; simpa using this)
                have HNO := Lib.hid hno
                clear hx hno
                go_wp2_with fail
                go_quiet (fail)
                go_wp2_with fail
                go_ret
                exact ⟨by rw [HNO.out]; rfl, hbel.out.trans (below_drewN _ _ _)⟩
              · have hx' : (x == x') = false := by simpa using hxx
                have hno : decide (l1 = l2) = false := by simpa using fun e => hxx (by have := (hst.out.1 (hp.out.1 e)).1; simp at this; exact this.1)
                have HNO := Lib.hid hno
                clear hx hno
                go_wp2_with fail
                go_quiet (fail)
                go_wp2_with fail
                go_ret
                exact ⟨by rw [HNO.out]; rfl, hbel.out.trans (below_drewN _ _ _)⟩
          · have hi' : i = n := by omega
            have hyes : decide (l1 = l2) = true := by
              rw [decide_eq_true_eq, hp.out, List.drop_of_length_le (by rw [HN1.out]; omega), List.drop_of_length_le (by rw [HN2.out]; omega)]
            have HY := Lib.hid hyes
            clear hyes
            subst hi'
            go_wp2_with fail
            go_ret
            exact ⟨by rw [HY.out]; rfl, hbel.out⟩
  · have hno : decide (l1 = l2) = false := by simpa using fun e => hlen (by rw [e])
    rw [hno]
    rcases h1.cells with ⟨rfl, rfl⟩ | ⟨g1, c1, rfl, d1⟩
    · rcases h2.cells with ⟨rfl, rfl⟩ | ⟨g2, c2, rfl, -⟩
      · simp at hlen
      · clear h1 h2 hno
        have hz : ¬ l2.length = 0 := fun e => hlen (by simp [e])
        generalize l2.length = m at *
        go_enter Tryd.func45, Tryd.ntmps45
        go_wp2
        go_ret
        exact ⟨rfl, Below.refl _ _⟩
    · rcases h2.cells with ⟨rfl, rfl⟩ | ⟨g2, c2, rfl, -⟩
      · clear h1 h2 hno d1
        have hz : ¬ l1.length = 0 := fun e => hlen (by simp [e])
        generalize l1.length = m at *
        go_enter Tryd.func45, Tryd.ntmps45
        go_wp2
        go_ret
        exact ⟨rfl, Below.refl _ _⟩
      · clear h1 h2 hno d1
        generalize l1.length = m at *
        generalize l2.length = k at *
        go_enter Tryd.func45, Tryd.ntmps45
        go_wp2
        go_ret
        exact ⟨rfl, Below.refl _ _⟩
end Go.Proofs.YtjnoaidceddpjaaDoor
