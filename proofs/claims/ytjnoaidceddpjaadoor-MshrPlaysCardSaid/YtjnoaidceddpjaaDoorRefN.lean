/- The reference's table of misses: Add where there is room, Drop. -/
import Derived.Test.YtjnoaidceddpjaaDoorRefM
namespace Go.Proofs.YtjnoaidceddpjaaDoor
open Go.RowKit Go.Extern.Stop Go.Stop Go.Extern

set_option maxRecDepth 100000 in
set_option maxHeartbeats 8000000 in
theorem raddM_in (r most : Nat) (l : List (Int × Int)) (v : Value) (line kind : Int) (w : World) (h : RefM w r most l v) (h1 : 0 ≤ line) (h2 : line < 32) (h3 : 1 ≤ kind) (h4 : kind ≤ 4) (hr : Rising l) (hh : has line l = false) (hf : ¬ most ≤ l.length) (hm : most ≤ 8) :
    Calls Tryd.prog 41 #[.pointer (some ⟨r, 0, none⟩), .int .i64 line, .int .i64 kind] w fun e w' => e = .returned (.int .i64 0) ∧ ∃ v', RefM w' r most (l.take (lbOf line l) ++ (line, kind) :: l.drop (lbOf line l)) v' ∧ (∃ q, v'.ownBlock = some q ∧ w.heap.size ≤ q) ∧ Turned (fun q => q = r) w w' := by
  have c0 := h.c0
  have c1 := h.c1
  have few := h.few
  have f0 : ¬ line < 0 := by omega
  have f1 : ¬ 32 ≤ line := by omega
  have f2 : ¬ kind < 1 := by omega
  have f3 : ¬ 4 < kind := by omega
  have hlb := lb_le line l
  rcases h.row.cells with ⟨rfl, rfl⟩ | ⟨g, cap, rfl, hg, hlc, hc⟩
  · have HM := Lib.hid h
    have hm1 : ¬ (most : Int) ≤ 0 := by simp at hf; omega
    have hm2 : ¬ most = 0 := by simpa using hf
    have hlow := hlb
    clear h hr hh hf hlb
    go_enter Tryd.func41, Tryd.ntmps41
    go_wp2_with fail
    refine wp_loop_rounds 1 ?_
    rw [rounds_succ]
    go_wp2_with fail
    go_quiet (fail)
    have hbel : Hid (Below w.heap.size w (w.drewN nq)) := below_drewN _ _ _
    generalize w.drewN nq = wr at *
    have er := (hbel.out.cell (cell_lt c1)).trans c1
    go_wp2_with fail
    refine wp_loop_rounds 1 ?_
    rw [rounds_succ]
    go_upto_region 14 with fail
    have HB : Hid (Below w.heap.size w wr.drew) := hbel.out.drew
    obtain ⟨i0, hi, hzz⟩ := Option.map_eq_some_iff.1 Tryd.infoRMiss
    have hz0 : i0.zero = some (.agg #[.int .i64 0, .int .i64 0]) := congrArg Prod.fst hzz
    have hz1 : i0.size = 2 := congrArg (fun z => z.2.1) hzz
    have hz2 : i0.bytes = 16 := congrArg (fun z => z.2.2) hzz
    clear hzz
    clear hbel er
    refine wp_region_G 23 (fun W => W.cell? ⟨r, 1, none⟩ = some (.slice none 0 0)) (by kernel_rfl) ?_
    generalize wr.drew = W0 at *
    refine WalkG.take (i := 0) (v := ?_) rfl (by kernel_rfl) (fun _ _ _ h => h) (Or.inl ⟨by rfl, ?_⟩) (held_of HB.out c1) ?_
    rotate_left
    · intro W hSW
      (try dsimp only at hSW)
      go_simp
      try (with_reducible rfl)
    try simp only [Act.put, List.setIfInBounds_toArray]
    refine WalkG.take (i := 2) (v := ?_) rfl (by kernel_rfl) (fun _ _ _ h => h) (Or.inl ⟨by rfl, ?_⟩) (held_of HB.out c1) ?_
    rotate_left
    · intro W hSW
      (try dsimp only at hSW)
      go_simp
      try (with_reducible rfl)
    try simp only [Act.put]
    refine WalkG.take (i := 3) (v := ?_) rfl (by kernel_rfl) (fun _ _ _ h => h) (Or.inl ⟨by rfl, ?_⟩) (held_of HB.out c1) ?_
    rotate_left
    · intro W hSW
      (try dsimp only at hSW)
      go_simp
      try (with_reducible rfl)
    try simp only [Act.put]
    refine WalkG.take (i := 4) (v := ?_) rfl (by kernel_rfl) (fun _ _ _ h => h) (Or.inl ⟨by rfl, ?_⟩) (held_of HB.out c1) ?_
    rotate_left
    · intro W hSW
      (try dsimp only at hSW)
      go_simp
      try (with_reducible rfl)
    try simp only [Act.put]
    refine WalkG.take (i := 5) (v := ?_) rfl (by kernel_rfl) (fun _ _ _ h => h) (Or.inl ⟨by rfl, ?_⟩) (held_of HB.out c1) ?_
    rotate_left
    · intro W hSW
      (try dsimp only at hSW)
      go_simp
      try (with_reducible rfl)
    try simp only [Act.put]
    refine WalkG.take (i := 6) (v := ?_) rfl (by kernel_rfl) (fun _ _ _ h => h) (Or.inl ⟨by rfl, ?_⟩) (held_of HB.out c1) ?_
    rotate_left
    · intro W hSW
      (try dsimp only at hSW)
      go_simp
      try (with_reducible rfl)
    try simp only [Act.put]
    refine WalkG.take (i := 7) (v := ?_) rfl (by kernel_rfl) (fun _ _ _ h => h) (Or.inl ⟨by rfl, ?_⟩) (held_of HB.out c1) ?_
    rotate_left
    · intro W hSW
      (try dsimp only at hSW)
      go_simp
      try (with_reducible rfl)
    try simp only [Act.put]
    refine WalkG.take (i := 9) (v := ?_) rfl (by kernel_rfl) (fun _ _ _ h => h) (Or.inl ⟨by rfl, ?_⟩) (held_of HB.out c1) ?_
    rotate_left
    · intro W hSW
      (try dsimp only at hSW)
      go_simp
      try (with_reducible rfl)
    try simp only [Act.put]
    refine WalkG.take (i := 10) (v := ?_) rfl (by kernel_rfl) (fun _ _ _ h => h) (Or.inl ⟨by rfl, ?_⟩) (held_of HB.out c1) ?_
    rotate_left
    · intro W hSW
      (try dsimp only at hSW)
      go_simp
      try (with_reducible rfl)
    try simp only [Act.put]
    refine WalkG.take (i := 11) (v := ?_) rfl (by kernel_rfl) (fun _ _ _ h => h) (Or.inl ⟨by rfl, ?_⟩) (held_of HB.out c1) ?_
    rotate_left
    · intro W hSW
      (try dsimp only at hSW)
      go_simp
      try (with_reducible rfl)
    try simp only [Act.put]
    refine WalkG.take (i := 14) (v := ?_) rfl (by kernel_rfl) (fun _ _ _ h => h) (Or.inl ⟨by rfl, ?_⟩) (held_of HB.out c1) ?_
    rotate_left
    · intro W hSW
      (try dsimp only at hSW)
      go_simp
      try (with_reducible rfl)
    try simp only [Act.put]
    refine WalkG.take (i := 15) (v := ?_) rfl (by kernel_rfl) (fun _ _ _ h => h) (Or.inl ⟨by rfl, ?_⟩) (held_of HB.out c1) ?_
    rotate_left
    · intro W hSW
      (try dsimp only at hSW)
      go_simp
      try (with_reducible rfl)
    try simp only [Act.put]
    refine WalkG.take (i := 16) (v := ?_) rfl (by kernel_rfl) (fun _ _ _ h => h) (Or.inl ⟨by rfl, ?_⟩) (held_of HB.out c1) ?_
    rotate_left
    · intro W hSW
      (try dsimp only at hSW)
      go_simp
      try (with_reducible rfl)
    try simp only [Act.put]
    refine WalkG.take (i := 17) (v := ?_) rfl (by kernel_rfl) (fun _ _ _ h => h) (Or.inl ⟨by rfl, ?_⟩) (held_of HB.out c1) ?_
    rotate_left
    · intro W hSW
      (try dsimp only at hSW)
      go_simp
      try (with_reducible rfl)
    try simp only [Act.put]
    refine WalkG.take (i := 18) (v := ?_) rfl (by kernel_rfl) (fun _ _ _ h => h) (Or.inl ⟨by rfl, ?_⟩) (held_of HB.out c1) ?_
    rotate_left
    · intro W hSW
      (try dsimp only at hSW)
      go_simp
      try (with_reducible rfl)
    try simp only [Act.put]
    refine WalkG.take (i := 19) (v := ?_) rfl (by kernel_rfl) (fun _ _ _ h => h) (Or.inl ⟨by rfl, ?_⟩) (held_of HB.out c1) ?_
    rotate_left
    · intro W hSW
      (try dsimp only at hSW)
      go_simp
      try (with_reducible rfl)
    try simp only [Act.put]
    refine WalkG.all (rs := [1, 12]) (by kernel_rfl) ⟨by simp, by simp⟩ ?_
    refine ReadyG.cons rfl (fun K hK => ?_) ?_
    · go_simp
      have HB1 : Hid (Below w.heap.size w (W0.alloc (.cells #[] 90))) := HB.out.alloc HB.out.size _
      refine hK.out _ _ (held_of HB1.out c1) (fun _ => ?_)
      clear hK K
      try simp only [Act.put, List.setIfInBounds_toArray, List.set_cons_zero, List.set_cons_succ]
      have HO1 : Hid ((W0.alloc (.cells #[] 90)).ownsRow w.heap.size 90 2 (.slice (some ⟨W0.heap.size, 0, none⟩) 0 0) 0 []) := ⟨rfl, .inr ⟨_, _, _, rfl, HB.out.size, heap_alloc_new _ _, Nat.le_refl _, Nat.zero_le _, rfl, rfl⟩⟩
      clear HB
      generalize W0.alloc (.cells #[] 90) = W1 at *
      generalize Value.slice (some ⟨W0.heap.size, 0, none⟩) 0 0 = v1 at *
      refine WalkG.all (rs := [8, 12]) (by kernel_rfl) ⟨by simp, by simp⟩ ?_
      refine ReadyG.cons rfl (fun K hK => ?_) ?_
      · refine step_append_nil rfl (.tmp 70) (.tmp 76) 86 rfl w.heap.size 90 i0 2 Tryd.underlying86 hi v1 (0) ([]) rfl HO1.out rfl ?_
        refine hK.out _ _ (held_of HB1.out c1) (fun _ => ?_)
        clear hK K
        try simp only [Act.put, List.setIfInBounds_toArray]
        refine WalkG.all (rs := [12]) (by kernel_rfl) ⟨by simp, by simp⟩ ?_
        refine ReadyG.cons rfl (fun K hK => ?_) ?_
        · go_simp
          have HB3 : Hid (Below w.heap.size w (W1.alloc (.cells #[.int .i64 line, .int .i64 kind] 90))) := HB1.out.alloc HB1.out.size _
          refine hK.out _ _ (held_of HB3.out c1) (fun _ => ?_)
          clear hK K
          try simp only [Act.put, List.setIfInBounds_toArray, List.set_cons_zero, List.set_cons_succ]
          have HO3 := Lib.hid (owns_below HO1.out ((Below.refl _ _).alloc (Nat.le_refl _) (.cells #[.int .i64 line, .int .i64 kind] 90)))
          have HE3 : Hid (v1.ownBlock ≠ some W1.heap.size) := fun e => absurd (owns_lt HO1.out e) (Nat.lt_irrefl _)
          have HN3 : Hid ((W1.alloc (.cells #[.int .i64 line, .int .i64 kind] 90)).heap[W1.heap.size]? = some (.cells #[.int .i64 line, .int .i64 kind] 90 (0, 0))) := heap_alloc_new _ _
          clear HB1 HO1
          generalize W1.alloc (.cells #[.int .i64 line, .int .i64 kind] 90) = W3 at *
          generalize W1.heap.size = b3 at *
          refine WalkG.all (rs := [13]) (by kernel_rfl) ⟨by simp, by simp⟩ ?_
          refine ReadyG.cons rfl (fun K hK => ?_) ?_
          · refine step_append_own rfl (.tmp 77) (.tmp 81) 86 rfl w.heap.size 90 i0 (.agg #[.int .i64 0, .int .i64 0]) 2 16 Tryd.underlying86 hi hz0 hz1 hz2 rfl (by decide) v1 (0) ([]) rfl HO3.out ⟨b3, 0, none⟩ (1) (1) ([.int .i64 line, .int .i64 kind]) rfl rfl (fun j u hu => by rw [Addr.add_lit, Nat.zero_add]; simp only [World.cell?, HN3.out]; simpa using hu) (by simp [Value.oneCell']) (by unfold maxLen; omega) (by omega) HB3.out.size ?_
            intro v4 W4 hO hG ho
            have HB4 : Hid (Below w.heap.size w W4) := below_grown HB3.out hG HB3.out.size (own_ge HO3.out)
            have HO4 := Lib.hid hO
            have HN4 := Lib.hid (grown_keep hG HN3.out HE3.out)
            have HE4 := Lib.hid (own_ne_after ho HE3.out (lt_of_heap HN3.out))
            refine hK.out _ _ (held_of HB4.out c1) (fun _ => ?_)
            clear hK K hO hG ho HB3 HO3 HN3 HE3
            try simp only [Act.put, List.setIfInBounds_toArray]
            refine WalkG.all (rs := [20]) (by kernel_rfl) ⟨by simp, by simp⟩ ?_
            refine ReadyG.cons rfl (fun K hK => ?_) ?_
            · refine step_append_nil rfl (.tmp 82) (.tmp 88) 86 rfl w.heap.size 90 i0 2 Tryd.underlying86 hi v4 (0 + 1) ([] ++ [.int .i64 line, .int .i64 kind]) rfl HO4.out rfl ?_
              refine hK.out _ _ (held_of HB4.out c1) (fun _ => ?_)
              clear hK K
              try simp only [Act.put]
              refine WalkG.take (i := 21) (v := ?_) rfl (by kernel_rfl) (fun _ _ _ h => h) (Or.inl ⟨by rfl, ?_⟩) (held_of HB4.out c1) ?_
              rotate_left
              · intro W hSW
                (try dsimp only at hSW)
                go_simp
                try (with_reducible rfl)
              try simp only [Act.put]
              refine WalkG.take (i := 22) (v := ?_) rfl (by kernel_rfl) (fun _ _ _ h => h) (Or.inl ⟨by rfl, ?_⟩) (held_of HB4.out c1) ?_
              rotate_left
              · intro W hSW
                (try dsimp only at hSW)
                go_simp
                try (with_reducible rfl)
              try simp only [Act.put]
              obtain ⟨G, cp, rfl, hG⟩ : ∃ G cp, v4 = .slice (some ⟨G, 0, none⟩) (0 + 1) cp ∧ w.heap.size ≤ G := by
                rcases HO4.out.2 with ⟨_, h⟩ | ⟨G, cp, cur, h, h2, -⟩
                · omega
                · exact ⟨G, cp, h, h2⟩
              have hfz : W4.frozen? ⟨r, 1, none⟩ = false := nofreeze ((HB4.out.block r (lt_of_heap HM.out.box)).trans HM.out.box)
              have hcr := held_of HB4.out c1
              have HX := Lib.hid ((HB4.out.block r (lt_of_heap HM.out.box)).trans HM.out.box)
              refine WalkG.last rfl (by kernel_rfl) (by kernel_rfl) (fun K hK => ?_)
              go_simp
              refine hK.out _ _ ?_
              clear hK K hfz hcr
              go_wp2
              go_ret
              have hrl := lt_of_heap HM.out.box
              refine ⟨rfl, _, ⟨by simpa using heap_setCell (o := 1) HX.out _, RRow.of_owns (base := w.heap.size) (owns_of_block HO4.out fun q hq => Below.heap_setCell _ _ _ _ (by simp only [Value.ownBlock, Option.some.injEq] at hq; simp only; omega)) (by simp) (by simp [missCells]), by simp only [Value.ownBlock, ne_eq, Option.some.injEq]; omega, by simp <;> omega⟩, ⟨G, rfl, hG⟩, (Turned.of_below (S := fun q => q = r) HB4.out).setCell (p := ⟨r, 1, none⟩) (.inl rfl) _⟩
            exact ReadyG.nil
          exact ReadyG.nil
        exact ReadyG.nil
      refine ReadyG.cons rfl (fun K hK => ?_) ?_
      · go_simp
        have HB6 : Hid (Below w.heap.size w (W1.alloc (.cells #[.int .i64 line, .int .i64 kind] 90))) := HB1.out.alloc HB1.out.size _
        refine hK.out _ _ (held_of HB6.out c1) (fun _ => ?_)
        clear hK K
        try simp only [Act.put, List.setIfInBounds_toArray, List.set_cons_zero, List.set_cons_succ]
        have HO6 := Lib.hid (owns_below HO1.out ((Below.refl _ _).alloc (Nat.le_refl _) (.cells #[.int .i64 line, .int .i64 kind] 90)))
        have HE6 : Hid (v1.ownBlock ≠ some W1.heap.size) := fun e => absurd (owns_lt HO1.out e) (Nat.lt_irrefl _)
        have HN6 : Hid ((W1.alloc (.cells #[.int .i64 line, .int .i64 kind] 90)).heap[W1.heap.size]? = some (.cells #[.int .i64 line, .int .i64 kind] 90 (0, 0))) := heap_alloc_new _ _
        clear HB1 HO1
        generalize W1.alloc (.cells #[.int .i64 line, .int .i64 kind] 90) = W6 at *
        generalize W1.heap.size = b6 at *
        refine WalkG.all (rs := [8]) (by kernel_rfl) ⟨by simp, by simp⟩ ?_
        refine ReadyG.cons rfl (fun K hK => ?_) ?_
        · refine step_append_nil rfl (.tmp 70) (.tmp 76) 86 rfl w.heap.size 90 i0 2 Tryd.underlying86 hi v1 (0) ([]) rfl HO6.out rfl ?_
          refine hK.out _ _ (held_of HB6.out c1) (fun _ => ?_)
          clear hK K
          try simp only [Act.put, List.setIfInBounds_toArray]
          refine WalkG.all (rs := [13]) (by kernel_rfl) ⟨by simp, by simp⟩ ?_
          refine ReadyG.cons rfl (fun K hK => ?_) ?_
          · refine step_append_own rfl (.tmp 77) (.tmp 81) 86 rfl w.heap.size 90 i0 (.agg #[.int .i64 0, .int .i64 0]) 2 16 Tryd.underlying86 hi hz0 hz1 hz2 rfl (by decide) v1 (0) ([]) rfl HO6.out ⟨b6, 0, none⟩ (1) (1) ([.int .i64 line, .int .i64 kind]) rfl rfl (fun j u hu => by rw [Addr.add_lit, Nat.zero_add]; simp only [World.cell?, HN6.out]; simpa using hu) (by simp [Value.oneCell']) (by unfold maxLen; omega) (by omega) HB6.out.size ?_
            intro v8 W8 hO hG ho
            have HB8 : Hid (Below w.heap.size w W8) := below_grown HB6.out hG HB6.out.size (own_ge HO6.out)
            have HO8 := Lib.hid hO
            have HN8 := Lib.hid (grown_keep hG HN6.out HE6.out)
            have HE8 := Lib.hid (own_ne_after ho HE6.out (lt_of_heap HN6.out))
            refine hK.out _ _ (held_of HB8.out c1) (fun _ => ?_)
            clear hK K hO hG ho HB6 HO6 HN6 HE6
            try simp only [Act.put]
            refine WalkG.all (rs := [20]) (by kernel_rfl) ⟨by simp, by simp⟩ ?_
            refine ReadyG.cons rfl (fun K hK => ?_) ?_
            · refine step_append_nil rfl (.tmp 82) (.tmp 88) 86 rfl w.heap.size 90 i0 2 Tryd.underlying86 hi v8 (0 + 1) ([] ++ [.int .i64 line, .int .i64 kind]) rfl HO8.out rfl ?_
              refine hK.out _ _ (held_of HB8.out c1) (fun _ => ?_)
              clear hK K
              try simp only [Act.put]
              refine WalkG.take (i := 21) (v := ?_) rfl (by kernel_rfl) (fun _ _ _ h => h) (Or.inl ⟨by rfl, ?_⟩) (held_of HB8.out c1) ?_
              rotate_left
              · intro W hSW
                (try dsimp only at hSW)
                go_simp
                try (with_reducible rfl)
              try simp only [Act.put]
              refine WalkG.take (i := 22) (v := ?_) rfl (by kernel_rfl) (fun _ _ _ h => h) (Or.inl ⟨by rfl, ?_⟩) (held_of HB8.out c1) ?_
              rotate_left
              · intro W hSW
                (try dsimp only at hSW)
                go_simp
                try (with_reducible rfl)
              try simp only [Act.put]
              obtain ⟨G, cp, rfl, hG⟩ : ∃ G cp, v8 = .slice (some ⟨G, 0, none⟩) (0 + 1) cp ∧ w.heap.size ≤ G := by
                rcases HO8.out.2 with ⟨_, h⟩ | ⟨G, cp, cur, h, h2, -⟩
                · omega
                · exact ⟨G, cp, h, h2⟩
              have hfz : W8.frozen? ⟨r, 1, none⟩ = false := nofreeze ((HB8.out.block r (lt_of_heap HM.out.box)).trans HM.out.box)
              have hcr := held_of HB8.out c1
              have HX := Lib.hid ((HB8.out.block r (lt_of_heap HM.out.box)).trans HM.out.box)
              refine WalkG.last rfl (by kernel_rfl) (by kernel_rfl) (fun K hK => ?_)
              go_simp
              refine hK.out _ _ ?_
              clear hK K hfz hcr
              go_wp2
              go_ret
              have hrl := lt_of_heap HM.out.box
              refine ⟨rfl, _, ⟨by simpa using heap_setCell (o := 1) HX.out _, RRow.of_owns (base := w.heap.size) (owns_of_block HO8.out fun q hq => Below.heap_setCell _ _ _ _ (by simp only [Value.ownBlock, Option.some.injEq] at hq; simp only; omega)) (by simp) (by simp [missCells]), by simp only [Value.ownBlock, ne_eq, Option.some.injEq]; omega, by simp <;> omega⟩, ⟨G, rfl, hG⟩, (Turned.of_below (S := fun q => q = r) HB8.out).setCell (p := ⟨r, 1, none⟩) (.inl rfl) _⟩
            exact ReadyG.nil
          exact ReadyG.nil
        exact ReadyG.nil
      exact ReadyG.nil
    refine ReadyG.cons rfl (fun K hK => ?_) ?_
    · go_simp
      have HB10 : Hid (Below w.heap.size w (W0.alloc (.cells #[.int .i64 line, .int .i64 kind] 90))) := HB.out.alloc HB.out.size _
      refine hK.out _ _ (held_of HB10.out c1) (fun _ => ?_)
      clear hK K
      try simp only [Act.put, List.setIfInBounds_toArray, List.set_cons_zero, List.set_cons_succ]
      have HN10 : Hid ((W0.alloc (.cells #[.int .i64 line, .int .i64 kind] 90)).heap[W0.heap.size]? = some (.cells #[.int .i64 line, .int .i64 kind] 90 (0, 0))) := heap_alloc_new _ _
      clear HB
      generalize W0.alloc (.cells #[.int .i64 line, .int .i64 kind] 90) = W10 at *
      generalize W0.heap.size = b10 at *
      refine WalkG.all (rs := [1]) (by kernel_rfl) ⟨by simp, by simp⟩ ?_
      refine ReadyG.cons rfl (fun K hK => ?_) ?_
      · go_simp
        have HB11 : Hid (Below w.heap.size w (W10.alloc (.cells #[] 90))) := HB10.out.alloc HB10.out.size _
        refine hK.out _ _ (held_of HB11.out c1) (fun _ => ?_)
        clear hK K
        try simp only [Act.put, List.setIfInBounds_toArray, List.set_cons_zero, List.set_cons_succ]
        have HN11 : Hid ((W10.alloc (.cells #[] 90)).heap[b10]? = some (.cells #[.int .i64 line, .int .i64 kind] 90 (0, 0))) := (((Below.refl _ _).alloc (Nat.le_refl _) (.cells #[] 90)).block _ (lt_of_heap HN10.out)).trans HN10.out
        have HE11 : Hid ((Value.slice (some ⟨W10.heap.size, 0, none⟩) 0 0).ownBlock ≠ some b10) := fun e => by
          have e1 : W10.heap.size = b10 := by simpa [Value.ownBlock] using e
          have e2 := lt_of_heap HN10.out
          omega
        have HO11 : Hid ((W10.alloc (.cells #[] 90)).ownsRow w.heap.size 90 2 (.slice (some ⟨W10.heap.size, 0, none⟩) 0 0) 0 []) := ⟨rfl, .inr ⟨_, _, _, rfl, HB10.out.size, heap_alloc_new _ _, Nat.le_refl _, Nat.zero_le _, rfl, rfl⟩⟩
        clear HB10 HN10
        generalize W10.alloc (.cells #[] 90) = W11 at *
        generalize Value.slice (some ⟨W10.heap.size, 0, none⟩) 0 0 = v11 at *
        refine WalkG.all (rs := [8]) (by kernel_rfl) ⟨by simp, by simp⟩ ?_
        refine ReadyG.cons rfl (fun K hK => ?_) ?_
        · refine step_append_nil rfl (.tmp 70) (.tmp 76) 86 rfl w.heap.size 90 i0 2 Tryd.underlying86 hi v11 (0) ([]) rfl HO11.out rfl ?_
          refine hK.out _ _ (held_of HB11.out c1) (fun _ => ?_)
          clear hK K
          try simp only [Act.put, List.setIfInBounds_toArray]
          refine WalkG.all (rs := [13]) (by kernel_rfl) ⟨by simp, by simp⟩ ?_
          refine ReadyG.cons rfl (fun K hK => ?_) ?_
          · refine step_append_own rfl (.tmp 77) (.tmp 81) 86 rfl w.heap.size 90 i0 (.agg #[.int .i64 0, .int .i64 0]) 2 16 Tryd.underlying86 hi hz0 hz1 hz2 rfl (by decide) v11 (0) ([]) rfl HO11.out ⟨b10, 0, none⟩ (1) (1) ([.int .i64 line, .int .i64 kind]) rfl rfl (fun j u hu => by rw [Addr.add_lit, Nat.zero_add]; simp only [World.cell?, HN11.out]; simpa using hu) (by simp [Value.oneCell']) (by unfold maxLen; omega) (by omega) HB11.out.size ?_
            intro v13 W13 hO hG ho
            have HB13 : Hid (Below w.heap.size w W13) := below_grown HB11.out hG HB11.out.size (own_ge HO11.out)
            have HO13 := Lib.hid hO
            have HN13 := Lib.hid (grown_keep hG HN11.out HE11.out)
            have HE13 := Lib.hid (own_ne_after ho HE11.out (lt_of_heap HN11.out))
            refine hK.out _ _ (held_of HB13.out c1) (fun _ => ?_)
            clear hK K hO hG ho HB11 HO11 HN11 HE11
            try simp only [Act.put]
            refine WalkG.all (rs := [20]) (by kernel_rfl) ⟨by simp, by simp⟩ ?_
            refine ReadyG.cons rfl (fun K hK => ?_) ?_
            · refine step_append_nil rfl (.tmp 82) (.tmp 88) 86 rfl w.heap.size 90 i0 2 Tryd.underlying86 hi v13 (0 + 1) ([] ++ [.int .i64 line, .int .i64 kind]) rfl HO13.out rfl ?_
              refine hK.out _ _ (held_of HB13.out c1) (fun _ => ?_)
              clear hK K
              try simp only [Act.put]
              refine WalkG.take (i := 21) (v := ?_) rfl (by kernel_rfl) (fun _ _ _ h => h) (Or.inl ⟨by rfl, ?_⟩) (held_of HB13.out c1) ?_
              rotate_left
              · intro W hSW
                (try dsimp only at hSW)
                go_simp
                try (with_reducible rfl)
              try simp only [Act.put]
              refine WalkG.take (i := 22) (v := ?_) rfl (by kernel_rfl) (fun _ _ _ h => h) (Or.inl ⟨by rfl, ?_⟩) (held_of HB13.out c1) ?_
              rotate_left
              · intro W hSW
                (try dsimp only at hSW)
                go_simp
                try (with_reducible rfl)
              try simp only [Act.put]
              obtain ⟨G, cp, rfl, hG⟩ : ∃ G cp, v13 = .slice (some ⟨G, 0, none⟩) (0 + 1) cp ∧ w.heap.size ≤ G := by
                rcases HO13.out.2 with ⟨_, h⟩ | ⟨G, cp, cur, h, h2, -⟩
                · omega
                · exact ⟨G, cp, h, h2⟩
              have hfz : W13.frozen? ⟨r, 1, none⟩ = false := nofreeze ((HB13.out.block r (lt_of_heap HM.out.box)).trans HM.out.box)
              have hcr := held_of HB13.out c1
              have HX := Lib.hid ((HB13.out.block r (lt_of_heap HM.out.box)).trans HM.out.box)
              refine WalkG.last rfl (by kernel_rfl) (by kernel_rfl) (fun K hK => ?_)
              go_simp
              refine hK.out _ _ ?_
              clear hK K hfz hcr
              go_wp2
              go_ret
              have hrl := lt_of_heap HM.out.box
              refine ⟨rfl, _, ⟨by simpa using heap_setCell (o := 1) HX.out _, RRow.of_owns (base := w.heap.size) (owns_of_block HO13.out fun q hq => Below.heap_setCell _ _ _ _ (by simp only [Value.ownBlock, Option.some.injEq] at hq; simp only; omega)) (by simp) (by simp [missCells]), by simp only [Value.ownBlock, ne_eq, Option.some.injEq]; omega, by simp <;> omega⟩, ⟨G, rfl, hG⟩, (Turned.of_below (S := fun q => q = r) HB13.out).setCell (p := ⟨r, 1, none⟩) (.inl rfl) _⟩
            exact ReadyG.nil
          exact ReadyG.nil
        exact ReadyG.nil
      exact ReadyG.nil
    exact ReadyG.nil
  · have HC := Lib.hid hc
    have HH := Lib.hid hh
    have HM := Lib.hid h
    have HR := Lib.hid hr
    have hf' : ¬ (most : Int) ≤ (l.length : Int) := by omega
    clear h hc hh hr
    go_enter Tryd.func41, Tryd.ntmps41
    go_wp2_with fail
    go_loopw [29] (fun v wr => ∃ i : Nat, i ≤ l.length ∧ v = .int .i64 i ∧ Hid (has line l = has line (l.drop i)) ∧ Hid (Below w.heap.size w wr)) (fun v _ => l.length - (intOf v).toNat)
    case atStart => exact ⟨0, by omega, rfl, rfl, Below.refl _ _⟩
    case round =>
      obtain ⟨i, hi, rfl, hp, hbel⟩ := hrel
      by_cases hlt : i < l.length
      · obtain ⟨⟨x, y⟩, hxy⟩ : ∃ m, l[i]? = some m := ⟨_, List.getElem?_eq_getElem hlt⟩
        have hst := Lib.hid (has_step line l i (x, y) hxy)
        have hkt := Lib.hid (kind_step line l i (x, y) hxy)
        have d0 := HC.out _ _ (missCells_get l i _ hxy).1
        have d1 := HC.out _ _ (missCells_get l i _ hxy).2
        have e0 := (hbel.out.cell (cell_lt d0)).trans d0
        have e1 := (hbel.out.cell (cell_lt d1)).trans d1
        have er := (hbel.out.cell (cell_lt c1)).trans c1
        have es := (hbel.out.cell (cell_lt c0)).trans c0
        clear hxy d0 d1
        by_cases hx : x = line
        · subst hx
          exact absurd (hp.out.symm.trans HH.out) (by rw [hst.out]; simp)
        · have hx' : (x == line) = false := by simpa using hx
          have hp2 : Hid (has line l = has line (l.drop (i + 1))) := by
            show _ = _
            rw [hp.out, hst.out]
            simp [hx']
          go_wp2_with fail
          go_roundw
          case rel => exact ⟨i + 1, by omega, by go_num, hp2, hbel.out.alloc hbel.out.size _⟩
          case measure => simp [intOf]; omega
      · have hil : i = l.length := by omega
        subst hil
        have er := (hbel.out.cell (cell_lt c1)).trans c1
        have es := (hbel.out.cell (cell_lt c0)).trans c0
        clear hp
        go_wp2_with fail
        go_quiet (fail)
        have hb2 : Hid (Below w.heap.size w (wr.drewN nq)) := hbel.out.trans ((below_drewN _ _ _).mono (Nat.le_refl _) |>.mono hbel.out.size)
        clear er es hbel
        generalize wr.drewN nq = wr2 at *
        have hbel := hb2
        have er := (hbel.out.cell (cell_lt c1)).trans c1
        have es := (hbel.out.cell (cell_lt c0)).trans c0
        clear hb2
        go_wp2_with fail
        go_loopw [9] (fun v wr => ∃ i : Nat, i ≤ lbOf line l ∧ v = .int .i64 i ∧ Hid (Below w.heap.size w wr)) (fun v _ => l.length - (intOf v).toNat)
        case atStart => exact ⟨0, by omega, rfl, hbel⟩
        case round =>
          clear hbel er es
          obtain ⟨i, hi, rfl, hbel⟩ := hrel
          have er := (hbel.out.cell (cell_lt c1)).trans c1
          by_cases hlt : i < lbOf line l
          · obtain ⟨⟨x, y⟩, hxy⟩ : ∃ m, l[i]? = some m := ⟨_, List.getElem?_eq_getElem (by omega)⟩
            have d0 := HC.out _ _ (missCells_get l i _ hxy).1
            have e0 := (hbel.out.cell (cell_lt d0)).trans d0
            have hxl : x < line := lb_below line l i _ hxy hlt
            have hil : i < l.length := by omega
            have hil2 : (i : Int) < (l.length : Int) := by omega
            clear hxy d0
            go_wp2_with fail
            go_roundw
            case rel => exact ⟨i + 1, by omega, by go_num, hbel⟩
            case measure => simp [intOf]; omega
          · obtain rfl : i = lbOf line l := by omega
            by_cases hil : lbOf line l < l.length
            · obtain ⟨⟨x, y⟩, hxy⟩ : ∃ m, l[lbOf line l]? = some m := ⟨_, List.getElem?_eq_getElem hil⟩
              have d0 := HC.out _ _ (missCells_get l _ _ hxy).1
              have e0 := (hbel.out.cell (cell_lt d0)).trans d0
              have hxl : ¬ x < line := by
                have := lb_above line l HR.out _ _ hxy (Nat.le_refl _)
                simp only at this
                omega
              have hil2 : (lbOf line l : Int) < (l.length : Int) := by omega
              clear hxy d0
              generalize hk : lbOf line l = k at *
              go_upto_region 14 with fail
              have hkl : k ≤ l.length := by omega
              have hkc : k ≤ cap := by omega
              have hkl2 : (k : Int) ≤ (l.length : Int) := by omega
              have hkc2 : (k : Int) ≤ (cap : Int) := by omega
              have hlc2 : (l.length : Int) ≤ (cap : Int) := by omega
              have HB : Hid (Below w.heap.size w wr.drew) := hbel.out.drew
              have HL1 : Hid ((missCells (l.take k)).length = k * 2) := by show _ = _; rw [missCells_length, List.length_take]; omega
              have HL2 : Hid ((missCells (l.drop k)).length = (l.length - k) * 2) := by show _ = _; rw [missCells_length, List.length_drop]
              have HN1 : Hid (∀ W, Below w.heap.size w W → ∀ j u, (missCells (l.take k))[j]? = some u → W.cell? ((⟨g, 0, none⟩ : Addr).add j) = some u) := fun W hb j u hu => by
                have h1 := HC.out j u (by
                  have e : missCells l = missCells (l.take k) ++ missCells (l.drop k) := by rw [← missCells_append, List.take_append_drop]
                  rw [e, List.getElem?_append_left (List.getElem?_eq_some_iff.1 hu).1]
                  exact hu)
                rw [Addr.add_lit, Nat.zero_add]
                exact (hb.cell (cell_lt h1)).trans h1
              obtain ⟨ad, had, hn2⟩ : ∃ ad, (if cap = k then some (⟨g, 0, none⟩ : Addr) else some ⟨g, k * 2, none⟩) = some ad ∧ ∀ W, Below w.heap.size w W → ∀ j u, (missCells (l.drop k))[j]? = some u → W.cell? (ad.add j) = some u := by
                by_cases hck : cap = k
                · refine ⟨_, if_pos hck, fun W hb j u hu => ?_⟩
                  rw [List.drop_of_length_le (by omega)] at hu
                  simp [missCells] at hu
                · refine ⟨_, if_neg hck, fun W hb j u hu => ?_⟩
                  have h1 := HC.out (k * 2 + j) u (by
                    have e : missCells l = missCells (l.take k) ++ missCells (l.drop k) := by rw [← missCells_append, List.take_append_drop]
                    rw [e, List.getElem?_append_right (by rw [HL1.out]; omega), HL1.out, show k * 2 + j - k * 2 = j by omega]
                    exact hu)
                  rw [Addr.add_lit]
                  exact (hb.cell (cell_lt h1)).trans h1
              have HN2 := Lib.hid hn2
              clear hn2
              obtain ⟨i0, hi, hzz⟩ := Option.map_eq_some_iff.1 Tryd.infoRMiss
              have hz0 : i0.zero = some (.agg #[.int .i64 0, .int .i64 0]) := congrArg Prod.fst hzz
              have hz1 : i0.size = 2 := congrArg (fun z => z.2.1) hzz
              have hz2 : i0.bytes = 16 := congrArg (fun z => z.2.2) hzz
              clear hzz
              clear hbel er
              refine wp_region_G 23 (fun W => W.cell? ⟨r, 1, none⟩ = some (.slice (some ⟨g, 0, none⟩) l.length cap)) (by kernel_rfl) ?_
              generalize wr.drew = W0 at *
              refine WalkG.take (i := 0) (v := ?_) rfl (by kernel_rfl) (fun _ _ _ h => h) (Or.inl ⟨by rfl, ?_⟩) (held_of HB.out c1) ?_
              rotate_left
              · intro W hSW
                (try dsimp only at hSW)
                go_simp
                try (with_reducible rfl)
              try simp only [Act.put, List.setIfInBounds_toArray]
              refine WalkG.take (i := 2) (v := ?_) rfl (by kernel_rfl) (fun _ _ _ h => h) (Or.inl ⟨by rfl, ?_⟩) (held_of HB.out c1) ?_
              rotate_left
              · intro W hSW
                (try dsimp only at hSW)
                go_simp
                try (with_reducible rfl)
              try simp only [Act.put]
              refine WalkG.take (i := 3) (v := ?_) rfl (by kernel_rfl) (fun _ _ _ h => h) (Or.inl ⟨by rfl, ?_⟩) (held_of HB.out c1) ?_
              rotate_left
              · intro W hSW
                (try dsimp only at hSW)
                go_simp
                try (with_reducible rfl)
              try simp only [Act.put]
              refine WalkG.take (i := 4) (v := ?_) rfl (by kernel_rfl) (fun _ _ _ h => h) (Or.inl ⟨by rfl, ?_⟩) (held_of HB.out c1) ?_
              rotate_left
              · intro W hSW
                (try dsimp only at hSW)
                go_simp
                try (with_reducible rfl)
              try simp only [Act.put]
              refine WalkG.take (i := 5) (v := ?_) rfl (by kernel_rfl) (fun _ _ _ h => h) (Or.inl ⟨by rfl, ?_⟩) (held_of HB.out c1) ?_
              rotate_left
              · intro W hSW
                (try dsimp only at hSW)
                go_simp
                try (with_reducible rfl)
              try simp only [Act.put]
              refine WalkG.take (i := 6) (v := ?_) rfl (by kernel_rfl) (fun _ _ _ h => h) (Or.inl ⟨by rfl, ?_⟩) (held_of HB.out c1) ?_
              rotate_left
              · intro W hSW
                (try dsimp only at hSW)
                go_simp
                try (with_reducible rfl)
              try simp only [Act.put]
              refine WalkG.take (i := 7) (v := ?_) rfl (by kernel_rfl) (fun _ _ _ h => h) (Or.inl ⟨by rfl, ?_⟩) (held_of HB.out c1) ?_
              rotate_left
              · intro W hSW
                (try dsimp only at hSW)
                go_simp
                try (with_reducible rfl)
              try simp only [Act.put]
              refine WalkG.take (i := 9) (v := ?_) rfl (by kernel_rfl) (fun _ _ _ h => h) (Or.inl ⟨by rfl, ?_⟩) (held_of HB.out c1) ?_
              rotate_left
              · intro W hSW
                (try dsimp only at hSW)
                go_simp
                try (with_reducible rfl)
              try simp only [Act.put]
              refine WalkG.take (i := 10) (v := ?_) rfl (by kernel_rfl) (fun _ _ _ h => h) (Or.inl ⟨by rfl, ?_⟩) (held_of HB.out c1) ?_
              rotate_left
              · intro W hSW
                (try dsimp only at hSW)
                go_simp
                try (with_reducible rfl)
              try simp only [Act.put]
              refine WalkG.take (i := 11) (v := ?_) rfl (by kernel_rfl) (fun _ _ _ h => h) (Or.inl ⟨by rfl, ?_⟩) (held_of HB.out c1) ?_
              rotate_left
              · intro W hSW
                (try dsimp only at hSW)
                go_simp
                try (with_reducible rfl)
              try simp only [Act.put]
              refine WalkG.take (i := 14) (v := ?_) rfl (by kernel_rfl) (fun _ _ _ h => h) (Or.inl ⟨by rfl, ?_⟩) (held_of HB.out c1) ?_
              rotate_left
              · intro W hSW
                (try dsimp only at hSW)
                go_simp
                try (with_reducible rfl)
              try simp only [Act.put]
              refine WalkG.take (i := 15) (v := ?_) rfl (by kernel_rfl) (fun _ _ _ h => h) (Or.inl ⟨by rfl, ?_⟩) (held_of HB.out c1) ?_
              rotate_left
              · intro W hSW
                (try dsimp only at hSW)
                go_simp
                try (with_reducible rfl)
              try simp only [Act.put]
              refine WalkG.take (i := 16) (v := ?_) rfl (by kernel_rfl) (fun _ _ _ h => h) (Or.inl ⟨by rfl, ?_⟩) (held_of HB.out c1) ?_
              rotate_left
              · intro W hSW
                (try dsimp only at hSW)
                go_simp
                try (with_reducible rfl)
              try simp only [Act.put]
              refine WalkG.take (i := 17) (v := ?_) rfl (by kernel_rfl) (fun _ _ _ h => h) (Or.inl ⟨by rfl, ?_⟩) (held_of HB.out c1) ?_
              rotate_left
              · intro W hSW
                (try dsimp only at hSW)
                go_simp
                try (with_reducible rfl)
              try simp only [Act.put]
              refine WalkG.take (i := 18) (v := ?_) rfl (by kernel_rfl) (fun _ _ _ h => h) (Or.inl ⟨by rfl, ?_⟩) (held_of HB.out c1) ?_
              rotate_left
              · intro W hSW
                (try dsimp only at hSW)
                go_simp
                try (with_reducible rfl)
              try simp only [Act.put]
              refine WalkG.take (i := 19) (v := ?_) rfl (by kernel_rfl) (fun _ _ _ h => h) (Or.inl ⟨by rfl, ?_⟩) (held_of HB.out c1) ?_
              rotate_left
              · intro W hSW
                (try dsimp only at hSW)
                go_simp
                try (with_reducible rfl)
              try simp only [Act.put]
              try simp only [had]
              clear had hkl2 hkc2 hlc2
              refine WalkG.all (rs := [1, 12]) (by kernel_rfl) ⟨by simp, by simp⟩ ?_
              refine ReadyG.cons rfl (fun K hK => ?_) ?_
              · go_simp
                have HB1 : Hid (Below w.heap.size w (W0.alloc (.cells #[] 90))) := HB.out.alloc HB.out.size _
                refine hK.out _ _ (held_of HB1.out c1) (fun _ => ?_)
                clear hK K
                try simp only [Act.put, List.setIfInBounds_toArray, List.set_cons_zero, List.set_cons_succ]
                have HO1 : Hid ((W0.alloc (.cells #[] 90)).ownsRow w.heap.size 90 2 (.slice (some ⟨W0.heap.size, 0, none⟩) 0 0) 0 []) := ⟨rfl, .inr ⟨_, _, _, rfl, HB.out.size, heap_alloc_new _ _, Nat.le_refl _, Nat.zero_le _, rfl, rfl⟩⟩
                clear HB
                generalize W0.alloc (.cells #[] 90) = W1 at *
                generalize Value.slice (some ⟨W0.heap.size, 0, none⟩) 0 0 = v1 at *
                refine WalkG.all (rs := [8, 12]) (by kernel_rfl) ⟨by simp, by simp⟩ ?_
                refine ReadyG.cons rfl (fun K hK => ?_) ?_
                · refine step_append_own rfl (.tmp 70) (.tmp 76) 86 rfl w.heap.size 90 i0 (.agg #[.int .i64 0, .int .i64 0]) 2 16 Tryd.underlying86 hi hz0 hz1 hz2 rfl (by decide) v1 (0) ([]) rfl HO1.out ⟨g, 0, none⟩ (k) (cap) (missCells (l.take k)) rfl HL1.out (fun j u hu => HN1.out _ HB1.out j u hu) (fun u hu => missCells_one hu) (by unfold maxLen; omega) (by omega) HB1.out.size ?_
                  intro v2 W2 hO hG ho
                  have HB2 : Hid (Below w.heap.size w W2) := below_grown HB1.out hG HB1.out.size (own_ge HO1.out)
                  have HO2 := Lib.hid hO
                  refine hK.out _ _ (held_of HB2.out c1) (fun _ => ?_)
                  clear hK K hO hG ho HB1 HO1
                  try simp only [Act.put, List.setIfInBounds_toArray]
                  refine WalkG.all (rs := [12]) (by kernel_rfl) ⟨by simp, by simp⟩ ?_
                  refine ReadyG.cons rfl (fun K hK => ?_) ?_
                  · go_simp
                    have HB3 : Hid (Below w.heap.size w (W2.alloc (.cells #[.int .i64 line, .int .i64 kind] 90))) := HB2.out.alloc HB2.out.size _
                    refine hK.out _ _ (held_of HB3.out c1) (fun _ => ?_)
                    clear hK K
                    try simp only [Act.put, List.setIfInBounds_toArray, List.set_cons_zero, List.set_cons_succ]
                    have HO3 := Lib.hid (owns_below HO2.out ((Below.refl _ _).alloc (Nat.le_refl _) (.cells #[.int .i64 line, .int .i64 kind] 90)))
                    have HE3 : Hid (v2.ownBlock ≠ some W2.heap.size) := fun e => absurd (owns_lt HO2.out e) (Nat.lt_irrefl _)
                    have HN3 : Hid ((W2.alloc (.cells #[.int .i64 line, .int .i64 kind] 90)).heap[W2.heap.size]? = some (.cells #[.int .i64 line, .int .i64 kind] 90 (0, 0))) := heap_alloc_new _ _
                    clear HB2 HO2
                    generalize W2.alloc (.cells #[.int .i64 line, .int .i64 kind] 90) = W3 at *
                    generalize W2.heap.size = b3 at *
                    refine WalkG.all (rs := [13]) (by kernel_rfl) ⟨by simp, by simp⟩ ?_
                    refine ReadyG.cons rfl (fun K hK => ?_) ?_
                    · refine step_append_own rfl (.tmp 77) (.tmp 81) 86 rfl w.heap.size 90 i0 (.agg #[.int .i64 0, .int .i64 0]) 2 16 Tryd.underlying86 hi hz0 hz1 hz2 rfl (by decide) v2 (0 + k) ([] ++ missCells (l.take k)) rfl HO3.out ⟨b3, 0, none⟩ (1) (1) ([.int .i64 line, .int .i64 kind]) rfl rfl (fun j u hu => by rw [Addr.add_lit, Nat.zero_add]; simp only [World.cell?, HN3.out]; simpa using hu) (by simp [Value.oneCell']) (by unfold maxLen; omega) (by omega) HB3.out.size ?_
                      intro v4 W4 hO hG ho
                      have HB4 : Hid (Below w.heap.size w W4) := below_grown HB3.out hG HB3.out.size (own_ge HO3.out)
                      have HO4 := Lib.hid hO
                      have HN4 := Lib.hid (grown_keep hG HN3.out HE3.out)
                      have HE4 := Lib.hid (own_ne_after ho HE3.out (lt_of_heap HN3.out))
                      refine hK.out _ _ (held_of HB4.out c1) (fun _ => ?_)
                      clear hK K hO hG ho HB3 HO3 HN3 HE3
                      try simp only [Act.put, List.setIfInBounds_toArray]
                      refine WalkG.all (rs := [20]) (by kernel_rfl) ⟨by simp, by simp⟩ ?_
                      refine ReadyG.cons rfl (fun K hK => ?_) ?_
                      · refine step_append_own rfl (.tmp 82) (.tmp 88) 86 rfl w.heap.size 90 i0 (.agg #[.int .i64 0, .int .i64 0]) 2 16 Tryd.underlying86 hi hz0 hz1 hz2 rfl (by decide) v4 (0 + k + (1)) ([] ++ missCells (l.take k) ++ [.int .i64 line, .int .i64 kind]) rfl HO4.out ad (l.length - k) (cap - k) (missCells (l.drop k)) rfl HL2.out (fun j u hu => HN2.out _ HB4.out j u hu) (fun u hu => missCells_one hu) (by unfold maxLen; omega) (by omega) HB4.out.size ?_
                        intro v5 W5 hO hG ho
                        have HB5 : Hid (Below w.heap.size w W5) := below_grown HB4.out hG HB4.out.size (own_ge HO4.out)
                        have HO5 := Lib.hid hO
                        have HN5 := Lib.hid (grown_keep hG HN4.out HE4.out)
                        have HE5 := Lib.hid (own_ne_after ho HE4.out (lt_of_heap HN4.out))
                        refine hK.out _ _ (held_of HB5.out c1) (fun _ => ?_)
                        clear hK K hO hG ho HB4 HO4 HN4 HE4
                        try simp only [Act.put]
                        refine WalkG.take (i := 21) (v := ?_) rfl (by kernel_rfl) (fun _ _ _ h => h) (Or.inl ⟨by rfl, ?_⟩) (held_of HB5.out c1) ?_
                        rotate_left
                        · intro W hSW
                          (try dsimp only at hSW)
                          go_simp
                          try (with_reducible rfl)
                        try simp only [Act.put]
                        refine WalkG.take (i := 22) (v := ?_) rfl (by kernel_rfl) (fun _ _ _ h => h) (Or.inl ⟨by rfl, ?_⟩) (held_of HB5.out c1) ?_
                        rotate_left
                        · intro W hSW
                          (try dsimp only at hSW)
                          go_simp
                          try (with_reducible rfl)
                        try simp only [Act.put]
                        obtain ⟨G, cp, rfl, hG⟩ : ∃ G cp, v5 = .slice (some ⟨G, 0, none⟩) (0 + k + (1) + (l.length - k)) cp ∧ w.heap.size ≤ G := by
                          rcases HO5.out.2 with ⟨_, h⟩ | ⟨G, cp, cur, h, h2, -⟩
                          · omega
                          · exact ⟨G, cp, h, h2⟩
                        have hfz : W5.frozen? ⟨r, 1, none⟩ = false := nofreeze ((HB5.out.block r (lt_of_heap HM.out.box)).trans HM.out.box)
                        have hcr := held_of HB5.out c1
                        have HX := Lib.hid ((HB5.out.block r (lt_of_heap HM.out.box)).trans HM.out.box)
                        refine WalkG.last rfl (by kernel_rfl) (by kernel_rfl) (fun K hK => ?_)
                        go_simp
                        refine hK.out _ _ ?_
                        clear hK K hfz hcr
                        go_wp2
                        go_ret
                        have hrl := lt_of_heap HM.out.box
                        refine ⟨rfl, _, ⟨by simpa using heap_setCell (o := 1) HX.out _, RRow.of_owns (base := w.heap.size) (owns_of_block HO5.out fun q hq => Below.heap_setCell _ _ _ _ (by simp only [Value.ownBlock, Option.some.injEq] at hq; simp only; omega)) (by simp; omega) (by rw [missCells_append]; simp [missCells]), by simp only [Value.ownBlock, ne_eq, Option.some.injEq]; omega, by simp <;> omega⟩, ⟨G, rfl, hG⟩, (Turned.of_below (S := fun q => q = r) HB5.out).setCell (p := ⟨r, 1, none⟩) (.inl rfl) _⟩
                      exact ReadyG.nil
                    exact ReadyG.nil
                  exact ReadyG.nil
                refine ReadyG.cons rfl (fun K hK => ?_) ?_
                · go_simp
                  have HB6 : Hid (Below w.heap.size w (W1.alloc (.cells #[.int .i64 line, .int .i64 kind] 90))) := HB1.out.alloc HB1.out.size _
                  refine hK.out _ _ (held_of HB6.out c1) (fun _ => ?_)
                  clear hK K
                  try simp only [Act.put, List.setIfInBounds_toArray, List.set_cons_zero, List.set_cons_succ]
                  have HO6 := Lib.hid (owns_below HO1.out ((Below.refl _ _).alloc (Nat.le_refl _) (.cells #[.int .i64 line, .int .i64 kind] 90)))
                  have HE6 : Hid (v1.ownBlock ≠ some W1.heap.size) := fun e => absurd (owns_lt HO1.out e) (Nat.lt_irrefl _)
                  have HN6 : Hid ((W1.alloc (.cells #[.int .i64 line, .int .i64 kind] 90)).heap[W1.heap.size]? = some (.cells #[.int .i64 line, .int .i64 kind] 90 (0, 0))) := heap_alloc_new _ _
                  clear HB1 HO1
                  generalize W1.alloc (.cells #[.int .i64 line, .int .i64 kind] 90) = W6 at *
                  generalize W1.heap.size = b6 at *
                  refine WalkG.all (rs := [8]) (by kernel_rfl) ⟨by simp, by simp⟩ ?_
                  refine ReadyG.cons rfl (fun K hK => ?_) ?_
                  · refine step_append_own rfl (.tmp 70) (.tmp 76) 86 rfl w.heap.size 90 i0 (.agg #[.int .i64 0, .int .i64 0]) 2 16 Tryd.underlying86 hi hz0 hz1 hz2 rfl (by decide) v1 (0) ([]) rfl HO6.out ⟨g, 0, none⟩ (k) (cap) (missCells (l.take k)) rfl HL1.out (fun j u hu => HN1.out _ HB6.out j u hu) (fun u hu => missCells_one hu) (by unfold maxLen; omega) (by omega) HB6.out.size ?_
                    intro v7 W7 hO hG ho
                    have HB7 : Hid (Below w.heap.size w W7) := below_grown HB6.out hG HB6.out.size (own_ge HO6.out)
                    have HO7 := Lib.hid hO
                    have HN7 := Lib.hid (grown_keep hG HN6.out HE6.out)
                    have HE7 := Lib.hid (own_ne_after ho HE6.out (lt_of_heap HN6.out))
                    refine hK.out _ _ (held_of HB7.out c1) (fun _ => ?_)
                    clear hK K hO hG ho HB6 HO6 HN6 HE6
                    try simp only [Act.put, List.setIfInBounds_toArray]
                    refine WalkG.all (rs := [13]) (by kernel_rfl) ⟨by simp, by simp⟩ ?_
                    refine ReadyG.cons rfl (fun K hK => ?_) ?_
                    · refine step_append_own rfl (.tmp 77) (.tmp 81) 86 rfl w.heap.size 90 i0 (.agg #[.int .i64 0, .int .i64 0]) 2 16 Tryd.underlying86 hi hz0 hz1 hz2 rfl (by decide) v7 (0 + k) ([] ++ missCells (l.take k)) rfl HO7.out ⟨b6, 0, none⟩ (1) (1) ([.int .i64 line, .int .i64 kind]) rfl rfl (fun j u hu => by rw [Addr.add_lit, Nat.zero_add]; simp only [World.cell?, HN7.out]; simpa using hu) (by simp [Value.oneCell']) (by unfold maxLen; omega) (by omega) HB7.out.size ?_
                      intro v8 W8 hO hG ho
                      have HB8 : Hid (Below w.heap.size w W8) := below_grown HB7.out hG HB7.out.size (own_ge HO7.out)
                      have HO8 := Lib.hid hO
                      have HN8 := Lib.hid (grown_keep hG HN7.out HE7.out)
                      have HE8 := Lib.hid (own_ne_after ho HE7.out (lt_of_heap HN7.out))
                      refine hK.out _ _ (held_of HB8.out c1) (fun _ => ?_)
                      clear hK K hO hG ho HB7 HO7 HN7 HE7
                      try simp only [Act.put]
                      refine WalkG.all (rs := [20]) (by kernel_rfl) ⟨by simp, by simp⟩ ?_
                      refine ReadyG.cons rfl (fun K hK => ?_) ?_
                      · refine step_append_own rfl (.tmp 82) (.tmp 88) 86 rfl w.heap.size 90 i0 (.agg #[.int .i64 0, .int .i64 0]) 2 16 Tryd.underlying86 hi hz0 hz1 hz2 rfl (by decide) v8 (0 + k + (1)) ([] ++ missCells (l.take k) ++ [.int .i64 line, .int .i64 kind]) rfl HO8.out ad (l.length - k) (cap - k) (missCells (l.drop k)) rfl HL2.out (fun j u hu => HN2.out _ HB8.out j u hu) (fun u hu => missCells_one hu) (by unfold maxLen; omega) (by omega) HB8.out.size ?_
                        intro v9 W9 hO hG ho
                        have HB9 : Hid (Below w.heap.size w W9) := below_grown HB8.out hG HB8.out.size (own_ge HO8.out)
                        have HO9 := Lib.hid hO
                        have HN9 := Lib.hid (grown_keep hG HN8.out HE8.out)
                        have HE9 := Lib.hid (own_ne_after ho HE8.out (lt_of_heap HN8.out))
                        refine hK.out _ _ (held_of HB9.out c1) (fun _ => ?_)
                        clear hK K hO hG ho HB8 HO8 HN8 HE8
                        try simp only [Act.put]
                        refine WalkG.take (i := 21) (v := ?_) rfl (by kernel_rfl) (fun _ _ _ h => h) (Or.inl ⟨by rfl, ?_⟩) (held_of HB9.out c1) ?_
                        rotate_left
                        · intro W hSW
                          (try dsimp only at hSW)
                          go_simp
                          try (with_reducible rfl)
                        try simp only [Act.put]
                        refine WalkG.take (i := 22) (v := ?_) rfl (by kernel_rfl) (fun _ _ _ h => h) (Or.inl ⟨by rfl, ?_⟩) (held_of HB9.out c1) ?_
                        rotate_left
                        · intro W hSW
                          (try dsimp only at hSW)
                          go_simp
                          try (with_reducible rfl)
                        try simp only [Act.put]
                        obtain ⟨G, cp, rfl, hG⟩ : ∃ G cp, v9 = .slice (some ⟨G, 0, none⟩) (0 + k + (1) + (l.length - k)) cp ∧ w.heap.size ≤ G := by
                          rcases HO9.out.2 with ⟨_, h⟩ | ⟨G, cp, cur, h, h2, -⟩
                          · omega
                          · exact ⟨G, cp, h, h2⟩
                        have hfz : W9.frozen? ⟨r, 1, none⟩ = false := nofreeze ((HB9.out.block r (lt_of_heap HM.out.box)).trans HM.out.box)
                        have hcr := held_of HB9.out c1
                        have HX := Lib.hid ((HB9.out.block r (lt_of_heap HM.out.box)).trans HM.out.box)
                        refine WalkG.last rfl (by kernel_rfl) (by kernel_rfl) (fun K hK => ?_)
                        go_simp
                        refine hK.out _ _ ?_
                        clear hK K hfz hcr
                        go_wp2
                        go_ret
                        have hrl := lt_of_heap HM.out.box
                        refine ⟨rfl, _, ⟨by simpa using heap_setCell (o := 1) HX.out _, RRow.of_owns (base := w.heap.size) (owns_of_block HO9.out fun q hq => Below.heap_setCell _ _ _ _ (by simp only [Value.ownBlock, Option.some.injEq] at hq; simp only; omega)) (by simp; omega) (by rw [missCells_append]; simp [missCells]), by simp only [Value.ownBlock, ne_eq, Option.some.injEq]; omega, by simp <;> omega⟩, ⟨G, rfl, hG⟩, (Turned.of_below (S := fun q => q = r) HB9.out).setCell (p := ⟨r, 1, none⟩) (.inl rfl) _⟩
                      exact ReadyG.nil
                    exact ReadyG.nil
                  exact ReadyG.nil
                exact ReadyG.nil
              refine ReadyG.cons rfl (fun K hK => ?_) ?_
              · go_simp
                have HB10 : Hid (Below w.heap.size w (W0.alloc (.cells #[.int .i64 line, .int .i64 kind] 90))) := HB.out.alloc HB.out.size _
                refine hK.out _ _ (held_of HB10.out c1) (fun _ => ?_)
                clear hK K
                try simp only [Act.put, List.setIfInBounds_toArray, List.set_cons_zero, List.set_cons_succ]
                have HN10 : Hid ((W0.alloc (.cells #[.int .i64 line, .int .i64 kind] 90)).heap[W0.heap.size]? = some (.cells #[.int .i64 line, .int .i64 kind] 90 (0, 0))) := heap_alloc_new _ _
                clear HB
                generalize W0.alloc (.cells #[.int .i64 line, .int .i64 kind] 90) = W10 at *
                generalize W0.heap.size = b10 at *
                refine WalkG.all (rs := [1]) (by kernel_rfl) ⟨by simp, by simp⟩ ?_
                refine ReadyG.cons rfl (fun K hK => ?_) ?_
                · go_simp
                  have HB11 : Hid (Below w.heap.size w (W10.alloc (.cells #[] 90))) := HB10.out.alloc HB10.out.size _
                  refine hK.out _ _ (held_of HB11.out c1) (fun _ => ?_)
                  clear hK K
                  try simp only [Act.put, List.setIfInBounds_toArray, List.set_cons_zero, List.set_cons_succ]
                  have HN11 : Hid ((W10.alloc (.cells #[] 90)).heap[b10]? = some (.cells #[.int .i64 line, .int .i64 kind] 90 (0, 0))) := (((Below.refl _ _).alloc (Nat.le_refl _) (.cells #[] 90)).block _ (lt_of_heap HN10.out)).trans HN10.out
                  have HE11 : Hid ((Value.slice (some ⟨W10.heap.size, 0, none⟩) 0 0).ownBlock ≠ some b10) := fun e => by
                    have e1 : W10.heap.size = b10 := by simpa [Value.ownBlock] using e
                    have e2 := lt_of_heap HN10.out
                    omega
                  have HO11 : Hid ((W10.alloc (.cells #[] 90)).ownsRow w.heap.size 90 2 (.slice (some ⟨W10.heap.size, 0, none⟩) 0 0) 0 []) := ⟨rfl, .inr ⟨_, _, _, rfl, HB10.out.size, heap_alloc_new _ _, Nat.le_refl _, Nat.zero_le _, rfl, rfl⟩⟩
                  clear HB10 HN10
                  generalize W10.alloc (.cells #[] 90) = W11 at *
                  generalize Value.slice (some ⟨W10.heap.size, 0, none⟩) 0 0 = v11 at *
                  refine WalkG.all (rs := [8]) (by kernel_rfl) ⟨by simp, by simp⟩ ?_
                  refine ReadyG.cons rfl (fun K hK => ?_) ?_
                  · refine step_append_own rfl (.tmp 70) (.tmp 76) 86 rfl w.heap.size 90 i0 (.agg #[.int .i64 0, .int .i64 0]) 2 16 Tryd.underlying86 hi hz0 hz1 hz2 rfl (by decide) v11 (0) ([]) rfl HO11.out ⟨g, 0, none⟩ (k) (cap) (missCells (l.take k)) rfl HL1.out (fun j u hu => HN1.out _ HB11.out j u hu) (fun u hu => missCells_one hu) (by unfold maxLen; omega) (by omega) HB11.out.size ?_
                    intro v12 W12 hO hG ho
                    have HB12 : Hid (Below w.heap.size w W12) := below_grown HB11.out hG HB11.out.size (own_ge HO11.out)
                    have HO12 := Lib.hid hO
                    have HN12 := Lib.hid (grown_keep hG HN11.out HE11.out)
                    have HE12 := Lib.hid (own_ne_after ho HE11.out (lt_of_heap HN11.out))
                    refine hK.out _ _ (held_of HB12.out c1) (fun _ => ?_)
                    clear hK K hO hG ho HB11 HO11 HN11 HE11
                    try simp only [Act.put, List.setIfInBounds_toArray]
                    refine WalkG.all (rs := [13]) (by kernel_rfl) ⟨by simp, by simp⟩ ?_
                    refine ReadyG.cons rfl (fun K hK => ?_) ?_
                    · refine step_append_own rfl (.tmp 77) (.tmp 81) 86 rfl w.heap.size 90 i0 (.agg #[.int .i64 0, .int .i64 0]) 2 16 Tryd.underlying86 hi hz0 hz1 hz2 rfl (by decide) v12 (0 + k) ([] ++ missCells (l.take k)) rfl HO12.out ⟨b10, 0, none⟩ (1) (1) ([.int .i64 line, .int .i64 kind]) rfl rfl (fun j u hu => by rw [Addr.add_lit, Nat.zero_add]; simp only [World.cell?, HN12.out]; simpa using hu) (by simp [Value.oneCell']) (by unfold maxLen; omega) (by omega) HB12.out.size ?_
                      intro v13 W13 hO hG ho
                      have HB13 : Hid (Below w.heap.size w W13) := below_grown HB12.out hG HB12.out.size (own_ge HO12.out)
                      have HO13 := Lib.hid hO
                      have HN13 := Lib.hid (grown_keep hG HN12.out HE12.out)
                      have HE13 := Lib.hid (own_ne_after ho HE12.out (lt_of_heap HN12.out))
                      refine hK.out _ _ (held_of HB13.out c1) (fun _ => ?_)
                      clear hK K hO hG ho HB12 HO12 HN12 HE12
                      try simp only [Act.put]
                      refine WalkG.all (rs := [20]) (by kernel_rfl) ⟨by simp, by simp⟩ ?_
                      refine ReadyG.cons rfl (fun K hK => ?_) ?_
                      · refine step_append_own rfl (.tmp 82) (.tmp 88) 86 rfl w.heap.size 90 i0 (.agg #[.int .i64 0, .int .i64 0]) 2 16 Tryd.underlying86 hi hz0 hz1 hz2 rfl (by decide) v13 (0 + k + (1)) ([] ++ missCells (l.take k) ++ [.int .i64 line, .int .i64 kind]) rfl HO13.out ad (l.length - k) (cap - k) (missCells (l.drop k)) rfl HL2.out (fun j u hu => HN2.out _ HB13.out j u hu) (fun u hu => missCells_one hu) (by unfold maxLen; omega) (by omega) HB13.out.size ?_
                        intro v14 W14 hO hG ho
                        have HB14 : Hid (Below w.heap.size w W14) := below_grown HB13.out hG HB13.out.size (own_ge HO13.out)
                        have HO14 := Lib.hid hO
                        have HN14 := Lib.hid (grown_keep hG HN13.out HE13.out)
                        have HE14 := Lib.hid (own_ne_after ho HE13.out (lt_of_heap HN13.out))
                        refine hK.out _ _ (held_of HB14.out c1) (fun _ => ?_)
                        clear hK K hO hG ho HB13 HO13 HN13 HE13
                        try simp only [Act.put]
                        refine WalkG.take (i := 21) (v := ?_) rfl (by kernel_rfl) (fun _ _ _ h => h) (Or.inl ⟨by rfl, ?_⟩) (held_of HB14.out c1) ?_
                        rotate_left
                        · intro W hSW
                          (try dsimp only at hSW)
                          go_simp
                          try (with_reducible rfl)
                        try simp only [Act.put]
                        refine WalkG.take (i := 22) (v := ?_) rfl (by kernel_rfl) (fun _ _ _ h => h) (Or.inl ⟨by rfl, ?_⟩) (held_of HB14.out c1) ?_
                        rotate_left
                        · intro W hSW
                          (try dsimp only at hSW)
                          go_simp
                          try (with_reducible rfl)
                        try simp only [Act.put]
                        obtain ⟨G, cp, rfl, hG⟩ : ∃ G cp, v14 = .slice (some ⟨G, 0, none⟩) (0 + k + (1) + (l.length - k)) cp ∧ w.heap.size ≤ G := by
                          rcases HO14.out.2 with ⟨_, h⟩ | ⟨G, cp, cur, h, h2, -⟩
                          · omega
                          · exact ⟨G, cp, h, h2⟩
                        have hfz : W14.frozen? ⟨r, 1, none⟩ = false := nofreeze ((HB14.out.block r (lt_of_heap HM.out.box)).trans HM.out.box)
                        have hcr := held_of HB14.out c1
                        have HX := Lib.hid ((HB14.out.block r (lt_of_heap HM.out.box)).trans HM.out.box)
                        refine WalkG.last rfl (by kernel_rfl) (by kernel_rfl) (fun K hK => ?_)
                        go_simp
                        refine hK.out _ _ ?_
                        clear hK K hfz hcr
                        go_wp2
                        go_ret
                        have hrl := lt_of_heap HM.out.box
                        refine ⟨rfl, _, ⟨by simpa using heap_setCell (o := 1) HX.out _, RRow.of_owns (base := w.heap.size) (owns_of_block HO14.out fun q hq => Below.heap_setCell _ _ _ _ (by simp only [Value.ownBlock, Option.some.injEq] at hq; simp only; omega)) (by simp; omega) (by rw [missCells_append]; simp [missCells]), by simp only [Value.ownBlock, ne_eq, Option.some.injEq]; omega, by simp <;> omega⟩, ⟨G, rfl, hG⟩, (Turned.of_below (S := fun q => q = r) HB14.out).setCell (p := ⟨r, 1, none⟩) (.inl rfl) _⟩
                      exact ReadyG.nil
                    exact ReadyG.nil
                  exact ReadyG.nil
                exact ReadyG.nil
              exact ReadyG.nil
            · have hil : lbOf line l = l.length := by omega
              have hil2 : ¬ (lbOf line l : Int) < (l.length : Int) := by omega
              clear hil hlt
              generalize hk : lbOf line l = k at *
              go_upto_region 14 with fail
              have hkl : k ≤ l.length := by omega
              have hkc : k ≤ cap := by omega
              have hkl2 : (k : Int) ≤ (l.length : Int) := by omega
              have hkc2 : (k : Int) ≤ (cap : Int) := by omega
              have hlc2 : (l.length : Int) ≤ (cap : Int) := by omega
              have HB : Hid (Below w.heap.size w wr.drew) := hbel.out.drew
              have HL1 : Hid ((missCells (l.take k)).length = k * 2) := by show _ = _; rw [missCells_length, List.length_take]; omega
              have HL2 : Hid ((missCells (l.drop k)).length = (l.length - k) * 2) := by show _ = _; rw [missCells_length, List.length_drop]
              have HN1 : Hid (∀ W, Below w.heap.size w W → ∀ j u, (missCells (l.take k))[j]? = some u → W.cell? ((⟨g, 0, none⟩ : Addr).add j) = some u) := fun W hb j u hu => by
                have h1 := HC.out j u (by
                  have e : missCells l = missCells (l.take k) ++ missCells (l.drop k) := by rw [← missCells_append, List.take_append_drop]
                  rw [e, List.getElem?_append_left (List.getElem?_eq_some_iff.1 hu).1]
                  exact hu)
                rw [Addr.add_lit, Nat.zero_add]
                exact (hb.cell (cell_lt h1)).trans h1
              obtain ⟨ad, had, hn2⟩ : ∃ ad, (if cap = k then some (⟨g, 0, none⟩ : Addr) else some ⟨g, k * 2, none⟩) = some ad ∧ ∀ W, Below w.heap.size w W → ∀ j u, (missCells (l.drop k))[j]? = some u → W.cell? (ad.add j) = some u := by
                by_cases hck : cap = k
                · refine ⟨_, if_pos hck, fun W hb j u hu => ?_⟩
                  rw [List.drop_of_length_le (by omega)] at hu
                  simp [missCells] at hu
                · refine ⟨_, if_neg hck, fun W hb j u hu => ?_⟩
                  have h1 := HC.out (k * 2 + j) u (by
                    have e : missCells l = missCells (l.take k) ++ missCells (l.drop k) := by rw [← missCells_append, List.take_append_drop]
                    rw [e, List.getElem?_append_right (by rw [HL1.out]; omega), HL1.out, show k * 2 + j - k * 2 = j by omega]
                    exact hu)
                  rw [Addr.add_lit]
                  exact (hb.cell (cell_lt h1)).trans h1
              have HN2 := Lib.hid hn2
              clear hn2
              obtain ⟨i0, hi, hzz⟩ := Option.map_eq_some_iff.1 Tryd.infoRMiss
              have hz0 : i0.zero = some (.agg #[.int .i64 0, .int .i64 0]) := congrArg Prod.fst hzz
              have hz1 : i0.size = 2 := congrArg (fun z => z.2.1) hzz
              have hz2 : i0.bytes = 16 := congrArg (fun z => z.2.2) hzz
              clear hzz
              clear hbel er
              refine wp_region_G 23 (fun W => W.cell? ⟨r, 1, none⟩ = some (.slice (some ⟨g, 0, none⟩) l.length cap)) (by kernel_rfl) ?_
              generalize wr.drew = W0 at *
              refine WalkG.take (i := 0) (v := ?_) rfl (by kernel_rfl) (fun _ _ _ h => h) (Or.inl ⟨by rfl, ?_⟩) (held_of HB.out c1) ?_
              rotate_left
              · intro W hSW
                (try dsimp only at hSW)
                go_simp
                try (with_reducible rfl)
              try simp only [Act.put, List.setIfInBounds_toArray]
              refine WalkG.take (i := 2) (v := ?_) rfl (by kernel_rfl) (fun _ _ _ h => h) (Or.inl ⟨by rfl, ?_⟩) (held_of HB.out c1) ?_
              rotate_left
              · intro W hSW
                (try dsimp only at hSW)
                go_simp
                try (with_reducible rfl)
              try simp only [Act.put]
              refine WalkG.take (i := 3) (v := ?_) rfl (by kernel_rfl) (fun _ _ _ h => h) (Or.inl ⟨by rfl, ?_⟩) (held_of HB.out c1) ?_
              rotate_left
              · intro W hSW
                (try dsimp only at hSW)
                go_simp
                try (with_reducible rfl)
              try simp only [Act.put]
              refine WalkG.take (i := 4) (v := ?_) rfl (by kernel_rfl) (fun _ _ _ h => h) (Or.inl ⟨by rfl, ?_⟩) (held_of HB.out c1) ?_
              rotate_left
              · intro W hSW
                (try dsimp only at hSW)
                go_simp
                try (with_reducible rfl)
              try simp only [Act.put]
              refine WalkG.take (i := 5) (v := ?_) rfl (by kernel_rfl) (fun _ _ _ h => h) (Or.inl ⟨by rfl, ?_⟩) (held_of HB.out c1) ?_
              rotate_left
              · intro W hSW
                (try dsimp only at hSW)
                go_simp
                try (with_reducible rfl)
              try simp only [Act.put]
              refine WalkG.take (i := 6) (v := ?_) rfl (by kernel_rfl) (fun _ _ _ h => h) (Or.inl ⟨by rfl, ?_⟩) (held_of HB.out c1) ?_
              rotate_left
              · intro W hSW
                (try dsimp only at hSW)
                go_simp
                try (with_reducible rfl)
              try simp only [Act.put]
              refine WalkG.take (i := 7) (v := ?_) rfl (by kernel_rfl) (fun _ _ _ h => h) (Or.inl ⟨by rfl, ?_⟩) (held_of HB.out c1) ?_
              rotate_left
              · intro W hSW
                (try dsimp only at hSW)
                go_simp
                try (with_reducible rfl)
              try simp only [Act.put]
              refine WalkG.take (i := 9) (v := ?_) rfl (by kernel_rfl) (fun _ _ _ h => h) (Or.inl ⟨by rfl, ?_⟩) (held_of HB.out c1) ?_
              rotate_left
              · intro W hSW
                (try dsimp only at hSW)
                go_simp
                try (with_reducible rfl)
              try simp only [Act.put]
              refine WalkG.take (i := 10) (v := ?_) rfl (by kernel_rfl) (fun _ _ _ h => h) (Or.inl ⟨by rfl, ?_⟩) (held_of HB.out c1) ?_
              rotate_left
              · intro W hSW
                (try dsimp only at hSW)
                go_simp
                try (with_reducible rfl)
              try simp only [Act.put]
              refine WalkG.take (i := 11) (v := ?_) rfl (by kernel_rfl) (fun _ _ _ h => h) (Or.inl ⟨by rfl, ?_⟩) (held_of HB.out c1) ?_
              rotate_left
              · intro W hSW
                (try dsimp only at hSW)
                go_simp
                try (with_reducible rfl)
              try simp only [Act.put]
              refine WalkG.take (i := 14) (v := ?_) rfl (by kernel_rfl) (fun _ _ _ h => h) (Or.inl ⟨by rfl, ?_⟩) (held_of HB.out c1) ?_
              rotate_left
              · intro W hSW
                (try dsimp only at hSW)
                go_simp
                try (with_reducible rfl)
              try simp only [Act.put]
              refine WalkG.take (i := 15) (v := ?_) rfl (by kernel_rfl) (fun _ _ _ h => h) (Or.inl ⟨by rfl, ?_⟩) (held_of HB.out c1) ?_
              rotate_left
              · intro W hSW
                (try dsimp only at hSW)
                go_simp
                try (with_reducible rfl)
              try simp only [Act.put]
              refine WalkG.take (i := 16) (v := ?_) rfl (by kernel_rfl) (fun _ _ _ h => h) (Or.inl ⟨by rfl, ?_⟩) (held_of HB.out c1) ?_
              rotate_left
              · intro W hSW
                (try dsimp only at hSW)
                go_simp
                try (with_reducible rfl)
              try simp only [Act.put]
              refine WalkG.take (i := 17) (v := ?_) rfl (by kernel_rfl) (fun _ _ _ h => h) (Or.inl ⟨by rfl, ?_⟩) (held_of HB.out c1) ?_
              rotate_left
              · intro W hSW
                (try dsimp only at hSW)
                go_simp
                try (with_reducible rfl)
              try simp only [Act.put]
              refine WalkG.take (i := 18) (v := ?_) rfl (by kernel_rfl) (fun _ _ _ h => h) (Or.inl ⟨by rfl, ?_⟩) (held_of HB.out c1) ?_
              rotate_left
              · intro W hSW
                (try dsimp only at hSW)
                go_simp
                try (with_reducible rfl)
              try simp only [Act.put]
              refine WalkG.take (i := 19) (v := ?_) rfl (by kernel_rfl) (fun _ _ _ h => h) (Or.inl ⟨by rfl, ?_⟩) (held_of HB.out c1) ?_
              rotate_left
              · intro W hSW
                (try dsimp only at hSW)
                go_simp
                try (with_reducible rfl)
              try simp only [Act.put]
              try simp only [had]
              clear had hkl2 hkc2 hlc2
              refine WalkG.all (rs := [1, 12]) (by kernel_rfl) ⟨by simp, by simp⟩ ?_
              refine ReadyG.cons rfl (fun K hK => ?_) ?_
              · go_simp
                have HB1 : Hid (Below w.heap.size w (W0.alloc (.cells #[] 90))) := HB.out.alloc HB.out.size _
                refine hK.out _ _ (held_of HB1.out c1) (fun _ => ?_)
                clear hK K
                try simp only [Act.put, List.setIfInBounds_toArray, List.set_cons_zero, List.set_cons_succ]
                have HO1 : Hid ((W0.alloc (.cells #[] 90)).ownsRow w.heap.size 90 2 (.slice (some ⟨W0.heap.size, 0, none⟩) 0 0) 0 []) := ⟨rfl, .inr ⟨_, _, _, rfl, HB.out.size, heap_alloc_new _ _, Nat.le_refl _, Nat.zero_le _, rfl, rfl⟩⟩
                clear HB
                generalize W0.alloc (.cells #[] 90) = W1 at *
                generalize Value.slice (some ⟨W0.heap.size, 0, none⟩) 0 0 = v1 at *
                refine WalkG.all (rs := [8, 12]) (by kernel_rfl) ⟨by simp, by simp⟩ ?_
                refine ReadyG.cons rfl (fun K hK => ?_) ?_
                · refine step_append_own rfl (.tmp 70) (.tmp 76) 86 rfl w.heap.size 90 i0 (.agg #[.int .i64 0, .int .i64 0]) 2 16 Tryd.underlying86 hi hz0 hz1 hz2 rfl (by decide) v1 (0) ([]) rfl HO1.out ⟨g, 0, none⟩ (k) (cap) (missCells (l.take k)) rfl HL1.out (fun j u hu => HN1.out _ HB1.out j u hu) (fun u hu => missCells_one hu) (by unfold maxLen; omega) (by omega) HB1.out.size ?_
                  intro v2 W2 hO hG ho
                  have HB2 : Hid (Below w.heap.size w W2) := below_grown HB1.out hG HB1.out.size (own_ge HO1.out)
                  have HO2 := Lib.hid hO
                  refine hK.out _ _ (held_of HB2.out c1) (fun _ => ?_)
                  clear hK K hO hG ho HB1 HO1
                  try simp only [Act.put, List.setIfInBounds_toArray]
                  refine WalkG.all (rs := [12]) (by kernel_rfl) ⟨by simp, by simp⟩ ?_
                  refine ReadyG.cons rfl (fun K hK => ?_) ?_
                  · go_simp
                    have HB3 : Hid (Below w.heap.size w (W2.alloc (.cells #[.int .i64 line, .int .i64 kind] 90))) := HB2.out.alloc HB2.out.size _
                    refine hK.out _ _ (held_of HB3.out c1) (fun _ => ?_)
                    clear hK K
                    try simp only [Act.put, List.setIfInBounds_toArray, List.set_cons_zero, List.set_cons_succ]
                    have HO3 := Lib.hid (owns_below HO2.out ((Below.refl _ _).alloc (Nat.le_refl _) (.cells #[.int .i64 line, .int .i64 kind] 90)))
                    have HE3 : Hid (v2.ownBlock ≠ some W2.heap.size) := fun e => absurd (owns_lt HO2.out e) (Nat.lt_irrefl _)
                    have HN3 : Hid ((W2.alloc (.cells #[.int .i64 line, .int .i64 kind] 90)).heap[W2.heap.size]? = some (.cells #[.int .i64 line, .int .i64 kind] 90 (0, 0))) := heap_alloc_new _ _
                    clear HB2 HO2
                    generalize W2.alloc (.cells #[.int .i64 line, .int .i64 kind] 90) = W3 at *
                    generalize W2.heap.size = b3 at *
                    refine WalkG.all (rs := [13]) (by kernel_rfl) ⟨by simp, by simp⟩ ?_
                    refine ReadyG.cons rfl (fun K hK => ?_) ?_
                    · refine step_append_own rfl (.tmp 77) (.tmp 81) 86 rfl w.heap.size 90 i0 (.agg #[.int .i64 0, .int .i64 0]) 2 16 Tryd.underlying86 hi hz0 hz1 hz2 rfl (by decide) v2 (0 + k) ([] ++ missCells (l.take k)) rfl HO3.out ⟨b3, 0, none⟩ (1) (1) ([.int .i64 line, .int .i64 kind]) rfl rfl (fun j u hu => by rw [Addr.add_lit, Nat.zero_add]; simp only [World.cell?, HN3.out]; simpa using hu) (by simp [Value.oneCell']) (by unfold maxLen; omega) (by omega) HB3.out.size ?_
                      intro v4 W4 hO hG ho
                      have HB4 : Hid (Below w.heap.size w W4) := below_grown HB3.out hG HB3.out.size (own_ge HO3.out)
                      have HO4 := Lib.hid hO
                      have HN4 := Lib.hid (grown_keep hG HN3.out HE3.out)
                      have HE4 := Lib.hid (own_ne_after ho HE3.out (lt_of_heap HN3.out))
                      refine hK.out _ _ (held_of HB4.out c1) (fun _ => ?_)
                      clear hK K hO hG ho HB3 HO3 HN3 HE3
                      try simp only [Act.put, List.setIfInBounds_toArray]
                      refine WalkG.all (rs := [20]) (by kernel_rfl) ⟨by simp, by simp⟩ ?_
                      refine ReadyG.cons rfl (fun K hK => ?_) ?_
                      · refine step_append_own rfl (.tmp 82) (.tmp 88) 86 rfl w.heap.size 90 i0 (.agg #[.int .i64 0, .int .i64 0]) 2 16 Tryd.underlying86 hi hz0 hz1 hz2 rfl (by decide) v4 (0 + k + (1)) ([] ++ missCells (l.take k) ++ [.int .i64 line, .int .i64 kind]) rfl HO4.out ad (l.length - k) (cap - k) (missCells (l.drop k)) rfl HL2.out (fun j u hu => HN2.out _ HB4.out j u hu) (fun u hu => missCells_one hu) (by unfold maxLen; omega) (by omega) HB4.out.size ?_
                        intro v5 W5 hO hG ho
                        have HB5 : Hid (Below w.heap.size w W5) := below_grown HB4.out hG HB4.out.size (own_ge HO4.out)
                        have HO5 := Lib.hid hO
                        have HN5 := Lib.hid (grown_keep hG HN4.out HE4.out)
                        have HE5 := Lib.hid (own_ne_after ho HE4.out (lt_of_heap HN4.out))
                        refine hK.out _ _ (held_of HB5.out c1) (fun _ => ?_)
                        clear hK K hO hG ho HB4 HO4 HN4 HE4
                        try simp only [Act.put]
                        refine WalkG.take (i := 21) (v := ?_) rfl (by kernel_rfl) (fun _ _ _ h => h) (Or.inl ⟨by rfl, ?_⟩) (held_of HB5.out c1) ?_
                        rotate_left
                        · intro W hSW
                          (try dsimp only at hSW)
                          go_simp
                          try (with_reducible rfl)
                        try simp only [Act.put]
                        refine WalkG.take (i := 22) (v := ?_) rfl (by kernel_rfl) (fun _ _ _ h => h) (Or.inl ⟨by rfl, ?_⟩) (held_of HB5.out c1) ?_
                        rotate_left
                        · intro W hSW
                          (try dsimp only at hSW)
                          go_simp
                          try (with_reducible rfl)
                        try simp only [Act.put]
                        obtain ⟨G, cp, rfl, hG⟩ : ∃ G cp, v5 = .slice (some ⟨G, 0, none⟩) (0 + k + (1) + (l.length - k)) cp ∧ w.heap.size ≤ G := by
                          rcases HO5.out.2 with ⟨_, h⟩ | ⟨G, cp, cur, h, h2, -⟩
                          · omega
                          · exact ⟨G, cp, h, h2⟩
                        have hfz : W5.frozen? ⟨r, 1, none⟩ = false := nofreeze ((HB5.out.block r (lt_of_heap HM.out.box)).trans HM.out.box)
                        have hcr := held_of HB5.out c1
                        have HX := Lib.hid ((HB5.out.block r (lt_of_heap HM.out.box)).trans HM.out.box)
                        refine WalkG.last rfl (by kernel_rfl) (by kernel_rfl) (fun K hK => ?_)
                        go_simp
                        refine hK.out _ _ ?_
                        clear hK K hfz hcr
                        go_wp2
                        go_ret
                        have hrl := lt_of_heap HM.out.box
                        refine ⟨rfl, _, ⟨by simpa using heap_setCell (o := 1) HX.out _, RRow.of_owns (base := w.heap.size) (owns_of_block HO5.out fun q hq => Below.heap_setCell _ _ _ _ (by simp only [Value.ownBlock, Option.some.injEq] at hq; simp only; omega)) (by simp; omega) (by rw [missCells_append]; simp [missCells]), by simp only [Value.ownBlock, ne_eq, Option.some.injEq]; omega, by simp <;> omega⟩, ⟨G, rfl, hG⟩, (Turned.of_below (S := fun q => q = r) HB5.out).setCell (p := ⟨r, 1, none⟩) (.inl rfl) _⟩
                      exact ReadyG.nil
                    exact ReadyG.nil
                  exact ReadyG.nil
                refine ReadyG.cons rfl (fun K hK => ?_) ?_
                · go_simp
                  have HB6 : Hid (Below w.heap.size w (W1.alloc (.cells #[.int .i64 line, .int .i64 kind] 90))) := HB1.out.alloc HB1.out.size _
                  refine hK.out _ _ (held_of HB6.out c1) (fun _ => ?_)
                  clear hK K
                  try simp only [Act.put, List.setIfInBounds_toArray, List.set_cons_zero, List.set_cons_succ]
                  have HO6 := Lib.hid (owns_below HO1.out ((Below.refl _ _).alloc (Nat.le_refl _) (.cells #[.int .i64 line, .int .i64 kind] 90)))
                  have HE6 : Hid (v1.ownBlock ≠ some W1.heap.size) := fun e => absurd (owns_lt HO1.out e) (Nat.lt_irrefl _)
                  have HN6 : Hid ((W1.alloc (.cells #[.int .i64 line, .int .i64 kind] 90)).heap[W1.heap.size]? = some (.cells #[.int .i64 line, .int .i64 kind] 90 (0, 0))) := heap_alloc_new _ _
                  clear HB1 HO1
                  generalize W1.alloc (.cells #[.int .i64 line, .int .i64 kind] 90) = W6 at *
                  generalize W1.heap.size = b6 at *
                  refine WalkG.all (rs := [8]) (by kernel_rfl) ⟨by simp, by simp⟩ ?_
                  refine ReadyG.cons rfl (fun K hK => ?_) ?_
                  · refine step_append_own rfl (.tmp 70) (.tmp 76) 86 rfl w.heap.size 90 i0 (.agg #[.int .i64 0, .int .i64 0]) 2 16 Tryd.underlying86 hi hz0 hz1 hz2 rfl (by decide) v1 (0) ([]) rfl HO6.out ⟨g, 0, none⟩ (k) (cap) (missCells (l.take k)) rfl HL1.out (fun j u hu => HN1.out _ HB6.out j u hu) (fun u hu => missCells_one hu) (by unfold maxLen; omega) (by omega) HB6.out.size ?_
                    intro v7 W7 hO hG ho
                    have HB7 : Hid (Below w.heap.size w W7) := below_grown HB6.out hG HB6.out.size (own_ge HO6.out)
                    have HO7 := Lib.hid hO
                    have HN7 := Lib.hid (grown_keep hG HN6.out HE6.out)
                    have HE7 := Lib.hid (own_ne_after ho HE6.out (lt_of_heap HN6.out))
                    refine hK.out _ _ (held_of HB7.out c1) (fun _ => ?_)
                    clear hK K hO hG ho HB6 HO6 HN6 HE6
                    try simp only [Act.put, List.setIfInBounds_toArray]
                    refine WalkG.all (rs := [13]) (by kernel_rfl) ⟨by simp, by simp⟩ ?_
                    refine ReadyG.cons rfl (fun K hK => ?_) ?_
                    · refine step_append_own rfl (.tmp 77) (.tmp 81) 86 rfl w.heap.size 90 i0 (.agg #[.int .i64 0, .int .i64 0]) 2 16 Tryd.underlying86 hi hz0 hz1 hz2 rfl (by decide) v7 (0 + k) ([] ++ missCells (l.take k)) rfl HO7.out ⟨b6, 0, none⟩ (1) (1) ([.int .i64 line, .int .i64 kind]) rfl rfl (fun j u hu => by rw [Addr.add_lit, Nat.zero_add]; simp only [World.cell?, HN7.out]; simpa using hu) (by simp [Value.oneCell']) (by unfold maxLen; omega) (by omega) HB7.out.size ?_
                      intro v8 W8 hO hG ho
                      have HB8 : Hid (Below w.heap.size w W8) := below_grown HB7.out hG HB7.out.size (own_ge HO7.out)
                      have HO8 := Lib.hid hO
                      have HN8 := Lib.hid (grown_keep hG HN7.out HE7.out)
                      have HE8 := Lib.hid (own_ne_after ho HE7.out (lt_of_heap HN7.out))
                      refine hK.out _ _ (held_of HB8.out c1) (fun _ => ?_)
                      clear hK K hO hG ho HB7 HO7 HN7 HE7
                      try simp only [Act.put]
                      refine WalkG.all (rs := [20]) (by kernel_rfl) ⟨by simp, by simp⟩ ?_
                      refine ReadyG.cons rfl (fun K hK => ?_) ?_
                      · refine step_append_own rfl (.tmp 82) (.tmp 88) 86 rfl w.heap.size 90 i0 (.agg #[.int .i64 0, .int .i64 0]) 2 16 Tryd.underlying86 hi hz0 hz1 hz2 rfl (by decide) v8 (0 + k + (1)) ([] ++ missCells (l.take k) ++ [.int .i64 line, .int .i64 kind]) rfl HO8.out ad (l.length - k) (cap - k) (missCells (l.drop k)) rfl HL2.out (fun j u hu => HN2.out _ HB8.out j u hu) (fun u hu => missCells_one hu) (by unfold maxLen; omega) (by omega) HB8.out.size ?_
                        intro v9 W9 hO hG ho
                        have HB9 : Hid (Below w.heap.size w W9) := below_grown HB8.out hG HB8.out.size (own_ge HO8.out)
                        have HO9 := Lib.hid hO
                        have HN9 := Lib.hid (grown_keep hG HN8.out HE8.out)
                        have HE9 := Lib.hid (own_ne_after ho HE8.out (lt_of_heap HN8.out))
                        refine hK.out _ _ (held_of HB9.out c1) (fun _ => ?_)
                        clear hK K hO hG ho HB8 HO8 HN8 HE8
                        try simp only [Act.put]
                        refine WalkG.take (i := 21) (v := ?_) rfl (by kernel_rfl) (fun _ _ _ h => h) (Or.inl ⟨by rfl, ?_⟩) (held_of HB9.out c1) ?_
                        rotate_left
                        · intro W hSW
                          (try dsimp only at hSW)
                          go_simp
                          try (with_reducible rfl)
                        try simp only [Act.put]
                        refine WalkG.take (i := 22) (v := ?_) rfl (by kernel_rfl) (fun _ _ _ h => h) (Or.inl ⟨by rfl, ?_⟩) (held_of HB9.out c1) ?_
                        rotate_left
                        · intro W hSW
                          (try dsimp only at hSW)
                          go_simp
                          try (with_reducible rfl)
                        try simp only [Act.put]
                        obtain ⟨G, cp, rfl, hG⟩ : ∃ G cp, v9 = .slice (some ⟨G, 0, none⟩) (0 + k + (1) + (l.length - k)) cp ∧ w.heap.size ≤ G := by
                          rcases HO9.out.2 with ⟨_, h⟩ | ⟨G, cp, cur, h, h2, -⟩
                          · omega
                          · exact ⟨G, cp, h, h2⟩
                        have hfz : W9.frozen? ⟨r, 1, none⟩ = false := nofreeze ((HB9.out.block r (lt_of_heap HM.out.box)).trans HM.out.box)
                        have hcr := held_of HB9.out c1
                        have HX := Lib.hid ((HB9.out.block r (lt_of_heap HM.out.box)).trans HM.out.box)
                        refine WalkG.last rfl (by kernel_rfl) (by kernel_rfl) (fun K hK => ?_)
                        go_simp
                        refine hK.out _ _ ?_
                        clear hK K hfz hcr
                        go_wp2
                        go_ret
                        have hrl := lt_of_heap HM.out.box
                        refine ⟨rfl, _, ⟨by simpa using heap_setCell (o := 1) HX.out _, RRow.of_owns (base := w.heap.size) (owns_of_block HO9.out fun q hq => Below.heap_setCell _ _ _ _ (by simp only [Value.ownBlock, Option.some.injEq] at hq; simp only; omega)) (by simp; omega) (by rw [missCells_append]; simp [missCells]), by simp only [Value.ownBlock, ne_eq, Option.some.injEq]; omega, by simp <;> omega⟩, ⟨G, rfl, hG⟩, (Turned.of_below (S := fun q => q = r) HB9.out).setCell (p := ⟨r, 1, none⟩) (.inl rfl) _⟩
                      exact ReadyG.nil
                    exact ReadyG.nil
                  exact ReadyG.nil
                exact ReadyG.nil
              refine ReadyG.cons rfl (fun K hK => ?_) ?_
              · go_simp
                have HB10 : Hid (Below w.heap.size w (W0.alloc (.cells #[.int .i64 line, .int .i64 kind] 90))) := HB.out.alloc HB.out.size _
                refine hK.out _ _ (held_of HB10.out c1) (fun _ => ?_)
                clear hK K
                try simp only [Act.put, List.setIfInBounds_toArray, List.set_cons_zero, List.set_cons_succ]
                have HN10 : Hid ((W0.alloc (.cells #[.int .i64 line, .int .i64 kind] 90)).heap[W0.heap.size]? = some (.cells #[.int .i64 line, .int .i64 kind] 90 (0, 0))) := heap_alloc_new _ _
                clear HB
                generalize W0.alloc (.cells #[.int .i64 line, .int .i64 kind] 90) = W10 at *
                generalize W0.heap.size = b10 at *
                refine WalkG.all (rs := [1]) (by kernel_rfl) ⟨by simp, by simp⟩ ?_
                refine ReadyG.cons rfl (fun K hK => ?_) ?_
                · go_simp
                  have HB11 : Hid (Below w.heap.size w (W10.alloc (.cells #[] 90))) := HB10.out.alloc HB10.out.size _
                  refine hK.out _ _ (held_of HB11.out c1) (fun _ => ?_)
                  clear hK K
                  try simp only [Act.put, List.setIfInBounds_toArray, List.set_cons_zero, List.set_cons_succ]
                  have HN11 : Hid ((W10.alloc (.cells #[] 90)).heap[b10]? = some (.cells #[.int .i64 line, .int .i64 kind] 90 (0, 0))) := (((Below.refl _ _).alloc (Nat.le_refl _) (.cells #[] 90)).block _ (lt_of_heap HN10.out)).trans HN10.out
                  have HE11 : Hid ((Value.slice (some ⟨W10.heap.size, 0, none⟩) 0 0).ownBlock ≠ some b10) := fun e => by
                    have e1 : W10.heap.size = b10 := by simpa [Value.ownBlock] using e
                    have e2 := lt_of_heap HN10.out
                    omega
                  have HO11 : Hid ((W10.alloc (.cells #[] 90)).ownsRow w.heap.size 90 2 (.slice (some ⟨W10.heap.size, 0, none⟩) 0 0) 0 []) := ⟨rfl, .inr ⟨_, _, _, rfl, HB10.out.size, heap_alloc_new _ _, Nat.le_refl _, Nat.zero_le _, rfl, rfl⟩⟩
                  clear HB10 HN10
                  generalize W10.alloc (.cells #[] 90) = W11 at *
                  generalize Value.slice (some ⟨W10.heap.size, 0, none⟩) 0 0 = v11 at *
                  refine WalkG.all (rs := [8]) (by kernel_rfl) ⟨by simp, by simp⟩ ?_
                  refine ReadyG.cons rfl (fun K hK => ?_) ?_
                  · refine step_append_own rfl (.tmp 70) (.tmp 76) 86 rfl w.heap.size 90 i0 (.agg #[.int .i64 0, .int .i64 0]) 2 16 Tryd.underlying86 hi hz0 hz1 hz2 rfl (by decide) v11 (0) ([]) rfl HO11.out ⟨g, 0, none⟩ (k) (cap) (missCells (l.take k)) rfl HL1.out (fun j u hu => HN1.out _ HB11.out j u hu) (fun u hu => missCells_one hu) (by unfold maxLen; omega) (by omega) HB11.out.size ?_
                    intro v12 W12 hO hG ho
                    have HB12 : Hid (Below w.heap.size w W12) := below_grown HB11.out hG HB11.out.size (own_ge HO11.out)
                    have HO12 := Lib.hid hO
                    have HN12 := Lib.hid (grown_keep hG HN11.out HE11.out)
                    have HE12 := Lib.hid (own_ne_after ho HE11.out (lt_of_heap HN11.out))
                    refine hK.out _ _ (held_of HB12.out c1) (fun _ => ?_)
                    clear hK K hO hG ho HB11 HO11 HN11 HE11
                    try simp only [Act.put, List.setIfInBounds_toArray]
                    refine WalkG.all (rs := [13]) (by kernel_rfl) ⟨by simp, by simp⟩ ?_
                    refine ReadyG.cons rfl (fun K hK => ?_) ?_
                    · refine step_append_own rfl (.tmp 77) (.tmp 81) 86 rfl w.heap.size 90 i0 (.agg #[.int .i64 0, .int .i64 0]) 2 16 Tryd.underlying86 hi hz0 hz1 hz2 rfl (by decide) v12 (0 + k) ([] ++ missCells (l.take k)) rfl HO12.out ⟨b10, 0, none⟩ (1) (1) ([.int .i64 line, .int .i64 kind]) rfl rfl (fun j u hu => by rw [Addr.add_lit, Nat.zero_add]; simp only [World.cell?, HN12.out]; simpa using hu) (by simp [Value.oneCell']) (by unfold maxLen; omega) (by omega) HB12.out.size ?_
                      intro v13 W13 hO hG ho
                      have HB13 : Hid (Below w.heap.size w W13) := below_grown HB12.out hG HB12.out.size (own_ge HO12.out)
                      have HO13 := Lib.hid hO
                      have HN13 := Lib.hid (grown_keep hG HN12.out HE12.out)
                      have HE13 := Lib.hid (own_ne_after ho HE12.out (lt_of_heap HN12.out))
                      refine hK.out _ _ (held_of HB13.out c1) (fun _ => ?_)
                      clear hK K hO hG ho HB12 HO12 HN12 HE12
                      try simp only [Act.put]
                      refine WalkG.all (rs := [20]) (by kernel_rfl) ⟨by simp, by simp⟩ ?_
                      refine ReadyG.cons rfl (fun K hK => ?_) ?_
                      · refine step_append_own rfl (.tmp 82) (.tmp 88) 86 rfl w.heap.size 90 i0 (.agg #[.int .i64 0, .int .i64 0]) 2 16 Tryd.underlying86 hi hz0 hz1 hz2 rfl (by decide) v13 (0 + k + (1)) ([] ++ missCells (l.take k) ++ [.int .i64 line, .int .i64 kind]) rfl HO13.out ad (l.length - k) (cap - k) (missCells (l.drop k)) rfl HL2.out (fun j u hu => HN2.out _ HB13.out j u hu) (fun u hu => missCells_one hu) (by unfold maxLen; omega) (by omega) HB13.out.size ?_
                        intro v14 W14 hO hG ho
                        have HB14 : Hid (Below w.heap.size w W14) := below_grown HB13.out hG HB13.out.size (own_ge HO13.out)
                        have HO14 := Lib.hid hO
                        have HN14 := Lib.hid (grown_keep hG HN13.out HE13.out)
                        have HE14 := Lib.hid (own_ne_after ho HE13.out (lt_of_heap HN13.out))
                        refine hK.out _ _ (held_of HB14.out c1) (fun _ => ?_)
                        clear hK K hO hG ho HB13 HO13 HN13 HE13
                        try simp only [Act.put]
                        refine WalkG.take (i := 21) (v := ?_) rfl (by kernel_rfl) (fun _ _ _ h => h) (Or.inl ⟨by rfl, ?_⟩) (held_of HB14.out c1) ?_
                        rotate_left
                        · intro W hSW
                          (try dsimp only at hSW)
                          go_simp
                          try (with_reducible rfl)
                        try simp only [Act.put]
                        refine WalkG.take (i := 22) (v := ?_) rfl (by kernel_rfl) (fun _ _ _ h => h) (Or.inl ⟨by rfl, ?_⟩) (held_of HB14.out c1) ?_
                        rotate_left
                        · intro W hSW
                          (try dsimp only at hSW)
                          go_simp
                          try (with_reducible rfl)
                        try simp only [Act.put]
                        obtain ⟨G, cp, rfl, hG⟩ : ∃ G cp, v14 = .slice (some ⟨G, 0, none⟩) (0 + k + (1) + (l.length - k)) cp ∧ w.heap.size ≤ G := by
                          rcases HO14.out.2 with ⟨_, h⟩ | ⟨G, cp, cur, h, h2, -⟩
                          · omega
                          · exact ⟨G, cp, h, h2⟩
                        have hfz : W14.frozen? ⟨r, 1, none⟩ = false := nofreeze ((HB14.out.block r (lt_of_heap HM.out.box)).trans HM.out.box)
                        have hcr := held_of HB14.out c1
                        have HX := Lib.hid ((HB14.out.block r (lt_of_heap HM.out.box)).trans HM.out.box)
                        refine WalkG.last rfl (by kernel_rfl) (by kernel_rfl) (fun K hK => ?_)
                        go_simp
                        refine hK.out _ _ ?_
                        clear hK K hfz hcr
                        go_wp2
                        go_ret
                        have hrl := lt_of_heap HM.out.box
                        refine ⟨rfl, _, ⟨by simpa using heap_setCell (o := 1) HX.out _, RRow.of_owns (base := w.heap.size) (owns_of_block HO14.out fun q hq => Below.heap_setCell _ _ _ _ (by simp only [Value.ownBlock, Option.some.injEq] at hq; simp only; omega)) (by simp; omega) (by rw [missCells_append]; simp [missCells]), by simp only [Value.ownBlock, ne_eq, Option.some.injEq]; omega, by simp <;> omega⟩, ⟨G, rfl, hG⟩, (Turned.of_below (S := fun q => q = r) HB14.out).setCell (p := ⟨r, 1, none⟩) (.inl rfl) _⟩
                      exact ReadyG.nil
                    exact ReadyG.nil
                  exact ReadyG.nil
                exact ReadyG.nil
              exact ReadyG.nil
theorem drop_step (line : Int) (l : List (Int × Int)) (i : Nat) (m : Int × Int) (h : l[i]? = some m) : dropOf line (l.drop i) = if m.1 == line then l.drop (i + 1) else m :: dropOf line (l.drop (i + 1)) := by
  have hi := (List.getElem?_eq_some_iff.1 h)
  rw [List.drop_eq_getElem_cons hi.1, hi.2]; rfl
theorem take_snoc {l : List (Int × Int)} {i : Nat} {m : Int × Int} (h : l[i]? = some m) (r : List (Int × Int)) : l.take (i + 1) ++ r = l.take i ++ m :: r := by
  rw [List.take_add_one, h]; simp
set_option maxRecDepth 100000 in
set_option maxHeartbeats 8000000 in
theorem rdropM (r most : Nat) (l : List (Int × Int)) (v : Value) (line : Int) (w : World) (h : RefM w r most l v) :
    Calls Tryd.prog 44 #[.pointer (some ⟨r, 0, none⟩), .int .i64 line] w fun e w' => e = .returned (.bool (has line l)) ∧ ∃ v', RefM w' r most (dropOf line l) v' ∧ (v' = v ∨ ∃ q, v'.ownBlock = some q ∧ w.heap.size ≤ q) ∧ Turned (fun q => q = r) w w' := by
  have c0 := h.c0
  have c1 := h.c1
  have few := h.few
  rcases h.row.cells with ⟨rfl, rfl⟩ | ⟨g, cap, rfl, hg, hlc, hc⟩
  · have HM := Lib.hid h
    clear h
    go_enter Tryd.func44, Tryd.ntmps44
    go_wp2
    refine wp_loop_rounds 1 ?_
    rw [rounds_succ]
    go_wp2
    go_ret
    exact ⟨rfl, _, HM.out, .inl rfl, Turned.refl _ _⟩
  · have HC := Lib.hid hc
    have HM := Lib.hid h
    clear h hc
    go_enter Tryd.func44, Tryd.ntmps44
    go_wp2_with fail
    go_loopw [12] (fun v wr => ∃ i : Nat, i ≤ l.length ∧ v = .int .i64 i ∧ Hid (has line l = has line (l.drop i)) ∧ Hid (dropOf line l = l.take i ++ dropOf line (l.drop i)) ∧ Hid (Below w.heap.size w wr)) (fun v _ => l.length - (intOf v).toNat)
    case atStart => exact ⟨0, by omega, rfl, rfl, rfl, Below.refl _ _⟩
    case round =>
      obtain ⟨i, hi, rfl, hp, hk, hbel⟩ := hrel
      by_cases hlt : i < l.length
      · obtain ⟨⟨x, y⟩, hxy⟩ : ∃ m, l[i]? = some m := ⟨_, List.getElem?_eq_getElem hlt⟩
        have hst := Lib.hid (has_step line l i (x, y) hxy)
        have hkt := Lib.hid (kind_step line l i (x, y) hxy)
        have d0 := HC.out _ _ (missCells_get l i _ hxy).1
        have d1 := HC.out _ _ (missCells_get l i _ hxy).2
        have e0 := (hbel.out.cell (cell_lt d0)).trans d0
        have e1 := (hbel.out.cell (cell_lt d1)).trans d1
        have er := (hbel.out.cell (cell_lt c1)).trans c1
        have es := (hbel.out.cell (cell_lt c0)).trans c0
        have hxx := Lib.hid hxy
        clear hxy d0 d1
        by_cases hx : x = line
        · subst hx
          have hdt := Lib.hid (drop_step x l i (x, y) hxx.out)
          have hh : Hid (has x l = true) := by
            show _ = _
            rw [hp.out, hst.out]
            simp
          have hkk : Hid (dropOf x l = l.take i ++ l.drop (i + 1)) := by
            show _ = _
            rw [hk.out, hdt.out]
            simp
          have hwr : IntKind.i64.wrap ((i : Int) + 1) = (i : Int) + 1 := by rw [IntKind.wrap_i64]; omega
          have hwr2 : wrap64 ((i : Int) + 1) = (i : Int) + 1 := by unfold wrap64; omega
          clear hp hk hst hkt hdt hi hxx
          generalize hkq : i = k at *
          clear hkq
          go_upto_region 5 with fail
          have hbw := hbel.out.alloc hbel.out.size (.cells #[.int .i64 x, .int .i64 y] 90)
          have HB : Hid (Below w.heap.size w (wr.alloc (.cells #[.int .i64 x, .int .i64 y] 90)).drew) := hbw.drew
          have hkc : k ≤ cap := by omega
          have hkl2 : (k : Int) ≤ (l.length : Int) := by omega
          have hkc2 : (k : Int) ≤ (cap : Int) := by omega
          have hlc2 : (l.length : Int) ≤ (cap : Int) := by omega
          have hs0 : (0 : Int) ≤ (k : Int) + 1 := by omega
          have hs1 : ((k : Int) + 1).toNat = k + 1 := by omega
          have hs2 : (k : Int) + 1 ≤ (l.length : Int) := by omega
          have hs3 : k + 1 ≤ l.length := by omega
          have HL1 : Hid ((missCells (l.take k)).length = k * 2) := by show _ = _; rw [missCells_length, List.length_take]; omega
          have HL3 : Hid ((missCells (l.take (k + 1))).length = (k + 1) * 2) := by show _ = _; rw [missCells_length, List.length_take]; omega
          have HL2 : Hid ((missCells (l.drop (k + 1))).length = (l.length - (k + 1)) * 2) := by show _ = _; rw [missCells_length, List.length_drop]
          have HN1 : Hid (∀ W, Below w.heap.size w W → ∀ j u, (missCells (l.take k))[j]? = some u → W.cell? ((⟨g, 0, none⟩ : Addr).add j) = some u) := fun W hb j u hu => by
            have h1 := HC.out j u (by
              have e : missCells l = missCells (l.take k) ++ missCells (l.drop k) := by rw [← missCells_append, List.take_append_drop]
              rw [e, List.getElem?_append_left (List.getElem?_eq_some_iff.1 hu).1]
              exact hu)
            rw [Addr.add_lit, Nat.zero_add]
            exact (hb.cell (cell_lt h1)).trans h1
          obtain ⟨ad, had, hn2⟩ : ∃ ad, (if cap = k + 1 then some (⟨g, 0, none⟩ : Addr) else some ⟨g, (k + 1) * 2, none⟩) = some ad ∧ ∀ W, Below w.heap.size w W → ∀ j u, (missCells (l.drop (k + 1)))[j]? = some u → W.cell? (ad.add j) = some u := by
            by_cases hck : cap = k + 1
            · refine ⟨_, if_pos hck, fun W hb j u hu => ?_⟩
              rw [List.drop_of_length_le (by omega)] at hu
              simp [missCells] at hu
            · refine ⟨_, if_neg hck, fun W hb j u hu => ?_⟩
              have h1 := HC.out ((k + 1) * 2 + j) u (by
                have e : missCells l = missCells (l.take (k + 1)) ++ missCells (l.drop (k + 1)) := by rw [← missCells_append, List.take_append_drop]
                rw [e, List.getElem?_append_right (by rw [HL3.out]; omega), HL3.out, show (k + 1) * 2 + j - (k + 1) * 2 = j by omega]
                exact hu)
              rw [Addr.add_lit]
              exact (hb.cell (cell_lt h1)).trans h1
          have HN2 := Lib.hid hn2
          clear hn2 HL3
          obtain ⟨i0, hi, hzz⟩ := Option.map_eq_some_iff.1 Tryd.infoRMiss
          have hz0 : i0.zero = some (.agg #[.int .i64 0, .int .i64 0]) := congrArg Prod.fst hzz
          have hz1 : i0.size = 2 := congrArg (fun z => z.2.1) hzz
          have hz2 : i0.bytes = 16 := congrArg (fun z => z.2.2) hzz
          clear hzz
          clear hbel hbw er es e0 e1
          refine wp_region_G 19 (fun W => W.cell? ⟨r, 1, none⟩ = some (.slice (some ⟨g, 0, none⟩) l.length cap)) (by kernel_rfl) ?_
          generalize (wr.alloc (.cells #[.int .i64 x, .int .i64 y] 90)).drew = W0 at *
          refine WalkG.take (i := 0) (v := ?_) rfl (by kernel_rfl) (fun _ _ _ h => h) (Or.inl ⟨by rfl, ?_⟩) (held_of HB.out c1) ?_
          rotate_left
          · intro W hSW
            (try dsimp only at hSW)
            go_simp
            try (with_reducible rfl)
          try simp only [Act.put, List.setIfInBounds_toArray]
          refine WalkG.take (i := 2) (v := ?_) rfl (by kernel_rfl) (fun _ _ _ h => h) (Or.inl ⟨by rfl, ?_⟩) (held_of HB.out c1) ?_
          rotate_left
          · intro W hSW
            (try dsimp only at hSW)
            go_simp
            try (with_reducible rfl)
          try simp only [Act.put]
          refine WalkG.take (i := 3) (v := ?_) rfl (by kernel_rfl) (fun _ _ _ h => h) (Or.inl ⟨by rfl, ?_⟩) (held_of HB.out c1) ?_
          rotate_left
          · intro W hSW
            (try dsimp only at hSW)
            go_simp
            try (with_reducible rfl)
          try simp only [Act.put]
          refine WalkG.take (i := 4) (v := ?_) rfl (by kernel_rfl) (fun _ _ _ h => h) (Or.inl ⟨by rfl, ?_⟩) (held_of HB.out c1) ?_
          rotate_left
          · intro W hSW
            (try dsimp only at hSW)
            go_simp
            try (with_reducible rfl)
          try simp only [Act.put]
          refine WalkG.take (i := 5) (v := ?_) rfl (by kernel_rfl) (fun _ _ _ h => h) (Or.inl ⟨by rfl, ?_⟩) (held_of HB.out c1) ?_
          rotate_left
          · intro W hSW
            (try dsimp only at hSW)
            go_simp
            try (with_reducible rfl)
          try simp only [Act.put]
          refine WalkG.take (i := 6) (v := ?_) rfl (by kernel_rfl) (fun _ _ _ h => h) (Or.inl ⟨by rfl, ?_⟩) (held_of HB.out c1) ?_
          rotate_left
          · intro W hSW
            (try dsimp only at hSW)
            go_simp
            try (with_reducible rfl)
          try simp only [Act.put]
          refine WalkG.take (i := 7) (v := ?_) rfl (by kernel_rfl) (fun _ _ _ h => h) (Or.inl ⟨by rfl, ?_⟩) (held_of HB.out c1) ?_
          rotate_left
          · intro W hSW
            (try dsimp only at hSW)
            go_simp
            try (with_reducible rfl)
          try simp only [Act.put]
          refine WalkG.take (i := 9) (v := ?_) rfl (by kernel_rfl) (fun _ _ _ h => h) (Or.inl ⟨by rfl, ?_⟩) (held_of HB.out c1) ?_
          rotate_left
          · intro W hSW
            (try dsimp only at hSW)
            go_simp
            try (with_reducible rfl)
          try simp only [Act.put]
          refine WalkG.take (i := 10) (v := ?_) rfl (by kernel_rfl) (fun _ _ _ h => h) (Or.inl ⟨by rfl, ?_⟩) (held_of HB.out c1) ?_
          rotate_left
          · intro W hSW
            (try dsimp only at hSW)
            go_simp
            try (with_reducible rfl)
          try simp only [Act.put]
          refine WalkG.take (i := 11) (v := ?_) rfl (by kernel_rfl) (fun _ _ _ h => h) (Or.inl ⟨by rfl, ?_⟩) (held_of HB.out c1) ?_
          rotate_left
          · intro W hSW
            (try dsimp only at hSW)
            go_simp
            try (with_reducible rfl)
          try simp only [Act.put]
          refine WalkG.take (i := 12) (v := ?_) rfl (by kernel_rfl) (fun _ _ _ h => h) (Or.inl ⟨by rfl, ?_⟩) (held_of HB.out c1) ?_
          rotate_left
          · intro W hSW
            (try dsimp only at hSW)
            go_simp
            try (with_reducible rfl)
          try simp only [Act.put]
          refine WalkG.take (i := 13) (v := ?_) rfl (by kernel_rfl) (fun _ _ _ h => h) (Or.inl ⟨by rfl, ?_⟩) (held_of HB.out c1) ?_
          rotate_left
          · intro W hSW
            (try dsimp only at hSW)
            go_simp
            try (with_reducible rfl)
          try simp only [Act.put]
          refine WalkG.take (i := 14) (v := ?_) rfl (by kernel_rfl) (fun _ _ _ h => h) (Or.inl ⟨by rfl, ?_⟩) (held_of HB.out c1) ?_
          rotate_left
          · intro W hSW
            (try dsimp only at hSW)
            go_simp
            try (with_reducible rfl)
          try simp only [Act.put]
          refine WalkG.take (i := 15) (v := ?_) rfl (by kernel_rfl) (fun _ _ _ h => h) (Or.inl ⟨by rfl, ?_⟩) (held_of HB.out c1) ?_
          rotate_left
          · intro W hSW
            (try dsimp only at hSW)
            go_simp
            try (with_reducible rfl)
          try simp only [Act.put]
          try simp only [had]
          clear had hkl2 hkc2 hlc2 hs0 hs1 hs2 hwr hwr2
          refine WalkG.all (rs := [1]) (by kernel_rfl) ⟨by simp, by simp⟩ ?_
          refine ReadyG.cons rfl (fun K hK => ?_) ?_
          · go_simp
            have HB1 : Hid (Below w.heap.size w (W0.alloc (.cells #[] 90))) := HB.out.alloc HB.out.size _
            refine hK.out _ _ (held_of HB1.out c1) (fun _ => ?_)
            clear hK K
            try simp only [Act.put, List.setIfInBounds_toArray, List.set_cons_zero, List.set_cons_succ]
            have HO1 : Hid ((W0.alloc (.cells #[] 90)).ownsRow w.heap.size 90 2 (.slice (some ⟨W0.heap.size, 0, none⟩) 0 0) 0 []) := ⟨rfl, .inr ⟨_, _, _, rfl, HB.out.size, heap_alloc_new _ _, Nat.le_refl _, Nat.zero_le _, rfl, rfl⟩⟩
            have HZ1 : Hid ((Value.slice (some ⟨W0.heap.size, 0, none⟩) 0 0).ownBlock ≠ none) := fun e => by simp [Value.ownBlock] at e
            clear HB
            generalize W0.alloc (.cells #[] 90) = W1 at *
            generalize Value.slice (some ⟨W0.heap.size, 0, none⟩) 0 0 = v1 at *
            refine WalkG.all (rs := [8]) (by kernel_rfl) ⟨by simp, by simp⟩ ?_
            refine ReadyG.cons rfl (fun K hK => ?_) ?_
            · refine step_append_own rfl (.tmp 22) (.tmp 28) 86 rfl w.heap.size 90 i0 (.agg #[.int .i64 0, .int .i64 0]) 2 16 Tryd.underlying86 hi hz0 hz1 hz2 rfl (by decide) v1 (0) ([]) rfl HO1.out ⟨g, 0, none⟩ (k) (cap) (missCells (l.take k)) rfl HL1.out (fun j u hu => HN1.out _ HB1.out j u hu) (fun u hu => missCells_one hu) (by unfold maxLen; omega) (by omega) HB1.out.size ?_
              intro v2 W2 hO hG ho
              have HB2 : Hid (Below w.heap.size w W2) := below_grown HB1.out hG HB1.out.size (own_ge HO1.out)
              have HO2 := Lib.hid hO
              have HZ2 := Lib.hid (own_some_after ho HZ1.out)
              refine hK.out _ _ (held_of HB2.out c1) (fun _ => ?_)
              clear hK K hO hG ho HB1 HO1 HZ1
              try simp only [Act.put, List.setIfInBounds_toArray]
              refine WalkG.all (rs := [16]) (by kernel_rfl) ⟨by simp, by simp⟩ ?_
              refine ReadyG.cons rfl (fun K hK => ?_) ?_
              · refine step_append_own rfl (.tmp 29) (.tmp 36) 86 rfl w.heap.size 90 i0 (.agg #[.int .i64 0, .int .i64 0]) 2 16 Tryd.underlying86 hi hz0 hz1 hz2 rfl (by decide) v2 (0 + k) ([] ++ missCells (l.take k)) rfl HO2.out ad (l.length - (k + 1)) (cap - (k + 1)) (missCells (l.drop (k + 1))) rfl HL2.out (fun j u hu => HN2.out _ HB2.out j u hu) (fun u hu => missCells_one hu) (by unfold maxLen; omega) (by omega) HB2.out.size ?_
                intro v3 W3 hO hG ho
                have HB3 : Hid (Below w.heap.size w W3) := below_grown HB2.out hG HB2.out.size (own_ge HO2.out)
                have HO3 := Lib.hid hO
                have HZ3 := Lib.hid (own_some_after ho HZ2.out)
                refine hK.out _ _ (held_of HB3.out c1) (fun _ => ?_)
                clear hK K hO hG ho HB2 HO2 HZ2
                try simp only [Act.put]
                refine WalkG.take (i := 17) (v := ?_) rfl (by kernel_rfl) (fun _ _ _ h => h) (Or.inl ⟨by rfl, ?_⟩) (held_of HB3.out c1) ?_
                rotate_left
                · intro W hSW
                  (try dsimp only at hSW)
                  go_simp
                  try (with_reducible rfl)
                try simp only [Act.put]
                refine WalkG.take (i := 18) (v := ?_) rfl (by kernel_rfl) (fun _ _ _ h => h) (Or.inl ⟨by rfl, ?_⟩) (held_of HB3.out c1) ?_
                rotate_left
                · intro W hSW
                  (try dsimp only at hSW)
                  go_simp
                  try (with_reducible rfl)
                try simp only [Act.put]
                obtain ⟨G, cp, rfl, hG⟩ : ∃ G cp, v3 = .slice (some ⟨G, 0, none⟩) (0 + k + (l.length - (k + 1))) cp ∧ w.heap.size ≤ G := by
                  rcases HO3.out.2 with ⟨h, _⟩ | ⟨G, cp, cur, h, h2, -⟩
                  · exact absurd (by rw [h]; rfl) HZ3.out
                  · exact ⟨G, cp, h, h2⟩
                have hfz : W3.frozen? ⟨r, 1, none⟩ = false := nofreeze ((HB3.out.block r (lt_of_heap HM.out.box)).trans HM.out.box)
                have hcr := held_of HB3.out c1
                have HX := Lib.hid ((HB3.out.block r (lt_of_heap HM.out.box)).trans HM.out.box)
                refine WalkG.last rfl (by kernel_rfl) (by kernel_rfl) (fun K hK => ?_)
                go_simp
                refine hK.out _ _ ?_
                clear hK K hfz hcr
                go_wp2
                go_ret
                have hrl := lt_of_heap HM.out.box
                rw [hkk.out]
                refine ⟨by rw [hh.out]; rfl, _, ⟨by simpa using heap_setCell (o := 1) HX.out _, RRow.of_owns (base := w.heap.size) (owns_of_block HO3.out fun q hq => Below.heap_setCell _ _ _ _ (by simp only [Value.ownBlock, Option.some.injEq] at hq; simp only; omega)) (by simp; omega) (by rw [missCells_append]; simp), by simp only [Value.ownBlock, ne_eq, Option.some.injEq]; omega, by simp <;> omega⟩, .inr ⟨G, rfl, hG⟩, (Turned.of_below (S := fun q => q = r) HB3.out).setCell (p := ⟨r, 1, none⟩) (.inl rfl) _⟩
              exact ReadyG.nil
            exact ReadyG.nil
          exact ReadyG.nil
        · have hx' : (x == line) = false := by simpa using hx
          have hp2 : Hid (has line l = has line (l.drop (i + 1))) := by
            show _ = _
            rw [hp.out, hst.out]
            simp [hx']
          have hdt := Lib.hid (drop_step line l i (x, y) hxx.out)
          have hk2 : Hid (dropOf line l = l.take (i + 1) ++ dropOf line (l.drop (i + 1))) := by
            show _ = _
            rw [hk.out, hdt.out, take_snoc hxx.out]
            simp [hx']
          clear hxx hdt
          go_wp2_with fail
          go_roundw
          case rel => exact ⟨i + 1, by omega, by go_num, hp2, hk2, hbel.out.alloc hbel.out.size _⟩
          case measure => simp [intOf]; omega
      · have hil : i = l.length := by omega
        have hh : Hid (has line l = false) := by
          show _ = _
          rw [hp.out, hil, List.drop_length]
          rfl
        have hkk : Hid (dropOf line l = l) := by
          show _ = _
          rw [hk.out, hil, List.drop_length]
          simp [dropOf]
        subst hil
        go_wp2_with fail
        go_ret
        exact ⟨by rw [hh.out]; rfl, _, by rw [hkk.out]; exact HM.out.below (hbel.out.mono (Nat.le_refl _)), .inl rfl, .of_below hbel.out⟩
end Go.Proofs.YtjnoaidceddpjaaDoor
