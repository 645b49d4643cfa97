/- The table of misses (package mshr): slices.Insert of one where there is no room. The table of misses (package mshr): slices.Insert of one, whatever the room. The table of misses (package mshr): Add. The table of misses (package mshr): Add, of a line and a kind. The table of misses (package mshr): Add, where the line is not under way. -/
import Derived.Test.YtjnoaidceddpjaaDoorMshrF
import Derived.Lib.AppendZerosOnto
namespace Go.Proofs.YtjnoaidceddpjaaDoor
open Go.RowKit Go.Extern.Stop Go.Stop Go.Extern

theorem grown_setRow_new {w w1 : World} {g : Nat} (h : w.grownBy w1 none) (hg : w.heap.size ≤ g) (c : Array Value) : w.grownBy (w1.setRow g c) none := by
  refine ⟨h.os, h.tape, h.output, by have := h.size; simpa [World.setRow] using this, fun k hk hne => ?_⟩
  simp only [World.setRow, Array.getElem?_modify]
  rw [if_neg (by omega)]
  exact h.block k hk hne
set_option maxRecDepth 100000 in
set_option maxHeartbeats 1000000 in
theorem insertMiss_grow (g n p : Nat) (xs ys : List (Int × Int)) (x y : Int) (b : Nat) (w : World) (hv : MissRow w (.slice (some ⟨g, 0, none⟩) n n) (xs ++ ys)) (hn : (xs ++ ys).length = n) (hp : xs.length = p) (hpn : p < n) (hl : n ≤ 1000) (hb : w.heap[b]? = some (.cells #[.int .i64 x, .int .i64 y] 91 (0, 0))) :
    Calls Tryd.prog 62 #[.slice (some ⟨g, 0, none⟩) n n, .int .i64 p, .slice (some ⟨b, 0, none⟩) 1 1] w fun e w' => ∃ G, e = .returned (.slice (some ⟨w.heap.size, 0, none⟩) (n + 1) G) ∧ MissRow w' (.slice (some ⟨w.heap.size, 0, none⟩) (n + 1) G) (xs ++ (x, y) :: ys) ∧ w.grownBy w' none := by
  obtain ⟨cur, hheap, -, hmax, hsz, htake, -⟩ := hv.heap
  rw [hn] at htake
  have hgw : g < w.heap.size := lt_of_heap hheap
  have hbw : b < w.heap.size := lt_of_heap hb
  have hxs : (missCells xs).length = p * 2 := by rw [missCells_length, hp]
  have hys : (missCells ys).length = (n - p) * 2 := by
    rw [missCells_length]
    have : (xs ++ ys).length = xs.length + ys.length := List.length_append
    rw [show ys.length = n - p from by omega]
  have htk : cur.toList.take (n * 2) = missCells xs ++ missCells ys := by rw [htake, missCells_append]
  have hgetx : ∀ (j : Nat) (u : Value), (missCells xs)[j]? = some u → cur.toList[j]? = some u := by
    intro j u hu
    have hj := (List.getElem?_eq_some_iff.1 hu).1
    have h1 : (cur.toList.take (n * 2))[j]? = some u := by
      rw [htk, List.getElem?_append_left (by omega)]; exact hu
    rw [List.getElem?_take_of_lt (by omega)] at h1
    exact h1
  have hget : ∀ (j : Nat) (u : Value), (missCells ys)[j]? = some u → cur.toList[p * 2 + j]? = some u := by
    intro j u hu
    have hj := (List.getElem?_eq_some_iff.1 hu).1
    have h1 : (cur.toList.take (n * 2))[p * 2 + j]? = some u := by
      rw [htk, List.getElem?_append_right (by omega), hxs, show p * 2 + j - p * 2 = j from by omega]; exact hu
    rw [List.getElem?_take_of_lt (by omega)] at h1
    exact h1
  have hold : (Builtin.firstCells (Tryd.t91).size p (.slice (some ⟨g, 0, none⟩) p n)).run Tryd.prog w.drew = .ok (missCells xs).toArray w.drew :=
    run_firstCells_some w.drew 2 p ⟨g, 0, none⟩ p n (missCells xs) hxs (fun j u hj => by
      rw [Addr.add_lit, Nat.zero_add]; show w.cell? _ = some u; simp only [World.cell?, hheap]; simpa using hgetx j u hj)
  have hik : p + (n + 1 - p) = n + 1 := by omega
  have hkk : (n : Int) + 1 - (p : Int) = ((n + 1 - p : Nat) : Int) := by omega
  have hrz : ∀ ty, (Builtin.append_ #[76, 3] ty #[.slice (some ⟨g, 0, none⟩) p n, .int .i64 ((n : Int) + 1 - (p : Int))]).run Tryd.prog w =
      .ok (.slice (some ⟨w.heap.size, 0, none⟩) (n + 1) (grownCap w (n + 1) n 91)) (w.drew.alloc (.cells ((missCells xs).toArray ++ Builtin.zeroCells #[Value.int .i64 0, Value.int .i64 0] (n + 1 - p) ++ Builtin.zeroCells #[Value.int .i64 0, Value.int .i64 0] (grownCap w (n + 1) n 91 - (n + 1))) 91)) := fun ty => by
    have h := Lib.run_append_grow_zeros w 76 3 ty 91 Tryd.t91 (.agg #[.int .i64 0, .int .i64 0]) .i64 .i64 Tryd.underlying76 (by kernel_rfl) (by kernel_rfl) (by kernel_rfl) (some ⟨g, 0, none⟩) p n (missCells xs) hold (n + 1 - p) (by omega) (by decide) (by omega) (by omega)
      (by rw [show (Tryd.t91).bytes = 16 from rfl]; omega) (by rw [hik]; exact growslice_fits (by omega) (by rw [show (Tryd.t91).bytes = 16 from rfl]; omega))
    rw [hik] at h
    rw [hkk]
    exact h
  have hGn : n + 1 ≤ grownCap w (n + 1) n 91 := grownCap_ge w _ _ _
  have hGm : grownCap w (n + 1) n 91 ≤ maxLen := grownCap_le_maxLen w (n + 1) n _ (by unfold maxLen; omega)
  generalize grownCap w (n + 1) n 91 = G at hrz hGn hGm
  obtain ⟨R0, hR0⟩ : ∃ R0 : Array Value, R0 = (missCells xs).toArray ++ Builtin.zeroCells #[Value.int .i64 0, Value.int .i64 0] (n + 1 - p) ++ Builtin.zeroCells #[Value.int .i64 0, Value.int .i64 0] (G - (n + 1)) := ⟨_, rfl⟩
  rw [← hR0] at hrz
  have hR0s : R0.size = G * 2 := by
    rw [hR0]
    simp only [Array.size_append, List.size_toArray, size_zeroCells, hxs]
    simp
    omega
  have hR0t : R0.toList.take (p * 2) = missCells xs := by
    rw [hR0]
    simp only [Array.toList_append, List.append_assoc]
    exact List.take_left' hxs
  obtain ⟨N, hN⟩ : ∃ N, N = w.heap.size := ⟨_, rfl⟩
  obtain ⟨R1, hR1⟩ : ∃ R1 : Array Value, R1 = (R0.toList.take (p * 2) ++ [Value.int .i64 x, Value.int .i64 y] ++ R0.toList.drop (p * 2 + 2)).toArray := ⟨_, rfl⟩
  have hR1s : R1.size = G * 2 := by
    rw [← Array.length_toList, hR1]
    have : R0.toList.length = G * 2 := by simpa using hR0s
    simp only [List.length_append, List.length_take, List.length_drop, List.length_cons, List.length_nil]
    omega
  have hcp1 : ∀ (W : World), W.heap[N]? = some (.cells R0 91 (0, 0)) → W.heap[b]? = some (.cells #[.int .i64 x, .int .i64 y] 91 (0, 0)) → ∀ ty dL dc, dL = n + 1 - p → (Builtin.copy_ #[76, 76] ty #[.slice (some ⟨N, p * 2, none⟩) dL dc, .slice (some ⟨b, 0, none⟩) 1 1]).run Tryd.prog W = .ok (goInt ((1 : Nat) : Int)) (W.setRow N R1) := fun W h1 h2 ty dL dc hdL => by
    rw [hR1]
    exact run_copy_k W _ _ ty 91 2 N (p * 2) _ dc ⟨b, 0, none⟩ 1 1 R0 91 [.int .i64 x, .int .i64 y] 1 Tryd.underlying76 Tryd.sizeMiss h1 (by simp only [Nat.min_def]; split <;> omega) rfl
      (fun j u hj => by rw [Addr.add_lit, Nat.zero_add]; simp only [World.cell?, h2]; simpa using hj) (by simp; omega) (by simp [Value.oneCell'])
  obtain ⟨R2, hR2⟩ : ∃ R2 : Array Value, R2 = (R1.toList.take ((p + 1) * 2) ++ missCells ys ++ R1.toList.drop ((p + 1) * 2 + (missCells ys).length)).toArray := ⟨_, rfl⟩
  have hcp2 : ∀ (W : World), W.heap[N]? = some (.cells R1 91 (0, 0)) → W.heap[g]? = some (.cells cur 91 (0, 0)) → ∀ ty dL dc sL sc, dL = n - p → sL = n - p → (Builtin.copy_ #[76, 76] ty #[.slice (some ⟨N, (p + 1) * 2, none⟩) dL dc, .slice (some ⟨g, p * 2, none⟩) sL sc]).run Tryd.prog W = .ok (goInt ((n - p : Nat) : Int)) (W.setRow N R2) := fun W h1 h2 ty dL dc sL sc hdL hsL => by
    rw [hR2]
    exact run_copy_k W _ _ ty 91 2 N ((p + 1) * 2) _ dc ⟨g, p * 2, none⟩ _ sc R1 91 (missCells ys) (n - p) Tryd.underlying76 Tryd.sizeMiss h1 (by simp only [Nat.min_def]; split <;> omega) hys
      (fun j u hj => by rw [Addr.add_lit]; simp only [World.cell?, h2]; simpa using hget j u hj) (by omega) (fun u hu => missCells_one hu)
  have hfin : ∀ (W : World), W.heap[N]? = some (.cells R1 91 (0, 0)) → MissRow (W.setRow N R2) (.slice (some ⟨N, 0, none⟩) (n + 1) G) (xs ++ (x, y) :: ys) := by
    intro W hW
    have e : (xs ++ (x, y) :: ys).length = n + 1 := by simp at hn ⊢; omega
    have hR1l : R1.toList.take ((p + 1) * 2) = missCells xs ++ [Value.int .i64 x, Value.int .i64 y] := by
      rw [hR1, hR0t]
      simp only [List.append_assoc]
      rw [← List.append_assoc]
      exact List.take_left' (by simp; omega)
    have hR1n : R1.toList.length = G * 2 := by simpa using hR1s
    rw [← e]
    refine MissRow.mk (heap_setRow hW _) (by omega) hGm ?_ ?_
    · rw [← Array.length_toList, hR2]
      simp only [List.length_append, List.length_take, List.length_drop]
      omega
    · rw [e, hR2, hR1l, missCells_append]
      have e2 : missCells ((x, y) :: ys) = [Value.int .i64 x, Value.int .i64 y] ++ missCells ys := rfl
      rw [e2]
      simp only [List.append_assoc]
      rw [← List.append_assoc, ← List.append_assoc, ← List.append_assoc, List.take_left' (by simp; omega)]
  obtain ⟨W1, hW1⟩ : ∃ W1, W1 = w.drew.alloc (.cells R0 91) := ⟨_, rfl⟩
  have k1 : W1.heap[N]? = some (.cells R0 91 (0, 0)) := by rw [hW1, hN]; exact heap_alloc_new w.drew _
  have k2 : W1.heap[b]? = some (.cells #[.int .i64 x, .int .i64 y] 91 (0, 0)) := by rw [hW1, heap_alloc_old w.drew _ hbw]; exact hb
  have k3 : W1.heap[g]? = some (.cells cur 91 (0, 0)) := by rw [hW1, heap_alloc_old w.drew _ hgw]; exact hheap
  have k4 : w.grownBy W1 none := by rw [hW1]; exact ⟨rfl, rfl, rfl, by simp, fun k hk _ => heap_alloc_old w.drew _ hk⟩
  rw [← hW1, ← hN] at hrz
  have hcpA := hcp1 W1 k1 k2
  have hcpB := hcp2 (W1.setRow N R1).drew (heap_setRow k1 _) (by show (W1.setRow N R1).heap[g]? = _; rw [setRow_other _ _ _ _ (by omega)]; exact k3)
  have hfin1 := hfin (W1.setRow N R1).drew (heap_setRow k1 _)
  have hwr : IntKind.i64.wrap ((p : Int) + 1) = (p : Int) + 1 := by rw [IntKind.wrap_i64]; omega
  have hq0 : (0 : Int) ≤ (p : Int) + 1 := by omega
  have hq1 : ((p : Int) + 1).toNat = p + 1 := by omega
  have hq2 : (p : Int) + 1 ≤ (n : Int) + 1 := by omega
  have hq3 : ¬ (G = p + 1) := by omega
  have hq4 : ¬ (G = p) := by omega
  have hq5 : (p : Int) ≤ (n : Int) + 1 := by omega
  have hq6 : ((p : Int) == (n : Int)) = false := by simp; omega
  have hq7 : ¬ (n = p) := by omega
  have hq8 : p ≤ n := by omega
  have hq9 : (p : Int) ≤ (n : Int) := by omega
  have K4 := Lib.hid k4
  have Hfin := Lib.hid hfin1
  have HN := Lib.hid hN
  clear hv htake hxs hys htk hsz hgetx hget hold hR0 hR0s hR0t hR1 hR1s hR2 hfin hheap hb hn hp k1 k2 k3 k4 hik hkk hW1 hcp1 hcp2 hfin1 hN
  go_enter Tryd.func62, Tryd.ntmps62
  go_wp2_with (first
    | (at_builtin; refine Lib.wpList_append_run _ rfl _ _ _ _ rfl _ _ rfl rfl _ _ (hrz _) ?_)
    | (at_builtin; refine wpList_copy_is rfl _ _ 76 76 rfl _ _ rfl rfl (hcpA _ _ _ (by omega)) ?_))
  go_region_law (refine step_copy_is rfl _ _ 76 76 rfl _ _ (by simp [Act.eval, Act.put]) (by simp [Act.eval, Act.put]) (hcpB _ _ _ _ _ (by omega) (by omega)) ?_)
  all_goals go_wp2
  all_goals go_ret
  all_goals
    have eN := HN.out
    rw [← eN]
    exact ⟨G, rfl, Hfin.out, grown_setRow_new (grown_drew (grown_setRow_new K4.out (by omega) _)) (by omega) _⟩
end Go.Proofs.YtjnoaidceddpjaaDoor
namespace Go.Proofs.YtjnoaidceddpjaaDoor
open Go.RowKit Go.Extern.Stop Go.Stop Go.Extern

/-- slices.Insert of one miss at p. -/
theorem insertMiss (v : Value) (n p : Nat) (xs ys : List (Int × Int)) (x y : Int) (b : Nat) (w : World) (hv : MissRow w v (xs ++ ys)) (hn : (xs ++ ys).length = n) (hp : xs.length = p) (hl : n ≤ 1000) (hbv : ∀ k, v.ownBlock = some k → b ≠ k) (hb : w.heap[b]? = some (.cells #[.int .i64 x, .int .i64 y] 91 (0, 0))) :
    Calls Tryd.prog 62 #[v, .int .i64 p, .slice (some ⟨b, 0, none⟩) 1 1] w fun e w' => ∃ v', e = .returned v' ∧ MissRow w' v' (xs ++ (x, y) :: ys) ∧ w.grownBy w' v.ownBlock ∧ (v'.ownBlock = v.ownBlock ∨ ∃ k, v'.ownBlock = some k ∧ w.heap.size ≤ k) := by
  have hlen : (xs ++ ys).length = xs.length + ys.length := List.length_append
  by_cases hpn : p < n
  · rcases hv.cells with ⟨rfl, hl0⟩ | ⟨g, cap, hvv, _⟩
    · rw [hl0] at hn
      simp at hn
      omega
    · rw [hn] at hvv
      subst hvv
      obtain ⟨cur, -, hle, -⟩ := hv.heap
      rw [hn] at hle
      by_cases hc : n + 1 ≤ cap
      · refine (insertMiss_room g cap n p xs ys x y b w hv hn hp hpn hc hl (hbv g rfl) hb).mono ?_
        rintro e w1 ⟨rfl, h1, h2⟩
        exact ⟨_, rfl, h1, h2, .inl rfl⟩
      · obtain rfl : cap = n := by omega
        refine (insertMiss_grow g cap p xs ys x y b w hv hn hp hpn hl hb).mono ?_
        rintro e w1 ⟨G, rfl, h1, h2⟩
        exact ⟨_, rfl, h1, ⟨h2.os, h2.tape, h2.output, h2.size, fun k hk _ => h2.block k hk (by simp)⟩, .inr ⟨_, rfl, Nat.le_refl _⟩⟩
  · have hy : ys = [] := List.eq_nil_of_length_eq_zero (by omega)
    subst hy
    simp only [List.append_nil] at hv hn hlen
    have hpe : p = n := by omega
    subst hpe
    refine (insertMiss_end v xs p x y b w hv hn hl hb).mono ?_
    rintro e w1 ⟨v', rfl, h1, h2, h3⟩
    exact ⟨v', rfl, h1, h2, h3⟩
end Go.Proofs.YtjnoaidceddpjaaDoor
namespace Go.Proofs.YtjnoaidceddpjaaDoor
open Go.RowKit Go.Extern.Stop Go.Stop Go.Extern

def sayAdd (line : Int) (a : Addr) : Value := .iface 111 (.agg #[.string ⟨#[109, 115, 104, 114, 46, 65, 100, 100]⟩, .int .i64 line, .iface 165 (.pointer (some a))])
set_option maxRecDepth 100000 in
set_option maxHeartbeats 1000000 in
theorem add_arg (t : Nat) (line kind : Int) (w : World) (a : Nat → Addr) (S : Sents w a) (h : line < 0 ∨ 32 ≤ line ∨ kind < 1 ∨ 4 < kind) :
    Calls Tryd.prog 35 #[.pointer (some ⟨t, 0, none⟩), .int .i64 line, .int .i64 kind] w fun e w' => e = .returned (sayAdd line (a 1)) ∧ Below w.heap.size w w' := by
  have g1 := S.c1
  unfold sayAdd
  by_cases h1 : line < 0
  · go_enter Tryd.func35, Tryd.ntmps35
    go_wp2_with fail
    refine (wrap_some _ line _ _ _).mono ?_
    rintro e w1 ⟨rfl, hb⟩
    have hb' := Lib.hid hb
    clear hb
    go_wp2
    go_ret
    exact ⟨rfl, hb'.out⟩
  · have h1' : 0 ≤ line := by omega
    by_cases h2 : 32 ≤ line
    · go_enter Tryd.func35, Tryd.ntmps35
      go_wp2_with fail
      refine (wrap_some _ line _ _ _).mono ?_
      rintro e w1 ⟨rfl, hb⟩
      have hb' := Lib.hid hb
      clear hb
      go_wp2
      go_ret
      exact ⟨rfl, hb'.out⟩
    · have h2' : line < 32 := by omega
      by_cases h3 : kind < 1
      · go_enter Tryd.func35, Tryd.ntmps35
        go_wp2_with fail
        refine (wrap_some _ line _ _ _).mono ?_
        rintro e w1 ⟨rfl, hb⟩
        have hb' := Lib.hid hb
        clear hb
        go_wp2
        go_ret
        exact ⟨rfl, hb'.out⟩
      · have h3' : 1 ≤ kind := by omega
        have h4 : 4 < kind := by omega
        go_enter Tryd.func35, Tryd.ntmps35
        go_wp2_with fail
        refine (wrap_some _ line _ _ _).mono ?_
        rintro e w1 ⟨rfl, hb⟩
        have hb' := Lib.hid hb
        clear hb
        go_wp2
        go_ret
        exact ⟨rfl, hb'.out⟩
end Go.Proofs.YtjnoaidceddpjaaDoor
namespace Go.Proofs.YtjnoaidceddpjaaDoor
open Go.RowKit Go.Extern.Stop Go.Stop Go.Extern

theorem Sents.below {w w' : World} {a : Nat → Addr} (S : Sents w a) (h : Below w.heap.size w w') : Sents w' a := S.of_below h
set_option maxRecDepth 100000 in
set_option maxHeartbeats 1000000 in
theorem add_busy (t most : Nat) (l : List (Int × Int)) (v : Value) (line kind : Int) (w : World) (a : Nat → Addr) (S : Sents w a) (h : TabAt w t most l v) (hr : Rising l) (h1 : 0 ≤ line) (h2 : line < 32) (h3 : 1 ≤ kind) (h4 : kind ≤ 4) (hh : has line l = true) :
    Calls Tryd.prog 35 #[.pointer (some ⟨t, 0, none⟩), .int .i64 line, .int .i64 kind] w fun e w' => e = .returned (sayAdd line (a 7)) ∧ Below w.heap.size w w' := by
  have HS := Lib.hid S
  have hat := at_is t most l v line w h hr h1 h2
  rw [hh] at hat
  have Hat := Lib.hid hat
  clear h hr hh hat S
  unfold sayAdd
  go_enter Tryd.func35, Tryd.ntmps35
  go_wp2_with fail
  refine (Hat.out).mono ?_
  rintro e w1 ⟨rfl, hb⟩
  have hb' := Lib.hid hb
  have g7 := (HS.out.of_below hb).c7
  clear hb
  go_wp2_with fail
  refine (wrap_some _ line _ _ _).mono ?_
  rintro e w2 ⟨rfl, hb2⟩
  have hb2' := Lib.hid hb2
  clear hb2
  go_wp2
  go_ret
  exact ⟨rfl, hb'.out.trans (hb2'.out.mono hb'.out.size)⟩
end Go.Proofs.YtjnoaidceddpjaaDoor
namespace Go.Proofs.YtjnoaidceddpjaaDoor
open Go.RowKit Go.Extern.Stop Go.Stop Go.Extern

set_option maxRecDepth 100000 in
set_option maxHeartbeats 1000000 in
theorem add_full (t most : Nat) (l : List (Int × Int)) (v : Value) (line kind : Int) (w : World) (a : Nat → Addr) (S : Sents w a) (h : TabAt w t most l v) (hr : Rising l) (h1 : 0 ≤ line) (h2 : line < 32) (h3 : 1 ≤ kind) (h4 : kind ≤ 4) (hh : has line l = false) (hf : most ≤ l.length) :
    Calls Tryd.prog 35 #[.pointer (some ⟨t, 0, none⟩), .int .i64 line, .int .i64 kind] w fun e w' => e = .returned (sayAdd line (a 6)) ∧ Below w.heap.size w w' := by
  have HS := Lib.hid S
  have hat := at_is t most l v line w h hr h1 h2
  rw [hh] at hat
  have Hat := Lib.hid hat
  have HT := Lib.hid h
  have Hf := Lib.hid hf
  clear h hr hh hat S hf
  unfold sayAdd
  go_enter Tryd.func35, Tryd.ntmps35
  go_wp2_with fail
  refine (Hat.out).mono ?_
  rintro e w1 ⟨rfl, hb⟩
  have hb' := Lib.hid hb
  have hful := full_is t most l v w1 (HT.out.below hb)
  rw [decide_eq_true Hf.out] at hful
  have Hful := Lib.hid hful
  clear hb hful
  go_wp2_with fail
  refine (Hful.out).mono ?_
  rintro e w2 ⟨rfl, k, rfl⟩
  have hb3 := hb'.out.trans (below_drewN w.heap.size w1 k)
  have g6 := (HS.out.of_below hb3).c6
  have hb3' := Lib.hid hb3
  clear hb3
  go_wp2_with fail
  refine (wrap_some _ line _ _ _).mono ?_
  rintro e w3 ⟨rfl, hb2⟩
  have hb2' := Lib.hid hb2
  clear hb2
  go_wp2
  go_ret
  exact ⟨rfl, hb3'.out.trans (hb2'.out.mono hb3'.out.size)⟩
set_option maxRecDepth 100000 in
set_option maxHeartbeats 1000000 in
theorem add_in (t most : Nat) (l : List (Int × Int)) (v : Value) (line kind : Int) (w : World) (h : TabAt w t most l v) (hr : Rising l) (h1 : 0 ≤ line) (h2 : line < 32) (h3 : 1 ≤ kind) (h4 : kind ≤ 4) (hh : has line l = false) (hf : ¬ most ≤ l.length) (hm : most ≤ 8) :
    Calls Tryd.prog 35 #[.pointer (some ⟨t, 0, none⟩), .int .i64 line, .int .i64 kind] w fun e w' => e = .returned .nilIface ∧ ∃ v', TabAt w' t most (l.take (lbOf line l) ++ (line, kind) :: l.drop (lbOf line l)) v' ∧ (v'.ownBlock = v.ownBlock ∨ ∃ k, v'.ownBlock = some k ∧ w.heap.size ≤ k) ∧ Turned (fun k => k = t ∨ v.ownBlock = some k) w w' := by
  have hat := at_is t most l v line w h hr h1 h2
  rw [hh] at hat
  have Hat := Lib.hid hat
  have HT := Lib.hid h
  have Hf := Lib.hid hf
  have hlb := lb_le line l
  clear h hr hh hat hf
  go_enter Tryd.func35, Tryd.ntmps35
  go_wp2_with fail
  refine (Hat.out).mono ?_
  rintro e w1 ⟨rfl, hb⟩
  have hb' := Lib.hid hb
  have hful := full_is t most l v w1 (HT.out.below hb)
  rw [decide_eq_false Hf.out] at hful
  have Hful := Lib.hid hful
  have HT1 := Lib.hid (HT.out.below hb)
  clear hb hful
  go_wp2_with fail
  refine (Hful.out).mono ?_
  rintro e w2 ⟨rfl, k, rfl⟩
  have hb3 := hb'.out.trans (below_drewN w.heap.size w1 k)
  have HT2 := Lib.hid (HT.out.below hb3)
  have d1 := (HT.out.below hb3).list_cell
  have hb3' := Lib.hid hb3
  clear hb3
  go_wp2_with fail
  have TW : TabAt ((w1.drewN k).alloc (.cells #[.int .i64 line, .int .i64 kind] 91)) t most l v := HT2.out.below ((Below.refl _ _).alloc (Nat.le_refl _) _)
  have hbW : Below w.heap.size w ((w1.drewN k).alloc (.cells #[.int .i64 line, .int .i64 kind] 91)) := hb3'.out.alloc hb3'.out.size _
  have hnew : ((w1.drewN k).alloc (.cells #[.int .i64 line, .int .i64 kind] 91)).heap[w1.heap.size]? = some (.cells #[.int .i64 line, .int .i64 kind] 91 (0, 0)) := heap_alloc_new (w1.drewN k) _
  have hlt : w.heap.size ≤ w1.heap.size := hb'.out.size
  have htd : l.take (lbOf line l) ++ l.drop (lbOf line l) = l := List.take_append_drop _ _
  refine (insertMiss v l.length (lbOf line l) (l.take (lbOf line l)) (l.drop (lbOf line l)) line kind w1.heap.size _ (by rw [htd]; exact TW.row) (by rw [htd]) (by rw [List.length_take]; omega) TW.few (fun q hq e => by
    have := HT.out.row.lt hq
    omega) hnew).mono ?_
  rintro e w3 ⟨v', rfl, hr3, hg3, ho3⟩
  obtain ⟨g, n, cap, rfl⟩ : ∃ g n cap, v' = .slice (some ⟨g, 0, none⟩) n cap := by
    rcases hr3.cells with ⟨_, h⟩ | ⟨g, cap, h, _⟩
    · simp at h
    · exact ⟨g, _, cap, h⟩
  generalize (w1.drewN k).alloc (.cells #[.int .i64 line, .int .i64 kind] 91) = W at TW hbW hnew hg3 ho3
  have hbox : w3.heap[t]? = some (.cells #[.int .i64 most, v] 119 (0, 0)) := by
    rw [hg3.block t (lt_of_heap TW.box) (fun e => TW.ne e.symm)]; exact TW.box
  have c1 : w3.cell? ⟨t, 1, none⟩ = some v := by simp [World.cell?, hbox]
  have f1 : w3.frozen? ⟨t, 1, none⟩ = false := by simp [World.frozen?, hbox]
  have Hr := Lib.hid hr3
  have Hg := Lib.hid hg3
  have Ho := Lib.hid ho3
  have Hx := Lib.hid hbox
  have HW := Lib.hid hbW
  have Htd := Lib.hid htd
  have HTW := Lib.hid TW
  clear hr3 hg3 ho3 hbox hbW TW htd hnew
  go_wp2
  go_ret
  have hne : (Value.slice (some ⟨g, 0, none⟩) n cap).ownBlock ≠ some t := by
    have hT := lt_of_heap HT.out.box
    rcases Ho.out with h | ⟨q, h, hq⟩
    · rw [h]; exact HT.out.ne
    · rw [h]
      intro e
      simp at e
      have := HW.out.size
      omega
  refine ⟨rfl, _, ⟨?_, ?_, hne, ?_⟩, ?_, ?_⟩
  · have := heap_setCell (o := 1) Hx.out (Value.slice (some ⟨g, 0, none⟩) n cap)
    simpa using this
  · exact Hr.out.of_block (fun q hq => Below.heap_setCell _ _ _ _ (by
      intro e
      simp at e
      exact hne (by rw [hq, e])))
  · have := HT.out.few
    have hF := Hf.out
    simp
    omega
  · rcases Ho.out with h | ⟨q, h, hq⟩
    · exact .inl h
    · exact .inr ⟨q, h, Nat.le_trans HW.out.size hq⟩
  · have hT : Turned (fun k => k = t ∨ v.ownBlock = some k) w w3 := (Turned.of_below HW.out).trans (Turned.of_grown Hg.out (fun q hq => Or.inr hq))
    exact hT.setCell (Or.inl (Or.inl rfl)) _
end Go.Proofs.YtjnoaidceddpjaaDoor
