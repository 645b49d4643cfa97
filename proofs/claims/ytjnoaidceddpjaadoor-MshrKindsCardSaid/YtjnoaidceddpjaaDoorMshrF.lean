/- The table of misses (package mshr): slices.Insert of one. -/
import Derived.Test.YtjnoaidceddpjaaDoorMshrE
import Derived.Maps.AppendAt
import Derived.Lib.Overlaps
namespace Go.Proofs.YtjnoaidceddpjaaDoor
open Go.RowKit Go.Extern.Stop Go.Stop Go.Extern

/-- copy within rows whose elements are k cells wide. -/
theorem run_copy_k {P : Program} (w : World) (dT sT ty elem : TypeId) (k g o dLen dCap : Nat) (a : Addr) (sLen sCap : Nat) (cur : Array Value) (t : TypeId) (cs : List Value) (n : Nat)
    (hu : P.underlying dT = some (.slice elem)) (hs : (P.info? elem).map (·.size) = some k)
    (hg : w.heap[g]? = some (.cells cur t (0, 0))) (hn : Nat.min sLen dLen = n) (hl : cs.length = n * k)
    (hsrc : ∀ j v, cs[j]? = some v → w.cell? (a.add j) = some v) (hfit : o + cs.length ≤ cur.size) (h1 : ∀ v ∈ cs, v.oneCell' = true) :
    (Builtin.copy_ #[dT, sT] ty #[.slice (some ⟨g, o, none⟩) dLen dCap, .slice (some a) sLen sCap]).run P w =
      .ok (goInt n) (w.setRow g (cur.toList.take o ++ cs ++ cur.toList.drop (o + cs.length)).toArray) := by
  have hld := run_loadCells_list (P := P) w a cs hsrc
  rw [hl] at hld
  have hst := run_storeCells_at (P := P) g o t cs 0 cur w hg (by simpa using hfit) h1
  simp only [Nat.add_zero] at hst
  generalize w.setRow g (cur.toList.take o ++ cs ++ cur.toList.drop (o + cs.length)).toArray = w2 at hst ⊢
  cases hq : P.info? elem with
  | none => simp [hq] at hs
  | some i =>
    have hi : i.size = k := by simpa [hq] using hs
    simp [Builtin.copy_, run_underlying hu, Builtin.lenOf, Builtin.firstCells, sizeOf, typeInfo, hq, hi, hn, hld, hst]
set_option maxRecDepth 100000 in
set_option maxHeartbeats 1000000 in
theorem insertMiss_end (v : Value) (l : List (Int × Int)) (n : Nat) (x y : Int) (b : Nat) (w : World) (hv : MissRow w v l) (hn : l.length = n) (hl : n ≤ 1000) (hb : w.heap[b]? = some (.cells #[.int .i64 x, .int .i64 y] 91 (0, 0))) :
    Calls Tryd.prog 62 #[v, .int .i64 n, .slice (some ⟨b, 0, none⟩) 1 1] w fun e w' => ∃ v', e = .returned v' ∧ MissRow w' v' (l ++ [(x, y)]) ∧ w.grownBy w' v.ownBlock ∧ (v'.ownBlock = v.ownBlock ∨ ∃ k, v'.ownBlock = some k ∧ w.heap.size ≤ k) := by
  obtain ⟨i0, hi, hz0, hz1, hz2⟩ := info_parts Tryd.infoMiss
  have hnews : Hid (∀ j u, ([Value.int .i64 x, Value.int .i64 y] : List Value)[j]? = some u → w.cell? ((⟨b, 0, none⟩ : Addr).add j) = some u) := by
    intro j u hu
    rw [Addr.add_lit, Nat.zero_add]
    simp only [World.cell?, hb]
    simpa using hu
  have hone : Hid (∀ u ∈ ([Value.int .i64 x, Value.int .i64 y] : List Value), u.oneCell' = true) := by
    intro u hu
    simp at hu
    rcases hu with rfl | rfl <;> rfl
  have Hv := Lib.hid hv
  have Hn := Lib.hid hn
  have hcat : Hid (missCells (l ++ [(x, y)]) = missCells l ++ [Value.int .i64 x, Value.int .i64 y]) := by rw [missCells_append]; rfl
  rcases hv.cells with ⟨rfl, hl0⟩ | ⟨g, cap, hvv, _⟩
  · have hn0 : n = 0 := by rw [← hn, hl0]; rfl
    subst hn0
    clear hb hl0 hv hn
    go_enter Tryd.func62, Tryd.ntmps62
    go_wp2_with (at_builtin; refine wpList_append_own_at _ rfl (.tmp 23) (.tmp 24) 76 rfl 0 91 i0 (.agg #[.int .i64 0, .int .i64 0]) 2 16 Tryd.underlying76 hi hz0 hz1 hz2 rfl (by decide) (.slice none 0 0) l.length (missCells l) rfl Hv.out ⟨b, 0, none⟩ 1 1 [.int .i64 x, .int .i64 y] rfl rfl hnews.out hone.out (by unfold maxLen; have := Hn.out; omega) (by have := Hn.out; omega) (by omega) ?_; intro v' w1 hown' hgrow _ hat; have Hown := Lib.hid hown'; have Hg := Lib.hid hgrow; have Hat := Lib.hid hat; clear hown' hgrow hat)
    go_ret
    refine ⟨v', rfl, MissRow.of_owns (base := 0) (by rw [hcat.out]; simpa using Hown.out), Hg.out, ?_⟩
    rcases Hat.out with h | h
    · exact .inl h
    · exact .inr ⟨_, h, Nat.le_refl _⟩
  · rw [hn] at hvv
    subst hvv
    clear hb hv hn
    go_enter Tryd.func62, Tryd.ntmps62
    go_wp2_with (at_builtin; refine wpList_append_own_at _ rfl (.tmp 23) (.tmp 24) 76 rfl 0 91 i0 (.agg #[.int .i64 0, .int .i64 0]) 2 16 Tryd.underlying76 hi hz0 hz1 hz2 rfl (by decide) (.slice (some ⟨g, 0, none⟩) n cap) l.length (missCells l) rfl Hv.out ⟨b, 0, none⟩ 1 1 [.int .i64 x, .int .i64 y] rfl rfl hnews.out hone.out (by unfold maxLen; have := Hn.out; omega) (by have := Hn.out; omega) (by omega) ?_; intro v' w1 hown' hgrow _ hat; have Hown := Lib.hid hown'; have Hg := Lib.hid hgrow; have Hat := Lib.hid hat; clear hown' hgrow hat)
    all_goals
      go_ret
      refine ⟨v', rfl, MissRow.of_owns (base := 0) (by rw [hcat.out]; simpa using Hown.out), Hg.out, ?_⟩
      rcases Hat.out with h | h
      · exact .inl h
      · exact .inr ⟨_, h, Nat.le_refl _⟩
/-- Where s[i:] begins. -/
theorem tail_addr (w : World) (g cap i : Nat) (cs : List Value) (h : cs ≠ [] → i ≠ cap) (hc : ∀ j u, cs[j]? = some u → w.cell? ⟨g, i * 2 + j, none⟩ = some u) :
    ∃ A : Addr, (if cap = i then some (⟨g, 0, none⟩ : Addr) else some ⟨g, i * 2, none⟩) = some A ∧ Hid (∀ j u, cs[j]? = some u → w.cell? (A.add j) = some u) := by
  by_cases e : cap = i
  · refine ⟨⟨g, 0, none⟩, by simp [e], fun j u hu => ?_⟩
    have : cs = [] := by
      by_cases hn : cs = []
      · exact hn
      · exact absurd e.symm (h hn)
    subst this
    simp at hu
  · exact ⟨⟨g, i * 2, none⟩, by simp [e], fun j u hu => by rw [Addr.add_lit]; exact hc j u hu⟩
/-- The operation copy(d, s), where its run is known. -/
theorem wpList_copy_is {P : Program} {w : World} {ops : Array Oper} {rest : List Oper} {o : Oper} {a : Act} {Q : Exit → Act → World → Prop} (hgd : o.guard = none) (d s : Operand) (t t' : TypeId)
    (ho : o.op = .call { callee := .builtin .copy, args := #[d, s], argTypes := #[t, t'] }) (v u : Value) (hd : a.eval d = v) (hs : a.eval s = u) {v' : Value} {w' : World}
    (hr : (Builtin.copy_ #[t, t'] o.type #[v, u]).run P w = .ok v' w') (h : wpList P ops Q rest (a.put o.dst v') w') : wpList P ops Q (o :: rest) a w := by
  refine wpList_plain hgd fun _ hK => ?_
  unfold Oper.wp execOp
  simp only [ho, resolve, invoke, builtin, Sem.run_bind, Sem.run_pure, Result.andThen_ok, List.map_toArray, List.map_cons, List.map_nil, hd, hs, hr]
  exact hK _ _ h
/-- .. and as one step of a region that draws. -/
theorem step_copy_is {P : Program} {ops : Array Oper} {o : Oper} {a : Act} {w : World} {K : Act → World → Prop} {Q : Exit → Act → World → Prop} {E : Prop}
    (hg : o.guard = none) (d x : Operand) (dT sT : TypeId) (hop : o.op = Op.call { callee := Callee.builtin Builtin.copy, args := #[d, x], argTypes := #[dT, sT] })
    (v u : Value) (hd : a.eval d = v) (hx : a.eval x = u) {v' : Value} {w' : World} (hr : (Builtin.copy_ #[dT, sT] o.type #[v, u]).run P w = .ok v' w') (hK : K (a.put o.dst v') w') :
    if Region.wanted o (yielded ops a.tmps) = true then Oper.wp P o a w K Q else E := by
  have hw : Region.wanted o (yielded ops a.tmps) = true := by simp [Region.wanted, hg]
  rw [if_pos hw]
  unfold Oper.wp
  simp [execOp, hop, resolve, invoke, builtin, hd, hx, hr, Result.andThen]
  exact hK
theorem Tryd.sizeMiss : (Tryd.prog.info? 91).map (·.size) = some 2 := by kernel_rfl
theorem Tryd.sizeOfMiss (w : World) : (Go.sizeOf 91).run Tryd.prog w = .ok 2 w := by kernel_rfl
theorem run_overlapsMiss (b g : Nat) (la ca lb cb o : Nat) (c1 c2 : Array Value) (w : World) (hne : b ≠ g) (hb : w.heap[b]? = some (.cells c1 91 (0, 0))) (hg : w.heap[g]? = some (.cells c2 91 (0, 0))) (hz : c2.size ≠ 0) :
    (callFunc 80 #[.slice (some ⟨b, 0, none⟩) la ca, .slice (some ⟨g, o, none⟩) lb cb]).run Tryd.prog w = .ok (.value (.bool false)) w := by
  rw [run_callFunc_extern Tryd.func80 (by kernel_rfl) (by kernel_rfl) (by kernel_rfl) (e := Extern.SlicesOverlaps.overlaps #[76, 76] #[4]) (by kernel_rfl),
    Lib.run_overlaps_apart w 76 4 91 Tryd.underlying76 2 Tryd.sizeOfMiss ⟨b, 0, none⟩ ⟨g, o, none⟩ la ca lb cb hne 91 91 c1.size c2.size (by simp [World.shape?, hb]) (by simp [World.shape?, hg]) hz (by simp [World.frozen?, hb]) (by simp [World.frozen?, hb])]
  rfl
set_option maxRecDepth 100000 in
set_option maxHeartbeats 1000000 in
theorem insertMiss_room (g cap n p : Nat) (xs ys : List (Int × Int)) (x y : Int) (b : Nat) (w : World) (hv : MissRow w (.slice (some ⟨g, 0, none⟩) n cap) (xs ++ ys)) (hn : (xs ++ ys).length = n) (hp : xs.length = p) (hpn : p < n) (hcap : n + 1 ≤ cap) (hl : n ≤ 1000) (hbg : b ≠ g) (hb : w.heap[b]? = some (.cells #[.int .i64 x, .int .i64 y] 91 (0, 0))) :
    Calls Tryd.prog 62 #[.slice (some ⟨g, 0, none⟩) n cap, .int .i64 p, .slice (some ⟨b, 0, none⟩) 1 1] w fun e w' => e = .returned (.slice (some ⟨g, 0, none⟩) (n + 1) cap) ∧ MissRow w' (.slice (some ⟨g, 0, none⟩) (n + 1) cap) (xs ++ (x, y) :: ys) ∧ w.grownBy w' (some g) := by
  obtain ⟨cur, hheap, -, hmax, hsz, htake, -⟩ := hv.heap
  rw [hn] at htake
  have hxs : (missCells xs).length = p * 2 := by rw [missCells_length, hp]
  have hys : (missCells ys).length = (n - p) * 2 := by
    rw [missCells_length]
    have : (xs ++ ys).length = xs.length + ys.length := List.length_append
    rw [show ys.length = n - p from by omega]
  have htk : cur.toList.take (n * 2) = missCells xs ++ missCells ys := by rw [htake, missCells_append]
  have htp : cur.toList.take (p * 2) = missCells xs := by
    have := congrArg (List.take (p * 2)) htk
    rw [List.take_take, Nat.min_eq_left (by omega), List.take_left' hxs] at this
    exact this
  have hcl : cur.toList.length = cap * 2 := by simpa using hsz
  have hget : ∀ j u, (missCells ys)[j]? = some u → cur.toList[p * 2 + j]? = some u := by
    intro j u hu
    have hj := (List.getElem?_eq_some_iff.1 hu).1
    have h1 : (cur.toList.take (n * 2))[p * 2 + j]? = some u := by
      rw [htk, List.getElem?_append_right (by omega), hxs, show p * 2 + j - p * 2 = j from by omega]; exact hu
    rw [List.getElem?_take_of_lt (by omega)] at h1
    exact h1
  have hov : ∀ o lb cb, (callFunc 80 #[.slice (some ⟨b, 0, none⟩) 1 1, .slice (some ⟨g, o, none⟩) lb cb]).run Tryd.prog w = .ok (.value (.bool false)) w := fun o lb cb => run_overlapsMiss b g 1 1 lb cb o _ cur w hbg hb hheap (by omega)
  have hcp1 : ∀ ty dL dc sL sc, dL = n - p → sL = n + 1 - p → (Builtin.copy_ #[76, 76] ty #[.slice (some ⟨g, (p + 1) * 2, none⟩) dL dc, .slice (some ⟨g, p * 2, none⟩) sL sc]).run Tryd.prog w.drew = .ok (goInt ((n - p : Nat) : Int)) (w.drew.setRow g (cur.toList.take ((p + 1) * 2) ++ missCells ys ++ cur.toList.drop ((p + 1) * 2 + (missCells ys).length)).toArray) := fun ty dL dc sL sc hdL hsL =>
    run_copy_k w.drew _ _ ty 91 2 g ((p + 1) * 2) _ dc ⟨g, p * 2, none⟩ _ sc cur 91 (missCells ys) (n - p) Tryd.underlying76 Tryd.sizeMiss hheap (by simp only [Nat.min_def]; split <;> omega) hys
      (fun j u hj => by rw [Addr.add_lit]; show w.cell? _ = some u; simp only [World.cell?, hheap]; simpa using hget j u hj) (by omega) (fun u hu => missCells_one hu)
  obtain ⟨R1, hR1⟩ : ∃ R1 : Array Value, R1 = (cur.toList.take ((p + 1) * 2) ++ missCells ys ++ cur.toList.drop ((p + 1) * 2 + (missCells ys).length)).toArray := ⟨_, rfl⟩
  rw [← hR1] at hcp1
  have hR1l : R1.toList = cur.toList.take ((p + 1) * 2) ++ (missCells ys ++ cur.toList.drop ((p + 1) * 2 + (missCells ys).length)) := by rw [hR1, List.append_assoc]
  have hR1s : R1.size = cap * 2 := by
    rw [← Array.length_toList, hR1l]
    simp only [List.length_append, List.length_take, List.length_drop]
    omega
  have hcp2 : ∀ (W : World), W.heap[g]? = some (.cells R1 91 (0, 0)) → W.heap[b]? = some (.cells #[.int .i64 x, .int .i64 y] 91 (0, 0)) → ∀ ty dL dc, dL = n + 1 - p → (Builtin.copy_ #[76, 76] ty #[.slice (some ⟨g, p * 2, none⟩) dL dc, .slice (some ⟨b, 0, none⟩) 1 1]).run Tryd.prog W = .ok (goInt ((1 : Nat) : Int)) (W.setRow g (R1.toList.take (p * 2) ++ [Value.int .i64 x, Value.int .i64 y] ++ R1.toList.drop (p * 2 + 2)).toArray) := fun W h1 h2 ty dL dc hdL =>
    run_copy_k W _ _ ty 91 2 g (p * 2) _ dc ⟨b, 0, none⟩ 1 1 R1 91 [.int .i64 x, .int .i64 y] 1 Tryd.underlying76 Tryd.sizeMiss h1 (by simp only [Nat.min_def]; split <;> omega) rfl
      (fun j u hj => by rw [Addr.add_lit, Nat.zero_add]; simp only [World.cell?, h2]; simpa using hj) (by simp; omega) (by simp [Value.oneCell'])
  have hb2 : (w.drew.setRow g R1).heap[b]? = some (.cells #[.int .i64 x, .int .i64 y] 91 (0, 0)) := by
    rw [setRow_other _ _ _ _ hbg]; exact hb
  have hfin : MissRow ((w.drew.setRow g R1).setRow g (R1.toList.take (p * 2) ++ [Value.int .i64 x, Value.int .i64 y] ++ R1.toList.drop (p * 2 + 2)).toArray) (.slice (some ⟨g, 0, none⟩) (n + 1) cap) (xs ++ (x, y) :: ys) := by
    have e : (xs ++ (x, y) :: ys).length = n + 1 := by simp at hn ⊢; omega
    rw [← e]
    refine MissRow.mk (heap_setRow (heap_setRow (w := w.drew) hheap _) _) (by omega) hmax ?_ ?_
    · simp
      omega
    · have t1 : R1.toList.take (p * 2) = missCells xs := by
        rw [hR1l, List.take_append_of_le_length (by simp; omega), List.take_take, Nat.min_eq_left (by omega), htp]
      have t2 : R1.toList.drop (p * 2 + 2) = missCells ys ++ cur.toList.drop ((p + 1) * 2 + (missCells ys).length) := by
        rw [hR1l, List.drop_left' (by simp; omega)]
      rw [e, t1, t2, missCells_append]
      simp only [List.append_assoc]
      have e2 : missCells ((x, y) :: ys) = [Value.int .i64 x, Value.int .i64 y] ++ missCells ys := rfl
      rw [e2, ← List.append_assoc, ← List.append_assoc, ← List.append_assoc, List.take_left' (by simp; omega)]
  have Hfin := Lib.hid hfin
  have Hheap := Lib.hid hheap
  have Hb2 := Lib.hid hb2
  have hwr : IntKind.i64.wrap ((p : Int) + 1) = (p : Int) + 1 := by rw [IntKind.wrap_i64]; omega
  have hq0 : (0 : Int) ≤ (p : Int) + 1 := by omega
  have hq1 : ((p : Int) + 1).toNat = p + 1 := by omega
  have hq2 : (p : Int) + 1 ≤ (n : Int) + 1 := by omega
  have hq3 : ¬ (cap = p + 1) := by omega
  have hq4 : ¬ (cap = p) := by omega
  have hq5 : (p : Int) ≤ (n : Int) + 1 := by omega
  have hq6 : ((p : Int) == (n : Int)) = false := by simp; omega
  clear hv htake hxs hys htk htp hsz hget hR1 hR1l hR1s hfin hheap hb hb2 hn hp hcl
  go_enter Tryd.func62, Tryd.ntmps62
  go_wp2_with (simp only [hov])
  go_region_law (refine step_copy_is rfl _ _ 76 76 rfl _ _ (by simp [Act.eval, Act.put]) (by simp [Act.eval, Act.put]) (hcp1 _ _ _ _ _ (by omega) (by omega)) ?_)
  all_goals go_wp2_with (refine wpList_copy_is rfl _ _ 76 76 rfl _ _ rfl rfl (hcp2 _ (heap_setRow (w := w.drew) Hheap.out _) Hb2.out _ _ _ (by omega)) ?_)
  all_goals go_ret
  all_goals exact ⟨rfl, (by have h := Hfin.out; simp only [List.append_assoc, List.cons_append, List.nil_append] at h ⊢; exact h), grown_setRow (grown_setRow (grown_drew (World.grownBy_refl w _)) _) _⟩
end Go.Proofs.YtjnoaidceddpjaaDoor
