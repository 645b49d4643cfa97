/- The table of misses (package mshr): List, Drop. -/
import Derived.Test.YtjnoaidceddpjaaDoorMshrB
import Derived.Deep.DeepAppendRoom
import Derived.Deep.RegionLaw
import Derived.RegionTactic
namespace Go.Proofs.YtjnoaidceddpjaaDoor
open Go.RowKit Go.Extern.Stop Go.Stop Go.Extern

set_option maxRecDepth 100000 in
set_option maxHeartbeats 1000000 in
/-- List: all that is under way. -/
theorem list_is (t most : Nat) (l : List (Int × Int)) (v : Value) (w : World) (h : TabAt w t most l v) :
    Calls Tryd.prog 39 #[.pointer (some ⟨t, 0, none⟩)] w fun e w' => ∃ v', e = .returned v' ∧ MissRow w' v' l ∧ (∀ k, v'.ownBlock = some k → w.heap.size ≤ k) ∧ Below w.heap.size w w' := by
  have h1 := h.list_cell
  have hr := Lib.hid h.row
  have hfew := h.few
  clear h
  go_enter Tryd.func39, Tryd.ntmps39
  go_wp2_with fail
  refine (cloneMiss v l _ hr.out hfew).mono ?_
  rintro e w1 ⟨v', rfl, hr1, hv1, hb⟩
  have H1 := Lib.hid hr1
  have H2 := Lib.hid hv1
  have H3 := Lib.hid hb
  clear hr1 hv1 hb
  go_wp2
  go_ret
  exact ⟨v', rfl, H1.out, H2.out, H3.out⟩
/-- append where there is room, as one step of a region that draws, the block told whole. -/
theorem step_append_row {P : Program} {ops : Array Oper} {o : Oper} {a : Act} {w : World} {K : Act → World → Prop} {Q : Exit → Act → World → Prop} {E : Prop}
    (hg : o.guard = none) (s x : Operand) (t : TypeId) (hop : o.op = Op.call { callee := Callee.builtin Builtin.append, args := #[s, x], argTypes := #[t, t] })
    (e : TypeId) (i : TypeInfo) (size : Nat) (h1 : P.underlying t = some (.slice e)) (h2 : P.info? e = some i) (h4 : i.size = size)
    (g n cap : Nat) (cur : Array Value) (hs : a.eval s = .slice (some ⟨g, 0, none⟩) n cap) (hrow : w.heap[g]? = some (.cells cur e (0, 0)))
    (ad : Addr) (m c : Nat) (news : List Value) (hx : a.eval x = .slice (some ad) m c) (hn : news.length = m * size) (hc : ∀ j u, news[j]? = some u → w.cell? (ad.add j) = some u) (h1c : ∀ u ∈ news, u.oneCell' = true)
    (hroom : n + m ≤ cap) (hfit : n * size + news.length ≤ cur.size)
    (hK : K (a.put o.dst (.slice (some ⟨g, 0, none⟩) (n + m) cap)) (w.setRow g (cur.toList.take (n * size) ++ news ++ cur.toList.drop (n * size + news.length)).toArray)) :
    if Region.wanted o (yielded ops a.tmps) = true then Oper.wp P o a w K Q else E := by
  have hw : Region.wanted o (yielded ops a.tmps) = true := by simp [Region.wanted, hg]
  rw [if_pos hw]
  subst h4
  have hrun := run_append_room (P := P) w t o.type e i h1 h2 g n cap cur hrow ad m c news hn hc h1c hroom hfit
  generalize w.setRow g (cur.toList.take (n * i.size) ++ news ++ cur.toList.drop (n * i.size + news.length)).toArray = w2 at hrun hK
  unfold Oper.wp
  simp [execOp, hop, resolve, invoke, builtin, hs, hx, hrun, Result.andThen]
  exact hK
/-- clear of a slice within a block. -/
theorem wpList_clear {P : Program} {w : World} {ops : Array Oper} {rest : List Oper} {o : Oper} {a : Act} {Q : Exit → Act → World → Prop} (hgd : o.guard = none) (x : Operand) (t : TypeId)
    (ho : o.op = .call { callee := .builtin .clear, args := #[x], argTypes := #[t] }) (v : Value) (hx : a.eval x = v) (w' : World)
    (hr : (Builtin.clear_ #[t] o.type #[v]).run P w = .ok (.tuple #[]) w')
    (h : wpList P ops Q rest (a.put o.dst (.tuple #[])) w') : wpList P ops Q (o :: rest) a w := by
  refine wpList_plain hgd fun _ hK => ?_
  unfold Oper.wp execOp
  simp only [ho, resolve, invoke, builtin, Sem.run_bind, Sem.run_pure, Result.andThen_ok, List.map_toArray, List.map_cons, List.map_nil, hx, hr]
  exact hK _ _ h
theorem Tryd.zeroMiss (w : World) : (zeroValue 91).run Tryd.prog w = .ok (.agg #[.int .i64 0, .int .i64 0]) w := by kernel_rfl
theorem run_clearMiss (g o cap : Nat) (cur : Array Value) (w : World) (hg : w.heap[g]? = some (.cells cur 91 (0, 0))) (hl : o + 2 ≤ cur.size) (ty : TypeId) :
    (Builtin.clear_ #[76] ty #[.slice (some ⟨g, o, none⟩) 1 cap]).run Tryd.prog w = .ok (.tuple #[]) (w.setRow g (cur.toList.take o ++ [Value.int .i64 0, Value.int .i64 0] ++ cur.toList.drop (o + 2)).toArray) := by
  have hs := run_storeCells_at (P := Tryd.prog) g o 91 [.int .i64 0, .int .i64 0] 0 cur w hg (by simpa using hl) (by simp [Value.oneCell'])
  simp only [Nat.add_zero, List.length_cons, List.length_nil, Nat.zero_add, Nat.reduceAdd] at hs
  have hz : Builtin.zeroCells #[Value.int .i64 0, Value.int .i64 0] 1 = #[Value.int .i64 0, Value.int .i64 0] := by kernel_rfl
  simp [Builtin.clear_, run_underlying Tryd.underlying76, Tryd.zeroMiss, Value.cells, hz, Result.andThen]
  simp at hs
  rw [hs]
theorem MissRow.heap {w : World} {l : List (Int × Int)} {g n cap : Nat} (h : MissRow w (.slice (some ⟨g, 0, none⟩) n cap) l) : ∃ cur : Array Value, w.heap[g]? = some (.cells cur 91 (0, 0)) ∧ l.length ≤ cap ∧ cap ≤ maxLen ∧ cur.size = cap * 2 ∧ cur.toList.take (l.length * 2) = missCells l ∧ n = l.length := by
  rcases h.2 with ⟨hn, _⟩ | ⟨g', cap', cur, hv, _, hh, h1, h2, h3, h4⟩
  · cases hn
  · simp at hv
    obtain ⟨rfl, rfl, rfl⟩ := hv
    exact ⟨cur, hh, h1, h2, h3, h4, rfl⟩
theorem MissRow.mk {w : World} {g cap : Nat} {cur : Array Value} {l : List (Int × Int)} (h : w.heap[g]? = some (.cells cur 91 (0, 0))) (h1 : l.length ≤ cap) (h2 : cap ≤ maxLen) (h3 : cur.size = cap * 2) (h4 : cur.toList.take (l.length * 2) = missCells l) : MissRow w (.slice (some ⟨g, 0, none⟩) l.length cap) l :=
  ⟨missCells_length l, .inr ⟨g, cap, cur, rfl, Nat.zero_le _, h, h1, h2, h3, h4⟩⟩
theorem World.grownBy_refl (w : World) (r : Option Nat) : w.grownBy w r := ⟨rfl, rfl, rfl, Nat.le_refl _, fun _ _ _ => rfl⟩
theorem grown_drew {w w1 : World} {r : Option Nat} (h : w.grownBy w1 r) : w.grownBy w1.drew r := ⟨h.os, h.tape, h.output, h.size, h.block⟩
theorem grown_setRow {w w1 : World} {g : Nat} (h : w.grownBy w1 (some g)) (c : Array Value) : w.grownBy (w1.setRow g c) (some g) := by
  refine ⟨h.os, h.tape, h.output, by have := h.size; simpa [World.setRow] using this, fun k hk hne => ?_⟩
  have hkg : ¬ g = k := fun e => hne (by rw [e])
  simp only [World.setRow, Array.getElem?_modify]
  rw [if_neg hkg]
  exact h.block k hk hne
theorem missCells_append (a b : List (Int × Int)) : missCells (a ++ b) = missCells a ++ missCells b := by simp [missCells]
theorem missCells_one {u : Value} {l : List (Int × Int)} (hu : u ∈ missCells l) : u.oneCell' = true := by
  simp only [missCells, List.mem_flatMap] at hu
  obtain ⟨m, _, hm⟩ := hu
  simp at hm
  rcases hm with rfl | rfl <;> rfl
set_option maxRecDepth 100000 in
set_option maxHeartbeats 2000000 in
/-- slices.Delete of one. -/
theorem deleteMiss (g cap : Nat) (xs ys : List (Int × Int)) (m : Int × Int) (w : World) (h : MissRow w (.slice (some ⟨g, 0, none⟩) (xs ++ m :: ys).length cap) (xs ++ m :: ys)) (hfew : (xs ++ m :: ys).length ≤ 1000) :
    Calls Tryd.prog 64 #[.slice (some ⟨g, 0, none⟩) (xs ++ m :: ys).length cap, .int .i64 xs.length, .int .i64 ((xs.length : Int) + 1)] w fun e w' => e = .returned (.slice (some ⟨g, 0, none⟩) (xs ++ ys).length cap) ∧ MissRow w' (.slice (some ⟨g, 0, none⟩) (xs ++ ys).length cap) (xs ++ ys) ∧ w.grownBy w' (some g) := by
  obtain ⟨cur, hheap, hcap, hmax, hsz, htake, _⟩ := h.heap
  obtain ⟨i0, hi0, hz0, hz1, hz2⟩ := info_parts Tryd.infoMiss
  have hlen : (xs ++ m :: ys).length = xs.length + (ys.length + 1) := by simp
  rw [hlen] at hcap hfew htake ⊢
  have hlen2 : (xs ++ ys).length = xs.length + ys.length := by simp
  rw [hlen2]
  have hxs : (missCells xs).length = xs.length * 2 := missCells_length xs
  have hys : (missCells ys).length = ys.length * 2 := missCells_length ys
  have htk : cur.toList.take ((xs.length + (ys.length + 1)) * 2) = missCells xs ++ ([Value.int .i64 m.1, Value.int .i64 m.2] ++ missCells ys) := by
    rw [htake, missCells_append]; rfl
  generalize hp : xs.length = p at *
  generalize hq : ys.length = q at *
  have htp : cur.toList.take (p * 2) = missCells xs := by
    have := congrArg (List.take (p * 2)) htk
    rw [List.take_take, Nat.min_eq_left (by omega), List.take_left' hxs] at this
    exact this
  obtain ⟨A, hA, hnews⟩ : ∃ A : Addr, (if cap = p + 1 then some (⟨g, 0, none⟩ : Addr) else some ⟨g, (p + 1) * 2, none⟩) = some A ∧ Hid (∀ j u, (missCells ys)[j]? = some u → w.drew.cell? (A.add j) = some u) := by
    by_cases h : cap = p + 1
    · refine ⟨⟨g, 0, none⟩, by simp [h], fun j u hu => ?_⟩
      have : (missCells ys).length = 0 := by omega
      rw [List.length_eq_zero_iff.1 this] at hu
      simp at hu
    · refine ⟨⟨g, (p + 1) * 2, none⟩, by simp [h], fun j u hu => ?_⟩
      have hj : j < q * 2 := by
        have := (List.getElem?_eq_some_iff.1 hu).1
        omega
      have hget : cur.toList[(p + 1) * 2 + j]? = some u := by
        have h1 : (cur.toList.take ((p + (q + 1)) * 2))[(p + 1) * 2 + j]? = some u := by
          rw [htk, List.getElem?_append_right (by omega), List.getElem?_append_right (by simp; omega)]
          simp only [List.length_cons, List.length_nil]
          rw [hxs, show (p + 1) * 2 + j - p * 2 - (0 + 1 + 1) = j from by omega]
          exact hu
        rw [List.getElem?_take_of_lt (by omega)] at h1
        exact h1
      rw [Addr.add_lit]
      show w.cell? _ = some u
      simp only [World.cell?, hheap]
      simpa using hget
  have s1 := Lib.hid hys
  have s2 : Hid (∀ u ∈ missCells ys, u.oneCell' = true) := fun u hu => missCells_one hu
  have Hh : Hid (w.drew.heap[g]? = some (.cells cur 91 (0, 0))) := hheap
  have Hk := Lib.hid htk
  have Hp := Lib.hid htp
  have Hx := Lib.hid hxs
  have Hs := Lib.hid hsz
  have Ht := Lib.hid htake
  have hic : p ≤ cap := by omega
  have hwr : IntKind.i64.wrap ((p : Int) + 1) = (p : Int) + 1 := by rw [IntKind.wrap_i64]; omega
  have hp0 : (0 : Int) ≤ (p : Int) + 1 := by omega
  have hp1 : (p : Int) + 1 ≤ (p : Int) + ((q : Int) + 1) := by omega
  have hp2 : ((p : Int) + 1).toNat = p + 1 := by omega
  clear hxs hys htk htp hheap hsz htake h hlen hlen2
  go_enter Tryd.func64, Tryd.ntmps64
  go_wp2_with fail
  go_region_law (refine step_append_row rfl (.tmp 22) (.tmp 25) 76 rfl 91 i0 2 Tryd.underlying76 hi0 hz1 g p cap cur (by simp [Act.eval, Act.put]) Hh.out A q (cap - (p + 1)) (missCells ys) (by simp [Act.eval, Act.put]; omega) s1.out hnews.out s2.out (by omega) (by have := s1.out; have := Hs.out; omega) ?_)
  have hone : p + (q + 1) - (p + q) = 1 := by omega
  have hroom : (p + q) * 2 + 2 ≤ (cur.toList.take (p * 2) ++ (missCells ys ++ cur.toList.drop (p * 2 + (missCells ys).length))).toArray.size := by
    have h1 := s1.out
    have h2 := Hs.out
    simp
    omega
  go_wp2_with (refine wpList_clear rfl (.tmp 31) 76 rfl (.slice (some ⟨g, (p + q) * 2, none⟩) 1 (cap - (p + q))) (by simp [Act.eval]; omega) _ (run_clearMiss g ((p + q) * 2) _ _ _ (heap_setRow Hh.out _) hroom _) ?_)
  go_ret
  refine ⟨rfl, ?_, ?_⟩
  · have hpq : (xs ++ ys).length = p + q := by simp [hp, hq]
    have hl1 := s1.out
    have hl2 := Hx.out
    have hl3 := Hs.out
    have hl4 := Hp.out
    have hl5 : (cur.toList.take (p * 2)).length = p * 2 := by rw [hl4, hl2]
    rw [← hpq]
    refine MissRow.mk (heap_setRow (heap_setRow Hh.out _) _) (by omega) hmax (by simp; omega) ?_
    rw [hpq, hl4, missCells_append]
    simp only [List.toList_toArray]
    rw [List.take_append_of_le_length (by simp; omega), List.take_take, Nat.min_self, ← List.append_assoc, List.take_left' (by simp; omega)]
  · exact grown_setRow (grown_setRow (grown_drew (World.grownBy_refl w _)) _) _
end Go.Proofs.YtjnoaidceddpjaaDoor
