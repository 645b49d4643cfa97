/- The table of misses (package mshr): List, Drop. The table of misses (package mshr): Drop. The table of misses (package mshr): where a line's miss stands, or would. The table of misses (package mshr): slices.Insert of one. -/
import Derived.Test.YtjnoaidceddpjaaDoorMshrB
import Derived.Deep.DeepAppendRoom
import Derived.Deep.RegionLaw
import Derived.RegionTactic
import Derived.Maps.AppendAt
import Derived.Lib.Overlaps
namespace Go.Proofs.YtjnoaidceddpjaaDoor
open Go.RowKit Go.Extern.Stop Go.Stop Go.Extern

set_option maxRecDepth 100000 in
set_option maxHeartbeats 1000000 in
/-- List: all that is under way. -/
theorem list_is (t most : Nat) (l : List (Int × Int)) (v : Value) (w : World) (h : TabAt w t most l v) :
    Calls Tryd.prog 39 #[.pointer (some ⟨t, 0, none⟩)] w fun e w' => ∃ v', e = .returned v' ∧ MissRow w' v' l ∧ (∀ k, v'.ownBlock = some k → w.heap.size ≤ k) ∧ Below w.heap.size w w' := by
  have h1 := h.list_cell
  have hr := Lib.hid h.row
  have hfew := h.few
  clear h
  go_enter Tryd.func39, Tryd.ntmps39
  go_wp2_with fail
  refine (cloneMiss v l _ hr.out hfew).mono ?_
  rintro e w1 ⟨v', rfl, hr1, hv1, hb⟩
  have H1 := Lib.hid hr1
  have H2 := Lib.hid hv1
  have H3 := Lib.hid hb
  clear hr1 hv1 hb
  go_wp2
  go_ret
  exact ⟨v', rfl, H1.out, H2.out, H3.out⟩
/-- append where there is room, as one step of a region that draws, the block told whole. -/
theorem step_append_row {P : Program} {ops : Array Oper} {o : Oper} {a : Act} {w : World} {K : Act → World → Prop} {Q : Exit → Act → World → Prop} {E : Prop}
    (hg : o.guard = none) (s x : Operand) (t : TypeId) (hop : o.op = Op.call { callee := Callee.builtin Builtin.append, args := #[s, x], argTypes := #[t, t] })
    (e : TypeId) (i : TypeInfo) (size : Nat) (h1 : P.underlying t = some (.slice e)) (h2 : P.info? e = some i) (h4 : i.size = size)
    (g n cap : Nat) (cur : Array Value) (hs : a.eval s = .slice (some ⟨g, 0, none⟩) n cap) (hrow : w.heap[g]? = some (.cells cur e (0, 0)))
    (ad : Addr) (m c : Nat) (news : List Value) (hx : a.eval x = .slice (some ad) m c) (hn : news.length = m * size) (hc : ∀ j u, news[j]? = some u → w.cell? (ad.add j) = some u) (h1c : ∀ u ∈ news, u.oneCell' = true)
    (hroom : n + m ≤ cap) (hfit : n * size + news.length ≤ cur.size)
    (hK : K (a.put o.dst (.slice (some ⟨g, 0, none⟩) (n + m) cap)) (w.setRow g (cur.toList.take (n * size) ++ news ++ cur.toList.drop (n * size + news.length)).toArray)) :
    if Region.wanted o (yielded ops a.tmps) = true then Oper.wp P o a w K Q else E := by
  have hw : Region.wanted o (yielded ops a.tmps) = true := by simp [Region.wanted, hg]
  rw [if_pos hw]
  subst h4
  have hrun := run_append_room (P := P) w t o.type e i h1 h2 g n cap cur hrow ad m c news hn hc h1c hroom hfit
  generalize w.setRow g (cur.toList.take (n * i.size) ++ news ++ cur.toList.drop (n * i.size + news.length)).toArray = w2 at hrun hK
  unfold Oper.wp
  simp [execOp, hop, resolve, invoke, builtin, hs, hx, hrun, Result.andThen]
  exact hK
/-- clear of a slice within a block. -/
theorem wpList_clear {P : Program} {w : World} {ops : Array Oper} {rest : List Oper} {o : Oper} {a : Act} {Q : Exit → Act → World → Prop} (hgd : o.guard = none) (x : Operand) (t : TypeId)
    (ho : o.op = .call { callee := .builtin .clear, args := #[x], argTypes := #[t] }) (v : Value) (hx : a.eval x = v) (w' : World)
    (hr : (Builtin.clear_ #[t] o.type #[v]).run P w = .ok (.tuple #[]) w')
    (h : wpList P ops Q rest (a.put o.dst (.tuple #[])) w') : wpList P ops Q (o :: rest) a w := by
  refine wpList_plain hgd fun _ hK => ?_
  unfold Oper.wp execOp
  simp only [ho, resolve, invoke, builtin, Sem.run_bind, Sem.run_pure, Result.andThen_ok, List.map_toArray, List.map_cons, List.map_nil, hx, hr]
  exact hK _ _ h
theorem Tryd.zeroMiss (w : World) : (zeroValue 91).run Tryd.prog w = .ok (.agg #[.int .i64 0, .int .i64 0]) w := by kernel_rfl
theorem run_clearMiss (g o cap : Nat) (cur : Array Value) (w : World) (hg : w.heap[g]? = some (.cells cur 91 (0, 0))) (hl : o + 2 ≤ cur.size) (ty : TypeId) :
    (Builtin.clear_ #[76] ty #[.slice (some ⟨g, o, none⟩) 1 cap]).run Tryd.prog w = .ok (.tuple #[]) (w.setRow g (cur.toList.take o ++ [Value.int .i64 0, Value.int .i64 0] ++ cur.toList.drop (o + 2)).toArray) := by
  have hs := run_storeCells_at (P := Tryd.prog) g o 91 [.int .i64 0, .int .i64 0] 0 cur w hg (by simpa using hl) (by simp [Value.oneCell'])
  simp only [Nat.add_zero, List.length_cons, List.length_nil, Nat.zero_add, Nat.reduceAdd] at hs
  have hz : Builtin.zeroCells #[Value.int .i64 0, Value.int .i64 0] 1 = #[Value.int .i64 0, Value.int .i64 0] := by kernel_rfl
  simp [Builtin.clear_, run_underlying Tryd.underlying76, Value.cells, hz, Result.andThen]
  simp at hs
  rw [hs]
theorem MissRow.heap {w : World} {l : List (Int × Int)} {g n cap : Nat} (h : MissRow w (.slice (some ⟨g, 0, none⟩) n cap) l) : ∃ cur : Array Value, w.heap[g]? = some (.cells cur 91 (0, 0)) ∧ l.length ≤ cap ∧ cap ≤ maxLen ∧ cur.size = cap * 2 ∧ cur.toList.take (l.length * 2) = missCells l ∧ n = l.length := by
  rcases h.2 with ⟨hn, _⟩ | ⟨g', cap', cur, hv, _, hh, h1, h2, h3, h4⟩
  · cases hn
  · simp at hv
    obtain ⟨rfl, rfl, rfl⟩ := hv
    exact ⟨cur, hh, h1, h2, h3, h4, rfl⟩
theorem MissRow.mk {w : World} {g cap : Nat} {cur : Array Value} {l : List (Int × Int)} (h : w.heap[g]? = some (.cells cur 91 (0, 0))) (h1 : l.length ≤ cap) (h2 : cap ≤ maxLen) (h3 : cur.size = cap * 2) (h4 : cur.toList.take (l.length * 2) = missCells l) : MissRow w (.slice (some ⟨g, 0, none⟩) l.length cap) l :=
  ⟨missCells_length l, .inr ⟨g, cap, cur, rfl, Nat.zero_le _, h, h1, h2, h3, h4⟩⟩
theorem World.grownBy_refl (w : World) (r : Option Nat) : w.grownBy w r := ⟨rfl, rfl, rfl, Nat.le_refl _, fun _ _ _ => rfl⟩
theorem grown_drew {w w1 : World} {r : Option Nat} (h : w.grownBy w1 r) : w.grownBy w1.drew r := ⟨h.os, h.tape, h.output, h.size, h.block⟩
theorem grown_setRow {w w1 : World} {g : Nat} (h : w.grownBy w1 (some g)) (c : Array Value) : w.grownBy (w1.setRow g c) (some g) := by
  refine ⟨h.os, h.tape, h.output, by have := h.size; simpa [World.setRow] using this, fun k hk hne => ?_⟩
  have hkg : ¬ g = k := fun e => hne (by rw [e])
  simp only [World.setRow, Array.getElem?_modify]
  rw [if_neg hkg]
  exact h.block k hk hne
theorem missCells_append (a b : List (Int × Int)) : missCells (a ++ b) = missCells a ++ missCells b := by simp [missCells]
theorem missCells_one {u : Value} {l : List (Int × Int)} (hu : u ∈ missCells l) : u.oneCell' = true := by
  simp only [missCells, List.mem_flatMap] at hu
  obtain ⟨m, _, hm⟩ := hu
  simp at hm
  rcases hm with rfl | rfl <;> rfl
set_option maxRecDepth 100000 in
set_option maxHeartbeats 2000000 in
/-- slices.Delete of one. -/
theorem deleteMiss (g cap : Nat) (xs ys : List (Int × Int)) (m : Int × Int) (w : World) (h : MissRow w (.slice (some ⟨g, 0, none⟩) (xs ++ m :: ys).length cap) (xs ++ m :: ys)) (hfew : (xs ++ m :: ys).length ≤ 1000) :
    Calls Tryd.prog 64 #[.slice (some ⟨g, 0, none⟩) (xs ++ m :: ys).length cap, .int .i64 xs.length, .int .i64 ((xs.length : Int) + 1)] w fun e w' => e = .returned (.slice (some ⟨g, 0, none⟩) (xs ++ ys).length cap) ∧ MissRow w' (.slice (some ⟨g, 0, none⟩) (xs ++ ys).length cap) (xs ++ ys) ∧ w.grownBy w' (some g) := by
  obtain ⟨cur, hheap, hcap, hmax, hsz, htake, _⟩ := h.heap
  obtain ⟨i0, hi0, hz0, hz1, hz2⟩ := info_parts Tryd.infoMiss
  have hlen : (xs ++ m :: ys).length = xs.length + (ys.length + 1) := by simp
  rw [hlen] at hcap hfew htake ⊢
  have hlen2 : (xs ++ ys).length = xs.length + ys.length := by simp
  rw [hlen2]
  have hxs : (missCells xs).length = xs.length * 2 := missCells_length xs
  have hys : (missCells ys).length = ys.length * 2 := missCells_length ys
  have htk : cur.toList.take ((xs.length + (ys.length + 1)) * 2) = missCells xs ++ ([Value.int .i64 m.1, Value.int .i64 m.2] ++ missCells ys) := by
    rw [htake, missCells_append]; rfl
  generalize hp : xs.length = p at *
  generalize hq : ys.length = q at *
  have htp : cur.toList.take (p * 2) = missCells xs := by
    have := congrArg (List.take (p * 2)) htk
    rw [List.take_take, Nat.min_eq_left (by omega), List.take_left' hxs] at this
    exact this
  obtain ⟨A, hA, hnews⟩ : ∃ A : Addr, (if cap = p + 1 then some (⟨g, 0, none⟩ : Addr) else some ⟨g, (p + 1) * 2, none⟩) = some A ∧ Hid (∀ j u, (missCells ys)[j]? = some u → w.drew.cell? (A.add j) = some u) := by
    by_cases h : cap = p + 1
    · refine ⟨⟨g, 0, none⟩, by simp [h], fun j u hu => ?_⟩
      have : (missCells ys).length = 0 := by omega
      rw [List.length_eq_zero_iff.1 this] at hu
      simp at hu
    · refine ⟨⟨g, (p + 1) * 2, none⟩, by simp [h], fun j u hu => ?_⟩
      have hj : j < q * 2 := by
        have := (List.getElem?_eq_some_iff.1 hu).1
        omega
      have hget : cur.toList[(p + 1) * 2 + j]? = some u := by
        have h1 : (cur.toList.take ((p + (q + 1)) * 2))[(p + 1) * 2 + j]? = some u := by
          rw [htk, List.getElem?_append_right (by omega), List.getElem?_append_right (by simp; omega)]
          simp only [List.length_cons, List.length_nil]
          rw [hxs, show (p + 1) * 2 + j - p * 2 - (0 + 1 + 1) = j from by omega]
          exact hu
        rw [List.getElem?_take_of_lt (by omega)] at h1
        exact h1
      rw [Addr.add_lit]
      show w.cell? _ = some u
      simp only [World.cell?, hheap]
      simpa using hget
  have s1 := Lib.hid hys
  have s2 : Hid (∀ u ∈ missCells ys, u.oneCell' = true) := fun u hu => missCells_one hu
  have Hh : Hid (w.drew.heap[g]? = some (.cells cur 91 (0, 0))) := hheap
  have Hk := Lib.hid htk
  have Hp := Lib.hid htp
  have Hx := Lib.hid hxs
  have Hs := Lib.hid hsz
  have Ht := Lib.hid htake
  have hic : p ≤ cap := by omega
  have hwr : IntKind.i64.wrap ((p : Int) + 1) = (p : Int) + 1 := by rw [IntKind.wrap_i64]; omega
  have hp0 : (0 : Int) ≤ (p : Int) + 1 := by omega
  have hp1 : (p : Int) + 1 ≤ (p : Int) + ((q : Int) + 1) := by omega
  have hp2 : ((p : Int) + 1).toNat = p + 1 := by omega
  clear hxs hys htk htp hheap hsz htake h hlen hlen2
  go_enter Tryd.func64, Tryd.ntmps64
  go_wp2_with fail
  go_region_law (refine step_append_row rfl (.tmp 22) (.tmp 25) 76 rfl 91 i0 2 Tryd.underlying76 hi0 hz1 g p cap cur (by simp [Act.eval, Act.put]) Hh.out A q (cap - (p + 1)) (missCells ys) (by simp [Act.eval, Act.put]; omega) s1.out hnews.out s2.out (by omega) (by have := s1.out; have := Hs.out; omega) ?_)
  have hone : p + (q + 1) - (p + q) = 1 := by omega
  have hroom : (p + q) * 2 + 2 ≤ (cur.toList.take (p * 2) ++ (missCells ys ++ cur.toList.drop (p * 2 + (missCells ys).length))).toArray.size := by
    have h1 := s1.out
    have h2 := Hs.out
    simp
    omega
  go_wp2_with (refine wpList_clear rfl (.tmp 31) 76 rfl (.slice (some ⟨g, (p + q) * 2, none⟩) 1 (cap - (p + q))) (by simp [Act.eval]; omega) _ (run_clearMiss g ((p + q) * 2) _ _ _ (heap_setRow Hh.out _) hroom _) ?_)
  go_ret
  refine ⟨rfl, ?_, ?_⟩
  · have hpq : (xs ++ ys).length = p + q := by simp [hp, hq]
    have hl1 := s1.out
    have hl2 := Hx.out
    have hl3 := Hs.out
    have hl4 := Hp.out
    have hl5 : (cur.toList.take (p * 2)).length = p * 2 := by rw [hl4, hl2]
    rw [← hpq]
    refine MissRow.mk (heap_setRow (heap_setRow Hh.out _) _) (by omega) hmax (by simp; omega) ?_
    rw [hpq, hl4, missCells_append]
    simp only
    rw [List.take_append_of_le_length (by simp; omega), List.take_take, Nat.min_self, ← List.append_assoc, List.take_left' (by simp; omega)]
  · exact grown_setRow (grown_setRow (grown_drew (World.grownBy_refl w _)) _) _
end Go.Proofs.YtjnoaidceddpjaaDoor
namespace Go.Proofs.YtjnoaidceddpjaaDoor
open Go.RowKit Go.Extern.Stop Go.Stop Go.Extern

/-- What is left when a line's miss is dropped. -/
def dropOf (line : Int) : List (Int × Int) → List (Int × Int)
  | [] => []
  | m :: l => if m.1 == line then l else m :: dropOf line l
theorem drop_split (line : Int) : ∀ (l : List (Int × Int)) (i : Nat), (has line l = false ∧ place line l i = -1 ∧ dropOf line l = l) ∨ ∃ xs m ys, l = xs ++ m :: ys ∧ dropOf line l = xs ++ ys ∧ place line l i = ((i + xs.length : Nat) : Int) ∧ has line l = true := by
  intro l
  induction l with
  | nil => intro i; exact .inl ⟨rfl, rfl, rfl⟩
  | cons a l ih =>
    intro i
    by_cases h : (a.1 == line) = true
    · exact .inr ⟨[], a, l, rfl, by simp [dropOf, h], by simp [place, h], by simp [has, h]⟩
    · have h' : (a.1 == line) = false := by simpa using h
      rcases ih (i + 1) with ⟨h1, h2, h3⟩ | ⟨xs, m, ys, hl, h1, h2, h3⟩
      · exact .inl ⟨by simp [has, h', h1], by simp [place, h', h2], by simp [dropOf, h', h3]⟩
      · exact .inr ⟨a :: xs, m, ys, by simp [hl], by simp [dropOf, h', h1], by simp only [place, h']; simp; rw [h2]; omega, by simp [has, h3]⟩
theorem deleteMiss_at (g cap n p : Nat) (xs ys : List (Int × Int)) (m : Int × Int) (w : World) (hn : (xs ++ m :: ys).length = n) (hp : xs.length = p) (h : MissRow w (.slice (some ⟨g, 0, none⟩) n cap) (xs ++ m :: ys)) (hfew : n ≤ 1000) :
    Calls Tryd.prog 64 #[.slice (some ⟨g, 0, none⟩) n cap, .int .i64 p, .int .i64 ((p : Int) + 1)] w fun e w' => e = .returned (.slice (some ⟨g, 0, none⟩) (n - 1) cap) ∧ MissRow w' (.slice (some ⟨g, 0, none⟩) (n - 1) cap) (xs ++ ys) ∧ w.grownBy w' (some g) := by
  subst hn
  subst hp
  have e : (xs ++ ys).length = (xs ++ m :: ys).length - 1 := by simp
  rw [← e]
  exact deleteMiss g cap xs ys m w h hfew
set_option maxRecDepth 100000 in
set_option maxHeartbeats 400000 in
/-- Drop: a line's miss is under way no more. -/
theorem drop_is (t most : Nat) (l : List (Int × Int)) (v : Value) (line : Int) (w : World) (h : TabAt w t most l v) :
    Calls Tryd.prog 38 #[.pointer (some ⟨t, 0, none⟩), .int .i64 line] w fun e w' => e = .returned (.bool (has line l)) ∧ ∃ v', TabAt w' t most (dropOf line l) v' ∧ v'.ownBlock = v.ownBlock ∧ Turned (fun k => k = t ∨ v.ownBlock = some k) w w' := by
  have hk := known_is t most l v line w h
  rcases drop_split line l 0 with ⟨h1, h2, h3⟩ | ⟨xs, m, ys, hl, h1, h2, h3⟩
  · rw [h2] at hk
    have Hk := Lib.hid hk
    have Ht := Lib.hid h
    rw [h1, h3]
    clear hk h h1 h2 h3
    go_enter Tryd.func38, Tryd.ntmps38
    go_wp2_with fail
    refine (Hk.out).mono ?_
    rintro e w1 ⟨rfl, hb⟩
    have hb' := Lib.hid hb
    clear hb
    go_wp2
    go_ret
    exact ⟨rfl, v, Ht.out.below hb'.out, rfl, Turned.of_below hb'.out⟩
  · rw [h2] at hk
    have Hk := Lib.hid hk
    have Ht := Lib.hid h
    rw [h1, h3]
    clear hk h h1 h2 h3
    subst hl
    go_enter Tryd.func38, Tryd.ntmps38
    go_wp2_with fail
    refine (Hk.out).mono ?_
    rintro e w1 ⟨rfl, hb⟩
    have T1 := Ht.out.below hb
    have hb' := Lib.hid hb
    clear hb
    rcases T1.row.cells with ⟨_, hn⟩ | ⟨g, cap, hv, _⟩
    · simp at hn
    have hfew := T1.few
    generalize hn : (xs ++ m :: ys).length = n at *
    subst hv
    have d1 := T1.list_cell
    have HT := Lib.hid T1
    have Hn := Lib.hid hn
    have hz : ((0 + xs.length : Nat) : Int) = (xs.length : Int) := by simp
    have hpn : xs.length < n := by rw [← hn]; simp
    generalize hp : xs.length = p at *
    have Hp := Lib.hid hp
    clear T1 hn hp
    have hwr : IntKind.i64.wrap ((p : Int) + 1) = (p : Int) + 1 := by rw [IntKind.wrap_i64]; omega
    rw [hz]
    clear hz
    go_wp2_with fail
    refine (deleteMiss_at g cap n p xs ys m _ Hn.out Hp.out HT.out.row hfew).mono ?_
    rintro e w2 ⟨rfl, hr2, hg2⟩
    have hgt : ¬ t = g := fun e => HT.out.ne (by simp [Value.ownBlock, e])
    have hbox : w2.heap[t]? = some (.cells #[.int .i64 most, .slice (some ⟨g, 0, none⟩) n cap] 119 (0, 0)) := by
      rw [hg2.block t (lt_of_heap HT.out.box) (by intro e; simp at e; exact hgt e)]; exact HT.out.box
    have c1 : w2.cell? ⟨t, 1, none⟩ = some (.slice (some ⟨g, 0, none⟩) n cap) := by simp [World.cell?, hbox]
    have f1 : w2.frozen? ⟨t, 1, none⟩ = false := by simp [World.frozen?, hbox]
    have Hr := Lib.hid hr2
    have Hg := Lib.hid hg2
    have Hx := Lib.hid hbox
    clear hr2 hg2 hbox
    go_wp2
    go_ret
    refine ⟨rfl, .slice (some ⟨g, 0, none⟩) (n - 1) cap, ⟨?_, ?_, ?_, ?_⟩, rfl, ?_⟩
    · have := heap_setCell (o := 1) Hx.out (.slice (some ⟨g, 0, none⟩) (n - 1) cap)
      simpa using this
    · exact Hr.out.of_block (fun k hk => Below.heap_setCell _ _ _ _ (by
        simp [Value.ownBlock] at hk
        intro e
        simp at e
        exact hgt (by omega)))
    · simp [Value.ownBlock]
      intro e
      exact hgt e.symm
    · have := HT.out.few
      simp at this ⊢
      omega
    · refine ((Turned.of_below hb'.out).trans (Turned.of_grown Hg.out (fun k hk => ?_))).setCell (Or.inl (Or.inl rfl)) _
      exact Or.inr (by simpa [Value.ownBlock] using hk)
end Go.Proofs.YtjnoaidceddpjaaDoor
namespace Go.Proofs.YtjnoaidceddpjaaDoor
open Go.RowKit Go.Extern.Stop Go.Stop Go.Extern

/-- The lines rise, and are lines. -/
def Rising (l : List (Int × Int)) : Prop := l.Pairwise (fun a b => a.1 < b.1) ∧ ∀ m ∈ l, 0 ≤ m.1 ∧ m.1 < 32
def lbOf (line : Int) : List (Int × Int) → Nat
  | [] => 0
  | m :: l => if m.1 < line then lbOf line l + 1 else 0
theorem lb_le (line : Int) : ∀ l, lbOf line l ≤ l.length := by
  intro l
  induction l with
  | nil => simp [lbOf]
  | cons a l ih =>
    simp only [lbOf]
    split
    · simp; omega
    · simp
theorem lb_below (line : Int) : ∀ (l : List (Int × Int)) (k : Nat) (m : Int × Int), l[k]? = some m → k < lbOf line l → m.1 < line := by
  intro l
  induction l with
  | nil => intro k m h; simp at h
  | cons a l ih =>
    intro k m hk hlt
    simp only [lbOf] at hlt
    split at hlt
    · cases k with
      | zero => simp at hk; subst hk; assumption
      | succ k => exact ih k m (by simpa using hk) (by omega)
    · omega
theorem lb_above (line : Int) : ∀ (l : List (Int × Int)), Rising l → ∀ (k : Nat) (m : Int × Int), l[k]? = some m → lbOf line l ≤ k → line ≤ m.1 := by
  intro l
  induction l with
  | nil => intro _ k m h; simp at h
  | cons a l ih =>
    intro hr k m hk hle
    have hr2 : Rising l := ⟨(List.pairwise_cons.1 hr.1).2, fun m hm => hr.2 m (by simp [hm])⟩
    simp only [lbOf] at hle
    split at hle
    · cases k with
      | zero => omega
      | succ k => exact ih hr2 k m (by simpa using hk) (by omega)
    · rename_i hge
      cases k with
      | zero => simp at hk; subst hk; omega
      | succ k =>
        have hm : m ∈ l := List.mem_of_getElem? (by simpa using hk)
        have := (List.pairwise_cons.1 hr.1).1 m hm
        omega
theorem lb_unique (line : Int) (l : List (Int × Int)) (hr : Rising l) (i : Nat) (hi : i ≤ l.length) (h1 : ∀ k m, l[k]? = some m → k < i → m.1 < line) (h2 : ∀ k m, l[k]? = some m → i ≤ k → line ≤ m.1) : i = lbOf line l := by
  have hle := lb_le line l
  rcases Nat.lt_trichotomy i (lbOf line l) with h | h | h
  · have hg := List.getElem?_eq_getElem (show i < l.length by omega)
    have := h2 i _ hg (Nat.le_refl _)
    have := lb_below line l i _ hg h
    omega
  · exact h
  · have hg := List.getElem?_eq_getElem (show lbOf line l < l.length by omega)
    have := h1 _ _ hg h
    have := lb_above line l hr _ _ hg (Nat.le_refl _)
    omega
theorem lb_has (line : Int) (l : List (Int × Int)) (hr : Rising l) : has line l = true ↔ ∃ m, l[lbOf line l]? = some m ∧ m.1 = line := by
  constructor
  · intro h
    rcases place_get line l 0 with ⟨h1, _, _⟩ | ⟨j, m, hm, h1, _, _, _⟩
    · rw [h1] at h; cases h
    · have hj : ¬ j < lbOf line l := fun hlt => by have := lb_below line l j m hm hlt; omega
      have hjl : j < l.length := (List.getElem?_eq_some_iff.1 hm).1
      rcases Nat.lt_or_ge (lbOf line l) j with hlt | hge
      · have hg := List.getElem?_eq_getElem (show lbOf line l < l.length by omega)
        have h3 := lb_above line l hr _ _ hg (Nat.le_refl _)
        have h4 := List.pairwise_iff_getElem.1 hr.1 (lbOf line l) j (by omega) hjl hlt
        have h5 : l[j] = m := (List.getElem?_eq_some_iff.1 hm).2
        rw [h5] at h4
        omega
      · have e : j = lbOf line l := by omega
        subst e
        exact ⟨m, hm, h1⟩
  · rintro ⟨m, hm, he⟩
    have : ∀ (l : List (Int × Int)) (k : Nat), l[k]? = some m → has line l = true := by
      intro l
      induction l with
      | nil => intro k h; simp at h
      | cons a l ih =>
        intro k hk
        cases k with
        | zero => simp at hk; subst hk; simp [has, he]
        | succ k => simp [has, ih k (by simpa using hk)]
    exact this l _ hm

set_option maxRecDepth 100000 in
/-- The comparison that at hands over. -/
theorem at1 (x y line : Int) (w : World) (h1 : 0 ≤ x) (h2 : x < 32) (h3 : 0 ≤ line) (h4 : line < 32) :
    Calls Tryd.prog 79 #[.agg #[.int .i64 x, .int .i64 y], .int .i64 line] w fun e w' => e = .returned (.int .i64 (x - line)) ∧ Below w.heap.size w w' := by
  go_enter Tryd.func79, Tryd.ntmps79
  go_wp2
  go_ret
  exact ⟨rfl, (Below.refl _ _).alloc (Nat.le_refl _) _⟩
set_option maxRecDepth 100000 in
set_option maxHeartbeats 2000000 in
theorem search_is (v : Value) (l : List (Int × Int)) (line : Int) (w : World) (hv : MissRow w v l) (hl : l.length ≤ 1000) (hr : Rising l) (h3 : 0 ≤ line) (h4 : line < 32) :
    Calls Tryd.prog 78 #[v, .int .i64 line, .func (.func 79) #[] #[]] w fun e w' => e = .returned (.tuple #[.int .i64 (lbOf line l), .bool (has line l)]) ∧ Below w.heap.size w w' := by
  rcases hv.cells with ⟨rfl, rfl⟩ | ⟨g, cap, rfl, hc⟩
  · go_enter Tryd.func78, Tryd.ntmps78
    go_wp2
    refine wp_loop_rounds 1 ?_
    rw [rounds_succ]
    go_wp2
    go_ret2
    exact ⟨rfl, Below.refl _ _⟩
  · have Hc := Lib.hid hc
    have Hv := Lib.hid hv
    have Hr := Lib.hid hr
    clear hc hv hr
    generalize hn : l.length = n at *
    have Hn := Lib.hid hn
    clear hn
    go_enter Tryd.func78, Tryd.ntmps78
    go_wp2
    go_loopw [9, 10] (fun vi vj wr => ∃ i j : Nat, i ≤ j ∧ j ≤ n ∧ vi = .int .i64 i ∧ vj = .int .i64 j ∧ Hid (∀ k m, l[k]? = some m → k < i → m.1 < line) ∧ Hid (∀ k m, l[k]? = some m → j ≤ k → line ≤ m.1) ∧ Hid (Below w.heap.size w wr)) (fun vi vj _ => (intOf vj - intOf vi).toNat)
    case atStart => exact ⟨0, n, by omega, by omega, rfl, rfl, fun k m _ h => by omega, fun k m hk h => by have := (List.getElem?_eq_some_iff.1 hk).1; have := Hn.out; omega, Below.refl _ _⟩
    case round =>
      obtain ⟨i, j, hij, hjn, rfl, rfl, H1, H2, hbel⟩ := hrel
      by_cases hlt : i < j
      · have hh1 : (i + j) / 2 < n := by omega
        obtain ⟨⟨x, y⟩, hm⟩ : ∃ m, l[(i + j) / 2]? = some m := ⟨_, List.getElem?_eq_getElem (by have := Hn.out; omega)⟩
        obtain ⟨d0, d1⟩ := Hc.out _ _ hm
        have e0 := (hbel.out.cell (cell_lt d0)).trans d0
        have e1 := (hbel.out.cell (cell_lt d1)).trans d1
        have hx := Hr.out.2 _ (List.mem_of_getElem? hm)
        have hx1 : 0 ≤ x := hx.1
        have hx2 : x < 32 := hx.2
        have Hm := Lib.hid hm
        clear hm d0 d1 hx
        by_cases hxl : x < line
        · have hsign : decide (x - line < 0) = true := by simp; omega
          go_wp2_with fail
          refine (at1 x y line _ hx1 hx2 h3 h4).mono ?_
          rintro e w1 ⟨rfl, hb2⟩
          have hb3 : Hid (Below w.heap.size w w1) := hbel.out.trans (hb2.mono hbel.out.size)
          clear hb2
          go_wp2
          go_roundw
          case rel => exact ⟨(i + j) / 2 + 1, j, by omega, hjn, by go_num, rfl, fun k m hk hki => by
            rcases Nat.lt_or_ge k ((i + j) / 2) with h | h
            · have h5 := List.pairwise_iff_getElem.1 Hr.out.1 k ((i + j) / 2) (List.getElem?_eq_some_iff.1 hk).1 (List.getElem?_eq_some_iff.1 Hm.out).1 h
              rw [(List.getElem?_eq_some_iff.1 hk).2, (List.getElem?_eq_some_iff.1 Hm.out).2] at h5
              have h6 : m.1 < x := h5
              omega
            · obtain rfl : k = (i + j) / 2 := by omega
              rw [Hm.out] at hk
              injection hk with hk
              subst hk
              exact hxl, H2, hb3⟩
          case measure => simp [intOf]; omega
        · have hsign : decide (x - line < 0) = false := by simp; omega
          go_wp2_with fail
          refine (at1 x y line _ hx1 hx2 h3 h4).mono ?_
          rintro e w1 ⟨rfl, hb2⟩
          have hb3 : Hid (Below w.heap.size w w1) := hbel.out.trans (hb2.mono hbel.out.size)
          clear hb2
          go_wp2
          go_roundw
          case rel => exact ⟨i, (i + j) / 2, by omega, by omega, rfl, by go_num, H1, fun k m hk hki => by
            rcases Nat.lt_or_ge ((i + j) / 2) k with h | h
            · have h5 := List.pairwise_iff_getElem.1 Hr.out.1 ((i + j) / 2) k (List.getElem?_eq_some_iff.1 Hm.out).1 (List.getElem?_eq_some_iff.1 hk).1 h
              rw [(List.getElem?_eq_some_iff.1 hk).2, (List.getElem?_eq_some_iff.1 Hm.out).2] at h5
              have h6 : x < m.1 := h5
              omega
            · obtain rfl : k = (i + j) / 2 := by omega
              rw [Hm.out] at hk
              injection hk with hk
              subst hk
              show line ≤ x
              omega, hb3⟩
          case measure => simp [intOf]; omega
      · obtain rfl : i = j := by omega
        have hu := lb_unique line l Hr.out i (by have := Hn.out; omega) H1.out H2.out
        have hlb := lb_has line l Hr.out
        rw [← hu] at hlb
        have Hu := Lib.hid hu
        clear hu
        by_cases hin : i < n
        · obtain ⟨⟨x, y⟩, hm⟩ : ∃ m, l[i]? = some m := ⟨_, List.getElem?_eq_getElem (by have := Hn.out; omega)⟩
          obtain ⟨d0, d1⟩ := Hc.out _ _ hm
          have e0 := (hbel.out.cell (cell_lt d0)).trans d0
          have e1 := (hbel.out.cell (cell_lt d1)).trans d1
          have hx := Hr.out.2 _ (List.mem_of_getElem? hm)
          have hx1 : 0 ≤ x := hx.1
          have hx2 : x < 32 := hx.2
          have hres : (x - line == 0) = has line l := by
            rw [Bool.eq_iff_iff, hlb]
            constructor
            · intro h
              exact ⟨_, hm, by simp at h; show x = line; omega⟩
            · rintro ⟨m, hm2, he⟩
              rw [hm] at hm2
              injection hm2 with hm2
              subst hm2
              have he' : x = line := he
              simp; omega
          have Hres := Lib.hid hres
          clear hm d0 d1 hx hres hlb
          go_wp2_with fail
          refine (at1 x y line _ hx1 hx2 h3 h4).mono ?_
          rintro e w1 ⟨rfl, hb2⟩
          have hb3 : Hid (Below w.heap.size w w1) := hbel.out.trans (hb2.mono hbel.out.size)
          clear hb2
          go_wp2
          go_ret2
          exact ⟨by show Ending.returned (.tuple #[.int .i64 (i : Int), .bool (x - line == 0)]) = _; rw [← Hu.out, ← Hres.out], hb3.out⟩
        · have hno : has line l = false := by
            rw [Bool.eq_false_iff]
            intro h
            obtain ⟨m, hm, _⟩ := hlb.1 h
            have := (List.getElem?_eq_some_iff.1 hm).1
            have := Hn.out
            omega
          have Hno := Lib.hid hno
          clear hno hlb
          go_wp2
          go_ret2
          exact ⟨by show Ending.returned (.tuple #[.int .i64 (i : Int), .bool false]) = _; rw [← Hu.out, Hno.out], hbel.out⟩
set_option maxRecDepth 100000 in
set_option maxHeartbeats 400000 in
/-- at: where a line's miss stands, or would. -/
theorem at_is (t most : Nat) (l : List (Int × Int)) (v : Value) (line : Int) (w : World) (h : TabAt w t most l v) (hr : Rising l) (h3 : 0 ≤ line) (h4 : line < 32) :
    Calls Tryd.prog 61 #[.pointer (some ⟨t, 0, none⟩), .int .i64 line] w fun e w' => e = .returned (.tuple #[.int .i64 (lbOf line l), .bool (has line l)]) ∧ Below w.heap.size w w' := by
  have h1 := h.list_cell
  have hrow := Lib.hid h.row
  have hfew := h.few
  have Hr := Lib.hid hr
  clear h hr
  go_enter Tryd.func61, Tryd.ntmps61
  go_wp2_with fail
  refine (search_is v l line _ hrow.out hfew Hr.out h3 h4).mono ?_
  rintro e w1 ⟨rfl, hb⟩
  have hb' := Lib.hid hb
  clear hb
  go_wp2
  go_ret2
  exact ⟨rfl, hb'.out⟩
end Go.Proofs.YtjnoaidceddpjaaDoor
namespace Go.Proofs.YtjnoaidceddpjaaDoor
open Go.RowKit Go.Extern.Stop Go.Stop Go.Extern

/-- copy within rows whose elements are k cells wide. -/
theorem run_copy_k {P : Program} (w : World) (dT sT ty elem : TypeId) (k g o dLen dCap : Nat) (a : Addr) (sLen sCap : Nat) (cur : Array Value) (t : TypeId) (cs : List Value) (n : Nat)
    (hu : P.underlying dT = some (.slice elem)) (hs : (P.info? elem).map (·.size) = some k)
    (hg : w.heap[g]? = some (.cells cur t (0, 0))) (hn : Nat.min sLen dLen = n) (hl : cs.length = n * k)
    (hsrc : ∀ j v, cs[j]? = some v → w.cell? (a.add j) = some v) (hfit : o + cs.length ≤ cur.size) (h1 : ∀ v ∈ cs, v.oneCell' = true) :
    (Builtin.copy_ #[dT, sT] ty #[.slice (some ⟨g, o, none⟩) dLen dCap, .slice (some a) sLen sCap]).run P w =
      .ok (goInt n) (w.setRow g (cur.toList.take o ++ cs ++ cur.toList.drop (o + cs.length)).toArray) := by
  have hld := run_loadCells_list (P := P) w a cs hsrc
  rw [hl] at hld
  have hst := run_storeCells_at (P := P) g o t cs 0 cur w hg (by simpa using hfit) h1
  simp only [Nat.add_zero] at hst
  generalize w.setRow g (cur.toList.take o ++ cs ++ cur.toList.drop (o + cs.length)).toArray = w2 at hst ⊢
  cases hq : P.info? elem with
  | none => simp [hq] at hs
  | some i =>
    have hi : i.size = k := by simpa [hq] using hs
    simp [Builtin.copy_, run_underlying hu, Builtin.lenOf, Builtin.firstCells, sizeOf, typeInfo, hq, hi, hn, hld, hst]
set_option maxRecDepth 100000 in
set_option maxHeartbeats 1000000 in
theorem insertMiss_end (v : Value) (l : List (Int × Int)) (n : Nat) (x y : Int) (b : Nat) (w : World) (hv : MissRow w v l) (hn : l.length = n) (hl : n ≤ 1000) (hb : w.heap[b]? = some (.cells #[.int .i64 x, .int .i64 y] 91 (0, 0))) :
    Calls Tryd.prog 62 #[v, .int .i64 n, .slice (some ⟨b, 0, none⟩) 1 1] w fun e w' => ∃ v', e = .returned v' ∧ MissRow w' v' (l ++ [(x, y)]) ∧ w.grownBy w' v.ownBlock ∧ (v'.ownBlock = v.ownBlock ∨ ∃ k, v'.ownBlock = some k ∧ w.heap.size ≤ k) := by
  obtain ⟨i0, hi, hz0, hz1, hz2⟩ := info_parts Tryd.infoMiss
  have hnews : Hid (∀ j u, ([Value.int .i64 x, Value.int .i64 y] : List Value)[j]? = some u → w.cell? ((⟨b, 0, none⟩ : Addr).add j) = some u) := by
    intro j u hu
    rw [Addr.add_lit, Nat.zero_add]
    simp only [World.cell?, hb]
    simpa using hu
  have hone : Hid (∀ u ∈ ([Value.int .i64 x, Value.int .i64 y] : List Value), u.oneCell' = true) := by
    intro u hu
    simp at hu
    rcases hu with rfl | rfl <;> rfl
  have Hv := Lib.hid hv
  have Hn := Lib.hid hn
  have hcat : Hid (missCells (l ++ [(x, y)]) = missCells l ++ [Value.int .i64 x, Value.int .i64 y]) := by rw [missCells_append]; rfl
  rcases hv.cells with ⟨rfl, hl0⟩ | ⟨g, cap, hvv, _⟩
  · have hn0 : n = 0 := by rw [← hn, hl0]; rfl
    subst hn0
    clear hb hl0 hv hn
    go_enter Tryd.func62, Tryd.ntmps62
    go_wp2_with (at_builtin; refine wpList_append_own_at _ rfl (.tmp 23) (.tmp 24) 76 rfl 0 91 i0 (.agg #[.int .i64 0, .int .i64 0]) 2 16 Tryd.underlying76 hi hz0 hz1 hz2 rfl (by decide) (.slice none 0 0) l.length (missCells l) rfl Hv.out ⟨b, 0, none⟩ 1 1 [.int .i64 x, .int .i64 y] rfl rfl hnews.out hone.out (by unfold maxLen; have := Hn.out; omega) (by have := Hn.out; omega) (by omega) ?_; intro v' w1 hown' hgrow _ hat; have Hown := Lib.hid hown'; have Hg := Lib.hid hgrow; have Hat := Lib.hid hat; clear hown' hgrow hat)
    go_ret
    refine ⟨v', rfl, MissRow.of_owns (base := 0) (by rw [hcat.out]; simpa using Hown.out), Hg.out, ?_⟩
    rcases Hat.out with h | h
    · exact .inl h
    · exact .inr ⟨_, h, Nat.le_refl _⟩
  · rw [hn] at hvv
    subst hvv
    clear hb hv hn
    go_enter Tryd.func62, Tryd.ntmps62
    go_wp2_with (at_builtin; refine wpList_append_own_at _ rfl (.tmp 23) (.tmp 24) 76 rfl 0 91 i0 (.agg #[.int .i64 0, .int .i64 0]) 2 16 Tryd.underlying76 hi hz0 hz1 hz2 rfl (by decide) (.slice (some ⟨g, 0, none⟩) n cap) l.length (missCells l) rfl Hv.out ⟨b, 0, none⟩ 1 1 [.int .i64 x, .int .i64 y] rfl rfl hnews.out hone.out (by unfold maxLen; have := Hn.out; omega) (by have := Hn.out; omega) (by omega) ?_; intro v' w1 hown' hgrow _ hat; have Hown := Lib.hid hown'; have Hg := Lib.hid hgrow; have Hat := Lib.hid hat; clear hown' hgrow hat)
    all_goals
      go_ret
      refine ⟨v', rfl, MissRow.of_owns (base := 0) (by rw [hcat.out]; simpa using Hown.out), Hg.out, ?_⟩
      rcases Hat.out with h | h
      · exact .inl h
      · exact .inr ⟨_, h, Nat.le_refl _⟩
/-- Where s[i:] begins. -/
theorem tail_addr (w : World) (g cap i : Nat) (cs : List Value) (h : cs ≠ [] → i ≠ cap) (hc : ∀ j u, cs[j]? = some u → w.cell? ⟨g, i * 2 + j, none⟩ = some u) :
    ∃ A : Addr, (if cap = i then some (⟨g, 0, none⟩ : Addr) else some ⟨g, i * 2, none⟩) = some A ∧ Hid (∀ j u, cs[j]? = some u → w.cell? (A.add j) = some u) := by
  by_cases e : cap = i
  · refine ⟨⟨g, 0, none⟩, by simp [e], fun j u hu => ?_⟩
    have : cs = [] := by
      by_cases hn : cs = []
      · exact hn
      · exact absurd e.symm (h hn)
    subst this
    simp at hu
  · exact ⟨⟨g, i * 2, none⟩, by simp [e], fun j u hu => by rw [Addr.add_lit]; exact hc j u hu⟩
/-- The operation copy(d, s), where its run is known. -/
theorem wpList_copy_is {P : Program} {w : World} {ops : Array Oper} {rest : List Oper} {o : Oper} {a : Act} {Q : Exit → Act → World → Prop} (hgd : o.guard = none) (d s : Operand) (t t' : TypeId)
    (ho : o.op = .call { callee := .builtin .copy, args := #[d, s], argTypes := #[t, t'] }) (v u : Value) (hd : a.eval d = v) (hs : a.eval s = u) {v' : Value} {w' : World}
    (hr : (Builtin.copy_ #[t, t'] o.type #[v, u]).run P w = .ok v' w') (h : wpList P ops Q rest (a.put o.dst v') w') : wpList P ops Q (o :: rest) a w := by
  refine wpList_plain hgd fun _ hK => ?_
  unfold Oper.wp execOp
  simp only [ho, resolve, invoke, builtin, Sem.run_bind, Sem.run_pure, Result.andThen_ok, List.map_toArray, List.map_cons, List.map_nil, hd, hs, hr]
  exact hK _ _ h
/-- .. and as one step of a region that draws. -/
theorem step_copy_is {P : Program} {ops : Array Oper} {o : Oper} {a : Act} {w : World} {K : Act → World → Prop} {Q : Exit → Act → World → Prop} {E : Prop}
    (hg : o.guard = none) (d x : Operand) (dT sT : TypeId) (hop : o.op = Op.call { callee := Callee.builtin Builtin.copy, args := #[d, x], argTypes := #[dT, sT] })
    (v u : Value) (hd : a.eval d = v) (hx : a.eval x = u) {v' : Value} {w' : World} (hr : (Builtin.copy_ #[dT, sT] o.type #[v, u]).run P w = .ok v' w') (hK : K (a.put o.dst v') w') :
    if Region.wanted o (yielded ops a.tmps) = true then Oper.wp P o a w K Q else E := by
  have hw : Region.wanted o (yielded ops a.tmps) = true := by simp [Region.wanted, hg]
  rw [if_pos hw]
  unfold Oper.wp
  simp [execOp, hop, resolve, invoke, builtin, hd, hx, hr, Result.andThen]
  exact hK
theorem Tryd.sizeMiss : (Tryd.prog.info? 91).map (·.size) = some 2 := by kernel_rfl
theorem Tryd.sizeOfMiss (w : World) : (Go.sizeOf 91).run Tryd.prog w = .ok 2 w := by kernel_rfl
theorem run_overlapsMiss (b g : Nat) (la ca lb cb o : Nat) (c1 c2 : Array Value) (w : World) (hne : b ≠ g) (hb : w.heap[b]? = some (.cells c1 91 (0, 0))) (hg : w.heap[g]? = some (.cells c2 91 (0, 0))) (hz : c2.size ≠ 0) :
    (callFunc 80 #[.slice (some ⟨b, 0, none⟩) la ca, .slice (some ⟨g, o, none⟩) lb cb]).run Tryd.prog w = .ok (.value (.bool false)) w := by
  rw [run_callFunc_extern Tryd.func80 (by kernel_rfl) (by kernel_rfl) (by kernel_rfl) (e := Extern.SlicesOverlaps.overlaps #[76, 76] #[4]) (by kernel_rfl),
    Lib.run_overlaps_apart w 76 4 91 Tryd.underlying76 2 Tryd.sizeOfMiss ⟨b, 0, none⟩ ⟨g, o, none⟩ la ca lb cb hne 91 91 c1.size c2.size (by simp [World.shape?, hb]) (by simp [World.shape?, hg]) hz (by simp [World.frozen?, hb]) (by simp [World.frozen?, hb])]
  rfl
set_option maxRecDepth 100000 in
set_option maxHeartbeats 1000000 in
theorem insertMiss_room (g cap n p : Nat) (xs ys : List (Int × Int)) (x y : Int) (b : Nat) (w : World) (hv : MissRow w (.slice (some ⟨g, 0, none⟩) n cap) (xs ++ ys)) (hn : (xs ++ ys).length = n) (hp : xs.length = p) (hpn : p < n) (hcap : n + 1 ≤ cap) (hl : n ≤ 1000) (hbg : b ≠ g) (hb : w.heap[b]? = some (.cells #[.int .i64 x, .int .i64 y] 91 (0, 0))) :
    Calls Tryd.prog 62 #[.slice (some ⟨g, 0, none⟩) n cap, .int .i64 p, .slice (some ⟨b, 0, none⟩) 1 1] w fun e w' => e = .returned (.slice (some ⟨g, 0, none⟩) (n + 1) cap) ∧ MissRow w' (.slice (some ⟨g, 0, none⟩) (n + 1) cap) (xs ++ (x, y) :: ys) ∧ w.grownBy w' (some g) := by
  obtain ⟨cur, hheap, -, hmax, hsz, htake, -⟩ := hv.heap
  rw [hn] at htake
  have hxs : (missCells xs).length = p * 2 := by rw [missCells_length, hp]
  have hys : (missCells ys).length = (n - p) * 2 := by
    rw [missCells_length]
    have : (xs ++ ys).length = xs.length + ys.length := List.length_append
    rw [show ys.length = n - p from by omega]
  have htk : cur.toList.take (n * 2) = missCells xs ++ missCells ys := by rw [htake, missCells_append]
  have htp : cur.toList.take (p * 2) = missCells xs := by
    have := congrArg (List.take (p * 2)) htk
    rw [List.take_take, Nat.min_eq_left (by omega), List.take_left' hxs] at this
    exact this
  have hcl : cur.toList.length = cap * 2 := by simpa using hsz
  have hget : ∀ j u, (missCells ys)[j]? = some u → cur.toList[p * 2 + j]? = some u := by
    intro j u hu
    have hj := (List.getElem?_eq_some_iff.1 hu).1
    have h1 : (cur.toList.take (n * 2))[p * 2 + j]? = some u := by
      rw [htk, List.getElem?_append_right (by omega), hxs, show p * 2 + j - p * 2 = j from by omega]; exact hu
    rw [List.getElem?_take_of_lt (by omega)] at h1
    exact h1
  have hov : ∀ o lb cb, (callFunc 80 #[.slice (some ⟨b, 0, none⟩) 1 1, .slice (some ⟨g, o, none⟩) lb cb]).run Tryd.prog w = .ok (.value (.bool false)) w := fun o lb cb => run_overlapsMiss b g 1 1 lb cb o _ cur w hbg hb hheap (by omega)
  have hcp1 : ∀ ty dL dc sL sc, dL = n - p → sL = n + 1 - p → (Builtin.copy_ #[76, 76] ty #[.slice (some ⟨g, (p + 1) * 2, none⟩) dL dc, .slice (some ⟨g, p * 2, none⟩) sL sc]).run Tryd.prog w.drew = .ok (goInt ((n - p : Nat) : Int)) (w.drew.setRow g (cur.toList.take ((p + 1) * 2) ++ missCells ys ++ cur.toList.drop ((p + 1) * 2 + (missCells ys).length)).toArray) := fun ty dL dc sL sc hdL hsL =>
    run_copy_k w.drew _ _ ty 91 2 g ((p + 1) * 2) _ dc ⟨g, p * 2, none⟩ _ sc cur 91 (missCells ys) (n - p) Tryd.underlying76 Tryd.sizeMiss hheap (by simp only [Nat.min_def]; split <;> omega) hys
      (fun j u hj => by rw [Addr.add_lit]; show w.cell? _ = some u; simp only [World.cell?, hheap]; simpa using hget j u hj) (by omega) (fun u hu => missCells_one hu)
  obtain ⟨R1, hR1⟩ : ∃ R1 : Array Value, R1 = (cur.toList.take ((p + 1) * 2) ++ missCells ys ++ cur.toList.drop ((p + 1) * 2 + (missCells ys).length)).toArray := ⟨_, rfl⟩
  rw [← hR1] at hcp1
  have hR1l : R1.toList = cur.toList.take ((p + 1) * 2) ++ (missCells ys ++ cur.toList.drop ((p + 1) * 2 + (missCells ys).length)) := by rw [hR1, List.append_assoc]
  have hR1s : R1.size = cap * 2 := by
    rw [← Array.length_toList, hR1l]
    simp only [List.length_append, List.length_take, List.length_drop]
    omega
  have hcp2 : ∀ (W : World), W.heap[g]? = some (.cells R1 91 (0, 0)) → W.heap[b]? = some (.cells #[.int .i64 x, .int .i64 y] 91 (0, 0)) → ∀ ty dL dc, dL = n + 1 - p → (Builtin.copy_ #[76, 76] ty #[.slice (some ⟨g, p * 2, none⟩) dL dc, .slice (some ⟨b, 0, none⟩) 1 1]).run Tryd.prog W = .ok (goInt ((1 : Nat) : Int)) (W.setRow g (R1.toList.take (p * 2) ++ [Value.int .i64 x, Value.int .i64 y] ++ R1.toList.drop (p * 2 + 2)).toArray) := fun W h1 h2 ty dL dc hdL =>
    run_copy_k W _ _ ty 91 2 g (p * 2) _ dc ⟨b, 0, none⟩ 1 1 R1 91 [.int .i64 x, .int .i64 y] 1 Tryd.underlying76 Tryd.sizeMiss h1 (by simp only [Nat.min_def]; split <;> omega) rfl
      (fun j u hj => by rw [Addr.add_lit, Nat.zero_add]; simp only [World.cell?, h2]; simpa using hj) (by simp; omega) (by simp [Value.oneCell'])
  have hb2 : (w.drew.setRow g R1).heap[b]? = some (.cells #[.int .i64 x, .int .i64 y] 91 (0, 0)) := by
    rw [setRow_other _ _ _ _ hbg]; exact hb
  have hfin : MissRow ((w.drew.setRow g R1).setRow g (R1.toList.take (p * 2) ++ [Value.int .i64 x, Value.int .i64 y] ++ R1.toList.drop (p * 2 + 2)).toArray) (.slice (some ⟨g, 0, none⟩) (n + 1) cap) (xs ++ (x, y) :: ys) := by
    have e : (xs ++ (x, y) :: ys).length = n + 1 := by simp at hn ⊢; omega
    rw [← e]
    refine MissRow.mk (heap_setRow (heap_setRow (w := w.drew) hheap _) _) (by omega) hmax ?_ ?_
    · simp
      omega
    · have t1 : R1.toList.take (p * 2) = missCells xs := by
        rw [hR1l, List.take_append_of_le_length (by simp; omega), List.take_take, Nat.min_eq_left (by omega), htp]
      have t2 : R1.toList.drop (p * 2 + 2) = missCells ys ++ cur.toList.drop ((p + 1) * 2 + (missCells ys).length) := by
        rw [hR1l, List.drop_left' (by simp; omega)]
      rw [e, t1, t2, missCells_append]
      simp only [List.append_assoc]
      have e2 : missCells ((x, y) :: ys) = [Value.int .i64 x, Value.int .i64 y] ++ missCells ys := rfl
      rw [e2, ← List.append_assoc, ← List.append_assoc, ← List.append_assoc, List.take_left' (by simp; omega)]
  have Hfin := Lib.hid hfin
  have Hheap := Lib.hid hheap
  have Hb2 := Lib.hid hb2
  have hwr : IntKind.i64.wrap ((p : Int) + 1) = (p : Int) + 1 := by rw [IntKind.wrap_i64]; omega
  have hq0 : (0 : Int) ≤ (p : Int) + 1 := by omega
  have hq1 : ((p : Int) + 1).toNat = p + 1 := by omega
  have hq2 : (p : Int) + 1 ≤ (n : Int) + 1 := by omega
  have hq3 : ¬ (cap = p + 1) := by omega
  have hq4 : ¬ (cap = p) := by omega
  have hq5 : (p : Int) ≤ (n : Int) + 1 := by omega
  have hq6 : ((p : Int) == (n : Int)) = false := by simp; omega
  clear hv htake hxs hys htk htp hsz hget hR1 hR1l hR1s hfin hheap hb hb2 hn hp hcl
  go_enter Tryd.func62, Tryd.ntmps62
  go_wp2_with (simp only [hov])
  go_region_law (refine step_copy_is rfl _ _ 76 76 rfl _ _ (by simp [Act.eval, Act.put]) (by simp [Act.eval, Act.put]) (hcp1 _ _ _ _ _ (by omega) (by omega)) ?_)
  all_goals go_wp2_with (refine wpList_copy_is rfl _ _ 76 76 rfl _ _ rfl rfl (hcp2 _ (heap_setRow (w := w.drew) Hheap.out _) Hb2.out _ _ _ (by omega)) ?_)
  all_goals go_ret
  all_goals exact ⟨rfl, (by have h := Hfin.out; simp only [List.append_assoc, List.cons_append, List.nil_append] at h ⊢; exact h), grown_setRow (grown_setRow (grown_drew (World.grownBy_refl w _)) _) _⟩
end Go.Proofs.YtjnoaidceddpjaaDoor
