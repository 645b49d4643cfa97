/- The table of misses beside other blocks: its calls leave these as they are. -/
import Derived.Test.YtjnoaidceddpjaaDoorMshrN
namespace Go.Proofs.YtjnoaidceddpjaaDoor
open Go.RowKit Go.Extern.Stop Go.Stop Go.Extern

/-- A table of the law's own, apart from the blocks of G. -/
def OwnG (G : Nat → Prop) (w0 w : World) (t most : Nat) (l : List (Int × Int)) : Prop := ∃ v, Own w0 w t most l v ∧ ∀ k, G k → k ≠ t ∧ v.ownBlock ≠ some k ∧ k < w.heap.size
theorem OwnG.below {G : Nat → Prop} {w0 w w' : World} {t most : Nat} {l : List (Int × Int)} (h : OwnG G w0 w t most l) (hb : Below w.heap.size w w') : OwnG G w0 w' t most l := by
  obtain ⟨v, h, hG⟩ := h
  exact ⟨v, ⟨h.tab.below hb, h.base.trans (hb.mono h.base.size), h.ht, h.hv⟩, fun k hk => ⟨(hG k hk).1, (hG k hk).2.1, Nat.lt_of_lt_of_le (hG k hk).2.2 hb.size⟩⟩
theorem OwnG.base {G : Nat → Prop} {w0 w : World} {t most : Nat} {l : List (Int × Int)} (h : OwnG G w0 w t most l) : Below w0.heap.size w0 w := by
  obtain ⟨v, h, -⟩ := h
  exact h.base
theorem OwnG.own {G : Nat → Prop} {w0 w : World} {t most : Nat} {l : List (Int × Int)} (h : OwnG G w0 w t most l) : OwnT w0 w t most l := by
  obtain ⟨v, h, -⟩ := h
  exact ⟨v, h⟩
theorem OwnG.mono {G G' : Nat → Prop} {w0 w : World} {t most : Nat} {l : List (Int × Int)} (h : OwnG G w0 w t most l) (hg : ∀ k, G' k → G k) : OwnG G' w0 w t most l := by
  obtain ⟨v, h, hG⟩ := h
  exact ⟨v, h, fun k hk => hG k (hg k hk)⟩
/-- Blocks that came after the table's may be named. -/
theorem OwnT.guard {w0 w w' : World} {t most : Nat} {l : List (Int × Int)} (h : OwnT w0 w t most l) (hb : Below w.heap.size w w') (G : Nat → Prop) (hG : ∀ k, G k → w.heap.size ≤ k ∧ k < w'.heap.size) : OwnG G w0 w' t most l := by
  obtain ⟨v, h⟩ := h
  refine ⟨v, ⟨h.tab.below hb, h.base.trans (hb.mono h.base.size), h.ht, h.hv⟩, fun k hk => ?_⟩
  have h1 := hG k hk
  have h2 := lt_of_heap h.tab.box
  refine ⟨by omega, fun e => ?_, h1.2⟩
  have := h.tab.row.lt e
  omega
theorem OwnG.turned {G : Nat → Prop} {w0 w w' : World} {t most : Nat} {l l' : List (Int × Int)} {v v' : Value} (h : Own w0 w t most l v) (hG : ∀ k, G k → k ≠ t ∧ v.ownBlock ≠ some k ∧ k < w.heap.size) (ht : TabAt w' t most l' v') (ho : v'.ownBlock = v.ownBlock ∨ ∃ k, v'.ownBlock = some k ∧ w.heap.size ≤ k) (hT : Turned (fun k => k = t ∨ v.ownBlock = some k) w w') :
    OwnG G w0 w' t most l' ∧ ∀ k, G k → w'.heap[k]? = w.heap[k]? := by
  refine ⟨⟨v', ⟨ht, h.base.trans (hT.below h.base.size (fun k hk hs => ?_)), h.ht, fun k hk => ?_⟩, fun k hk => ?_⟩, fun k hk => ?_⟩
  · have h1 := h.ht
    rcases hs with rfl | hs
    · omega
    · have := h.hv k hs
      omega
  · rcases ho with ho | ⟨q, ho, hq⟩
    · exact h.hv k (by rw [← ho]; exact hk)
    · rw [ho] at hk
      have := h.base.size
      have e : q = k := by simpa using hk
      omega
  · have h1 := hG k hk
    have h2 := hT.size
    refine ⟨h1.1, fun e => ?_, by omega⟩
    rcases ho with ho | ⟨q, ho, hq⟩
    · exact h1.2.1 (by rw [← ho]; exact e)
    · rw [ho] at e
      have e : q = k := by simpa using e
      omega
  · have h1 := hG k hk
    exact hT.block k h1.2.2 (fun hs => hs.elim h1.1 h1.2.1)
theorem ownG_add_any (G : Nat → Prop) (w0 : World) (t most : Nat) (l : List (Int × Int)) (line kind : Int) (w : World) (a : Nat → Addr) (S : Sents w0 a) (h : OwnG G w0 w t most l) (hr : Rising l) (hm : most ≤ 8) :
    (addCode most l line kind = 0 ∧ has line l = false ∧ l.length < most ∧ 0 ≤ line ∧ line < 32 ∧ 1 ≤ kind ∧ kind ≤ 4 ∧ Calls Tryd.prog 35 #[.pointer (some ⟨t, 0, none⟩), .int .i64 line, .int .i64 kind] w fun e w' => e = .returned .nilIface ∧ OwnG G w0 w' t most (insOf line kind l) ∧ ∀ k, G k → w'.heap[k]? = w.heap[k]?)
    ∨ (addCode most l line kind = 1 ∨ addCode most l line kind = 7 ∨ addCode most l line kind = 6) ∧ Calls Tryd.prog 35 #[.pointer (some ⟨t, 0, none⟩), .int .i64 line, .int .i64 kind] w fun e w' => e = .returned (sayAdd line (a (addCode most l line kind))) ∧ Below w.heap.size w w' := by
  rcases own_add_any w0 t most l line kind w a S h.own hr hm with ⟨h1, h2, h3, h4, h5, h6, h7, -⟩ | h1
  · obtain ⟨v, hO, hG⟩ := h
    refine .inl ⟨h1, h2, h3, h4, h5, h6, h7, (add_in t most l v line kind w hO.tab hr h4 h5 h6 h7 h2 (by omega) hm).mono ?_⟩
    rintro e w1 ⟨rfl, v', a1, a2, a3⟩
    obtain ⟨b1, b2⟩ := OwnG.turned hO hG a1 a2 a3
    exact ⟨rfl, b1, b2⟩
  · exact .inr h1
theorem ownG_drop (G : Nat → Prop) (w0 : World) (t most : Nat) (l : List (Int × Int)) (line : Int) (w : World) (h : OwnG G w0 w t most l) :
    Calls Tryd.prog 38 #[.pointer (some ⟨t, 0, none⟩), .int .i64 line] w fun e w' => e = .returned (.bool (has line l)) ∧ OwnG G w0 w' t most (dropOf line l) ∧ ∀ k, G k → w'.heap[k]? = w.heap[k]? := by
  obtain ⟨v, hO, hG⟩ := h
  refine (drop_is t most l v line w hO.tab).mono ?_
  rintro e w1 ⟨rfl, v', a1, a2, a3⟩
  obtain ⟨b1, b2⟩ := OwnG.turned hO hG a1 (.inl a2) a3
  exact ⟨rfl, b1, b2⟩
theorem ownG_get (G : Nat → Prop) (w0 : World) (t most : Nat) (l : List (Int × Int)) (line : Int) (w : World) (h : OwnG G w0 w t most l) :
    Calls Tryd.prog 36 #[.pointer (some ⟨t, 0, none⟩), .int .i64 line] w fun e w' => e = .returned (.tuple #[.int .i64 (kindOf line l), .bool (has line l)]) ∧ Below w.heap.size w w' := by
  obtain ⟨v, hO, hG⟩ := h
  exact get_is t most l v line w hO.tab
theorem ownG_full (G : Nat → Prop) (w0 : World) (t most : Nat) (l : List (Int × Int)) (w : World) (h : OwnG G w0 w t most l) :
    Calls Tryd.prog 37 #[.pointer (some ⟨t, 0, none⟩)] w fun e w' => e = .returned (.bool (decide (most ≤ l.length))) ∧ Below w.heap.size w w' := by
  obtain ⟨v, hO, hG⟩ := h
  refine (full_is t most l v w hO.tab).mono ?_
  rintro e w1 ⟨rfl, k, rfl⟩
  exact ⟨rfl, below_drewN _ _ _⟩
theorem ownG_list (G : Nat → Prop) (w0 : World) (t most : Nat) (l : List (Int × Int)) (w : World) (h : OwnG G w0 w t most l) :
    Calls Tryd.prog 39 #[.pointer (some ⟨t, 0, none⟩)] w fun e w' => ∃ v', e = .returned v' ∧ MissRow w' v' l ∧ (∀ k, v'.ownBlock = some k → w.heap.size ≤ k) ∧ Below w.heap.size w w' := by
  obtain ⟨v, hO, hG⟩ := h
  exact list_is t most l v w hO.tab

/-! What is told of a line, as the list turns. -/
theorem kind_has {l : List (Int × Int)} (hk : ∀ m ∈ l, 1 ≤ m.2) (x : Int) : (has x l = true → 1 ≤ kindOf x l) ∧ (has x l = false → kindOf x l = 0) := by
  induction l with
  | nil => simp [has, kindOf]
  | cons a l ih =>
    have ih := ih (fun m hm => hk m (List.mem_cons_of_mem _ hm))
    by_cases h : (a.1 == x) = true
    · simp only [has, kindOf, h, Bool.true_or, if_true]
      exact ⟨fun _ => hk a (by simp), fun e => by cases e⟩
    · have h' : (a.1 == x) = false := by simpa using h
      simp only [has, kindOf, h', Bool.false_or]
      simpa using ih
theorem kind_append (x : Int) (l r : List (Int × Int)) : kindOf x (l ++ r) = if has x l = true then kindOf x l else kindOf x r := by
  induction l with
  | nil => simp [has]
  | cons a l ih =>
    by_cases h : (a.1 == x) = true
    · simp [has, kindOf, h]
    · have h' : (a.1 == x) = false := by simpa using h
      simp only [List.cons_append, kindOf, has, h', Bool.false_or, Bool.false_eq_true, if_false, ih]
theorem has_append (x : Int) (l r : List (Int × Int)) : has x (l ++ r) = (has x l || has x r) := by
  induction l with
  | nil => simp [has]
  | cons a l ih => simp [has, ih, Bool.or_assoc]
theorem kind_ins (x k y : Int) (l : List (Int × Int)) (hx : has x l = false) : kindOf y (insOf x k l) = if y = x then k else kindOf y l := by
  have e : l = l.take (lbOf x l) ++ l.drop (lbOf x l) := (List.take_append_drop _ _).symm
  have h1 : has x (l.take (lbOf x l)) = false := by
    rw [e, has_append] at hx
    exact (Bool.or_eq_false_iff.1 hx).1
  unfold insOf
  rw [kind_append]
  conv => rhs; rw [e]
  by_cases hy : y = x
  · subst hy
    rw [h1, if_pos rfl]
    simp [kindOf]
  · rw [if_neg hy, kind_append]
    have : (x == y) = false := by simpa using fun e => hy e.symm
    simp [kindOf, this]
theorem rising_not_has {a : Int × Int} {l : List (Int × Int)} (h : (a :: l).Pairwise (fun a b => a.1 < b.1)) : has a.1 l = false := by
  rw [Bool.eq_false_iff]
  intro hh
  have : ∃ m ∈ l, m.1 = a.1 := by
    clear h
    induction l with
    | nil => simp [has] at hh
    | cons b l ih =>
      simp only [has, Bool.or_eq_true, beq_iff_eq] at hh
      rcases hh with hh | hh
      · exact ⟨b, by simp, hh⟩
      · obtain ⟨m, hm, e⟩ := ih hh
        exact ⟨m, List.mem_cons_of_mem _ hm, e⟩
  obtain ⟨m, hm, e⟩ := this
  have := (List.pairwise_cons.1 h).1 m hm
  omega
theorem drop_facts (x : Int) : ∀ l : List (Int × Int), l.Pairwise (fun a b => a.1 < b.1) → has x (dropOf x l) = false ∧ (∀ y, y ≠ x → kindOf y (dropOf x l) = kindOf y l) ∧ (has x l = true → (dropOf x l).length + 1 = l.length) := by
  intro l
  induction l with
  | nil => intro _; exact ⟨rfl, fun _ _ => rfl, fun h => by cases h⟩
  | cons a l ih =>
    intro h
    have h' := (List.pairwise_cons.1 h).2
    by_cases e : (a.1 == x) = true
    · have ea : a.1 = x := by simpa using e
      subst ea
      refine ⟨?_, fun y hy => ?_, fun _ => ?_⟩
      · simp only [dropOf, beq_self_eq_true, if_true]; exact rising_not_has h
      · have : (a.1 == y) = false := by simpa using fun e => hy e.symm
        simp [dropOf, kindOf, this]
      · simp [dropOf]
    · have e' : (a.1 == x) = false := by simpa using e
      obtain ⟨i1, i2, i3⟩ := ih h'
      refine ⟨?_, fun y hy => ?_, fun hx => ?_⟩
      · simp [dropOf, e', has, i1]
      · simp only [dropOf, e', Bool.false_eq_true, if_false, kindOf, i2 y hy]
      · simp only [has, e', Bool.false_or] at hx
        simp [dropOf, e', i3 hx]
end Go.Proofs.YtjnoaidceddpjaaDoor
