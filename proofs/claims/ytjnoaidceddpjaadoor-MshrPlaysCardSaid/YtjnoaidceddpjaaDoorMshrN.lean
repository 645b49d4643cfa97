/- The table of misses: Add in one contract; what an insertion and a drop keep. -/
import Derived.Test.YtjnoaidceddpjaaDoorMshrL
import Derived.Test.YtjnoaidceddpjaaDoorMshrM
import Derived.Test.YtjnoaidceddpjaaDoorSameMiss
namespace Go.Proofs.YtjnoaidceddpjaaDoor
open Go.RowKit Go.Extern.Stop Go.Stop Go.Extern

theorem MissRow.form {w : World} {v : Value} {l : List (Int × Int)} (h : MissRow w v l) : ∃ A c, v = .slice A l.length c ∧ ∀ i m, l[i]? = some m → ∃ g, A = some ⟨g, 0, none⟩ ∧ w.cell? ⟨g, i * 2, none⟩ = some (.int .i64 m.1) ∧ w.cell? ⟨g, i * 2 + 1, none⟩ = some (.int .i64 m.2) := by
  rcases h.cells with ⟨rfl, rfl⟩ | ⟨g, c, rfl, hc⟩
  · exact ⟨none, 0, rfl, fun i m hm => by simp at hm⟩
  · exact ⟨_, c, rfl, fun i m hm => ⟨g, rfl, hc i m hm⟩⟩
def insOf (x k : Int) (l : List (Int × Int)) : List (Int × Int) := l.take (lbOf x l) ++ (x, k) :: l.drop (lbOf x l)
theorem ins_length (x k : Int) (l : List (Int × Int)) : (insOf x k l).length = l.length + 1 := by
  have := lb_le x l
  simp [insOf]
  omega
theorem has_mem {x : Int} : ∀ {l : List (Int × Int)} {m : Int × Int}, m ∈ l → m.1 = x → has x l = true
  | a :: l, m, h, e => by
    rcases List.mem_cons.1 h with rfl | h
    · simp [has, e]
    · simp [has, has_mem h e]
theorem ins_rising (x k : Int) (l : List (Int × Int)) (h : Rising l) (hx : has x l = false) (h0 : 0 ≤ x) (h1 : x < 32) : Rising (insOf x k l) := by
  have hlo : ∀ m ∈ l.take (lbOf x l), m.1 < x := by
    intro m hm
    obtain ⟨i, hi, rfl⟩ := List.getElem_of_mem hm
    have hi2 : i < lbOf x l ∧ i < l.length := by simp at hi; omega
    exact lb_below x l i _ (by rw [List.getElem_take, List.getElem?_eq_getElem hi2.2]) hi2.1
  have hhi : ∀ m ∈ l.drop (lbOf x l), x < m.1 := by
    intro m hm
    obtain ⟨i, hi, rfl⟩ := List.getElem_of_mem hm
    have hi2 : lbOf x l + i < l.length := by simp at hi; omega
    have := lb_above x l h (lbOf x l + i) ((l.drop (lbOf x l))[i]) (by rw [List.getElem_drop, List.getElem?_eq_getElem hi2]) (by omega)
    have hne : (l.drop (lbOf x l))[i].1 ≠ x := fun e => by
      have := has_mem (List.mem_of_mem_drop hm) e
      rw [hx] at this
      cases this
    omega
  refine ⟨List.pairwise_append.2 ⟨List.Pairwise.sublist (List.take_sublist _ _) h.1, List.pairwise_cons.2 ⟨fun m hm => hhi m hm, List.Pairwise.sublist (List.drop_sublist _ _) h.1⟩, ?_⟩, ?_⟩
  · intro a ha b hb
    rcases List.mem_cons.1 hb with rfl | hb
    · exact hlo a ha
    · have := hlo a ha
      have := hhi b hb
      omega
  · intro m hm
    rcases List.mem_append.1 hm with hm | hm
    · exact h.2 m (List.mem_of_mem_take hm)
    · rcases List.mem_cons.1 hm with rfl | hm
      · exact ⟨h0, h1⟩
      · exact h.2 m (List.mem_of_mem_drop hm)
theorem drop_sub (x : Int) : ∀ l : List (Int × Int), List.Sublist (dropOf x l) l := by
  intro l
  rcases drop_split x l 0 with ⟨_, _, h⟩ | ⟨xs, m, ys, h1, h2, _, _⟩
  · rw [h]
    exact List.Sublist.refl _
  · rw [h2, h1]
    exact List.Sublist.append (List.Sublist.refl _) (List.sublist_cons_self _ _)
theorem drop_rising (x : Int) (l : List (Int × Int)) (h : Rising l) : Rising (dropOf x l) :=
  ⟨List.Pairwise.sublist (drop_sub x l) h.1, fun m hm => h.2 m ((drop_sub x l).subset hm)⟩
theorem drop_length (x : Int) (l : List (Int × Int)) : (dropOf x l).length ≤ l.length := (drop_sub x l).length_le
/-- What Add answers: 0: nothing. -/
def addCode (most : Nat) (l : List (Int × Int)) (line kind : Int) : Nat :=
  if line < 0 ∨ 32 ≤ line ∨ kind < 1 ∨ 4 < kind then 1 else if has line l = true then 7 else if most ≤ l.length then 6 else 0
theorem own_add_any (w0 : World) (t most : Nat) (l : List (Int × Int)) (line kind : Int) (w : World) (a : Nat → Addr) (S : Sents w0 a) (h : OwnT w0 w t most l) (hr : Rising l) (hm : most ≤ 8) :
    (addCode most l line kind = 0 ∧ has line l = false ∧ l.length < most ∧ 0 ≤ line ∧ line < 32 ∧ 1 ≤ kind ∧ kind ≤ 4 ∧ Calls Tryd.prog 35 #[.pointer (some ⟨t, 0, none⟩), .int .i64 line, .int .i64 kind] w fun e w' => e = .returned .nilIface ∧ OwnT w0 w' t most (insOf line kind l))
    ∨ (addCode most l line kind = 1 ∨ addCode most l line kind = 7 ∨ addCode most l line kind = 6) ∧ Calls Tryd.prog 35 #[.pointer (some ⟨t, 0, none⟩), .int .i64 line, .int .i64 kind] w fun e w' => e = .returned (sayAdd line (a (addCode most l line kind))) ∧ Below w.heap.size w w' := by
  have hS := h.sents S
  obtain ⟨v, hO⟩ := h
  by_cases h1 : line < 0 ∨ 32 ≤ line ∨ kind < 1 ∨ 4 < kind
  · have e : addCode most l line kind = 1 := by simp only [addCode, if_pos h1]
    rw [e]
    exact .inr ⟨.inl rfl, add_arg t line kind w a hS h1⟩
  · by_cases h2 : has line l = true
    · have e : addCode most l line kind = 7 := by simp only [addCode, if_neg h1, if_pos h2]
      rw [e]
      exact .inr ⟨.inr (.inl rfl), add_busy t most l v line kind w a hS hO.tab hr (by omega) (by omega) (by omega) (by omega) h2⟩
    · have h2' : has line l = false := by simpa using h2
      by_cases h3 : most ≤ l.length
      · have e : addCode most l line kind = 6 := by simp only [addCode, if_neg h1, if_neg h2, if_pos h3]
        rw [e]
        exact .inr ⟨.inr (.inr rfl), add_full t most l v line kind w a hS hO.tab hr (by omega) (by omega) (by omega) (by omega) h2' h3⟩
      · have e : addCode most l line kind = 0 := by simp only [addCode, if_neg h1, if_neg h2, if_neg h3]
        exact .inl ⟨e, h2', by omega, by omega, by omega, by omega, by omega, own_add w0 t most l line kind w ⟨v, hO⟩ hr (by omega) (by omega) (by omega) (by omega) h2' h3 hm⟩
theorem own_list2 (w0 : World) (t most : Nat) (l : List (Int × Int)) (w : World) (h : OwnT w0 w t most l) :
    Calls Tryd.prog 39 #[.pointer (some ⟨t, 0, none⟩)] w fun e w' => ∃ v', e = .returned v' ∧ MissRow w' v' l ∧ (∀ k, v'.ownBlock = some k → w.heap.size ≤ k) ∧ Below w.heap.size w w' := by
  obtain ⟨v, hO⟩ := h
  exact list_is t most l v w hO.tab
end Go.Proofs.YtjnoaidceddpjaaDoor
