/- The table of misses (package mshr): a table of the law's own, its calls told over what it holds alone. -/
import Derived.Test.YtjnoaidceddpjaaDoorMshrK
namespace Go.Proofs.YtjnoaidceddpjaaDoor
open Go.RowKit Go.Extern.Stop Go.Stop Go.Extern

/-- A table that was made after w0: it holds l; nothing of w0 is turned. -/
structure Own (w0 w : World) (t most : Nat) (l : List (Int × Int)) (v : Value) : Prop where
  tab : TabAt w t most l v
  base : Below w0.heap.size w0 w
  ht : w0.heap.size ≤ t
  hv : ∀ k, v.ownBlock = some k → w0.heap.size ≤ k
def OwnT (w0 w : World) (t most : Nat) (l : List (Int × Int)) : Prop := ∃ v, Own w0 w t most l v
theorem OwnT.below {w0 w w' : World} {t most : Nat} {l : List (Int × Int)} (h : OwnT w0 w t most l) (hb : Below w.heap.size w w') : OwnT w0 w' t most l := by
  obtain ⟨v, h⟩ := h
  exact ⟨v, h.tab.below hb, h.base.trans (hb.mono h.base.size), h.ht, h.hv⟩
theorem OwnT.base {w0 w : World} {t most : Nat} {l : List (Int × Int)} (h : OwnT w0 w t most l) : Below w0.heap.size w0 w := by
  obtain ⟨v, h⟩ := h
  exact h.base
theorem OwnT.sents {w0 w : World} {t most : Nat} {l : List (Int × Int)} {a : Nat → Addr} (h : OwnT w0 w t most l) (S : Sents w0 a) : Sents w a := S.of_below h.base
theorem Own.turned {w0 w w' : World} {t most : Nat} {l l' : List (Int × Int)} {v v' : Value} (h : Own w0 w t most l v) (ht : TabAt w' t most l' v') (ho : v'.ownBlock = v.ownBlock ∨ ∃ k, v'.ownBlock = some k ∧ w.heap.size ≤ k) (hT : Turned (fun k => k = t ∨ v.ownBlock = some k) w w') : OwnT w0 w' t most l' := by
  refine ⟨v', ht, h.base.trans (hT.below h.base.size (fun k hk hs => ?_)), h.ht, fun k hk => ?_⟩
  · have h1 := h.ht
    rcases hs with rfl | hs
    · omega
    · have := h.hv k hs
      omega
  · rcases ho with ho | ⟨q, ho, hq⟩
    · exact h.hv k (by rw [← ho]; exact hk)
    · rw [ho] at hk
      have := h.base.size
      have e : q = k := by simpa using hk
      omega
theorem own_new (most : Nat) (w : World) (h1 : 1 ≤ most) (h2 : most ≤ 8) :
    Calls Tryd.prog 34 #[.int .i64 most] w fun e w' => e = .returned (.tuple #[.pointer (some ⟨w.heap.size, 0, none⟩), .nilIface]) ∧ OwnT w w' w.heap.size most [] := by
  refine (newTab_ok most w h1 h2).mono ?_
  rintro e w1 ⟨rfl, h, hb⟩
  exact ⟨rfl, _, h, hb, Nat.le_refl _, by simp [Value.ownBlock]⟩
theorem own_add (w0 : World) (t most : Nat) (l : List (Int × Int)) (line kind : Int) (w : World) (h : OwnT w0 w t most l) (hr : Rising l) (h1 : 0 ≤ line) (h2 : line < 32) (h3 : 1 ≤ kind) (h4 : kind ≤ 4) (hh : has line l = false) (hf : ¬ most ≤ l.length) (hm : most ≤ 8) :
    Calls Tryd.prog 35 #[.pointer (some ⟨t, 0, none⟩), .int .i64 line, .int .i64 kind] w fun e w' => e = .returned .nilIface ∧ OwnT w0 w' t most (l.take (lbOf line l) ++ (line, kind) :: l.drop (lbOf line l)) := by
  obtain ⟨v, h⟩ := h
  refine (add_in t most l v line kind w h.tab hr h1 h2 h3 h4 hh hf hm).mono ?_
  rintro e w1 ⟨rfl, v', a1, a2, a3⟩
  exact ⟨rfl, h.turned a1 a2 a3⟩
theorem own_busy (w0 : World) (t most : Nat) (l : List (Int × Int)) (line kind : Int) (w : World) (a : Nat → Addr) (S : Sents w0 a) (h : OwnT w0 w t most l) (hr : Rising l) (h1 : 0 ≤ line) (h2 : line < 32) (h3 : 1 ≤ kind) (h4 : kind ≤ 4) (hh : has line l = true) :
    Calls Tryd.prog 35 #[.pointer (some ⟨t, 0, none⟩), .int .i64 line, .int .i64 kind] w fun e w' => e = .returned (sayAdd line (a 7)) ∧ OwnT w0 w' t most l := by
  have h' := h
  obtain ⟨v, hO⟩ := h
  refine (add_busy t most l v line kind w a (h'.sents S) hO.tab hr h1 h2 h3 h4 hh).mono ?_
  rintro e w1 ⟨rfl, hb⟩
  exact ⟨rfl, h'.below hb⟩
theorem own_fulls (w0 : World) (t most : Nat) (l : List (Int × Int)) (line kind : Int) (w : World) (a : Nat → Addr) (S : Sents w0 a) (h : OwnT w0 w t most l) (hr : Rising l) (h1 : 0 ≤ line) (h2 : line < 32) (h3 : 1 ≤ kind) (h4 : kind ≤ 4) (hh : has line l = false) (hf : most ≤ l.length) :
    Calls Tryd.prog 35 #[.pointer (some ⟨t, 0, none⟩), .int .i64 line, .int .i64 kind] w fun e w' => e = .returned (sayAdd line (a 6)) ∧ OwnT w0 w' t most l := by
  have h' := h
  obtain ⟨v, hO⟩ := h
  refine (add_full t most l v line kind w a (h'.sents S) hO.tab hr h1 h2 h3 h4 hh hf).mono ?_
  rintro e w1 ⟨rfl, hb⟩
  exact ⟨rfl, h'.below hb⟩
theorem own_arg (w0 : World) (t most : Nat) (l : List (Int × Int)) (line kind : Int) (w : World) (a : Nat → Addr) (S : Sents w0 a) (h : OwnT w0 w t most l) (hx : line < 0 ∨ 32 ≤ line ∨ kind < 1 ∨ 4 < kind) :
    Calls Tryd.prog 35 #[.pointer (some ⟨t, 0, none⟩), .int .i64 line, .int .i64 kind] w fun e w' => e = .returned (sayAdd line (a 1)) ∧ OwnT w0 w' t most l := by
  refine (add_arg t line kind w a (h.sents S) hx).mono ?_
  rintro e w1 ⟨rfl, hb⟩
  exact ⟨rfl, h.below hb⟩
theorem own_drop (w0 : World) (t most : Nat) (l : List (Int × Int)) (line : Int) (w : World) (h : OwnT w0 w t most l) :
    Calls Tryd.prog 38 #[.pointer (some ⟨t, 0, none⟩), .int .i64 line] w fun e w' => e = .returned (.bool (has line l)) ∧ OwnT w0 w' t most (dropOf line l) := by
  obtain ⟨v, h⟩ := h
  refine (drop_is t most l v line w h.tab).mono ?_
  rintro e w1 ⟨rfl, v', a1, a2, a3⟩
  exact ⟨rfl, h.turned a1 (.inl a2) a3⟩
theorem own_full (w0 : World) (t most : Nat) (l : List (Int × Int)) (w : World) (h : OwnT w0 w t most l) :
    Calls Tryd.prog 37 #[.pointer (some ⟨t, 0, none⟩)] w fun e w' => e = .returned (.bool (decide (most ≤ l.length))) ∧ OwnT w0 w' t most l := by
  have h' := h
  obtain ⟨v, hO⟩ := h
  refine (full_is t most l v w hO.tab).mono ?_
  rintro e w1 ⟨rfl, k, rfl⟩
  exact ⟨rfl, h'.below (below_drewN _ _ _)⟩
theorem own_list (w0 : World) (t most : Nat) (l : List (Int × Int)) (w : World) (h : OwnT w0 w t most l) :
    Calls Tryd.prog 39 #[.pointer (some ⟨t, 0, none⟩)] w fun e w' => ∃ v', e = .returned v' ∧ MissRow w' v' l ∧ (∀ k, v'.ownBlock = some k → w.heap.size ≤ k) ∧ OwnT w0 w' t most l := by
  have h' := h
  obtain ⟨v, hO⟩ := h
  refine (list_is t most l v w hO.tab).mono ?_
  rintro e w1 ⟨v', rfl, a1, a2, hb⟩
  exact ⟨v', rfl, a1, a2, h'.below hb⟩
theorem own_get (w0 : World) (t most : Nat) (l : List (Int × Int)) (line : Int) (w : World) (h : OwnT w0 w t most l) :
    Calls Tryd.prog 36 #[.pointer (some ⟨t, 0, none⟩), .int .i64 line] w fun e w' => e = .returned (.tuple #[.int .i64 (kindOf line l), .bool (has line l)]) ∧ OwnT w0 w' t most l := by
  have h' := h
  obtain ⟨v, hO⟩ := h
  refine (get_is t most l v line w hO.tab).mono ?_
  rintro e w1 ⟨rfl, hb⟩
  exact ⟨rfl, h'.below hb⟩
end Go.Proofs.YtjnoaidceddpjaaDoor
