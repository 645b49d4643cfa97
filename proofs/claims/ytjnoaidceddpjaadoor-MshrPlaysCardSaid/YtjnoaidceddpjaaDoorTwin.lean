/- The program's table of misses beside the reference's: each call turns its own alone. -/
import Derived.Test.YtjnoaidceddpjaaDoorMshrO
import Derived.Test.YtjnoaidceddpjaaDoorRefN
namespace Go.Proofs.YtjnoaidceddpjaaDoor
open Go.RowKit Go.Extern.Stop Go.Stop Go.Extern

/-- The table at t and the reference's at r, apart from each other and from the blocks of G. -/
def Twin (G : Nat → Prop) (w0 w : World) (t r most : Nat) (l m : List (Int × Int)) : Prop :=
  ∃ vr, OwnG (fun k => k = r ∨ vr.ownBlock = some k ∨ G k) w0 w t most l ∧ RefM w r most m vr ∧ w0.heap.size ≤ r ∧ (∀ k, vr.ownBlock = some k → w0.heap.size ≤ k) ∧ ∀ k, G k → k ≠ r ∧ vr.ownBlock ≠ some k
section
variable {G : Nat → Prop} {w0 w w' : World} {t r most : Nat} {l m : List (Int × Int)}
theorem Twin.base (h : Twin G w0 w t r most l m) : Below w0.heap.size w0 w := by
  obtain ⟨vr, hO, -⟩ := h
  exact hO.base
theorem Twin.below (h : Twin G w0 w t r most l m) (hb : Below w.heap.size w w') : Twin G w0 w' t r most l m := by
  obtain ⟨vr, hO, hR, h1, h2, h3⟩ := h
  exact ⟨vr, hO.below hb, hR.below hb, h1, h2, h3⟩
theorem Twin.free (h : Twin G w0 w t r most l m) : Twin (fun _ => False) w0 w t r most l m := by
  obtain ⟨vr, hO, hR, h1, h2, h3⟩ := h
  exact ⟨vr, hO.mono fun k hk => hk.imp id (fun h => h.elim .inl fun h => h.elim), hR, h1, h2, fun _ hk => hk.elim⟩
/-- Blocks that came later may be named. -/
theorem Twin.guard (h : Twin (fun _ => False) w0 w t r most l m) (hb : Below w.heap.size w w') (hG : ∀ k, G k → w.heap.size ≤ k ∧ k < w'.heap.size) : Twin G w0 w' t r most l m := by
  obtain ⟨vr, hO, hR, h1, h2, -⟩ := h
  have hR' := hR.below hb
  obtain ⟨v, hv, hGv⟩ := hO
  refine ⟨vr, ⟨v, ⟨hv.tab.below hb, hv.base.trans (hb.mono hv.base.size), hv.ht, hv.hv⟩, fun k hk => ?_⟩, hR', h1, h2, fun k hk => ?_⟩
  · rcases hk with rfl | hk | hk
    · exact ⟨(hGv _ (.inl rfl)).1, (hGv _ (.inl rfl)).2.1, hR'.lt (.inl rfl)⟩
    · exact ⟨(hGv _ (.inr (.inl hk))).1, (hGv _ (.inr (.inl hk))).2.1, hR'.lt (.inr hk)⟩
    · have h4 := hG k hk
      have h5 := lt_of_heap hv.tab.box
      refine ⟨by omega, fun e => ?_, h4.2⟩
      have := hv.tab.row.lt e
      omega
  · have h4 := hG k hk
    have h5 := hR.lt (.inl rfl)
    refine ⟨by omega, fun e => ?_⟩
    have := hR.lt (.inr e)
    omega
theorem Twin.turnR {vr vr' : Value} {m' : List (Int × Int)} (hO : OwnG (fun k => k = r ∨ vr.ownBlock = some k ∨ G k) w0 w t most l) (hR : RefM w r most m vr) (h1 : w0.heap.size ≤ r) (h2 : ∀ k, vr.ownBlock = some k → w0.heap.size ≤ k) (h3 : ∀ k, G k → k ≠ r ∧ vr.ownBlock ≠ some k)
    (hR' : RefM w' r most m' vr') (hv : vr' = vr ∨ ∃ q, vr'.ownBlock = some q ∧ w.heap.size ≤ q) (hT : Turned (fun q => q = r) w w') : Twin G w0 w' t r most l m' ∧ ∀ k, G k → w'.heap[k]? = w.heap[k]? := by
  obtain ⟨v, hvO, hGv⟩ := hO
  have hsz := hT.size
  have hb0 := hvO.base.size
  refine ⟨⟨vr', ⟨v, ⟨?_, hvO.base.trans (hT.below hb0 fun k hk e => by omega), hvO.ht, hvO.hv⟩, fun k hk => ?_⟩, hR', h1, fun k hk => ?_, fun k hk => ?_⟩, fun k hk => hT.block k (hGv k (.inr (.inr hk))).2.2 (h3 k hk).1⟩
  · refine ⟨by rw [hT.block t (lt_of_heap hvO.tab.box) fun e => (hGv r (.inl rfl)).1 e.symm]; exact hvO.tab.box, hvO.tab.row.of_block fun k hk => hT.block k (hvO.tab.row.lt hk) fun e => (hGv r (.inl rfl)).2.1 (by rw [hk, e]), hvO.tab.ne, hvO.tab.few⟩
  · rcases hk with rfl | hk | hk
    · exact ⟨(hGv _ (.inl rfl)).1, (hGv _ (.inl rfl)).2.1, hR'.lt (.inl rfl)⟩
    · rcases hv with rfl | ⟨q, hq, hle⟩
      · exact ⟨(hGv _ (.inr (.inl hk))).1, (hGv _ (.inr (.inl hk))).2.1, hR'.lt (.inr hk)⟩
      · rw [hq] at hk
        obtain rfl : q = k := Option.some.inj hk
        have h5 := lt_of_heap hvO.tab.box
        refine ⟨by omega, fun e => ?_, hR'.lt (.inr hq)⟩
        have := hvO.tab.row.lt e
        omega
    · exact ⟨(hGv _ (.inr (.inr hk))).1, (hGv _ (.inr (.inr hk))).2.1, by have := (hGv _ (.inr (.inr hk))).2.2; omega⟩
  · rcases hv with rfl | ⟨q, hq, hle⟩
    · exact h2 k hk
    · rw [hq] at hk
      obtain rfl : q = k := Option.some.inj hk
      omega
  · refine ⟨(h3 k hk).1, ?_⟩
    rcases hv with rfl | ⟨q, hq, hle⟩
    · exact (h3 k hk).2
    · rw [hq]
      intro e
      obtain rfl : q = k := Option.some.inj e
      have := (hGv _ (.inr (.inr hk))).2.2
      omega
theorem Twin.turnT {vr : Value} {l' : List (Int × Int)} (hR : RefM w r most m vr) (h1 : w0.heap.size ≤ r) (h2 : ∀ k, vr.ownBlock = some k → w0.heap.size ≤ k) (h3 : ∀ k, G k → k ≠ r ∧ vr.ownBlock ≠ some k)
    (hO' : OwnG (fun k => k = r ∨ vr.ownBlock = some k ∨ G k) w0 w' t most l') (hs : ∀ k, (k = r ∨ vr.ownBlock = some k ∨ G k) → w'.heap[k]? = w.heap[k]?) : Twin G w0 w' t r most l' m ∧ ∀ k, G k → w'.heap[k]? = w.heap[k]? :=
  ⟨⟨vr, hO', hR.of_same fun q hq => hs q (hq.imp id .inl), h1, h2, h3⟩, fun k hk => hs k (.inr (.inr hk))⟩
end
/-- What Add answers. -/
def addVal (ad : Nat → Addr) (c : Nat) (line : Int) : Value := if c = 0 then .nilIface else sayAdd line (ad c)
/-- What becomes of the list. -/
def addTo (most : Nat) (l : List (Int × Int)) (line kind : Int) : List (Int × Int) := if addCode most l line kind = 0 then insOf line kind l else l
section
variable {G : Nat → Prop} {w0 w : World} {t r most : Nat} {l m : List (Int × Int)}
theorem twin_tadd (h : Twin G w0 w t r most l m) (line kind : Int) (ad : Nat → Addr) (S : Sents w0 ad) (hr : Rising l) (hm : most ≤ 8) :
    Calls Tryd.prog 35 #[.pointer (some ⟨t, 0, none⟩), .int .i64 line, .int .i64 kind] w fun e w' => e = .returned (addVal ad (addCode most l line kind) line) ∧ Twin G w0 w' t r most (addTo most l line kind) m ∧ ∀ k, G k → w'.heap[k]? = w.heap[k]? := by
  have h' := h
  obtain ⟨vr, hO, hR, h1, h2, h3⟩ := h
  rcases ownG_add_any _ w0 t most l line kind w ad S hO hr hm with ⟨hc, -, -, -, -, -, -, hC⟩ | ⟨hc, hC⟩
  · refine hC.mono ?_
    rintro e w1 ⟨rfl, a1, a2⟩
    obtain ⟨b1, b2⟩ := Twin.turnT hR h1 h2 h3 a1 a2
    unfold addTo addVal
    rw [hc, if_pos rfl, if_pos rfl]
    exact ⟨rfl, b1, b2⟩
  · refine hC.mono ?_
    rintro e w1 ⟨rfl, hb⟩
    have hne : addCode most l line kind ≠ 0 := by omega
    unfold addTo addVal
    rw [if_neg hne, if_neg hne]
    obtain ⟨v, hv, hGv⟩ := hO
    exact ⟨rfl, h'.below hb, fun k hk => hb.block k (hGv k (.inr (.inr hk))).2.2⟩
theorem twin_tdrop (h : Twin G w0 w t r most l m) (line : Int) :
    Calls Tryd.prog 38 #[.pointer (some ⟨t, 0, none⟩), .int .i64 line] w fun e w' => e = .returned (.bool (has line l)) ∧ Twin G w0 w' t r most (dropOf line l) m ∧ ∀ k, G k → w'.heap[k]? = w.heap[k]? := by
  obtain ⟨vr, hO, hR, h1, h2, h3⟩ := h
  refine (ownG_drop _ w0 t most l line w hO).mono ?_
  rintro e w1 ⟨rfl, a1, a2⟩
  exact ⟨rfl, Twin.turnT hR h1 h2 h3 a1 a2⟩
theorem twin_tget (h : Twin G w0 w t r most l m) (line : Int) :
    Calls Tryd.prog 36 #[.pointer (some ⟨t, 0, none⟩), .int .i64 line] w fun e w' => e = .returned (.tuple #[.int .i64 (kindOf line l), .bool (has line l)]) ∧ Below w.heap.size w w' := by
  obtain ⟨vr, hO, hR, h1, h2, h3⟩ := h
  exact ownG_get _ w0 t most l line w hO
theorem twin_rget (h : Twin G w0 w t r most l m) (line : Int) :
    Calls Tryd.prog 43 #[.pointer (some ⟨r, 0, none⟩), .int .i64 line] w fun e w' => e = .returned (.tuple #[.int .i64 (kindOf line m), .bool (has line m)]) ∧ Below w.heap.size w w' := by
  obtain ⟨vr, hO, hR, h1, h2, h3⟩ := h
  exact rgetM r most m vr line w hR
theorem twin_radd (h : Twin G w0 w t r most l m) (line kind : Int) (hr : Rising m) (hm : most ≤ 8) :
    Calls Tryd.prog 41 #[.pointer (some ⟨r, 0, none⟩), .int .i64 line, .int .i64 kind] w fun e w' => e = .returned (.int .i64 (addCode most m line kind)) ∧ Twin G w0 w' t r most l (addTo most m line kind) ∧ ∀ k, G k → w'.heap[k]? = w.heap[k]? := by
  have h' := h
  obtain ⟨vr, hO, hR, h1, h2, h3⟩ := h
  have hlt : ∀ k, G k → k < w.heap.size := fun k hk => by
    obtain ⟨v, hv, hGv⟩ := hO
    exact (hGv k (.inr (.inr hk))).2.2
  have no : ∀ c : Nat, c ≠ 0 → addCode most m line kind = c → ∀ (e : Ending) (w1 : World), e = .returned (.int .i64 (c : Nat)) ∧ Below w.heap.size w w1 → e = .returned (.int .i64 (addCode most m line kind)) ∧ Twin G w0 w1 t r most l (addTo most m line kind) ∧ ∀ k, G k → w1.heap[k]? = w.heap[k]? := by
    rintro c hc rfl e w1 ⟨rfl, hb⟩
    unfold addTo
    rw [if_neg hc]
    exact ⟨rfl, h'.below hb, fun k hk => hb.block k (hlt k hk)⟩
  by_cases c1 : line < 0 ∨ 32 ≤ line ∨ kind < 1 ∨ 4 < kind
  · have e : addCode most m line kind = 1 := by simp only [addCode, if_pos c1]
    refine (raddM_arg r line kind w c1).mono ?_
    rintro x w1 ⟨rfl, rfl⟩
    exact no 1 (by decide) e _ _ ⟨rfl, Below.refl _ _⟩
  · by_cases c2 : has line m = true
    · have e : addCode most m line kind = 7 := by simp only [addCode, if_neg c1, if_pos c2]
      refine (raddM_busy r most m vr line kind w hR (by omega) (by omega) (by omega) (by omega) c2).mono ?_
      rintro x w1 ⟨rfl, hb⟩
      exact no 7 (by decide) e _ _ ⟨rfl, hb⟩
    · have c2' : has line m = false := by simpa using c2
      by_cases c3 : most ≤ m.length
      · have e : addCode most m line kind = 6 := by simp only [addCode, if_neg c1, if_neg c2, if_pos c3]
        refine (raddM_full r most m vr line kind w hR (by omega) (by omega) (by omega) (by omega) c2' c3).mono ?_
        rintro x w1 ⟨rfl, hb⟩
        exact no 6 (by decide) e _ _ ⟨rfl, hb⟩
      · have e : addCode most m line kind = 0 := by simp only [addCode, if_neg c1, if_neg c2, if_neg c3]
        refine (raddM_in r most m vr line kind w hR (by omega) (by omega) (by omega) (by omega) hr c2' c3 hm).mono ?_
        rintro x w1 ⟨rfl, v', a1, a2, a3⟩
        unfold addTo
        rw [e, if_pos rfl]
        exact ⟨rfl, Twin.turnR hO hR h1 h2 h3 a1 (.inr a2) a3⟩
theorem twin_rdrop (h : Twin G w0 w t r most l m) (line : Int) :
    Calls Tryd.prog 44 #[.pointer (some ⟨r, 0, none⟩), .int .i64 line] w fun e w' => e = .returned (.bool (has line m)) ∧ Twin G w0 w' t r most l (dropOf line m) ∧ ∀ k, G k → w'.heap[k]? = w.heap[k]? := by
  obtain ⟨vr, hO, hR, h1, h2, h3⟩ := h
  refine (rdropM r most m vr line w hR).mono ?_
  rintro x w1 ⟨rfl, v', a1, a2, a3⟩
  exact ⟨rfl, Twin.turnR hO hR h1 h2 h3 a1 a2 a3⟩
theorem twin_full (h : Twin G w0 w t r most l m) :
    Calls Tryd.prog 37 #[.pointer (some ⟨t, 0, none⟩)] w fun e w' => e = .returned (.bool (decide (most ≤ l.length))) ∧ Below w.heap.size w w' := by
  obtain ⟨vr, hO, hR, h1, h2, h3⟩ := h
  exact ownG_full _ w0 t most l w hO
theorem Twin.cells (h : Twin G w0 w t r most l m) : ∃ v, w.cell? ⟨r, 1, none⟩ = some v ∧ RRow w v m := by
  obtain ⟨vr, hO, hR, h1, h2, h3⟩ := h
  exact ⟨vr, hR.c1, hR.row⟩
theorem Twin.own (h : Twin G w0 w t r most l m) : OwnT w0 w t most l := by
  obtain ⟨vr, hO, hR, h1, h2, h3⟩ := h
  exact hO.own
end
theorem addTo_rising {most : Nat} {l : List (Int × Int)} {line kind : Int} (h : Rising l) (hl : l.length ≤ most) : Rising (addTo most l line kind) ∧ (addTo most l line kind).length ≤ most := by
  unfold addTo
  split
  · next hc =>
    unfold addCode at hc
    split at hc
    · cases hc
    · split at hc
      · cases hc
      · split at hc
        · cases hc
        · next c1 c2 c3 =>
          have := ins_length line kind l
          exact ⟨ins_rising line kind l h (by simpa using c2) (by omega) (by omega), by omega⟩
  · exact ⟨h, hl⟩
theorem addCode_few (most : Nat) (l : List (Int × Int)) (line kind : Int) : addCode most l line kind = 0 ∨ addCode most l line kind = 1 ∨ addCode most l line kind = 7 ∨ addCode most l line kind = 6 := by
  unfold addCode
  split
  · exact .inr (.inl rfl)
  · split
    · exact .inr (.inr (.inl rfl))
    · split
      · exact .inr (.inr (.inr rfl))
      · exact .inl rfl
theorem twin_new {w w1 w2 : World} {most : Nat} (h : OwnT w w1 w.heap.size most []) (hR : RefM w2 w1.heap.size most [] (.slice none 0 0)) (hb : Below w1.heap.size w1 w2) : Twin (fun _ => False) w w2 w.heap.size w1.heap.size most [] [] := by
  have hz := h.base.size
  refine ⟨_, (h.guard hb (fun k => k = w1.heap.size ∨ (Value.slice none 0 0).ownBlock = some k ∨ False) fun k hk => ?_), hR, hz, fun k hk => by simp [Value.ownBlock] at hk, fun _ hk => hk.elim⟩
  rcases hk with rfl | hk | hk
  · exact ⟨Nat.le_refl _, hR.lt (.inl rfl)⟩
  · simp [Value.ownBlock] at hk
  · exact hk.elim
end Go.Proofs.YtjnoaidceddpjaaDoor
