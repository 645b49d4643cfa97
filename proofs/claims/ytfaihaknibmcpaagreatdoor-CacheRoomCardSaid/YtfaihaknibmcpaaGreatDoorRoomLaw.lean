/- How many lines of a set are there, counted over the lines. A cache whose lines always find room: what each call of the law CacheRoom makes of it. -/
import Derived.Test.YtfaihaknibmcpaaGreatDoorSteps
import Derived.Test.YtfaihaknibmcpaaGreatDoorRuns
namespace Go.Proofs.YtfaihaknibmcpaaGreatDoor
open Go.RowKit Go.Extern.Stop Go.Stop Go.Extern

theorem length_le_of_in {α : Type} [BEq α] [LawfulBEq α] : ∀ (l L : List α), l.Nodup → (∀ x ∈ l, x ∈ L) → l.length ≤ L.length := by
  intro l
  induction l with
  | nil => intro L _ _; exact Nat.zero_le _
  | cons a l ih =>
    intro L hn hs
    have ha : a ∈ L := hs a (List.mem_cons_self ..)
    have hn' := List.nodup_cons.1 hn
    have h1 := ih (L.erase a) hn'.2 (fun x hx => by
      have hxa : x ≠ a := fun h => hn'.1 (h ▸ hx)
      exact (List.mem_erase_of_ne hxa).2 (hs x (List.mem_cons_of_mem _ hx)))
    have h2 := List.length_erase_of_mem ha
    have h3 : 0 < L.length := List.length_pos_of_mem ha
    simp only [List.length_cons]
    omega
section
variable {n k : Nat} {S : List SetSt}
/-- The lines of a set that are there. -/
def thereB (S : List SetSt) (n r y : Nat) : Bool := decide (y % n = r) && (getS S (y : Int)).isSome
theorem taken_le (h : OkS n k S) {x : Int} (hx : isLine x = true) : takenS S x ≤ (List.range 32).countP (thereB S n (x.toNat % n)) := by
  obtain ⟨s, g1, g2, g3, g4, g5⟩ := h.at hx
  have e1 : takenS S x = ((s.es.filter fun e => !isFree e).map (fun e => e.line.toNat)).length := by
    unfold takenS
    rw [g1]
    simp
  rw [e1, List.countP_eq_length_filter]
  refine length_le_of_in _ _ ?_ ?_
  · rw [List.Nodup, List.pairwise_map]
    refine List.Pairwise.imp_of_mem ?_ (g3.unlike.filter _)
    intro a b ha hb hu
    have ha' := List.mem_filter.1 ha
    have hb' := List.mem_filter.1 hb
    have fa : isFree a = false := by simpa using ha'.2
    have fb : isFree b = false := by simpa using hb'.2
    obtain ⟨p, _, hp, _⟩ := g3.home a ha'.1 fa
    obtain ⟨q, _, hq, _⟩ := g3.home b hb'.1 fb
    intro he
    rw [hp, hq] at he
    have he : p = q := he
    exact hu fa fb (by rw [hp, hq, he])
  · intro y hy
    obtain ⟨e, he, rfl⟩ := List.mem_map.1 hy
    have he' := List.mem_filter.1 he
    have fe : isFree e = false := by simpa using he'.2
    obtain ⟨p, hp, hl, hm⟩ := g3.home e he'.1 fe
    rw [hl]
    simp only [Int.toNat_natCast]
    refine List.mem_filter.2 ⟨List.mem_range.2 hp, ?_⟩
    unfold thereB
    have hpl : isLine (p : Int) = true := (isLine_iff _).2 ⟨by omega, by omega⟩
    obtain ⟨t, t1, t2, t3, t4, t5⟩ := h.at hpl
    have hst : t = s := by
      simp only [Int.toNat_natCast, hm] at t2
      rw [t2] at g2
      exact Option.some.inj g2
    subst hst
    have hg : (getS S (p : Int)).isSome = true := by
      unfold getS
      rw [t1]
      simp only [Option.bind_some, List.find?_isSome]
      exact ⟨e, he'.1, (isAt_iff _ _).2 ⟨fe, hl⟩⟩
    simp [hm, hg]
theorem countP_less {α : Type} {P Q : α → Bool} : ∀ (L : List α), (∀ y ∈ L, P y = true → Q y = true) → ∀ a ∈ L, Q a = true → P a = false → L.countP P + 1 ≤ L.countP Q := by
  intro L
  induction L with
  | nil => intro _ a ha; cases ha
  | cons b L ih =>
    intro hm a ha hq hp
    have hm' : ∀ y ∈ L, P y = true → Q y = true := fun y hy => hm y (List.mem_cons_of_mem _ hy)
    have hle := List.countP_mono_left hm'
    rw [List.countP_cons, List.countP_cons]
    rcases List.mem_cons.1 ha with rfl | ha
    · rw [hq, hp]
      simp
      omega
    · have h1 := ih hm' a ha hq hp
      by_cases hb : P b = true
      · rw [hb, hm b (List.mem_cons_self ..) hb]
        simp
        omega
      · have hb : P b = false := by simpa using hb
        rw [hb]
        simp
        omega
/-- A line is asked for, and not to go. -/
def wantsL (l : List (Int × Int)) (y : Int) : Bool := kindOf y l != 0 && kindOf y l != 4
/-- A line of a set that is there or asked for. -/
def lineB (q : CSt) (r y : Nat) : Bool := decide (y % q.n = r) && ((getS q.S (y : Int)).isSome || wantsL q.l (y : Int))
/-- In each set what is there and what is asked for find room. -/
def Fits (q : CSt) : Prop := ∀ r, (List.range 32).countP (lineB q r) ≤ q.k
theorem Fits.room {q : CSt} (h : Fits q) (ho : OkQ q) {x : Int} (hx : isLine x = true) (hg : getS q.S x = none) (hw : wantsL q.l x = true) : roomS q.S x = true := by
  rw [roomS_is ho.ok hx, hg]
  have hxi := (isLine_iff x).1 hx
  have h1 := taken_le ho.ok hx
  have h2 := h (x.toNat % q.n)
  have hxn : ((x.toNat : Nat) : Int) = x := by omega
  have h3 := countP_less (P := thereB q.S q.n (x.toNat % q.n)) (Q := lineB q (x.toNat % q.n)) (List.range 32) (fun y _ hy => by
    simp only [thereB, Bool.and_eq_true] at hy
    simp [lineB, hy.1, hy.2]) x.toNat (List.mem_range.2 (by omega)) (by simp [lineB, hxn, hw]) (by simp [thereB, hxn, hg])
  simp
  omega
theorem Fits.mono {q q' : CSt} (h : Fits q) (hn : q'.n = q.n) (hk : q'.k = q.k) (hm : ∀ y : Nat, y < 32 → ((getS q'.S (y : Int)).isSome || wantsL q'.l (y : Int)) = true → ((getS q.S (y : Int)).isSome || wantsL q.l (y : Int)) = true) : Fits q' := by
  intro r
  rw [hk]
  refine Nat.le_trans (List.countP_mono_left fun y hy hl => ?_) (h r)
  have hy := List.mem_range.1 hy
  unfold lineB at hl ⊢
  rw [hn, Bool.and_eq_true] at hl
  rw [hl.1, hm y hy hl.2]
  rfl
theorem fits_new (c : Int) (g k n m : Nat) (hn : 0 < n) : Fits ⟨c, n, k, m, newSets g k n, []⟩ := by
  intro r
  refine Nat.le_trans (Nat.le_of_eq (List.countP_eq_zero.2 fun y _ => ?_)) (Nat.zero_le _)
  simp [lineB, getS_new g k n hn, wantsL, kindOf]
theorem taken_ge (h : OkS n k S) {x : Int} (hx : isLine x = true) : (List.range 32).countP (thereB S n (x.toNat % n)) ≤ takenS S x := by
  obtain ⟨s, g1, g2, g3, g4, g5⟩ := h.at hx
  have e1 : takenS S x = ((s.es.filter fun e => !isFree e).map (fun e => e.line.toNat)).length := by
    unfold takenS
    rw [g1]
    simp
  rw [e1, List.countP_eq_length_filter]
  refine length_le_of_in _ _ (List.Nodup.sublist List.filter_sublist List.nodup_range) fun y hy => ?_
  have hy' := List.mem_filter.1 hy
  have hy32 := List.mem_range.1 hy'.1
  have ht := hy'.2
  simp only [thereB, Bool.and_eq_true, decide_eq_true_eq] at ht
  have hpl : isLine (y : Int) = true := (isLine_iff _).2 ⟨by omega, by omega⟩
  obtain ⟨t, t1, t2, t3, t4, t5⟩ := h.at hpl
  have hst : t = s := by
    simp only [Int.toNat_natCast, ht.1] at t2
    rw [t2] at g2
    exact Option.some.inj g2
  subst hst
  have hg := ht.2
  unfold getS at hg
  rw [t1] at hg
  simp only [Option.bind_some, List.find?_isSome] at hg
  obtain ⟨e, he, hat⟩ := hg
  obtain ⟨fe, hl⟩ := (isAt_iff _ _).1 hat
  refine List.mem_map.2 ⟨e, List.mem_filter.2 ⟨he, by simp [fe]⟩, ?_⟩
  rw [hl]
  rfl
theorem countP_more {α : Type} [DecidableEq α] {P Q : α → Bool} {a : α} : ∀ (L : List α), L.Nodup → (∀ y ∈ L, Q y = true → P y = true ∨ y = a) → L.countP Q ≤ L.countP P + 1 := by
  intro L
  induction L with
  | nil => intro _ _; exact Nat.zero_le _
  | cons b L ih =>
    intro hn hm
    have hn' := List.nodup_cons.1 hn
    have hm' : ∀ y ∈ L, Q y = true → P y = true ∨ y = a := fun y hy => hm y (List.mem_cons_of_mem _ hy)
    rw [List.countP_cons, List.countP_cons]
    by_cases hb : b = a
    · have h0 : L.countP Q ≤ L.countP P := List.countP_mono_left fun y hy hq => by
        rcases hm' y hy hq with h | h
        · exact h
        · exact absurd (hb ▸ h ▸ hy) hn'.1
      split <;> split <;> omega
    · have h1 := ih hn'.2 hm'
      by_cases hq : Q b = true
      · have hp : P b = true := (hm b (List.mem_cons_self ..) hq).resolve_right hb
        rw [hq, hp]
        simp
        omega
      · rw [if_neg hq]
        split <;> omega
theorem kind_mem {y : Int} : ∀ {l : List (Int × Int)}, kindOf y l ≠ 0 → ∃ m ∈ l, m.1 = y := by
  intro l
  induction l with
  | nil => intro h; exact absurd rfl h
  | cons b l ih =>
    intro h
    unfold kindOf at h
    by_cases hb : (b.1 == y) = true
    · exact ⟨b, List.mem_cons_self .., by simpa using hb⟩
    · rw [if_neg hb] at h
      obtain ⟨m, hm, e⟩ := ih h
      exact ⟨m, List.mem_cons_of_mem _ hm, e⟩
theorem wants_ins (x kd y : Int) (l : List (Int × Int)) (hx : has x l = false) (h : wantsL (insOf x kd l) y = true) : y = x ∨ wantsL l y = true := by
  unfold wantsL at h ⊢
  rw [kind_ins x kd y l hx] at h
  by_cases hy : y = x
  · exact .inl hy
  · rw [if_neg hy] at h
    exact .inr h
/-- A line that is asked for where none of its set is awaited and there is room. -/
theorem Fits.want {q : CSt} (h : Fits q) (ho : OkQ q) {x : Int} (hx : isLine x = true) (hh : has x q.l = false) (ha : absentB q x = false) (hroom : roomS q.S x = true) (hg : getS q.S x = none) (kd : Int) : Fits { q with l := insOf x kd q.l } := by
  intro r
  have hxi := (isLine_iff x).1 hx
  by_cases hr : r = x.toNat % q.n
  · subst hr
    have h1 := taken_ge ho.ok hx
    rw [roomS_is ho.ok hx, hg] at hroom
    have h2 : takenS q.S x < q.k := by simpa using hroom
    have h3 := countP_more (P := thereB q.S q.n (x.toNat % q.n)) (Q := lineB { q with l := insOf x kd q.l } (x.toNat % q.n)) (a := x.toNat) (List.range 32) List.nodup_range (fun y hy hl => by
      simp only [lineB, Bool.and_eq_true, decide_eq_true_eq, Bool.or_eq_true] at hl
      obtain ⟨hm, hl⟩ := hl
      by_cases hs : (getS q.S (y : Int)).isSome = true
      · exact .inl (by simp [thereB, hm, hs])
      · rcases wants_ins x kd (y : Int) q.l hh (hl.resolve_left hs) with he | hw
        · exact .inr (by omega)
        · exfalso
          unfold wantsL at hw
          simp only [Bool.and_eq_true, bne_iff_ne, ne_eq] at hw
          obtain ⟨m, hmm, he⟩ := kind_mem hw.1
          have h4 := List.any_eq_false.1 ha m hmm
          refine h4 ?_
          have hy32 := List.mem_range.1 hy
          unfold awayB setNo
          rw [he, if_pos (by omega), if_pos hxi]
          simp [hm]
          simpa using hs)
    exact Nat.le_trans h3 (by show _ ≤ q.k; omega)
  · refine Nat.le_trans (List.countP_mono_left fun y hy hl => ?_) (h r)
    simp only [lineB, Bool.and_eq_true, decide_eq_true_eq, Bool.or_eq_true] at hl ⊢
    refine ⟨hl.1, hl.2.imp_right fun hw => ?_⟩
    rcases wants_ins x kd (y : Int) q.l hh hw with he | hw
    · exfalso
      have : y = x.toNat := by omega
      rw [this] at hl
      exact hr hl.1.symm
    · exact hw
end
end Go.Proofs.YtfaihaknibmcpaaGreatDoor
namespace Go.Proofs.YtfaihaknibmcpaaGreatDoor
open Go.RowKit Go.Extern.Stop Go.Stop Go.Extern

theorem kind_in {l : List (Int × Int)} (h : l.Pairwise (fun a b => a.1 < b.1)) : ∀ {p : Int × Int}, p ∈ l → kindOf p.1 l = p.2 ∧ has p.1 l = true := by
  induction l with
  | nil => intro p hp; cases hp
  | cons a l ih =>
    intro p hp
    have h' := List.pairwise_cons.1 h
    rcases List.mem_cons.1 hp with rfl | hp
    · simp [kindOf, has]
    · have hl := h'.1 p hp
      obtain ⟨i1, i2⟩ := ih h'.2 hp
      have hne : (a.1 == p.1) = false := by simp; omega
      exact ⟨by unfold kindOf; rw [hne]; exact i1, by unfold has; rw [hne]; exact i2⟩
/-- What holds of the law's cache ahead of each call. -/
structure RoomOk (n k m : Nat) (q : CSt) : Prop where
  core : q.core = 0
  n : q.n = n
  k : q.k = k
  most : q.most = m
  ok : OkQ q
  fits : Fits q
  few : q.l.length ≤ m
  kinds : ∀ p ∈ q.l, (0 ≤ p.1 ∧ p.1 < 32) ∧ (p.2 = 1 ∨ p.2 = 2 ∨ p.2 = 4)
  good : ∀ x e, getS q.S x = some e → e.h = false ∧ (e.state = 1 ∨ e.state = 4)
section
variable {n k m : Nat} {q : CSt}
theorem room_new (g n k m : Nat) (hn : 0 < n) : RoomOk n k m ⟨0, n, k, m, newSets g k n, []⟩ :=
  ⟨rfl, rfl, rfl, rfl, okQ_new 0 g k n m [] hn, fits_new 0 g k n m hn, Nat.zero_le _, (fun p hp => by cases hp), fun x e he => by
    have he : getS (newSets g k n) x = some e := he
    rw [getS_new g k n hn] at he
    cases he⟩
theorem mem_ins {x kd : Int} {l : List (Int × Int)} {p : Int × Int} (h : p ∈ insOf x kd l) : p = (x, kd) ∨ p ∈ l := by
  unfold insOf at h
  rcases List.mem_append.1 h with h | h
  · exact .inr (List.mem_of_mem_take h)
  · rcases List.mem_cons.1 h with h | h
    · exact .inl h
    · exact .inr (List.mem_of_mem_drop h)
theorem RoomOk.add (h : RoomOk n k m q) {x kd : Int} (hc : addCode q.most q.l x kd = 0) (hk : kd = 1 ∨ kd = 2 ∨ kd = 4) (hf : Fits { q with l := insOf x kd q.l }) : RoomOk n k m { q with l := addL q.most q.l x kd } := by
  obtain ⟨a1, a2, a3, a4, a5, a6⟩ := addCode_cases _ _ _ _ hc
  have e : addL q.most q.l x kd = insOf x kd q.l := by unfold addL; rw [if_pos hc]
  rw [e]
  have hm := h.most
  refine ⟨h.core, h.n, h.k, h.most, h.ok.withL _, hf, ?_, ?_, h.good⟩
  · show (insOf x kd q.l).length ≤ m
    rw [ins_length]
    omega
  · intro p hp
    rcases mem_ins hp with rfl | hp
    · exact ⟨⟨a3, a4⟩, hk⟩
    · exact h.kinds p hp
theorem addL_same {most : Nat} {l : List (Int × Int)} {x kd : Int} (h : addCode most l x kd ≠ 0) : addL most l x kd = l := by unfold addL; rw [if_neg h]
/-- A line is asked for. -/
theorem RoomOk.want (h : RoomOk n k m q) {x kind : Int} (hx : isLine x = true) (hk : kind = 1 ∨ kind = 2) : RoomOk n k m (wantTo q x kind 0) := by
  have hwk : wantKind q x kind = kind := by
    unfold wantKind
    rw [if_neg]
    have : decide (kind = 3) = false := by simp; omega
    rw [this]
    simp
  have hxi := (isLine_iff x).1 hx
  unfold wantTo
  by_cases h0 : wantWay q x kind 0 = 0
  · rw [if_pos h0, hwk]
    by_cases hc : addCode q.most q.l x kind = 0
    · have hh := (addCode_cases _ _ _ _ hc).1
      refine h.add hc (by omega) ?_
      unfold wantWay at h0
      rw [bad_no hxi.1 (by omega) (by omega) (by omega) (by omega) (by omega), hh] at h0
      by_cases hg : (getS q.S x).isSome = true
      · refine h.fits.mono rfl rfl fun y hy hl => ?_
        simp only [Bool.or_eq_true] at hl ⊢
        rcases hl with hl | hl
        · exact .inl hl
        · rcases wants_ins x kind (y : Int) q.l hh hl with he | hw
          · rw [he]; exact .inl hg
          · exact .inr hw
      · have hg' : getS q.S x = none := by simpa using hg
        rw [if_neg (by decide), if_neg (by decide), if_neg hg] at h0
        by_cases ha : absentB q x = true
        · rw [if_pos ha] at h0; cases h0
        · rw [if_neg ha] at h0
          by_cases hr : roomS q.S x = true
          · exact h.fits.want h.ok hx hh (by simpa using ha) hr hg' kind
          · rw [if_neg hr] at h0; cases h0
    · rw [addL_same hc]; exact h
  · rw [if_neg h0]
    by_cases h2 : wantWay q x kind 0 = 2
    · rw [if_pos h2]
      unfold evictTo
      by_cases hv : victimQ q x < 0
      · rw [if_pos hv]; exact h
      · rw [if_neg hv]
        by_cases hc : addCode q.most q.l (victimQ q x) 4 = 0
        · have hh := (addCode_cases _ _ _ _ hc).1
          refine h.add hc (by omega) ?_
          refine h.fits.mono rfl rfl fun y hy hl => ?_
          simp only [Bool.or_eq_true] at hl ⊢
          rcases hl with hl | hl
          · exact .inl hl
          · right
            unfold wantsL at hl ⊢
            rw [kind_ins _ _ _ _ hh] at hl
            by_cases he : (y : Int) = victimQ q x
            · rw [if_pos he] at hl; simp at hl
            · rw [if_neg he] at hl; exact hl
        · rw [addL_same hc]; exact h
    · rw [if_neg h2]; exact h
/-- Fewer under way. -/
theorem wants_drop {l : List (Int × Int)} (hr : Rising l) {x y : Int} (h : wantsL (dropOf x l) y = true) : wantsL l y = true := by
  obtain ⟨d1, d2, d3⟩ := drop_facts x l hr.1
  by_cases he : y = x
  · exfalso
    subst he
    have hz : kindOf y (dropOf y l) = 0 := by
      rcases place_get y (dropOf y l) 0 with ⟨_, _, z⟩ | ⟨j, p, _, _, _, _, z⟩
      · exact z
      · rw [d1] at z; cases z
    unfold wantsL at h
    rw [hz] at h
    simp at h
  · unfold wantsL at h ⊢
    rw [d2 y he] at h
    exact h
theorem mem_drop {l : List (Int × Int)} {x : Int} {p : Int × Int} (h : p ∈ dropOf x l) : p ∈ l := (drop_sub x l).subset h
/-- A line that was asked for comes. -/
theorem RoomOk.data (h : RoomOk n k m q) (hr : Rising q.l) {p : Int × Int} (hp : p ∈ q.l) (hk : p.2 = 1 ∨ p.2 = 2) {s v : Int} (hs : s = 1 ∨ s = 4) :
    answerOk q (dataM p.1 s v 0 0 0) = true ∧ answerSays q (dataM p.1 s v 0 0 0) = { Mg.zero with kind := 12, line := p.1 } ∧ RoomOk n k m (answerTo q (dataM p.1 s v 0 0 0)) ∧ getS (answerTo q (dataM p.1 s v 0 0 0)).S p.1 = some ⟨p.1, s, 0, 0, v, 0, 0, 0, false, true⟩ := by
  obtain ⟨x1, x2⟩ := (h.kinds p hp).1
  have hx : isLine p.1 = true := (isLine_iff _).2 ⟨x1, by omega⟩
  obtain ⟨k1, k2⟩ := kind_in hr.1 hp
  have hw : wantsL q.l p.1 = true := by
    unfold wantsL
    rw [k1]
    rcases hk with e | e <;> rw [e] <;> rfl
  have hroom : roomS q.S p.1 = true := by
    cases hg : getS q.S p.1 with
    | some e => exact room_there h.ok.ok hg
    | none => exact h.fits.room h.ok hx hg hw
  have hm := right_data (c := 0) (x := p.1) (st := s) (mo := 0) (ep := 0) (d0 := v) (d1 := 0) (d2 := 0) (d3 := 0) ⟨by omega, by omega⟩ ⟨x1, by omega⟩ (by omega) ⟨by omega, by omega⟩ ⟨by omega, by omega⟩
  obtain ⟨a1, a2, a3, a4, a5⟩ := answer_data (q := q) (m := dataM p.1 s v 0 0 0) h.ok hm rfl h.core.symm rfl hroom (by simp [rightE, dataM]; omega)
  refine ⟨a1, by rw [a2, h.core]; rfl, ?_, by rw [a4]; show (if p.1 = p.1 then _ else _) = _; rw [if_pos rfl]; rfl⟩
  have a4 : ∀ y, getS (answerTo q (dataM p.1 s v 0 0 0)).S y = if y = p.1 then some ⟨p.1, s, 0, 0, v, 0, 0, 0, false, true⟩ else getS q.S y := a4
  have a5 : answerTo q (dataM p.1 s v 0 0 0) = { q with S := (answerTo q (dataM p.1 s v 0 0 0)).S, l := dropOf p.1 q.l } := a5
  generalize answerTo q (dataM p.1 s v 0 0 0) = q' at *
  have hl : q'.l = dropOf p.1 q.l := by rw [a5]
  refine ⟨by rw [a5]; exact h.core, by rw [a5]; exact h.n, by rw [a5]; exact h.k, by rw [a5]; exact h.most, a3, ?_, ?_, ?_, ?_⟩
  · refine h.fits.mono (by rw [a5]) (by rw [a5]) fun y hy hl' => ?_
    rw [a4, hl] at hl'
    simp only [Bool.or_eq_true] at hl' ⊢
    rcases hl' with hl' | hl'
    · by_cases he : (y : Int) = p.1
      · rw [he]; exact .inr hw
      · rw [if_neg he] at hl'; exact .inl hl'
    · exact .inr (wants_drop hr hl')
  · rw [hl]
    exact Nat.le_trans (drop_length _ _) h.few
  · intro p' hp'
    rw [hl] at hp'
    exact h.kinds p' (mem_drop hp')
  · intro y e he
    rw [a4] at he
    by_cases hy : y = p.1
    · rw [if_pos hy] at he
      cases he
      exact ⟨rfl, hs⟩
    · rw [if_neg hy] at he
      exact h.good y e he
/-- A word is read. -/
theorem RoomOk.read (h : RoomOk n k m q) (x : Int) : okE (getS q.S x) 0 = (getS q.S x).isSome ∧ ((getS q.S x).isSome = false → readV q x 0 = 0) ∧ RoomOk n k m (readTo q x 0) ∧ (readTo q x 0).l = q.l ∧ ∀ e, getS (readTo q x 0).S x = some e → e.f = false := by
  cases hg : getS q.S x with
  | none =>
    have ho : okE (getS q.S x) 0 = false := by rw [hg]; rfl
    obtain ⟨a1, a2⟩ := read_away ho
    rw [a2]
    refine ⟨rfl, fun _ => a1, h, rfl, fun e he => ?_⟩
    rw [hg] at he
    cases he
  | some e0 =>
    obtain ⟨g1, g2⟩ := h.good x e0 hg
    obtain ⟨a1, a2, a3, a4, a5⟩ := read_there h.ok hg g1 (wd := 0) (by omega) (by omega)
    rw [hg] at a1
    have e1 : (readTo q x 0).l = q.l := by rw [a3]; rfl
    refine ⟨a1, (fun hn => by cases hn), ⟨by rw [a3]; exact h.core, by rw [a3]; exact h.n, by rw [a3]; exact h.k, by rw [a3]; exact h.most, a4, ?_, by rw [e1]; exact h.few, by rw [e1]; exact h.kinds, ?_⟩, e1, ?_⟩
    · refine h.fits.mono (by rw [a3]; rfl) (by rw [a3]; rfl) fun y hy hl => ?_
      rw [a5, e1] at hl
      simp only [Bool.or_eq_true] at hl ⊢
      rcases hl with hl | hl
      · by_cases he : (y : Int) = x
        · rw [he, hg]; exact .inl rfl
        · rw [if_neg he] at hl; exact .inl hl
      · exact .inr hl
    · intro y e he
      rw [a5] at he
      by_cases hy : y = x
      · rw [if_pos hy] at he
        cases he
        exact ⟨g1, g2⟩
      · rw [if_neg hy] at he
        exact h.good y e he
    · intro e he
      rw [a5, if_pos rfl] at he
      cases he
      rfl
/-- A line goes. -/
theorem RoomOk.gone (h : RoomOk n k m q) (hr : Rising q.l) {x : Int} {q' : CSt} (hq : q' = { q with S := q'.S, l := q'.l }) (ho : OkQ q') (hg : ∀ y, getS q'.S y = if y = x then none else getS q.S y) (hl : q'.l = q.l ∨ q'.l = dropOf x q.l) : RoomOk n k m q' := by
  refine ⟨by rw [hq]; exact h.core, by rw [hq]; exact h.n, by rw [hq]; exact h.k, by rw [hq]; exact h.most, ho, ?_, ?_, ?_, ?_⟩
  · refine h.fits.mono (by rw [hq]) (by rw [hq]) fun y hy hl' => ?_
    rw [hg] at hl'
    simp only [Bool.or_eq_true] at hl' ⊢
    rcases hl' with hl' | hl'
    · by_cases he : (y : Int) = x
      · rw [if_pos he] at hl'; cases hl'
      · rw [if_neg he] at hl'; exact .inl hl'
    · rcases hl with hl | hl
      · rw [hl] at hl'; exact .inr hl'
      · rw [hl] at hl'; exact .inr (wants_drop hr hl')
  · rcases hl with hl | hl
    · rw [hl]; exact h.few
    · rw [hl]; exact Nat.le_trans (drop_length _ _) h.few
  · intro p hp
    rcases hl with hl | hl
    · rw [hl] at hp; exact h.kinds p hp
    · rw [hl] at hp; exact h.kinds p (mem_drop hp)
  · intro y e he
    rw [hg] at he
    by_cases hy : y = x
    · rw [if_pos hy] at he; cases he
    · rw [if_neg hy] at he; exact h.good y e he
theorem isSome_fresh {x : Int} (hf : ∀ e, getS q.S x = some e → e.f = true → False) : ((getS q.S x).isSome && ((getS q.S x).getD Ent.none).f) = false := by
  cases hg : getS q.S x with
  | none => rfl
  | some e =>
    cases he : e.f with
    | false => simp [he]
    | true => exact absurd he (fun he => hf e hg he)
theorem fwd_facts (h : RoomOk n k m q) (hr : Rising q.l) {x kd : Int} (hk : kd = 6 ∨ kd = 10) (hx : 0 ≤ x ∧ x ≤ 31) :
    forwardOk q ⟨kd, 0, x, 0, 0, 0, 0, 0, 0, 0, 0, 0, false⟩ = !((getS q.S x).isSome && ((getS q.S x).getD Ent.none).f) ∧ (forwardOk q ⟨kd, 0, x, 0, 0, 0, 0, 0, 0, 0, 0, 0, false⟩ = true → (forwardSays q ⟨kd, 0, x, 0, 0, 0, 0, 0, 0, 0, 0, 0, false⟩).has = ((getS q.S x).isSome && decide (((getS q.S x).getD Ent.none).state = 4))) ∧ RoomOk n k m (forwardTo q ⟨kd, 0, x, 0, 0, 0, 0, 0, 0, 0, 0, 0, false⟩) := by
  obtain ⟨r1, r2⟩ := right_fwd (k := kd) (x := x) (c := 0) ⟨by omega, by omega⟩ ⟨by omega, by omega⟩ hx
  have hmi := fwd_mine (q := q) (m := ⟨kd, 0, x, 0, 0, 0, 0, 0, 0, 0, 0, 0, false⟩) r1 r2 h.core.symm
  have hl : fwdL q ⟨kd, 0, x, 0, 0, 0, 0, 0, 0, 0, 0, 0, false⟩ = q.l ∨ fwdL q ⟨kd, 0, x, 0, 0, 0, 0, 0, 0, 0, 0, 0, false⟩ = dropOf x q.l := by
    unfold fwdL
    split
    · exact .inr rfl
    · exact .inl rfl
  cases hg : getS q.S x with
  | none =>
    obtain ⟨a1, a2, a3⟩ := forward_away h.ok hmi hg
    refine ⟨a1, (fun _ => by rw [a2]; rfl), ?_⟩
    refine h.gone hr (x := x) (by rw [a3]) (by rw [a3]; exact h.ok.withL _) (fun y => ?_) (by rw [a3]; exact hl)
    rw [a3]
    show getS q.S y = _
    by_cases hy : y = x
    · rw [if_pos hy, hy, hg]
    · rw [if_neg hy]
  | some e =>
    obtain ⟨g1, g2⟩ := h.good x e hg
    cases hf : e.f with
    | true =>
      obtain ⟨a1, a2, a3⟩ := forward_fresh (q := q) (m := ⟨kd, 0, x, 0, 0, 0, 0, 0, 0, 0, 0, 0, false⟩) hg hf
      refine ⟨by rw [a1]; simp [hf], (fun hn => by rw [a1] at hn; cases hn), by rw [a3]; exact h⟩
    | false =>
      have hn : nextOf e.state kd 0 = (0, decide (e.state = 4)) := by
        rcases g2 with e1 | e1 <;> rcases hk with rfl | rfl <;> rw [e1] <;> decide
      have hz : (fwdE ⟨kd, 0, x, 0, 0, 0, 0, 0, 0, 0, 0, 0, false⟩ e).state = 0 := by
        unfold fwdE
        simp only
        rw [if_neg (by omega), if_neg (by omega), if_neg (by omega), hn]
      obtain ⟨a1, a2, a3, a4, a5⟩ := forward_there h.ok hmi hg hf (fun hh => absurd hz hh)
      refine ⟨by rw [a1]; simp [hf], fun _ => ?_, ?_⟩
      · rw [a2]
        unfold fwdM
        simp only
        rw [hn]
        rcases g2 with e1 | e1 <;> simp [e1]
      · refine h.gone hr (x := x) (by rw [a5]) a3 (fun y => ?_) (by rw [a5]; exact hl)
        rw [a4]
        show (if y = x then _ else _) = _
        rw [if_pos hz]
end
end Go.Proofs.YtfaihaknibmcpaaGreatDoor
