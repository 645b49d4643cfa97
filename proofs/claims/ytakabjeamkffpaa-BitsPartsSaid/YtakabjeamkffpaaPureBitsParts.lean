/- A set with a core has one more, if it was not in; without it one fewer, if it was; the order does not matter. For any set and any two cores. -/
import Derived.Test.YtakabjeamkffpaaQBitsParts
namespace Go.Proofs.Ytakabjeamkffpaa.Pure
open Go.RowKit Go.Proofs.Ytakabjeamkffpaa.PBitsParts Go.Proofs.YtakabjeamkffpaaW.PrintWords Go.Proofs.YtakabjeamkffpaaW.PrintLast Go.Proofs.YtakabjeamkffpaaW.PrintMore
theorem u64_set {a : Int} (h : (Lit.int .u64 a).wf = true) : ∃ S : BitVec 64, a = (S.toNat : Int) := by
  have h1 : 0 ≤ a ∧ a ≤ 18446744073709551615 := by simpa [Lit.wf, IntKind.min, IntKind.max, IntKind.bits, IntKind.signed] using h
  refine ⟨BitVec.ofNat 64 a.toNat, ?_⟩
  rw [BitVec.toNat_ofNat, Nat.mod_eq_of_lt (by omega)]
  omega
theorem i64_range {a : Int} (h : (Lit.int .i64 a).wf = true) : -9223372036854775808 ≤ a ∧ a ≤ 9223372036854775807 := by
  simpa [Lit.wf, IntKind.min, IntKind.max, IntKind.bits, IntKind.signed] using h
theorem wrap_small {a : Int} (h1 : -9223372036854775808 ≤ a) (h2 : a ≤ 9223372036854775807) : wrap64 a = a := by unfold wrap64; omega
theorem ofInt_N (S : BitVec 64) : BitVec.ofInt 64 (S.toNat : Int) = S := by
  rw [BitVec.ofInt_natCast]; simp
theorem wrap_N (S : BitVec 64) : IntKind.u64.wrap (S.toNat : Int) = S.toNat := by
  rw [IntKind.wrap_u64]; have := S.isLt; omega
theorem and_N (A B : BitVec 64) : Go.bits .and .u64 (A.toNat : Int) (B.toNat : Int) = ((A &&& B).toNat : Int) := by
  show IntKind.u64.wrap ((BitVec.ofInt 64 (A.toNat : Int) &&& BitVec.ofInt 64 (B.toNat : Int)).toNat : Int) = _
  rw [ofInt_N, ofInt_N, wrap_N]
theorem or_N (A B : BitVec 64) : Go.bits .or .u64 (A.toNat : Int) (B.toNat : Int) = ((A ||| B).toNat : Int) := by
  show IntKind.u64.wrap ((BitVec.ofInt 64 (A.toNat : Int) ||| BitVec.ofInt 64 (B.toNat : Int)).toNat : Int) = _
  rw [ofInt_N, ofInt_N, wrap_N]
theorem andNot_N (A B : BitVec 64) : Go.bits .andNot .u64 (A.toNat : Int) (B.toNat : Int) = ((A &&& ~~~B).toNat : Int) := by
  show IntKind.u64.wrap ((BitVec.ofInt 64 (A.toNat : Int) &&& ~~~BitVec.ofInt 64 (B.toNat : Int)).toNat : Int) = _
  rw [ofInt_N, ofInt_N, wrap_N]
/-- The set of one core. -/
def one (c : Int) : BitVec 64 := if 0 ≤ c ∧ c < 64 then BitVec.twoPow 64 c.toNat else 0#64
theorem one_all : ∀ n, n < 64 → bits_one.f (n : Nat) = some ((one (n : Nat)).toNat : Int) := by decide +kernel
theorem one_f (c : Int) : bits_one.f c = some ((one c).toNat : Int) := by
  by_cases h : 0 ≤ c ∧ c < 64
  · obtain ⟨n, rfl⟩ : ∃ n : Nat, c = (n : Int) := ⟨c.toNat, by omega⟩
    exact one_all n (by omega)
  · unfold bits_one.f one
    rw [if_neg h]
    by_cases h0 : c < 0
    · rw [if_pos h0]; rfl
    · rw [if_neg h0, if_pos (by omega)]; rfl
/-- Is a core in the set? -/
def has (S : BitVec 64) (c : Int) : Bool := decide (0 ≤ c ∧ c < 64) && S.getLsbD c.toNat
theorem has_nat (S : BitVec 64) (n : Nat) (h : n < 64) : has S (n : Int) = S.getLsbD n := by
  unfold has
  have : decide (0 ≤ (n : Int) ∧ (n : Int) < 64) = true := by simp; omega
  rw [this]; simp
theorem one_get (c : Int) (j : Nat) : (one c).getLsbD j = (decide (0 ≤ c ∧ c < 64) && decide ((j : Int) = c)) := by
  unfold one
  by_cases h : 0 ≤ c ∧ c < 64
  · rw [if_pos h, BitVec.getLsbD_twoPow]
    have e1 : decide (c.toNat < 64) = true := by simp; omega
    have e2 : decide (0 ≤ c ∧ c < 64) = true := by simp; omega
    rw [e1, e2, Bool.true_and, Bool.true_and]
    by_cases e : (j : Int) = c
    · simp [show c.toNat = j from by omega, e]
    · simp [show ¬ c.toNat = j from by omega, e]
  · rw [if_neg h]
    simp [h]
theorem has_ne (S : BitVec 64) (c : Int) : (((S &&& one c).toNat : Int) != 0) = has S c := by
  by_cases h : 0 ≤ c ∧ c < 64
  · by_cases g : S.getLsbD c.toNat = true
    · have h1 : ¬ (S &&& one c) = 0#64 := by
        intro e
        have := congrArg (fun x : BitVec 64 => x.getLsbD c.toNat) e
        simp only [BitVec.getLsbD_and, one_get, g] at this
        simp [h] at this
        omega
      have h2 : ¬ (S &&& one c).toNat = 0 := fun e => h1 (BitVec.eq_of_toNat_eq (by simpa using e))
      have : has S c = true := by unfold has; simp [h, g]
      rw [this]
      simp only [bne_iff_ne, ne_eq]
      omega
    · have h1 : (S &&& one c) = 0#64 := by
        apply BitVec.eq_of_getLsbD_eq
        intro i hi
        simp only [BitVec.getLsbD_and, one_get]
        by_cases e : (i : Int) = c
        · have : i = c.toNat := by omega
          subst this
          simp [g]
        · simp [e]
      have : has S c = false := by unfold has; simp [g]
      rw [this, h1]; rfl
  · have h1 : (S &&& one c) = 0#64 := by unfold one; rw [if_neg h]; simp
    have : has S c = false := by unfold has; simp [h]
    rw [this, h1]; rfl
theorem has_f (S : BitVec 64) (c : Int) : bits_Set_Has.f (S.toNat : Int) c = some (has S c) := by
  unfold bits_Set_Has.f
  rw [one_f, Option.bind_some, and_N, has_ne]
theorem drop_f (S : BitVec 64) (c : Int) : bits_Set_Drop.f (S.toNat : Int) c = some ((S &&& ~~~one c).toNat : Int) := by
  unfold bits_Set_Drop.f
  rw [one_f, Option.bind_some, andNot_N]
theorem nat_succ (j : Nat) (h : j ≤ 64) : wrap64 ((j : Int) + 1) = ((j + 1 : Nat) : Int) := by rw [wrap_small (by omega) (by omega)]; omega
/-- The cores of a set. -/
def members (S : BitVec 64) (j d : Nat) : List Nat := (List.range' j d).filter fun i => S.getLsbD i
def ints (l : List Nat) : List Int := l.map (fun n : Nat => (n : Int))
theorem members_succ (S : BitVec 64) (j d : Nat) : members S j (d + 1) = if S.getLsbD j = true then j :: members S (j + 1) d else members S (j + 1) d := by
  unfold members
  rw [List.range'_succ, List.filter_cons]
theorem list_l0 (S : BitVec 64) : ∀ (d k : Nat) (acc : List Int) (j : Nat), j + d = 64 → d < k → acc.length ≤ j → bits_Set_List.l0 k (S.toNat : Int) acc (j : Int) = some (acc ++ ints (members S j d)) := by
  intro d
  induction d with
  | zero =>
    intro k acc j hj hk _
    obtain ⟨k, rfl⟩ : ∃ m, k = m + 1 := ⟨k - 1, by omega⟩
    simp only [bits_Set_List.l0]
    rw [if_neg (by omega)]
    simp [members, ints]
  | succ d ih =>
    intro k acc j hj hk hl
    obtain ⟨k, rfl⟩ : ∃ m, k = m + 1 := ⟨k - 1, by omega⟩
    simp only [bits_Set_List.l0]
    rw [if_pos (by omega), has_f, Option.bind_some, has_nat S j (by omega), members_succ, nat_succ j (by omega)]
    by_cases h : S.getLsbD j = true
    · rw [if_pos h, if_pos h, if_pos (by omega), ih k _ (j + 1) (by omega) (by omega) (by simp; omega)]
      simp [ints]
    · rw [if_neg h, if_neg h, ih k _ (j + 1) (by omega) (by omega) (by omega)]
def elems (S : BitVec 64) : List Nat := members S 0 64
theorem list_f (S : BitVec 64) (k : Nat) (hk : 64 < k) : bits_Set_List.f k (S.toNat : Int) = some (ints (elems S)) := by
  unfold bits_Set_List.f
  have := list_l0 S 64 k [] 0 (by omega) hk (by simp)
  simpa [elems] using this
theorem ints_length (l : List Nat) : (ints l).length = l.length := by simp [ints]
theorem count_f (S : BitVec 64) (k : Nat) (hk : 64 < k) : bits_Set_Count.f k (S.toNat : Int) = some ((elems S).length : Int) := by
  unfold bits_Set_Count.f
  rw [list_f S k hk, Option.bind_some, ints_length]
def headOr (l : List Nat) : Int := match l with
  | [] => -1
  | x :: _ => (x : Int)
theorem first_l0 (S : BitVec 64) : ∀ (d k j : Nat), j + d = 64 → d < k → bits_Set_First.l0 k (S.toNat : Int) (j : Int) = some (headOr (members S j d)) := by
  intro d
  induction d with
  | zero =>
    intro k j hj hk
    obtain ⟨k, rfl⟩ : ∃ m, k = m + 1 := ⟨k - 1, by omega⟩
    simp only [bits_Set_First.l0]
    rw [if_neg (by omega)]
    simp [members, headOr]
  | succ d ih =>
    intro k j hj hk
    obtain ⟨k, rfl⟩ : ∃ m, k = m + 1 := ⟨k - 1, by omega⟩
    simp only [bits_Set_First.l0]
    rw [if_pos (by omega), has_f, Option.bind_some, has_nat S j (by omega), members_succ, nat_succ j (by omega)]
    by_cases h : S.getLsbD j = true
    · rw [if_pos h, if_pos h]; rfl
    · rw [if_neg h, if_neg h, ih k (j + 1) (by omega) (by omega)]
theorem first_f (S : BitVec 64) (k : Nat) (hk : 64 < k) : bits_Set_First.f k (S.toNat : Int) = some (headOr (elems S)) := by
  unfold bits_Set_First.f
  exact first_l0 S 64 k 0 (by omega) hk
theorem add_f (S : BitVec 64) (c : Int) : bits_Set_Add.f (S.toNat : Int) c = some ((S ||| one c).toNat : Int) := by
  unfold bits_Set_Add.f
  rw [one_f, Option.bind_some, or_N]
theorem mem_elems (S : BitVec 64) (n : Nat) : n ∈ elems S ↔ n < 64 ∧ S.getLsbD n = true := by
  unfold elems members
  rw [List.mem_filter, List.mem_range'_1]
  simp
theorem filter_one (p q : Nat → Bool) (i : Nat) (hi : p i = true) (hq : q i = false) (hpq : ∀ j, j ≠ i → p j = q j) : ∀ (d j : Nat), (j ≤ i ∧ i < j + d → ((List.range' j d).filter p).length = ((List.range' j d).filter q).length + 1) ∧ (¬ (j ≤ i ∧ i < j + d) → ((List.range' j d).filter p).length = ((List.range' j d).filter q).length) := by
  intro d
  induction d with
  | zero => intro j; exact ⟨fun h => by omega, fun _ => by simp⟩
  | succ d ih =>
    intro j
    have h := ih (j + 1)
    rw [List.range'_succ, List.filter_cons, List.filter_cons]
    by_cases e : j = i
    · subst e
      rw [if_pos hi, if_neg (by simp [hq])]
      refine ⟨fun _ => ?_, fun hh => by omega⟩
      rw [List.length_cons, h.2 (by omega)]
    · rw [hpq j e]
      by_cases g : q j = true
      · rw [if_pos g, if_pos g, List.length_cons, List.length_cons]
        exact ⟨fun hh => by rw [h.1 (by omega)], fun hh => by rw [h.2 (by omega)]⟩
      · rw [if_neg g, if_neg g]
        exact ⟨fun hh => by rw [h.1 (by omega)], fun hh => by rw [h.2 (by omega)]⟩
/-- A set with a core has one more than without it. -/
theorem card_step (S T : BitVec 64) (i : Nat) (hi : i < 64) (h1 : S.getLsbD i = true) (h2 : T.getLsbD i = false) (h : ∀ j, j ≠ i → S.getLsbD j = T.getLsbD j) : (elems S).length = (elems T).length + 1 := by
  unfold elems members
  exact (filter_one (fun i => S.getLsbD i) (fun i => T.getLsbD i) i h1 h2 h 64 0).1 ⟨by omega, by omega⟩
theorem one_nat (n j : Nat) (h : n < 64) : (one (n : Int)).getLsbD j = decide (j = n) := by
  rw [one_get]
  have e1 : decide (0 ≤ (n : Int) ∧ (n : Int) < 64) = true := by simp; omega
  rw [e1, Bool.true_and]
  by_cases e : j = n
  · simp [e]
  · simp [e, show ¬ (j : Int) = (n : Int) from by omega]
theorem drop_get (S : BitVec 64) (n j : Nat) (h : n < 64) : (S &&& ~~~one (n : Int)).getLsbD j = (S.getLsbD j && decide (j ≠ n)) := by
  rw [BitVec.getLsbD_and, BitVec.getLsbD_not, one_nat n j h]
  by_cases hj : j < 64
  · by_cases e : j = n <;> simp [hj, e]
  · simp [BitVec.getLsbD_of_ge S j (by omega)]
theorem add_get (S : BitVec 64) (n j : Nat) (h : n < 64) : (S ||| one (n : Int)).getLsbD j = (S.getLsbD j || decide (j = n)) := by
  rw [BitVec.getLsbD_or, one_nat n j h]
theorem drop_same (S : BitVec 64) (n : Nat) (h : n < 64) (hs : S.getLsbD n = false) : S &&& ~~~one (n : Int) = S := by
  apply BitVec.eq_of_getLsbD_eq
  intro i _
  rw [drop_get S n i h]
  by_cases e : i = n
  · subst e; simp [hs]
  · simp [e]
theorem add_same (S : BitVec 64) (n : Nat) (h : n < 64) (hs : S.getLsbD n = true) : S ||| one (n : Int) = S := by
  apply BitVec.eq_of_getLsbD_eq
  intro i _
  rw [add_get S n i h]
  by_cases e : i = n
  · subst e; simp [hs]
  · simp [e]
theorem card_drop (S : BitVec 64) (n : Nat) (h : n < 64) (hs : S.getLsbD n = true) : (elems S).length = (elems (S &&& ~~~one (n : Int))).length + 1 :=
  card_step S _ n h hs (by rw [drop_get S n n h]; simp) (fun j hj => by rw [drop_get S n j h]; simp [hj])
theorem card_add (S : BitVec 64) (n : Nat) (h : n < 64) (hs : S.getLsbD n = false) : (elems (S ||| one (n : Int))).length = (elems S).length + 1 :=
  card_step _ S n h (by rw [add_get S n n h]; simp) hs (fun j hj => by rw [add_get S n j h]; simp [hj])
theorem card_le (S : BitVec 64) : (elems S).length ≤ 64 := by
  unfold elems members
  have := List.length_filter_le (fun i => S.getLsbD i) (List.range' 0 64)
  simpa using this
/-- The first of a set that has n is no greater. -/
theorem head_le (S : BitVec 64) (n : Nat) (hs : S.getLsbD n = true) : ∀ (d j : Nat), j ≤ n → n < j + d → 0 ≤ headOr (members S j d) ∧ headOr (members S j d) ≤ n := by
  intro d
  induction d with
  | zero => intro j h1 h2; omega
  | succ d ih =>
    intro j h1 h2
    rw [members_succ]
    by_cases g : S.getLsbD j = true
    · rw [if_pos g]
      simp only [headOr]
      omega
    · rw [if_neg g]
      have : j ≠ n := fun e => g (e ▸ hs)
      exact ih (j + 1) (by omega) (by omega)
theorem within_some (a lo hi : Int) (h1 : -1000 ≤ lo) (h2 : lo ≤ hi) (h3 : hi ≤ 1000) : ∃ r, assentbook_Within.f a lo hi = some r ∧ lo ≤ r ∧ r ≤ hi := by
  have e : wrap64 (wrap64 (hi - lo) + 1) = hi - lo + 1 := by unfold wrap64; omega
  have p : 0 < hi - lo + 1 := by omega
  have b1 := Int.tmod_lt_of_pos a p
  have b2 : -(hi - lo + 1) < Int.tmod a (hi - lo + 1) := Int.lt_tmod_of_pos a p
  unfold assentbook_Within.f
  rw [e, if_neg (by omega)]
  generalize Int.tmod a (hi - lo + 1) = t at *
  by_cases h : t < 0
  · rw [if_pos h]
    refine ⟨_, rfl, ?_⟩
    unfold wrap64
    omega
  · rw [if_neg h]
    refine ⟨_, rfl, ?_⟩
    unfold wrap64
    omega
-- USES BitsCommon BitsAdd BitsCount Within
theorem runs98 : assentlaw4_BitsRuns.f 98 = some true := by decide +kernel
theorem head_has (S : BitVec 64) (n : Nat) (h : n < 64) (hs : S.getLsbD n = true) : 0 ≤ headOr (elems S) ∧ headOr (elems S) ≤ n := head_le S n hs 64 0 (by omega) (by omega)
theorem adds_swap (S : BitVec 64) (i j : Nat) (hi : i < 64) (hj : j < 64) : (S ||| one (i : Int)) ||| one (j : Int) = (S ||| one (j : Int)) ||| one (i : Int) := by
  apply BitVec.eq_of_getLsbD_eq
  intro t _
  rw [add_get _ j t hj, add_get _ i t hi, add_get _ i t hi, add_get _ j t hj]
  cases S.getLsbD t <;> cases decide (t = i) <;> cases decide (t = j) <;> rfl
theorem drop_swap (S : BitVec 64) (i j : Nat) (hi : i < 64) (hj : j < 64) (hij : i ≠ j) : (S ||| one (i : Int)) &&& ~~~one (j : Int) = (S &&& ~~~one (j : Int)) ||| one (i : Int) := by
  apply BitVec.eq_of_getLsbD_eq
  intro t _
  rw [drop_get _ j t hj, add_get _ i t hi, add_get _ i t hi, drop_get _ j t hj]
  by_cases e : t = i
  · subst e; simp [hij]
  · simp [e]
theorem j0_ok (S : BitVec 64) (i k : Nat) (hi : i < 64) (hk : k < 64) (n : Int) (hn : n = ((elems (S &&& ~~~one (i : Int))).length : Nat)) : assentlaw4_BitsParts.j0 99 (S.toNat : Int) i k n = some true := by
  have hle := card_le (S &&& ~~~one (i : Int))
  have hA : (S ||| one (i : Int)).getLsbD i = true := by rw [add_get S i i hi]; simp
  have hD : (S &&& ~~~one (i : Int)).getLsbD i = false := by rw [drop_get S i i hi]; simp
  have hcA : ((elems (S ||| one (i : Int))).length : Int) = n + 1 := by
    have : (elems (S ||| one (i : Int))).length = (elems (S &&& ~~~one (i : Int))).length + 1 := by
      refine card_step _ _ i hi hA hD (fun j hj => ?_)
      rw [add_get S i j hi, drop_get S i j hi]; simp [hj]
    rw [this, hn]; omega
  have hw : wrap64 (n + 1) = n + 1 := by rw [hn]; unfold wrap64; omega
  obtain ⟨f0, f1⟩ := head_has _ i hi hA
  simp only [assentlaw4_BitsParts.j0]
  rw [add_f, drop_f]
  simp only [Option.bind_some]
  rw [count_f _ 98 (by omega), count_f _ 98 (by omega)]
  simp only [Option.bind_some]
  rw [if_pos (by rw [hcA, hw]), if_pos hn.symm, has_f, has_f, has_nat _ i hi, has_nat _ i hi, hA, hD]
  simp only [Option.bind_some, if_true]
  rw [if_neg (by decide), add_f, add_f]
  simp only [Option.bind_some]
  rw [add_f]
  simp only [Option.bind_some]
  rw [adds_swap S i k hi hk, if_pos rfl, first_f _ 98 (by omega)]
  simp only [Option.bind_some]
  by_cases e : (i : Int) = (k : Int)
  · rw [if_pos e, if_pos f0, if_pos f1, runs98]; rfl
  · rw [if_neg e, drop_f, drop_f]
    simp only [Option.bind_some]
    rw [add_f]
    simp only [Option.bind_some]
    rw [drop_swap S i k hi hk (by omega), if_pos rfl, if_pos f0, if_pos f1, runs98]; rfl
theorem BitsParts : assentlaw4_BitsParts.Pure := by
  intro a x y ha _ _
  obtain ⟨S, rfl⟩ := u64_set ha
  obtain ⟨i, h1, i0, i1⟩ := within_some x 0 63 (by omega) (by omega) (by omega)
  obtain ⟨k, h2, k0, k1⟩ := within_some y 0 63 (by omega) (by omega) (by omega)
  obtain ⟨i, rfl⟩ : ∃ n : Nat, i = (n : Int) := ⟨i.toNat, by omega⟩
  obtain ⟨k, rfl⟩ : ∃ n : Nat, k = (n : Int) := ⟨k.toNat, by omega⟩
  refine ⟨99, ?_⟩
  unfold assentlaw4_BitsParts.f
  rw [h1, h2, count_f S 99 (by omega)]
  simp only [Option.bind_some]
  rw [has_f, has_nat S i (by omega)]
  simp only [Option.bind_some]
  have hc := card_le S
  by_cases g : S.getLsbD i = true
  · rw [if_pos g]
    have := card_drop S i (by omega) g
    have hw : wrap64 (((elems S).length : Int) - 1) = ((elems (S &&& ~~~one (i : Int))).length : Nat) := by unfold wrap64; omega
    simpa [assentlaw4_BitsParts.j0] using j0_ok S i k (by omega) (by omega) _ hw
  · rw [if_neg g]
    have := drop_same S i (by omega) (by simpa using g)
    exact j0_ok S i k (by omega) (by omega) _ (by rw [this])
end Go.Proofs.Ytakabjeamkffpaa.Pure
