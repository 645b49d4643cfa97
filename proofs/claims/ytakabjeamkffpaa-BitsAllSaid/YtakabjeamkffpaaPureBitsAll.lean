/- All cores make the full set; taking them out in any order makes it empty, one fewer each time. For any list of picks. -/
import Derived.Test.YtakabjeamkffpaaPBitsAllx2
namespace Go.Proofs.Ytakabjeamkffpaa.Pure
open Go.RowKit Go.Proofs.Ytakabjeamkffpaa.PBitsAll Go.Proofs.YtakabjeamkffpaaW.PrintWords Go.Proofs.YtakabjeamkffpaaW.PrintLast Go.Proofs.YtakabjeamkffpaaW.PrintMore
theorem u64_set {a : Int} (h : (Lit.int .u64 a).wf = true) : ∃ S : BitVec 64, a = (S.toNat : Int) := by
  have h1 : 0 ≤ a ∧ a ≤ 18446744073709551615 := by simpa [Lit.wf, IntKind.min, IntKind.max, IntKind.bits, IntKind.signed] using h
  refine ⟨BitVec.ofNat 64 a.toNat, ?_⟩
  rw [BitVec.toNat_ofNat, Nat.mod_eq_of_lt (by omega)]
  omega
theorem i64_range {a : Int} (h : (Lit.int .i64 a).wf = true) : -9223372036854775808 ≤ a ∧ a ≤ 9223372036854775807 := by
  simpa [Lit.wf, IntKind.min, IntKind.max, IntKind.bits, IntKind.signed] using h
theorem wrap_small {a : Int} (h1 : -9223372036854775808 ≤ a) (h2 : a ≤ 9223372036854775807) : wrap64 a = a := by unfold wrap64; omega
theorem ofInt_N (S : BitVec 64) : BitVec.ofInt 64 (S.toNat : Int) = S := by
  rw [BitVec.ofInt_natCast]; simp
theorem wrap_N (S : BitVec 64) : IntKind.u64.wrap (S.toNat : Int) = S.toNat := by
  rw [IntKind.wrap_u64]; have := S.isLt; omega
theorem and_N (A B : BitVec 64) : Go.bits .and .u64 (A.toNat : Int) (B.toNat : Int) = ((A &&& B).toNat : Int) := by
  show IntKind.u64.wrap ((BitVec.ofInt 64 (A.toNat : Int) &&& BitVec.ofInt 64 (B.toNat : Int)).toNat : Int) = _
  rw [ofInt_N, ofInt_N, wrap_N]
theorem or_N (A B : BitVec 64) : Go.bits .or .u64 (A.toNat : Int) (B.toNat : Int) = ((A ||| B).toNat : Int) := by
  show IntKind.u64.wrap ((BitVec.ofInt 64 (A.toNat : Int) ||| BitVec.ofInt 64 (B.toNat : Int)).toNat : Int) = _
  rw [ofInt_N, ofInt_N, wrap_N]
theorem andNot_N (A B : BitVec 64) : Go.bits .andNot .u64 (A.toNat : Int) (B.toNat : Int) = ((A &&& ~~~B).toNat : Int) := by
  show IntKind.u64.wrap ((BitVec.ofInt 64 (A.toNat : Int) &&& ~~~BitVec.ofInt 64 (B.toNat : Int)).toNat : Int) = _
  rw [ofInt_N, ofInt_N, wrap_N]
/-- The set of one core. -/
def one (c : Int) : BitVec 64 := if 0 ≤ c ∧ c < 64 then BitVec.twoPow 64 c.toNat else 0#64
theorem one_all : ∀ n, n < 64 → bits_one.f (n : Nat) = some ((one (n : Nat)).toNat : Int) := by decide +kernel
theorem one_f (c : Int) : bits_one.f c = some ((one c).toNat : Int) := by
  by_cases h : 0 ≤ c ∧ c < 64
  · obtain ⟨n, rfl⟩ : ∃ n : Nat, c = (n : Int) := ⟨c.toNat, by omega⟩
    exact one_all n (by omega)
  · unfold bits_one.f one
    rw [if_neg h]
    by_cases h0 : c < 0
    · rw [if_pos h0]; rfl
    · rw [if_neg h0, if_pos (by omega)]; rfl
/-- Is a core in the set? -/
def has (S : BitVec 64) (c : Int) : Bool := decide (0 ≤ c ∧ c < 64) && S.getLsbD c.toNat
theorem has_nat (S : BitVec 64) (n : Nat) (h : n < 64) : has S (n : Int) = S.getLsbD n := by
  unfold has
  have : decide (0 ≤ (n : Int) ∧ (n : Int) < 64) = true := by simp; omega
  rw [this]; simp
theorem one_get (c : Int) (j : Nat) : (one c).getLsbD j = (decide (0 ≤ c ∧ c < 64) && decide ((j : Int) = c)) := by
  unfold one
  by_cases h : 0 ≤ c ∧ c < 64
  · rw [if_pos h, BitVec.getLsbD_twoPow]
    have e1 : decide (c.toNat < 64) = true := by simp; omega
    have e2 : decide (0 ≤ c ∧ c < 64) = true := by simp; omega
    rw [e1, e2, Bool.true_and, Bool.true_and]
    by_cases e : (j : Int) = c
    · simp [show c.toNat = j from by omega, e]
    · simp [show ¬ c.toNat = j from by omega, e]
  · rw [if_neg h]
    simp [h]
theorem has_ne (S : BitVec 64) (c : Int) : (((S &&& one c).toNat : Int) != 0) = has S c := by
  by_cases h : 0 ≤ c ∧ c < 64
  · by_cases g : S.getLsbD c.toNat = true
    · have h1 : ¬ (S &&& one c) = 0#64 := by
        intro e
        have := congrArg (fun x : BitVec 64 => x.getLsbD c.toNat) e
        simp only [BitVec.getLsbD_and, one_get, g] at this
        simp [h] at this
        omega
      have h2 : ¬ (S &&& one c).toNat = 0 := fun e => h1 (BitVec.eq_of_toNat_eq (by simpa using e))
      have : has S c = true := by unfold has; simp [h, g]
      rw [this]
      simp only [bne_iff_ne, ne_eq]
      omega
    · have h1 : (S &&& one c) = 0#64 := by
        apply BitVec.eq_of_getLsbD_eq
        intro i hi
        simp only [BitVec.getLsbD_and, one_get]
        by_cases e : (i : Int) = c
        · have : i = c.toNat := by omega
          subst this
          simp [g]
        · simp [e]
      have : has S c = false := by unfold has; simp [g]
      rw [this, h1]; rfl
  · have h1 : (S &&& one c) = 0#64 := by unfold one; rw [if_neg h]; simp
    have : has S c = false := by unfold has; simp [h]
    rw [this, h1]; rfl
theorem has_f (S : BitVec 64) (c : Int) : bits_Set_Has.f (S.toNat : Int) c = some (has S c) := by
  unfold bits_Set_Has.f
  rw [one_f, Option.bind_some, and_N, has_ne]
theorem drop_f (S : BitVec 64) (c : Int) : bits_Set_Drop.f (S.toNat : Int) c = some ((S &&& ~~~one c).toNat : Int) := by
  unfold bits_Set_Drop.f
  rw [one_f, Option.bind_some, andNot_N]
theorem nat_succ (j : Nat) (h : j ≤ 64) : wrap64 ((j : Int) + 1) = ((j + 1 : Nat) : Int) := by rw [wrap_small (by omega) (by omega)]; omega
/-- The cores of a set. -/
def members (S : BitVec 64) (j d : Nat) : List Nat := (List.range' j d).filter fun i => S.getLsbD i
def ints (l : List Nat) : List Int := l.map (fun n : Nat => (n : Int))
theorem members_succ (S : BitVec 64) (j d : Nat) : members S j (d + 1) = if S.getLsbD j = true then j :: members S (j + 1) d else members S (j + 1) d := by
  unfold members
  rw [List.range'_succ, List.filter_cons]
theorem list_l0 (S : BitVec 64) : ∀ (d k : Nat) (acc : List Int) (j : Nat), j + d = 64 → d < k → acc.length ≤ j → bits_Set_List.l0 k (S.toNat : Int) acc (j : Int) = some (acc ++ ints (members S j d)) := by
  intro d
  induction d with
  | zero =>
    intro k acc j hj hk _
    obtain ⟨k, rfl⟩ : ∃ m, k = m + 1 := ⟨k - 1, by omega⟩
    simp only [bits_Set_List.l0]
    rw [if_neg (by omega)]
    simp [members, ints]
  | succ d ih =>
    intro k acc j hj hk hl
    obtain ⟨k, rfl⟩ : ∃ m, k = m + 1 := ⟨k - 1, by omega⟩
    simp only [bits_Set_List.l0]
    rw [if_pos (by omega), has_f, Option.bind_some, has_nat S j (by omega), members_succ, nat_succ j (by omega)]
    by_cases h : S.getLsbD j = true
    · rw [if_pos h, if_pos h, if_pos (by omega), ih k _ (j + 1) (by omega) (by omega) (by simp; omega)]
      simp [ints]
    · rw [if_neg h, if_neg h, ih k _ (j + 1) (by omega) (by omega) (by omega)]
def elems (S : BitVec 64) : List Nat := members S 0 64
theorem list_f (S : BitVec 64) (k : Nat) (hk : 64 < k) : bits_Set_List.f k (S.toNat : Int) = some (ints (elems S)) := by
  unfold bits_Set_List.f
  have := list_l0 S 64 k [] 0 (by omega) hk (by simp)
  simpa [elems] using this
theorem ints_length (l : List Nat) : (ints l).length = l.length := by simp [ints]
theorem count_f (S : BitVec 64) (k : Nat) (hk : 64 < k) : bits_Set_Count.f k (S.toNat : Int) = some ((elems S).length : Int) := by
  unfold bits_Set_Count.f
  rw [list_f S k hk, Option.bind_some, ints_length]
def headOr (l : List Nat) : Int := match l with
  | [] => -1
  | x :: _ => (x : Int)
theorem first_l0 (S : BitVec 64) : ∀ (d k j : Nat), j + d = 64 → d < k → bits_Set_First.l0 k (S.toNat : Int) (j : Int) = some (headOr (members S j d)) := by
  intro d
  induction d with
  | zero =>
    intro k j hj hk
    obtain ⟨k, rfl⟩ : ∃ m, k = m + 1 := ⟨k - 1, by omega⟩
    simp only [bits_Set_First.l0]
    rw [if_neg (by omega)]
    simp [members, headOr]
  | succ d ih =>
    intro k j hj hk
    obtain ⟨k, rfl⟩ : ∃ m, k = m + 1 := ⟨k - 1, by omega⟩
    simp only [bits_Set_First.l0]
    rw [if_pos (by omega), has_f, Option.bind_some, has_nat S j (by omega), members_succ, nat_succ j (by omega)]
    by_cases h : S.getLsbD j = true
    · rw [if_pos h, if_pos h]; rfl
    · rw [if_neg h, if_neg h, ih k (j + 1) (by omega) (by omega)]
theorem first_f (S : BitVec 64) (k : Nat) (hk : 64 < k) : bits_Set_First.f k (S.toNat : Int) = some (headOr (elems S)) := by
  unfold bits_Set_First.f
  exact first_l0 S 64 k 0 (by omega) hk
theorem add_f (S : BitVec 64) (c : Int) : bits_Set_Add.f (S.toNat : Int) c = some ((S ||| one c).toNat : Int) := by
  unfold bits_Set_Add.f
  rw [one_f, Option.bind_some, or_N]
theorem mem_elems (S : BitVec 64) (n : Nat) : n ∈ elems S ↔ n < 64 ∧ S.getLsbD n = true := by
  unfold elems members
  rw [List.mem_filter, List.mem_range'_1]
  simp
theorem filter_one (p q : Nat → Bool) (i : Nat) (hi : p i = true) (hq : q i = false) (hpq : ∀ j, j ≠ i → p j = q j) : ∀ (d j : Nat), (j ≤ i ∧ i < j + d → ((List.range' j d).filter p).length = ((List.range' j d).filter q).length + 1) ∧ (¬ (j ≤ i ∧ i < j + d) → ((List.range' j d).filter p).length = ((List.range' j d).filter q).length) := by
  intro d
  induction d with
  | zero => intro j; exact ⟨fun h => by omega, fun _ => by simp⟩
  | succ d ih =>
    intro j
    have h := ih (j + 1)
    rw [List.range'_succ, List.filter_cons, List.filter_cons]
    by_cases e : j = i
    · subst e
      rw [if_pos hi, if_neg (by simp [hq])]
      refine ⟨fun _ => ?_, fun hh => by omega⟩
      rw [List.length_cons, h.2 (by omega)]
    · rw [hpq j e]
      by_cases g : q j = true
      · rw [if_pos g, if_pos g, List.length_cons, List.length_cons]
        exact ⟨fun hh => by rw [h.1 (by omega)], fun hh => by rw [h.2 (by omega)]⟩
      · rw [if_neg g, if_neg g]
        exact ⟨fun hh => by rw [h.1 (by omega)], fun hh => by rw [h.2 (by omega)]⟩
/-- A set with a core has one more than without it. -/
theorem card_step (S T : BitVec 64) (i : Nat) (hi : i < 64) (h1 : S.getLsbD i = true) (h2 : T.getLsbD i = false) (h : ∀ j, j ≠ i → S.getLsbD j = T.getLsbD j) : (elems S).length = (elems T).length + 1 := by
  unfold elems members
  exact (filter_one (fun i => S.getLsbD i) (fun i => T.getLsbD i) i h1 h2 h 64 0).1 ⟨by omega, by omega⟩
theorem one_nat (n j : Nat) (h : n < 64) : (one (n : Int)).getLsbD j = decide (j = n) := by
  rw [one_get]
  have e1 : decide (0 ≤ (n : Int) ∧ (n : Int) < 64) = true := by simp; omega
  rw [e1, Bool.true_and]
  by_cases e : j = n
  · simp [e]
  · simp [e, show ¬ (j : Int) = (n : Int) from by omega]
theorem drop_get (S : BitVec 64) (n j : Nat) (h : n < 64) : (S &&& ~~~one (n : Int)).getLsbD j = (S.getLsbD j && decide (j ≠ n)) := by
  rw [BitVec.getLsbD_and, BitVec.getLsbD_not, one_nat n j h]
  by_cases hj : j < 64
  · by_cases e : j = n <;> simp [hj, e]
  · simp [BitVec.getLsbD_of_ge S j (by omega)]
theorem add_get (S : BitVec 64) (n j : Nat) (h : n < 64) : (S ||| one (n : Int)).getLsbD j = (S.getLsbD j || decide (j = n)) := by
  rw [BitVec.getLsbD_or, one_nat n j h]
theorem drop_same (S : BitVec 64) (n : Nat) (h : n < 64) (hs : S.getLsbD n = false) : S &&& ~~~one (n : Int) = S := by
  apply BitVec.eq_of_getLsbD_eq
  intro i _
  rw [drop_get S n i h]
  by_cases e : i = n
  · subst e; simp [hs]
  · simp [e]
theorem add_same (S : BitVec 64) (n : Nat) (h : n < 64) (hs : S.getLsbD n = true) : S ||| one (n : Int) = S := by
  apply BitVec.eq_of_getLsbD_eq
  intro i _
  rw [add_get S n i h]
  by_cases e : i = n
  · subst e; simp [hs]
  · simp [e]
theorem card_drop (S : BitVec 64) (n : Nat) (h : n < 64) (hs : S.getLsbD n = true) : (elems S).length = (elems (S &&& ~~~one (n : Int))).length + 1 :=
  card_step S _ n h hs (by rw [drop_get S n n h]; simp) (fun j hj => by rw [drop_get S n j h]; simp [hj])
theorem card_add (S : BitVec 64) (n : Nat) (h : n < 64) (hs : S.getLsbD n = false) : (elems (S ||| one (n : Int))).length = (elems S).length + 1 :=
  card_step _ S n h (by rw [add_get S n n h]; simp) hs (fun j hj => by rw [add_get S n j h]; simp [hj])
theorem card_le (S : BitVec 64) : (elems S).length ≤ 64 := by
  unfold elems members
  have := List.length_filter_le (fun i => S.getLsbD i) (List.range' 0 64)
  simpa using this
/-- The first of a set that has n is no greater. -/
theorem head_le (S : BitVec 64) (n : Nat) (hs : S.getLsbD n = true) : ∀ (d j : Nat), j ≤ n → n < j + d → 0 ≤ headOr (members S j d) ∧ headOr (members S j d) ≤ n := by
  intro d
  induction d with
  | zero => intro j h1 h2; omega
  | succ d ih =>
    intro j h1 h2
    rw [members_succ]
    by_cases g : S.getLsbD j = true
    · rw [if_pos g]
      simp only [headOr]
      omega
    · rw [if_neg g]
      have : j ≠ n := fun e => g (e ▸ hs)
      exact ih (j + 1) (by omega) (by omega)
theorem within_some (a lo hi : Int) (h1 : -1000 ≤ lo) (h2 : lo ≤ hi) (h3 : hi ≤ 1000) : ∃ r, assentbook_Within.f a lo hi = some r ∧ lo ≤ r ∧ r ≤ hi := by
  have e : wrap64 (wrap64 (hi - lo) + 1) = hi - lo + 1 := by unfold wrap64; omega
  have p : 0 < hi - lo + 1 := by omega
  have b1 := Int.tmod_lt_of_pos a p
  have b2 : -(hi - lo + 1) < Int.tmod a (hi - lo + 1) := Int.lt_tmod_of_pos a p
  unfold assentbook_Within.f
  rw [e, if_neg (by omega)]
  generalize Int.tmod a (hi - lo + 1) = t at *
  by_cases h : t < 0
  · rw [if_pos h]
    refine ⟨_, rfl, ?_⟩
    unfold wrap64
    omega
  · rw [if_neg h]
    refine ⟨_, rfl, ?_⟩
    unfold wrap64
    omega
-- USES BitsCommon BitsAdd BitsCount Within
theorem runs_at (k : Nat) (hk : 70 ≤ k) : assentlaw4_BitsRuns.f k = some true := at_rounds assentlaw4_BitsRuns.mono hk (by decide +kernel : assentlaw4_BitsRuns.f 70 = some true)
/-- The first so many cores. -/
def upto : Nat → BitVec 64
  | 0 => 0#64
  | n + 1 => upto n ||| one (n : Int)
theorem l0_all (x : List Int) : ∀ (d k j : Nat), j + d = 64 → assentlaw4_BitsAll.l0 (k + d) x ((upto j).toNat : Int) (j : Int) = assentlaw4_BitsAll.l0 k x ((upto 64).toNat : Int) 64 := by
  intro d
  induction d with
  | zero =>
    intro k j hj
    obtain rfl : j = 64 := by omega
    rw [Nat.add_zero, show ((64 : Nat) : Int) = 64 from rfl]
  | succ d ih =>
    intro k j hj
    rw [show k + (d + 1) = (k + d) + 1 from by omega]
    conv => lhs; simp only [assentlaw4_BitsAll.l0]
    rw [if_pos (by omega), add_f, Option.bind_some, nat_succ j (by omega)]
    exact ih k (j + 1) (by omega)
theorem upto_all : upto 64 = BitVec.allOnes 64 := by decide +kernel
theorem elems_all : elems (upto 64) = List.range' 0 64 := by decide +kernel
theorem empty_of (S : BitVec 64) (h : (elems S).length = 0) : S = 0#64 := by
  apply BitVec.eq_of_getLsbD_eq
  intro i hi
  have h0 : elems S = [] := List.length_eq_zero_iff.1 h
  have : i ∉ elems S := by rw [h0]; simp
  rw [mem_elems] at this
  simp
  simpa [hi] using this
theorem l1_all (x : List Int) : ∀ (d k j : Nat) (S : BitVec 64), j + d = 64 → (elems S).length = d → 2 * d + 100 < k → assentlaw4_BitsAll.l1 k x (S.toNat : Int) (j : Int) = some true := by
  intro d
  induction d with
  | zero =>
    intro k j S hj hS hk
    obtain ⟨k, rfl⟩ : ∃ m, k = m + 1 := ⟨k - 1, by omega⟩
    have hz := empty_of S hS
    have hl := List.length_eq_zero_iff.1 hS
    simp only [assentlaw4_BitsAll.l1]
    rw [if_neg (by omega), if_pos (by rw [hz]; rfl), first_f S k (by omega), hl]
    simp only [Option.bind_some]
    rw [if_pos (show headOr [] = -1 from rfl), list_f S k (by omega), hl]
    simp only [Option.bind_some]
    rw [if_pos (show ((ints []).length : Int) = 0 from rfl), runs_at k (by omega)]; rfl
  | succ d ih =>
    intro k j S hj hS hk
    obtain ⟨k, rfl⟩ : ∃ m, k = m + 2 := ⟨k - 2, by omega⟩
    have key : ∀ r : Int, 0 ≤ r → r ≤ ((ints (elems S)).length : Int) - 1 → assentlaw4_BitsAll.j3 (k + 1) x (S.toNat : Int) (j : Int) (ints (elems S)) r = some true := by
      intro r r0 r1
      have hlen : (ints (elems S)).length = d + 1 := by rw [ints_length, hS]
      obtain ⟨n, rfl⟩ : ∃ n : Nat, r = (n : Int) := ⟨r.toNat, by omega⟩
      have hn : n < (elems S).length := by omega
      have hrd : rd (ints (elems S)) (n : Int) = (((elems S)[n] : Nat) : Int) := by
        simp [rd, ints, List.getD_eq_getElem?_getD, List.getElem?_map, List.getElem?_eq_getElem hn]
      obtain ⟨hm, hg⟩ := (mem_elems S _).1 (List.getElem_mem hn)
      generalize (elems S)[n] = m at *
      have hc := card_drop S m hm hg
      simp only [assentlaw4_BitsAll.j3]
      rw [if_pos (by omega), if_pos (by omega), hrd, drop_f]
      simp only [Option.bind_some]
      rw [has_f, has_nat _ m hm, drop_get S m m hm]
      simp only [Option.bind_some]
      rw [if_neg (by simp), count_f _ k (by omega)]
      simp only [Option.bind_some]
      have w : wrap64 (63 - (j : Int)) = ((elems (S &&& ~~~one (m : Int))).length : Nat) := by unfold wrap64; omega
      rw [if_pos w.symm, nat_succ j (by omega)]
      exact ih k (j + 1) _ (by omega) (by omega) (by omega)
    rw [show k + 2 = (k + 1) + 1 from rfl]
    conv => lhs; simp only [assentlaw4_BitsAll.l1]
    have hlen : ((ints (elems S)).length : Int) = (d : Int) + 1 := by rw [ints_length, hS]; omega
    rw [if_pos (by omega), list_f S (k + 1) (by omega), Option.bind_some]
    have w : wrap64 (64 - (j : Int)) = (d : Int) + 1 := by unfold wrap64; omega
    rw [if_pos (by rw [w, hlen])]
    by_cases hx : (j : Int) < (x.length : Int)
    · rw [if_pos hx, if_pos (by omega)]
      have w2 : wrap64 (((ints (elems S)).length : Int) - 1) = (d : Int) := by rw [hlen]; unfold wrap64; omega
      obtain ⟨r, hr, r0, r1⟩ := within_some (rd x (j : Int)) 0 (d : Int) (by omega) (by omega) (by omega)
      rw [w2, hr, Option.bind_some]
      exact key r r0 (by omega)
    · rw [if_neg hx]
      exact key 0 (by omega) (by omega)
theorem BitsAll : assentlaw4_BitsAll.Pure := by
  intro x _ _ _
  refine ⟨300 + 64, ?_⟩
  unfold assentlaw4_BitsAll.f
  have h := l0_all x 64 300 0 (by omega)
  have e0 : ((upto 0).toNat : Int) = 0 := rfl
  rw [e0, show ((0 : Nat) : Int) = 0 from rfl] at h
  rw [h]
  have hc : (elems (upto 64)).length = 64 := by rw [elems_all]; simp
  have hh : headOr (elems (upto 64)) = 0 := by rw [elems_all]; decide
  rw [show (300 : Nat) = 299 + 1 from rfl]
  conv => lhs; rw [assentlaw4_BitsAll.l0]
  rw [if_neg (by decide), if_pos (by rw [upto_all]; rfl), count_f _ 299 (by omega), hc]
  simp only [Option.bind_some]
  rw [if_pos (show ((64 : Nat) : Int) = 64 from rfl), first_f _ 299 (by omega), hh]
  simp only [Option.bind_some]
  rw [show (299 : Nat) = 298 + 1 from rfl, assentlaw4_BitsAll.j1, if_neg (by decide)]
  exact l1_all x 64 298 0 (upto 64) (by omega) hc (by omega)
end Go.Proofs.Ytakabjeamkffpaa.Pure
