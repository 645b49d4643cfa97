/- The calls of a set of cores answer as the document's own functions do. For any set and any core. -/
import Derived.Test.YtakabjeamkffpaaQBitsTells
namespace Go.Proofs.Ytakabjeamkffpaa.Pure
open Go.RowKit Go.Proofs.Ytakabjeamkffpaa.PBitsTells Go.Proofs.YtakabjeamkffpaaW.PrintWords Go.Proofs.YtakabjeamkffpaaW.PrintLast Go.Proofs.YtakabjeamkffpaaW.PrintMore
theorem u64_set {a : Int} (h : (Lit.int .u64 a).wf = true) : ∃ S : BitVec 64, a = (S.toNat : Int) := by
  have h1 : 0 ≤ a ∧ a ≤ 18446744073709551615 := by simpa [Lit.wf, IntKind.min, IntKind.max, IntKind.bits, IntKind.signed] using h
  refine ⟨BitVec.ofNat 64 a.toNat, ?_⟩
  rw [BitVec.toNat_ofNat, Nat.mod_eq_of_lt (by omega)]
  omega
theorem i64_range {a : Int} (h : (Lit.int .i64 a).wf = true) : -9223372036854775808 ≤ a ∧ a ≤ 9223372036854775807 := by
  simpa [Lit.wf, IntKind.min, IntKind.max, IntKind.bits, IntKind.signed] using h
theorem wrap_small {a : Int} (h1 : -9223372036854775808 ≤ a) (h2 : a ≤ 9223372036854775807) : wrap64 a = a := by unfold wrap64; omega
theorem ofInt_N (S : BitVec 64) : BitVec.ofInt 64 (S.toNat : Int) = S := by
  rw [BitVec.ofInt_natCast]; simp
theorem wrap_N (S : BitVec 64) : IntKind.u64.wrap (S.toNat : Int) = S.toNat := by
  rw [IntKind.wrap_u64]; have := S.isLt; omega
theorem and_N (A B : BitVec 64) : Go.bits .and .u64 (A.toNat : Int) (B.toNat : Int) = ((A &&& B).toNat : Int) := by
  show IntKind.u64.wrap ((BitVec.ofInt 64 (A.toNat : Int) &&& BitVec.ofInt 64 (B.toNat : Int)).toNat : Int) = _
  rw [ofInt_N, ofInt_N, wrap_N]
theorem or_N (A B : BitVec 64) : Go.bits .or .u64 (A.toNat : Int) (B.toNat : Int) = ((A ||| B).toNat : Int) := by
  show IntKind.u64.wrap ((BitVec.ofInt 64 (A.toNat : Int) ||| BitVec.ofInt 64 (B.toNat : Int)).toNat : Int) = _
  rw [ofInt_N, ofInt_N, wrap_N]
theorem andNot_N (A B : BitVec 64) : Go.bits .andNot .u64 (A.toNat : Int) (B.toNat : Int) = ((A &&& ~~~B).toNat : Int) := by
  show IntKind.u64.wrap ((BitVec.ofInt 64 (A.toNat : Int) &&& ~~~BitVec.ofInt 64 (B.toNat : Int)).toNat : Int) = _
  rw [ofInt_N, ofInt_N, wrap_N]
/-- The set of one core. -/
def one (c : Int) : BitVec 64 := if 0 ≤ c ∧ c < 64 then BitVec.twoPow 64 c.toNat else 0#64
theorem one_all : ∀ n, n < 64 → bits_one.f (n : Nat) = some ((one (n : Nat)).toNat : Int) := by decide +kernel
theorem one_f (c : Int) : bits_one.f c = some ((one c).toNat : Int) := by
  by_cases h : 0 ≤ c ∧ c < 64
  · obtain ⟨n, rfl⟩ : ∃ n : Nat, c = (n : Int) := ⟨c.toNat, by omega⟩
    exact one_all n (by omega)
  · unfold bits_one.f one
    rw [if_neg h]
    by_cases h0 : c < 0
    · rw [if_pos h0]; rfl
    · rw [if_neg h0, if_pos (by omega)]; rfl
/-- Is a core in the set? -/
def has (S : BitVec 64) (c : Int) : Bool := decide (0 ≤ c ∧ c < 64) && S.getLsbD c.toNat
theorem has_nat (S : BitVec 64) (n : Nat) (h : n < 64) : has S (n : Int) = S.getLsbD n := by
  unfold has
  have : decide (0 ≤ (n : Int) ∧ (n : Int) < 64) = true := by simp; omega
  rw [this]; simp
theorem one_get (c : Int) (j : Nat) : (one c).getLsbD j = (decide (0 ≤ c ∧ c < 64) && decide ((j : Int) = c)) := by
  unfold one
  by_cases h : 0 ≤ c ∧ c < 64
  · rw [if_pos h, BitVec.getLsbD_twoPow]
    have e1 : decide (c.toNat < 64) = true := by simp; omega
    have e2 : decide (0 ≤ c ∧ c < 64) = true := by simp; omega
    rw [e1, e2, Bool.true_and, Bool.true_and]
    by_cases e : (j : Int) = c
    · simp [show c.toNat = j from by omega, e]
    · simp [show ¬ c.toNat = j from by omega, e]
  · rw [if_neg h]
    simp [h]
theorem has_ne (S : BitVec 64) (c : Int) : (((S &&& one c).toNat : Int) != 0) = has S c := by
  by_cases h : 0 ≤ c ∧ c < 64
  · by_cases g : S.getLsbD c.toNat = true
    · have h1 : ¬ (S &&& one c) = 0#64 := by
        intro e
        have := congrArg (fun x : BitVec 64 => x.getLsbD c.toNat) e
        simp only [BitVec.getLsbD_and, one_get, g] at this
        simp [h] at this
        omega
      have h2 : ¬ (S &&& one c).toNat = 0 := fun e => h1 (BitVec.eq_of_toNat_eq (by simpa using e))
      have : has S c = true := by unfold has; simp [h, g]
      rw [this]
      simp only [bne_iff_ne, ne_eq]
      omega
    · have h1 : (S &&& one c) = 0#64 := by
        apply BitVec.eq_of_getLsbD_eq
        intro i hi
        simp only [BitVec.getLsbD_and, one_get]
        by_cases e : (i : Int) = c
        · have : i = c.toNat := by omega
          subst this
          simp [g]
        · simp [e]
      have : has S c = false := by unfold has; simp [g]
      rw [this, h1]; rfl
  · have h1 : (S &&& one c) = 0#64 := by unfold one; rw [if_neg h]; simp
    have : has S c = false := by unfold has; simp [h]
    rw [this, h1]; rfl
theorem has_f (S : BitVec 64) (c : Int) : bits_Set_Has.f (S.toNat : Int) c = some (has S c) := by
  unfold bits_Set_Has.f
  rw [one_f, Option.bind_some, and_N, has_ne]
theorem drop_f (S : BitVec 64) (c : Int) : bits_Set_Drop.f (S.toNat : Int) c = some ((S &&& ~~~one c).toNat : Int) := by
  unfold bits_Set_Drop.f
  rw [one_f, Option.bind_some, andNot_N]
theorem nat_succ (j : Nat) (h : j ≤ 64) : wrap64 ((j : Int) + 1) = ((j + 1 : Nat) : Int) := by rw [wrap_small (by omega) (by omega)]; omega
/-- The cores of a set. -/
def members (S : BitVec 64) (j d : Nat) : List Nat := (List.range' j d).filter fun i => S.getLsbD i
def ints (l : List Nat) : List Int := l.map (fun n : Nat => (n : Int))
theorem members_succ (S : BitVec 64) (j d : Nat) : members S j (d + 1) = if S.getLsbD j = true then j :: members S (j + 1) d else members S (j + 1) d := by
  unfold members
  rw [List.range'_succ, List.filter_cons]
theorem list_l0 (S : BitVec 64) : ∀ (d k : Nat) (acc : List Int) (j : Nat), j + d = 64 → d < k → acc.length ≤ j → bits_Set_List.l0 k (S.toNat : Int) acc (j : Int) = some (acc ++ ints (members S j d)) := by
  intro d
  induction d with
  | zero =>
    intro k acc j hj hk _
    obtain ⟨k, rfl⟩ : ∃ m, k = m + 1 := ⟨k - 1, by omega⟩
    simp only [bits_Set_List.l0]
    rw [if_neg (by omega)]
    simp [members, ints]
  | succ d ih =>
    intro k acc j hj hk hl
    obtain ⟨k, rfl⟩ : ∃ m, k = m + 1 := ⟨k - 1, by omega⟩
    simp only [bits_Set_List.l0]
    rw [if_pos (by omega), has_f, Option.bind_some, has_nat S j (by omega), members_succ, nat_succ j (by omega)]
    by_cases h : S.getLsbD j = true
    · rw [if_pos h, if_pos h, if_pos (by omega), ih k _ (j + 1) (by omega) (by omega) (by simp; omega)]
      simp [ints]
    · rw [if_neg h, if_neg h, ih k _ (j + 1) (by omega) (by omega) (by omega)]
def elems (S : BitVec 64) : List Nat := members S 0 64
theorem list_f (S : BitVec 64) (k : Nat) (hk : 64 < k) : bits_Set_List.f k (S.toNat : Int) = some (ints (elems S)) := by
  unfold bits_Set_List.f
  have := list_l0 S 64 k [] 0 (by omega) hk (by simp)
  simpa [elems] using this
theorem ints_length (l : List Nat) : (ints l).length = l.length := by simp [ints]
theorem count_f (S : BitVec 64) (k : Nat) (hk : 64 < k) : bits_Set_Count.f k (S.toNat : Int) = some ((elems S).length : Int) := by
  unfold bits_Set_Count.f
  rw [list_f S k hk, Option.bind_some, ints_length]
def headOr (l : List Nat) : Int := match l with
  | [] => -1
  | x :: _ => (x : Int)
theorem first_l0 (S : BitVec 64) : ∀ (d k j : Nat), j + d = 64 → d < k → bits_Set_First.l0 k (S.toNat : Int) (j : Int) = some (headOr (members S j d)) := by
  intro d
  induction d with
  | zero =>
    intro k j hj hk
    obtain ⟨k, rfl⟩ : ∃ m, k = m + 1 := ⟨k - 1, by omega⟩
    simp only [bits_Set_First.l0]
    rw [if_neg (by omega)]
    simp [members, headOr]
  | succ d ih =>
    intro k j hj hk
    obtain ⟨k, rfl⟩ : ∃ m, k = m + 1 := ⟨k - 1, by omega⟩
    simp only [bits_Set_First.l0]
    rw [if_pos (by omega), has_f, Option.bind_some, has_nat S j (by omega), members_succ, nat_succ j (by omega)]
    by_cases h : S.getLsbD j = true
    · rw [if_pos h, if_pos h]; rfl
    · rw [if_neg h, if_neg h, ih k (j + 1) (by omega) (by omega)]
theorem first_f (S : BitVec 64) (k : Nat) (hk : 64 < k) : bits_Set_First.f k (S.toNat : Int) = some (headOr (elems S)) := by
  unfold bits_Set_First.f
  exact first_l0 S 64 k 0 (by omega) hk
theorem add_f (S : BitVec 64) (c : Int) : bits_Set_Add.f (S.toNat : Int) c = some ((S ||| one c).toNat : Int) := by
  unfold bits_Set_Add.f
  rw [one_f, Option.bind_some, or_N]
-- USES BitsCommon BitsAdd
theorem shr_and (S : BitVec 64) (n : Nat) (h : n < 64) : Go.bits .and .u64 (shr .u64 (S.toNat : Int) (n : Int)) 1 = if S.getLsbD n then 1 else 0 := by
  have e1 : shr .u64 (S.toNat : Int) (n : Int) = ((S >>> n).toNat : Int) := by
    unfold shr
    rw [Int.toNat_natCast, show min n IntKind.u64.bits = n from by simp [IntKind.bits]; omega, BitVec.toNat_ushiftRight, Nat.shiftRight_eq_div_pow]
    norm_cast
  have e2 : (1 : Int) = (((1#64).toNat : Nat) : Int) := rfl
  rw [e1]
  conv => lhs; rw [e2]
  rw [and_N]
  by_cases g : S.getLsbD n = true
  · rw [if_pos g]
    have : S >>> n &&& 1#64 = 1#64 := by
      apply BitVec.eq_of_getLsbD_eq
      intro i hi
      rw [BitVec.getLsbD_and, BitVec.getLsbD_ushiftRight, BitVec.getLsbD_one]
      by_cases e : i = 0
      · subst e; simp [g]
      · simp [e]
    rw [this]; rfl
  · rw [if_neg g]
    have : S >>> n &&& 1#64 = 0#64 := by
      apply BitVec.eq_of_getLsbD_eq
      intro i hi
      rw [BitVec.getLsbD_and, BitVec.getLsbD_ushiftRight, BitVec.getLsbD_one]
      by_cases e : i = 0
      · subst e; simp [g]
      · simp [e]
    rw [this]; rfl
theorem rlist_l0 (S : BitVec 64) : ∀ (d k : Nat) (acc : List Int) (j : Nat), j + d = 64 → d < k → acc.length ≤ j → assentref1_List.l0 k (S.toNat : Int) acc (j : Int) = some (acc ++ ints (members S j d)) := by
  intro d
  induction d with
  | zero =>
    intro k acc j hj hk _
    obtain ⟨k, rfl⟩ : ∃ m, k = m + 1 := ⟨k - 1, by omega⟩
    simp only [assentref1_List.l0]
    rw [if_neg (by omega)]
    simp [members, ints]
  | succ d ih =>
    intro k acc j hj hk hl
    obtain ⟨k, rfl⟩ : ∃ m, k = m + 1 := ⟨k - 1, by omega⟩
    simp only [assentref1_List.l0]
    rw [if_pos (by omega), if_pos (by omega), shr_and S j (by omega), members_succ, nat_succ j (by omega)]
    by_cases h : S.getLsbD j = true
    · rw [if_pos h, if_pos h, if_pos rfl, if_pos (by omega), ih k _ (j + 1) (by omega) (by omega) (by simp; omega)]
      simp [ints]
    · rw [if_neg h, if_neg h, if_neg (by decide), ih k _ (j + 1) (by omega) (by omega) (by omega)]
theorem rlist_f (S : BitVec 64) (k : Nat) (hk : 64 < k) : assentref1_List.f k (S.toNat : Int) = some (ints (elems S)) := by
  unfold assentref1_List.f
  have := rlist_l0 S 64 k [] 0 (by omega) hk (by simp)
  simpa [elems] using this
theorem odd_and (n : Nat) (h : n < 18446744073709551616) : Go.bits .and .u64 (n : Int) 1 = if n.testBit 0 then 1 else 0 := by
  have := bits_and_u64_nat n 1 h (by omega)
  rw [show ((1 : Nat) : Int) = 1 from rfl] at this
  rw [this, Nat.and_one_is_mod]
  by_cases g : n.testBit 0 = true
  · rw [if_pos g]
    have : n % 2 = 1 := by simpa using g
    omega
  · rw [if_neg g]
    have : ¬ n % 2 = 1 := by simpa using g
    omega
theorem filter_shift (p : Nat → Bool) : ∀ (m j : Nat), ((List.range' (j + 1) m).filter p).length = ((List.range' j m).filter fun i => p (i + 1)).length := by
  intro m
  induction m with
  | zero => intro j; simp
  | succ m ih =>
    intro j
    rw [List.range'_succ, List.range'_succ, List.filter_cons, List.filter_cons]
    by_cases g : p (j + 1) = true
    · rw [if_pos g, if_pos g, List.length_cons, List.length_cons, ih (j + 1)]
    · rw [if_neg g, if_neg g, ih (j + 1)]
theorem rcount_l0 : ∀ (m k n : Nat) (acc : Int), n < 2 ^ m → m ≤ 64 → m < k → 0 ≤ acc → acc ≤ 1000 - m → assentref1_Count.l0 k (n : Int) acc = some (acc + (((List.range' 0 m).filter fun i => n.testBit i).length : Nat)) := by
  intro m
  induction m with
  | zero =>
    intro k n acc hn _ hk _ _
    obtain ⟨k, rfl⟩ : ∃ m, k = m + 1 := ⟨k - 1, by omega⟩
    have : n = 0 := by omega
    subst this
    simp [assentref1_Count.l0]
  | succ m ih =>
    intro k n acc hn hm hk h0 h1
    obtain ⟨k, rfl⟩ : ∃ m, k = m + 1 := ⟨k - 1, by omega⟩
    have hlt : n < 18446744073709551616 := Nat.lt_of_lt_of_le hn (Nat.pow_le_pow_right (by omega) hm)
    simp only [assentref1_Count.l0]
    by_cases z : n = 0
    · subst z
      rw [if_neg (by omega)]
      have : (List.range' 0 (m + 1)).filter (fun i => Nat.testBit 0 i) = [] := by simp
      rw [this]; simp
    · rw [if_pos (by omega), odd_and n hlt, List.range'_succ, List.filter_cons]
      have hs := filter_shift (fun i => n.testBit i) m 0
      have hd : ((n : Int) / 2) = ((n / 2 : Nat) : Int) := by omega
      have hlen : ∀ l : List Nat, ((0 :: l).length : Int) = (l.length : Int) + 1 := fun l => by simp
      rw [hd]
      have hn2 : n / 2 < 2 ^ m := by rw [Nat.pow_succ] at hn; omega
      have e : (fun i => Nat.testBit n (i + 1)) = fun i => Nat.testBit (n / 2) i := by funext i; exact Nat.testBit_succ n i
      rw [e] at hs
      by_cases g : n.testBit 0 = true
      · rw [if_pos g, if_pos g]
        have w : wrap64 (acc + wrap64 1) = acc + 1 := by unfold wrap64; omega
        rw [w, ih k (n / 2) (acc + 1) hn2 (by omega) (by omega) (by omega) (by omega), hlen]
        have : ((List.range' (0 + 1) m).filter fun i => n.testBit i).length = ((List.range' 0 m).filter fun i => (n / 2).testBit i).length := hs
        rw [this]; congr 1; omega
      · rw [if_neg g, if_neg g]
        have w : wrap64 (acc + wrap64 0) = acc := by unfold wrap64; omega
        rw [w, ih k (n / 2) acc hn2 (by omega) (by omega) (by omega) (by omega)]
        have : ((List.range' (0 + 1) m).filter fun i => n.testBit i).length = ((List.range' 0 m).filter fun i => (n / 2).testBit i).length := hs
        rw [this]
theorem rcount_f (S : BitVec 64) (k : Nat) (hk : 64 < k) : assentref1_Count.f k (S.toNat : Int) = some ((elems S).length : Int) := by
  unfold assentref1_Count.f
  rw [rcount_l0 64 k S.toNat 0 S.isLt (by omega) hk (by omega) (by omega)]
  simp [elems, members, BitVec.getLsbD]
theorem same_l0 (l : List Int) (h : l.length < 1000) : ∀ (d k j : Nat), j + d = l.length → d < k → assentbook_Same_int.l0 k l l (j : Int) = some true := by
  intro d
  induction d with
  | zero =>
    intro k j hj hk
    obtain ⟨k, rfl⟩ : ∃ m, k = m + 1 := ⟨k - 1, by omega⟩
    simp only [assentbook_Same_int.l0]
    rw [if_neg (by omega)]
  | succ d ih =>
    intro k j hj hk
    obtain ⟨k, rfl⟩ : ∃ m, k = m + 1 := ⟨k - 1, by omega⟩
    simp only [assentbook_Same_int.l0]
    have w : wrap64 ((j : Int) + 1) = ((j + 1 : Nat) : Int) := by unfold wrap64; omega
    rw [if_pos (by omega), if_pos (by omega), if_pos (by omega), if_pos trivial, w]
    exact ih k (j + 1) (by omega) (by omega)
theorem elems_le (S : BitVec 64) : (elems S).length ≤ 64 := by
  unfold elems members
  have := List.length_filter_le (fun i => S.getLsbD i) (List.range' 0 64)
  simpa using this
theorem same_f (S : BitVec 64) (k : Nat) (hk : 64 < k) : assentbook_Same_int.f k (ints (elems S)) (ints (elems S)) = some true := by
  have := elems_le S
  unfold assentbook_Same_int.f
  rw [if_pos rfl]
  exact same_l0 _ (by rw [ints_length]; omega) (ints (elems S)).length k 0 (by omega) (by rw [ints_length]; omega)
theorem runs97 : assentlaw4_BitsRuns.f 97 = some true := by decide +kernel
theorem j2_ok (S : BitVec 64) (c : Int) : assentlaw4_BitsTells.j2 98 (S.toNat : Int) c (S.toNat : Int) (has S c) ((S ||| one c).toNat : Int) ((S &&& ~~~one c).toNat : Int) (ints (elems S)) (headOr (elems S)) = some true := by
  simp only [assentlaw4_BitsTells.j2]
  rw [has_f, add_f, drop_f, count_f S 97 (by omega), rcount_f S 97 (by omega), first_f S 97 (by omega), list_f S 97 (by omega)]
  simp only [Option.bind_some, beq_self_eq_true, if_true]
  rw [same_f S 97 (by omega), runs97]
  simp
theorem j1_ok (S : BitVec 64) (c : Int) : assentlaw4_BitsTells.j1 99 (S.toNat : Int) c (S.toNat : Int) (has S c) ((S ||| one c).toNat : Int) ((S &&& ~~~one c).toNat : Int) = some true := by
  simp only [assentlaw4_BitsTells.j1]
  rw [rlist_f S 98 (by omega)]
  simp only [Option.bind_some]
  have h := j2_ok S c
  cases e : elems S with
  | nil => rw [e] at h; simpa [ints, headOr] using h
  | cons x l =>
    rw [e] at h
    have hl : ((ints (x :: l)).length : Int) > 0 := by simp [ints] <;> omega
    rw [if_pos hl, if_pos hl]
    have : rd (ints (x :: l)) 0 = headOr (x :: l) := by simp [rd, ints, headOr]
    rw [this]; exact h
theorem shl_one (n : Nat) (h : n < 64) : shl .u64 1 (n : Int) = ((one (n : Int)).toNat : Int) := by
  have : ∀ n, n < 64 → shl .u64 1 (n : Nat) = ((one (n : Nat)).toNat : Int) := by decide +kernel
  exact this n h
theorem BitsTells : assentlaw4_BitsTells.Pure := by
  intro a c ha _
  obtain ⟨S, rfl⟩ := u64_set ha
  have h := j1_ok S c
  refine ⟨100, ?_⟩
  unfold assentlaw4_BitsTells.f
  by_cases hc : 0 ≤ c ∧ c < 64
  · rw [if_pos (by omega)]
    have : decide (c < 64) = true := by simp; omega
    rw [this]
    simp only [assentlaw4_BitsTells.j0, if_true]
    rw [if_pos hc.1]
    obtain ⟨n, rfl⟩ : ∃ n : Nat, c = (n : Int) := ⟨c.toNat, by omega⟩
    rw [shr_and S n (by omega), shl_one n (by omega), or_N, andNot_N]
    have e : ((if S.getLsbD n = true then (1 : Int) else 0) == 1) = has S (n : Int) := by
      rw [has_nat S n (by omega)]
      cases S.getLsbD n <;> rfl
    rw [e]; exact h
  · have e1 : has S c = false := by unfold has; simp [hc]
    have e2 : one c = 0#64 := by unfold one; rw [if_neg hc]
    rw [e1, e2] at h
    have e3 : S ||| 0#64 = S := by simp
    have e4 : S &&& ~~~0#64 = S := by
      apply BitVec.eq_of_getLsbD_eq
      intro i hi
      simp only [BitVec.getLsbD_and, BitVec.getLsbD_not, BitVec.getLsbD_zero, hi]
      simp
    rw [e3, e4] at h
    by_cases h0 : c ≥ 0
    · rw [if_pos h0]
      have : decide (c < 64) = false := by simp; omega
      rw [this]
      simp only [assentlaw4_BitsTells.j0]
      rw [if_neg (by decide)]; exact h
    · rw [if_neg h0]
      simp only [assentlaw4_BitsTells.j0]
      rw [if_neg (by decide)]; exact h
end Go.Proofs.Ytakabjeamkffpaa.Pure
