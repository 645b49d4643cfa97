/- A set of cores has these, and no others; its list makes it again; more of them change nothing. For any cores and any core: what the printed functions answer. -/
import Derived.Test.YtakabjeamkffpaaQBitsOf
namespace Go.Proofs.Ytakabjeamkffpaa.OfSet
open Go.RowKit Go.Proofs.YtakabjeamkffpaaW.PrintWords Go.Proofs.YtakabjeamkffpaaW.PrintLast Go.Proofs.YtakabjeamkffpaaW.PrintMore Go.Proofs.Ytakabjeamkffpaa.PBitsOf
theorem u64_set {a : Int} (h : (Lit.int .u64 a).wf = true) : ∃ S : BitVec 64, a = (S.toNat : Int) := by
  have h1 : 0 ≤ a ∧ a ≤ 18446744073709551615 := by simpa [Lit.wf, IntKind.min, IntKind.max, IntKind.bits, IntKind.signed] using h
  refine ⟨BitVec.ofNat 64 a.toNat, ?_⟩
  rw [BitVec.toNat_ofNat, Nat.mod_eq_of_lt (by omega)]
  omega
theorem i64_range {a : Int} (h : (Lit.int .i64 a).wf = true) : -9223372036854775808 ≤ a ∧ a ≤ 9223372036854775807 := by
  simpa [Lit.wf, IntKind.min, IntKind.max, IntKind.bits, IntKind.signed] using h
theorem wrap_small {a : Int} (h1 : -9223372036854775808 ≤ a) (h2 : a ≤ 9223372036854775807) : wrap64 a = a := by unfold wrap64; omega
theorem ofInt_N (S : BitVec 64) : BitVec.ofInt 64 (S.toNat : Int) = S := by
  rw [BitVec.ofInt_natCast]; simp
theorem wrap_N (S : BitVec 64) : IntKind.u64.wrap (S.toNat : Int) = S.toNat := by
  rw [IntKind.wrap_u64]; have := S.isLt; omega
theorem and_N (A B : BitVec 64) : Go.bits .and .u64 (A.toNat : Int) (B.toNat : Int) = ((A &&& B).toNat : Int) := by
  show IntKind.u64.wrap ((BitVec.ofInt 64 (A.toNat : Int) &&& BitVec.ofInt 64 (B.toNat : Int)).toNat : Int) = _
  rw [ofInt_N, ofInt_N, wrap_N]
theorem or_N (A B : BitVec 64) : Go.bits .or .u64 (A.toNat : Int) (B.toNat : Int) = ((A ||| B).toNat : Int) := by
  show IntKind.u64.wrap ((BitVec.ofInt 64 (A.toNat : Int) ||| BitVec.ofInt 64 (B.toNat : Int)).toNat : Int) = _
  rw [ofInt_N, ofInt_N, wrap_N]
theorem andNot_N (A B : BitVec 64) : Go.bits .andNot .u64 (A.toNat : Int) (B.toNat : Int) = ((A &&& ~~~B).toNat : Int) := by
  show IntKind.u64.wrap ((BitVec.ofInt 64 (A.toNat : Int) &&& ~~~BitVec.ofInt 64 (B.toNat : Int)).toNat : Int) = _
  rw [ofInt_N, ofInt_N, wrap_N]
/-- The set of one core. -/
def one (c : Int) : BitVec 64 := if 0 ≤ c ∧ c < 64 then BitVec.twoPow 64 c.toNat else 0#64
theorem one_all : ∀ n, n < 64 → bits_one.f (n : Nat) = some ((one (n : Nat)).toNat : Int) := by decide +kernel
theorem one_f (c : Int) : bits_one.f c = some ((one c).toNat : Int) := by
  by_cases h : 0 ≤ c ∧ c < 64
  · obtain ⟨n, rfl⟩ : ∃ n : Nat, c = (n : Int) := ⟨c.toNat, by omega⟩
    exact one_all n (by omega)
  · unfold bits_one.f one
    rw [if_neg h]
    by_cases h0 : c < 0
    · rw [if_pos h0]; rfl
    · rw [if_neg h0, if_pos (by omega)]; rfl
/-- Is a core in the set? -/
def has (S : BitVec 64) (c : Int) : Bool := decide (0 ≤ c ∧ c < 64) && S.getLsbD c.toNat
theorem has_nat (S : BitVec 64) (n : Nat) (h : n < 64) : has S (n : Int) = S.getLsbD n := by
  unfold has
  have : decide (0 ≤ (n : Int) ∧ (n : Int) < 64) = true := by simp; omega
  rw [this]; simp
theorem one_get (c : Int) (j : Nat) : (one c).getLsbD j = (decide (0 ≤ c ∧ c < 64) && decide ((j : Int) = c)) := by
  unfold one
  by_cases h : 0 ≤ c ∧ c < 64
  · rw [if_pos h, BitVec.getLsbD_twoPow]
    have e1 : decide (c.toNat < 64) = true := by simp; omega
    have e2 : decide (0 ≤ c ∧ c < 64) = true := by simp; omega
    rw [e1, e2, Bool.true_and, Bool.true_and]
    by_cases e : (j : Int) = c
    · simp [show c.toNat = j from by omega, e]
    · simp [show ¬ c.toNat = j from by omega, e]
  · rw [if_neg h]
    simp [h]
theorem has_ne (S : BitVec 64) (c : Int) : (((S &&& one c).toNat : Int) != 0) = has S c := by
  by_cases h : 0 ≤ c ∧ c < 64
  · by_cases g : S.getLsbD c.toNat = true
    · have h1 : ¬ (S &&& one c) = 0#64 := by
        intro e
        have := congrArg (fun x : BitVec 64 => x.getLsbD c.toNat) e
        simp only [BitVec.getLsbD_and, one_get, g] at this
        simp [h] at this
        omega
      have h2 : ¬ (S &&& one c).toNat = 0 := fun e => h1 (BitVec.eq_of_toNat_eq (by simpa using e))
      have : has S c = true := by unfold has; simp [h, g]
      rw [this]
      simp only [bne_iff_ne, ne_eq]
      omega
    · have h1 : (S &&& one c) = 0#64 := by
        apply BitVec.eq_of_getLsbD_eq
        intro i hi
        simp only [BitVec.getLsbD_and, one_get]
        by_cases e : (i : Int) = c
        · have : i = c.toNat := by omega
          subst this
          simp [g]
        · simp [e]
      have : has S c = false := by unfold has; simp [g]
      rw [this, h1]; rfl
  · have h1 : (S &&& one c) = 0#64 := by unfold one; rw [if_neg h]; simp
    have : has S c = false := by unfold has; simp [h]
    rw [this, h1]; rfl
theorem has_f (S : BitVec 64) (c : Int) : bits_Set_Has.f (S.toNat : Int) c = some (has S c) := by
  unfold bits_Set_Has.f
  rw [one_f, Option.bind_some, and_N, has_ne]
theorem drop_f (S : BitVec 64) (c : Int) : bits_Set_Drop.f (S.toNat : Int) c = some ((S &&& ~~~one c).toNat : Int) := by
  unfold bits_Set_Drop.f
  rw [one_f, Option.bind_some, andNot_N]
theorem nat_succ (j : Nat) (h : j ≤ 64) : wrap64 ((j : Int) + 1) = ((j + 1 : Nat) : Int) := by rw [wrap_small (by omega) (by omega)]; omega
/-- The cores of a set. -/
def members (S : BitVec 64) (j d : Nat) : List Nat := (List.range' j d).filter fun i => S.getLsbD i
def ints (l : List Nat) : List Int := l.map (fun n : Nat => (n : Int))
theorem members_succ (S : BitVec 64) (j d : Nat) : members S j (d + 1) = if S.getLsbD j = true then j :: members S (j + 1) d else members S (j + 1) d := by
  unfold members
  rw [List.range'_succ, List.filter_cons]
theorem list_l0 (S : BitVec 64) : ∀ (d k : Nat) (acc : List Int) (j : Nat), j + d = 64 → d < k → acc.length ≤ j → bits_Set_List.l0 k (S.toNat : Int) acc (j : Int) = some (acc ++ ints (members S j d)) := by
  intro d
  induction d with
  | zero =>
    intro k acc j hj hk _
    obtain ⟨k, rfl⟩ : ∃ m, k = m + 1 := ⟨k - 1, by omega⟩
    simp only [bits_Set_List.l0]
    rw [if_neg (by omega)]
    simp [members, ints]
  | succ d ih =>
    intro k acc j hj hk hl
    obtain ⟨k, rfl⟩ : ∃ m, k = m + 1 := ⟨k - 1, by omega⟩
    simp only [bits_Set_List.l0]
    rw [if_pos (by omega), has_f, Option.bind_some, has_nat S j (by omega), members_succ, nat_succ j (by omega)]
    by_cases h : S.getLsbD j = true
    · rw [if_pos h, if_pos h, if_pos (by omega), ih k _ (j + 1) (by omega) (by omega) (by simp; omega)]
      simp [ints]
    · rw [if_neg h, if_neg h, ih k _ (j + 1) (by omega) (by omega) (by omega)]
def elems (S : BitVec 64) : List Nat := members S 0 64
theorem list_f (S : BitVec 64) (k : Nat) (hk : 64 < k) : bits_Set_List.f k (S.toNat : Int) = some (ints (elems S)) := by
  unfold bits_Set_List.f
  have := list_l0 S 64 k [] 0 (by omega) hk (by simp)
  simpa [elems] using this
theorem ints_length (l : List Nat) : (ints l).length = l.length := by simp [ints]
theorem count_f (S : BitVec 64) (k : Nat) (hk : 64 < k) : bits_Set_Count.f k (S.toNat : Int) = some ((elems S).length : Int) := by
  unfold bits_Set_Count.f
  rw [list_f S k hk, Option.bind_some, ints_length]
def headOr (l : List Nat) : Int := match l with
  | [] => -1
  | x :: _ => (x : Int)
theorem first_l0 (S : BitVec 64) : ∀ (d k j : Nat), j + d = 64 → d < k → bits_Set_First.l0 k (S.toNat : Int) (j : Int) = some (headOr (members S j d)) := by
  intro d
  induction d with
  | zero =>
    intro k j hj hk
    obtain ⟨k, rfl⟩ : ∃ m, k = m + 1 := ⟨k - 1, by omega⟩
    simp only [bits_Set_First.l0]
    rw [if_neg (by omega)]
    simp [members, headOr]
  | succ d ih =>
    intro k j hj hk
    obtain ⟨k, rfl⟩ : ∃ m, k = m + 1 := ⟨k - 1, by omega⟩
    simp only [bits_Set_First.l0]
    rw [if_pos (by omega), has_f, Option.bind_some, has_nat S j (by omega), members_succ, nat_succ j (by omega)]
    by_cases h : S.getLsbD j = true
    · rw [if_pos h, if_pos h]; rfl
    · rw [if_neg h, if_neg h, ih k (j + 1) (by omega) (by omega)]
theorem first_f (S : BitVec 64) (k : Nat) (hk : 64 < k) : bits_Set_First.f k (S.toNat : Int) = some (headOr (elems S)) := by
  unfold bits_Set_First.f
  exact first_l0 S 64 k 0 (by omega) hk
theorem add_f (S : BitVec 64) (c : Int) : bits_Set_Add.f (S.toNat : Int) c = some ((S ||| one c).toNat : Int) := by
  unfold bits_Set_Add.f
  rw [one_f, Option.bind_some, or_N]
/-- The set of cores. -/
theorem nat_le (j : Nat) (h : j ≤ 2000) : wrap64 ((j : Int) + 1) = ((j + 1 : Nat) : Int) := by rw [wrap_small (by omega) (by omega)]; omega
def setOf (l : List Int) (s : BitVec 64) : BitVec 64 := l.foldl (fun s c => s ||| one c) s
theorem of_l0 (l : List Int) (hl : l.length ≤ 1000) : ∀ (d k j : Nat) (s : BitVec 64), j + d = l.length → d < k → bits_Of.l0 k (s.toNat : Int) l (l.length : Int) (j : Int) = some ((setOf (l.drop j) s).toNat : Int) := by
  intro d
  induction d with
  | zero =>
    intro k j s hj hk
    obtain ⟨k, rfl⟩ : ∃ m, k = m + 1 := ⟨k - 1, by omega⟩
    simp only [bits_Of.l0]
    rw [if_neg (by omega), List.drop_of_length_le (by omega)]; rfl
  | succ d ih =>
    intro k j s hj hk
    obtain ⟨k, rfl⟩ : ∃ m, k = m + 1 := ⟨k - 1, by omega⟩
    have hlt : j < l.length := by omega
    have hr : rd l (j : Int) = l[j] := by simp [rd, hlt]
    simp only [bits_Of.l0]
    rw [if_pos (by omega), if_pos (by omega), if_pos (by omega), hr, one_f, Option.bind_some, or_N, nat_le j (by omega), ih k (j + 1) _ (by omega) (by omega), List.drop_eq_getElem_cons hlt]
    rfl
theorem of_f (l : List Int) (hl : l.length ≤ 1000) (k : Nat) (hk : l.length < k) : bits_Of.f k l = some ((setOf l 0#64).toNat : Int) := by
  have := of_l0 l hl l.length k 0 0#64 (by omega) hk
  simpa [bits_Of.f] using this
theorem setOf_get (j : Nat) : ∀ (l : List Int) (s : BitVec 64), (setOf l s).getLsbD j = (s.getLsbD j || l.any fun c => decide (0 ≤ c ∧ c < 64) && decide ((j : Int) = c)) := by
  intro l
  induction l with
  | nil => intro s; simp [setOf]
  | cons a l ih =>
    intro s
    have e : setOf (a :: l) s = setOf l (s ||| one a) := rfl
    rw [e, ih, BitVec.getLsbD_or, one_get, List.any_cons, Bool.or_assoc]
theorem has_setOf (l : List Int) (c : Int) : has (setOf l 0#64) c = (l.any (fun x => x == c) && (decide (0 ≤ c) && decide (c < 64))) := by
  unfold has
  by_cases h : 0 ≤ c ∧ c < 64
  · rw [setOf_get, BitVec.getLsbD_zero, Bool.false_or]
    have e1 : decide (0 ≤ c ∧ c < 64) = true := decide_eq_true h
    have e2 : decide (0 ≤ c) = true := decide_eq_true h.1
    have e3 : decide (c < 64) = true := decide_eq_true h.2
    rw [e1, e2, e3, Bool.true_and, Bool.and_self, Bool.and_true]
    congr 1
    funext x
    rw [Bool.eq_iff_iff]
    simp
    omega
  · have e1 : decide (0 ≤ c ∧ c < 64) = false := decide_eq_false h
    rw [e1, Bool.false_and]
    by_cases h0 : 0 ≤ c
    · rw [decide_eq_false (p := c < 64) (by omega), Bool.and_false, Bool.and_false]
    · rw [decide_eq_false h0, Bool.false_and, Bool.and_false]
theorem members_mem (S : BitVec 64) (d j n : Nat) : n ∈ members S j d ↔ (j ≤ n ∧ n < j + d) ∧ S.getLsbD n = true := by
  unfold members
  rw [List.mem_filter, List.mem_range'_1]
theorem setOf_elems (S : BitVec 64) : setOf (ints (elems S)) 0#64 = S := by
  apply BitVec.eq_of_getLsbD_eq
  intro i hi
  rw [setOf_get, BitVec.getLsbD_zero, Bool.false_or, Bool.eq_iff_iff, List.any_eq_true]
  constructor
  · rintro ⟨x, hx, h⟩
    simp only [ints, List.mem_map] at hx
    obtain ⟨n, hn, rfl⟩ := hx
    simp only [Bool.and_eq_true, decide_eq_true_eq] at h
    have : i = n := by omega
    subst this
    exact ((members_mem S 64 0 i).1 hn).2
  · intro h
    refine ⟨(i : Int), ?_, ?_⟩
    · simp only [ints, List.mem_map]
      exact ⟨i, (members_mem S 64 0 i).2 ⟨by omega, h⟩, rfl⟩
    · simp; omega
theorem add_drop (S : BitVec 64) (c : Int) : (S ||| one c) &&& ~~~one c = S &&& ~~~one c := by
  apply BitVec.eq_of_getLsbD_eq
  intro i hi
  simp only [BitVec.getLsbD_and, BitVec.getLsbD_or, BitVec.getLsbD_not, hi]
  cases S.getLsbD i <;> cases (one c).getLsbD i <;> rfl
theorem same_l0 (l : List Int) (h : l.length < 1000) : ∀ (d k j : Nat), j + d = l.length → d < k → assentbook_Same_int.l0 k l l (j : Int) = some true := by
  intro d
  induction d with
  | zero =>
    intro k j hj hk
    obtain ⟨k, rfl⟩ : ∃ m, k = m + 1 := ⟨k - 1, by omega⟩
    simp only [assentbook_Same_int.l0]
    rw [if_neg (by omega)]
  | succ d ih =>
    intro k j hj hk
    obtain ⟨k, rfl⟩ : ∃ m, k = m + 1 := ⟨k - 1, by omega⟩
    simp only [assentbook_Same_int.l0]
    rw [if_pos (by omega), if_pos (by omega), if_pos (by omega), if_pos trivial, nat_le j (by omega)]
    exact ih k (j + 1) (by omega) (by omega)
theorem intact_l0 (l : List Int) (m : Int) (h : l.length ≤ 100) : ∀ (d k j : Nat), j + d = 80 → d < k → assentbook_Intact_int.l0 k (l ++ List.replicate 80 m) m ((l.length + j : Nat) : Int) = some true := by
  intro d
  induction d with
  | zero =>
    intro k j hj hk
    obtain ⟨k, rfl⟩ : ∃ m, k = m + 1 := ⟨k - 1, by omega⟩
    simp only [assentbook_Intact_int.l0]
    rw [if_neg (by simp; omega)]
  | succ d ih =>
    intro k j hj hk
    obtain ⟨k, rfl⟩ : ∃ m, k = m + 1 := ⟨k - 1, by omega⟩
    have hr : rd (l ++ List.replicate 80 m) ((l.length + j : Nat) : Int) = m := by
      unfold rd
      rw [Int.toNat_natCast, List.getD_eq_getElem?_getD, List.getElem?_append_right (by omega), List.getElem?_replicate, if_pos (by omega)]
      rfl
    simp only [assentbook_Intact_int.l0]
    rw [if_pos (by simp; omega), if_pos (by omega), hr, if_pos rfl, nat_le _ (by omega)]
    exact ih k (j + 1) (by omega) (by omega)
theorem intact_f (l : List Int) (m : Int) (h : l.length ≤ 100) : assentbook_Intact_int.f 200 (l ++ List.replicate 80 m) l m = some true := by
  have e : wrap64 ((l.length : Int) + 80) = (l.length : Int) + 80 := wrap_small (by omega) (by omega)
  have t : (l ++ List.replicate 80 m).take ((l.length : Int)).toNat = l := by rw [Int.toNat_natCast, List.take_left]
  have s : assentbook_Same_int.f 200 l l = some true := by
    unfold assentbook_Same_int.f
    rw [if_pos rfl]
    exact same_l0 l (by omega) l.length 200 0 (by omega) (by omega)
  unfold assentbook_Intact_int.f
  rw [e, if_pos (by simp), if_pos (by omega), if_pos (by simp; omega), t, s, Option.bind_some]
  simp only [assentbook_Intact_int.j0]
  rw [if_neg (by decide)]
  exact intact_l0 l m h 80 199 0 (by omega) (by omega)
end Go.Proofs.Ytakabjeamkffpaa.OfSet
