/- A set's list rises, begins with the first, and has what the set has. For any set. -/
import Derived.Test.YtakabjeamkffpaaQBitsOrder
namespace Go.Proofs.Ytakabjeamkffpaa.Pure
open Go.RowKit Go.Proofs.Ytakabjeamkffpaa.PBitsOrder Go.Proofs.YtakabjeamkffpaaW.PrintWords Go.Proofs.YtakabjeamkffpaaW.PrintLast Go.Proofs.YtakabjeamkffpaaW.PrintMore
theorem u64_set {a : Int} (h : (Lit.int .u64 a).wf = true) : ∃ S : BitVec 64, a = (S.toNat : Int) := by
  have h1 : 0 ≤ a ∧ a ≤ 18446744073709551615 := by simpa [Lit.wf, IntKind.min, IntKind.max, IntKind.bits, IntKind.signed] using h
  refine ⟨BitVec.ofNat 64 a.toNat, ?_⟩
  rw [BitVec.toNat_ofNat, Nat.mod_eq_of_lt (by omega)]
  omega
theorem i64_range {a : Int} (h : (Lit.int .i64 a).wf = true) : -9223372036854775808 ≤ a ∧ a ≤ 9223372036854775807 := by
  simpa [Lit.wf, IntKind.min, IntKind.max, IntKind.bits, IntKind.signed] using h
theorem wrap_small {a : Int} (h1 : -9223372036854775808 ≤ a) (h2 : a ≤ 9223372036854775807) : wrap64 a = a := by unfold wrap64; omega
theorem ofInt_N (S : BitVec 64) : BitVec.ofInt 64 (S.toNat : Int) = S := by
  rw [BitVec.ofInt_natCast]; simp
theorem wrap_N (S : BitVec 64) : IntKind.u64.wrap (S.toNat : Int) = S.toNat := by
  rw [IntKind.wrap_u64]; have := S.isLt; omega
theorem and_N (A B : BitVec 64) : Go.bits .and .u64 (A.toNat : Int) (B.toNat : Int) = ((A &&& B).toNat : Int) := by
  show IntKind.u64.wrap ((BitVec.ofInt 64 (A.toNat : Int) &&& BitVec.ofInt 64 (B.toNat : Int)).toNat : Int) = _
  rw [ofInt_N, ofInt_N, wrap_N]
theorem or_N (A B : BitVec 64) : Go.bits .or .u64 (A.toNat : Int) (B.toNat : Int) = ((A ||| B).toNat : Int) := by
  show IntKind.u64.wrap ((BitVec.ofInt 64 (A.toNat : Int) ||| BitVec.ofInt 64 (B.toNat : Int)).toNat : Int) = _
  rw [ofInt_N, ofInt_N, wrap_N]
theorem andNot_N (A B : BitVec 64) : Go.bits .andNot .u64 (A.toNat : Int) (B.toNat : Int) = ((A &&& ~~~B).toNat : Int) := by
  show IntKind.u64.wrap ((BitVec.ofInt 64 (A.toNat : Int) &&& ~~~BitVec.ofInt 64 (B.toNat : Int)).toNat : Int) = _
  rw [ofInt_N, ofInt_N, wrap_N]
/-- The set of one core. -/
def one (c : Int) : BitVec 64 := if 0 ≤ c ∧ c < 64 then BitVec.twoPow 64 c.toNat else 0#64
theorem one_all : ∀ n, n < 64 → bits_one.f (n : Nat) = some ((one (n : Nat)).toNat : Int) := by decide +kernel
theorem one_f (c : Int) : bits_one.f c = some ((one c).toNat : Int) := by
  by_cases h : 0 ≤ c ∧ c < 64
  · obtain ⟨n, rfl⟩ : ∃ n : Nat, c = (n : Int) := ⟨c.toNat, by omega⟩
    exact one_all n (by omega)
  · unfold bits_one.f one
    rw [if_neg h]
    by_cases h0 : c < 0
    · rw [if_pos h0]; rfl
    · rw [if_neg h0, if_pos (by omega)]; rfl
/-- Is a core in the set? -/
def has (S : BitVec 64) (c : Int) : Bool := decide (0 ≤ c ∧ c < 64) && S.getLsbD c.toNat
theorem has_nat (S : BitVec 64) (n : Nat) (h : n < 64) : has S (n : Int) = S.getLsbD n := by
  unfold has
  have : decide (0 ≤ (n : Int) ∧ (n : Int) < 64) = true := by simp; omega
  rw [this]; simp
theorem one_get (c : Int) (j : Nat) : (one c).getLsbD j = (decide (0 ≤ c ∧ c < 64) && decide ((j : Int) = c)) := by
  unfold one
  by_cases h : 0 ≤ c ∧ c < 64
  · rw [if_pos h, BitVec.getLsbD_twoPow]
    have e1 : decide (c.toNat < 64) = true := by simp; omega
    have e2 : decide (0 ≤ c ∧ c < 64) = true := by simp; omega
    rw [e1, e2, Bool.true_and, Bool.true_and]
    by_cases e : (j : Int) = c
    · simp [show c.toNat = j from by omega, e]
    · simp [show ¬ c.toNat = j from by omega, e]
  · rw [if_neg h]
    simp [h]
theorem has_ne (S : BitVec 64) (c : Int) : (((S &&& one c).toNat : Int) != 0) = has S c := by
  by_cases h : 0 ≤ c ∧ c < 64
  · by_cases g : S.getLsbD c.toNat = true
    · have h1 : ¬ (S &&& one c) = 0#64 := by
        intro e
        have := congrArg (fun x : BitVec 64 => x.getLsbD c.toNat) e
        simp only [BitVec.getLsbD_and, one_get, g] at this
        simp [h] at this
        omega
      have h2 : ¬ (S &&& one c).toNat = 0 := fun e => h1 (BitVec.eq_of_toNat_eq (by simpa using e))
      have : has S c = true := by unfold has; simp [h, g]
      rw [this]
      simp only [bne_iff_ne, ne_eq]
      omega
    · have h1 : (S &&& one c) = 0#64 := by
        apply BitVec.eq_of_getLsbD_eq
        intro i hi
        simp only [BitVec.getLsbD_and, one_get]
        by_cases e : (i : Int) = c
        · have : i = c.toNat := by omega
          subst this
          simp [g]
        · simp [e]
      have : has S c = false := by unfold has; simp [g]
      rw [this, h1]; rfl
  · have h1 : (S &&& one c) = 0#64 := by unfold one; rw [if_neg h]; simp
    have : has S c = false := by unfold has; simp [h]
    rw [this, h1]; rfl
theorem has_f (S : BitVec 64) (c : Int) : bits_Set_Has.f (S.toNat : Int) c = some (has S c) := by
  unfold bits_Set_Has.f
  rw [one_f, Option.bind_some, and_N, has_ne]
theorem drop_f (S : BitVec 64) (c : Int) : bits_Set_Drop.f (S.toNat : Int) c = some ((S &&& ~~~one c).toNat : Int) := by
  unfold bits_Set_Drop.f
  rw [one_f, Option.bind_some, andNot_N]
theorem nat_succ (j : Nat) (h : j ≤ 64) : wrap64 ((j : Int) + 1) = ((j + 1 : Nat) : Int) := by rw [wrap_small (by omega) (by omega)]; omega
/-- The cores of a set. -/
def members (S : BitVec 64) (j d : Nat) : List Nat := (List.range' j d).filter fun i => S.getLsbD i
def ints (l : List Nat) : List Int := l.map (fun n : Nat => (n : Int))
theorem members_succ (S : BitVec 64) (j d : Nat) : members S j (d + 1) = if S.getLsbD j = true then j :: members S (j + 1) d else members S (j + 1) d := by
  unfold members
  rw [List.range'_succ, List.filter_cons]
theorem list_l0 (S : BitVec 64) : ∀ (d k : Nat) (acc : List Int) (j : Nat), j + d = 64 → d < k → acc.length ≤ j → bits_Set_List.l0 k (S.toNat : Int) acc (j : Int) = some (acc ++ ints (members S j d)) := by
  intro d
  induction d with
  | zero =>
    intro k acc j hj hk _
    obtain ⟨k, rfl⟩ : ∃ m, k = m + 1 := ⟨k - 1, by omega⟩
    simp only [bits_Set_List.l0]
    rw [if_neg (by omega)]
    simp [members, ints]
  | succ d ih =>
    intro k acc j hj hk hl
    obtain ⟨k, rfl⟩ : ∃ m, k = m + 1 := ⟨k - 1, by omega⟩
    simp only [bits_Set_List.l0]
    rw [if_pos (by omega), has_f, Option.bind_some, has_nat S j (by omega), members_succ, nat_succ j (by omega)]
    by_cases h : S.getLsbD j = true
    · rw [if_pos h, if_pos h, if_pos (by omega), ih k _ (j + 1) (by omega) (by omega) (by simp; omega)]
      simp [ints]
    · rw [if_neg h, if_neg h, ih k _ (j + 1) (by omega) (by omega) (by omega)]
def elems (S : BitVec 64) : List Nat := members S 0 64
theorem list_f (S : BitVec 64) (k : Nat) (hk : 64 < k) : bits_Set_List.f k (S.toNat : Int) = some (ints (elems S)) := by
  unfold bits_Set_List.f
  have := list_l0 S 64 k [] 0 (by omega) hk (by simp)
  simpa [elems] using this
theorem ints_length (l : List Nat) : (ints l).length = l.length := by simp [ints]
theorem count_f (S : BitVec 64) (k : Nat) (hk : 64 < k) : bits_Set_Count.f k (S.toNat : Int) = some ((elems S).length : Int) := by
  unfold bits_Set_Count.f
  rw [list_f S k hk, Option.bind_some, ints_length]
def headOr (l : List Nat) : Int := match l with
  | [] => -1
  | x :: _ => (x : Int)
theorem first_l0 (S : BitVec 64) : ∀ (d k j : Nat), j + d = 64 → d < k → bits_Set_First.l0 k (S.toNat : Int) (j : Int) = some (headOr (members S j d)) := by
  intro d
  induction d with
  | zero =>
    intro k j hj hk
    obtain ⟨k, rfl⟩ : ∃ m, k = m + 1 := ⟨k - 1, by omega⟩
    simp only [bits_Set_First.l0]
    rw [if_neg (by omega)]
    simp [members, headOr]
  | succ d ih =>
    intro k j hj hk
    obtain ⟨k, rfl⟩ : ∃ m, k = m + 1 := ⟨k - 1, by omega⟩
    simp only [bits_Set_First.l0]
    rw [if_pos (by omega), has_f, Option.bind_some, has_nat S j (by omega), members_succ, nat_succ j (by omega)]
    by_cases h : S.getLsbD j = true
    · rw [if_pos h, if_pos h]; rfl
    · rw [if_neg h, if_neg h, ih k (j + 1) (by omega) (by omega)]
theorem first_f (S : BitVec 64) (k : Nat) (hk : 64 < k) : bits_Set_First.f k (S.toNat : Int) = some (headOr (elems S)) := by
  unfold bits_Set_First.f
  exact first_l0 S 64 k 0 (by omega) hk
-- USES BitsCommon
theorem elems_rise (S : BitVec 64) : (elems S).Pairwise (· < ·) := by
  unfold elems members
  exact List.Pairwise.filter _ List.pairwise_lt_range'
theorem members_mem (S : BitVec 64) (d j n : Nat) : n ∈ members S j d ↔ (j ≤ n ∧ n < j + d) ∧ S.getLsbD n = true := by
  unfold members
  rw [List.mem_filter, List.mem_range'_1]
theorem elems_at (S : BitVec 64) (i n : Nat) (h : (elems S)[i]? = some n) : n < 64 ∧ S.getLsbD n = true := by
  have hm : n ∈ elems S := List.mem_of_getElem? h
  have := (members_mem S 64 0 n).1 hm
  exact ⟨by omega, this.2⟩
theorem elems_step (S : BitVec 64) (i a b : Nat) (h1 : (elems S)[i]? = some a) (h2 : (elems S)[i + 1]? = some b) : a < b := by
  obtain ⟨l1, e1⟩ := List.getElem?_eq_some_iff.1 h1
  obtain ⟨l2, e2⟩ := List.getElem?_eq_some_iff.1 h2
  have := List.pairwise_iff_getElem.1 (elems_rise S) i (i + 1) l1 l2 (by omega)
  rw [e1, e2] at this
  exact this
theorem elems_zero (S : BitVec 64) : ((elems S).length = 0) ↔ ((S.toNat : Int) = 0) := by
  constructor
  · intro h
    have h0 := List.length_eq_zero_iff.1 h
    have : S = 0#64 := by
      apply BitVec.eq_of_getLsbD_eq
      intro i hi
      rw [BitVec.getLsbD_zero, Bool.eq_false_iff]
      intro hg
      have : i ∈ elems S := (members_mem S 64 0 i).2 ⟨by omega, hg⟩
      rw [h0] at this
      cases this
    rw [this]; rfl
  · intro h
    have hz : S = 0#64 := BitVec.eq_of_toNat_eq (by simp; omega)
    rw [List.length_eq_zero_iff, List.eq_nil_iff_forall_not_mem]
    intro n hn
    have := ((members_mem S 64 0 n).1 hn).2
    rw [hz] at this
    simp at this
theorem elems_le (S : BitVec 64) : (elems S).length ≤ 64 := by
  unfold elems members
  have := List.length_filter_le (fun i => S.getLsbD i) (List.range' 0 64)
  simpa using this
theorem rd_at (l : List Nat) (i n : Nat) (h : l[i]? = some n) : rd (ints l) (i : Int) = n := by
  simp [rd, ints, h]
theorem runs_k : ∀ k, 99 ≤ k → assentlaw4_BitsRuns.f k = some true := fun k hk => at_rounds assentlaw4_BitsRuns.mono hk (by decide +kernel : assentlaw4_BitsRuns.f 99 = some true)
theorem end_l0 (S : BitVec 64) (k : Nat) (hk : 100 ≤ k) (n : Nat) (hn : n = (elems S).length) : assentlaw4_BitsOrder.l0 (k + 1) (S.toNat : Int) (S.toNat : Int) (ints (elems S)) (n : Int) = some true := by
  have hz := elems_zero S
  simp only [assentlaw4_BitsOrder.l0]
  rw [ints_length, if_neg (by omega)]
  by_cases h : (elems S).length = 0
  · have e1 : (((elems S).length : Int) == 0) = true := by simp [h]
    have e2 : ((S.toNat : Int) == 0) = true := by simpa using hz.1 h
    rw [e1, e2, if_pos (show (true == true) = true from rfl), if_pos (by omega), count_f S k (by omega)]
    simp only [Option.bind_some]
    rw [if_pos trivial, runs_k k (by omega)]; rfl
  · have e1 : (((elems S).length : Int) == 0) = false := by simpa using fun e => h (by rw [e]; rfl)
    have e2 : ((S.toNat : Int) == 0) = false := by simpa using fun e => h (hz.2 (by simpa using e))
    rw [e1, e2, if_pos (show (false == false) = true from rfl), if_neg (by omega), if_pos (by omega), first_f S k (by omega), count_f S k (by omega)]
    simp only [Option.bind_some]
    have e3 : rd (ints (elems S)) 0 = headOr (elems S) := by
      cases g : elems S with
      | nil => rw [g] at h; simp at h
      | cons x l => simp [rd, ints, headOr]
    rw [if_pos e3, if_pos trivial, runs_k k (by omega)]; rfl
theorem loop_l0 (S : BitVec 64) : ∀ (d k i : Nat), i + d = (elems S).length → 100 + d < k → assentlaw4_BitsOrder.l0 k (S.toNat : Int) (S.toNat : Int) (ints (elems S)) (i : Int) = some true := by
  have hle := elems_le S
  intro d
  induction d with
  | zero =>
    intro k i hi hk
    obtain ⟨k, rfl⟩ : ∃ m, k = m + 1 := ⟨k - 1, by omega⟩
    exact end_l0 S k (by omega) i (by omega)
  | succ d ih =>
    intro k i hi hk
    obtain ⟨k, rfl⟩ : ∃ m, k = m + 1 := ⟨k - 1, by omega⟩
    obtain ⟨n, hn⟩ : ∃ n, (elems S)[i]? = some n := ⟨_, List.getElem?_eq_getElem (by omega)⟩
    obtain ⟨h64, hs⟩ := elems_at S i n hn
    have w : wrap64 ((i : Int) + 1) = ((i + 1 : Nat) : Int) := by unfold wrap64; omega
    simp only [assentlaw4_BitsOrder.l0]
    rw [ints_length, if_pos (by omega), if_pos (by omega), rd_at _ i n hn, if_neg (by omega), if_neg (by omega), has_f, has_nat S n h64, hs]
    simp only [Option.bind_some, if_true]
    by_cases h0 : (i : Int) > 0
    · obtain ⟨j, rfl⟩ : ∃ j, i = j + 1 := ⟨i - 1, by omega⟩
      obtain ⟨m, hm⟩ : ∃ m, (elems S)[j]? = some m := ⟨_, List.getElem?_eq_getElem (by omega)⟩
      have hlt := elems_step S j m n hm hn
      have w2 : wrap64 (((j + 1 : Nat) : Int) - 1) = (j : Int) := by unfold wrap64; omega
      rw [if_pos h0, w2, if_pos (by omega), if_pos (by omega), rd_at _ j m hm, if_neg (by omega), w]
      exact ih k (j + 1 + 1) (by omega) (by omega)
    · rw [if_neg h0, w]
      exact ih k (i + 1) (by omega) (by omega)
theorem BitsOrder : assentlaw4_BitsOrder.Pure := by
  intro a ha
  obtain ⟨S, rfl⟩ := u64_set ha
  have hle := elems_le S
  refine ⟨200, ?_⟩
  unfold assentlaw4_BitsOrder.f
  rw [list_f S 200 (by omega), Option.bind_some]
  exact loop_l0 S (elems S).length 200 0 (by omega) (by omega)
end Go.Proofs.Ytakabjeamkffpaa.Pure
