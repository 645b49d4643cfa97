/- The lines of a cache: sets, where a line belongs, where it stands. -/
import Derived.Test.YtjnoaidceddpjaaDoorArrB
namespace Go.Proofs.YtjnoaidceddpjaaDoor
open Go.RowKit Go.Extern.Stop Go.Stop Go.Extern

/-- May there be so many? -/
def isPow (n : Int) : Bool := decide (n = 1 ∨ n = 2 ∨ n = 4 ∨ n = 8)
theorem pow_and : ∀ n : Nat, 1 ≤ n → n ≤ 8 → (Go.bits .and .i64 (n : Nat) (wrap64 ((n : Nat) - 1)) == 0) = isPow (n : Nat) := by
  have h : ∀ n : Nat, n < 9 → 1 ≤ n → (Go.bits .and .i64 (n : Nat) (wrap64 ((n : Nat) - 1)) == 0) = isPow (n : Nat) := by decide +kernel
  intro n h1 h2
  exact h n (by omega) h1
set_option maxRecDepth 100000 in
theorem power_is (n : Int) (w : World) : Calls Tryd.prog 89 #[.int .i64 n, .int .i64 8] w fun e w' => e = .returned (.bool (isPow n)) ∧ w' = w := by
  by_cases h1 : 1 ≤ n
  · by_cases h2 : n ≤ 8
    · obtain rfl | rfl | rfl | rfl | rfl | rfl | rfl | rfl : n = 1 ∨ n = 2 ∨ n = 3 ∨ n = 4 ∨ n = 5 ∨ n = 6 ∨ n = 7 ∨ n = 8 := by omega
      all_goals
        go_enter Tryd.func89, Tryd.ntmps89
        go_wp2
        go_ret
        exact ⟨by rfl, rfl⟩
    · have e : isPow n = false := by simp [isPow]; omega
      rw [e]
      go_enter Tryd.func89, Tryd.ntmps89
      go_wp2
      go_ret
      exact ⟨rfl, rfl⟩
  · have e : isPow n = false := by simp [isPow]; omega
    rw [e]
    go_enter Tryd.func89, Tryd.ntmps89
    go_wp2
    go_ret
    exact ⟨rfl, rfl⟩
set_option maxRecDepth 100000 in
theorem powerA_is (n : Int) (w : World) : Calls Tryd.prog 46 #[.int .i64 n, .int .i64 8] w fun e w' => e = .returned (.bool (isPow n)) ∧ w' = w := by
  by_cases h1 : 1 ≤ n
  · by_cases h2 : n ≤ 8
    · obtain rfl | rfl | rfl | rfl | rfl | rfl | rfl | rfl : n = 1 ∨ n = 2 ∨ n = 3 ∨ n = 4 ∨ n = 5 ∨ n = 6 ∨ n = 7 ∨ n = 8 := by omega
      all_goals
        go_enter Tryd.func46, Tryd.ntmps46
        go_wp2
        go_ret
        exact ⟨by rfl, rfl⟩
    · have e : isPow n = false := by simp [isPow]; omega
      rw [e]
      go_enter Tryd.func46, Tryd.ntmps46
      go_wp2
      go_ret
      exact ⟨rfl, rfl⟩
  · have e : isPow n = false := by simp [isPow]; omega
    rw [e]
    go_enter Tryd.func46, Tryd.ntmps46
    go_wp2
    go_ret
    exact ⟨rfl, rfl⟩
set_option maxRecDepth 100000 in
theorem geomWithin_is (n : Int) (w : World) : Calls Tryd.prog 88 #[.int .i64 n, .int .i64 0, .int .i64 31] w fun e w' => e = .returned (.bool (decide (0 ≤ n ∧ n ≤ 31))) ∧ w' = w := by
  by_cases h1 : 0 ≤ n
  · by_cases h2 : n ≤ 31
    · rw [decide_eq_true (p := 0 ≤ n ∧ n ≤ 31) ⟨h1, h2⟩]
      go_enter Tryd.func88, Tryd.ntmps88
      go_wp2
      go_ret
      exact ⟨rfl, rfl⟩
    · rw [decide_eq_false (p := 0 ≤ n ∧ n ≤ 31) (by omega)]
      go_enter Tryd.func88, Tryd.ntmps88
      go_wp2
      go_ret
      exact ⟨rfl, rfl⟩
  · rw [decide_eq_false (p := 0 ≤ n ∧ n ≤ 31) (by omega)]
    go_enter Tryd.func88, Tryd.ntmps88
    go_wp2
    go_ret
    exact ⟨rfl, rfl⟩
set_option maxRecDepth 100000 in
set_option maxHeartbeats 1000000 in
/-- The set of a line. -/
theorem geomSet_is (line : Int) (n : Nat) (w : World) (hn : isPow (n : Nat) = true) : Calls Tryd.prog 84 #[.int .i64 line, .int .i64 (n : Nat)] w fun e w' => e = .returned (.int .i64 (if 0 ≤ line ∧ line ≤ 31 then ((line.toNat % n : Nat) : Int) else -1)) ∧ w' = w := by
  have HW : Hid (∀ w, _) := fun w => geomWithin_is line w
  have HP : Hid (∀ w, _) := fun w => power_is (n : Nat) w
  rw [hn] at HP
  have hn1 : ¬ (n : Int) = 0 := by simp [isPow] at hn; omega
  clear hn
  by_cases h : 0 ≤ line ∧ line ≤ 31
  · rw [if_pos h]
    rw [decide_eq_true h] at HW
    obtain ⟨l, rfl⟩ : ∃ l : Nat, line = (l : Int) := ⟨line.toNat, by omega⟩
    have q1 : Int.tmod (l : Int) (n : Int) = ((l % n : Nat) : Int) := by rw [Int.tmod_eq_emod_of_nonneg (by omega)]; simp
    have q2 : wrap64 (((l % n : Nat) : Int)) = ((l % n : Nat) : Int) := by
      have : l % n ≤ l := Nat.mod_le _ _
      unfold wrap64; omega
    rw [Int.toNat_natCast]
    clear h
    generalize ((l % n : Nat) : Int) = r at *
    go_enter Tryd.func84, Tryd.ntmps84
    go_wp2_with fail
    refine (HW.out w).mono ?_
    rintro e w1 ⟨rfl, rfl⟩
    go_wp2_with fail
    refine (HP.out w1).mono ?_
    rintro e w2 ⟨rfl, rfl⟩
    go_wp2
    go_ret
    exact ⟨rfl, rfl⟩
  · rw [if_neg h]
    rw [decide_eq_false h] at HW
    clear h
    go_enter Tryd.func84, Tryd.ntmps84
    go_wp2_with fail
    refine (HW.out w).mono ?_
    rintro e w1 ⟨rfl, rfl⟩
    go_wp2
    go_ret
    exact ⟨rfl, rfl⟩

/-- A set: its tree's bits, the block of its ways, what these hold. -/
structure SetSt where
  bits : Nat
  g : Nat
  es : List Ent
def setCells (k : Nat) (S : List SetSt) : List Value := S.flatMap fun s => [.int .u8 s.bits, .slice (some ⟨s.g, 0, none⟩) k k]
theorem setCells_get (k : Nat) (S : List SetSt) : ∀ (i : Nat) (s : SetSt), S[i]? = some s → (setCells k S)[i * 2]? = some (.int .u8 s.bits) ∧ (setCells k S)[i * 2 + 1]? = some (.slice (some ⟨s.g, 0, none⟩) k k) := by
  induction S with
  | nil => intro i m h; simp at h
  | cons a l ih =>
    intro i m h
    cases i with
    | zero => simp at h; subst h; simp [setCells]
    | succ i =>
      simp at h
      have := ih i m h
      simpa [setCells, Nat.add_mul] using this
theorem setCells_length (k : Nat) (S : List SetSt) : (setCells k S).length = S.length * 2 := by
  induction S with
  | nil => rfl
  | cons a l ih => simp [setCells] at ih ⊢; omega
/-- The array at a, its sets in the block gs, k ways a set; nothing of it lies below B. -/
structure ArrAt (B : Nat) (w : World) (a gs k : Nat) (S : List SetSt) : Prop where
  box : w.heap[a]? = some (.cells #[.slice (some ⟨gs, 0, none⟩) S.length S.length] 100 (0, 0))
  sets : w.heap[gs]? = some (.cells (setCells k S).toArray 102 (0, 0))
  ways : ∀ s ∈ S, w.heap[s.g]? = some (.cells (entCells s.es).toArray 32 (0, 0))
  len : ∀ s ∈ S, s.es.length = k
  ne : a ≠ gs ∧ ∀ s ∈ S, s.g ≠ a ∧ s.g ≠ gs
  apart : (S.map (·.g)).Nodup
  above : B ≤ a ∧ B ≤ gs ∧ ∀ s ∈ S, B ≤ s.g
  many : isPow (S.length : Nat) = true ∧ isPow (k : Nat) = true
theorem ArrAt.below {B : Nat} {w w' : World} {a gs k : Nat} {S : List SetSt} (h : ArrAt B w a gs k S) (hb : Below w.heap.size w w') : ArrAt B w' a gs k S :=
  ⟨(hb.block a (lt_of_heap h.box)).trans h.box, (hb.block gs (lt_of_heap h.sets)).trans h.sets, fun s hs => (hb.block s.g (lt_of_heap (h.ways s hs))).trans (h.ways s hs), h.len, h.ne, h.apart, h.above, h.many⟩
theorem ArrAt.pos {B : Nat} {w : World} {a gs k : Nat} {S : List SetSt} (h : ArrAt B w a gs k S) : 1 ≤ S.length ∧ S.length ≤ 8 ∧ 1 ≤ k ∧ k ≤ 8 := by
  have h1 := h.many.1
  have h2 := h.many.2
  simp [isPow] at h1 h2
  omega
theorem ArrAt.box_cell {B : Nat} {w : World} {a gs k : Nat} {S : List SetSt} (h : ArrAt B w a gs k S) : w.cell? ⟨a, 0, none⟩ = some (.slice (some ⟨gs, 0, none⟩) S.length S.length) := by simp [World.cell?, h.box]
theorem ArrAt.set_cells {B : Nat} {w : World} {a gs k : Nat} {S : List SetSt} (h : ArrAt B w a gs k S) {i : Nat} {s : SetSt} (hs : S[i]? = some s) : w.cell? ⟨gs, i * 2, none⟩ = some (.int .u8 s.bits) ∧ w.cell? ⟨gs, i * 2 + 1, none⟩ = some (.slice (some ⟨s.g, 0, none⟩) k k) := by
  have := setCells_get k S i s hs
  simp [World.cell?, h.sets, this]
set_option maxRecDepth 100000 in
set_option maxHeartbeats 1000000 in
/-- home: a line's set. -/
theorem home_is (B a gs k : Nat) (S : List SetSt) (line : Int) (w : World) (h : ArrAt B w a gs k S) :
    Calls Tryd.prog 66 #[.pointer (some ⟨a, 0, none⟩), .int .i64 line] w fun e w' => e = .returned (.pointer (if 0 ≤ line ∧ line ≤ 31 then some ⟨gs, line.toNat % S.length * 2, none⟩ else none)) ∧ w' = w := by
  have hc := h.box_cell
  have hp := h.pos
  have HS := Lib.hid (geomSet_is line S.length w h.many.1)
  clear h
  generalize hn : S.length = n at *
  clear hn
  by_cases hl : 0 ≤ line ∧ line ≤ 31
  · rw [if_pos hl] at HS
    rw [if_pos hl]
    have q1 : ((line.toNat % n : Nat) : Int) < (n : Int) := by have := Nat.mod_lt line.toNat (show 0 < n by omega); omega
    have q0 : line.toNat % n < n := by omega
    clear hl
    generalize line.toNat % n = r at *
    go_enter Tryd.func66, Tryd.ntmps66
    go_wp2_with fail
    refine HS.out.mono ?_
    rintro e w1 ⟨rfl, rfl⟩
    go_wp2
    go_ret
    exact ⟨rfl, rfl⟩
  · rw [if_neg hl] at HS
    rw [if_neg hl]
    clear hl
    go_enter Tryd.func66, Tryd.ntmps66
    go_wp2_with fail
    refine HS.out.mono ?_
    rintro e w1 ⟨rfl, rfl⟩
    go_wp2
    go_ret
    exact ⟨rfl, rfl⟩
end Go.Proofs.YtjnoaidceddpjaaDoor
