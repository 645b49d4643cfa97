/- The lines of a cache: slices.IndexFunc over entries, for the two questions that are asked. The lines of a cache: sets, where a line belongs, where it stands. The lines of a cache: find and free. The lines of a cache: Get and Room. -/
import Derived.Test.YtfaihaknibmcpaaGreatDoorArr
import Derived.Deep.MidRow
import Derived.Laws.ResultCell
namespace Go.Proofs.YtfaihaknibmcpaaGreatDoor
open Go.RowKit Go.Extern.Stop Go.Stop Go.Extern

/-- Where the first entry of a kind stands; -1: nowhere. -/
def whereE (p : Ent → Bool) : List Ent → Nat → Int
  | [], _ => -1
  | m :: l, i => if p m then (i : Int) else whereE p l (i + 1)
theorem whereE_step (p : Ent → Bool) (l : List Ent) (i : Nat) (m : Ent) (h : l[i]? = some m) : whereE p (l.drop i) i = if p m then (i : Int) else whereE p (l.drop (i + 1)) (i + 1) := by
  have hi := (List.getElem?_eq_some_iff.1 h)
  rw [List.drop_eq_getElem_cons hi.1, hi.2]; rfl
theorem whereE_cases (p : Ent → Bool) : ∀ (l : List Ent) (i : Nat), (whereE p l i = -1 ∧ ∀ m ∈ l, p m = false) ∨ ∃ j : Nat, ∃ m, l[j]? = some m ∧ p m = true ∧ whereE p l i = ((i + j : Nat) : Int) ∧ ∀ q m', q < j → l[q]? = some m' → p m' = false := by
  intro l
  induction l with
  | nil => intro i; exact .inl ⟨rfl, by simp⟩
  | cons a l ih =>
    intro i
    by_cases h : p a = true
    · exact .inr ⟨0, a, rfl, h, by simp [whereE, h], by omega⟩
    · have h' : p a = false := by simpa using h
      rcases ih (i + 1) with ⟨h1, h2⟩ | ⟨j, m, hm, h1, h2, h3⟩
      · exact .inl ⟨by simp [whereE, h', h1], by simp [h']; exact h2⟩
      · refine .inr ⟨j + 1, m, by simpa using hm, h1, by simp only [whereE, h']; simp; rw [h2]; omega, fun q m' hq hm' => ?_⟩
        cases q with
        | zero => simp at hm'; rw [← hm']; exact h'
        | succ q => exact h3 q m' (by omega) (by simpa using hm')
set_option maxRecDepth 100000 in
set_option maxHeartbeats 4000000 in
theorem indexFind (g n cap : Nat) (l : List Ent) (line : Int) (b : Nat) (w : World) (hg : w.heap[g]? = some (.cells (entCells l).toArray 65 (0, 0))) (hn : l.length = n) (hl : n ≤ 8) (hb : w.cell? ⟨b, 0, none⟩ = some (.int .i64 line)) :
    Calls Tryz.prog 111 #[.slice (some ⟨g, 0, none⟩) n cap, .func (.func 112) #[] #[.pointer (some ⟨b, 0, none⟩)]] w fun e w' => e = .returned (.int .i64 (whereE (fun e => (e.state != 0) && (e.line == line)) l 0)) ∧ Below w.heap.size w w' := by
  have HG := Lib.hid hg
  have HN := Lib.hid hn
  have hblt := cell_lt hb
  have HBB := Lib.hid hb
  clear hb
  clear hg hn
  go_enter Tryz.func111, Tryz.ntmps111
  go_wp2
  go_loopw [8] (fun v wr => ∃ i : Nat, i ≤ n ∧ v = .int .i64 i ∧ Hid (whereE (fun e => (e.state != 0) && (e.line == line)) l 0 = whereE (fun e => (e.state != 0) && (e.line == line)) (l.drop i) i) ∧ Hid (Below w.heap.size w wr)) (fun v _ => n - (intOf v).toNat)
  case atStart => exact ⟨0, by omega, rfl, rfl, Below.refl _ _⟩
  case round =>
    obtain ⟨i, hi, rfl, hp, hbel⟩ := hrel
    by_cases hlt : i < n
    · obtain ⟨e, hxy⟩ : ∃ m, l[i]? = some m := ⟨_, List.getElem?_eq_getElem (by rw [HN.out]; exact hlt)⟩
      have hst := Lib.hid (whereE_step (fun e => (e.state != 0) && (e.line == line)) l i e hxy)
      have hgr := (hbel.out.block g (lt_of_heap HG.out)).trans HG.out
      obtain ⟨c0, c1, c2, c3, c4, c5, c6, c7, c8, c9⟩ := entCells_at hgr hxy
      have HC : Hid (∀ w : World, w.cell? ⟨b, 0, none⟩ = some (.int .i64 line) → _) := fun w hw => find1 e line b w hw
      clear hxy hgr
      obtain ⟨x, s, m, ep, d0, d1, d2, d3, hh, ff⟩ := e
      simp only [Ent.val] at HC hst c0 c1 c2 c3 c4 c5 c6 c7 c8 c9
      generalize hk : ((s != 0) && (x == line)) = b at *
      clear hk
      cases b with
      | true =>
        go_wp2_with fail
        refine (HC.out _ ((hbel.out.cell hblt).trans HBB.out)).mono ?_
        rintro e w1 ⟨rfl, hb2⟩
        have hb3 : Hid (Below w.heap.size w w1) := hbel.out.trans (hb2.mono hbel.out.size)
        clear hb2 HC
        go_wp2
        go_ret
        exact ⟨by rw [hp.out, hst.out]; rfl, hb3.out⟩
      | false =>
        go_wp2_with fail
        refine (HC.out _ ((hbel.out.cell hblt).trans HBB.out)).mono ?_
        rintro e w1 ⟨rfl, hb2⟩
        have hb3 : Hid (Below w.heap.size w w1) := hbel.out.trans (hb2.mono hbel.out.size)
        clear hb2 HC
        go_wp2
        go_roundw
        case rel => exact ⟨i + 1, by omega, by go_num, (hp.out.trans hst.out).trans rfl, hb3⟩
        case measure => simp [intOf]; omega
    · go_wp2
      go_ret
      refine ⟨?_, hbel.out⟩
      rw [hp.out, List.drop_of_length_le (by rw [HN.out]; omega)]; rfl
set_option maxRecDepth 100000 in
set_option maxHeartbeats 4000000 in
theorem indexFree (g n cap : Nat) (l : List Ent) (w : World) (hg : w.heap[g]? = some (.cells (entCells l).toArray 65 (0, 0))) (hn : l.length = n) (hl : n ≤ 8) :
    Calls Tryz.prog 111 #[.slice (some ⟨g, 0, none⟩) n cap, .func (.func 113) #[] #[]] w fun e w' => e = .returned (.int .i64 (whereE (fun e => e.state == 0) l 0)) ∧ Below w.heap.size w w' := by
  have HG := Lib.hid hg
  have HN := Lib.hid hn
  skip
  clear hg hn
  go_enter Tryz.func111, Tryz.ntmps111
  go_wp2
  go_loopw [8] (fun v wr => ∃ i : Nat, i ≤ n ∧ v = .int .i64 i ∧ Hid (whereE (fun e => e.state == 0) l 0 = whereE (fun e => e.state == 0) (l.drop i) i) ∧ Hid (Below w.heap.size w wr)) (fun v _ => n - (intOf v).toNat)
  case atStart => exact ⟨0, by omega, rfl, rfl, Below.refl _ _⟩
  case round =>
    obtain ⟨i, hi, rfl, hp, hbel⟩ := hrel
    by_cases hlt : i < n
    · obtain ⟨e, hxy⟩ : ∃ m, l[i]? = some m := ⟨_, List.getElem?_eq_getElem (by rw [HN.out]; exact hlt)⟩
      have hst := Lib.hid (whereE_step (fun e => e.state == 0) l i e hxy)
      have hgr := (hbel.out.block g (lt_of_heap HG.out)).trans HG.out
      obtain ⟨c0, c1, c2, c3, c4, c5, c6, c7, c8, c9⟩ := entCells_at hgr hxy
      have HC : Hid (∀ w : World,  _) := fun w => free1 e w
      clear hxy hgr
      obtain ⟨x, s, m, ep, d0, d1, d2, d3, hh, ff⟩ := e
      simp only [Ent.val] at HC hst c0 c1 c2 c3 c4 c5 c6 c7 c8 c9
      generalize hk : (s == 0) = b at *
      clear hk
      cases b with
      | true =>
        go_wp2_with fail
        refine (HC.out _).mono ?_
        rintro e w1 ⟨rfl, hb2⟩
        have hb3 : Hid (Below w.heap.size w w1) := hbel.out.trans (hb2.mono hbel.out.size)
        clear hb2 HC
        go_wp2
        go_ret
        exact ⟨by rw [hp.out, hst.out]; rfl, hb3.out⟩
      | false =>
        go_wp2_with fail
        refine (HC.out _).mono ?_
        rintro e w1 ⟨rfl, hb2⟩
        have hb3 : Hid (Below w.heap.size w w1) := hbel.out.trans (hb2.mono hbel.out.size)
        clear hb2 HC
        go_wp2
        go_roundw
        case rel => exact ⟨i + 1, by omega, by go_num, (hp.out.trans hst.out).trans rfl, hb3⟩
        case measure => simp [intOf]; omega
    · go_wp2
      go_ret
      refine ⟨?_, hbel.out⟩
      rw [hp.out, List.drop_of_length_le (by rw [HN.out]; omega)]; rfl
end Go.Proofs.YtfaihaknibmcpaaGreatDoor
namespace Go.Proofs.YtfaihaknibmcpaaGreatDoor
open Go.RowKit Go.Extern.Stop Go.Stop Go.Extern

/-- May there be so many? -/
def isPow (n : Int) : Bool := decide (n = 1 ∨ n = 2 ∨ n = 4 ∨ n = 8)
theorem pow_and : ∀ n : Nat, 1 ≤ n → n ≤ 8 → (Go.bits .and .i64 (n : Nat) (wrap64 ((n : Nat) - 1)) == 0) = isPow (n : Nat) := by
  have h : ∀ n : Nat, n < 9 → 1 ≤ n → (Go.bits .and .i64 (n : Nat) (wrap64 ((n : Nat) - 1)) == 0) = isPow (n : Nat) := by decide +kernel
  intro n h1 h2
  exact h n (by omega) h1
set_option maxRecDepth 100000 in
theorem power_is (n : Int) (w : World) : Calls Tryz.prog 78 #[.int .i64 n, .int .i64 8] w fun e w' => e = .returned (.bool (isPow n)) ∧ w' = w := by
  by_cases h1 : 1 ≤ n
  · by_cases h2 : n ≤ 8
    · obtain rfl | rfl | rfl | rfl | rfl | rfl | rfl | rfl : n = 1 ∨ n = 2 ∨ n = 3 ∨ n = 4 ∨ n = 5 ∨ n = 6 ∨ n = 7 ∨ n = 8 := by omega
      all_goals
        go_enter Tryz.func78, Tryz.ntmps78
        go_wp2
        go_ret
        exact ⟨by rfl, rfl⟩
    · have e : isPow n = false := by simp [isPow]; omega
      rw [e]
      go_enter Tryz.func78, Tryz.ntmps78
      go_wp2
      go_ret
      exact ⟨rfl, rfl⟩
  · have e : isPow n = false := by simp [isPow]; omega
    rw [e]
    go_enter Tryz.func78, Tryz.ntmps78
    go_wp2
    go_ret
    exact ⟨rfl, rfl⟩
set_option maxRecDepth 100000 in
theorem powerA_is (n : Int) (w : World) : Calls Tryz.prog 79 #[.int .i64 n, .int .i64 8] w fun e w' => e = .returned (.bool (isPow n)) ∧ w' = w := by
  by_cases h1 : 1 ≤ n
  · by_cases h2 : n ≤ 8
    · obtain rfl | rfl | rfl | rfl | rfl | rfl | rfl | rfl : n = 1 ∨ n = 2 ∨ n = 3 ∨ n = 4 ∨ n = 5 ∨ n = 6 ∨ n = 7 ∨ n = 8 := by omega
      all_goals
        go_enter Tryz.func79, Tryz.ntmps79
        go_wp2
        go_ret
        exact ⟨by rfl, rfl⟩
    · have e : isPow n = false := by simp [isPow]; omega
      rw [e]
      go_enter Tryz.func79, Tryz.ntmps79
      go_wp2
      go_ret
      exact ⟨rfl, rfl⟩
  · have e : isPow n = false := by simp [isPow]; omega
    rw [e]
    go_enter Tryz.func79, Tryz.ntmps79
    go_wp2
    go_ret
    exact ⟨rfl, rfl⟩
set_option maxRecDepth 100000 in
theorem geomWithin_is (n : Int) (w : World) : Calls Tryz.prog 77 #[.int .i64 n, .int .i64 0, .int .i64 31] w fun e w' => e = .returned (.bool (decide (0 ≤ n ∧ n ≤ 31))) ∧ w' = w := by
  by_cases h1 : 0 ≤ n
  · by_cases h2 : n ≤ 31
    · rw [decide_eq_true (p := 0 ≤ n ∧ n ≤ 31) ⟨h1, h2⟩]
      go_enter Tryz.func77, Tryz.ntmps77
      go_wp2
      go_ret
      exact ⟨rfl, rfl⟩
    · rw [decide_eq_false (p := 0 ≤ n ∧ n ≤ 31) (by omega)]
      go_enter Tryz.func77, Tryz.ntmps77
      go_wp2
      go_ret
      exact ⟨rfl, rfl⟩
  · rw [decide_eq_false (p := 0 ≤ n ∧ n ≤ 31) (by omega)]
    go_enter Tryz.func77, Tryz.ntmps77
    go_wp2
    go_ret
    exact ⟨rfl, rfl⟩
set_option maxRecDepth 100000 in
set_option maxHeartbeats 1000000 in
/-- The set of a line. -/
theorem geomSet_is (line : Int) (n : Nat) (w : World) (hn : isPow (n : Nat) = true) : Calls Tryz.prog 82 #[.int .i64 line, .int .i64 (n : Nat)] w fun e w' => e = .returned (.int .i64 (if 0 ≤ line ∧ line ≤ 31 then ((line.toNat % n : Nat) : Int) else -1)) ∧ w' = w := by
  have HW : Hid (∀ w, _) := fun w => geomWithin_is line w
  have HP : Hid (∀ w, _) := fun w => power_is (n : Nat) w
  rw [hn] at HP
  have hn1 : ¬ (n : Int) = 0 := by simp [isPow] at hn; omega
  clear hn
  by_cases h : 0 ≤ line ∧ line ≤ 31
  · rw [if_pos h]
    rw [decide_eq_true h] at HW
    obtain ⟨l, rfl⟩ : ∃ l : Nat, line = (l : Int) := ⟨line.toNat, by omega⟩
    have q1 : Int.tmod (l : Int) (n : Int) = ((l % n : Nat) : Int) := by rw [Int.tmod_eq_emod_of_nonneg (by omega)]; simp
    have q2 : wrap64 (((l % n : Nat) : Int)) = ((l % n : Nat) : Int) := by
      have : l % n ≤ l := Nat.mod_le _ _
      unfold wrap64; omega
    rw [Int.toNat_natCast]
    clear h
    generalize ((l % n : Nat) : Int) = r at *
    go_enter Tryz.func82, Tryz.ntmps82
    go_wp2_with fail
    refine (HW.out w).mono ?_
    rintro e w1 ⟨rfl, rfl⟩
    go_wp2_with fail
    refine (HP.out w1).mono ?_
    rintro e w2 ⟨rfl, rfl⟩
    go_wp2
    go_ret
    exact ⟨rfl, rfl⟩
  · rw [if_neg h]
    rw [decide_eq_false h] at HW
    clear h
    go_enter Tryz.func82, Tryz.ntmps82
    go_wp2_with fail
    refine (HW.out w).mono ?_
    rintro e w1 ⟨rfl, rfl⟩
    go_wp2
    go_ret
    exact ⟨rfl, rfl⟩

/-- A set: its tree's bits, the block of its ways, what these hold. -/
structure SetSt where
  bits : Nat
  g : Nat
  es : List Ent
def setCells (k : Nat) (S : List SetSt) : List Value := S.flatMap fun s => [.int .u8 s.bits, .slice (some ⟨s.g, 0, none⟩) k k]
theorem setCells_get (k : Nat) (S : List SetSt) : ∀ (i : Nat) (s : SetSt), S[i]? = some s → (setCells k S)[i * 2]? = some (.int .u8 s.bits) ∧ (setCells k S)[i * 2 + 1]? = some (.slice (some ⟨s.g, 0, none⟩) k k) := by
  induction S with
  | nil => intro i m h; simp at h
  | cons a l ih =>
    intro i m h
    cases i with
    | zero => simp at h; subst h; simp [setCells]
    | succ i =>
      simp at h
      have := ih i m h
      simpa [setCells, Nat.add_mul] using this
theorem setCells_length (k : Nat) (S : List SetSt) : (setCells k S).length = S.length * 2 := by
  induction S with
  | nil => rfl
  | cons a l ih => simp [setCells] at ih ⊢; omega
/-- The array at a, its sets in the block gs, k ways a set; nothing of it lies below B. -/
structure ArrAt (B : Nat) (w : World) (a gs k : Nat) (S : List SetSt) : Prop where
  box : w.heap[a]? = some (.cells #[.slice (some ⟨gs, 0, none⟩) S.length S.length] 131 (0, 0))
  sets : w.heap[gs]? = some (.cells (setCells k S).toArray 133 (0, 0))
  ways : ∀ s ∈ S, w.heap[s.g]? = some (.cells (entCells s.es).toArray 65 (0, 0))
  len : ∀ s ∈ S, s.es.length = k
  ne : a ≠ gs ∧ ∀ s ∈ S, s.g ≠ a ∧ s.g ≠ gs
  apart : (S.map (·.g)).Nodup
  above : B ≤ a ∧ B ≤ gs ∧ ∀ s ∈ S, B ≤ s.g
  many : isPow (S.length : Nat) = true ∧ isPow (k : Nat) = true
theorem ArrAt.below {B : Nat} {w w' : World} {a gs k : Nat} {S : List SetSt} (h : ArrAt B w a gs k S) (hb : Below w.heap.size w w') : ArrAt B w' a gs k S :=
  ⟨(hb.block a (lt_of_heap h.box)).trans h.box, (hb.block gs (lt_of_heap h.sets)).trans h.sets, fun s hs => (hb.block s.g (lt_of_heap (h.ways s hs))).trans (h.ways s hs), h.len, h.ne, h.apart, h.above, h.many⟩
theorem ArrAt.pos {B : Nat} {w : World} {a gs k : Nat} {S : List SetSt} (h : ArrAt B w a gs k S) : 1 ≤ S.length ∧ S.length ≤ 8 ∧ 1 ≤ k ∧ k ≤ 8 := by
  have h1 := h.many.1
  have h2 := h.many.2
  simp [isPow] at h1 h2
  omega
theorem ArrAt.box_cell {B : Nat} {w : World} {a gs k : Nat} {S : List SetSt} (h : ArrAt B w a gs k S) : w.cell? ⟨a, 0, none⟩ = some (.slice (some ⟨gs, 0, none⟩) S.length S.length) := by simp [World.cell?, h.box]
theorem ArrAt.set_cells {B : Nat} {w : World} {a gs k : Nat} {S : List SetSt} (h : ArrAt B w a gs k S) {i : Nat} {s : SetSt} (hs : S[i]? = some s) : w.cell? ⟨gs, i * 2, none⟩ = some (.int .u8 s.bits) ∧ w.cell? ⟨gs, i * 2 + 1, none⟩ = some (.slice (some ⟨s.g, 0, none⟩) k k) := by
  have := setCells_get k S i s hs
  simp [World.cell?, h.sets, this]
set_option maxRecDepth 100000 in
set_option maxHeartbeats 1000000 in
/-- home: a line's set. -/
theorem home_is (B a gs k : Nat) (S : List SetSt) (line : Int) (w : World) (h : ArrAt B w a gs k S) :
    Calls Tryz.prog 110 #[.pointer (some ⟨a, 0, none⟩), .int .i64 line] w fun e w' => e = .returned (.pointer (if 0 ≤ line ∧ line ≤ 31 then some ⟨gs, line.toNat % S.length * 2, none⟩ else none)) ∧ w' = w := by
  have hc := h.box_cell
  have hp := h.pos
  have HS := Lib.hid (geomSet_is line S.length w h.many.1)
  clear h
  generalize hn : S.length = n at *
  clear hn
  by_cases hl : 0 ≤ line ∧ line ≤ 31
  · rw [if_pos hl] at HS
    rw [if_pos hl]
    have q1 : ((line.toNat % n : Nat) : Int) < (n : Int) := by have := Nat.mod_lt line.toNat (show 0 < n by omega); omega
    have q0 : line.toNat % n < n := by omega
    clear hl
    generalize line.toNat % n = r at *
    go_enter Tryz.func110, Tryz.ntmps110
    go_wp2_with fail
    refine HS.out.mono ?_
    rintro e w1 ⟨rfl, rfl⟩
    go_wp2
    go_ret
    exact ⟨rfl, rfl⟩
  · rw [if_neg hl] at HS
    rw [if_neg hl]
    clear hl
    go_enter Tryz.func110, Tryz.ntmps110
    go_wp2_with fail
    refine HS.out.mono ?_
    rintro e w1 ⟨rfl, rfl⟩
    go_wp2
    go_ret
    exact ⟨rfl, rfl⟩
end Go.Proofs.YtfaihaknibmcpaaGreatDoor
namespace Go.Proofs.YtfaihaknibmcpaaGreatDoor
open Go.RowKit Go.Extern.Stop Go.Stop Go.Extern

/-- Is it there, and that line's? -/
def isAt (line : Int) (e : Ent) : Bool := (e.state != 0) && (e.line == line)
def isFree (e : Ent) : Bool := e.state == 0
/-- A place, as a number; -1: there is none. -/
def idxI : Option Nat → Int
  | some j => (j : Nat)
  | Option.none => -1
theorem whereE_idx (p : Ent → Bool) : ∀ (l : List Ent) (i : Nat), whereE p l i = match l.findIdx? p with | some j => ((i + j : Nat) : Int) | Option.none => -1 := by
  intro l
  induction l with
  | nil => intro i; rfl
  | cons a l ih =>
    intro i
    rw [List.findIdx?_cons]
    by_cases h : p a = true
    · simp [whereE, h]
    · have h' : p a = false := by simpa using h
      simp only [whereE, h', Bool.false_eq_true, if_false, ih]
      cases l.findIdx? p with
      | none => rfl
      | some j =>
        show ((i + 1 + j : Nat) : Int) = ((i + (j + 1) : Nat) : Int)
        omega
theorem whereE_zero (p : Ent → Bool) (l : List Ent) : whereE p l 0 = idxI (l.findIdx? p) := by
  rw [whereE_idx]
  cases l.findIdx? p with
  | none => rfl
  | some j => simp [idxI]
theorem idx_some {p : Ent → Bool} {l : List Ent} {j : Nat} (h : l.findIdx? p = some j) : ∃ e, l[j]? = some e ∧ p e = true := by
  obtain ⟨hj, h1, -⟩ := List.findIdx?_eq_some_iff_getElem.1 h
  exact ⟨l[j], List.getElem?_eq_getElem hj, h1⟩
set_option maxRecDepth 100000 in
set_option maxHeartbeats 2000000 in
theorem find_in (B a gs k : Nat) (S : List SetSt) (l : Nat) (s : SetSt) (w : World) (h : ArrAt B w a gs k S) (hl : l < 32) (hs : S[l % S.length]? = some s) :
    Calls Tryz.prog 81 #[.pointer (some ⟨a, 0, none⟩), .int .i64 (l : Nat)] w fun e w' => e = .returned (.tuple #[.pointer (some ⟨gs, l % S.length * 2, none⟩), .int .i64 (idxI (s.es.findIdx? (isAt (l : Nat))))]) ∧ Below w.heap.size w w' := by
  have hbel : Below w.heap.size w (w.alloc (.cells #[.int .i64 (l : Nat)] 3)) := (Below.refl _ _).alloc (Nat.le_refl _) _
  have h1 := h.below hbel
  have hh := home_is B a gs k S (l : Nat) _ h1
  rw [if_pos ⟨by omega, by omega⟩, Int.toNat_natCast] at hh
  have HH := Lib.hid hh
  obtain ⟨-, c2⟩ := h1.set_cells hs
  have hm := List.mem_of_getElem? hs
  have hw := h1.ways s hm
  have hk := h1.len s hm
  have hp := h1.pos
  have HI := Lib.hid (indexFind s.g k k s.es (l : Nat) w.heap.size _ hw hk (by omega) (by simp))
  rw [whereE_zero] at HI
  have HB := Lib.hid hbel
  have HX : Hid ((fun e : Ent => (e.state != 0) && (e.line == ((l : Nat) : Int))) = isAt (l : Nat)) := rfl
  rw [HX.out] at HI
  clear hbel h1 hh hw hk hp h hs hm HX
  generalize idxI (s.es.findIdx? (isAt (l : Nat))) = x at *
  generalize l % S.length = r at *
  go_enter Tryz.func81, Tryz.ntmps81
  go_wp2_with fail
  refine HH.out.mono ?_
  rintro e w1 ⟨rfl, rfl⟩
  go_wp2_with fail
  refine HI.out.mono ?_
  rintro e w2 ⟨rfl, hb2⟩
  have HB2 := Lib.hid (HB.out.trans (hb2.mono HB.out.size))
  clear hb2 HI HH HB
  go_wp2
  go_ret2
  exact ⟨rfl, HB2.out⟩
set_option maxRecDepth 100000 in
set_option maxHeartbeats 2000000 in
theorem find_out (B a gs k : Nat) (S : List SetSt) (line : Int) (w : World) (h : ArrAt B w a gs k S) (hl : ¬ (0 ≤ line ∧ line ≤ 31)) :
    Calls Tryz.prog 81 #[.pointer (some ⟨a, 0, none⟩), .int .i64 line] w fun e w' => e = .returned (.tuple #[.pointer none, .int .i64 (-1)]) ∧ Below w.heap.size w w' := by
  have hbel : Below w.heap.size w (w.alloc (.cells #[.int .i64 line] 3)) := (Below.refl _ _).alloc (Nat.le_refl _) _
  have hh := home_is B a gs k S line _ (h.below hbel)
  rw [if_neg hl] at hh
  have HH := Lib.hid hh
  have HB := Lib.hid hbel
  clear hbel hh h hl
  go_enter Tryz.func81, Tryz.ntmps81
  go_wp2_with fail
  refine HH.out.mono ?_
  rintro e w1 ⟨rfl, rfl⟩
  go_wp2
  go_ret2
  exact ⟨rfl, HB.out⟩
set_option maxRecDepth 100000 in
set_option maxHeartbeats 2000000 in
theorem free_is (B a gs k : Nat) (S : List SetSt) (r : Nat) (s : SetSt) (w : World) (h : ArrAt B w a gs k S) (hs : S[r]? = some s) :
    Calls Tryz.prog 83 #[.pointer (some ⟨gs, r * 2, none⟩)] w fun e w' => e = .returned (.int .i64 (idxI (s.es.findIdx? isFree))) ∧ Below w.heap.size w w' := by
  obtain ⟨-, c2⟩ := h.set_cells hs
  have hm := List.mem_of_getElem? hs
  have HI := Lib.hid (indexFree s.g k k s.es w (h.ways s hm) (h.len s hm) (by have := h.pos; omega))
  rw [whereE_zero] at HI
  have HX : Hid ((fun e : Ent => e.state == 0) = isFree) := rfl
  rw [HX.out] at HI
  clear h hm hs HX
  generalize idxI (s.es.findIdx? isFree) = x at *
  go_enter Tryz.func83, Tryz.ntmps83
  go_wp2_with fail
  refine HI.out.mono ?_
  rintro e w2 ⟨rfl, hb2⟩
  have HB2 := Lib.hid hb2
  clear hb2 HI
  go_wp2
  go_ret
  exact ⟨rfl, HB2.out⟩
end Go.Proofs.YtfaihaknibmcpaaGreatDoor
namespace Go.Proofs.YtfaihaknibmcpaaGreatDoor
open Go.RowKit Go.Extern.Stop Go.Stop Go.Extern

/-- A store of some cells into the middle of a row. -/
theorem run_storeVar_at {P : Program} (w : World) (g o : Nat) (ty t : TypeId) (cur : Array Value) (cells : Array Value) (hg : w.heap[g]? = some (.cells cur t (0, 0))) (hi : (P.info? ty).map (·.size) = some cells.size) (hfit : o + cells.size ≤ cur.size) (h1 : ∀ v ∈ cells.toList, v.oneCell' = true) :
    (storeVar ty ⟨g, o, none⟩ (.agg cells)).run P w = .ok () (w.setRow g (cur.toList.take o ++ cells.toList ++ cur.toList.drop (o + cells.size)).toArray) := by
  have := run_storeCells_at (P := P) g o t cells.toList 0 cur w hg (by simpa using hfit) h1
  cases hq : P.info? ty with
  | none => simp [hq] at hi
  | some i =>
    have hs : cells.size = i.size := by simp [hq] at hi; omega
    simp only [Nat.add_zero, Array.length_toList] at this
    rw [hs] at this
    simp [storeVar, sizeOf, typeInfo, hq, Value.cells, hs, this]
theorem ent_one (e : Ent) : ∀ v ∈ e.cells, v.oneCell' = true := by
  intro v hv
  simp only [Ent.cells, List.mem_cons, List.not_mem_nil, or_false] at hv
  rcases hv with rfl | rfl | rfl | rfl | rfl | rfl | rfl | rfl | rfl | rfl <;> rfl
theorem Tryz.sizeEnt : (Tryz.prog.info? 65).map (·.size) = some 10 := by kernel_rfl
theorem ret_ent {fn : Func} {p u : Tmp} (h : fn.results = #[.cell p 65, .tmp u]) (tmps : Array Value) (w : World) (g : Nat) (cs : Array Value) (hp : tmps.getD p undef = .pointer (some ⟨g, 0, none⟩)) (hg : w.heap[g]? = some (.cells cs 65 (0, 0))) (hs : cs.size = 10) :
    (results fn tmps).run Tryz.prog w = .ok (.tuple #[.agg cs, tmps.getD u undef]) w := by
  rw [results_cell_tmp h, hp]
  have := run_loadVar_row (P := Tryz.prog) w g 65 65 cs (0, 0) _ hg Tryz.underlying65 rfl (by rw [hs]; exact Tryz.sizeEnt)
  simp [asAddr, this, Result.andThen]
theorem ent_facts {B : Nat} {w : World} {a gs k : Nat} {S : List SetSt} (h : ArrAt B w a gs k S) {r : Nat} {s : SetSt} (hs : S[r]? = some s) {p : Ent → Bool} {j : Nat} (hj : s.es.findIdx? p = some j) : j < k ∧ ∃ e, s.es[j]? = some e ∧ p e = true := by
  obtain ⟨e, he, hp⟩ := idx_some hj
  have := h.len s (List.mem_of_getElem? hs)
  have := (List.getElem?_eq_some_iff.1 he).1
  exact ⟨by omega, e, he, hp⟩
set_option maxRecDepth 100000 in
set_option maxHeartbeats 4000000 in
theorem get_in (B a gs k : Nat) (S : List SetSt) (l : Nat) (s : SetSt) (w : World) (h : ArrAt B w a gs k S) (hl : l < 32) (hs : S[l % S.length]? = some s) (j : Nat) (e : Ent) (hj : s.es.findIdx? (isAt (l : Nat)) = some j) (he : s.es[j]? = some e) :
    Calls Tryz.prog 38 #[.pointer (some ⟨a, 0, none⟩), .int .i64 (l : Nat)] w fun x w' => x = .returned (.tuple #[e.val, .bool true]) ∧ Below w.heap.size w w' := by
  have hA : ∀ o, Below w.heap.size w (w.alloc o) := fun o => (Below.refl _ _).alloc (Nat.le_refl _) _
  have HA := Lib.hid hA
  have HF : Hid (∀ o, _) := fun o => find_in B a gs k S l s (w.alloc o) (h.below (hA o)) hl hs
  rw [hj] at HF
  have hjk := (ent_facts h hs hj).1
  have HX : Hid (∀ w', Below w.heap.size w w' → w'.cell? ⟨gs, l % S.length * 2 + 1, none⟩ = some (.slice (some ⟨s.g, 0, none⟩) k k) ∧ w'.heap[s.g]? = some (.cells (entCells s.es).toArray 65 (0, 0))) := fun w' hb => ⟨((h.below hb).set_cells hs).2, (h.below hb).ways s (List.mem_of_getElem? hs)⟩
  have HE := Lib.hid he
  clear hA h hs hj he
  simp only [idxI] at HF
  generalize l % S.length = r at *
  go_enter Tryz.func38, Tryz.ntmps38
  go_wp2_with fail
  refine (HF.out _).mono ?_
  rintro x w1 ⟨rfl, hb⟩
  have HB1 := Lib.hid ((HA.out _).trans (hb.mono (HA.out _).size))
  obtain ⟨c2, hw⟩ := HX.out w1 HB1.out
  obtain ⟨c0, c1, c2', c3, c4, c5, c6, c7, c8, c9⟩ := entCells_at hw HE.out
  have hres : w1.heap[w.heap.size]? = some (.cells #[.int .i64 0, .int .i64 0, .int .i64 0, .int .i64 0, .int .u32 0, .int .u32 0, .int .u32 0, .int .u32 0, .bool false, .bool false] 65 (0, 0)) := by
    rw [hb.block _ (by simp)]
    exact heap_alloc_new _ _
  clear hb HF HX hw HE HA
  have HONE := Lib.hid (all_oneCell_toArray (ent_one e))
  simp only
  go_wp2_with (refine wpList_store_row rfl 65 (.tmp 4) (.tmp 23) rfl w.heap.size e.cells.toArray rfl rfl 65 _ hres Tryz.sizeEnt rfl HONE.out ?_)
  have HB2 : Hid (Below w.heap.size w (w1.setRow w.heap.size e.cells.toArray)) := below_setRow HB1.out (Nat.le_refl _) _
  have hnew := heap_setRow hres e.cells.toArray
  clear hres c0 c1 c2 c2' c3 c4 c5 c6 c7 c8 c9
  generalize w1.setRow w.heap.size e.cells.toArray = w2 at *
  go_wp2
  exact ⟨rfl, _, ret_ent Tryz.results38 _ _ _ _ rfl hnew rfl, rfl, HB2.out⟩
end Go.Proofs.YtfaihaknibmcpaaGreatDoor
