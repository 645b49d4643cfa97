/- The lines of a cache: find and free. -/
import Derived.Test.YtjnoaidceddpjaaDoorArrC
namespace Go.Proofs.YtjnoaidceddpjaaDoor
open Go.RowKit Go.Extern.Stop Go.Stop Go.Extern

/-- Is it there, and that line's? -/
def isAt (line : Int) (e : Ent) : Bool := (e.state != 0) && (e.line == line)
def isFree (e : Ent) : Bool := e.state == 0
/-- A place, as a number; -1: there is none. -/
def idxI : Option Nat → Int
  | some j => (j : Nat)
  | Option.none => -1
theorem whereE_idx (p : Ent → Bool) : ∀ (l : List Ent) (i : Nat), whereE p l i = match l.findIdx? p with | some j => ((i + j : Nat) : Int) | Option.none => -1 := by
  intro l
  induction l with
  | nil => intro i; rfl
  | cons a l ih =>
    intro i
    rw [List.findIdx?_cons]
    by_cases h : p a = true
    · simp [whereE, h]
    · have h' : p a = false := by simpa using h
      simp only [whereE, h', Bool.false_eq_true, if_false, ih]
      cases l.findIdx? p with
      | none => rfl
      | some j =>
        show ((i + 1 + j : Nat) : Int) = ((i + (j + 1) : Nat) : Int)
        omega
theorem whereE_zero (p : Ent → Bool) (l : List Ent) : whereE p l 0 = idxI (l.findIdx? p) := by
  rw [whereE_idx]
  cases l.findIdx? p with
  | none => rfl
  | some j => simp [idxI]
theorem idx_some {p : Ent → Bool} {l : List Ent} {j : Nat} (h : l.findIdx? p = some j) : ∃ e, l[j]? = some e ∧ p e = true := by
  obtain ⟨hj, h1, -⟩ := List.findIdx?_eq_some_iff_getElem.1 h
  exact ⟨l[j], List.getElem?_eq_getElem hj, h1⟩
set_option maxRecDepth 100000 in
set_option maxHeartbeats 2000000 in
theorem find_in (B a gs k : Nat) (S : List SetSt) (l : Nat) (s : SetSt) (w : World) (h : ArrAt B w a gs k S) (hl : l < 32) (hs : S[l % S.length]? = some s) :
    Calls Tryd.prog 48 #[.pointer (some ⟨a, 0, none⟩), .int .i64 (l : Nat)] w fun e w' => e = .returned (.tuple #[.pointer (some ⟨gs, l % S.length * 2, none⟩), .int .i64 (idxI (s.es.findIdx? (isAt (l : Nat))))]) ∧ Below w.heap.size w w' := by
  have hbel : Below w.heap.size w (w.alloc (.cells #[.int .i64 (l : Nat)] 3)) := (Below.refl _ _).alloc (Nat.le_refl _) _
  have h1 := h.below hbel
  have hh := home_is B a gs k S (l : Nat) _ h1
  rw [if_pos ⟨by omega, by omega⟩, Int.toNat_natCast] at hh
  have HH := Lib.hid hh
  obtain ⟨-, c2⟩ := h1.set_cells hs
  have hm := List.mem_of_getElem? hs
  have hw := h1.ways s hm
  have hk := h1.len s hm
  have hp := h1.pos
  have HI := Lib.hid (indexFind s.g k k s.es (l : Nat) w.heap.size _ hw hk (by omega) (by simp))
  rw [whereE_zero] at HI
  have HB := Lib.hid hbel
  have HX : Hid ((fun e : Ent => (e.state != 0) && (e.line == ((l : Nat) : Int))) = isAt (l : Nat)) := rfl
  rw [HX.out] at HI
  clear hbel h1 hh hw hk hp h hs hm HX
  generalize idxI (s.es.findIdx? (isAt (l : Nat))) = x at *
  generalize l % S.length = r at *
  go_enter Tryd.func48, Tryd.ntmps48
  go_wp2_with fail
  refine HH.out.mono ?_
  rintro e w1 ⟨rfl, rfl⟩
  go_wp2_with fail
  refine HI.out.mono ?_
  rintro e w2 ⟨rfl, hb2⟩
  have HB2 := Lib.hid (HB.out.trans (hb2.mono HB.out.size))
  clear hb2 HI HH HB
  go_wp2
  go_ret2
  exact ⟨rfl, HB2.out⟩
set_option maxRecDepth 100000 in
set_option maxHeartbeats 2000000 in
theorem find_out (B a gs k : Nat) (S : List SetSt) (line : Int) (w : World) (h : ArrAt B w a gs k S) (hl : ¬ (0 ≤ line ∧ line ≤ 31)) :
    Calls Tryd.prog 48 #[.pointer (some ⟨a, 0, none⟩), .int .i64 line] w fun e w' => e = .returned (.tuple #[.pointer none, .int .i64 (-1)]) ∧ Below w.heap.size w w' := by
  have hbel : Below w.heap.size w (w.alloc (.cells #[.int .i64 line] 3)) := (Below.refl _ _).alloc (Nat.le_refl _) _
  have hh := home_is B a gs k S line _ (h.below hbel)
  rw [if_neg hl] at hh
  have HH := Lib.hid hh
  have HB := Lib.hid hbel
  clear hbel hh h hl
  go_enter Tryd.func48, Tryd.ntmps48
  go_wp2_with fail
  refine HH.out.mono ?_
  rintro e w1 ⟨rfl, rfl⟩
  go_wp2
  go_ret2
  exact ⟨rfl, HB.out⟩
set_option maxRecDepth 100000 in
set_option maxHeartbeats 2000000 in
theorem free_is (B a gs k : Nat) (S : List SetSt) (r : Nat) (s : SetSt) (w : World) (h : ArrAt B w a gs k S) (hs : S[r]? = some s) :
    Calls Tryd.prog 49 #[.pointer (some ⟨gs, r * 2, none⟩)] w fun e w' => e = .returned (.int .i64 (idxI (s.es.findIdx? isFree))) ∧ Below w.heap.size w w' := by
  obtain ⟨-, c2⟩ := h.set_cells hs
  have hm := List.mem_of_getElem? hs
  have HI := Lib.hid (indexFree s.g k k s.es w (h.ways s hm) (h.len s hm) (by have := h.pos; omega))
  rw [whereE_zero] at HI
  have HX : Hid ((fun e : Ent => e.state == 0) = isFree) := rfl
  rw [HX.out] at HI
  clear h hm hs HX
  generalize idxI (s.es.findIdx? isFree) = x at *
  go_enter Tryd.func49, Tryd.ntmps49
  go_wp2_with fail
  refine HI.out.mono ?_
  rintro e w2 ⟨rfl, hb2⟩
  have HB2 := Lib.hid hb2
  clear hb2 HI
  go_wp2
  go_ret
  exact ⟨rfl, HB2.out⟩
end Go.Proofs.YtjnoaidceddpjaaDoor
