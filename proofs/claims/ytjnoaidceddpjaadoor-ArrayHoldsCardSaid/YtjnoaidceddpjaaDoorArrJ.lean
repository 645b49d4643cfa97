/- The lines of a cache: Touch. -/
import Derived.Test.YtjnoaidceddpjaaDoorArrI
import Derived.Test.YtjnoaidceddpjaaDoorPlru
namespace Go.Proofs.YtjnoaidceddpjaaDoor
open Go.RowKit Go.Extern.Stop Go.Stop Go.Extern

theorem setCells_turn (k : Nat) (S : List SetSt) : ∀ (r : Nat) (s : SetSt) (b : Nat), S[r]? = some s → (setCells k S).set (r * 2) (.int .u8 (b : Nat)) = setCells k (S.set r { s with bits := b }) := by
  induction S with
  | nil => intro r s b h; simp at h
  | cons a l ih =>
    intro r s b h
    cases r with
    | zero => simp at h; subst h; simp [setCells]
    | succ r =>
      simp at h
      have := ih r s b h
      simp only [setCells, List.set_cons_succ, List.flatMap_cons, Nat.add_mul, Nat.one_mul, List.cons_append, List.nil_append] at this ⊢
      rw [← this]
/-- A set's bits turned. -/
theorem ArrAt.turn {B : Nat} {w : World} {a gs k : Nat} {S : List SetSt} (h : ArrAt B w a gs k S) {r : Nat} {s : SetSt} (hs : S[r]? = some s) (b : Nat) : ArrAt B (w.setCell ⟨gs, r * 2, none⟩ (.int .u8 (b : Nat))) a gs k (S.set r { s with bits := b }) := by
  have hm := List.mem_of_getElem? hs
  have hT : Turned (fun q => q = gs) w (w.setCell ⟨gs, r * 2, none⟩ (.int .u8 (b : Nat))) := (Turned.refl (fun q => q = gs) w).setCell (p := ⟨gs, r * 2, none⟩) (.inl rfl) _
  have other : ∀ x, x ∈ S.set r { s with bits := b } → ∃ y ∈ S, y.g = x.g ∧ y.es = x.es := by
    intro x hx
    rcases mem_set hx with rfl | ⟨i, hi, hx⟩
    · exact ⟨s, hm, rfl, rfl⟩
    · exact ⟨x, List.mem_of_getElem? hx, rfl, rfl⟩
  refine ⟨?_, ?_, ?_, ?_, ⟨h.ne.1, ?_⟩, ?_, ⟨h.above.1, h.above.2.1, ?_⟩, ?_⟩
  · rw [hT.block a (lt_of_heap h.box) h.ne.1, List.length_set]; exact h.box
  · rw [← setCells_turn k S r s b hs, ← List.setIfInBounds_toArray]; exact heap_setCell h.sets _
  · intro x hx
    obtain ⟨y, hy, e1, e2⟩ := other x hx
    rw [← e1, ← e2, hT.block y.g (lt_of_heap (h.ways y hy)) (h.ne.2 y hy).2]
    exact h.ways y hy
  · intro x hx
    obtain ⟨y, hy, e1, e2⟩ := other x hx
    rw [← e2]; exact h.len y hy
  · intro x hx
    obtain ⟨y, hy, e1, e2⟩ := other x hx
    rw [← e1]; exact h.ne.2 y hy
  · rw [set_g S r s { s with bits := b } hs rfl]; exact h.apart
  · intro x hx
    obtain ⟨y, hy, e1, e2⟩ := other x hx
    rw [← e1]; exact h.above.2.2 y hy
  · rw [List.length_set]; exact h.many
theorem pow_mem {k : Nat} (h : isPow (k : Nat) = true) : k ∈ [1, 2, 4, 8] := by
  simp [isPow] at h
  simp
  omega
set_option maxRecDepth 100000 in
set_option maxHeartbeats 4000000 in
theorem touch_miss (a : Nat) (line : Int) (p : Option Addr) (w : World) (hf : Missing a line p w) :
    Calls Tryd.prog 17 #[.pointer (some ⟨a, 0, none⟩), .int .i64 line] w fun x w' => x = .returned (.bool false) ∧ Below w.heap.size w w' := by
  have HF := Lib.hid hf
  clear hf
  go_enter Tryd.func17, Tryd.ntmps17
  go_wp2_with fail
  refine Calls.mono HF.out ?_
  rintro x w1 ⟨rfl, hb⟩
  have HB1 := Lib.hid hb
  clear hb HF
  go_wp2
  go_ret
  exact ⟨rfl, HB1.out⟩
set_option maxRecDepth 100000 in
set_option maxHeartbeats 8000000 in
theorem touch_in (B a gs k : Nat) (S : List SetSt) (l : Nat) (s : SetSt) (w : World) (h : ArrAt B w a gs k S) (hl : l < 32) (hs : S[l % S.length]? = some s) (hb : s.bits < 256) (j : Nat) (hj : s.es.findIdx? (isAt (l : Nat)) = some j) :
    Calls Tryd.prog 17 #[.pointer (some ⟨a, 0, none⟩), .int .i64 (l : Nat)] w fun x w' => x = .returned (.bool true) ∧ ArrAt B w' a gs k (S.set (l % S.length) { s with bits := touchB k s.bits j }) ∧ Turned (fun q => q = gs) w w' := by
  have HF := Lib.hid (find_in B a gs k S l s w h hl hs)
  rw [hj] at HF
  simp only [idxI] at HF
  have hjk := (ent_facts h hs hj).1
  have HX : Hid (∀ w', Below w.heap.size w w' → ArrAt B w' a gs k S) := fun w' hb => h.below hb
  have HS := Lib.hid hs
  have HP : Hid (∀ w, _) := fun w => plruTouch_is s.bits k j w hb (pow_mem h.many.2) hjk
  clear h hs hj hb
  generalize l % S.length = r at *
  go_enter Tryd.func17, Tryd.ntmps17
  go_wp2_with fail
  refine HF.out.mono ?_
  rintro x w1 ⟨rfl, hb⟩
  have hA := HX.out w1 hb
  obtain ⟨c1, c2⟩ := hA.set_cells HS.out
  have HA := Lib.hid hA
  have HB1 := Lib.hid hb
  have hfz : w1.frozen? ⟨gs, r * 2, none⟩ = false := nofreeze hA.sets
  clear hb HF HX hA
  go_wp2_with fail
  go_region_law (first
    | (go_at_call 50; refine (HP.out _).mono ?_; rintro x w2 ⟨rfl, nd, rfl⟩)
    | (go_simp; go_at_call 50; refine (HP.out _).mono ?_; rintro x w2 ⟨rfl, nd, rfl⟩))
  all_goals
    have hbd : Below w1.heap.size w1 (w1.drewN (1 + nd)) := below_drewN _ _ _
    have HAT := Lib.hid ((HA.out.below hbd).turn HS.out (touchB k s.bits j))
    have HTT : Hid (Turned (fun q => q = gs) w ((w1.drewN (1 + nd)).setCell ⟨gs, r * 2, none⟩ (.int .u8 (touchB k s.bits j : Nat)))) := (Turned.of_below (S := fun q => q = gs) (HB1.out.trans (hbd.mono HB1.out.size))).setCell (p := ⟨gs, r * 2, none⟩) (.inl rfl) _
    clear hbd c1 c2 hfz HA HB1 HP
    go_wp2
    go_ret
    exact ⟨rfl, HAT.out, HTT.out⟩
end Go.Proofs.YtjnoaidceddpjaaDoor
