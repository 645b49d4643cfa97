/- An array's calls, whatever the line: what each answers, and what becomes of the sets. -/
import Derived.Test.YtfaihaknibmcpaaGreatDoorGood
import Derived.Test.YtfaihaknibmcpaaGreatDoorArrR
namespace Go.Proofs.YtfaihaknibmcpaaGreatDoor
open Go.RowKit Go.Extern.Stop Go.Stop Go.Extern Go.Proofs.YtfaihaknibmcpaaGreatDoor.PCacheFull Go.Proofs.YtfaihaknibmcpaaGreatDoorW.PrintWords

/-- Is it a line? -/
def isLine (x : Int) : Bool := decide (0 ≤ x) && decide (x ≤ 31)
theorem isLine_iff (x : Int) : isLine x = true ↔ 0 ≤ x ∧ x ≤ 31 := by unfold isLine; simp
theorem isLine_nat {x : Int} (h : isLine x = true) : ∃ l : Nat, x = (l : Nat) ∧ l < 32 := by
  have := (isLine_iff x).1 h
  exact ⟨x.toNat, by omega, by omega⟩
/-- A line's set. -/
def setOf (S : List SetSt) (x : Int) : Option SetSt := if isLine x then S[x.toNat % S.length]? else none
def idxS (S : List SetSt) (x : Int) : Option Nat := (setOf S x).bind fun s => s.es.findIdx? (isAt x)
def getS (S : List SetSt) (x : Int) : Option Ent := (setOf S x).bind fun s => s.es.find? (isAt x)
/-- A line's set turned. -/
def modS (S : List SetSt) (x : Int) (f : SetSt → SetSt) : List SetSt := match setOf S x with
  | some s => S.set (x.toNat % S.length) (f s)
  | none => S
def dropS (S : List SetSt) (x : Int) : List SetSt := match idxS S x with
  | some j => modS S x fun s => { s with es := s.es.set j Ent.none }
  | none => S
def touchS (k : Nat) (S : List SetSt) (x : Int) : List SetSt := match idxS S x with
  | some j => modS S x fun s => { s with bits := touchB k s.bits j }
  | none => S
def roomS (S : List SetSt) (x : Int) : Bool := match setOf S x with
  | some s => roomIn x s.es
  | none => false
def putCode (S : List SetSt) (e : Ent) : Nat := match setOf S e.line with
  | some s => if rightE e then (match placeE e.line s.es with | some _ => 0 | none => 6) else 1
  | none => 1
def putS (S : List SetSt) (e : Ent) : List SetSt := match (setOf S e.line).bind fun s => placeE e.line s.es with
  | some j => if rightE e then modS S e.line fun s => { s with es := s.es.set j e } else S
  | none => S
def victimS (k : Nat) (S : List SetSt) (x : Int) (zs : List Int) : Int := match setOf S x with
  | some s => if roomIn x s.es then -1 else victimOf s.es (victimB k s.bits) zs
  | none => -1
def faultV (op : ByteArray) (x : Int) (a : Addr) : Value := .iface 91 (.agg #[.string op, .int .i64 x, .iface 195 (.pointer (some a))])
def opPut : ByteArray := ⟨#[97, 114, 114, 97, 121, 46, 80, 117, 116]⟩
def putSays (ad : Nat → Addr) (S : List SetSt) (e : Ent) : Value := if putCode S e = 0 then .nilIface else faultV opPut e.line (ad (putCode S e))
theorem setOf_some {S : List SetSt} {x : Int} {s : SetSt} (h : setOf S x = some s) : ∃ l : Nat, x = (l : Nat) ∧ l < 32 ∧ S[l % S.length]? = some s := by
  unfold setOf at h
  split at h
  · next hl =>
    obtain ⟨l, rfl, h32⟩ := isLine_nat hl
    rw [Int.toNat_natCast] at h
    exact ⟨l, rfl, h32, h⟩
  · cases h
theorem setOf_none {B : Nat} {w : World} {a gs k : Nat} {S : List SetSt} (H : ArrAt B w a gs k S) {x : Int} (h : setOf S x = none) : ¬ (0 ≤ x ∧ x ≤ 31) := by
  intro hx
  unfold setOf at h
  rw [if_pos ((isLine_iff x).2 hx)] at h
  have := H.pos
  have h2 := List.getElem?_eq_none_iff.1 h
  have := Nat.mod_lt x.toNat (show 0 < S.length by omega)
  omega
theorem turned_mine {gs : Nat} {gl : List Nat} {w w' : World} (h : Below w.heap.size w w') : Turned (Mine gs gl) w w' := .of_below h
section
variable {w0 w : World} {a gs k : Nat} {gl : List Nat} {S : List SetSt}
theorem tot_get (H : Arr w0 w a gs k gl S) (x : Int) :
    Calls Tryz.prog 38 #[.pointer (some ⟨a, 0, none⟩), .int .i64 x] w fun e w' => e = .returned (.tuple #[((getS S x).getD Ent.none).val, .bool (getS S x).isSome]) ∧ Below w.heap.size w w' := by
  cases hs : setOf S x with
  | none =>
    have := get_miss a x none w fun o => missing_out (H.arr.below ((Below.refl _ _).alloc (Nat.le_refl _) o)) (setOf_none H.arr hs)
    simpa [getS, hs] using this
  | some s =>
    obtain ⟨l, rfl, h32, hg⟩ := setOf_some hs
    cases hj : s.es.findIdx? (isAt (l : Nat)) with
    | none =>
      have := (arr_get_miss H l s h32 hg hj).mono (R' := fun e w' => e = .returned (.tuple #[Ent.none.val, .bool false]) ∧ Below w.heap.size w w') fun e w' h => ⟨h.1, h.2.2⟩
      simpa [getS, hs, (findIdx_none _ _ hj).1] using this
    | some j =>
      obtain ⟨e, g1, _, g3, _⟩ := findIdx_some _ _ _ hj
      have := (arr_get H l s h32 hg j e hj g1).mono (R' := fun x w' => x = .returned (.tuple #[e.val, .bool true]) ∧ Below w.heap.size w w') fun e w' h => ⟨h.1, h.2.2⟩
      simpa [getS, hs, g3] using this
theorem tot_room (H : Arr w0 w a gs k gl S) (x : Int) :
    Calls Tryz.prog 40 #[.pointer (some ⟨a, 0, none⟩), .int .i64 x] w fun e w' => e = .returned (.bool (roomS S x)) ∧ Below w.heap.size w w' := by
  unfold roomS
  cases hs : setOf S x with
  | none => exact room_out a x w (missing_out H.arr (setOf_none H.arr hs))
  | some s =>
    obtain ⟨l, rfl, h32, hg⟩ := setOf_some hs
    exact (arr_room H l s h32 hg).mono fun e w' h => ⟨h.1, h.2.2⟩
theorem tot_drop (H : Arr w0 w a gs k gl S) (x : Int) :
    Calls Tryz.prog 68 #[.pointer (some ⟨a, 0, none⟩), .int .i64 x] w fun e w' => e = .returned (.bool (idxS S x).isSome) ∧ Arr w0 w' a gs k gl (dropS S x) ∧ Turned (Mine gs gl) w w' := by
  cases hs : setOf S x with
  | none =>
    refine (drop_miss a x none w (missing_out H.arr (setOf_none H.arr hs))).mono ?_
    rintro e w' ⟨rfl, hb⟩
    have e1 : idxS S x = none := by simp [idxS, hs]
    unfold dropS
    rw [e1]
    exact ⟨rfl, H.below hb, turned_mine hb⟩
  | some s =>
    obtain ⟨l, rfl, h32, hg⟩ := setOf_some hs
    cases hj : s.es.findIdx? (isAt (l : Nat)) with
    | none =>
      refine (arr_drop_miss H l s h32 hg hj).mono ?_
      rintro e w' ⟨rfl, hA, hb⟩
      have e1 : idxS S (l : Nat) = none := by simp [idxS, hs, hj]
      unfold dropS
      rw [e1]
      exact ⟨rfl, hA, turned_mine hb⟩
    | some j =>
      refine (arr_drop H l s h32 hg j hj).mono ?_
      rintro e w' ⟨rfl, hA, hT⟩
      have e1 : idxS S (l : Nat) = some j := by simp [idxS, hs, hj]
      unfold dropS
      rw [e1]
      refine ⟨rfl, ?_, hT⟩
      simp only [modS, hs, Int.toNat_natCast]
      exact hA
theorem tot_touch (H : Arr w0 w a gs k gl S) (x : Int) :
    Calls Tryz.prog 75 #[.pointer (some ⟨a, 0, none⟩), .int .i64 x] w fun e w' => e = .returned (.bool (idxS S x).isSome) ∧ Arr w0 w' a gs k gl (touchS k S x) ∧ Turned (Mine gs gl) w w' := by
  cases hs : setOf S x with
  | none =>
    refine (touch_miss a x none w (missing_out H.arr (setOf_none H.arr hs))).mono ?_
    rintro e w' ⟨rfl, hb⟩
    have e1 : idxS S x = none := by simp [idxS, hs]
    unfold touchS
    rw [e1]
    exact ⟨rfl, H.below hb, turned_mine hb⟩
  | some s =>
    obtain ⟨l, rfl, h32, hg⟩ := setOf_some hs
    cases hj : s.es.findIdx? (isAt (l : Nat)) with
    | none =>
      refine (arr_touch_miss H l s h32 hg hj).mono ?_
      rintro e w' ⟨rfl, hA, hb⟩
      have e1 : idxS S (l : Nat) = none := by simp [idxS, hs, hj]
      unfold touchS
      rw [e1]
      exact ⟨rfl, hA, turned_mine hb⟩
    | some j =>
      refine (arr_touch H l s h32 hg j hj).mono ?_
      rintro e w' ⟨rfl, hA, hT⟩
      have e1 : idxS S (l : Nat) = some j := by simp [idxS, hs, hj]
      unfold touchS
      rw [e1]
      refine ⟨rfl, ?_, hT⟩
      simp only [modS, hs, Int.toNat_natCast]
      exact hA
theorem tot_put (H : Arr w0 w a gs k gl S) (ad : Nat → Addr) (HSE : Sents w0 ad) (e : Ent) :
    Calls Tryz.prog 69 #[.pointer (some ⟨a, 0, none⟩), e.val] w fun x w' => x = .returned (putSays ad S e) ∧ Arr w0 w' a gs k gl (putS S e) ∧ Turned (Mine gs gl) w w' := by
  have HS := HSE.of_below H.base
  cases hs : setOf S e.line with
  | none =>
    refine (put_out a w ad HS e (-1) fun o => missing_out (H.arr.below ((Below.refl _ _).alloc (Nat.le_refl _) o)) (setOf_none H.arr hs)).mono ?_
    rintro x w' ⟨rfl, hb⟩
    have e1 : putCode S e = 1 := by simp [putCode, hs]
    have e2 : putS S e = S := by simp [putS, hs]
    rw [e2]
    exact ⟨by unfold putSays; rw [e1]; rfl, H.below hb, turned_mine hb⟩
  | some s =>
    obtain ⟨l, hel, h32, hg⟩ := setOf_some hs
    cases hr : rightE e with
    | false =>
      have hf : ∀ o, Calls Tryz.prog 81 #[.pointer (some ⟨a, 0, none⟩), .int .i64 e.line] (w.alloc o) fun r w' => r = .returned (.tuple #[.pointer (some ⟨gs, l % S.length * 2, none⟩), .int .i64 (idxI (s.es.findIdx? (isAt (l : Nat))))]) ∧ Below (w.alloc o).heap.size (w.alloc o) w' := fun o => by
        rw [hel]
        exact find_in _ a gs k S l s _ (H.arr.below ((Below.refl _ _).alloc (Nat.le_refl _) o)) h32 hg
      refine (put_wrong a w ad HS e _ _ hf hr).mono ?_
      rintro x w' ⟨rfl, hb⟩
      have e1 : putCode S e = 1 := by simp [putCode, hs, hr]
      have e2 : putS S e = S := by
        unfold putS
        split
        · rw [hr]; rfl
        · rfl
      rw [e2]
      exact ⟨by unfold putSays; rw [e1]; rfl, H.below hb, turned_mine hb⟩
    | true =>
      cases hj : placeE (l : Nat) s.es with
      | none =>
        refine (arr_put_full H l s ad HSE h32 hg e hel hr hj).mono ?_
        rintro x w' ⟨rfl, hA, hb⟩
        have hj' : placeE e.line s.es = none := by rw [hel]; exact hj
        have e1 : putCode S e = 6 := by simp [putCode, hs, hr, hj']
        have e2 : putS S e = S := by simp [putS, hs, hj']
        rw [e2]
        exact ⟨by unfold putSays; rw [e1]; rfl, hA, turned_mine hb⟩
      | some j =>
        refine (arr_put H l s h32 hg e hel hr j hj).mono ?_
        rintro x w' ⟨rfl, hA, hT⟩
        have hj' : placeE e.line s.es = some j := by rw [hel]; exact hj
        have e1 : putCode S e = 0 := by simp [putCode, hs, hr, hj']
        have e2 : putS S e = S.set (l % S.length) { s with es := s.es.set j e } := by
          have : (e.line).toNat = l := by rw [hel]; simp
          simp [putS, hs, hr, hj', modS, this]
        rw [e2]
        exact ⟨by unfold putSays; rw [e1]; rfl, hA, hT⟩
theorem tot_victim (H : Arr w0 w a gs k gl S) (x : Int) (A : Option Addr) (c : Nat) (zs : List Int) (hr : Kd.C (Kd.int .i64) w A zs.length zs) (hc : zs.length ≤ c) (hz : zs.length < 1000) :
    Calls Tryz.prog 84 #[.pointer (some ⟨a, 0, none⟩), .int .i64 x, .slice A zs.length c] w fun e w' => e = .returned (.int .i64 (victimS k S x zs)) ∧ Below w.heap.size w w' := by
  unfold victimS
  cases hs : setOf S x with
  | none => exact victim_out a x w (missing_out H.arr (setOf_none H.arr hs)) A zs.length c
  | some s =>
    obtain ⟨l, rfl, h32, hg⟩ := setOf_some hs
    cases hroom : roomIn (l : Nat) s.es with
    | true =>
      simp only [hroom, if_true]
      exact (arr_victim_room H l s h32 hg hroom A zs.length c).mono fun e w' h => ⟨h.1, h.2.2⟩
    | false =>
      simp only [hroom, Bool.false_eq_true, if_false]
      exact (arr_victim H l s h32 hg hroom A c zs hr hc hz).mono fun e w' h => ⟨h.1, h.2.2⟩
end
end Go.Proofs.YtfaihaknibmcpaaGreatDoor
