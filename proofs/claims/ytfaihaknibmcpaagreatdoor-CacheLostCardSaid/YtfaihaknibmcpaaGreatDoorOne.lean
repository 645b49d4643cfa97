/- A cache of one set of one way: what its calls make of it, told outright. -/
import Derived.Test.YtfaihaknibmcpaaGreatDoorSteps
namespace Go.Proofs.YtfaihaknibmcpaaGreatDoor
open Go.RowKit Go.Extern.Stop Go.Stop Go.Extern

def oneQ (g m : Nat) (e : Ent) (l : List (Int × Int)) : CSt := ⟨0, 1, 1, m, [⟨0, g, [e]⟩], l⟩
theorem sole_touchB : touchB 1 0 0 = 0 ∧ victimB 1 0 = 0 := by decide +kernel
section
variable {g m : Nat} {e : Ent} {l : List (Int × Int)} {x : Int}
theorem sole_set (hx : isLine x = true) (s : SetSt) : setOf [s] x = some s := by
  unfold setOf
  rw [if_pos hx]
  simp [Nat.mod_one]
theorem sole_get (hx : isLine x = true) : getS (oneQ g m e l).S x = if isAt x e = true then some e else none := by
  unfold getS oneQ
  rw [sole_set hx]
  simp only [Option.bind_some, List.find?_cons, List.find?_nil]
  cases isAt x e <;> rfl
theorem sole_at (hx : isLine x = true) (hl : e.line = x) (hf : isFree e = false) : getS (oneQ g m e l).S x = some e := by
  rw [sole_get hx, if_pos ((isAt_iff _ _).2 ⟨hf, hl⟩)]
theorem sole_none (hx : isLine x = true) (hn : isAt x e = false) : getS (oneQ g m e l).S x = none := by
  rw [sole_get hx, hn]
  rfl
theorem free_at : isAt x Ent.none = false := rfl
theorem sole_put (hx : isLine x = true) {e' : Ent} (hl : e'.line = x) (hr : rightE e' = true) (ho : isAt x e = true ∨ isFree e = true) : putCode [⟨0, g, [e]⟩] e' = 0 ∧ putS [⟨0, g, [e]⟩] e' = [⟨0, g, [e']⟩] := by
  have hp : placeE x [e] = some 0 := by
    unfold placeE
    simp only [List.findIdx?_cons, List.findIdx?_nil]
    rcases ho with h | h
    · rw [h]; rfl
    · cases h2 : isAt x e with
      | true => rfl
      | false => simp [h]
  subst hl
  constructor
  · unfold putCode
    rw [sole_set hx, hr]
    simp [hp]
  · unfold putS modS
    rw [sole_set hx]
    simp [hp, hr, Nat.mod_one]
theorem sole_touch (hx : isLine x = true) (ha : isAt x e = true) : touchS 1 [⟨0, g, [e]⟩] x = [⟨0, g, [e]⟩] := by
  unfold touchS idxS modS
  rw [sole_set hx]
  simp [List.findIdx?_cons, ha, Nat.mod_one, sole_touchB]
theorem sole_drop (hx : isLine x = true) (ha : isAt x e = true) : dropS [⟨0, g, [e]⟩] x = [⟨0, g, [Ent.none]⟩] := by
  unfold dropS idxS modS
  rw [sole_set hx]
  simp [List.findIdx?_cons, ha, Nat.mod_one]
theorem sole_room (hx : isLine x = true) (hf : isFree e = false) (hn : isAt x e = false) : roomS [⟨0, g, [e]⟩] x = false := by
  unfold roomS roomIn
  rw [sole_set hx]
  simp [List.findIdx?_cons, hf, hn]
theorem sole_room_free (hx : isLine x = true) : roomS [⟨0, g, [Ent.none]⟩] x = true := by
  unfold roomS roomIn
  rw [sole_set hx]
  rfl
theorem sole_new : newSets g 1 1 = [⟨0, g, [Ent.none]⟩] := rfl
theorem sole_victim (hx : isLine x = true) (hf : isFree e = false) (hn : isAt x e = false) : victimS 1 [⟨0, g, [e]⟩] x [] = e.line := by
  unfold victimS
  rw [sole_set hx]
  have := sole_room (g := g) hx hf hn
  unfold roomS at this
  rw [sole_set hx] at this
  simp only at this ⊢
  rw [this]
  simp [victimOf, sole_touchB]
/-- A line comes. -/
theorem sole_data (hx : isLine x = true) {st mo ep d0 d1 d2 d3 : Int} (hs : st = 1 ∨ st = 2 ∨ st = 4) (hm : 0 ≤ mo ∧ mo ≤ 3) (he : 0 ≤ ep ∧ ep ≤ 255) (ho : isAt x e = true ∨ isFree e = true) :
    answerOk (oneQ g m e l) ⟨13, 0, x, st, mo, ep, 0, 0, d0, d1, d2, d3, true⟩ = true ∧ answerSays (oneQ g m e l) ⟨13, 0, x, st, mo, ep, 0, 0, d0, d1, d2, d3, true⟩ = { Mg.zero with kind := 12, line := x } ∧ answerTo (oneQ g m e l) ⟨13, 0, x, st, mo, ep, 0, 0, d0, d1, d2, d3, true⟩ = oneQ g m ⟨x, st, mo, ep, d0, d1, d2, d3, false, true⟩ (dropOf x l) := by
  have hm2 := right_data (c := 0) (x := x) (d0 := d0) (d1 := d1) (d2 := d2) (d3 := d3) (by omega) ((isLine_iff x).1 hx) hs hm he
  have hr : rightE ⟨x, st, mo, ep, d0, d1, d2, d3, false, true⟩ = true := by simp [rightE]; omega
  have h1 : ansMine (oneQ g m e l) ⟨13, 0, x, st, mo, ep, 0, 0, d0, d1, d2, d3, true⟩ = true := by unfold ansMine mineB; rw [hm2]; rfl
  have h2 : ansNo (oneQ g m e l) ⟨13, 0, x, st, mo, ep, 0, 0, d0, d1, d2, d3, true⟩ = false := by unfold ansNo; simp
  have h3 : ansEnt (oneQ g m e l) ⟨13, 0, x, st, mo, ep, 0, 0, d0, d1, d2, d3, true⟩ = ⟨x, st, mo, ep, d0, d1, d2, d3, false, true⟩ := rfl
  obtain ⟨p1, p2⟩ := sole_put (g := g) (e := e) hx (e' := ⟨x, st, mo, ep, d0, d1, d2, d3, false, true⟩) rfl hr ho
  have ha : isAt x ⟨x, st, mo, ep, d0, d1, d2, d3, false, true⟩ = true := (isAt_iff _ _).2 ⟨right_free hr, rfl⟩
  have p1' : putCode (oneQ g m e l).S ⟨x, st, mo, ep, d0, d1, d2, d3, false, true⟩ = 0 := p1
  refine ⟨by unfold answerOk; rw [h1, h2, h3, p1']; rfl, by unfold answerSays; rw [h1, h2, h3, p1']; rfl, ?_⟩
  unfold answerTo
  rw [if_pos h1, if_neg (by show ¬ (13 : Int) = 15; omega), if_neg (by rw [h2]; decide), h3, if_pos p1']
  show CSt.mk 0 1 1 m (touchS 1 (putS [⟨0, g, [e]⟩] _) x) (dropOf x l) = _
  rw [p2, sole_touch hx ha]
  rfl
theorem sole_used (hx : isLine x = true) (hl : e.line = x) {e' : Ent} (hl' : e'.line = x) (hf : isFree e = false) (hr : rightE e' = true) : usedQ (oneQ g m e l) e' = oneQ g m { e' with f := false } l := by
  subst hl'
  have ha : isAt e'.line e = true := (isAt_iff _ _).2 ⟨hf, hl⟩
  obtain ⟨_, p2⟩ := sole_put (g := g) (e := e) hx (e' := { e' with f := false }) rfl hr (.inl ha)
  have ha2 : isAt e'.line { e' with f := false } = true := (isAt_iff _ _).2 ⟨right_free (e := { e' with f := false }) hr, rfl⟩
  unfold usedQ
  show CSt.mk 0 1 1 m (touchS 1 (putS [⟨0, g, [e]⟩] { e' with f := false }) e'.line) l = _
  rw [p2, sole_touch hx ha2]
  rfl
/-- A word is read. -/
theorem sole_read (hx : isLine x = true) (hl : e.line = x) (hr : rightE e = true) (hh : e.h = false) {wd : Int} (h0 : 0 ≤ wd) (h4 : wd < 4) :
    okE (getS (oneQ g m e l).S x) wd = true ∧ readV (oneQ g m e l) x wd = wordE e wd ∧ readTo (oneQ g m e l) x wd = oneQ g m { e with f := false } l := by
  have hf := right_free hr
  have hg := sole_at (g := g) (m := m) (l := l) hx hl hf
  have ho : okE (getS (oneQ g m e l).S x) wd = true := by rw [hg]; simp [okE, hh, h0, h4]
  refine ⟨ho, by unfold readV; rw [if_pos ho, hg]; rfl, ?_⟩
  unfold readTo
  rw [if_pos ho, hg]
  exact sole_used hx hl hl hf hr
/-- A line that is there and was used is forwarded. -/
theorem sole_forward (hx : isLine x = true) (hl : e.line = x) (hr : rightE e = true) (hf : e.f = false) {M : Mg} (hM : M.line = x) (hm : rightM M = true) (hp : poolOf M.kind = 1) (hc : M.core = 0) (hre : (fwdE M e).state ≠ 0 → rightE (fwdE M e) = true) (hel : (fwdE M e).line = x) :
    forwardOk (oneQ g m e l) M = true ∧ forwardSays (oneQ g m e l) M = fwdM 0 M e ∧ forwardTo (oneQ g m e l) M = oneQ g m (if (fwdE M e).state = 0 then Ent.none else fwdE M e) (fwdL (oneQ g m e l) M) := by
  have hfr := right_free hr
  have hg : getS (oneQ g m e l).S M.line = some e := by rw [hM]; exact sole_at hx hl hfr
  have h1 : fwdMine (oneQ g m e l) M = true := fwd_mine hm hp hc
  have h2 : fwdFresh (oneQ g m e l) M = false := by unfold fwdFresh; rw [hg]; exact hf
  have ha : isAt x e = true := (isAt_iff _ _).2 ⟨hfr, hl⟩
  refine ⟨by unfold forwardOk; rw [h1, h2]; rfl, by unfold forwardSays fwdOut; rw [h1, h2, hg]; rfl, ?_⟩
  unfold forwardTo fwdGo
  rw [if_pos h1, h2, if_neg (by decide), hg]
  simp only
  unfold fwdTurn
  by_cases hz : (fwdE M e).state = 0
  · rw [if_pos hz, if_pos hz, hM]
    show CSt.mk 0 1 1 m (dropS [⟨0, g, [e]⟩] x) _ = _
    rw [sole_drop hx ha]
    rfl
  · rw [if_neg hz, if_neg hz]
    show CSt.mk 0 1 1 m (putS [⟨0, g, [e]⟩] (fwdE M e)) _ = _
    rw [(sole_put (g := g) (e := e) hx hel (hre hz) (.inl ha)).2]
    rfl
/-- Nothing is under way: the line that is there is asked to go for another one. -/
theorem sole_evict (hx : isLine x = true) (hl : isLine e.line = true) (hf : isFree e = false) (hne : e.line ≠ x) (hm : 0 < m) (v : Int) (ad : Nat → Addr) {kind wd : Int} (hk1 : 1 ≤ kind) (hk3 : kind ≤ 3) (h0 : 0 ≤ wd) (h4 : wd < 4) :
    wantTo (oneQ g m e []) x kind wd = oneQ g m e [(e.line, 4)] ∧ wantSays (oneQ g m e []) x kind wd v = { Mg.zero with kind := 4, line := e.line } ∧ wantErr ad (oneQ g m e []) x kind wd = .nilIface := by
  have hxi := (isLine_iff x).1 hx
  have hli := (isLine_iff e.line).1 hl
  have hn : isAt x e = false := by
    cases h : isAt x e with
    | false => rfl
    | true => exact absurd ((isAt_iff _ _).1 h).2 hne
  have hg : getS (oneQ g m e []).S x = none := sole_none hx hn
  have hv : victimQ (oneQ g m e []) x = e.line := sole_victim hx hf hn
  have hw : wantWay (oneQ g m e []) x kind wd = 2 := by
    unfold wantWay
    rw [bad_no hxi.1 (by omega) hk1 hk3 h0 h4, hg]
    rw [show roomS (oneQ g m e []).S x = false from sole_room hx hf hn]
    rfl
  have hc : evictCode (oneQ g m e []) x = 0 := by
    unfold evictCode
    rw [hv]
    exact add_ok hli.1 (by omega) (by omega) (by omega) rfl hm
  have hc' : addCode (oneQ g m e []).most (oneQ g m e []).l e.line 4 = 0 := by
    have := hc
    unfold evictCode at this
    rw [hv] at this
    exact this
  have hneg : ¬ e.line < 0 := by omega
  refine ⟨?_, ?_, ?_⟩
  · unfold wantTo evictTo addL
    rw [hw, hv, if_neg (by decide), if_pos rfl, if_neg hneg, if_pos hc']
    rfl
  · unfold wantSays evictSays
    rw [hw, hv, if_neg (by decide), if_pos rfl, if_neg hneg, if_pos hc]
    rfl
  · unfold wantErr evictErr
    rw [hw, hv, if_neg (by decide), if_pos rfl, if_neg hneg, if_pos hc]
theorem sole_want (hx : isLine x = true) {kind : Int} (v : Int) (ad : Nat → Addr) (hk1 : 1 ≤ kind) (hk2 : kind ≤ 2) (hm : 0 < m) (ho : isFree e = true ∨ (e.line = x ∧ isFree e = false ∧ kind ≠ 1)) (h1 : isFree e = true → e = Ent.none) :
    wantTo (oneQ g m e []) x kind 0 = oneQ g m e [(x, kind)] ∧ wantSays (oneQ g m e []) x kind 0 v = askM 0 x kind 0 v ∧ wantErr ad (oneQ g m e []) x kind 0 = .nilIface := by
  have hxi := (isLine_iff x).1 hx
  refine want_first (q := oneQ g m e []) v ad hxi.1 (by omega) hk1 hk2 (by omega) (by omega) rfl hm ?_
  rcases ho with h | ⟨h2, h3, h4⟩
  · rw [h1 h]
    exact .inl ⟨sole_none hx rfl, sole_room_free hx⟩
  · exact .inr ⟨by rw [sole_at hx h2 h3]; rfl, h4⟩
end
end Go.Proofs.YtfaihaknibmcpaaGreatDoor
