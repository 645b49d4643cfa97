/- A cache's calls as steps of what it has, told by what stands where. -/
import Derived.Test.YtfaihaknibmcpaaGreatDoorKit
import Derived.Test.YtfaihaknibmcpaaGreatDoorSets
namespace Go.Proofs.YtfaihaknibmcpaaGreatDoor
open Go.RowKit Go.Extern.Stop Go.Stop Go.Extern

/-- What always holds of what a cache has. -/
structure OkQ (q : CSt) : Prop where
  ok : OkS q.n q.k q.S
  rt : ∀ x e, getS q.S x = some e → rightE e = true
theorem getS_new (g k n : Nat) (_h : 0 < n) (x : Int) : getS (newSets g k n) x = none := by
  unfold getS
  cases hs : setOf (newSets g k n) x with
  | none => rfl
  | some s =>
    obtain ⟨l, _, _, hg⟩ := setOf_some hs
    have hm := List.mem_of_getElem? hg
    simp only [newSets, List.mem_map] at hm
    obtain ⟨j, _, rfl⟩ := hm
    simp only [Option.bind_some]
    rw [List.find?_eq_none]
    intro e he
    simp only [freeWays, List.mem_replicate] at he
    rw [he.2]
    simp [isAt, Ent.none]
theorem okQ_new (core : Int) (g k n most : Nat) (l : List (Int × Int)) (h : 0 < n) : OkQ ⟨core, n, k, most, newSets g k n, l⟩ :=
  ⟨okS_new g k n h, fun x e he => by rw [getS_new g k n h] at he; cases he⟩
theorem roomS_new (g k n : Nat) (h : 0 < n) (hk : 0 < k) {x : Int} (hx : isLine x = true) : roomS (newSets g k n) x = true := by
  obtain ⟨s, g1, g2, _⟩ := (okS_new g k n h).at hx
  have hm := List.mem_of_getElem? g2
  simp only [newSets, List.mem_map] at hm
  obtain ⟨j, _, rfl⟩ := hm
  unfold roomS roomIn
  rw [g1]
  simp only [Bool.or_eq_true]
  refine .inr ?_
  cases k with
  | zero => omega
  | succ k => simp [freeWays, List.replicate_succ, List.findIdx?_cons, isFree, Ent.none]
theorem within_nat (x : Int) (hi : Int) (h : 0 ≤ hi ∧ hi ≤ 1000) : ∃ p : Nat, (p : Int) ≤ hi ∧ ∀ w, Calls Tryz.prog 10 #[.int .i64 x, .int .i64 0, .int .i64 hi] w fun e w' => e = .returned (.int .i64 (p : Nat)) ∧ w' = w := by
  have h1 := inOf_le (n := x) (lo := 0) (hi := hi) h.1
  refine ⟨(inOf x 0 hi).toNat, by omega, fun w => ?_⟩
  have h2 := within_same x 0 hi w (by omega) (by omega) (by omega)
  rw [show ((inOf x 0 hi).toNat : Int) = inOf x 0 hi by omega]
  exact h2
theorem eqLine_same (a0 a1 a2 a3 : Int) (w : World) : (binOp .eql 32 (.agg #[.int .u32 a0, .int .u32 a1, .int .u32 a2, .int .u32 a3]) (.agg #[.int .u32 a0, .int .u32 a1, .int .u32 a2, .int .u32 a3])).run Tryz.prog w = .ok (.bool true) w := by
  have h := eqLineIn 9998 w a0 a1 a2 a3 a0 a1 a2 a3
  simp only [beq_self_eq_true, Bool.and_true] at h
  rw [run_eql_struct, h]
  rfl
section
variable {q : CSt}
theorem OkQ.withL (h : OkQ q) (l : List (Int × Int)) : OkQ { q with l := l } := ⟨h.ok, h.rt⟩
theorem OkQ.put (h : OkQ q) {e : Ent} (hc : putCode q.S e = 0) : OkQ { q with S := putS q.S e } := by
  refine ⟨h.ok.put e, fun x e' he => ?_⟩
  have he : getS (putS q.S e) x = some e' := he
  rw [getS_put h.ok hc] at he
  split at he
  · cases he
    exact (putCode_parts hc).2.1
  · exact h.rt x e' he
theorem OkQ.drop (h : OkQ q) (x : Int) : OkQ { q with S := dropS q.S x } := by
  refine ⟨h.ok.drop x, fun y e' he => ?_⟩
  have he : getS (dropS q.S x) y = some e' := he
  rw [getS_drop h.ok] at he
  split at he
  · cases he
  · exact h.rt y e' he
theorem OkQ.touch (h : OkQ q) (j : Nat) (x : Int) : OkQ { q with S := touchS j q.S x } := by
  refine ⟨h.ok.touch j x, fun y e' he => ?_⟩
  have he : getS (touchS j q.S x) y = some e' := he
  rw [getS_touch h.ok] at he
  exact h.rt y e' he
/-- An entry is put where its line stands already. -/
theorem there_code (h : OkQ q) {e e0 : Ent} (hr : rightE e = true) (he : getS q.S e.line = some e0) : putCode q.S e = 0 := putCode_room h.ok hr (room_there h.ok he)
theorem used_facts (h : OkQ q) {e e0 : Ent} (hr : rightE e = true) (he : getS q.S e.line = some e0) : OkQ (usedQ q e) ∧ ∀ y, getS (usedQ q e).S y = if y = e.line then some { e with f := false } else getS q.S y := by
  have hr' : rightE { e with f := false } = true := hr
  have hc : putCode q.S { e with f := false } = 0 := there_code h hr' he
  refine ⟨(h.put hc).touch q.k e.line, fun y => ?_⟩
  show getS (touchS q.k (putS q.S { e with f := false }) e.line) y = _
  rw [getS_touch (h.ok.put _), getS_put h.ok hc]
/-- A word is read. -/
theorem read_there (h : OkQ q) {x wd : Int} {e : Ent} (he : getS q.S x = some e) (hh : e.h = false) (h0 : 0 ≤ wd) (h4 : wd < 4) :
    okE (getS q.S x) wd = true ∧ readV q x wd = wordE e wd ∧ readTo q x wd = usedQ q e ∧ OkQ (readTo q x wd) ∧ (∀ y, getS (readTo q x wd).S y = if y = x then some { e with f := false } else getS q.S y) := by
  have ho : okE (getS q.S x) wd = true := by rw [he]; simp [okE, hh, h0, h4]
  have hl := (getS_facts he).1
  have h1 : readTo q x wd = usedQ q e := by unfold readTo; rw [if_pos ho, he]; rfl
  have h2 := used_facts h (h.rt x e he) (e0 := e) (by rw [hl]; exact he)
  refine ⟨ho, by unfold readV; rw [if_pos ho, he]; rfl, h1, by rw [h1]; exact h2.1, ?_⟩
  rw [h1]
  intro y
  rw [h2.2, hl]
theorem read_away {x wd : Int} (ho : okE (getS q.S x) wd = false) : readV q x wd = 0 ∧ readTo q x wd = q := by
  refine ⟨by unfold readV; rw [ho]; rfl, by unfold readTo; rw [ho]; rfl⟩
theorem setWord_line (e : Ent) (wd v : Int) : (setWordE e wd v).line = e.line ∧ (setWordE e wd v).state = e.state ∧ (setWordE e wd v).mode = e.mode ∧ (setWordE e wd v).epoch = e.epoch := by
  unfold setWordE
  repeat' split
  all_goals exact ⟨rfl, rfl, rfl, rfl⟩
theorem setWord_right {e : Ent} (wd v : Int) (h : rightE e = true) : rightE (setWordE e wd v) = true := by
  obtain ⟨_, h2, h3, h4⟩ := setWord_line e wd v
  unfold rightE at h ⊢
  rw [h2, h3, h4]
  exact h
/-- A word is written. -/
theorem write_there (h : OkQ q) {x wd v : Int} {e : Ent} (he : getS q.S x = some e) (hh : e.h = false) (h0 : 0 ≤ wd) (h4 : wd < 4) (hw : writesB e.state = true) :
    writeOk q x wd = true ∧ OkQ (writeTo q x wd v) ∧ (∀ y, getS (writeTo q x wd v).S y = if y = x then some { setWordE { e with state := 4 } wd v with f := false } else getS q.S y) ∧ (writeTo q x wd v) = { q with S := (writeTo q x wd v).S } := by
  have ho : okE (getS q.S x) wd = true := by rw [he]; simp [okE, hh, h0, h4]
  have hok : writeOk q x wd = true := by unfold writeOk; rw [ho, he]; simpa using hw
  have hl := (getS_facts he).1
  have h1 : writeTo q x wd v = usedQ q (setWordE { e with state := 4 } wd v) := by unfold writeTo; rw [if_pos hok, he]; rfl
  have hr : rightE { e with state := 4 } = true := by
    have := h.rt x e he
    simp [rightE] at this ⊢
    omega
  have hl2 : (setWordE { e with state := 4 } wd v).line = x := by rw [(setWord_line _ _ _).1]; exact hl
  have h2 := used_facts h (setWord_right wd v hr) (e0 := e) (by rw [hl2]; exact he)
  refine ⟨hok, by rw [h1]; exact h2.1, ?_, by rw [h1]; rfl⟩
  rw [h1]
  intro y
  rw [h2.2]
  by_cases hy : y = x
  · rw [if_pos (by rw [hl2]; exact hy), if_pos hy]
  · rw [if_neg (by rw [hl2]; exact hy), if_neg hy]
theorem write_no {x wd v : Int} (ho : writeOk q x wd = false) : writeTo q x wd v = q := by unfold writeTo; rw [ho]; rfl
/-- A line comes. -/
theorem answer_data (h : OkQ q) {m : Mg} (hm : rightM m = true) (hk : m.kind = 13) (hc : m.core = q.core) (hh : m.has = true) (hroom : roomS q.S m.line = true) (hr : rightE ⟨m.line, m.state, m.mode, m.epoch, m.d0, m.d1, m.d2, m.d3, false, true⟩ = true) :
    answerOk q m = true ∧ answerSays q m = { Mg.zero with kind := 12, core := q.core, line := m.line } ∧ OkQ (answerTo q m) ∧ (∀ y, getS (answerTo q m).S y = if y = m.line then some ⟨m.line, m.state, m.mode, m.epoch, m.d0, m.d1, m.d2, m.d3, false, true⟩ else getS q.S y) ∧ answerTo q m = { q with S := (answerTo q m).S, l := dropOf m.line q.l } := by
  have h1 : ansMine q m = true := by unfold ansMine mineB; rw [hm, hk, hc]; simp [poolOf]
  have h2 : ansNo q m = false := by unfold ansNo; rw [hh]; simp
  have h3 : ansEnt q m = ⟨m.line, m.state, m.mode, m.epoch, m.d0, m.d1, m.d2, m.d3, false, true⟩ := by unfold ansEnt ansE; rw [hk, hh]; rfl
  have h4 : putCode q.S (ansEnt q m) = 0 := by rw [h3]; exact putCode_room h.ok hr hroom
  have h5 : answerTo q m = { q with S := touchS q.k (putS q.S (ansEnt q m)) m.line, l := dropOf m.line q.l } := by
    unfold answerTo
    rw [if_pos h1, if_neg (by omega), if_neg (by rw [h2]; decide), if_pos h4]
  refine ⟨by unfold answerOk; rw [h1, h2, h4]; simp, by unfold answerSays; rw [h1, h2, h4]; simp [hk], ?_, ?_, by rw [h5]⟩
  · rw [h5]
    exact ((h.put h4).touch q.k m.line).withL _
  · rw [h5]
    intro y
    show getS (touchS q.k (putS q.S (ansEnt q m)) m.line) y = _
    rw [getS_touch (h.ok.put _), getS_put h.ok h4, h3]
/-- A line is asked for. -/
theorem want_ask {x kind wd : Int} (v : Int) (ad : Nat → Addr) (hb : badB x kind wd = false) (hh : has x q.l = false) (hp : (getS q.S x = none ∧ absentB q x = false ∧ roomS q.S x = true) ∨ ((getS q.S x).isSome = true ∧ kind ≠ 1)) (hc : addCode q.most q.l x (wantKind q x kind) = 0) :
    wantTo q x kind wd = { q with l := insOf x (wantKind q x kind) q.l } ∧ wantSays q x kind wd v = askM q.core x (wantKind q x kind) wd v ∧ wantErr ad q x kind wd = .nilIface := by
  have hw : wantWay q x kind wd = 0 := by
    unfold wantWay
    rw [hb, hh]
    rcases hp with ⟨h1, h2, h3⟩ | ⟨h1, h2⟩
    · rw [h1, h2, h3]; rfl
    · rw [h1, if_neg (by decide), if_neg (by decide), if_pos rfl, if_neg h2]
  refine ⟨?_, ?_, ?_⟩
  · unfold wantTo addL; rw [hw, hc]; rfl
  · unfold wantSays; rw [hw, hc]; rfl
  · unfold wantErr; rw [hw, hc]; rfl
theorem want_no {x kind wd : Int} (v : Int) (ad : Nat → Addr) (hw : wantWay q x kind wd = 7) : wantTo q x kind wd = q ∧ wantSays q x kind wd v = Mg.zero ∧ wantErr ad q x kind wd = faultIn x (sentV (ad 7)) :=
  ⟨by unfold wantTo; rw [hw]; rfl, by unfold wantSays; rw [hw]; rfl, by unfold wantErr; rw [hw]; rfl⟩
theorem bad_no {x kind wd : Int} (h1 : 0 ≤ x) (h2 : x < 32) (h3 : 1 ≤ kind) (h4 : kind ≤ 3) (h5 : 0 ≤ wd) (h6 : wd < 4) : badB x kind wd = false := by
  simp [badB]
  omega
theorem want_busy {x kind wd : Int} (hb : badB x kind wd = false) (hh : has x q.l = true) : wantWay q x kind wd = 7 := by
  unfold wantWay
  rw [hb, hh]
  rfl
theorem want_has {x wd : Int} (hb : badB x 1 wd = false) (hh : has x q.l = false) (hg : (getS q.S x).isSome = true) : wantWay q x 1 wd = 7 := by
  unfold wantWay
  rw [hb, hh, hg]
  rfl
theorem want_absent {x kind wd : Int} (hb : badB x kind wd = false) (hh : has x q.l = false) (hg : getS q.S x = none) (ha : absentB q x = true) : wantWay q x kind wd = 7 := by
  unfold wantWay
  rw [hb, hh, hg, ha]
  rfl
theorem add_ok {most : Nat} {l : List (Int × Int)} {x k : Int} (h1 : 0 ≤ x) (h2 : x < 32) (h3 : 1 ≤ k) (h4 : k ≤ 4) (h5 : has x l = false) (h6 : l.length < most) : addCode most l x k = 0 := by
  unfold addCode
  rw [if_neg (by omega), if_neg (by rw [h5]; decide), if_neg (by omega)]
/-- What isn't there is asked for when nothing is under way. -/
theorem want_first {x kind wd : Int} (v : Int) (ad : Nat → Addr) (h1 : 0 ≤ x) (h2 : x < 32) (h3 : 1 ≤ kind) (h4 : kind ≤ 2) (h5 : 0 ≤ wd) (h6 : wd < 4) (hl : q.l = []) (hm : 0 < q.most) (hp : (getS q.S x = none ∧ roomS q.S x = true) ∨ ((getS q.S x).isSome = true ∧ kind ≠ 1)) :
    wantTo q x kind wd = { q with l := [(x, kind)] } ∧ wantSays q x kind wd v = askM q.core x kind wd v ∧ wantErr ad q x kind wd = .nilIface := by
  have hk : wantKind q x kind = kind := by
    unfold wantKind
    rw [if_neg]
    have : decide (kind = 3) = false := by simp; omega
    rw [this]
    simp
  have := want_ask (q := q) v ad (bad_no h1 h2 h3 (by omega) h5 h6) (by rw [hl]; rfl) (hp.elim (fun h => .inl ⟨h.1, by unfold absentB; rw [hl]; rfl, h.2⟩) .inr) (by rw [hk, hl]; exact add_ok h1 h2 h3 (by omega) rfl hm)
  rw [hk, hl] at this
  exact this
/-- A forward. -/
theorem fwd_mine {m : Mg} (hm : rightM m = true) (hp : poolOf m.kind = 1) (hc : m.core = q.core) : fwdMine q m = true := by unfold fwdMine mineB; rw [hm, hp, hc]; simp
theorem forward_fresh {m : Mg} {e : Ent} (he : getS q.S m.line = some e) (hf : e.f = true) : forwardOk q m = false ∧ forwardSays q m = Mg.zero ∧ forwardTo q m = q := by
  have h1 : fwdFresh q m = true := by unfold fwdFresh; rw [he]; exact hf
  refine ⟨by unfold forwardOk; rw [h1]; simp, by unfold forwardSays; rw [h1]; simp, by unfold forwardTo; rw [h1]; simp⟩
theorem forward_other {m : Mg} (hc : m.core ≠ q.core) : forwardOk q m = false ∧ forwardSays q m = Mg.zero ∧ forwardTo q m = q := by
  have h1 : fwdMine q m = false := by unfold fwdMine mineB; simp [hc]
  refine ⟨by unfold forwardOk; rw [h1]; rfl, by unfold forwardSays; rw [h1]; rfl, by unfold forwardTo; rw [h1]; rfl⟩
theorem forward_away (_h : OkQ q) {m : Mg} (hmi : fwdMine q m = true) (he : getS q.S m.line = none) :
    forwardOk q m = true ∧ forwardSays q m = { Mg.zero with kind := 11, core := q.core, line := m.line } ∧ forwardTo q m = { q with l := fwdL q m } := by
  have h1 : fwdFresh q m = false := by unfold fwdFresh; rw [he]
  refine ⟨by unfold forwardOk; rw [h1, hmi]; rfl, ?_, ?_⟩
  · unfold forwardSays fwdOut
    rw [h1, hmi, he]
    rfl
  · unfold forwardTo fwdGo
    rw [h1, hmi, he]
    rfl
theorem forward_there (h : OkQ q) {m : Mg} {e : Ent} (hmi : fwdMine q m = true) (he : getS q.S m.line = some e) (hf : e.f = false) (hr : (fwdE m e).state ≠ 0 → rightE (fwdE m e) = true) :
    forwardOk q m = true ∧ forwardSays q m = fwdM q.core m e ∧ OkQ (forwardTo q m) ∧ (∀ y, getS (forwardTo q m).S y = if y = m.line then (if (fwdE m e).state = 0 then none else some (fwdE m e)) else getS q.S y) ∧ forwardTo q m = { q with S := (forwardTo q m).S, l := fwdL q m } := by
  have h1 : fwdFresh q m = false := by unfold fwdFresh; rw [he]; exact hf
  have hl := (getS_facts he).1
  have hel : (fwdE m e).line = m.line := by
    unfold fwdE
    simp only
    split
    · exact hl
    · split
      · rw [(setWord_line _ _ _).1]; exact hl
      · split <;> exact hl
  have h2 : forwardTo q m = fwdTurn { q with l := fwdL q m } m.line (fwdE m e) := by
    unfold forwardTo fwdGo
    rw [h1, hmi, he]
    rfl
  refine ⟨by unfold forwardOk; rw [h1, hmi]; rfl, ?_, ?_⟩
  · unfold forwardSays fwdOut
    rw [h1, hmi, he]
    rfl
  · rw [h2]
    unfold fwdTurn
    by_cases hz : (fwdE m e).state = 0
    · rw [if_pos hz, if_pos hz]
      refine ⟨(h.drop m.line).withL _, fun y => ?_, rfl⟩
      exact getS_drop h.ok m.line y
    · rw [if_neg hz, if_neg hz]
      have hc : putCode q.S (fwdE m e) = 0 := there_code h (hr hz) (by rw [hel]; exact he)
      refine ⟨(h.put hc).withL _, fun y => ?_, rfl⟩
      show getS (putS q.S (fwdE m e)) y = _
      rw [getS_put h.ok hc, hel]
end
/-! The same of one line. -/
structure Has (q : CSt) (c x : Int) (e : Ent) (l : List (Int × Int)) : Prop where
  ok : OkQ q
  at' : getS q.S x = some e
  core : q.core = c
  l : q.l = l
structure Away (q : CSt) (c x : Int) (l : List (Int × Int)) : Prop where
  ok : OkQ q
  at' : getS q.S x = none
  core : q.core = c
  l : q.l = l
theorem right_fwd {k x c : Int} (hk : 5 ≤ k ∧ k ≤ 10) (hc : 0 ≤ c ∧ c ≤ 63) (hx : 0 ≤ x ∧ x ≤ 31) : rightM ⟨k, c, x, 0, 0, 0, 0, 0, 0, 0, 0, 0, false⟩ = true ∧ poolOf k = 1 := by
  obtain ⟨h1, h2⟩ := hk
  have hk' : k = 5 ∨ k = 6 ∨ k = 7 ∨ k = 8 ∨ k = 9 ∨ k = 10 := by omega
  rcases hk' with rfl | rfl | rfl | rfl | rfl | rfl
  all_goals simp [rightM, headB, poolOf, inB, bareM, bareS, bareE, bareX, bareW, bareK, limitsB, grantedB, Mg.zero, hc, hx, nWord, nMode, nEpoch, nState]
theorem right_clean {x c mo ep : Int} (hc : 0 ≤ c ∧ c ≤ 63) (hx : 0 ≤ x ∧ x ≤ 31) (hm : 0 ≤ mo ∧ mo ≤ 3) (he : 0 ≤ ep ∧ ep ≤ 255) : rightM ⟨9, c, x, 0, mo, ep, 0, 0, 0, 0, 0, 0, false⟩ = true ∧ poolOf 9 = 1 := by
  simp [rightM, headB, poolOf, inB, bareM, bareS, bareE, bareX, bareW, bareK, limitsB, grantedB, Mg.zero, hc, hx, hm, he, nWord, nMode, nEpoch, nState]
theorem right_update {x c wd v : Int} (hc : 0 ≤ c ∧ c ≤ 63) (hx : 0 ≤ x ∧ x ≤ 31) (hw : 0 ≤ wd ∧ wd ≤ 3) : rightM ⟨8, c, x, 0, 0, 0, wd, v, 0, 0, 0, 0, false⟩ = true ∧ rightM ⟨14, c, x, 0, 0, 0, wd, v, 0, 0, 0, 0, false⟩ = true := by
  simp [rightM, headB, poolOf, inB, bareM, bareS, bareE, bareX, bareW, bareK, limitsB, grantedB, Mg.zero, hc, hx, hw, nWord, nMode, nEpoch, nState]
theorem right_data {x c st mo ep d0 d1 d2 d3 : Int} (hc : 0 ≤ c ∧ c ≤ 63) (hx : 0 ≤ x ∧ x ≤ 31) (hs : st = 1 ∨ st = 2 ∨ st = 4) (hm : 0 ≤ mo ∧ mo ≤ 3) (he : 0 ≤ ep ∧ ep ≤ 255) : rightM ⟨13, c, x, st, mo, ep, 0, 0, d0, d1, d2, d3, true⟩ = true := by
  rcases hs with rfl | rfl | rfl
  all_goals simp [rightM, headB, poolOf, inB, bareM, bareS, bareE, bareX, bareW, bareK, limitsB, grantedB, Mg.zero, hc, hx, hm, he, nWord, nMode, nEpoch, nState]
section
variable {q : CSt} {c x : Int} {e : Ent} {l : List (Int × Int)}
theorem Has.facts (h : Has q c x e l) : e.line = x ∧ isLine x = true ∧ rightE e = true := ⟨(getS_facts h.at').1, (getS_facts h.at').2.2, h.ok.rt x e h.at'⟩
theorem has_data (h : OkQ q) (hc : q.core = c) (hl : q.l = l) {st mo ep d0 d1 d2 d3 : Int} (hcc : 0 ≤ c ∧ c ≤ 63) (hx : 0 ≤ x ∧ x ≤ 31) (hs : st = 1 ∨ st = 2 ∨ st = 4) (hm : 0 ≤ mo ∧ mo ≤ 3) (he : 0 ≤ ep ∧ ep ≤ 255) (hroom : roomS q.S x = true) :
    answerOk q ⟨13, c, x, st, mo, ep, 0, 0, d0, d1, d2, d3, true⟩ = true ∧ answerSays q ⟨13, c, x, st, mo, ep, 0, 0, d0, d1, d2, d3, true⟩ = { Mg.zero with kind := 12, core := c, line := x } ∧ Has (answerTo q ⟨13, c, x, st, mo, ep, 0, 0, d0, d1, d2, d3, true⟩) c x ⟨x, st, mo, ep, d0, d1, d2, d3, false, true⟩ (dropOf x l) := by
  have h1 := answer_data (q := q) (m := ⟨13, c, x, st, mo, ep, 0, 0, d0, d1, d2, d3, true⟩) h (right_data hcc hx hs hm he) rfl hc.symm rfl hroom (by simp [rightE]; omega)
  obtain ⟨a1, a2, a3, a4, a5⟩ := h1
  rw [hc] at a2
  refine ⟨a1, a2, a3, by rw [a4]; simp, by rw [a5]; exact hc, by rw [a5]; show dropOf x q.l = _; rw [hl]⟩
theorem has_read (h : Has q c x e l) (hh : e.h = false) {wd : Int} (h0 : 0 ≤ wd) (h4 : wd < 4) :
    okE (getS q.S x) wd = true ∧ readV q x wd = wordE e wd ∧ Has (readTo q x wd) c x { e with f := false } l := by
  obtain ⟨a1, a2, a3, a4, a5⟩ := read_there h.ok h.at' hh h0 h4
  refine ⟨a1, a2, a4, by rw [a5]; simp, ?_, ?_⟩
  · rw [a3]; exact h.core
  · rw [a3]; exact h.l
theorem has_write (h : Has q c x e l) (hh : e.h = false) {wd v : Int} (h0 : 0 ≤ wd) (h4 : wd < 4) (hw : writesB e.state = true) :
    writeOk q x wd = true ∧ Has (writeTo q x wd v) c x { setWordE { e with state := 4 } wd v with f := false } l := by
  obtain ⟨a1, a2, a3, a4⟩ := write_there (v := v) h.ok h.at' hh h0 h4 hw
  refine ⟨a1, a2, by rw [a3]; simp, by rw [a4]; exact h.core, by rw [a4]; exact h.l⟩
theorem has_fresh (h : Has q c x e l) {m : Mg} (hm : m.line = x) (hf : e.f = true) : forwardOk q m = false ∧ forwardSays q m = Mg.zero ∧ forwardTo q m = q := forward_fresh (e := e) (by rw [hm]; exact h.at') hf
theorem has_forward (h : Has q c x e l) {m : Mg} (hm : m.line = x) (hr : rightM m = true) (hp : poolOf m.kind = 1) (hc : m.core = c) (hf : e.f = false) (hz : (fwdE m e).state ≠ 0) (hre : rightE (fwdE m e) = true) :
    forwardOk q m = true ∧ forwardSays q m = fwdM c m e ∧ Has (forwardTo q m) c x (fwdE m e) (fwdL q m) := by
  obtain ⟨a1, a2, a3, a4, a5⟩ := forward_there h.ok (fwd_mine hr hp (by rw [hc, h.core])) (by rw [hm]; exact h.at') hf (fun _ => hre)
  refine ⟨a1, by rw [a2, h.core], a3, by rw [a4, hm, if_neg hz]; simp, by rw [a5]; exact h.core, by rw [a5]⟩
theorem has_gone (h : Has q c x e l) {m : Mg} (hm : m.line = x) (hr : rightM m = true) (hp : poolOf m.kind = 1) (hc : m.core = c) (hf : e.f = false) (hz : (fwdE m e).state = 0) :
    forwardOk q m = true ∧ forwardSays q m = fwdM c m e ∧ Away (forwardTo q m) c x (fwdL q m) := by
  obtain ⟨a1, a2, a3, a4, a5⟩ := forward_there h.ok (fwd_mine hr hp (by rw [hc, h.core])) (by rw [hm]; exact h.at') hf (fun hn => absurd hz hn)
  refine ⟨a1, by rw [a2, h.core], a3, by rw [a4, hm, if_pos hz]; simp, by rw [a5]; exact h.core, by rw [a5]⟩
theorem away_forward (h : Away q c x l) {m : Mg} (hm : m.line = x) (hr : rightM m = true) (hp : poolOf m.kind = 1) (hc : m.core = c) :
    forwardOk q m = true ∧ forwardSays q m = { Mg.zero with kind := 11, core := c, line := x } ∧ forwardTo q m = { q with l := fwdL q m } := by
  obtain ⟨a1, a2, a3⟩ := forward_away h.ok (m := m) (fwd_mine hr hp (by rw [hc, h.core])) (by rw [hm]; exact h.at')
  exact ⟨a1, by rw [a2, h.core, hm], a3⟩
theorem has_says (h : Has q c x e l) {m : Mg} (hm : m.line = x) (hr : rightM m = true) (hp : poolOf m.kind = 1) (hc : m.core = c) (hf : e.f = false) (hre : (fwdE m e).state ≠ 0 → rightE (fwdE m e) = true) :
    forwardOk q m = true ∧ forwardSays q m = fwdM c m e := by
  obtain ⟨a1, a2, _⟩ := forward_there h.ok (fwd_mine hr hp (by rw [hc, h.core])) (by rw [hm]; exact h.at') hf hre
  exact ⟨a1, by rw [a2, h.core]⟩
/-- An answer to an update. -/
theorem has_apply (h : Has q c x e l) (hcc : 0 ≤ c ∧ c ≤ 63) {wd v : Int} (hw : 0 ≤ wd ∧ wd ≤ 3) :
    answerOk q ⟨14, c, x, 0, 0, 0, wd, v, 0, 0, 0, 0, false⟩ = true ∧ answerSays q ⟨14, c, x, 0, 0, 0, wd, v, 0, 0, 0, 0, false⟩ = { Mg.zero with kind := 12, core := c, line := x } ∧ Has (answerTo q ⟨14, c, x, 0, 0, 0, wd, v, 0, 0, 0, 0, false⟩) c x (setWordE { e with h := false } wd v) (dropOf x l) := by
  obtain ⟨f1, f2, f3⟩ := h.facts
  have hm := (right_update (c := c) (x := x) (wd := wd) (v := v) hcc ((isLine_iff x).1 f2) hw).2
  have h1 : ansMine q ⟨14, c, x, 0, 0, 0, wd, v, 0, 0, 0, 0, false⟩ = true := by unfold ansMine mineB; rw [hm, h.core]; simp [poolOf]
  have h2 : ansNo q ⟨14, c, x, 0, 0, 0, wd, v, 0, 0, 0, 0, false⟩ = false := by unfold ansNo; rw [h.at']; simp
  have h3 : ansEnt q ⟨14, c, x, 0, 0, 0, wd, v, 0, 0, 0, 0, false⟩ = setWordE { e with h := false } wd v := by unfold ansEnt ansE; rw [h.at']; rfl
  have hl : (setWordE { e with h := false } wd v).line = x := by rw [(setWord_line _ _ _).1]; exact f1
  have h4 : putCode q.S (setWordE { e with h := false } wd v) = 0 := there_code h.ok (setWord_right wd v f3) (by rw [hl]; exact h.at')
  have h5 : answerTo q ⟨14, c, x, 0, 0, 0, wd, v, 0, 0, 0, 0, false⟩ = { q with S := touchS q.k (putS q.S (setWordE { e with h := false } wd v)) x, l := dropOf x q.l } := by
    unfold answerTo
    rw [if_pos h1, if_neg (by show ¬ (14 : Int) = 15; omega), if_neg (by rw [h2]; decide), h3, if_pos h4]
  refine ⟨by unfold answerOk; rw [h1, h2, h3, h4]; simp, by unfold answerSays; rw [h1, h2, h3, h4, h.core]; simp, ?_⟩
  rw [h5]
  refine ⟨((h.ok.put h4).touch q.k x).withL _, ?_, h.core, by show dropOf x q.l = _; rw [h.l]⟩
  show getS (touchS q.k (putS q.S (setWordE { e with h := false } wd v)) x) x = _
  rw [getS_touch (h.ok.ok.put _), getS_put h.ok.ok h4, if_pos hl.symm]
theorem has_held (h : Has q c x e l) (hh : e.h = true) (wd v : Int) : okE (getS q.S x) wd = false ∧ readV q x wd = 0 ∧ readTo q x wd = q ∧ writeOk q x wd = false ∧ writeTo q x wd v = q := by
  have ho : okE (getS q.S x) wd = false := by rw [h.at']; simp [okE, hh]
  have hw : writeOk q x wd = false := by unfold writeOk; rw [ho]; rfl
  exact ⟨ho, (read_away ho).1, (read_away ho).2, hw, write_no hw⟩
end
end Go.Proofs.YtfaihaknibmcpaaGreatDoor
