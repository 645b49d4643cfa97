/- The law ArrayHolds, walked. -/
import Derived.Test.YtjnoaidceddpjaaDoorArrU
import Derived.Test.YtjnoaidceddpjaaDoorAsks
import Derived.IntWalk
namespace Go.Proofs.YtjnoaidceddpjaaDoor
open Go.RowKit Go.Extern.Stop Go.Stop Go.Extern Go.Proofs.YtjnoaidceddpjaaDoor.PArrayPlays Go.Proofs.YtjnoaidceddpjaaDoorW.PrintWords

/-- A call's cell behind its first one, as a walk spells its place. -/
theorem AskAt.cell {w : World} {x : Addr} {i : Nat} {q : Ask6} (h : AskAt w x i q) (j : Nat) (v : Value) (hj : j ≠ 0) (hv : q.cells[j]? = some v) : w.cell? { block := (x.add (i * 13)).block, off := (x.add (i * 13)).off + j } = some v := by
  have h1 := h.1 j v hv
  rw [← Go.Deep.add_add] at h1
  have e : (x.add (i * 13)).add j = { block := (x.add (i * 13)).block, off := (x.add (i * 13)).off + j } := by
    generalize x.add (i * 13) = y
    unfold Addr.add
    rw [if_neg hj]
  rw [e] at h1
  exact h1
theorem pow8_some (p : Nat) (h : (p : Int) ≤ 3) : ∃ n : Nat, n ∈ [1, 2, 4, 8] ∧ 2 ^ p = n := by
  have : p = 0 ∨ p = 1 ∨ p = 2 ∨ p = 3 := by omega
  rcases this with rfl | rfl | rfl | rfl
  · exact ⟨1, by simp, rfl⟩
  · exact ⟨2, by simp, rfl⟩
  · exact ⟨4, by simp, rfl⟩
  · exact ⟨8, by simp, rfl⟩
theorem isPow_mem {n : Nat} (h : n ∈ [1, 2, 4, 8]) : isPow (n : Nat) = true := by
  simp at h
  rcases h with rfl | rfl | rfl | rfl <;> rfl
/-- Where there is no room all ways are taken, and none by the line. -/
theorem no_room {l : Int} {es : List Ent} (h : roomIn l es = false) : (∀ e ∈ es, isFree e = false) ∧ (∀ e ∈ es, isAt l e = false) := by
  unfold roomIn at h
  cases h1 : es.findIdx? (isAt l) with
  | some j => simp [h1] at h
  | none =>
    cases h2 : es.findIdx? isFree with
    | some j => simp [h2] at h
    | none => exact ⟨(findIdx_none _ _ h2).2, (findIdx_none _ _ h1).2⟩
theorem room_place {l : Int} {es : List Ent} (h : roomIn l es = true) : ∃ j, placeE l es = some j := by
  unfold roomIn at h
  unfold placeE
  cases h1 : es.findIdx? (isAt l) with
  | some j => exact ⟨j, rfl⟩
  | none =>
    cases h2 : es.findIdx? isFree with
    | some j => exact ⟨j, rfl⟩
    | none => simp [h1, h2] at h
theorem free_room {l : Int} {es : List Ent} (h : ∃ e ∈ es, isFree e = true) : roomIn l es = true := by
  obtain ⟨e, he, hf⟩ := h
  obtain ⟨j, hj⟩ := findIdx_of_mem _ es e he hf
  unfold roomIn
  rw [hj]
  simp
/-- The victim of a full set: a line of that set; where it goes, and what is asked of it. -/
theorem victim_facts {n r k v : Nat} {es : List Ent} (h : GoodE n r es) (hl : es.length = k) (hv : v < k) {l : Int} (hr : roomIn l es = false) : ∃ (x j : Nat) (e : Ent), victimOf es v [] = (x : Nat) ∧ x < 32 ∧ x % n = r ∧ es.findIdx? (isAt (x : Nat)) = some j ∧ es[j]? = some e ∧ e.line = (x : Nat) ∧ roomIn l (es.set j Ent.none) = true ∧ victimOf es v [((x : Nat) : Int)] ≠ (x : Nat) := by
  obtain ⟨f1, f2⟩ := no_room hr
  obtain ⟨e, he⟩ : ∃ e, es[v]? = some e := ⟨_, List.getElem?_eq_getElem (by omega)⟩
  have hm := List.mem_of_getElem? he
  obtain ⟨x, hx, hxe, hxr⟩ := h.home e hm (f1 e hm)
  obtain ⟨j, hj⟩ := findIdx_of_mem (isAt (x : Nat)) es e hm ((isAt_iff _ _).2 ⟨f1 e hm, hxe⟩)
  obtain ⟨e2, g1, g2, _, _⟩ := findIdx_some _ es j hj
  refine ⟨x, j, e2, ?_, hx, hxr, hj, g1, ((isAt_iff _ _).1 g2).2, ?_, ?_⟩
  · unfold victimOf
    rw [he]
    simp [hxe]
  · refine free_room ⟨Ent.none, ?_, rfl⟩
    have := (List.getElem?_eq_some_iff.1 g1).1
    exact List.mem_of_getElem? (i := j) (by rw [List.getElem?_set_self this])
  · unfold victimOf
    rw [he]
    simp only [hxe]
    rw [if_pos (by simp)]
    cases hf : es.find? (fun e => ![((x : Nat) : Int)].contains e.line) with
    | none => simp only; omega
    | some y =>
      have := List.find?_some hf
      simp at this
      exact this
/-- An entry of the list of all, with its line as a plain number: its ten cells. -/
theorem EntRow.ten {B n : Nat} {S : List SetSt} {w : World} {v : Value} (h : EntRow B w v (usedIn S)) (hg : GoodS n S) {j : Nat} (hj : j < (usedIn S).length) : ∃ (g c x : Nat) (st m ep d0 d1 d2 d3 : Int) (hh ff : Bool), v = .slice (some ⟨g, 0, none⟩) (usedIn S).length c ∧ g < w.heap.size ∧ x < 32 ∧ (linesN (usedIn S))[j]? = some x ∧
    w.cell? ⟨g, j * 10, none⟩ = some (.int .i64 (x : Nat)) ∧ w.cell? ⟨g, j * 10 + 1, none⟩ = some (.int .i64 st) ∧ w.cell? ⟨g, j * 10 + 2, none⟩ = some (.int .i64 m) ∧ w.cell? ⟨g, j * 10 + 3, none⟩ = some (.int .i64 ep) ∧ w.cell? ⟨g, j * 10 + 4, none⟩ = some (.int .u32 d0) ∧ w.cell? ⟨g, j * 10 + 5, none⟩ = some (.int .u32 d1) ∧ w.cell? ⟨g, j * 10 + 6, none⟩ = some (.int .u32 d2) ∧ w.cell? ⟨g, j * 10 + 7, none⟩ = some (.int .u32 d3) ∧ w.cell? ⟨g, j * 10 + 8, none⟩ = some (.bool hh) ∧ w.cell? ⟨g, j * 10 + 9, none⟩ = some (.bool ff) := by
  have he : (usedIn S)[j]? = some (usedIn S)[j] := List.getElem?_eq_getElem hj
  obtain ⟨x, hx, hxe, hxn⟩ := goodS_line hg (List.mem_of_getElem? he)
  obtain ⟨g, c, rfl, _, hlt, hc⟩ := h.cells he
  have hl : (linesN (usedIn S))[j]? = some x := by
    unfold linesN
    rw [List.getElem?_map, he, Option.map_some, hxn]
  generalize (usedIn S)[j] = e at *
  obtain ⟨y, st, m, ep, d0, d1, d2, d3, hh, ff⟩ := e
  simp only at hxe
  subst hxe
  exact ⟨g, c, x, st, m, ep, d0, d1, d2, d3, hh, ff, rfl, hlt, hx, hl, hc 0 _ rfl, hc 1 _ rfl, hc 2 _ rfl, hc 3 _ rfl, hc 4 _ rfl, hc 5 _ rfl, hc 6 _ rfl, hc 7 _ rfl, hc 8 _ rfl, hc 9 _ rfl⟩
theorem EntRow.turned {B : Nat} {w w' : World} {v : Value} {l : List Ent} (h : EntRow B w v l) {T : Nat → Prop} (hT : Turned T w w') (hd : ∀ q, T q → q < B) : EntRow B w' v l := by
  refine ⟨h.1, ?_⟩
  rcases h.2 with hn | ⟨g, cap, cur, rfl, hB, hgg, rest⟩
  · exact .inl hn
  · exact .inr ⟨g, cap, cur, rfl, hB, (hT.block g (lt_of_heap hgg) (fun e => by have := hd g e; omega)).trans hgg, rest⟩
theorem two_new (w : World) (c1 c2 : List Value) (t1 t2 : TypeId) : ((w.alloc (.cells c1.toArray t1)).alloc (.cells c2.toArray t2)).heap[w.heap.size]? = some (.cells c1.toArray t1 (0, 0)) ∧ ((w.alloc (.cells c1.toArray t1)).alloc (.cells c2.toArray t2)).heap[w.heap.size + 1]? = some (.cells c2.toArray t2 (0, 0)) := by
  constructor
  · rw [((Below.refl (w.alloc (.cells c1.toArray t1)).heap.size _).alloc (Nat.le_refl _) _).block w.heap.size (by simp)]
    exact heap_alloc_new _ _
  · have := heap_alloc_new (w.alloc (.cells c1.toArray t1)) (.cells c2.toArray t2)
    simp only [World.size_alloc] at this
    exact this
theorem cellOf {w : World} {g c : Nat} {l : List Value} {t : TypeId} {v : Value} (h : w.heap[g]? = some (.cells l.toArray t (0, 0))) (hc : l[c]? = some v) : w.cell? ⟨g, c, none⟩ = some v := by
  simp [World.cell?, h, hc]
theorem cell_of_turned {S : Nat → Prop} {w w' : World} (h : Turned S w w') {k o : Nat} (hk : k < w.heap.size) (hs : ¬ S k) : w'.cell? ⟨k, o, none⟩ = w.cell? ⟨k, o, none⟩ := by
  simp only [World.cell?, h.block k hk hs]
theorem wrapK_nat (r : Nat) (h : r < 1000) : IntKind.i64.wrap (r : Int) = (r : Int) := IntWalk.i64_in _ ⟨by omega, by omega⟩
theorem wrap64_nat (r : Nat) (h : r < 1000) : wrap64 (r : Int) = (r : Int) := by unfold wrap64; omega
theorem bits_good {n r : Nat} {s : SetSt} (h : GoodE n r s.es) (b : Nat) : GoodE n r ({ s with bits := b } : SetSt).es := h
set_option maxRecDepth 100000 in
set_option maxHeartbeats 4000000 in
theorem arrayHolds_is (sets ways : Int) (A3 : Option Addr) (len3 cap3 : Nat) (w : World) (hrow : IsAsks w A3 len3) (ad : Nat → Addr) (HSE : Sents w ad) :
    Calls Tryd.prog 8 #[.int .i64 sets, .int .i64 ways, .slice A3 len3 cap3] w fun e w' => e = .returned (.bool true) ∧ Below w.heap.size w w' := by
  have HS := Lib.hid HSE
  clear HSE
  obtain ⟨p, hp, W1⟩ := within_nat sets 3 (by omega)
  obtain ⟨q, hq, W2⟩ := within_nat ways 3 (by omega)
  obtain ⟨n, hn, ep⟩ := pow8_some p hp
  obtain ⟨k, hk, eq⟩ := pow8_some q hq
  have HW1 := Lib.hid W1
  have HW2 := Lib.hid W2
  have n8 : n ≤ 8 := by simp at hn; omega
  have k8 : k ≤ 8 := by simp at hk; omega
  have ep' : (2 : Int) ^ p = (n : Nat) := by rw [← ep]; simp
  have eq' : (2 : Int) ^ q = (k : Nat) := by rw [← eq]; simp
  have HN := Lib.hid hn
  have HK := Lib.hid hk
  have HZ3 := Lib.hid hrow
  have n1 : 0 < n := by simp at hn; omega
  have k1 : 0 < k := by simp at hk; omega
  clear W1 W2 ep eq hn hk hrow
  go_enter Tryd.func8, Tryd.ntmps8
  go_wp2_with fail
  go_quiet (first | (go_at_call 22; (with_reducible refine Calls.quiet_of_same (HW1.out _))) | (go_at_call 22; (with_reducible refine Calls.quiet_of_same (HW2.out _))))
  go_wp2_with fail
  have HB0 : Hid (Below w.heap.size w (w.drewN nq)) := below_drewN _ w nq
  generalize w.drewN nq = w0 at *
  have HS0 := Lib.hid (HS.out.of_below HB0.out)
  have hpn := isPow_mem HN.out
  have hpk := isPow_mem HK.out
  refine (arr_new n k w0 hpn hpk).mono ?_
  rintro e w1 ⟨a, gs, g, gl, rfl, H⟩
  have H1 := Lib.hid H
  clear H HW1 HW2 hpn hpk ep' eq'
  go_wp2_with fail
  go_loopw [11] (fun v wr => ∃ (i : Nat) (S : List SetSt), i ≤ 60 ∧ v = .int .i64 i ∧ Hid (GoodS n S) ∧ Hid (Arr w0 wr a gs k gl S)) (fun v _ => 60 - (intOf v).toNat)
  case atStart => exact ⟨0, _, by omega, rfl, goodS_new g k n, H1⟩
  case round =>
    clear H1
    obtain ⟨i, S, hi, rfl, HG, H⟩ := hrel
    by_cases hlt : i < len3
    · by_cases h60 : i < 60
      · obtain ⟨x, qq, rfl, hcells⟩ := HZ3.out i hlt
        have hx := hcells.cell 1 (.int .i64 qq.line) (by omega) rfl
        have hbw := HB0.out.trans (H.out.base.mono HB0.out.size)
        have hx1 := (hbw.cell (cell_lt hx)).trans hx
        clear hcells hx hbw
        obtain ⟨c, hc, X1⟩ := within_nat qq.line 31 (by omega)
        have HX1 := Lib.hid X1
        have c32 : c < 32 := by omega
        obtain ⟨s, hs, hgs⟩ := HG.out.at n1 c
        have HSS := Lib.hid hs
        have HGE := Lib.hid hgs
        clear hs hgs X1
        go_wp2_with fail
        refine (HX1.out _).mono ?_
        rintro e wx ⟨rfl, rfl⟩
        clear HX1 hx1
        go_wp2_with fail
        refine (arr_room H.out c s c32 HSS.out).mono ?_
        rintro e w2 ⟨rfl, hA, _⟩
        have H2 := Lib.hid hA
        clear hA H
        cases hroom : roomIn (c : Nat) s.es with
        | true =>
          have HR := Lib.hid hroom
          clear hroom
          go_wp2_with fail
          refine (arr_victim_room H2.out c s c32 HSS.out HR.out none 0 0).mono ?_
          rintro e w3 ⟨rfl, hA, _⟩
          have HH := Lib.hid hA
          have HS2 := HSS
          have HG2 := HG
          have HGE2 := HGE
          have HR2 := HR
          clear hA H2 HSS HG HGE HR
          generalize s = s2 at *
          generalize S = S2 at *
          have HGR : Hid (c % n = c % S2.length) := by show _ = _; rw [HG2.out.1]
          obtain ⟨q2, hq2⟩ := room_place HR2.out
          have HQ := Lib.hid hq2
          clear hq2
          go_wp2_with fail
          refine (of_is (c : Nat) _).mono ?_
          rintro e w4 ⟨rfl, hb⟩
          have H4 := Lib.hid (HH.out.below hb)
          clear hb HH
          go_wp2_with fail
          refine (arr_put H4.out c s2 c32 HS2.out (ofE c) rfl (ofE_right _) q2 HQ.out).mono ?_
          rintro e w5 ⟨rfl, hA, _⟩
          have hfs := put_find_self (es := s2.es) (e := ofE c) rfl rfl HQ.out
          have HF := Lib.hid hfs.2
          have HM := Lib.hid (List.mem_of_find?_eq_some hfs.1)
          have HG3 := Lib.hid (HGE2.out.put c32 rfl rfl HQ.out (e := ofE c))
          have HG3S := Lib.hid (HG2.out.set (t := { s2 with es := s2.es.set q2 (ofE c) }) HS2.out (by rw [← HGR.out]; exact HG3.out))
          have HS3 : Hid ((S2.set (c % S2.length) { s2 with es := s2.es.set q2 (ofE c) })[c % (S2.set (c % S2.length) { s2 with es := s2.es.set q2 (ofE c) }).length]? = some { s2 with es := s2.es.set q2 (ofE c) }) := by
            show _ = _
            rw [List.length_set, List.getElem?_set_self (List.getElem?_eq_some_iff.1 HS2.out).1]
          have H5 := Lib.hid hA
          clear hA hfs H4 HQ HS2
          generalize S2.set (c % S2.length) { s2 with es := s2.es.set q2 (ofE c) } = S3 at *
          generalize hs3 : ({ s2 with es := s2.es.set q2 (ofE c) } : SetSt) = s3 at *
          have HE3 : Hid (s3.es = s2.es.set q2 (ofE c)) := by rw [← hs3]; rfl
          clear hs3
          go_wp2_with fail
          refine (arr_touch H5.out c s3 c32 HS3.out q2 (by rw [HE3.out]; exact HF.out)).mono ?_
          rintro e w6 ⟨rfl, hA, _⟩
          have H6 := Lib.hid hA
          have HG4 : Hid (GoodS n (S3.set (c % S3.length) { s3 with bits := touchB k s3.bits q2 })) := HG3S.out.set HS3.out (by rw [HG3S.out.1]; show GoodE n (c % n) s3.es; rw [HE3.out]; exact HG3.out)
          have HIN : Hid (c ∈ linesN (usedIn (S3.set (c % S3.length) { s3 with bits := touchB k s3.bits q2 }))) := by
            refine List.mem_map.2 ⟨ofE c, ?_, by simp [lineN, ofE]⟩
            refine usedIn_mem (List.getElem?_set_self (List.getElem?_eq_some_iff.1 HS3.out).1) ?_ rfl
            show ofE c ∈ s3.es
            rw [HE3.out]
            exact HM.out
          clear hA H5 HF HM HE3 HS3 HG3 HG3S
          generalize S3.set (c % S3.length) { s3 with bits := touchB k s3.bits q2 } = S4 at *
          go_wp2_with fail
          have hU := H6.out.under
          have hV := H6.out.base.size
          generalize hWL : (w6.alloc _).alloc _ = wL
          have hk1 : wL.heap[w6.heap.size]? = some (.cells (seenV []).toArray 68 (0, 0)) := by
            rw [← hWL]; exact (two_new w6 (seenV []) (manyV n []) _ _).1
          have hk2 : wL.heap[w6.heap.size + 1]? = some (.cells (manyV n []).toArray 69 (0, 0)) := by
            rw [← hWL]; exact (two_new w6 (seenV []) (manyV n []) _ _).2
          have hsz : wL.heap.size = w6.heap.size + 2 := by rw [← hWL]; simp
          have hAl := H6.out.below (w' := wL) (by rw [← hWL]; exact ((Below.refl _ _).alloc (Nat.le_refl _) _).trans (((Below.refl _ _).alloc (Nat.le_refl _) _).mono (by simp)))
          have HK1 := Lib.hid hk1
          have HK2 := Lib.hid hk2
          have HSZ := Lib.hid hsz
          have HAL := Lib.hid hAl
          have HUU : Hid (∀ q, q = a ∨ Mine gs gl q → q < w6.heap.size) := hU
          have HVV := Lib.hid hV
          clear hWL hk1 hk2 hsz hAl hU hV H6
          refine (arr_list HAL.out).mono ?_
          rintro e w7 ⟨vv, rfl, hrow, hA, hb⟩
          have HK17 : Hid (w7.heap[w6.heap.size]? = some (.cells (seenV ((linesN (usedIn S4)).take 0)).toArray 68 (0, 0))) := (hb.block _ (lt_of_heap HK1.out)).trans HK1.out
          have HK27 : Hid (w7.heap[w6.heap.size + 1]? = some (.cells (manyV n ((linesN (usedIn S4)).take 0)).toArray 69 (0, 0))) := (hb.block _ (lt_of_heap HK2.out)).trans HK2.out
          have HROW := Lib.hid hrow
          have H7 := Lib.hid hA
          have HL64 : Hid ((usedIn S4).length ≤ 64) := by
            have h1 := usedIn_le k S4 fun s hs => hA.arr.len s hs
            have h2 := hA.arr.pos
            exact Nat.le_trans h1 (Nat.mul_le_mul h2.2.1 h2.2.2.2)
          have HCNT : Hid (∀ r, ((linesN (usedIn S4)).filter (fun x => x % n == r)).length ≤ k) := fun r => usedIn_count HG4.out hA.arr.len r
          have HND := Lib.hid (usedIn_pairwise HG4.out)
          have HLL : Hid ((linesN (usedIn S4)).length = (usedIn S4).length) := by show _ = _; simp [linesN]
          obtain ⟨A7, c7, rfl⟩ := hrow.shape
          clear hrow hA hb HK1 HK2 HAL
          obtain ⟨L, hL⟩ : ∃ L : Nat, (usedIn S4).length = L := ⟨_, rfl⟩
          have HLQ := Lib.hid hL
          have L64 : L ≤ 64 := by have := HL64.out; omega
          rw [hL] at HROW ⊢
          rw [hL] at HLL
          clear hL HL64
          generalize hb1 : w6.heap.size = b1 at *
          have HB2 : Hid (wL.heap.size = b1 + 2) := HSZ.out
          clear hb1 HSZ
          go_wp2_with fail
          go_loopw [117] (fun v wr => ∃ j : Nat, j ≤ L ∧ v = .int .i64 j ∧ Hid (Arr w0 wr a gs k gl S4) ∧ Hid (EntRow wL.heap.size wr (.slice A7 L c7) (usedIn S4)) ∧ Hid (wr.heap[b1]? = some (.cells (seenV ((linesN (usedIn S4)).take j)).toArray 68 (0, 0))) ∧ Hid (wr.heap[b1 + 1]? = some (.cells (manyV n ((linesN (usedIn S4)).take j)).toArray 69 (0, 0)))) (fun v _ => L - (intOf v).toNat)
          case atStart => exact ⟨0, by omega, rfl, H7, HROW, HK17, HK27⟩
          case round =>
            clear H7 HROW HK17 HK27
            obtain ⟨j, hj, rfl, H, HROW, HK1, HK2⟩ := hrel
            by_cases hlt : j < L
            · obtain ⟨gR, cR, x, st, m, ep, d0, d1, d2, d3, hh, ff, hv, hgl, x32, hlx, c0, c1, c2, c3, c4, c5, c6, c7', c8, c9⟩ := HROW.out.ten HG4.out (j := j) (by rw [HLQ.out]; exact hlt)
              simp only [Value.slice.injEq] at hv
              obtain ⟨rfl, -, -⟩ := hv
              have hns := seen_take HND.out j x hlx
              have hts : (linesN (usedIn S4)).take (j + 1) = (linesN (usedIn S4)).take j ++ [x] := by rw [List.take_add_one, hlx]; rfl
              have hcn := many_take (n := n) (k := k) (ls := linesN (usedIn S4)) (x % n) (HCNT.out _) (j + 1)
              have hxn : x % n < n := Nat.mod_lt _ n1
              have HE1 : Hid (seenV ((linesN (usedIn S4)).take (j + 1)) = (seenV ((linesN (usedIn S4)).take j)).set x (.bool true)) := by show _ = _; rw [hts, seenV_snoc _ _ x32]
              have HE2 : Hid (manyV n ((linesN (usedIn S4)).take (j + 1)) = (manyV n ((linesN (usedIn S4)).take j)).set (x % n) (.int .i64 ((((linesN (usedIn S4)).take j).filter (fun y => y % n == x % n)).length + 1 : Nat))) := by show _ = _; rw [hts, manyV_snoc n _ x (by omega), many_succ]
              rw [hts, many_succ] at hcn
              have hsv := cellOf HK1.out (seenV_get ((linesN (usedIn S4)).take j) x x32)
              have hmv := cellOf HK2.out (manyV_get n ((linesN (usedIn S4)).take j) (x % n) (by omega))
              rw [hns] at hsv
              generalize (((linesN (usedIn S4)).take j).filter (fun y => y % n == x % n)).length = cnt at *
              have q1 : Int.tmod (x : Int) (n : Int) = ((x % n : Nat) : Int) := by rw [Int.tmod_eq_emod_of_nonneg (by omega)]; simp
              generalize x % n = r at *
              have rI : (r : Int) < 8 := by omega
              have q2 : wrap64 ((r : Nat) : Int) = ((r : Nat) : Int) := by unfold wrap64; omega
              have hl1 := lt_of_heap HK1.out
              have hl2 := lt_of_heap HK2.out
              have mv : ∀ u, (wr.setCell ⟨b1, x, none⟩ u).cell? ⟨b1 + 1, r, none⟩ = some (.int .i64 (cnt : Nat)) := fun u => (World.cell?_setCell_other wr ⟨b1, x, none⟩ ⟨b1 + 1, r, none⟩ u (by simp)).trans hmv
              have mf : wr.frozen? ⟨b1 + 1, r, none⟩ = false := nofreeze HK2.out
              have sf0 : wr.frozen? ⟨b1, x, none⟩ = false := nofreeze HK1.out
              have T1 : Turned (fun q => b1 ≤ q ∧ q < wL.heap.size) wr ((wr.setCell ⟨b1, x, none⟩ (.bool true)).setCell ⟨b1 + 1, r, none⟩ (.int .i64 (cnt + 1))) := by
                have h2 := HB2.out
                exact ((Turned.refl _ wr).setCell (p := ⟨b1, x, none⟩) (.inl ⟨by show b1 ≤ b1; omega, by show b1 < wL.heap.size; omega⟩) _).setCell (p := ⟨b1 + 1, r, none⟩) (.inl ⟨by show b1 ≤ b1 + 1; omega, by show b1 + 1 < wL.heap.size; omega⟩) _
              have T2 : Hid (∀ o, Turned (fun q => b1 ≤ q ∧ q < wL.heap.size) wr (((wr.setCell ⟨b1, x, none⟩ (.bool true)).setCell ⟨b1 + 1, r, none⟩ (.int .i64 (cnt + 1))).alloc o)) := fun o => T1.trans (.of_below ((Below.refl _ _).alloc (Nat.le_refl _) o))
              have HA8 : Hid (∀ o, Arr w0 (((wr.setCell ⟨b1, x, none⟩ (.bool true)).setCell ⟨b1 + 1, r, none⟩ (.int .i64 (cnt + 1))).alloc o) a gs k gl S4) := fun o => H.out.above HUU.out HVV.out ((T2.out o).mono fun q _ hq => hq.1)
              have HR8 : Hid (∀ o, EntRow wL.heap.size (((wr.setCell ⟨b1, x, none⟩ (.bool true)).setCell ⟨b1 + 1, r, none⟩ (.int .i64 (cnt + 1))).alloc o) (.slice (some ⟨gR, 0, none⟩) L c7) (usedIn S4)) := fun o => HROW.out.turned (T2.out o) fun q hq => hq.2
              have HK8 : Hid (∀ o, (((wr.setCell ⟨b1, x, none⟩ (.bool true)).setCell ⟨b1 + 1, r, none⟩ (.int .i64 (cnt + 1))).alloc o).heap[b1]? = some (.cells (seenV ((linesN (usedIn S4)).take (j + 1))).toArray 68 (0, 0)) ∧ (((wr.setCell ⟨b1, x, none⟩ (.bool true)).setCell ⟨b1 + 1, r, none⟩ (.int .i64 (cnt + 1))).alloc o).heap[b1 + 1]? = some (.cells (manyV n ((linesN (usedIn S4)).take (j + 1))).toArray 69 (0, 0))) := fun o => by
                have e1 := heap_setCell (o := x) HK1.out (.bool true)
                have e2 : (wr.setCell ⟨b1, x, none⟩ (.bool true)).heap[b1 + 1]? = _ := (Below.heap_setCell wr ⟨b1, x, none⟩ (.bool true) (b1 + 1) (by show b1 + 1 ≠ b1; omega)).trans HK2.out
                have e3 := heap_setCell (o := r) e2 (.int .i64 (cnt + 1))
                have e4 := (Below.heap_setCell (wr.setCell ⟨b1, x, none⟩ (.bool true)) ⟨b1 + 1, r, none⟩ (.int .i64 (cnt + 1)) b1 (by show b1 ≠ b1 + 1; omega)).trans e1
                have hb := (Below.refl _ _).alloc (Nat.le_refl ((wr.setCell ⟨b1, x, none⟩ (.bool true)).setCell ⟨b1 + 1, r, none⟩ (.int .i64 (cnt + 1))).heap.size) o
                rw [HE1.out, HE2.out]
                refine ⟨(hb.block b1 (lt_of_heap e4)).trans (by rw [e4, List.setIfInBounds_toArray]), (hb.block (b1 + 1) (lt_of_heap e3)).trans (by rw [e3, List.setIfInBounds_toArray]; rfl)⟩
              clear T1 T2 HE1 HE2
              have sv : ∀ o, (wr.alloc o).cell? ⟨b1, x, none⟩ = some (.bool false) := fun o => by rw [World.cell?_alloc_lt _ _ _ hl1]; exact hsv
              have sf : ∀ o, (wr.alloc o).frozen? ⟨b1, x, none⟩ = false := fun o => by rw [World.frozen?_alloc_past _ _ _ hl1]; exact nofreeze HK1.out
              go_wp2_with fail
              go_roundw
              case rel => exact ⟨j + 1, by omega, by go_num, HA8.out _, HR8.out _, (HK8.out _).1, (HK8.out _).2⟩
              case measure => simp [intOf]; omega
            · obtain rfl : j = L := by omega
              have hsv : wr.cell? ⟨b1, c, none⟩ = some (.bool true) := by
                refine cellOf HK1.out ?_
                rw [seenV_get _ c c32, List.take_of_length_le (by rw [HLL.out]; omega), List.contains_iff_mem.2 HIN.out]
              have cI : (c : Int) < 32 := by omega
              clear HCNT HND HLL
              go_wp2_with fail
              go_roundw
              case rel => exact ⟨i + 1, S4, by omega, by go_num, HG4, H⟩
              case measure => simp [intOf]; omega
        | false =>
          have HR := Lib.hid hroom
          clear hroom
          have hlen := H2.out.arr.len s (List.mem_of_getElem? HSS.out)
          have hvk := (victim_all s.bits (H2.out.bits s (List.mem_of_getElem? HSS.out)) k (pow_mem H2.out.arr.many.2)).2
          obtain ⟨y, j, ee, v1, v2, v3, v4, v5, v6, v7, v8⟩ := victim_facts HGE.out hlen hvk HR.out
          have HV : Hid _ := arr_victim H2.out c s c32 HSS.out HR.out none 0 [] (C_none _) (by simp) (by simp)
          rw [v1] at HV
          clear hlen v1
          have V3 := Lib.hid v3
          have V4 := Lib.hid v4
          have V5 := Lib.hid v5
          have V6 := Lib.hid v6
          have V7 := Lib.hid v7
          have V8 := Lib.hid v8
          clear v3 v4 v5 v6 v7 v8
          go_wp2_with fail
          refine Calls.mono HV.out ?_
          rintro e w3 ⟨rfl, hA, _⟩
          have H3 := Lib.hid hA
          clear hA H2 HV
          have hsy : S[y % S.length]? = some s := by rw [HG.out.1, V3.out, ← HG.out.1]; exact HSS.out
          have HSY := Lib.hid hsy
          clear hsy
          go_wp2_with fail
          refine (arr_get H3.out y s v2 HSY.out j ee V4.out V5.out).mono ?_
          rintro e w4 ⟨rfl, hA, _⟩
          have H4 := Lib.hid hA
          clear hA H3
          have hel := V6.out
          obtain ⟨el, est, em, eep, ed0, ed1, ed2, ed3, eh, ef⟩ := ee
          simp only at hel
          subst hel
          simp only [Ent.val]
          have hyn : y % n = c % n := V3.out
          have q1 : Int.tmod (y : Int) (n : Int) = ((c % n : Nat) : Int) := by rw [Int.tmod_eq_emod_of_nonneg (by omega), ← hyn]; simp
          have q2 : Int.tmod (c : Int) (n : Int) = ((c % n : Nat) : Int) := by rw [Int.tmod_eq_emod_of_nonneg (by omega)]; simp
          have q0 : ¬ (n : Int) = 0 := by omega
          have hrr : c % n < n := Nat.mod_lt _ n1
          have HYN := Lib.hid hyn
          clear hyn
          obtain ⟨r, hr⟩ : ∃ r : Nat, r = c % n := ⟨_, rfl⟩
          rw [← hr] at q1 q2 hrr
          clear hr
          have q5 : ((n : Int) == 0) = false := by simp; omega
          have q6 : ¬ n = 0 := by omega
          have r1000 : r < 1000 := by omega
          have q4 : IntKind.i64.wrap ((r : Nat) : Int) = ((r : Nat) : Int) := wrapK_nat r r1000
          go_wp2_with fail
          generalize hW : w4.alloc _ = w5
          have hc5 : w5.cell? ⟨w4.heap.size, 0, none⟩ = some (.int .i64 (y : Nat)) := by
            rw [← hW]; exact new_at rfl 0 _ rfl
          have H5 : Hid (Arr w0 w5 a gs k gl S) := by
            rw [← hW]; exact H4.out.below ((Below.refl _ _).alloc (Nat.le_refl _) _)
          have HNM : Hid (¬ Mine gs gl w4.heap.size) := fun hm => by have := H4.out.under _ (.inr hm); omega
          clear hW H4
          generalize w4.heap.size = b5 at *
          obtain ⟨u, hu⟩ : ∃ u : Int, victimOf s.es (victimB k s.bits) [((y : Nat) : Int)] = u := ⟨_, rfl⟩
          have huy : ¬ u = (y : Int) := by rw [← hu]; exact V8.out
          have HVIC : Hid (∀ (w' : World) (g : Nat), Arr w0 w' a gs k gl S → w'.cell? ⟨g, 0, none⟩ = some (.int .i64 (y : Nat)) → w'.cell? ⟨b5, 0, none⟩ = some (.int .i64 (y : Nat)) → Calls Tryd.prog 18 #[.pointer (some ⟨a, 0, none⟩), .int .i64 (c : Nat), .slice (some ⟨g, 0, none⟩) 1 1] w' fun x w'' => x = .returned (.int .i64 u) ∧ Arr w0 w'' a gs k gl S ∧ w''.cell? ⟨b5, 0, none⟩ = some (.int .i64 (y : Nat))) := fun w' g h hc h5 => by
            have := arr_victim h c s c32 HSS.out HR.out (some ⟨g, 0, none⟩) 1 [((y : Nat) : Int)] (C_one hc) (by simp) (by simp)
            rw [hu] at this
            exact this.mono fun e w'' hx => ⟨hx.1, hx.2.1, (hx.2.2.cell (cell_lt h5)).trans h5⟩
          have HDROP : Hid (∀ w', Arr w0 w' a gs k gl S → w'.cell? ⟨b5, 0, none⟩ = some (.int .i64 (y : Nat)) → Calls Tryd.prog 19 #[.pointer (some ⟨a, 0, none⟩), .int .i64 (y : Nat)] w' fun x w'' => x = .returned (.bool true) ∧ Arr w0 w'' a gs k gl (S.set (y % S.length) { s with es := s.es.set j Ent.none }) ∧ w''.cell? ⟨b5, 0, none⟩ = some (.int .i64 (y : Nat))) := fun w' h h5 =>
            (arr_drop h y s v2 HSY.out j V4.out).mono fun e w'' hx => ⟨hx.1, hx.2.1, (cell_of_turned hx.2.2 (cell_lt h5) HNM.out).trans h5⟩
          have HS2 : Hid ((S.set (y % S.length) { s with es := s.es.set j Ent.none })[c % (S.set (y % S.length) { s with es := s.es.set j Ent.none }).length]? = some { s with es := s.es.set j Ent.none }) := by
            show _ = _
            rw [List.length_set, HG.out.1, HYN.out, ← HG.out.1]
            rw [List.getElem?_set_self (List.getElem?_eq_some_iff.1 (HG.out.1 ▸ HSS.out : S[c % S.length]? = some s)).1]
          have HG2 : Hid (GoodS n (S.set (y % S.length) { s with es := s.es.set j Ent.none })) := HG.out.set HSY.out (by rw [HG.out.1, HYN.out]; exact HGE.out.set_none j)
          have HGE2 : Hid (GoodE n (c % n) ({ s with es := s.es.set j Ent.none } : SetSt).es) := HGE.out.set_none j
          have HR2 : Hid (roomIn (c : Nat) ({ s with es := s.es.set j Ent.none } : SetSt).es = true) := V7.out
          clear hu HSS HSY HG HGE HR V3 V4 V5 V6 V7 V8
          generalize S.set (y % S.length) { s with es := s.es.set j Ent.none } = S2 at *
          generalize ({ s with es := s.es.set j Ent.none } : SetSt) = s2 at *
          have HROOM : Hid (∀ w', Arr w0 w' a gs k gl S2 → w'.cell? ⟨b5, 0, none⟩ = some (.int .i64 (y : Nat)) → Calls Tryd.prog 21 #[.pointer (some ⟨a, 0, none⟩), .int .i64 (c : Nat)] w' fun x w'' => x = .returned (.bool true) ∧ Arr w0 w'' a gs k gl S2 ∧ w''.cell? ⟨b5, 0, none⟩ = some (.int .i64 (y : Nat))) := fun w' h h5 => by
            have := arr_room h c s2 c32 HS2.out
            rw [HR2.out] at this
            exact this.mono fun e w'' hx => ⟨hx.1, hx.2.1, (hx.2.2.cell (cell_lt h5)).trans h5⟩
          have huyb : (u == (y : Int)) = false := by simpa using huy
          clear huy
          go_region_held3 (fun w' => w'.cell? ⟨b5, 0, none⟩ = some (.int .i64 (y : Nat))) (go_keep) (first | (go_at_call 18; refine (HVIC.out _ _ ?_ ?_ ?_).mono ?_; (exact H5.out.below (by repeat (first | exact Below.refl _ _ | refine Below.alloc ?_ (by simp) _ | refine Below.drew ?_))); (exact new_at (by simp) 0 _ rfl); (simp [*]); rintro e w' ⟨rfl, hA, hcv⟩; have H6 := Lib.hid hA; clear hA H5) | (go_at_call 19; refine (HDROP.out _ ?_ ?_).mono ?_; (exact H6.out); (simp [*]); rintro e w' ⟨rfl, hA, hcv⟩; have H7 := Lib.hid hA; clear hA H6) | (go_at_call 21; refine (HROOM.out _ ?_ ?_).mono ?_; (exact H7.out); (simp [*]); rintro e w' ⟨rfl, hA, hcv⟩; have HH := Lib.hid hA; clear hA H7))
          have HGR : Hid (c % n = c % S2.length) := by show _ = _; rw [HG2.out.1]
          clear HVIC HDROP HROOM HNM huyb q0 q1 q2 q4 q5 q6 hcv hc5
          obtain ⟨q2, hq2⟩ := room_place HR2.out
          have HQ := Lib.hid hq2
          clear hq2
          go_wp2_with fail
          refine (of_is (c : Nat) _).mono ?_
          rintro e w4 ⟨rfl, hb⟩
          have H4 := Lib.hid (HH.out.below hb)
          clear hb HH
          go_wp2_with fail
          refine (arr_put H4.out c s2 c32 HS2.out (ofE c) rfl (ofE_right _) q2 HQ.out).mono ?_
          rintro e w5 ⟨rfl, hA, _⟩
          have hfs := put_find_self (es := s2.es) (e := ofE c) rfl rfl HQ.out
          have HF := Lib.hid hfs.2
          have HM := Lib.hid (List.mem_of_find?_eq_some hfs.1)
          have HG3 := Lib.hid (HGE2.out.put c32 rfl rfl HQ.out (e := ofE c))
          have HG3S := Lib.hid (HG2.out.set (t := { s2 with es := s2.es.set q2 (ofE c) }) HS2.out (by rw [← HGR.out]; exact HG3.out))
          have HS3 : Hid ((S2.set (c % S2.length) { s2 with es := s2.es.set q2 (ofE c) })[c % (S2.set (c % S2.length) { s2 with es := s2.es.set q2 (ofE c) }).length]? = some { s2 with es := s2.es.set q2 (ofE c) }) := by
            show _ = _
            rw [List.length_set, List.getElem?_set_self (List.getElem?_eq_some_iff.1 HS2.out).1]
          have H5 := Lib.hid hA
          clear hA hfs H4 HQ HS2
          generalize S2.set (c % S2.length) { s2 with es := s2.es.set q2 (ofE c) } = S3 at *
          generalize hs3 : ({ s2 with es := s2.es.set q2 (ofE c) } : SetSt) = s3 at *
          have HE3 : Hid (s3.es = s2.es.set q2 (ofE c)) := by rw [← hs3]; rfl
          clear hs3
          go_wp2_with fail
          refine (arr_touch H5.out c s3 c32 HS3.out q2 (by rw [HE3.out]; exact HF.out)).mono ?_
          rintro e w6 ⟨rfl, hA, _⟩
          have H6 := Lib.hid hA
          have HG4 : Hid (GoodS n (S3.set (c % S3.length) { s3 with bits := touchB k s3.bits q2 })) := HG3S.out.set HS3.out (by rw [HG3S.out.1]; show GoodE n (c % n) s3.es; rw [HE3.out]; exact HG3.out)
          have HIN : Hid (c ∈ linesN (usedIn (S3.set (c % S3.length) { s3 with bits := touchB k s3.bits q2 }))) := by
            refine List.mem_map.2 ⟨ofE c, ?_, by simp [lineN, ofE]⟩
            refine usedIn_mem (List.getElem?_set_self (List.getElem?_eq_some_iff.1 HS3.out).1) ?_ rfl
            show ofE c ∈ s3.es
            rw [HE3.out]
            exact HM.out
          clear hA H5 HF HM HE3 HS3 HG3 HG3S
          generalize S3.set (c % S3.length) { s3 with bits := touchB k s3.bits q2 } = S4 at *
          go_wp2_with fail
          have hU := H6.out.under
          have hV := H6.out.base.size
          generalize hWL : (w6.alloc _).alloc _ = wL
          have hk1 : wL.heap[w6.heap.size]? = some (.cells (seenV []).toArray 68 (0, 0)) := by
            rw [← hWL]; exact (two_new w6 (seenV []) (manyV n []) _ _).1
          have hk2 : wL.heap[w6.heap.size + 1]? = some (.cells (manyV n []).toArray 69 (0, 0)) := by
            rw [← hWL]; exact (two_new w6 (seenV []) (manyV n []) _ _).2
          have hsz : wL.heap.size = w6.heap.size + 2 := by rw [← hWL]; simp
          have hAl := H6.out.below (w' := wL) (by rw [← hWL]; exact ((Below.refl _ _).alloc (Nat.le_refl _) _).trans (((Below.refl _ _).alloc (Nat.le_refl _) _).mono (by simp)))
          have HK1 := Lib.hid hk1
          have HK2 := Lib.hid hk2
          have HSZ := Lib.hid hsz
          have HAL := Lib.hid hAl
          have HUU : Hid (∀ q, q = a ∨ Mine gs gl q → q < w6.heap.size) := hU
          have HVV := Lib.hid hV
          clear hWL hk1 hk2 hsz hAl hU hV H6
          refine (arr_list HAL.out).mono ?_
          rintro e w7 ⟨vv, rfl, hrow, hA, hb⟩
          have HK17 : Hid (w7.heap[w6.heap.size]? = some (.cells (seenV ((linesN (usedIn S4)).take 0)).toArray 68 (0, 0))) := (hb.block _ (lt_of_heap HK1.out)).trans HK1.out
          have HK27 : Hid (w7.heap[w6.heap.size + 1]? = some (.cells (manyV n ((linesN (usedIn S4)).take 0)).toArray 69 (0, 0))) := (hb.block _ (lt_of_heap HK2.out)).trans HK2.out
          have HROW := Lib.hid hrow
          have H7 := Lib.hid hA
          have HL64 : Hid ((usedIn S4).length ≤ 64) := by
            have h1 := usedIn_le k S4 fun s hs => hA.arr.len s hs
            have h2 := hA.arr.pos
            exact Nat.le_trans h1 (Nat.mul_le_mul h2.2.1 h2.2.2.2)
          have HCNT : Hid (∀ r, ((linesN (usedIn S4)).filter (fun x => x % n == r)).length ≤ k) := fun r => usedIn_count HG4.out hA.arr.len r
          have HND := Lib.hid (usedIn_pairwise HG4.out)
          have HLL : Hid ((linesN (usedIn S4)).length = (usedIn S4).length) := by show _ = _; simp [linesN]
          obtain ⟨A7, c7, rfl⟩ := hrow.shape
          clear hrow hA hb HK1 HK2 HAL
          obtain ⟨L, hL⟩ : ∃ L : Nat, (usedIn S4).length = L := ⟨_, rfl⟩
          have HLQ := Lib.hid hL
          have L64 : L ≤ 64 := by have := HL64.out; omega
          rw [hL] at HROW ⊢
          rw [hL] at HLL
          clear hL HL64
          generalize hb1 : w6.heap.size = b1 at *
          have HB2 : Hid (wL.heap.size = b1 + 2) := HSZ.out
          clear hb1 HSZ
          go_wp2_with fail
          go_loopw [117] (fun v wr => ∃ j : Nat, j ≤ L ∧ v = .int .i64 j ∧ Hid (Arr w0 wr a gs k gl S4) ∧ Hid (EntRow wL.heap.size wr (.slice A7 L c7) (usedIn S4)) ∧ Hid (wr.heap[b1]? = some (.cells (seenV ((linesN (usedIn S4)).take j)).toArray 68 (0, 0))) ∧ Hid (wr.heap[b1 + 1]? = some (.cells (manyV n ((linesN (usedIn S4)).take j)).toArray 69 (0, 0)))) (fun v _ => L - (intOf v).toNat)
          case atStart => exact ⟨0, by omega, rfl, H7, HROW, HK17, HK27⟩
          case round =>
            clear H7 HROW HK17 HK27
            obtain ⟨j, hj, rfl, H, HROW, HK1, HK2⟩ := hrel
            by_cases hlt : j < L
            · obtain ⟨gR, cR, x, st, m, ep, d0, d1, d2, d3, hh, ff, hv, hgl, x32, hlx, c0, c1, c2, c3, c4, c5, c6, c7', c8, c9⟩ := HROW.out.ten HG4.out (j := j) (by rw [HLQ.out]; exact hlt)
              simp only [Value.slice.injEq] at hv
              obtain ⟨rfl, -, -⟩ := hv
              have hns := seen_take HND.out j x hlx
              have hts : (linesN (usedIn S4)).take (j + 1) = (linesN (usedIn S4)).take j ++ [x] := by rw [List.take_add_one, hlx]; rfl
              have hcn := many_take (n := n) (k := k) (ls := linesN (usedIn S4)) (x % n) (HCNT.out _) (j + 1)
              have hxn : x % n < n := Nat.mod_lt _ n1
              have HE1 : Hid (seenV ((linesN (usedIn S4)).take (j + 1)) = (seenV ((linesN (usedIn S4)).take j)).set x (.bool true)) := by show _ = _; rw [hts, seenV_snoc _ _ x32]
              have HE2 : Hid (manyV n ((linesN (usedIn S4)).take (j + 1)) = (manyV n ((linesN (usedIn S4)).take j)).set (x % n) (.int .i64 ((((linesN (usedIn S4)).take j).filter (fun y => y % n == x % n)).length + 1 : Nat))) := by show _ = _; rw [hts, manyV_snoc n _ x (by omega), many_succ]
              rw [hts, many_succ] at hcn
              have hsv := cellOf HK1.out (seenV_get ((linesN (usedIn S4)).take j) x x32)
              have hmv := cellOf HK2.out (manyV_get n ((linesN (usedIn S4)).take j) (x % n) (by omega))
              rw [hns] at hsv
              generalize (((linesN (usedIn S4)).take j).filter (fun y => y % n == x % n)).length = cnt at *
              have q1 : Int.tmod (x : Int) (n : Int) = ((x % n : Nat) : Int) := by rw [Int.tmod_eq_emod_of_nonneg (by omega)]; simp
              generalize x % n = r at *
              have rI : (r : Int) < 8 := by omega
              have q2 : wrap64 ((r : Nat) : Int) = ((r : Nat) : Int) := by unfold wrap64; omega
              have hl1 := lt_of_heap HK1.out
              have hl2 := lt_of_heap HK2.out
              have mv : ∀ u, (wr.setCell ⟨b1, x, none⟩ u).cell? ⟨b1 + 1, r, none⟩ = some (.int .i64 (cnt : Nat)) := fun u => (World.cell?_setCell_other wr ⟨b1, x, none⟩ ⟨b1 + 1, r, none⟩ u (by simp)).trans hmv
              have mf : wr.frozen? ⟨b1 + 1, r, none⟩ = false := nofreeze HK2.out
              have sf0 : wr.frozen? ⟨b1, x, none⟩ = false := nofreeze HK1.out
              have T1 : Turned (fun q => b1 ≤ q ∧ q < wL.heap.size) wr ((wr.setCell ⟨b1, x, none⟩ (.bool true)).setCell ⟨b1 + 1, r, none⟩ (.int .i64 (cnt + 1))) := by
                have h2 := HB2.out
                exact ((Turned.refl _ wr).setCell (p := ⟨b1, x, none⟩) (.inl ⟨by show b1 ≤ b1; omega, by show b1 < wL.heap.size; omega⟩) _).setCell (p := ⟨b1 + 1, r, none⟩) (.inl ⟨by show b1 ≤ b1 + 1; omega, by show b1 + 1 < wL.heap.size; omega⟩) _
              have T2 : Hid (∀ o, Turned (fun q => b1 ≤ q ∧ q < wL.heap.size) wr (((wr.setCell ⟨b1, x, none⟩ (.bool true)).setCell ⟨b1 + 1, r, none⟩ (.int .i64 (cnt + 1))).alloc o)) := fun o => T1.trans (.of_below ((Below.refl _ _).alloc (Nat.le_refl _) o))
              have HA8 : Hid (∀ o, Arr w0 (((wr.setCell ⟨b1, x, none⟩ (.bool true)).setCell ⟨b1 + 1, r, none⟩ (.int .i64 (cnt + 1))).alloc o) a gs k gl S4) := fun o => H.out.above HUU.out HVV.out ((T2.out o).mono fun q _ hq => hq.1)
              have HR8 : Hid (∀ o, EntRow wL.heap.size (((wr.setCell ⟨b1, x, none⟩ (.bool true)).setCell ⟨b1 + 1, r, none⟩ (.int .i64 (cnt + 1))).alloc o) (.slice (some ⟨gR, 0, none⟩) L c7) (usedIn S4)) := fun o => HROW.out.turned (T2.out o) fun q hq => hq.2
              have HK8 : Hid (∀ o, (((wr.setCell ⟨b1, x, none⟩ (.bool true)).setCell ⟨b1 + 1, r, none⟩ (.int .i64 (cnt + 1))).alloc o).heap[b1]? = some (.cells (seenV ((linesN (usedIn S4)).take (j + 1))).toArray 68 (0, 0)) ∧ (((wr.setCell ⟨b1, x, none⟩ (.bool true)).setCell ⟨b1 + 1, r, none⟩ (.int .i64 (cnt + 1))).alloc o).heap[b1 + 1]? = some (.cells (manyV n ((linesN (usedIn S4)).take (j + 1))).toArray 69 (0, 0))) := fun o => by
                have e1 := heap_setCell (o := x) HK1.out (.bool true)
                have e2 : (wr.setCell ⟨b1, x, none⟩ (.bool true)).heap[b1 + 1]? = _ := (Below.heap_setCell wr ⟨b1, x, none⟩ (.bool true) (b1 + 1) (by show b1 + 1 ≠ b1; omega)).trans HK2.out
                have e3 := heap_setCell (o := r) e2 (.int .i64 (cnt + 1))
                have e4 := (Below.heap_setCell (wr.setCell ⟨b1, x, none⟩ (.bool true)) ⟨b1 + 1, r, none⟩ (.int .i64 (cnt + 1)) b1 (by show b1 ≠ b1 + 1; omega)).trans e1
                have hb := (Below.refl _ _).alloc (Nat.le_refl ((wr.setCell ⟨b1, x, none⟩ (.bool true)).setCell ⟨b1 + 1, r, none⟩ (.int .i64 (cnt + 1))).heap.size) o
                rw [HE1.out, HE2.out]
                refine ⟨(hb.block b1 (lt_of_heap e4)).trans (by rw [e4, List.setIfInBounds_toArray]), (hb.block (b1 + 1) (lt_of_heap e3)).trans (by rw [e3, List.setIfInBounds_toArray]; rfl)⟩
              clear T1 T2 HE1 HE2
              have sv : ∀ o, (wr.alloc o).cell? ⟨b1, x, none⟩ = some (.bool false) := fun o => by rw [World.cell?_alloc_lt _ _ _ hl1]; exact hsv
              have sf : ∀ o, (wr.alloc o).frozen? ⟨b1, x, none⟩ = false := fun o => by rw [World.frozen?_alloc_past _ _ _ hl1]; exact nofreeze HK1.out
              go_wp2_with fail
              go_roundw
              case rel => exact ⟨j + 1, by omega, by go_num, HA8.out _, HR8.out _, (HK8.out _).1, (HK8.out _).2⟩
              case measure => simp [intOf]; omega
            · obtain rfl : j = L := by omega
              have hsv : wr.cell? ⟨b1, c, none⟩ = some (.bool true) := by
                refine cellOf HK1.out ?_
                rw [seenV_get _ c c32, List.take_of_length_le (by rw [HLL.out]; omega), List.contains_iff_mem.2 HIN.out]
              have cI : (c : Int) < 32 := by omega
              clear HCNT HND HLL
              go_wp2_with fail
              go_roundw
              case rel => exact ⟨i + 1, S4, by omega, by go_num, HG4, H⟩
              case measure => simp [intOf]; omega
      · go_wp2_with fail
        refine (arrayRuns_is _ ad (HS0.out.of_below H.out.base)).mono ?_
        rintro e wG ⟨rfl, hb⟩
        have HG := Lib.hid (H.out.below hb)
        clear hb H
        go_wp2
        go_ret
        exact ⟨rfl, HB0.out.trans (HG.out.base.mono HB0.out.size)⟩
    · go_wp2_with fail
      refine (arrayRuns_is _ ad (HS0.out.of_below H.out.base)).mono ?_
      rintro e wG ⟨rfl, hb⟩
      have HG := Lib.hid (H.out.below hb)
      clear hb H
      go_wp2
      go_ret
      exact ⟨rfl, HB0.out.trans (HG.out.base.mono HB0.out.size)⟩
end Go.Proofs.YtjnoaidceddpjaaDoor
