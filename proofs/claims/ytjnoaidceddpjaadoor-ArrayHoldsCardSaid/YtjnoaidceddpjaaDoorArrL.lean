/- The lines of a cache: slices.Contains; Victim. -/
import Derived.Test.YtjnoaidceddpjaaDoorArrK
import Derived.BigQuiet
namespace Go.Proofs.YtjnoaidceddpjaaDoor
open Go.RowKit Go.Extern.Stop Go.Stop Go.Extern Go.Proofs.YtjnoaidceddpjaaDoor.PArrayPlays Go.Proofs.YtjnoaidceddpjaaDoorW.PrintWords

theorem index_l0 (zs : List Int) (x : Int) (h : zs.length < 1000) : ∀ (d k j : Nat), j + d = zs.length → d < k → ∃ r : Int, slices_Index_int_int.l0 k zs x (zs.length : Int) (j : Int) = some r ∧ (decide (r ≥ 0)) = (zs.drop j).contains x := by
  intro d
  induction d with
  | zero =>
    intro k j hj hk
    obtain ⟨k, rfl⟩ : ∃ m, k = m + 1 := ⟨k - 1, by omega⟩
    simp only [slices_Index_int_int.l0]
    rw [if_neg (by omega)]
    refine ⟨_, rfl, ?_⟩
    rw [List.drop_of_length_le (by omega)]
    simp
  | succ d ih =>
    intro k j hj hk
    obtain ⟨k, rfl⟩ : ∃ m, k = m + 1 := ⟨k - 1, by omega⟩
    have hlt : j < zs.length := by omega
    have hr : rd zs (j : Int) = zs[j] := by simp [rd, hlt]
    have w : wrap64 ((j : Int) + 1) = ((j + 1 : Nat) : Int) := by unfold wrap64; omega
    simp only [slices_Index_int_int.l0]
    rw [if_pos (by omega), if_pos (by omega), if_pos (by omega), hr, w, List.drop_eq_getElem_cons hlt]
    by_cases e : x = zs[j]
    · rw [if_pos e]
      refine ⟨_, rfl, ?_⟩
      rw [List.contains_cons, e]
      simp
    · rw [if_neg e]
      obtain ⟨r, h1, h2⟩ := ih k (j + 1) (by omega) (by omega)
      refine ⟨r, h1, ?_⟩
      rw [h2, List.contains_cons]
      simp [e]
/-- Is a number among these? -/
theorem contains_is (A : Option Addr) (c : Nat) (zs : List Int) (x : Int) (w : World) (hr : Kd.C (Kd.int .i64) w A zs.length zs) (hc : zs.length ≤ c) (hl : zs.length < 1000) :
    Calls Tryd.prog 52 #[.slice A zs.length c, .int .i64 x] w fun e w' => e = .returned (.bool (zs.contains x)) ∧ ∃ n, w' = w.drewN n := by
  obtain ⟨r, h1, h2⟩ := index_l0 zs x hl zs.length 1000 0 (by omega) hl
  have hf : slices_Contains_int_int.f 1000 zs x = some (zs.contains x) := by
    unfold slices_Contains_int_int.f slices_Index_int_int.f
    rw [show ((0 : Int)) = ((0 : Nat) : Int) from rfl, h1, Option.bind_some]
    have h3 : (decide (r ≥ 0)) = zs.contains x := by simpa using h2
    exact congrArg some h3
  refine (slices_Contains_int_int.calls 1000 A c zs x _ w hr hc hf).mono ?_
  rintro e w' ⟨rfl, hd⟩
  exact ⟨rfl, hd.out⟩
/-- The line that goes: the way to which the bits point, unless it is pinned; else the first that isn't. -/
def victimOf (es : List Ent) (v : Nat) (pinned : List Int) : Int := match es[v]? with
  | some e => if pinned.contains e.line then (match es.find? (fun e => !pinned.contains e.line) with | some e => e.line | none => -1) else e.line
  | none => -1
set_option maxRecDepth 100000 in
set_option maxHeartbeats 4000000 in
theorem victim_room (B a gs k : Nat) (S : List SetSt) (l : Nat) (s : SetSt) (w : World) (h : ArrAt B w a gs k S) (hl : l < 32) (hs : S[l % S.length]? = some s) (hroom : roomIn (l : Nat) s.es = true) (A : Option Addr) (n c : Nat) :
    Calls Tryd.prog 18 #[.pointer (some ⟨a, 0, none⟩), .int .i64 (l : Nat), .slice A n c] w fun x w' => x = .returned (.int .i64 (-1)) ∧ Below w.heap.size w w' := by
  have HF := Lib.hid (find_in B a gs k S l s w h hl hs)
  have HX : Hid (∀ w', Below w.heap.size w w' → _) := fun w' hb => free_is B a gs k S (l % S.length) s w' (h.below hb) hs
  unfold roomIn at hroom
  clear h hs
  generalize l % S.length = r at *
  cases hj : s.es.findIdx? (isAt (l : Nat)) with
  | some j =>
    rw [hj] at HF
    simp only [idxI] at HF
    clear hj hroom
    go_enter Tryd.func18, Tryd.ntmps18
    go_wp2_with fail
    refine HF.out.mono ?_
    rintro x w1 ⟨rfl, hb⟩
    have HB1 := Lib.hid hb
    clear hb HF HX
    go_wp2
    go_ret
    exact ⟨rfl, HB1.out⟩
  | none =>
    rw [hj] at HF hroom
    clear hj
    cases hq : s.es.findIdx? isFree with
    | none => rw [hq] at hroom; simp at hroom
    | some q =>
      rw [hq] at HX
      clear hq hroom
      simp only [idxI] at HF HX
      go_enter Tryd.func18, Tryd.ntmps18
      go_wp2_with fail
      refine HF.out.mono ?_
      rintro x w1 ⟨rfl, hb⟩
      have HB1 := Lib.hid hb
      clear hb HF
      go_wp2_with fail
      refine (HX.out w1 HB1.out).mono ?_
      rintro x w2 ⟨rfl, hb⟩
      have HB2 := Lib.hid (HB1.out.trans (hb.mono HB1.out.size))
      clear hb HX
      go_wp2
      go_ret
      exact ⟨rfl, HB2.out⟩
set_option maxRecDepth 100000 in
set_option maxHeartbeats 4000000 in
theorem victim_out (a : Nat) (line : Int) (w : World) (hf : Missing a line none w) (A : Option Addr) (n c : Nat) :
    Calls Tryd.prog 18 #[.pointer (some ⟨a, 0, none⟩), .int .i64 line, .slice A n c] w fun x w' => x = .returned (.int .i64 (-1)) ∧ Below w.heap.size w w' := by
  have HF := Lib.hid hf
  clear hf
  go_enter Tryd.func18, Tryd.ntmps18
  go_wp2_with fail
  refine Calls.mono HF.out ?_
  rintro x w1 ⟨rfl, hb⟩
  have HB1 := Lib.hid hb
  clear hb HF
  go_wp2
  go_ret
  exact ⟨rfl, HB1.out⟩
set_option maxRecDepth 100000 in
set_option maxHeartbeats 16000000 in
theorem victim_in (B a gs k : Nat) (S : List SetSt) (l : Nat) (s : SetSt) (w : World) (h : ArrAt B w a gs k S) (hl : l < 32) (hs : S[l % S.length]? = some s) (hb : s.bits < 256) (hroom : roomIn (l : Nat) s.es = false) (A : Option Addr) (c : Nat) (zs : List Int) (hr : Kd.C (Kd.int .i64) w A zs.length zs) (hc : zs.length ≤ c) (hz : zs.length < 1000) :
    Calls Tryd.prog 18 #[.pointer (some ⟨a, 0, none⟩), .int .i64 (l : Nat), .slice A zs.length c] w fun x w' => x = .returned (.int .i64 (victimOf s.es (victimB k s.bits) zs)) ∧ Below w.heap.size w w' := by
  have HF := Lib.hid (find_in B a gs k S l s w h hl hs)
  have HX : Hid (∀ w', Below w.heap.size w w' → _) := fun w' hb => free_is B a gs k S (l % S.length) s w' (h.below hb) hs
  have HAT : Hid (∀ w', Below w.heap.size w w' → ArrAt B w' a gs k S) := fun w' hb => h.below hb
  have HV : Hid (∀ w, _) := fun w => plruVictim_is s.bits k w hb (pow_mem h.many.2)
  have hvk := (victim_all s.bits hb k (pow_mem h.many.2)).2
  have HCT : Hid (∀ w', Below w.heap.size w w' → ∀ x, _) := fun w' hb x => contains_is A c zs x w' (Kd.C_below hr hb) hc hz
  have hlen := h.len s (List.mem_of_getElem? hs)
  have HS := Lib.hid hs
  obtain ⟨ev, hev⟩ : ∃ e, s.es[victimB k s.bits]? = some e := ⟨_, List.getElem?_eq_getElem (by omega)⟩
  have HEV := Lib.hid hev
  have hk8 := h.pos
  unfold roomIn at hroom
  obtain ⟨hj, hq⟩ : s.es.findIdx? (isAt (l : Nat)) = none ∧ s.es.findIdx? isFree = none := by
    cases h1 : s.es.findIdx? (isAt (l : Nat)) <;> cases h2 : s.es.findIdx? isFree <;> simp [h1, h2] at hroom ⊢
  rw [hj] at HF
  rw [hq] at HX
  simp only [idxI] at HF HX
  have HLEN := Lib.hid hlen
  have HVD : Hid (victimOf s.es (victimB k s.bits) zs = if zs.contains ev.line then (match s.es.find? (fun e => !zs.contains e.line) with | some e => e.line | none => -1) else ev.line) := by
    show _ = _
    unfold victimOf
    rw [hev]
  generalize victimOf s.es (victimB k s.bits) zs = res at *
  clear h hs hj hq hroom hlen hr hc hz hev hb
  generalize l % S.length = r at *
  generalize victimB k s.bits = v at *
  go_enter Tryd.func18, Tryd.ntmps18
  go_wp2_with fail
  refine HF.out.mono ?_
  rintro x w1 ⟨rfl, hb⟩
  have HB1 := Lib.hid hb
  clear hb HF
  go_wp2_with fail
  refine (HX.out w1 HB1.out).mono ?_
  rintro x w2 ⟨rfl, hb⟩
  have HB2 := Lib.hid (HB1.out.trans (hb.mono HB1.out.size))
  clear hb HX HB1
  have hA := HAT.out w2 HB2.out
  obtain ⟨c1, c2⟩ := hA.set_cells HS.out
  have hw := hA.ways s (List.mem_of_getElem? HS.out)
  have hcl := (entCells_at hw HEV.out).1
  have HW := Lib.hid hw
  clear hA hw HAT
  have f1 : (v : Int) < (k : Int) := by omega
  have f0 : (0 : Int) ≤ (v : Int) := by omega
  go_wp2_with fail
  go_quiet (first | (go_at_call 51; (with_reducible refine (HV.out _).mono ?_); rintro e w' ⟨rfl, ⟨nd, rfl⟩⟩; (try first | exact ⟨rfl, _, World.drewN_drewN _ _ _⟩ | exact ⟨rfl, _, Eq.trans (World.drewN_drewN _ _ _) (congrArg (World.drewN _) (Nat.add_assoc _ _ _))⟩)))
  have HB3 : Hid (Below w.heap.size w (w2.drewN nq)) := HB2.out.trans (below_drewN _ _ _)
  have HW3 : Hid ((w2.drewN nq).heap[s.g]? = some (.cells (entCells s.es).toArray 32 (0, 0))) := HW.out
  have c3 : (w2.drewN nq).cell? ⟨gs, r * 2 + 1, none⟩ = some (.slice (some ⟨s.g, 0, none⟩) k k) := c2
  clear c1 c2 hcl HW HB2 HV
  generalize w2.drewN nq = w3 at *
  have HC3 := Lib.hid (HCT.out w3 HB3.out ev.line)
  by_cases hp : zs.contains ev.line = true
  · rw [hp] at HC3
    go_wp2_with fail
    refine HC3.out.mono ?_
    rintro x w4 ⟨rfl, nd, rfl⟩
    have HB4 : Hid (Below w.heap.size w (w3.drewN nd)) := HB3.out.trans (below_drewN _ _ _)
    have HW4 : Hid ((w3.drewN nd).heap[s.g]? = some (.cells (entCells s.es).toArray 32 (0, 0))) := HW3.out
    have c4 : (w3.drewN nd).cell? ⟨gs, r * 2 + 1, none⟩ = some (.slice (some ⟨s.g, 0, none⟩) k k) := c3
    clear c3 HB3 HW3 HC3
    generalize w3.drewN nd = w4 at *
    go_wp2_with fail
    have HRES : Hid (res = match s.es.find? (fun e => !zs.contains e.line) with | some e => e.line | none => -1) := by
      show _ = _
      rw [HVD.out, if_pos hp]
    clear hp c4 HVD
    go_loopw [56] (fun v wr => ∃ i : Nat, i ≤ k ∧ v = .int .i64 i ∧ Hid (Below w.heap.size w wr) ∧ Hid (wr.heap[s.g]? = some (.cells (entCells s.es).toArray 32 (0, 0))) ∧ Hid (s.es.find? (fun e => !zs.contains e.line) = (s.es.drop i).find? (fun e => !zs.contains e.line))) (fun v _ => k - (intOf v).toNat)
    case atStart => exact ⟨0, by omega, rfl, HB4, HW4, rfl⟩
    case round =>
      clear HB4 HW4
      obtain ⟨i, hi, rfl, HB, HW, HFD⟩ := hrel
      by_cases hlt : i < k
      · obtain ⟨e, he⟩ : ∃ e, s.es[i]? = some e := ⟨_, List.getElem?_eq_getElem (by rw [HLEN.out]; exact hlt)⟩
        obtain ⟨c0, c1, c2, c3, c4, c5, c6, c7, c8, c9⟩ := entCells_at HW.out he
        have HDR : Hid ((s.es.drop i).find? (fun e => !zs.contains e.line) = if zs.contains e.line then (s.es.drop (i + 1)).find? (fun e => !zs.contains e.line) else some e) := by
          show _ = _
          have hi2 := List.getElem?_eq_some_iff.1 he
          rw [List.drop_eq_getElem_cons hi2.1, hi2.2, List.find?_cons]
          cases zs.contains e.line <;> rfl
        have HGS := Lib.hid (lt_of_heap HW.out)
        clear he
        go_wp2_with fail
        have HBA : Hid (∀ o, Below w.heap.size w (wr.alloc o)) := fun o => HB.out.alloc HB.out.size o
        have HWA : Hid (∀ o nd, ((wr.alloc o).drewN nd).heap[s.g]? = some (.cells (entCells s.es).toArray 32 (0, 0))) := fun o nd => by
          have hb := ((Below.refl wr.heap.size wr).alloc (Nat.le_refl _) o).block s.g HGS.out
          exact hb.trans HW.out
        cases hpe : zs.contains e.line with
        | true =>
          have HC5 : Hid (∀ o, _) := fun o => HCT.out (wr.alloc o) (HBA.out o) e.line
          rw [hpe] at HC5
          refine (HC5.out _).mono ?_
          rintro x w5 ⟨rfl, nd, rfl⟩
          have HFD2 : Hid (s.es.find? (fun e => !zs.contains e.line) = (s.es.drop (i + 1)).find? (fun e => !zs.contains e.line)) := by
            show _ = _
            rw [HFD.out, HDR.out, if_pos hpe]
          clear hpe HC5 c0 c1 c2 c3 c4 c5 c6 c7 c8 c9
          go_wp2_with fail
          go_roundw
          case rel => exact ⟨i + 1, by omega, by go_num, (HBA.out _).trans (below_drewN _ _ _), HWA.out _ _, HFD2⟩
          case measure => simp [intOf]; omega
        | false =>
          have HC5 : Hid (∀ o, _) := fun o => HCT.out (wr.alloc o) (HBA.out o) e.line
          rw [hpe] at HC5
          refine (HC5.out _).mono ?_
          rintro x w5 ⟨rfl, nd, rfl⟩
          have HRE : Hid (res = e.line) := by
            show _ = _
            rw [HRES.out, HFD.out, HDR.out, if_neg (by rw [hpe]; decide)]
          clear hpe HC5 c0 c1 c2 c3 c4 c5 c6 c7 c8 c9
          go_wp2_with fail
          go_ret
          exact ⟨by rw [HRE.out]; rfl, (HBA.out _).trans (below_drewN _ _ _)⟩
      · have HRE : Hid (res = -1) := by
          show _ = _
          rw [HRES.out, HFD.out, List.drop_of_length_le (by rw [HLEN.out]; omega)]
          rfl
        go_wp2_with fail
        go_ret
        exact ⟨by rw [HRE.out]; rfl, HB.out⟩
  · have hp' : zs.contains ev.line = false := by simpa using hp
    rw [hp'] at HC3
    go_wp2_with fail
    refine HC3.out.mono ?_
    rintro x w4 ⟨rfl, nd, rfl⟩
    have HB4 : Hid (Below w.heap.size w (w3.drewN nd)) := HB3.out.trans (below_drewN _ _ _)
    have HRES : Hid (res = ev.line) := by
      show _ = _
      rw [HVD.out, if_neg hp]
    clear hp hp' HB3 HC3 c3 HVD
    go_wp2
    go_ret
    exact ⟨by rw [HRES.out]; rfl, HB4.out⟩
end Go.Proofs.YtjnoaidceddpjaaDoor
