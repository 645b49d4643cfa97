/- The law MshrKinds, walked. -/
import Derived.Test.YtjnoaidceddpjaaDoorMshrO
import Derived.Test.YtjnoaidceddpjaaDoorRowKit
namespace Go.Proofs.YtjnoaidceddpjaaDoor
open Go.RowKit Go.Extern.Stop Go.Stop Go.Extern

set_option maxRecDepth 100000 in
theorem within_same (n lo hi : Int) (w : World) (h1 : -100 ≤ lo) (h2 : lo ≤ hi) (h3 : hi ≤ 1000) :
    Calls Tryd.prog 22 #[.int .i64 n, .int .i64 lo, .int .i64 hi] w fun e w' => e = .returned (.int .i64 (inOf n lo hi)) ∧ w' = w := by
  have p : 0 < hi - lo + 1 := by omega
  have b1 := Int.tmod_lt_of_pos n p
  have b2 : -(hi - lo + 1) < Int.tmod n (hi - lo + 1) := Int.lt_tmod_of_pos n p
  have q1 : wrap64 (hi - lo) = hi - lo := by unfold wrap64; omega
  have q2 : wrap64 (hi - lo + 1) = hi - lo + 1 := by unfold wrap64; omega
  have q0 : ¬ (hi - lo + 1 = 0) := by omega
  have r1 : wrap64 (Int.tmod n (hi - lo + 1)) = Int.tmod n (hi - lo + 1) := by unfold wrap64; omega
  unfold inOf
  by_cases hneg : Int.tmod n (hi - lo + 1) < 0
  · rw [if_pos hneg]
    have r2 : wrap64 (Int.tmod n (hi - lo + 1) + hi) = Int.tmod n (hi - lo + 1) + hi := by unfold wrap64; omega
    have r3 : wrap64 (Int.tmod n (hi - lo + 1) + hi - lo) = Int.tmod n (hi - lo + 1) + hi - lo := by unfold wrap64; omega
    have r4 : wrap64 (Int.tmod n (hi - lo + 1) + hi - lo + 1) = Int.tmod n (hi - lo + 1) + hi - lo + 1 := by unfold wrap64; omega
    have r5 : wrap64 (lo + (Int.tmod n (hi - lo + 1) + hi - lo + 1)) = lo + (Int.tmod n (hi - lo + 1) + hi - lo + 1) := by unfold wrap64; omega
    go_enter Tryd.func22, Tryd.ntmps22
    go_wp2
    go_ret
    exact ⟨rfl, rfl⟩
  · rw [if_neg hneg]
    have r5 : wrap64 (lo + Int.tmod n (hi - lo + 1)) = lo + Int.tmod n (hi - lo + 1) := by unfold wrap64; omega
    go_enter Tryd.func22, Tryd.ntmps22
    go_wp2
    go_ret
    exact ⟨rfl, rfl⟩
/-- What is told of each line. -/
def haves (l : List (Int × Int)) : List Value := (List.range 32).map fun x => Value.int .i64 (kindOf (x : Nat) l)
theorem haves_get (l : List (Int × Int)) (c : Nat) (h : c < 32) : (haves l)[c]? = some (.int .i64 (kindOf (c : Nat) l)) := by
  simp [haves, h]
theorem haves_set (l l' : List (Int × Int)) (c : Nat) (_h : c < 32) (k : Int) (h1 : kindOf (c : Nat) l' = k) (h2 : ∀ y : Int, y ≠ (c : Nat) → kindOf y l' = kindOf y l) : haves l' = (haves l).set c (.int .i64 k) := by
  apply List.ext_getElem?
  intro i
  rw [List.getElem?_set]
  by_cases hi : i < 32
  · rw [haves_get l' i hi]
    by_cases e : c = i
    · subst e
      simp [haves, hi, h1]
    · rw [if_neg e, haves_get l i hi, h2 (i : Nat) (by omega)]
  · have e1 : (haves l')[i]? = none := by simp [haves]; omega
    have e2 : (haves l)[i]? = none := by simp [haves]; omega
    rw [e1, e2]
    by_cases e : c = i
    · omega
    · rw [if_neg e]
theorem cell_of_block {w : World} {g c : Nat} {l : List Value} {t : TypeId} {v : Value} (h : w.heap[g]? = some (.cells l.toArray t (0, 0))) (hc : l[c]? = some v) : w.cell? ⟨g, c, none⟩ = some v := by
  simp [World.cell?, h, hc]
theorem nofreeze {w : World} {g c : Nat} {l : Array Value} {t : TypeId} (h : w.heap[g]? = some (.cells l t (0, 0))) : w.frozen? ⟨g, c, none⟩ = false := by
  simp [World.frozen?, h]
theorem OwnG.setCell {G : Nat → Prop} {w0 w : World} {t most : Nat} {l : List (Int × Int)} (h : OwnG G w0 w t most l) {g : Nat} (hg : G g) (hw : w0.heap.size ≤ g) (c : Nat) (u : Value) : OwnG G w0 (w.setCell ⟨g, c, none⟩ u) t most l := by
  obtain ⟨v, hO, hG⟩ := h
  have hT : Turned (fun k => k = g) w (w.setCell ⟨g, c, none⟩ u) :=
    (Turned.refl (fun k => k = g) w).setCell (p := ⟨g, c, none⟩) (.inl rfl) u
  have h1 := hG g hg
  refine ⟨v, ⟨⟨?_, ?_, hO.tab.ne, hO.tab.few⟩, ?_, hO.ht, hO.hv⟩, fun k hk => ⟨(hG k hk).1, (hG k hk).2.1, Nat.lt_of_lt_of_le (hG k hk).2.2 hT.size⟩⟩
  · rw [hT.block t (lt_of_heap hO.tab.box) (fun e => h1.1 e.symm)]
    exact hO.tab.box
  · exact hO.tab.row.of_block (fun k hk => hT.block k (hO.tab.row.lt hk) (fun e => h1.2.1 (by rw [hk, e])))
  · exact hO.base.trans (hT.below hO.base.size (fun k hk e => by omega))
set_option maxRecDepth 100000 in
set_option maxHeartbeats 16000000 in
theorem mshrKinds_is (most : Int) (A1 : Option Addr) (len1 cap1 : Nat) (z1 : List Int) (A2 : Option Addr) (len2 cap2 : Nat) (z2 : List Int) (w : World) (hrow1 : IsRow .i64 w A1 len1 cap1 z1) (hrow2 : IsRow .i64 w A2 len2 cap2 z2) (a : Nat → Addr) (S : Sents w a) :
    Calls Tryd.prog 12 #[.int .i64 most, .slice A1 len1 cap1, .slice A2 len2 cap2] w fun e w' => e = .returned (.bool true) ∧ Below w.heap.size w w' := by
  have HS := Lib.hid S
  clear S
  obtain ⟨n, hn, n1, n8⟩ : ∃ n : Nat, inOf most 1 8 = n ∧ 1 ≤ n ∧ n ≤ 8 := by
    have := inOf_le (n := most) (lo := 1) (hi := 8) (by omega)
    exact ⟨(inOf most 1 8).toNat, by omega, by omega, by omega⟩
  have W1 := within_is most 1 8 w (by omega) (by omega) (by omega)
  rw [hn] at W1
  have HW1 := Lib.hid W1
  clear W1 hn
  have row_cells : ∀ {A : Option Addr} {len cap : Nat} {z : List Int}, IsRow .i64 w A len cap z → ∀ i : Nat, i < len → ∃ x : Int, ∃ ad, A = some ad ∧ w.cell? (ad.add i) = some (.int .i64 x) := by
    intro A len cap z hrow i hi
    rcases hrow with ⟨_, h, _⟩ | ⟨x, rfl, h1, h2, h3, h4, _⟩
    · omega
    · exact ⟨_, x, rfl, h4 i (by omega)⟩
  have HZ1 := Lib.hid (row_cells hrow1)
  have HZ2 := Lib.hid (row_cells hrow2)
  clear hrow1 hrow2 row_cells
  go_enter Tryd.func12, Tryd.ntmps12
  go_wp2_with fail
  refine HW1.out.mono ?_
  rintro e w1 ⟨rfl, hb1⟩
  have B1 := Lib.hid hb1
  clear hb1 HW1
  go_wp2_with fail
  refine (own_new n w1 (by omega) (by omega)).mono ?_
  rintro e w2 ⟨rfl, h⟩
  have H := Lib.hid h
  clear h
  generalize ht : w1.heap.size = t at *
  clear ht
  go_wp2_with fail
  have hge := H.out.base.size
  generalize hW : w2.alloc _ = w3
  have hbig : w2.heap.size < w3.heap.size := by rw [← hW]; simp
  have hblk : w3.heap[w2.heap.size]? = some (.cells (haves []).toArray 45 (0, 0)) := by rw [← hW]; exact heap_alloc_new _ _
  have HG : Hid (OwnG (fun k => k = w2.heap.size) w1 w3 t n []) := by
    rw [← hW]
    exact H.out.guard ((Below.refl _ _).alloc (Nat.le_refl _) _) _ (fun k hk => by subst hk; simp)
  have HK := Lib.hid hblk
  clear hW hblk hbig H
  generalize w2.heap.size = g at *
  go_loopw [11, 12] (fun v11 v12 wr => ∃ i : Nat, ∃ l : List (Int × Int), i ≤ 40 ∧ v11 = .int .i64 (l.length : Nat) ∧ v12 = .int .i64 i ∧ Hid (OwnG (fun k => k = g) w1 wr t n l) ∧ Hid (Rising l) ∧ l.length ≤ n ∧ Hid (∀ m ∈ l, 1 ≤ m.2) ∧ Hid (wr.heap[g]? = some (.cells (haves l).toArray 45 (0, 0)))) (fun _ v12 _ => 40 - (intOf v12).toNat)
  case atStart => exact ⟨0, [], by omega, rfl, rfl, HG, rising_nil, by simp, fun m hm => by simp at hm, HK⟩
  case round =>
    clear HK HG
    obtain ⟨i, l, hi, rfl, rfl, HG, HR, hl, HP, HK⟩ := hrel
    by_cases hlt1 : i < len1
    · by_cases hlt2 : i < len2
      · by_cases h40 : i < 40
        · obtain ⟨x, ad, rfl, hx⟩ := HZ1.out i hlt1
          obtain ⟨y, ad2, rfl, hy⟩ := HZ2.out i hlt2
          have hbw := B1.out.trans (HG.out.base.mono B1.out.size)
          have hx1 := (hbw.cell (cell_lt hx)).trans hx
          have hy1 := (hbw.cell (cell_lt hy)).trans hy
          clear hx hy hbw
          have X1 : Hid (∀ w, _) := fun w => within_same x 0 31 w (by omega) (by omega) (by omega)
          have X2 : Hid (∀ w, _) := fun w => within_same y 1 4 w (by omega) (by omega) (by omega)
          obtain ⟨c, hc, c32⟩ : ∃ c : Nat, inOf x 0 31 = (c : Int) ∧ c < 32 := by
            have := inOf_le (n := x) (lo := 0) (hi := 31) (by omega)
            exact ⟨(inOf x 0 31).toNat, by omega, by omega⟩
          obtain ⟨d, hd, d1, d4⟩ : ∃ d : Int, inOf y 1 4 = d ∧ 1 ≤ d ∧ d ≤ 4 := ⟨_, rfl, inOf_le (by omega)⟩
          rw [hc] at X1
          rw [hd] at X2
          clear hc hd
          have hkv := cell_of_block HK.out (haves_get l c c32)
          have HKH := Lib.hid (kind_has HP.out (c : Nat))
          go_wp2_with fail
          go_quiet (first | (go_at_call 22; (with_reducible refine Calls.quiet_of_same (X1.out _))) | (go_at_call 22; (with_reducible refine Calls.quiet_of_same (X2.out _))))
          have HG' := Lib.hid (HG.out.below (below_drewN _ wr nq))
          have HK' : Hid ((wr.drewN nq).heap[g]? = some (.cells (haves l).toArray 45 (0, 0))) := HK.out
          have hkv' : (wr.drewN nq).cell? ⟨g, c, none⟩ = some (.int .i64 (kindOf (c : Nat) l)) := hkv
          clear HG HK hx1 hy1 X1 X2 hkv
          generalize wr.drewN nq = w4 at *
          generalize hkk : kindOf (c : Nat) l = kv at *
          have HKK := Lib.hid hkk
          clear hkk
          have cI : (c : Int) < 32 := by omega
          have hkh := HKH.out
          clear HKH
          by_cases hh : has (c : Nat) l = true
          · have kv1 : 1 ≤ kv := hkh.1 hh
            clear hkh
            by_cases hev : i % 2 = 0
            · have q1 : Int.tmod (i : Int) 2 = 0 := by rw [Int.tmod_eq_emod_of_nonneg (by omega)]; omega
              clear hev
              have HDF := Lib.hid (drop_facts (c : Nat) l HR.out.1)
              have hD1 := ownG_drop _ w1 t n l (c : Nat) w4 HG'.out
              rw [hh] at hD1
              have HD1 := Lib.hid hD1
              clear hD1
              have HR2 := Lib.hid (drop_rising (c : Nat) l HR.out)
              have HP2 : Hid (∀ m ∈ dropOf (c : Nat) l, 1 ≤ m.2) := fun m hm => HP.out m ((drop_sub _ _).subset hm)
              have HS2 := Lib.hid (haves_set l (dropOf (c : Nat) l) c c32 0 ((kind_has HP2.out (c : Nat)).2 HDF.out.1) HDF.out.2.1)
              have hlen2 := HDF.out.2.2 hh
              have HN2 := Lib.hid HDF.out.1
              have ELN : dropOf (c : Nat) (dropOf (c : Nat) l) = dropOf (c : Nat) l := by
                rcases drop_split (c : Nat) (dropOf (c : Nat) l) 0 with ⟨_, _, h⟩ | ⟨_, _, _, _, _, _, h⟩
                · exact h
                · rw [HN2.out] at h; cases h
              have HEL := Lib.hid ELN
              clear ELN HDF hh
              generalize dropOf (c : Nat) l = l2 at *
              go_wp2_with fail
              refine HD1.out.mono ?_
              rintro e w5 ⟨rfl, h, hk⟩
              have H5 := Lib.hid h
              have K5 := Lib.hid ((hk g rfl).trans HK'.out)
              clear h hk HD1 HG' HK' hkv'
              have hD2 := ownG_drop _ w1 t n l2 (c : Nat) w5 H5.out
              rw [HN2.out, HEL.out] at hD2
              have HD2 := Lib.hid hD2
              clear hD2
              go_wp2_with fail
              refine HD2.out.mono ?_
              rintro e w6 ⟨rfl, h, hk⟩
              have H6 := Lib.hid h
              have K6 := Lib.hid ((hk g rfl).trans K5.out)
              clear h hk HD2 H5 K5
              have hfz : w6.frozen? ⟨g, c, none⟩ = false := nofreeze K6.out
              have hc6 := cell_of_block K6.out (haves_get l c c32)
              have s1 : ((l.length : Nat) : Int) - 1 = (l2.length : Int) := by omega
              have s2 : wrap64 ((l.length : Int) - 1) = (l2.length : Int) := by unfold wrap64; omega
              have H7 := Lib.hid (H6.out.setCell rfl hge c (.int .i64 0))
              have K7 : Hid ((w6.setCell ⟨g, c, none⟩ (.int .i64 0)).heap[g]? = some (.cells (haves l2).toArray 45 (0, 0))) := by
                rw [HS2.out, ← List.setIfInBounds_toArray]
                exact heap_setCell K6.out _
              clear H6 K6
              go_wp2_with fail
              clear s1 s2
              go_roundw
              case rel => exact ⟨i + 1, l2, by omega, rfl, by go_num, H7, HR2, by omega, HP2, K7⟩
              case measure => simp [intOf]; omega
            · have q1 : ¬ Int.tmod (i : Int) 2 = 0 := by rw [Int.tmod_eq_emod_of_nonneg (by omega)]; omega
              have q2 : (Int.tmod (i : Int) 2 == 0) = false := by simpa using q1
              have hA := ownG_add_any _ w1 t n l (c : Nat) d w4 a (HS.out.of_below B1.out) HG'.out HR.out (by omega)
              rcases hA with ⟨-, hno, hro, -⟩ | ⟨-, hA⟩
              · rw [hh] at hno; cases hno
              · have HA := Lib.hid hA
                clear hA
                generalize a (addCode n l (c : Nat) d) = b at *
                obtain ⟨pv, hpv⟩ : ∃ pv, sayAdd (c : Nat) b = .iface 111 pv := ⟨_, rfl⟩
                rw [hpv] at HA
                clear hpv
                have he1 := fun w : World => run_eql_held_nil (P := Tryd.prog) w 24 111 pv (by kernel_rfl)
                have HN := Lib.hid he1
                clear he1
                have f1 : (kv == 0) = false := by simp; omega
                have f2 : ¬ kv = 0 := by omega
                go_wp2_with fail
                refine HA.out.mono ?_
                rintro e w5 ⟨rfl, hb5⟩
                have H5 := Lib.hid (HG'.out.below hb5)
                have K5 := Lib.hid ((hb5.block g (lt_of_heap HK'.out)).trans HK'.out)
                have hc5 := (hb5.cell (cell_lt hkv')).trans hkv'
                clear hb5 HA HG' HK' hkv'
                have he1 := HN.out
                go_wp2_with fail
                go_quiet (fail)
                have H7 := Lib.hid (H5.out.below (below_drewN _ w5 nq))
                have K7 : Hid ((w5.drewN nq).heap[g]? = some (.cells (haves l).toArray 45 (0, 0))) := K5.out
                clear H5 K5 hc5
                generalize w5.drewN nq = w7 at *
                go_wp2_with fail
                clear he1 HN HKK
                have HRL := HR
                have HPL := HP
                have hLn := hl
                clear HR HP hl hh f1 f2 q1 q2
                generalize l = L at *
                have hq : has (c : Nat) L = decide (0 < kindOf (c : Nat) L) := by
                  have := kind_has HPL.out (c : Nat)
                  by_cases e : has (c : Nat) L = true
                  · have h1 := this.1 e
                    rw [e]; simp; omega
                  · have e' : has (c : Nat) L = false := by simpa using e
                    have h1 := this.2 e'
                    rw [e', h1]; simp
                have hFe : decide (n ≤ L.length) = ((L.length : Int) == (n : Int)) := by
                  by_cases e : L.length = n
                  · simp [e]
                  · have e1 : ¬ n ≤ L.length := by omega
                    have e2 : ((L.length : Int) == (n : Int)) = false := by simp; omega
                    rw [e2]; simpa using e1
                have hG7 := ownG_get _ w1 t n L (c : Nat) w7 H7.out
                rw [hq] at hG7
                have HG7 := Lib.hid hG7
                have hgl := haves_get L c c32
                clear hq hG7
                generalize kindOf (c : Nat) L = kl at *
                refine HG7.out.mono ?_
                rintro e w8 ⟨rfl, hb8⟩
                have H8 := Lib.hid (H7.out.below hb8)
                have K8 := Lib.hid ((hb8.block g (lt_of_heap K7.out)).trans K7.out)
                have hc8 := cell_of_block K8.out hgl
                have hF8 := ownG_full _ w1 t n L w8 H8.out
                rw [hFe] at hF8
                have HF8 := Lib.hid hF8
                clear hb8 H7 K7 HG7 hgl hF8 hFe
                go_wp2_with fail
                refine HF8.out.mono ?_
                rintro e w9 ⟨rfl, hb9⟩
                have H9 := Lib.hid (H8.out.below hb9)
                have K9 := Lib.hid ((hb9.block g (lt_of_heap K8.out)).trans K8.out)
                clear hb9 HF8 hc8 H8 K8
                go_wp2_with fail
                go_roundw
                case rel => exact ⟨i + 1, L, by omega, rfl, by go_num, H9, HRL, hLn, HPL, K9⟩
                case measure => simp [intOf]; omega
          · have hh' : has (c : Nat) l = false := by simpa using hh
            have kv0 : kv = 0 := hkh.2 hh'
            clear hkh hh
            subst kv0
            by_cases hroom : l.length < n
            · have q1 : (Int.tmod (i : Int) 2 == 0) = (Int.tmod (i : Int) 2 == 0) := rfl
              clear q1
              have hA := ownG_add_any _ w1 t n l (c : Nat) d w4 a (HS.out.of_below B1.out) HG'.out HR.out (by omega)
              rcases hA with ⟨-, -, -, -, -, -, -, hA⟩ | ⟨hcode, -⟩
              · have HA := Lib.hid hA
                have HRI := Lib.hid (ins_rising (c : Nat) d l HR.out hh' (by omega) (by omega))
                have HPI : Hid (∀ m ∈ insOf (c : Nat) d l, 1 ≤ m.2) := fun m hm => by
                  rcases List.mem_append.1 hm with hm | hm
                  · exact HP.out m (List.mem_of_mem_take hm)
                  · rcases List.mem_cons.1 hm with rfl | hm
                    · exact d1
                    · exact HP.out m (List.mem_of_mem_drop hm)
                have hki : kindOf (c : Nat) (insOf (c : Nat) d l) = d := by rw [kind_ins _ _ _ _ hh', if_pos rfl]
                have HKI := Lib.hid hki
                have HHI : Hid (has (c : Nat) (insOf (c : Nat) d l) = true) := by
                  have := (kind_has HPI.out (c : Nat)).2
                  by_cases e : has (c : Nat) (insOf (c : Nat) d l) = true
                  · exact e
                  · have := this (by simpa using e)
                    omega
                have HSI := Lib.hid (haves_set l (insOf (c : Nat) d l) c c32 d hki (fun y hy => by rw [kind_ins _ _ _ _ hh', if_neg hy]))
                have hleni := ins_length (c : Nat) d l
                clear hA hki
                generalize insOf (c : Nat) d l = l2 at *
                have hLn : l2.length ≤ n := by omega
                have S2 : Hid (wrap64 ((l.length : Int) + 1) = (l2.length : Int)) := by show _ = _; unfold wrap64; omega
                have S3 : Hid ((l.length : Int) + 1 = (l2.length : Int)) := by show _ = _; omega
                clear hleni
                go_wp2_with fail
                refine HA.out.mono ?_
                rintro e w5 ⟨rfl, h, hk⟩
                have H5 := Lib.hid h
                have K5 := Lib.hid ((hk g rfl).trans HK'.out)
                clear h hk HA HG' HK' hkv'
                have hc5 : w5.cell? ⟨g, c, none⟩ = some (.int .i64 0) := by
                  have := cell_of_block K5.out (haves_get l c c32)
                  rw [HKK.out] at this
                  exact this
                have s0 : (l.length : Int) < (n : Int) := by omega
                go_wp2_with fail
                go_quiet (fail)
                have H5' := Lib.hid (H5.out.below (below_drewN _ w5 nq))
                have K5' : Hid ((w5.drewN nq).heap[g]? = some (.cells (haves l).toArray 45 (0, 0))) := K5.out
                have hc5' : (w5.drewN nq).cell? ⟨g, c, none⟩ = some (.int .i64 0) := hc5
                clear H5 K5 hc5
                generalize w5.drewN nq = w6 at *
                have hfz : w6.frozen? ⟨g, c, none⟩ = false := nofreeze K5'.out
                have s2 := S2.out
                have H6 := Lib.hid (H5'.out.setCell rfl hge c (.int .i64 d))
                have K6 : Hid ((w6.setCell ⟨g, c, none⟩ (.int .i64 d)).heap[g]? = some (.cells (haves l2).toArray 45 (0, 0))) := by
                  rw [HSI.out, ← List.setIfInBounds_toArray]
                  exact heap_setCell K5'.out _
                clear H5' K5'
                go_wp2_with fail
                rw [S3.out]
                have HRL := HRI
                have HPL := HPI
                clear s0 s2 S2 S3 HRI HPI HKI HHI HSI HKK hfz hc5'
                generalize w6.setCell ⟨g, c, none⟩ (.int .i64 d) = w7 at *
                have H7 := H6
                have K7 := K6
                clear H6 K6
                clear HR HP hl hroom hh'
                generalize l2 = L at *
                have hq : has (c : Nat) L = decide (0 < kindOf (c : Nat) L) := by
                  have := kind_has HPL.out (c : Nat)
                  by_cases e : has (c : Nat) L = true
                  · have h1 := this.1 e
                    rw [e]; simp; omega
                  · have e' : has (c : Nat) L = false := by simpa using e
                    have h1 := this.2 e'
                    rw [e', h1]; simp
                have hFe : decide (n ≤ L.length) = ((L.length : Int) == (n : Int)) := by
                  by_cases e : L.length = n
                  · simp [e]
                  · have e1 : ¬ n ≤ L.length := by omega
                    have e2 : ((L.length : Int) == (n : Int)) = false := by simp; omega
                    rw [e2]; simpa using e1
                have hG7 := ownG_get _ w1 t n L (c : Nat) w7 H7.out
                rw [hq] at hG7
                have HG7 := Lib.hid hG7
                have hgl := haves_get L c c32
                clear hq hG7
                generalize kindOf (c : Nat) L = kl at *
                refine HG7.out.mono ?_
                rintro e w8 ⟨rfl, hb8⟩
                have H8 := Lib.hid (H7.out.below hb8)
                have K8 := Lib.hid ((hb8.block g (lt_of_heap K7.out)).trans K7.out)
                have hc8 := cell_of_block K8.out hgl
                have hF8 := ownG_full _ w1 t n L w8 H8.out
                rw [hFe] at hF8
                have HF8 := Lib.hid hF8
                clear hb8 H7 K7 HG7 hgl hF8 hFe
                go_wp2_with fail
                refine HF8.out.mono ?_
                rintro e w9 ⟨rfl, hb9⟩
                have H9 := Lib.hid (H8.out.below hb9)
                have K9 := Lib.hid ((hb9.block g (lt_of_heap K8.out)).trans K8.out)
                clear hb9 HF8 hc8 H8 K8
                go_wp2_with fail
                go_roundw
                case rel => exact ⟨i + 1, L, by omega, rfl, by go_num, H9, HRL, hLn, HPL, K9⟩
                case measure => simp [intOf]; omega
              · have hno : addCode n l (c : Nat) d = 0 := by
                  unfold addCode
                  rw [if_neg (by omega), if_neg (by rw [hh']; decide), if_neg (by omega)]
                omega
            · have hA := ownG_add_any _ w1 t n l (c : Nat) d w4 a (HS.out.of_below B1.out) HG'.out HR.out (by omega)
              rcases hA with ⟨-, hno, hro, -⟩ | ⟨-, hA⟩
              · omega
              · have HA := Lib.hid hA
                clear hA
                generalize a (addCode n l (c : Nat) d) = b at *
                obtain ⟨pv, hpv⟩ : ∃ pv, sayAdd (c : Nat) b = .iface 111 pv := ⟨_, rfl⟩
                rw [hpv] at HA
                clear hpv
                have he1 := fun w : World => run_eql_held_nil (P := Tryd.prog) w 24 111 pv (by kernel_rfl)
                have HN := Lib.hid he1
                clear he1
                have f1 : ¬ (l.length : Int) < (n : Int) := by omega
                have f2 : decide (l.length < n) = false := by simp; omega
                go_wp2_with fail
                refine HA.out.mono ?_
                rintro e w5 ⟨rfl, hb5⟩
                have H5 := Lib.hid (HG'.out.below hb5)
                have K5 := Lib.hid ((hb5.block g (lt_of_heap HK'.out)).trans HK'.out)
                have hc5 := (hb5.cell (cell_lt hkv')).trans hkv'
                clear hb5 HA HG' HK' hkv'
                have he1 := HN.out
                go_wp2_with fail
                go_quiet (fail)
                have H7 := Lib.hid (H5.out.below (below_drewN _ w5 nq))
                have K7 : Hid ((w5.drewN nq).heap[g]? = some (.cells (haves l).toArray 45 (0, 0))) := K5.out
                clear H5 K5 hc5
                generalize w5.drewN nq = w7 at *
                go_wp2_with fail
                clear he1 HN HKK
                have HRL := HR
                have HPL := HP
                have hLn := hl
                clear HR HP hl hh' f1 f2 hroom
                generalize l = L at *
                have hq : has (c : Nat) L = decide (0 < kindOf (c : Nat) L) := by
                  have := kind_has HPL.out (c : Nat)
                  by_cases e : has (c : Nat) L = true
                  · have h1 := this.1 e
                    rw [e]; simp; omega
                  · have e' : has (c : Nat) L = false := by simpa using e
                    have h1 := this.2 e'
                    rw [e', h1]; simp
                have hFe : decide (n ≤ L.length) = ((L.length : Int) == (n : Int)) := by
                  by_cases e : L.length = n
                  · simp [e]
                  · have e1 : ¬ n ≤ L.length := by omega
                    have e2 : ((L.length : Int) == (n : Int)) = false := by simp; omega
                    rw [e2]; simpa using e1
                have hG7 := ownG_get _ w1 t n L (c : Nat) w7 H7.out
                rw [hq] at hG7
                have HG7 := Lib.hid hG7
                have hgl := haves_get L c c32
                clear hq hG7
                generalize kindOf (c : Nat) L = kl at *
                refine HG7.out.mono ?_
                rintro e w8 ⟨rfl, hb8⟩
                have H8 := Lib.hid (H7.out.below hb8)
                have K8 := Lib.hid ((hb8.block g (lt_of_heap K7.out)).trans K7.out)
                have hc8 := cell_of_block K8.out hgl
                have hF8 := ownG_full _ w1 t n L w8 H8.out
                rw [hFe] at hF8
                have HF8 := Lib.hid hF8
                clear hb8 H7 K7 HG7 hgl hF8 hFe
                go_wp2_with fail
                refine HF8.out.mono ?_
                rintro e w9 ⟨rfl, hb9⟩
                have H9 := Lib.hid (H8.out.below hb9)
                have K9 := Lib.hid ((hb9.block g (lt_of_heap K8.out)).trans K8.out)
                clear hb9 HF8 hc8 H8 K8
                go_wp2_with fail
                go_roundw
                case rel => exact ⟨i + 1, L, by omega, rfl, by go_num, H9, HRL, hLn, HPL, K9⟩
                case measure => simp [intOf]; omega
        · have g1 : ¬ (i : Int) < 40 := by omega
          go_wp2_with fail
          refine (ownG_list _ w1 t n l _ HG.out).mono ?_
          rintro e w8 ⟨v8, rfl, hr8, -, hb8⟩
          have H8 := Lib.hid (HG.out.below hb8)
          obtain ⟨A8, c8, rfl, -⟩ := hr8.form
          clear hr8 hb8
          go_wp2_with fail
          refine (mshrRuns_is w8 a (HS.out.of_below (B1.out.trans (H8.out.base.mono B1.out.size)))).mono ?_
          rintro e w9 ⟨rfl, hb9⟩
          have H9 := Lib.hid (H8.out.below hb9)
          clear hb9
          go_wp2
          go_ret
          exact ⟨rfl, B1.out.trans (H9.out.base.mono B1.out.size)⟩
      · have g1 : ¬ (i : Int) < (len2 : Int) := by omega
        go_wp2_with fail
        refine (ownG_list _ w1 t n l _ HG.out).mono ?_
        rintro e w8 ⟨v8, rfl, hr8, -, hb8⟩
        have H8 := Lib.hid (HG.out.below hb8)
        obtain ⟨A8, c8, rfl, -⟩ := hr8.form
        clear hr8 hb8
        go_wp2_with fail
        refine (mshrRuns_is w8 a (HS.out.of_below (B1.out.trans (H8.out.base.mono B1.out.size)))).mono ?_
        rintro e w9 ⟨rfl, hb9⟩
        have H9 := Lib.hid (H8.out.below hb9)
        clear hb9
        go_wp2
        go_ret
        exact ⟨rfl, B1.out.trans (H9.out.base.mono B1.out.size)⟩
    · have g1 : ¬ (i : Int) < (len1 : Int) := by omega
      go_wp2_with fail
      refine (ownG_list _ w1 t n l _ HG.out).mono ?_
      rintro e w8 ⟨v8, rfl, hr8, -, hb8⟩
      have H8 := Lib.hid (HG.out.below hb8)
      obtain ⟨A8, c8, rfl, -⟩ := hr8.form
      clear hr8 hb8
      go_wp2_with fail
      refine (mshrRuns_is w8 a (HS.out.of_below (B1.out.trans (H8.out.base.mono B1.out.size)))).mono ?_
      rintro e w9 ⟨rfl, hb9⟩
      have H9 := Lib.hid (H8.out.below hb9)
      clear hb9
      go_wp2
      go_ret
      exact ⟨rfl, B1.out.trans (H9.out.base.mono B1.out.size)⟩
end Go.Proofs.YtjnoaidceddpjaaDoor
