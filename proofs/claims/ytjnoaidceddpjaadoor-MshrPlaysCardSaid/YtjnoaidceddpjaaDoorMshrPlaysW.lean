/- The law MshrPlays, walked. -/
import Derived.Test.YtjnoaidceddpjaaDoorTwin
import Derived.Test.YtjnoaidceddpjaaDoorElem
import Derived.Test.YtjnoaidceddpjaaDoorAsks7
import Derived.StillTailTactics
import Derived.BigQuiet
import Derived.Deep.DrawnRows
import Derived.Deep.CutBlock
import Derived.Deep.RegionHeld3
import Derived.Deep.DeepCutAuto
namespace Go.Proofs.YtjnoaidceddpjaaDoor
open Go.RowKit Go.Extern.Stop Go.Stop Go.Extern

theorem Tryd.sizeAsk7 : (Tryd.prog.info? 83).map (·.size) = some 3 := by kernel_rfl
theorem cell_two_new (w : World) (x y : Value) (t : TypeId) : ∀ j u, [x, y][j]? = some u → (w.alloc (.cells #[x, y] t)).cell? ((⟨w.heap.size, 0, none⟩ : Addr).add j) = some u := by
  intro j u hj
  match j, hj with
  | 0, hj =>
    simp at hj
    subst hj
    simp [Addr.add]
  | 1, hj =>
    simp at hj
    subst hj
    simp [Addr.add]
theorem take_snoc_cells {l : List (Int × Int)} {i : Nat} {x y : Int} (h : l[i]? = some (x, y)) : missCells (l.take (i + 1)) = missCells (l.take i) ++ [.int .i64 x, .int .i64 y] := by
  rw [List.take_add_one, h, missCells_append]; rfl
theorem RRow.form {w : World} {v : Value} {l : List (Int × Int)} (h : RRow w v l) : ∃ A c, v = .slice A l.length c ∧ ∀ i m, l[i]? = some m → ∃ g, A = some ⟨g, 0, none⟩ ∧ w.cell? ⟨g, i * 2, none⟩ = some (.int .i64 m.1) ∧ w.cell? ⟨g, i * 2 + 1, none⟩ = some (.int .i64 m.2) := by
  rcases h.cells with ⟨rfl, rfl⟩ | ⟨g, c, rfl, -, -, hc⟩
  · exact ⟨none, 0, rfl, fun i m hm => by simp at hm⟩
  · exact ⟨_, c, rfl, fun i m hm => ⟨g, rfl, hc _ _ (missCells_get l i m hm).1, hc _ _ (missCells_get l i m hm).2⟩⟩
def opNewM : ByteArray := ⟨#[109, 115, 104, 114, 46, 78, 101, 119]⟩
attribute [local go_sem ↓] Go.wp_at_zero Go.wp_at_succ
set_option maxRecDepth 100000 in
set_option maxHeartbeats 64000000 in
theorem mshrPlays_is (most : Int) (A0 : Option Addr) (len0 cap0 : Nat) (w : World) (hrow : IsAsks7 w A0 len0) (ad : Nat → Addr) (HSE : Sents w ad) :
    Calls Tryd.prog 10 #[.int .i64 most, .slice A0 len0 cap0] w fun e w' => e = .returned (.bool true) ∧ Below w.heap.size w w' := by
  have HS := Lib.hid HSE
  have HZ := Lib.hid hrow
  clear HSE hrow
  by_cases hm : 1 ≤ most ∧ most ≤ 8
  · obtain ⟨n, rfl, n1, n8⟩ : ∃ n : Nat, most = n ∧ 1 ≤ n ∧ n ≤ 8 := ⟨most.toNat, by omega, by omega, by omega⟩
    clear hm
    go_enter Tryd.func10, Tryd.ntmps10
    go_wp2_with fail
    refine (own_new n w n1 n8).mono ?_
    rintro e w1 ⟨rfl, h⟩
    have H1 := Lib.hid h
    clear h
    go_wp2_with fail
    refine (rnewM_ok n w1 n1 n8).mono ?_
    rintro e w2 ⟨rfl, hR, hb⟩
    have T2 := Lib.hid (twin_new H1.out hR hb)
    clear hR hb H1
    generalize w1.heap.size = r at *
    generalize ht : w.heap.size = t at *
    have HT := Lib.hid ht
    clear ht
    go_wp2_with fail
    refine (keepIs_nil _ _ _).mono ?_
    rintro e w3 ⟨rfl, rfl⟩
    go_wp2_with fail
    go_loopw [9] (fun v wr => ∃ (i : Nat) (l : List (Int × Int)), i ≤ 60 ∧ v = .int .i64 i ∧ Hid (Rising l) ∧ l.length ≤ n ∧ Hid (Twin (fun _ => False) w wr t r n l l)) (fun v _ => 60 - (intOf v).toNat)
    case atStart => exact ⟨0, [], by omega, rfl, rising_nil, by simp, T2⟩
    case round =>
      clear T2
      obtain ⟨i, l, hi, rfl, HR, hl, T2⟩ := hrel
      have HR : Hid _ := HR
      have T2 : Hid _ := T2
      by_cases hlt : i < len0
      · by_cases h60 : i < 60
        · obtain ⟨x, a, b, c, rfl, hcells⟩ := HZ.out i hlt
          have HCC : Hid (∀ j u, (#[Value.int .i64 a, .int .i64 b, .int .i64 c] : Array Value).toList[j]? = some u → wr.cell? ((x.add (i * 3)).add j) = some u) := fun j u hu => (T2.out.base.cell (cell_lt (hcells j u hu))).trans (hcells j u hu)
          clear hcells
          go_upto_region 10 with (refine wpList_load_elem rfl 83 (.tmp 59) rfl (x.add (i * 3)) rfl #[.int .i64 a, .int .i64 b, .int .i64 c] _ HCC.out Tryd.underlying83 rfl Tryd.sizeAsk7 ?_)
          generalize hWA : wr.alloc _ = w3
          have hx3 : w3.heap[wr.heap.size]? = some (.cells #[.int .i64 a, .int .i64 b, .int .i64 c] 83 (0, 0)) := by rw [← hWA]; exact heap_alloc_new _ _
          have T3 : Hid (Twin (fun k => k = wr.heap.size) w w3 t r n l l) := T2.out.guard (by rw [← hWA]; exact (Below.refl _ _).alloc (Nat.le_refl _) _) (by rintro k rfl; rw [← hWA]; simp)
          clear hWA T2 HCC
          generalize wr.heap.size = b10 at *
          have HX := Lib.hid hx3
          clear hx3
          have e0 : w3.cell? ⟨b10, 0, none⟩ = some (.int .i64 a) := by simp [World.cell?, HX.out]
          go_upto_block 2 with fail
          clear e0
          go_cut [11] (fun u wx => u = .bool true ∧ ∃ l' : List (Int × Int), Hid (Rising l') ∧ l'.length ≤ n ∧ Hid (Twin (fun _ => False) w wx t r n l' l'))
          case first =>
            have e0 : w3.cell? ⟨b10, 0, none⟩ = some (.int .i64 a) := by simp [World.cell?, HX.out]
            have e1 : w3.cell? ⟨b10, 1, none⟩ = some (.int .i64 b) := by simp [World.cell?, HX.out]
            have e2 : w3.cell? ⟨b10, 2, none⟩ = some (.int .i64 c) := by simp [World.cell?, HX.out]
            by_cases ha1 : a = 1
            · subst ha1
              have hR2 := addTo_rising (line := b) (kind := c) HR.out hl
              have HR2 := Lib.hid hR2.1
              have hl2 := hR2.2
              clear hR2
              by_cases hc : addCode n l b c = 0
              · have HT1 := twin_tadd T3.out b c ad HS.out HR.out n8
                rw [show addVal ad (addCode n l b c) b = .nilIface by unfold addVal; rw [if_pos hc]] at HT1
                have HA1 := Lib.hid HT1
                have HA2 : Hid (∀ W m, Twin (fun k => k = b10) w W t r n m l → Calls Tryd.prog 41 #[.pointer (some ⟨r, 0, none⟩), .int .i64 b, .int .i64 c] W fun e w' => e = .returned (.int .i64 0) ∧ Twin (fun k => k = b10) w w' t r n m (addTo n l b c) ∧ ∀ k, k = b10 → w'.heap[k]? = W.heap[k]?) := fun W m h => by
                  have := twin_radd h b c HR.out n8
                  rw [hc] at this
                  exact this
                clear HT1 hc
                generalize addTo n l b c = l2 at *
                go_wp2_with fail
                refine HA1.out.mono ?_
                rintro e w4 ⟨rfl, hT, hs⟩
                have T4 := Lib.hid hT
                have e1' : w4.cell? ⟨b10, 1, none⟩ = some (.int .i64 b) := by rw [← e1]; simp only [World.cell?, hs b10 rfl]
                have e2' : w4.cell? ⟨b10, 2, none⟩ = some (.int .i64 c) := by rw [← e2]; simp only [World.cell?, hs b10 rfl]
                clear hT hs HA1 T3 HX e0 e1 e2
                go_wp2_with fail
                refine (HA2.out _ _ T4.out).mono ?_
                rintro e w5 ⟨rfl, hT, hs⟩
                have T5 := Lib.hid hT
                have e1 : w5.cell? ⟨b10, 1, none⟩ = some (.int .i64 b) := by rw [← e1']; simp only [World.cell?, hs b10 rfl]
                clear hT hs HA2 T4 e1' e2'
                go_wp2_with fail
                refine (keepIs_nil _ _ _).mono ?_
                rintro e w6 ⟨rfl, rfl⟩
                go_wp2_with fail
                refine (only_nil ad _ (HS.out.of_below T5.out.base)).mono ?_
                rintro e w7 ⟨rfl, hb⟩
                have T7 := Lib.hid (T5.out.below hb).free
                clear hb T5 e1
                go_wp2_with fail
                go_meet
                exact ⟨rfl, l2, HR2, hl2, T7⟩
              · have HT1 := twin_tadd T3.out b c ad HS.out HR.out n8
                rw [show addVal ad (addCode n l b c) b = .iface 111 (.agg #[.string ⟨#[109, 115, 104, 114, 46, 65, 100, 100]⟩, .int .i64 b, .iface 165 (.pointer (some (ad (addCode n l b c))))]) by unfold addVal; rw [if_neg hc]; rfl] at HT1
                have HA1 := Lib.hid HT1
                have HA2 : Hid (∀ W m, Twin (fun k => k = b10) w W t r n m l → Calls Tryd.prog 41 #[.pointer (some ⟨r, 0, none⟩), .int .i64 b, .int .i64 c] W fun e w' => e = .returned (.int .i64 (addCode n l b c : Nat)) ∧ Twin (fun k => k = b10) w w' t r n m (addTo n l b c) ∧ ∀ k, k = b10 → w'.heap[k]? = W.heap[k]?) := fun W m h => by
                  exact twin_radd h b c HR.out n8
                have hcc := addCode_few n l b c
                have k1 : 1 ≤ addCode n l b c := by omega
                have k10 : addCode n l b c ≤ 10 := by omega
                clear HT1 hc hcc
                generalize addTo n l b c = l2 at *
                generalize addCode n l b c = cd at *
                go_wp2_with fail
                refine HA1.out.mono ?_
                rintro e w4 ⟨rfl, hT, hs⟩
                have T4 := Lib.hid hT
                have e1' : w4.cell? ⟨b10, 1, none⟩ = some (.int .i64 b) := by rw [← e1]; simp only [World.cell?, hs b10 rfl]
                have e2' : w4.cell? ⟨b10, 2, none⟩ = some (.int .i64 c) := by rw [← e2]; simp only [World.cell?, hs b10 rfl]
                clear hT hs HA1 T3 HX e0 e1 e2
                go_wp2_with fail
                refine (HA2.out _ _ T4.out).mono ?_
                rintro e w5 ⟨rfl, hT, hs⟩
                have T5 := Lib.hid hT
                have e1 : w5.cell? ⟨b10, 1, none⟩ = some (.int .i64 b) := by rw [← e1']; simp only [World.cell?, hs b10 rfl]
                clear hT hs HA2 T4 e1' e2'
                go_wp2_with fail
                refine (keepIs_one _ b cd ad _ k1 k10 (HS.out.of_below T5.out.base)).mono ?_
                rintro e w6 ⟨rfl, hb⟩
                have T6 := Lib.hid (T5.out.below hb)
                clear hb T5 e1
                go_wp2_with fail
                refine (only_one _ b cd ad _ k1 k10 (HS.out.of_below T6.out.base)).mono ?_
                rintro e w7 ⟨rfl, hb⟩
                have T7 := Lib.hid (T6.out.below hb).free
                clear hb T6
                go_wp2_with fail
                go_meet
                exact ⟨rfl, l2, HR2, hl2, T7⟩
            · by_cases ha2 : a = 2
              · subst ha2
                have HG := Lib.hid (twin_tget T3.out b)
                go_wp2_with fail
                refine HG.out.mono ?_
                rintro e w4 ⟨rfl, hb⟩
                have T4 := Lib.hid (T3.out.below hb)
                have e1' : w4.cell? ⟨b10, 1, none⟩ = some (.int .i64 b) := (hb.cell (cell_lt e1)).trans e1
                clear hb HG T3 e0 e1 e2 HX
                have HG := Lib.hid (twin_rget T4.out b)
                go_wp2_with fail
                refine HG.out.mono ?_
                rintro e w5 ⟨rfl, hb⟩
                have T5 := Lib.hid (T4.out.below hb)
                clear hb HG T4 e1'
                go_wp2_with fail
                go_meet
                exact ⟨by simp, l, HR, hl, T5.out.free⟩
              · by_cases ha3 : a = 3
                · subst ha3
                  have HD1 : Hid (∀ W m, Twin (fun k => k = b10) w W t r n l m ∧ W.cell? ⟨b10, 1, none⟩ = some (.int .i64 b) → Calls Tryd.prog 38 #[.pointer (some ⟨t, 0, none⟩), .int .i64 b] W fun e w' => e = .returned (.bool (has b l)) ∧ w'.cell? ⟨b10, 1, none⟩ = some (.int .i64 b) ∧ Twin (fun k => k = b10) w w' t r n (dropOf b l) m) := fun W m h => by
                    refine (twin_tdrop h.1 b).mono ?_
                    rintro e w' ⟨rfl, h1, h2⟩
                    refine ⟨rfl, ?_, h1⟩
                    rw [← h.2]
                    simp only [World.cell?, h2 b10 rfl]
                  have HD2 : Hid (∀ W m, Twin (fun k => k = b10) w W t r n m l ∧ W.cell? ⟨b10, 1, none⟩ = some (.int .i64 b) → Calls Tryd.prog 44 #[.pointer (some ⟨r, 0, none⟩), .int .i64 b] W fun e w' => e = .returned (.bool (has b l)) ∧ w'.cell? ⟨b10, 1, none⟩ = some (.int .i64 b) ∧ Twin (fun k => k = b10) w w' t r n m (dropOf b l)) := fun W m h => by
                    refine (twin_rdrop h.1 b).mono ?_
                    rintro e w' ⟨rfl, h1, h2⟩
                    refine ⟨rfl, ?_, h1⟩
                    rw [← h.2]
                    simp only [World.cell?, h2 b10 rfl]
                  have T4 : Hid (Twin (fun k => k = b10) w w3.drew t r n l l) := T3.out.below (Below.refl _ _).drew
                  clear e0 e2
                  go_upto_region 20 with fail
                  go_region_held3 (fun w' => w'.cell? ⟨b10, 1, none⟩ = some (.int .i64 b)) (go_keep) (first
                    | (go_at_call 38; refine (HD1.out _ _ ⟨by first | exact T5.out | exact T4.out, by assumption⟩).mono ?_; rintro e w4 ⟨rfl, p1, hT⟩; have T5 := Lib.hid hT; clear hT)
                    | (go_at_call 44; refine (HD2.out _ _ ⟨by first | exact T5.out | exact T4.out, by assumption⟩).mono ?_; rintro e w4 ⟨rfl, p1, hT⟩; have T5 := Lib.hid hT; clear hT))
                  all_goals
                    have T6 := Lib.hid T5.out.free
                    clear HD1 HD2 T4 T3 HX e1
                    go_wp2_with fail
                    go_meet
                    exact ⟨by simp, dropOf b l, drop_rising b l HR.out, Nat.le_trans (drop_length b l) hl, T6⟩
                · go_wp2_with fail
                  go_meet
                  exact ⟨rfl, l, HR, hl, T3.out.free⟩
          case rest =>
            obtain ⟨rfl, l', HR', hl', T4⟩ := hcut
            have HR' : Hid _ := HR'
            have T4 : Hid _ := T4
            clear T3 HX HR hl
            obtain ⟨v, c1, hrow⟩ := T4.out.cells
            obtain ⟨A, cp, rfl, hform⟩ := RRow.form hrow
            have HF := Lib.hid hform
            clear hrow hform
            go_upto_block 3 with fail
            go_cut [18] (fun u wx => Hid (MissRow wx u l') ∧ Hid (Below wc.heap.size wc wx))
            case first =>
              go_wp2_with fail
              go_loopw [18, 127] (fun u v wr => ∃ i : Nat, i ≤ l'.length ∧ v = .int .i64 i ∧ Hid (MissRow wr u (l'.take i)) ∧ Hid (∀ k, u.ownBlock = some k → wc.heap.size ≤ k) ∧ Hid (Below wc.heap.size wc wr)) (fun _ v _ => l'.length - (intOf v).toNat)
              case atStart => exact ⟨0, by omega, rfl, World.ownsRow_nil _ _ _ _, fun k hk => by simp [Value.ownBlock] at hk, Below.refl _ _⟩
              case round =>
                obtain ⟨j, hj, rfl, HV, HO, HB⟩ := hrel
                have HV : Hid _ := HV
                have HO : Hid _ := HO
                have HB : Hid _ := HB
                by_cases hjl : j < l'.length
                · obtain ⟨⟨x, y⟩, hxy⟩ : ∃ m, l'[j]? = some m := ⟨_, List.getElem?_eq_getElem hjl⟩
                  obtain ⟨g, rfl, d0, d1⟩ := HF.out j _ hxy
                  have e0 := (HB.out.cell (cell_lt d0)).trans d0
                  have e1 := (HB.out.cell (cell_lt d1)).trans d1
                  have HXY := Lib.hid (take_snoc_cells hxy)
                  have HLN : Hid ((l'.take j).length = j) := by show _ = _; rw [List.length_take]; omega
                  clear hxy d0 d1
                  go_upto_region 25 with fail
                  generalize hW5 : wr.alloc _ = w5
                  have HV5 : Hid (MissRow w5 u18 (l'.take j)) := HV.out.below (by rw [← hW5]; exact (Below.refl _ _).alloc (Nat.le_refl _) _)
                  have HB5 : Hid (Below wc.heap.size wc w5) := by show Below _ _ _; rw [← hW5]; exact HB.out.alloc HB.out.size _
                  have f0 : w5.cell? ⟨wr.heap.size, 0, none⟩ = some (.int .i64 x) := by rw [← hW5]; simp
                  have f1 : w5.cell? ⟨wr.heap.size, 1, none⟩ = some (.int .i64 y) := by rw [← hW5]; simp
                  clear hW5 e0 e1 HV HB
                  generalize wr.heap.size = b20 at *
                  obtain ⟨i0, hi0, hzz⟩ := Option.map_eq_some_iff.1 Tryd.infoMiss
                  have hz0 : i0.zero = some (.agg #[.int .i64 0, .int .i64 0]) := congrArg Prod.fst hzz
                  have hz1 : i0.size = 2 := congrArg (fun z => z.2.1) hzz
                  have hz2 : i0.bytes = 16 := congrArg (fun z => z.2.2) hzz
                  clear hzz
                  have HV6 : Hid ((w5.alloc (.cells #[.int .i64 x, .int .i64 y] 91)).ownsRow 0 91 2 u18 j (missCells (l'.take j))) := by
                    have h := HV5.out.below ((Below.refl _ w5).alloc (Nat.le_refl _) (.cells #[.int .i64 x, .int .i64 y] 91))
                    unfold MissRow at h
                    rw [HLN.out] at h
                    exact h
                  go_wp2_with (at_builtin; refine wpList_append_own_at _ rfl (.tmp 131) (.tmp 137) 76 rfl 0 91 i0 (.agg #[.int .i64 0, .int .i64 0]) 2 16 Tryd.underlying76 hi0 hz0 hz1 hz2 rfl (by decide) u18 j (missCells (l'.take j)) rfl HV6.out ⟨w5.heap.size, 0, none⟩ 1 1 [.int .i64 x, .int .i64 y] rfl rfl (cell_two_new _ _ _ _) (by simp [Value.oneCell']) (by unfold maxLen; omega) (by omega) (by omega) ?_; intro v' w6 hown' hgrow _ hat; have Hown := Lib.hid hown'; have Hg := Lib.hid hgrow; have Hat := Lib.hid hat; clear hown' hgrow hat)
                  have HB6 : Hid (Below wc.heap.size wc w6) := below_grown (HB5.out.alloc HB5.out.size _) Hg.out (by have := HB5.out.size; simp; omega) HO.out
                  have HO6 : Hid (∀ k, v'.ownBlock = some k → wc.heap.size ≤ k) := fun k hk => by
                    rcases Hat.out with h | h
                    · exact HO.out k (h ▸ hk)
                    · rw [h] at hk
                      have := HB5.out.size
                      simp at hk
                      omega
                  have HM6 : Hid (MissRow w6 v' (l'.take (j + 1))) := by
                    show MissRow _ _ _
                    refine MissRow.of_owns (base := 0) ?_
                    rw [HXY.out, show (l'.take (j + 1)).length = j + 1 by rw [List.length_take]; omega]
                    exact Hown.out
                  clear Hown Hg Hat HV6 HV5 HB5 HO f0 f1 hi0 hz0 hz1 hz2
                  go_roundw
                  case rel => exact ⟨j + 1, by omega, by go_num, HM6, HO6, HB6⟩
                  case measure => simp [intOf]; omega
                · obtain rfl : j = l'.length := by omega
                  rw [List.take_length] at HV
                  go_wp2_with fail
                  go_meet
                  exact ⟨HV, HB⟩
            case rest =>
              obtain ⟨HV, HB⟩ := hcut
              have HV : Hid _ := HV
              have HB : Hid _ := HB
              have T5 := Lib.hid (T4.out.below HB.out)
              obtain ⟨A2, c2, rfl, -⟩ := HV.out.form
              clear T4 HF c1 HB
              have HLS := Lib.hid (own_list2 _ _ _ _ _ T5.out.own)
              go_wp2_with fail
              refine HLS.out.mono ?_
              rintro e w8 ⟨v8, rfl, h8, -, hb⟩
              have T8 := Lib.hid (T5.out.below hb)
              have HV8 := Lib.hid (HV.out.below hb)
              have H8 := Lib.hid h8
              clear hb h8 HLS T5 HV
              have HSM := Lib.hid (sameMiss v8 _ l' l' w8 H8.out HV8.out (by omega) (by omega))
              go_wp2_with fail
              refine HSM.out.mono ?_
              rintro e w9 ⟨rfl, hb⟩
              have T9 := Lib.hid (T8.out.below hb)
              clear hb HSM T8 H8 HV8
              have HFU := Lib.hid (twin_full T9.out)
              by_cases hn : l'.length = n
              · have hd : decide (n ≤ l'.length) = true := by simp; omega
                rw [hd] at HFU
                have HLN := Lib.hid hn
                have hlI : (l'.length : Int) = (n : Int) := by omega
                clear hd hl'
                simp only [decide_true]
                go_wp2_with fail
                refine HFU.out.mono ?_
                rintro e w10 ⟨rfl, hb⟩
                have T10 := Lib.hid (T9.out.below hb)
                clear hb HFU T9
                go_wp2_with fail
                go_roundw
                case rel => exact ⟨i + 1, l', by omega, by go_num, HR', by rw [HLN.out]; exact Nat.le_refl _, T10⟩
                case measure => simp [intOf]; omega
              · have hd : decide (n ≤ l'.length) = false := by simp; omega
                rw [hd] at HFU
                have HLN := Lib.hid hl'
                have hlI : ((l'.length : Int) == (n : Int)) = false := by simp; omega
                clear hd hl' hn
                simp only [decide_true]
                go_wp2_with fail
                refine HFU.out.mono ?_
                rintro e w10 ⟨rfl, hb⟩
                have T10 := Lib.hid (T9.out.below hb)
                clear hb HFU T9
                go_wp2_with fail
                go_roundw
                case rel => exact ⟨i + 1, l', by omega, by go_num, HR', HLN.out, T10⟩
                case measure => simp [intOf]; omega
        · go_wp2_with fail
          refine (mshrRuns_is wr ad (HS.out.of_below T2.out.base)).mono ?_
          rintro r wz ⟨rfl, hb⟩
          have HZZ := Lib.hid (T2.out.base.trans (hb.mono T2.out.base.size))
          clear hb T2
          go_wp2
          go_ret
          exact ⟨rfl, HZZ.out⟩
      · go_wp2_with fail
        refine (mshrRuns_is wr ad (HS.out.of_below T2.out.base)).mono ?_
        rintro r wz ⟨rfl, hb⟩
        have HZZ := Lib.hid (T2.out.base.trans (hb.mono T2.out.base.size))
        clear hb T2
        go_wp2
        go_ret
        exact ⟨rfl, HZZ.out⟩
  · have hx : most < 1 ∨ 8 < most := by omega
    clear hm
    go_enter Tryd.func10, Tryd.ntmps10
    go_wp2_with fail
    refine (newTab_no most w ad HS.out hx).mono ?_
    rintro e w1 ⟨rfl, hb⟩
    have B1 := Lib.hid hb
    clear hb
    go_wp2_with fail
    refine (rnewM_no most w1 hx).mono ?_
    rintro e w2 ⟨rfl, rfl⟩
    clear hx
    go_wp2_with fail
    refine (keepIs_one _ most 1 ad _ (by omega) (by omega) (HS.out.of_below B1.out)).mono ?_
    rintro e w3 ⟨rfl, hb⟩
    have B3 := Lib.hid (B1.out.trans (hb.mono B1.out.size))
    clear hb B1
    by_cases h0 : 0 < len0
    · have h0I : (0 : Int) < (len0 : Int) := by omega
      go_wp2_with fail
      refine wp_loop_rounds 1 ?_
      rw [rounds_succ]
      go_wp2_with fail
      refine (mshrRuns_is w3 ad (HS.out.of_below B3.out)).mono ?_
      rintro r wz ⟨rfl, hb⟩
      have HZZ := Lib.hid (B3.out.trans (hb.mono B3.out.size))
      clear hb B3
      go_wp2
      go_ret
      exact ⟨rfl, HZZ.out⟩
    · obtain rfl : len0 = 0 := by omega
      go_wp2_with fail
      refine wp_loop_rounds 1 ?_
      rw [rounds_succ]
      go_wp2_with fail
      refine (mshrRuns_is w3 ad (HS.out.of_below B3.out)).mono ?_
      rintro r wz ⟨rfl, hb⟩
      have HZZ := Lib.hid (B3.out.trans (hb.mono B3.out.size))
      clear hb B3
      go_wp2
      go_ret
      exact ⟨rfl, HZZ.out⟩
end Go.Proofs.YtjnoaidceddpjaaDoor
