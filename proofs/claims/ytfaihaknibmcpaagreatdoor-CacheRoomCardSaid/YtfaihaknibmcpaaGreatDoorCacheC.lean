/- A cache (package cache) in memory: its lines, what it has under way; what its parts' calls leave of it. A cache: usable, used. A cache: Read, Write, Peek, Entries, Misses. -/
import Derived.Test.YtfaihaknibmcpaaGreatDoorTot
import Derived.Test.YtfaihaknibmcpaaGreatDoorMshrO
import Derived.StillTailTactics
namespace Go.Proofs.YtfaihaknibmcpaaGreatDoor
open Go.RowKit Go.Extern.Stop Go.Stop Go.Extern

theorem OwnG.aside {G : Nat → Prop} {w0 w w' : World} {t most : Nat} {l : List (Int × Int)} (h : OwnG G w0 w t most l) {T : Nat → Prop} (hT : Turned T w w') (hd : ∀ q, T q → G q ∧ w0.heap.size ≤ q) : OwnG G w0 w' t most l := by
  obtain ⟨v, hO, hG⟩ := h
  refine ⟨v, ⟨⟨?_, ?_, hO.tab.ne, hO.tab.few⟩, ?_, hO.ht, hO.hv⟩, fun k hk => ⟨(hG k hk).1, (hG k hk).2.1, Nat.lt_of_lt_of_le (hG k hk).2.2 hT.size⟩⟩
  · rw [hT.block t (lt_of_heap hO.tab.box) (fun e => (hG t (hd t e).1).1 rfl)]
    exact hO.tab.box
  · exact hO.tab.row.of_block (fun k hk => hT.block k (hO.tab.row.lt hk) (fun e => (hG k (hd k e).1).2.1 hk))
  · exact hO.base.trans (hT.below hO.base.size (fun k hk e => by have := (hd k e).2; omega))
/-- A new block may be named beside the guarded ones. -/
theorem OwnG.more {G G' : Nat → Prop} {w0 w w' : World} {t most : Nat} {l : List (Int × Int)} (h : OwnG G w0 w t most l) (hb : Below w.heap.size w w') (hG : ∀ k, G' k → G k ∨ (w.heap.size ≤ k ∧ k < w'.heap.size)) : OwnG G' w0 w' t most l := by
  obtain ⟨v, h, hg⟩ := h
  refine ⟨v, ⟨h.tab.below hb, h.base.trans (hb.mono h.base.size), h.ht, h.hv⟩, fun k hk => ?_⟩
  have h2 := lt_of_heap h.tab.box
  rcases hG k hk with h1 | h1
  · exact ⟨(hg k h1).1, (hg k h1).2.1, Nat.lt_of_lt_of_le (hg k h1).2.2 hb.size⟩
  · refine ⟨by omega, fun e => ?_, h1.2⟩
    have := h.tab.row.lt e
    omega
/-- What a cache holds: whose it is, how many sets, ways, misses; its sets, what is under way. -/
structure CSt where
  core : Int
  n : Nat
  k : Nat
  most : Nat
  S : List SetSt
  l : List (Int × Int)
/-- Where its parts lie. -/
structure CAddr where
  c : Nat
  a : Nat
  gs : Nat
  t : Nat
  gl : List Nat
def Kept (A : CAddr) (q : Nat) : Prop := q = A.c ∨ q = A.a ∨ Mine A.gs A.gl q
/-- A cache that was made after w0, apart from the blocks of G. -/
structure CacheAt (G : Nat → Prop) (w0 w : World) (A : CAddr) (q : CSt) : Prop where
  box : w.heap[A.c]? = some (.cells #[.int .i64 q.core, .int .i64 (q.n : Nat), .pointer (some ⟨A.a, 0, none⟩), .pointer (some ⟨A.t, 0, none⟩)] 80 (0, 0))
  arr : Arr w0 w A.a A.gs q.k A.gl q.S
  tab : OwnG (fun k => Kept A k ∨ G k) w0 w A.t q.most q.l
  apart : ∀ k, G k → k ≠ A.c ∧ k ≠ A.a ∧ ¬ Mine A.gs A.gl k ∧ w0.heap.size ≤ k ∧ k < w.heap.size
  cne : A.c ≠ A.a ∧ ¬ Mine A.gs A.gl A.c ∧ w0.heap.size ≤ A.c
  rise : Rising q.l
  m8 : q.most ≤ 8
  len : q.S.length = q.n
section
variable {G : Nat → Prop} {w0 w w' : World} {A : CAddr} {q : CSt}
theorem CacheAt.base (h : CacheAt G w0 w A q) : Below w0.heap.size w0 w := h.arr.base
theorem CacheAt.cells (h : CacheAt G w0 w A q) : w.cell? ⟨A.c, 0, none⟩ = some (.int .i64 q.core) ∧ w.cell? ⟨A.c, 1, none⟩ = some (.int .i64 (q.n : Nat)) ∧ w.cell? ⟨A.c, 2, none⟩ = some (.pointer (some ⟨A.a, 0, none⟩)) ∧ w.cell? ⟨A.c, 3, none⟩ = some (.pointer (some ⟨A.t, 0, none⟩)) := by
  simp [World.cell?, h.box]
theorem CacheAt.more (h : CacheAt G w0 w A q) (hb : Below w.heap.size w w') {G' : Nat → Prop} (hG : ∀ k, G' k → G k ∨ (w.heap.size ≤ k ∧ k < w'.heap.size)) : CacheAt G' w0 w' A q := by
  have hu := h.arr.under
  have hc := lt_of_heap h.box
  refine ⟨(hb.block A.c hc).trans h.box, h.arr.below hb, h.tab.more hb ?_, ?_, h.cne, h.rise, h.m8, h.len⟩
  · rintro k (hk | hk)
    · exact .inl (.inl hk)
    · rcases hG k hk with h1 | h1
      · exact .inl (.inr h1)
      · exact .inr h1
  · intro k hk
    rcases hG k hk with h1 | h1
    · have h2 := h.apart k h1
      exact ⟨h2.1, h2.2.1, h2.2.2.1, h2.2.2.2.1, Nat.lt_of_lt_of_le h2.2.2.2.2 hb.size⟩
    · have h2 := h.base.size
      exact ⟨by omega, fun e => by have := hu k (.inl e); omega, fun e => by have := hu k (.inr e); omega, by omega, h1.2⟩
theorem CacheAt.below (h : CacheAt G w0 w A q) (hb : Below w.heap.size w w') : CacheAt G w0 w' A q := h.more hb fun _ hk => .inl hk
theorem CacheAt.less (h : CacheAt G w0 w A q) {G' : Nat → Prop} (hG : ∀ k, G' k → G k) : CacheAt G' w0 w A q := h.more (Below.refl _ _) fun k hk => .inl (hG k hk)
/-- A guarded block is written. -/
theorem CacheAt.aside (h : CacheAt G w0 w A q) {T : Nat → Prop} (hT : Turned T w w') (hd : ∀ k, T k → G k) : CacheAt G w0 w' A q := by
  refine ⟨(hT.block A.c (lt_of_heap h.box) fun e => (h.apart _ (hd _ e)).1 rfl).trans h.box, h.arr.aside hT fun k hk => ⟨(h.apart k (hd k hk)).2.1, (h.apart k (hd k hk)).2.2.1, (h.apart k (hd k hk)).2.2.2.1⟩, h.tab.aside hT fun k hk => ⟨.inr (hd k hk), (h.apart k (hd k hk)).2.2.2.1⟩, ?_, h.cne, h.rise, h.m8, h.len⟩
  intro k hk
  have h2 := h.apart k hk
  exact ⟨h2.1, h2.2.1, h2.2.2.1, h2.2.2.2.1, Nat.lt_of_lt_of_le h2.2.2.2.2 hT.size⟩
/-- The sets are turned. -/
theorem CacheAt.setsTo (h : CacheAt G w0 w A q) {S' : List SetSt} (hA : Arr w0 w' A.a A.gs q.k A.gl S') (hT : Turned (Mine A.gs A.gl) w w') (hn : S'.length = q.S.length) : CacheAt G w0 w' A { q with S := S' } ∧ ∀ k, G k → w'.heap[k]? = w.heap[k]? := by
  refine ⟨⟨(hT.block A.c (lt_of_heap h.box) h.cne.2.1).trans h.box, hA, h.tab.aside hT fun k hk => ⟨.inl (.inr (.inr hk)), (h.arr.far k hk).1⟩, ?_, h.cne, h.rise, h.m8, hn.trans h.len⟩, fun k hk => hT.block k (h.apart k hk).2.2.2.2 (h.apart k hk).2.2.1⟩
  intro k hk
  have h2 := h.apart k hk
  exact ⟨h2.1, h2.2.1, h2.2.2.1, h2.2.2.2.1, Nat.lt_of_lt_of_le h2.2.2.2.2 hT.size⟩
/-- What is under way is turned. -/
theorem CacheAt.missesTo (h : CacheAt G w0 w A q) {l' : List (Int × Int)} (hO : OwnG (fun k => Kept A k ∨ G k) w0 w' A.t q.most l') (hk : ∀ k, Kept A k ∨ G k → w'.heap[k]? = w.heap[k]?) (hr : Rising l') (hsz : w.heap.size ≤ w'.heap.size) : CacheAt G w0 w' A { q with l := l' } ∧ ∀ k, G k → w'.heap[k]? = w.heap[k]? := by
  refine ⟨⟨(hk A.c (.inl (.inl rfl))).trans h.box, ⟨⟨(hk A.a (.inl (.inr (.inl rfl)))).trans h.arr.arr.box, (hk A.gs (.inl (.inr (.inr (.inl rfl))))).trans h.arr.arr.sets, fun s hs => (hk s.g (.inl (.inr (.inr (.inr (h.arr.mem hs)))))).trans (h.arr.arr.ways s hs), h.arr.arr.len, h.arr.arr.ne, h.arr.arr.apart, h.arr.arr.above, h.arr.arr.many⟩, hO.base, h.arr.gl, h.arr.bits⟩, hO, ?_, h.cne, hr, h.m8, h.len⟩, fun k hg => hk k (.inr hg)⟩
  intro k hg
  have h2 := h.apart k hg
  exact ⟨h2.1, h2.2.1, h2.2.2.1, h2.2.2.2.1, Nat.lt_of_lt_of_le h2.2.2.2.2 hsz⟩
end
theorem modS_length (S : List SetSt) (x : Int) (f : SetSt → SetSt) : (modS S x f).length = S.length := by
  unfold modS
  split
  · rw [List.length_set]
  · rfl
theorem putS_length (S : List SetSt) (e : Ent) : (putS S e).length = S.length := by
  unfold putS
  split
  · split
    · exact modS_length _ _ _
    · rfl
  · rfl
theorem dropS_length (S : List SetSt) (x : Int) : (dropS S x).length = S.length := by
  unfold dropS
  split
  · exact modS_length _ _ _
  · rfl
theorem touchS_length (k : Nat) (S : List SetSt) (x : Int) : (touchS k S x).length = S.length := by
  unfold touchS
  split
  · exact modS_length _ _ _
  · rfl
def addL (most : Nat) (l : List (Int × Int)) (x k : Int) : List (Int × Int) := if addCode most l x k = 0 then insOf x k l else l
def addSays (ad : Nat → Addr) (most : Nat) (l : List (Int × Int)) (x k : Int) : Value := if addCode most l x k = 0 then .nilIface else sayAdd x (ad (addCode most l x k))
section
variable {G : Nat → Prop} {w0 w : World} {A : CAddr} {q : CSt}
theorem c_get (h : CacheAt G w0 w A q) (x : Int) :
    Calls Tryz.prog 38 #[.pointer (some ⟨A.a, 0, none⟩), .int .i64 x] w fun e w' => e = .returned (.tuple #[((getS q.S x).getD Ent.none).val, .bool (getS q.S x).isSome]) ∧ Below w.heap.size w w' := tot_get h.arr x
theorem c_put (h : CacheAt G w0 w A q) (ad : Nat → Addr) (HSE : Sents w0 ad) (e : Ent) :
    Calls Tryz.prog 69 #[.pointer (some ⟨A.a, 0, none⟩), e.val] w fun x w' => x = .returned (putSays ad q.S e) ∧ CacheAt G w0 w' A { q with S := putS q.S e } ∧ ∀ k, G k → w'.heap[k]? = w.heap[k]? :=
  (tot_put h.arr ad HSE e).mono fun _ _ hx => ⟨hx.1, h.setsTo hx.2.1 hx.2.2 (putS_length _ _)⟩
theorem c_drop (h : CacheAt G w0 w A q) (x : Int) :
    Calls Tryz.prog 68 #[.pointer (some ⟨A.a, 0, none⟩), .int .i64 x] w fun e w' => e = .returned (.bool (idxS q.S x).isSome) ∧ CacheAt G w0 w' A { q with S := dropS q.S x } ∧ ∀ k, G k → w'.heap[k]? = w.heap[k]? :=
  (tot_drop h.arr x).mono fun _ _ hx => ⟨hx.1, h.setsTo hx.2.1 hx.2.2 (dropS_length _ _)⟩
theorem c_touch (h : CacheAt G w0 w A q) (x : Int) :
    Calls Tryz.prog 75 #[.pointer (some ⟨A.a, 0, none⟩), .int .i64 x] w fun e w' => e = .returned (.bool (idxS q.S x).isSome) ∧ CacheAt G w0 w' A { q with S := touchS q.k q.S x } ∧ ∀ k, G k → w'.heap[k]? = w.heap[k]? :=
  (tot_touch h.arr x).mono fun _ _ hx => ⟨hx.1, h.setsTo hx.2.1 hx.2.2 (touchS_length _ _ _)⟩
theorem c_room (h : CacheAt G w0 w A q) (x : Int) :
    Calls Tryz.prog 40 #[.pointer (some ⟨A.a, 0, none⟩), .int .i64 x] w fun e w' => e = .returned (.bool (roomS q.S x)) ∧ Below w.heap.size w w' := tot_room h.arr x
theorem c_under (h : CacheAt G w0 w A q) (x : Int) :
    Calls Tryz.prog 37 #[.pointer (some ⟨A.t, 0, none⟩), .int .i64 x] w fun e w' => e = .returned (.tuple #[.int .i64 (kindOf x q.l), .bool (has x q.l)]) ∧ Below w.heap.size w w' := ownG_get _ _ _ _ _ x w h.tab
theorem c_end (h : CacheAt G w0 w A q) (x : Int) :
    Calls Tryz.prog 66 #[.pointer (some ⟨A.t, 0, none⟩), .int .i64 x] w fun e w' => e = .returned (.bool (has x q.l)) ∧ CacheAt G w0 w' A { q with l := dropOf x q.l } ∧ ∀ k, G k → w'.heap[k]? = w.heap[k]? := by
  obtain ⟨v, hO, hG⟩ := h.tab
  refine (drop_is A.t q.most q.l v x w hO.tab).mono ?_
  rintro e w1 ⟨rfl, v', a1, a2, a3⟩
  obtain ⟨b1, b2⟩ := OwnG.turned hO hG a1 (.inl a2) a3
  exact ⟨rfl, h.missesTo b1 b2 (drop_rising x q.l h.rise) a3.size⟩
theorem addCode_cases (most : Nat) (l : List (Int × Int)) (x k : Int) (h : addCode most l x k = 0) : has x l = false ∧ l.length < most ∧ 0 ≤ x ∧ x < 32 ∧ 1 ≤ k ∧ k ≤ 4 := by
  unfold addCode at h
  repeat' split at h
  all_goals first
    | (simp at h; done)
    | (simp_all; done)
    | (simp_all; omega)
theorem c_add (h : CacheAt G w0 w A q) (ad : Nat → Addr) (HSE : Sents w0 ad) (x k : Int) :
    Calls Tryz.prog 42 #[.pointer (some ⟨A.t, 0, none⟩), .int .i64 x, .int .i64 k] w fun e w' => e = .returned (addSays ad q.most q.l x k) ∧ CacheAt G w0 w' A { q with l := addL q.most q.l x k } ∧ ∀ k, G k → w'.heap[k]? = w.heap[k]? := by
  rcases ownG_add_any _ w0 A.t q.most q.l x k w ad HSE h.tab h.rise h.m8 with ⟨h1, h2, h3, h4, h5, h6, h7, -⟩ | ⟨h1, h2⟩
  · obtain ⟨v, hO, hG⟩ := h.tab
    refine (add_in A.t q.most q.l v x k w hO.tab h.rise h4 h5 h6 h7 h2 (by omega) h.m8).mono ?_
    rintro e w1 ⟨rfl, v', a1, a2, a3⟩
    obtain ⟨b1, b2⟩ := OwnG.turned hO hG a1 a2 a3
    unfold addSays addL
    rw [if_pos h1, if_pos h1]
    exact ⟨rfl, h.missesTo b1 b2 (ins_rising x k q.l h.rise h2 h4 h5) a3.size⟩
  · refine h2.mono ?_
    rintro e w1 ⟨rfl, hb⟩
    have h0 : ¬ addCode q.most q.l x k = 0 := by omega
    unfold addSays addL
    rw [if_neg h0, if_neg h0]
    exact ⟨rfl, h.below hb, fun k hk => hb.block k (h.apart k hk).2.2.2.2⟩
end
end Go.Proofs.YtfaihaknibmcpaaGreatDoor
namespace Go.Proofs.YtfaihaknibmcpaaGreatDoor
open Go.RowKit Go.Extern.Stop Go.Stop Go.Extern

/-- May a word of an entry be read? -/
def okE (o : Option Ent) (word : Int) : Bool := match o with
  | some e => !e.h && (decide (0 ≤ word) && decide (word < 4))
  | none => false
section
variable {G : Nat → Prop} {w0 w : World} {A : CAddr} {q : CSt}
set_option maxRecDepth 100000 in
set_option maxHeartbeats 4000000 in
theorem usable_is (h : CacheAt G w0 w A q) (x word : Int) :
    Calls Tryz.prog 53 #[.pointer (some ⟨A.c, 0, none⟩), .int .i64 x, .int .i64 word] w fun e w' => e = .returned (.tuple #[((getS q.S x).getD Ent.none).val, .bool (okE (getS q.S x) word)]) ∧ Below w.heap.size w w' := by
  have hA : ∀ o, Below w.heap.size w (w.alloc o) := fun o => (Below.refl _ _).alloc (Nat.le_refl _) _
  have HA := Lib.hid hA
  have HG : Hid (∀ o, _) := fun o => c_get (h.below (hA o)) x
  obtain ⟨c0, c1, c2, c3⟩ := h.cells
  have hlt := lt_of_heap h.box
  have b2 : ∀ o, (w.alloc o).cell? ⟨A.c, 2, none⟩ = some (.pointer (some ⟨A.a, 0, none⟩)) := fun o => by rw [World.cell?_alloc_lt _ _ _ hlt]; exact c2
  clear h hA c0 c1 c2 c3 hlt
  generalize getS q.S x = o at *
  have HONE := Lib.hid (all_oneCell_toArray (ent_one (o.getD Ent.none)))
  have HOK : Hid (okE o word = (o.isSome && (!(o.getD Ent.none).h && (decide (0 ≤ word) && decide (word < 4))))) := by
    cases o <;> rfl
  generalize okE o word = ok at *
  generalize o.isSome = is at *
  generalize o.getD Ent.none = e at *
  go_enter Tryz.func53, Tryz.ntmps53
  go_wp2_with fail
  refine (HG.out _).mono ?_
  rintro r w1 ⟨rfl, hb⟩
  have HB1 := Lib.hid ((HA.out _).trans (hb.mono (HA.out _).size))
  have hres : w1.heap[w.heap.size]? = some (.cells #[.int .i64 0, .int .i64 0, .int .i64 0, .int .i64 0, .int .u32 0, .int .u32 0, .int .u32 0, .int .u32 0, .bool false, .bool false] 65 (0, 0)) := by
    rw [hb.block _ (by simp)]
    exact heap_alloc_new _ _
  have hlt1 := lt_of_heap hres
  have HRES : Hid (∀ o, (w1.alloc o).heap[w.heap.size]? = some (.cells #[.int .i64 0, .int .i64 0, .int .i64 0, .int .i64 0, .int .u32 0, .int .u32 0, .int .u32 0, .int .u32 0, .bool false, .bool false] 65 (0, 0))) := fun o => by
    rw [((Below.refl w1.heap.size w1).alloc (Nat.le_refl _) o).block _ hlt1]
    exact hres
  clear hb hres HG HA b2
  obtain ⟨el, es, em, ee, e0, e1, e2, e3, eh, ef⟩ := e
  simp only [Ent.val] at *
  cases is
  all_goals cases eh
  all_goals by_cases h0 : 0 ≤ word
  all_goals by_cases h4 : word < 4
  all_goals try (exfalso; omega)
  all_goals
    have HOK2 := HOK
    simp only [h0, h4, decide_true, decide_false, Bool.and_true, Bool.and_false, Bool.not_false, Bool.not_true] at HOK2
    clear HOK
    have HE := HOK2.out
    subst HE
    go_wp2_with (refine wpList_store_row rfl 65 (.tmp 6) (.tmp 19) rfl w.heap.size _ rfl rfl 65 _ (HRES.out _) Tryz.sizeEnt rfl HONE.out ?_)
    exact ⟨rfl, _, ret_ent Tryz.results53 _ _ _ _ rfl (heap_setRow (HRES.out _) _) rfl, rfl, below_setRow (HB1.out.alloc HB1.out.size _) (Nat.le_refl _) _⟩
def usedQ (q : CSt) (e : Ent) : CSt := { q with S := touchS q.k (putS q.S { e with f := false }) e.line }
set_option maxRecDepth 100000 in
set_option maxHeartbeats 4000000 in
theorem used_is (h : CacheAt G w0 w A q) (ad : Nat → Addr) (HSE : Sents w0 ad) (e : Ent) :
    Calls Tryz.prog 54 #[.pointer (some ⟨A.c, 0, none⟩), e.val] w fun x w' => x = .returned (.tuple #[]) ∧ CacheAt G w0 w' A (usedQ q e) ∧ ∀ k, G k → w'.heap[k]? = w.heap[k]? := by
  have HS := Lib.hid HSE
  have H := Lib.hid h
  have hsz : Hid (∀ k, G k → k < w.heap.size) := fun k hk => (h.apart k hk).2.2.2.2
  clear h HSE
  generalize hq : usedQ q e = q2
  have HQ2 := Lib.hid hq
  clear hq
  obtain ⟨x, s, m, ep, d0, d1, d2, d3, hh, ff⟩ := e
  simp only [Ent.val]
  go_enter Tryz.func54, Tryz.ntmps54
  go_wp2_with fail
  generalize hW : w.alloc _ = wa
  have hbox : wa.heap[w.heap.size]? = some (.cells (Ent.cells ⟨x, s, m, ep, d0, d1, d2, d3, hh, false⟩).toArray 65 (0, 0)) := by rw [← hW]; exact heap_alloc_new _ _
  have hbel : Below w.heap.size w wa := by rw [← hW]; exact (Below.refl _ _).alloc (Nat.le_refl _) _
  have HK1 : Hid (∀ k, G k → wa.heap[k]? = w.heap[k]?) := fun k hk => hbel.block k (hsz.out k hk)
  have H1 : Hid (CacheAt (fun k => G k ∨ k = w.heap.size) w0 wa A q) := H.out.more hbel fun k hk => hk.elim .inl fun e => .inr ⟨by omega, by have := lt_of_heap hbox; omega⟩
  clear hW hbel H hsz
  generalize w.heap.size = b at *
  obtain ⟨e0, e1, e2, e3, e4, e5, e6, e7, e8, e9⟩ := box_cells hbox
  obtain ⟨-, -, c2, -⟩ := H1.out.cells
  go_still_tail 5, (by kernel_rfl)
  change wpList _ _ _ _ _ wa.drew
  have H2 := Lib.hid (H1.out.below (w' := wa.drew) (Below.refl _ _).drew)
  have HB2 : Hid (wa.drew.heap[b]? = some (.cells (Ent.cells ⟨x, s, m, ep, d0, d1, d2, d3, hh, false⟩).toArray 65 (0, 0))) := hbox
  have HK2 : Hid (∀ k, G k → wa.drew.heap[k]? = w.heap[k]?) := HK1.out
  clear e0 e1 e2 e3 e4 e5 e6 e7 e8 e9 c2 hbox H1 HK1
  generalize wa.drew = wb at *
  go_wp2_with fail
  refine (c_put H2.out ad HS.out ⟨x, s, m, ep, d0, d1, d2, d3, hh, false⟩).mono ?_
  rintro r wc ⟨rfl, hA, hk⟩
  have H3 := Lib.hid hA
  have hbox := (hk b (.inr rfl)).trans HB2.out
  have HK3 : Hid (∀ k, G k → wc.heap[k]? = w.heap[k]?) := fun k hG => (hk k (.inl hG)).trans (HK2.out k hG)
  have HB3 := Lib.hid hbox
  obtain ⟨e0, e1, e2, e3, e4, e5, e6, e7, e8, e9⟩ := box_cells hbox
  obtain ⟨-, -, c2, -⟩ := H3.out.cells
  clear hA hk HB2 HK2 H2 hbox e1 e2 e3 e4 e5 e6 e7 e8 e9
  generalize putSays ad q.S _ = ps at *
  go_wp2_with fail
  go_still_tail 6, (by kernel_rfl)
  change wpList _ _ _ _ _ wc.drew
  have H4 := Lib.hid (H3.out.below (w' := wc.drew) (Below.refl _ _).drew)
  have HK4 : Hid (∀ k, G k → wc.drew.heap[k]? = w.heap[k]?) := HK3.out
  clear c2 e0 H3 HK3 HB3
  generalize wc.drew = wd at *
  go_wp2_with fail
  refine (c_touch H4.out x).mono ?_
  rintro r we ⟨rfl, hA, hk⟩
  have H5 : Hid (CacheAt G w0 we A q2) := by rw [← HQ2.out]; exact CacheAt.less hA fun k hG => .inl hG
  have HK5 : Hid (∀ k, G k → we.heap[k]? = w.heap[k]?) := fun k hG => (hk k (.inl hG)).trans (HK4.out k hG)
  clear hA hk H4 HK4 HQ2
  go_wp2
  go_end0
  exact ⟨rfl, H5.out, HK5.out⟩
end
end Go.Proofs.YtfaihaknibmcpaaGreatDoor
namespace Go.Proofs.YtfaihaknibmcpaaGreatDoor
open Go.RowKit Go.Extern.Stop Go.Stop Go.Extern Go.Proofs.YtfaihaknibmcpaaGreatDoor.PCacheFull Go.Proofs.YtfaihaknibmcpaaGreatDoorW.PrintWords

/-- May it be written? -/
def writesB (s : Int) : Bool := (s == 2) || (s == 4)
theorem writes_is (s : Int) (w : World) : Calls Tryz.prog 58 #[.int .i64 s] w fun e w' => e = .returned (.bool (writesB s)) ∧ Below w.heap.size w w' := by
  refine (state_Writes.calls s (writesB s) w ?_).mono ?_
  · unfold state_Writes.f writesB
    by_cases h : s = 2 <;> simp [h]
  · rintro e w' ⟨rfl, hd⟩
    obtain ⟨n, rfl⟩ := hd.out
    exact ⟨rfl, below_drewN _ _ _⟩
/-- A word of an entry; an entry with a word turned. -/
def wordE (e : Ent) (i : Int) : Int := if i = 0 then e.d0 else if i = 1 then e.d1 else if i = 2 then e.d2 else e.d3
def setWordE (e : Ent) (i v : Int) : Ent := if i = 0 then { e with d0 := v } else if i = 1 then { e with d1 := v } else if i = 2 then { e with d2 := v } else { e with d3 := v }
def readV (q : CSt) (x word : Int) : Int := if okE (getS q.S x) word then wordE ((getS q.S x).getD Ent.none) word else 0
def readTo (q : CSt) (x word : Int) : CSt := if okE (getS q.S x) word then usedQ q ((getS q.S x).getD Ent.none) else q
def writeOk (q : CSt) (x word : Int) : Bool := okE (getS q.S x) word && writesB ((getS q.S x).getD Ent.none).state
def writeTo (q : CSt) (x word v : Int) : CSt := if writeOk q x word then usedQ q (setWordE { (getS q.S x).getD Ent.none with state := 4 } word v) else q
theorem okE_word {o : Option Ent} {word : Int} (h : okE o word = true) : word = 0 ∨ word = 1 ∨ word = 2 ∨ word = 3 := by
  cases o with
  | none => cases h
  | some e =>
    simp [okE] at h
    omega
section
variable {G : Nat → Prop} {w0 w : World} {A : CAddr} {q : CSt}
set_option maxRecDepth 100000 in
set_option maxHeartbeats 4000000 in
theorem read_is (h : CacheAt G w0 w A q) (ad : Nat → Addr) (HSE : Sents w0 ad) (x word : Int) :
    Calls Tryz.prog 21 #[.pointer (some ⟨A.c, 0, none⟩), .int .i64 x, .int .i64 word] w fun e w' => e = .returned (.tuple #[.int .u32 (readV q x word), .bool (okE (getS q.S x) word)]) ∧ CacheAt G w0 w' A (readTo q x word) ∧ ∀ k, G k → w'.heap[k]? = w.heap[k]? := by
  have HS := Lib.hid HSE
  have H := Lib.hid h
  have hsz : Hid (∀ k, G k → k < w.heap.size) := fun k hk => (h.apart k hk).2.2.2.2
  have HU := Lib.hid (usable_is h x word)
  clear h HSE
  have HRV : Hid (readV q x word = if okE (getS q.S x) word then wordE ((getS q.S x).getD Ent.none) word else 0) := rfl
  have HRT : Hid (readTo q x word = if okE (getS q.S x) word then usedQ q ((getS q.S x).getD Ent.none) else q) := rfl
  have HWD : Hid (okE (getS q.S x) word = true → word = 0 ∨ word = 1 ∨ word = 2 ∨ word = 3) := okE_word
  generalize readV q x word = rv at *
  generalize readTo q x word = rt at *
  generalize okE (getS q.S x) word = ok at *
  generalize (getS q.S x).getD Ent.none = e at *
  cases ok with
  | false =>
    have e1 : rv = 0 := HRV.out
    have e2 : rt = q := HRT.out
    subst e1 e2
    clear HRV HRT HWD
    go_enter Tryz.func21, Tryz.ntmps21
    go_wp2_with fail
    refine HU.out.mono ?_
    rintro r w1 ⟨rfl, hb⟩
    have H1 := Lib.hid (H.out.below hb)
    have HK1 : Hid (∀ k, G k → w1.heap[k]? = w.heap[k]?) := fun k hk => hb.block k (hsz.out k hk)
    clear hb H HU hsz
    have HA : Hid (∀ o, CacheAt G w0 (w1.alloc o) A rt ∧ ∀ k, G k → (w1.alloc o).heap[k]? = w.heap[k]?) := fun o => by
      have hb := (Below.refl w1.heap.size w1).alloc (Nat.le_refl _) o
      exact ⟨H1.out.below hb, fun k hk => (hb.block k (H1.out.apart k hk).2.2.2.2).trans (HK1.out k hk)⟩
    obtain ⟨el, es, em, ee, e0, e1, e2, e3, eh, ef⟩ := e
    simp only [Ent.val]
    go_wp2
    go_ret2
    exact ⟨rfl, (HA.out _).1, (HA.out _).2⟩
  | true =>
    have e1 : rv = wordE e word := HRV.out
    have e2 : rt = usedQ q e := HRT.out
    subst e1
    have HQ := Lib.hid e2
    have hwd := HWD.out rfl
    clear HRV HRT HWD e2
    have HUS : Hid (∀ (G' : Nat → Prop) (w' : World), CacheAt G' w0 w' A q → _) := fun G' w' h' => used_is (G := G') (w := w') h' ad HS.out e
    rw [← HQ.out] at HUS
    obtain ⟨el, es, em, ee, e0, e1, e2, e3, eh, ef⟩ := e
    simp only [Ent.val, wordE] at *
    clear HQ
    rcases hwd with rfl | rfl | rfl | rfl
    all_goals
      go_enter Tryz.func21, Tryz.ntmps21
      go_wp2_with fail
      refine HU.out.mono ?_
      rintro r w1 ⟨rfl, hb⟩
      have H1 := Lib.hid (H.out.below hb)
      have HK1 : Hid (∀ k, G k → w1.heap[k]? = w.heap[k]?) := fun k hk => hb.block k (hsz.out k hk)
      clear hb H HU hsz
      go_wp2_with fail
      generalize hW : w1.alloc _ = w2
      have hbox : w2.heap[w1.heap.size]? = some (.cells (Ent.cells ⟨el, es, em, ee, e0, e1, e2, e3, eh, ef⟩).toArray 65 (0, 0)) := by rw [← hW]; exact heap_alloc_new _ _
      have hbel : Below w1.heap.size w1 w2 := by rw [← hW]; exact (Below.refl _ _).alloc (Nat.le_refl _) _
      have HK2 : Hid (∀ k, G k → w2.heap[k]? = w.heap[k]?) := fun k hk => (hbel.block k (H1.out.apart k hk).2.2.2.2).trans (HK1.out k hk)
      have H2 : Hid (CacheAt (fun k => G k ∨ k = w1.heap.size) w0 w2 A q) := H1.out.more hbel fun k hk => hk.elim .inl fun e => .inr ⟨by omega, by have := lt_of_heap hbox; omega⟩
      have HB2 := Lib.hid hbox
      clear hW hbel H1 HK1 hbox
      generalize w1.heap.size = b at *
      refine (HUS.out _ _ H2.out).mono ?_
      rintro r w3 ⟨rfl, hA, hk⟩
      have hbox := (hk b (.inr rfl)).trans HB2.out
      have H3 : Hid (CacheAt G w0 w3 A rt) := CacheAt.less hA fun k hG => .inl hG
      have HK3 : Hid (∀ k, G k → w3.heap[k]? = w.heap[k]?) := fun k hG => (hk k (.inl hG)).trans (HK2.out k hG)
      obtain ⟨c0, c1, c2, c3, c4, c5, c6, c7, c8, c9⟩ := box_cells hbox
      clear hA hk H2 HK2 HB2 hbox HUS
      go_wp2
      go_ret2
      exact ⟨rfl, H3.out, HK3.out⟩
set_option maxRecDepth 100000 in
set_option maxHeartbeats 4000000 in
theorem write_is (h : CacheAt G w0 w A q) (ad : Nat → Addr) (HSE : Sents w0 ad) (x word v : Int) :
    Calls Tryz.prog 23 #[.pointer (some ⟨A.c, 0, none⟩), .int .i64 x, .int .i64 word, .int .u32 v] w fun e w' => e = .returned (.bool (writeOk q x word)) ∧ CacheAt G w0 w' A (writeTo q x word v) ∧ ∀ k, G k → w'.heap[k]? = w.heap[k]? := by
  have HS := Lib.hid HSE
  have H := Lib.hid h
  have hsz : Hid (∀ k, G k → k < w.heap.size) := fun k hk => (h.apart k hk).2.2.2.2
  have HU := Lib.hid (usable_is h x word)
  clear h HSE
  have HRV : Hid (writeOk q x word = (okE (getS q.S x) word && writesB ((getS q.S x).getD Ent.none).state)) := rfl
  have HRT : Hid (writeTo q x word v = if writeOk q x word then usedQ q (setWordE { (getS q.S x).getD Ent.none with state := 4 } word v) else q) := rfl
  have HWD : Hid (okE (getS q.S x) word = true → word = 0 ∨ word = 1 ∨ word = 2 ∨ word = 3) := okE_word
  generalize writeTo q x word v = rt at *
  generalize writeOk q x word = rv at *
  generalize okE (getS q.S x) word = ok at *
  generalize (getS q.S x).getD Ent.none = e at *
  have HUS : Hid (∀ (G' : Nat → Prop) (w' : World) (e' : Ent), CacheAt G' w0 w' A q → _) := fun G' w' e' h' => used_is (G := G') (w := w') h' ad HS.out e'
  have HWR : Hid (∀ w, _) := fun w => writes_is e.state w
  generalize hwb : writesB e.state = wb at *
  clear hwb
  obtain ⟨el, es, em, ee, e0, e1, e2, e3, eh, ef⟩ := e
  simp only [Ent.val, setWordE] at *
  cases ok with
  | false =>
    have e1' : rv = false := HRV.out
    subst e1'
    have e2' : rt = q := HRT.out
    subst e2'
    clear HRV HRT HWD HWR HUS
    go_enter Tryz.func23, Tryz.ntmps23
    go_wp2_with fail
    refine HU.out.mono ?_
    rintro r w1 ⟨rfl, hb⟩
    have H1 := Lib.hid (H.out.below hb)
    have HK1 : Hid (∀ k, G k → w1.heap[k]? = w.heap[k]?) := fun k hk => hb.block k (hsz.out k hk)
    clear hb H HU hsz
    have HA : Hid (∀ o, CacheAt G w0 (w1.alloc o) A rt ∧ ∀ k, G k → (w1.alloc o).heap[k]? = w.heap[k]?) := fun o => by
      have hb := (Below.refl w1.heap.size w1).alloc (Nat.le_refl _) o
      exact ⟨H1.out.below hb, fun k hk => (hb.block k (H1.out.apart k hk).2.2.2.2).trans (HK1.out k hk)⟩
    go_wp2
    go_ret
    exact ⟨rfl, (HA.out _).1, (HA.out _).2⟩
  | true =>
    have hwd := HWD.out rfl
    cases wb with
    | false =>
      have e1' : rv = false := HRV.out
      subst e1'
      have e2' : rt = q := HRT.out
      subst e2'
      clear HRV HRT HWD HUS hwd
      go_enter Tryz.func23, Tryz.ntmps23
      go_wp2_with fail
      refine HU.out.mono ?_
      rintro r w1 ⟨rfl, hb⟩
      have H1 := Lib.hid (H.out.below hb)
      have HK1 : Hid (∀ k, G k → w1.heap[k]? = w.heap[k]?) := fun k hk => hb.block k (hsz.out k hk)
      clear hb H HU hsz
      have HA : Hid (∀ o w', Below (w1.alloc o).heap.size (w1.alloc o) w' → CacheAt G w0 w' A rt ∧ ∀ k, G k → w'.heap[k]? = w.heap[k]?) := fun o w' hw => by
        have hb := ((Below.refl w1.heap.size w1).alloc (Nat.le_refl _) o).trans (hw.mono (by simp))
        exact ⟨H1.out.below hb, fun k hk => (hb.block k (H1.out.apart k hk).2.2.2.2).trans (HK1.out k hk)⟩
      go_wp2_with fail
      refine (HWR.out _).mono ?_
      rintro r w2 ⟨rfl, hb⟩
      have HB := Lib.hid (HA.out _ w2 hb)
      clear hb HA HWR
      go_wp2
      go_ret
      exact ⟨rfl, HB.out.1, HB.out.2⟩
    | true =>
      have e1' : rv = true := HRV.out
      subst e1'
      have HQ := Lib.hid (show rt = _ from HRT.out)
      clear HRV HRT HWD
      rcases hwd with rfl | rfl | rfl | rfl
      all_goals
        go_enter Tryz.func23, Tryz.ntmps23
        go_wp2_with fail
        refine HU.out.mono ?_
        rintro r w1 ⟨rfl, hb⟩
        have H1 := Lib.hid (H.out.below hb)
        have HK1 : Hid (∀ k, G k → w1.heap[k]? = w.heap[k]?) := fun k hk => hb.block k (hsz.out k hk)
        clear hb H HU hsz
        go_wp2_with fail
        generalize hW : w1.alloc _ = w2
        have hbox : w2.heap[w1.heap.size]? = some (.cells (Ent.cells ⟨el, es, em, ee, e0, e1, e2, e3, eh, ef⟩).toArray 65 (0, 0)) := by rw [← hW]; exact heap_alloc_new _ _
        have hbel : Below w1.heap.size w1 w2 := by rw [← hW]; exact (Below.refl _ _).alloc (Nat.le_refl _) _
        have HK2 : Hid (∀ k, G k → w2.heap[k]? = w.heap[k]?) := fun k hk => (hbel.block k (H1.out.apart k hk).2.2.2.2).trans (HK1.out k hk)
        have H2 : Hid (CacheAt (fun k => G k ∨ k = w1.heap.size) w0 w2 A q) := H1.out.more hbel fun k hk => hk.elim .inl fun e => .inr ⟨by omega, by have := lt_of_heap hbox; omega⟩
        have HB2 := Lib.hid hbox
        have HNB : Hid (∀ k, G k → k ≠ w1.heap.size) := fun k hk => by have := (H1.out.apart k hk).2.2.2.2; omega
        clear hW hbel H1 HK1 hbox
        generalize w1.heap.size = b at *
        refine (HWR.out _).mono ?_
        rintro r w3 ⟨rfl, hb⟩
        have H3 := Lib.hid (H2.out.below hb)
        have HK3 : Hid (∀ k, G k → w3.heap[k]? = w.heap[k]?) := fun k hk => (hb.block k (H2.out.apart k (.inl hk)).2.2.2.2).trans (HK2.out k hk)
        have hbox := (hb.block b (lt_of_heap HB2.out)).trans HB2.out
        have HB3 := Lib.hid hbox
        obtain ⟨c0, c1, c2, c3, c4, c5, c6, c7, c8, c9⟩ := box_cells hbox
        have hfz : ∀ c, w3.frozen? ⟨b, c, none⟩ = false := fun c => nofreeze hbox
        clear hb H2 HK2 HB2 HWR hbox
        go_wp2_with fail
        generalize hW : (w3.setCell _ _).setCell _ _ = w4
        have hT : Turned (fun k => k = b) w3 w4 := by
          rw [← hW]
          exact ((Turned.refl (fun k => k = b) w3).setCell (.inl rfl) _).setCell (.inl rfl) _
        have H4 : Hid (CacheAt (fun k => G k ∨ k = b) w0 w4 A q) := H3.out.aside hT fun k hk => .inr hk
        have HK4 : Hid (∀ k, G k → w4.heap[k]? = w.heap[k]?) := fun k hk => (hT.block k (H3.out.apart k (.inl hk)).2.2.2.2 (HNB.out k hk)).trans (HK3.out k hk)
        clear hT hW hfz c0 c1 c2 c3 c4 c5 c6 c7 c8 c9 HB3 H3 HK3
        refine (HUS.out _ _ ⟨_, _, _, _, _, _, _, _, _, _⟩ H4.out).mono ?_
        rintro r w5 ⟨rfl, hA, hk⟩
        have H5 : Hid (CacheAt G w0 w5 A rt) := by rw [HQ.out]; exact CacheAt.less hA fun k hG => .inl hG
        have HK5 : Hid (∀ k, G k → w5.heap[k]? = w.heap[k]?) := fun k hG => (hk k (.inl hG)).trans (HK4.out k hG)
        clear hA hk H4 HK4 HQ HUS
        go_wp2
        go_ret
        exact ⟨rfl, H5.out, HK5.out⟩
/-- What it has: a list of all entries; of all that is under way. -/
theorem entries_is (h : CacheAt G w0 w A q) :
    Calls Tryz.prog 16 #[.pointer (some ⟨A.c, 0, none⟩)] w fun e w' => ∃ v, e = .returned v ∧ EntRow w.heap.size w' v (usedIn q.S) ∧ Below w.heap.size w w' := by
  have HL := Lib.hid (arrList_is _ A.a A.gs q.k q.S w h.arr.arr)
  obtain ⟨-, -, c2, -⟩ := h.cells
  clear h
  go_enter Tryz.func16, Tryz.ntmps16
  go_wp2_with fail
  refine HL.out.mono ?_
  rintro r w1 ⟨v, rfl, hr, hb⟩
  have H1 := Lib.hid (And.intro hr hb)
  clear hr hb HL c2
  go_wp2
  go_ret
  exact ⟨v, rfl, H1.out.1, H1.out.2⟩
theorem misses_is (h : CacheAt G w0 w A q) :
    Calls Tryz.prog 15 #[.pointer (some ⟨A.c, 0, none⟩)] w fun e w' => ∃ v, e = .returned v ∧ MissRow w' v q.l ∧ (∀ k, v.ownBlock = some k → w.heap.size ≤ k) ∧ Below w.heap.size w w' := by
  have HL := Lib.hid (ownG_list _ w0 A.t q.most q.l w h.tab)
  obtain ⟨-, -, -, c3⟩ := h.cells
  clear h
  go_enter Tryz.func15, Tryz.ntmps15
  go_wp2_with fail
  refine HL.out.mono ?_
  rintro r w1 ⟨v, rfl, hr, hv, hb⟩
  have H1 := Lib.hid (And.intro hr (And.intro hv hb))
  clear hr hv hb HL c3
  go_wp2
  go_ret
  exact ⟨v, rfl, H1.out.1, H1.out.2.1, H1.out.2.2⟩
set_option maxRecDepth 100000 in
set_option maxHeartbeats 4000000 in
theorem peek_is (h : CacheAt G w0 w A q) (x : Int) :
    Calls Tryz.prog 31 #[.pointer (some ⟨A.c, 0, none⟩), .int .i64 x] w fun e w' => e = .returned (.tuple #[((getS q.S x).getD Ent.none).val, .bool (getS q.S x).isSome]) ∧ Below w.heap.size w w' := by
  have hA : ∀ o, Below w.heap.size w (w.alloc o) := fun o => (Below.refl _ _).alloc (Nat.le_refl _) _
  have HA := Lib.hid hA
  have HG : Hid (∀ o, _) := fun o => c_get (h.below (hA o)) x
  obtain ⟨c0, c1, c2, c3⟩ := h.cells
  have hlt := lt_of_heap h.box
  have b2 : ∀ o, (w.alloc o).cell? ⟨A.c, 2, none⟩ = some (.pointer (some ⟨A.a, 0, none⟩)) := fun o => by rw [World.cell?_alloc_lt _ _ _ hlt]; exact c2
  clear h hA c0 c1 c2 c3 hlt
  generalize getS q.S x = o at *
  have HONE := Lib.hid (all_oneCell_toArray (ent_one (o.getD Ent.none)))
  generalize o.isSome = is at *
  generalize o.getD Ent.none = e at *
  go_enter Tryz.func31, Tryz.ntmps31
  go_wp2_with fail
  refine (HG.out _).mono ?_
  rintro r w1 ⟨rfl, hb⟩
  have HB1 := Lib.hid ((HA.out _).trans (hb.mono (HA.out _).size))
  have hres : w1.heap[w.heap.size]? = some (.cells #[.int .i64 0, .int .i64 0, .int .i64 0, .int .i64 0, .int .u32 0, .int .u32 0, .int .u32 0, .int .u32 0, .bool false, .bool false] 65 (0, 0)) := by
    rw [hb.block _ (by simp)]
    exact heap_alloc_new _ _
  have HRES := Lib.hid hres
  clear hb hres HG HA b2
  obtain ⟨el, es, em, ee, e0, e1, e2, e3, eh, ef⟩ := e
  simp only [Ent.val] at *
  go_wp2_with (refine wpList_store_row rfl 65 (.tmp 4) (.tmp 12) rfl w.heap.size _ rfl rfl 65 _ HRES.out Tryz.sizeEnt rfl HONE.out ?_)
  exact ⟨rfl, _, ret_ent Tryz.results31 _ _ _ _ rfl (heap_setRow HRES.out _) rfl, rfl, below_setRow HB1.out (Nat.le_refl _) _⟩
end
end Go.Proofs.YtfaihaknibmcpaaGreatDoor
