/- Several texts in one: WebKn, WebSd, WebGr, WebRa, WebRb, WebRc, WebRd. -/
import Derived.Test.YtihbmgkbipeakaaGreatWebG21
import Derived.Test.YtihbmgkbipeakaaGreatWebG22
import Derived.Test.YtihbmgkbipeakaaGreatWebG18
import Derived.Test.YtihbmgkbipeakaaGreatWebG3
import Derived.Test.YtihbmgkbipeakaaGreatWebG7
namespace Go.Proofs.YtihbmgkbipeakaaGreat
open Go.RowKit

theorem DiceAt.keep {B g : Nat} {w w' : World} (h : DiceAt B g w) (hk : ∀ b, b ≤ g → b < w.heap.size → w'.heap[b]? = w.heap[b]?) : DiceAt B g w' := by
  have hgl := h.lt
  obtain ⟨h0, A, n, c, k, h1, h2, h3, h3', h4⟩ := h
  refine ⟨h0, A, n, c, k, (hk g (Nat.le_refl _) hgl).trans h1, h2, h3, h3', ?_⟩
  rcases h4 with h4 | ⟨b, off, hbB, e, hc⟩
  · exact .inl h4
  · refine .inr ⟨b, off, hbB, e, fun j hj => ?_⟩
    obtain ⟨z, g1, g2⟩ := hc j hj
    refine ⟨z, ?_, g2⟩
    rw [← g1]
    exact World.cell?_of_block (hk b (by omega) (by omega))
/-- A list of terms takes one more, whatever else was done. -/
theorem TermsRow.pushS {w1 w3 : World} {base : Nat} {v : Value} {L : List T} {t : T} {A8 : Option Addr} {c8 : Nat} {xs : List Value} {u0 u1 u2 : Value} {o : Obj} (hct : CT (but base v.ownBlock) w1 xs L)
    (ht : TermIn (but base v.ownBlock) w1 (.agg #[u0, u1, u2]) t) (hown : w3.ownsRow base 29 3 (.slice A8 (L.length + 1) c8) (L.length + 1) (xs ++ [u0, u1, u2]))
    (hg : (w1.alloc o).grownBy w3 v.ownBlock) (hat : A8.map (·.block) = v.ownBlock ∨ A8.map (·.block) = some (w1.alloc o).heap.size) : TermsRow w3 base (.slice A8 (L.length + 1) c8) (L ++ [t]) := by
  obtain ⟨g8, cap, e, _⟩ := hown.form (by omega)
  injection e with e1 e2 e3
  subst e1; subst e3
  refine TermsRow.snoc (w := w1.alloc o) (H := (w1.alloc o).heap.size) (fun i hi => ?_) hct.1 ?_ hown hg ?_ rfl
  · obtain ⟨a0, a1, a2, b0, b1, b2, b3⟩ := hct.2 i hi
    exact ⟨a0, a1, a2, b0, b1, b2, b3.keep fun b hb2 hl => ⟨hb2, Below.heap_alloc w1 o b hl⟩⟩
  · exact ht.keep fun b hbb hl => ⟨hbb, Below.heap_alloc w1 o b hl⟩
  · rcases hat with h | h
    · exact .inl h.symm
    · right; injection h
/-- What the maker of knowledge keeps: g is its dice, B the least block of its terms. -/
def KnAt (P : T → Prop) (B g : Nat) (w : World) (L : List T) (l : Value) (wr : World) : Prop := TermsRow wr B l L ∧ (∀ t ∈ L, P t) ∧ DiceAt g g wr ∧ Below w.heap.size w wr ∧ w.heap.size ≤ g ∧ g < B ∧ B ≤ wr.heap.size
/-- After a term was made. -/
theorem KnAt.step {P : T → Prop} {B g : Nat} {w wr w3 : World} {L : List T} {l : Value} (h : KnAt P B g w L l wr) (hd : DiceAt g g w3) (hg : wr.grownBy w3 (some g)) : KnAt P B g w L l w3 := by
  obtain ⟨h1, h2, h3, h4, h5, h6, h7⟩ := h
  exact ⟨h1.keep fun b hb hl => hg.block b hl (fun e => by have e' : b = g := Option.some.inj e; omega), h2, hd, h4.grown hg h4.size (fun k hk => by have e' : g = k := Option.some.inj hk; omega), h5, h6, Nat.le_trans h7 hg.size⟩
theorem KnAt.later {P : T → Prop} {B g : Nat} {w wr w3 : World} {L : List T} {l : Value} (h : KnAt P B g w L l wr) (hb : Below wr.heap.size wr w3) : KnAt P B g w L l w3 := by
  obtain ⟨h1, h2, h3, h4, h5, h6, h7⟩ := h
  exact ⟨h1.later hb, h2, h3.below hb h3.lt, h4.trans (hb.mono h4.size), h5, h6, Nat.le_trans h7 hb.size⟩
theorem KnAt.cells {P : T → Prop} {B g : Nat} {w wr : World} {L : List T} {l : Value} (h : KnAt P B g w L l wr) : ∃ A c xs, l = .slice A L.length c ∧ wr.ownsRow B 29 3 (.slice A L.length c) L.length xs ∧ CT (but B (Value.slice A L.length c).ownBlock) wr xs L := by
  obtain ⟨xs, h1, h2⟩ := h.1.cells
  obtain ⟨A, c, rfl⟩ := own_shapeU h1
  exact ⟨A, c, xs, rfl, h1, h2⟩
/-- A term that was made just now lies apart from the list. -/
theorem KnAt.apart {P : T → Prop} {B g : Nat} {w wr w3 : World} {L : List T} {l v : Value} {t : T} (h : KnAt P B g w L l wr) (hti : TermIn (from_ wr.heap.size) w3 v t) : TermIn (but B l.ownBlock) w3 v t := by
  obtain ⟨h1, h2, h3, h4, h5, h6, h7⟩ := h
  exact hti.keep fun b hb _ => ⟨but_iff.2 ⟨by have := of_decide_eq_true hb; omega, fun e => by have := (h1.block b e).2; have := of_decide_eq_true hb; omega⟩, rfl⟩
theorem KnAt.push {P : T → Prop} {B g : Nat} {w w3 w8 : World} {L : List T} {t : T} {A A8 : Option Addr} {c c8 : Nat} {xs : List Value} {u0 u1 u2 : Value} {o : Obj} (h : KnAt P B g w L (.slice A L.length c) w3)
    (hct : CT (but B (Value.slice A L.length c).ownBlock) w3 xs L) (ht : TermIn (but B (Value.slice A L.length c).ownBlock) w3 (.agg #[u0, u1, u2]) t) (hm : P t)
    (hown : w8.ownsRow B 29 3 (.slice A8 (L.length + 1) c8) (L.length + 1) (xs ++ [u0, u1, u2])) (hg : (w3.alloc o).grownBy w8 (Value.slice A L.length c).ownBlock)
    (hat : A8.map (·.block) = (Value.slice A L.length c).ownBlock ∨ A8.map (·.block) = some (w3.alloc o).heap.size) : KnAt P B g w (L ++ [t]) (.slice A8 (L.length + 1) c8) w8 := by
  obtain ⟨h1, h2, h3, h4, h5, h6, h7⟩ := h
  have hb := below_alloc1 w3 o
  have hz := size_alloc1 w3 o
  refine ⟨TermsRow.pushS hct ht hown hg hat, fun x hx => ?_, h3.keep fun b hbg hl => ?_, ?_, h5, h6, Nat.le_trans h7 (Nat.le_trans hb.size hg.size)⟩
  · rcases List.mem_append.1 hx with hx | hx
    · exact h2 x hx
    · rw [List.mem_singleton] at hx; subst hx; exact hm
  · exact (hg.block b (by omega) (fun e => by have := (h1.block b e.symm).1; omega)).trans (hb.block b hl)
  · refine (h4.trans (hb.mono h4.size)).grown hg (Nat.le_trans h4.size (by omega)) (fun k hk => ?_)
    have := (h1.block k hk).1; omega

set_option maxRecDepth 100000 in
set_option maxHeartbeats 8000000 in
theorem made_known (A : Option Addr) (n c : Nat) (w : World) (hn : n ≤ 80) (hl : ListAt w A n) :
    Calls Tryz.prog 13 #[.slice A n c] w fun e w' => ∃ v L B, e = .returned v ∧ w.heap.size ≤ B ∧ B ≤ w'.heap.size ∧ TermsRow w' B v L ∧ 1 ≤ L.length ∧ L.length ≤ 7 ∧ (∀ t ∈ L, T.MadeN 0 4 t) ∧ Below w.heap.size w w' := by
  obtain ⟨i0, hi0, hz0, hz1, hz2⟩ := info_parts Tryz.infoT
  have HQ := Lib.hid hn; have HLA := Lib.hid hl
  clear hn hl
  go_enter Tryz.func13, Tryz.ntmps13
  go_upto_region 1 with fail
  go_wp2_with fail
  refine (made_roll A n c _ HQ.out HLA.out).mono ?_; rintro e w1 ⟨g, hg, rfl, hd, hb1⟩
  have HG := Lib.hid hg; have HD := Lib.hid hd; have HB1 := Lib.hid hb1
  clear hg hd hb1
  go_upto_region 3 with fail
  go_wp2_with fail
  refine (made_next g g 7 _ HD.out (by omega) (by omega)).mono ?_; rintro e w2 ⟨v, hv0, hv1, rfl, hd2, hg2⟩
  obtain ⟨m, rfl⟩ : ∃ m : Nat, v = (m : Int) := ⟨v.toNat, by omega⟩
  have hm6 : m < 7 := by omega
  have HST := Lib.hid (show KnAt (T.MadeN 0 4) (g + 1) g w [] (.slice none 0 0) w2 from ⟨TermsRow.nil _ _, fun t ht => (List.not_mem_nil ht).elim, hd2, HB1.out.grown hg2 HB1.out.size (fun k hk => by have e' : g = k := Option.some.inj hk; have := HG.out; omega), HG.out, Nat.lt_succ_self _, hd2.lt⟩)
  have hw7 : IntKind.i64.wrap (1 + (m : Int)) = ((m + 1 : Nat) : Int) := by rw [IntWalk.i64_in _ (by omega)]; omega
  clear hd2 hg2 hv0 hv1
  go_upto_region 4 with fail
  go_loopw [5, 4] (fun i l wr => ∃ (j : Nat) (L : List T), i = .int .i64 j ∧ L.length + j = m + 1 ∧ KnAt (T.MadeN 0 4) (g + 1) g w L l wr) (fun i _ _ => (intOf i).toNat)
  case atStart => exact ⟨m + 1, [], by first | rfl | (rw [hw7]) | go_num, by simp, HST.out⟩
  case round =>
    obtain ⟨j, L, rfl, hj, hk⟩ := hrel
    have HJ := Lib.hid hj
    by_cases h0 : 0 < j
    · have h0' : (0 : Int) < (j : Int) := by omega
      have hj7 : j ≤ 7 := by omega
      obtain ⟨A7, c7, xs, rfl, hown, hct⟩ := hk.cells
      have HK := Lib.hid hk
      clear hk hown hct hj
      go_wp2_with fail
      refine (made_term 0 4 (by omega) (by omega) g g _ HK.out.2.2.1).mono ?_; rintro e w3 ⟨t, A3, C3, hmd, rfl, hti, hd3, hg3⟩
      have HK3 := Lib.hid (HK.out.step hd3 hg3)
      have hap := HK.out.apart hti
      obtain ⟨A9, c9, xs3, e9, hown3, hct3⟩ := HK3.out.cells
      injection e9 with e91 e92 e93
      subst e91; subst e93
      have hwb := below_alloc1 w3 (.cells #[.int .i64 t.kind, .string t.name, .slice A3 t.kids.length C3] 29)
      have HOWN3 := Lib.hid (own_later hown3 hwb)
      have HONE := Lib.hid hti.one
      have hz3 : g + 1 ≤ (w3.alloc (.cells #[.int .i64 t.kind, .string t.name, .slice A3 t.kids.length C3] 29)).heap.size := by rw [size_alloc1]; have := hd3.lt; omega
      have HPUSH := Lib.hid (fun w8 A8 c8 hown8 hg8 hat8 => KnAt.push (w8 := w8) (A8 := A8) (c8 := c8) (o := .cells #[.int .i64 t.kind, .string t.name, .slice A3 t.kids.length C3] 29 (0, 0)) HK3.out hct3 hap hmd hown8 hg8 hat8)
      have hL7 : L.length ≤ 7 := by have := HJ.out; omega
      clear hti hd3 hg3 hap hwb hown3 hct3 hmd
      go_wp2_with (at_builtin; refine wpList_append_src _ rfl _ _ 27 rfl (g + 1) 29 i0 _ 3 48 Tryz.underlying27 hi0 hz0 hz1 hz2 rfl (by omega) _ _ _ rfl HOWN3.out _ 1 1 [.int .i64 t.kind, .string t.name, .slice A3 t.kids.length C3] rfl (Src.newsU _ _ _ 3 rfl) HONE.out (by unfold maxLen; omega) (by omega) hz3 ?_; intro A8 c8 w8 hown8 hg8 hat8; have HR8 := Lib.hid (HPUSH.out _ _ _ hown8 hg8 hat8); clear hown8 hg8 hat8)
      go_roundw
      case rel => exact ⟨j - 1, L ++ [t], by go_num, by rw [List.length_append]; have := HJ.out; simp; omega, by simpa using HR8.out⟩
      case measure => simp [intOf]; omega
    · obtain rfl : j = 0 := by omega
      have HK := Lib.hid hk
      clear hk hj h0
      go_upto_region 7 with fail
      go_wp2_with fail
      go_ret
      exact ⟨_, L, g + 1, rfl, by have := HG.out; omega, HK.out.2.2.2.2.2.2, HK.out.1, by have := HJ.out; omega, by have := HJ.out; omega, HK.out.2.1, HK.out.2.2.2.1⟩
end Go.Proofs.YtihbmgkbipeakaaGreat

namespace Go.Proofs.YtihbmgkbipeakaaGreat
open Go.RowKit

namespace T
theorem sub_bulkAll : ∀ {a b : List T}, a.Sublist b → bulkAll a ≤ bulkAll b
  | _, _, .slnil => Nat.le_refl _
  | _, _, .cons _ h => by have := sub_bulkAll h; simp only [bulkAll]; omega
  | _, _, .cons_cons _ h => by have := sub_bulkAll h; simp only [bulkAll]; omega
mutual
theorem subs_bulk : ∀ (t x : T), x ∈ subs t → x.bulk ≤ t.bulk
  | .mk k s ks, x, h => by
    simp only [subs] at h
    rcases List.mem_cons.1 h with rfl | h
    · exact Nat.le_refl _
    · rcases List.mem_append.1 h with h | h
      · have := subsAll_bulk ks x h; simp only [T.bulk]; omega
      · split at h
        · obtain ⟨l, hl, rfl⟩ := List.mem_map.1 h
          have := sub_bulkAll (subl_mem (List.mem_filter.1 hl).1)
          simp only [T.bulk, emp_size]; omega
        · cases h
theorem subsAll_bulk : ∀ (l : List T) (x : T), x ∈ subsAll l → x.bulk ≤ bulkAll l
  | [], x, h => by cases h
  | t :: r, x, h => by
    simp only [subsAll] at h
    simp only [bulkAll]
    rcases List.mem_append.1 h with h | h
    · have := subs_bulk t x h; omega
    · have := subsAll_bulk r x h; omega
end
end T
theorem use_of {L : List T} : ∀ t ∈ cnt L, t.use = true := fun _ h => (List.mem_filter.1 h).2
theorem mem_of_cnt {L : List T} : ∀ t ∈ cnt L, t ∈ L := fun _ h => List.mem_of_mem_take (List.mem_filter.1 h).1
/-- The terms of a few of which each is not too large. -/
theorem uni_few (K : List T) (hv : ∀ t ∈ K, t.valid = true) (hl : K.length ≤ 1000) (hb : ∀ t ∈ K, t.bulk ≤ 1048576) : Uni (T.subsAll K) ∧ ∀ t ∈ T.subsAll K, t.bulk ≤ 1048576 :=
  ⟨uni_of hv hl, fun t ht => by obtain ⟨x, hx, hs⟩ := T.mem_subsAll.1 ht; exact Nat.le_trans (T.subs_bulk x t hs) (hb x hx)⟩
end Go.Proofs.YtihbmgkbipeakaaGreat

namespace Go.Proofs.YtihbmgkbipeakaaGreat

theorem use_kid {t : T} (h : t.use = true) (h7 : t.kind ≠ 7) {i : Nat} (hi : i < t.kids.length) : (t.kid i).use = true := by
  unfold T.use at h
  obtain ⟨hg, hn⟩ := Bool.and_eq_true_iff.1 h
  unfold T.ground at hg
  obtain ⟨hv, hx⟩ := Bool.and_eq_true_iff.1 hg
  obtain ⟨_, hnorm⟩ := (T.isN_iff t).1 hn
  have hsub := (subs_closed t t (T.subs_self t)).1 i hi
  have hsh := T.subs_shape t (Bool.and_eq_true_iff.1 hv).2 _ hsub
  have hsz := of_decide_eq_true (Bool.and_eq_true_iff.1 hv).1
  obtain ⟨k, s, ks⟩ := t
  have hi' : i < ks.length := hi
  have he : (T.mk k s ks).kid i = ks[i] := by show ks.getD i T.nil_ = _; rw [List.getD_eq_getElem?_getD, List.getElem?_eq_getElem hi']; rfl
  rw [he] at hsh ⊢
  have hk7 : k ≠ 7 := h7
  simp only [T.norm, if_neg hk7] at hnorm
  injection hnorm with _ _ hnorm
  rw [T.normAll_map] at hnorm
  have hni : ks[i].norm = ks[i] := by
    have h1 : (ks.map T.norm)[i]? = ks[i]? := by rw [hnorm]
    rw [List.getElem?_map, List.getElem?_eq_getElem hi'] at h1
    exact Option.some.inj h1
  have hvk : ks[i].valid = true := by unfold T.valid; rw [Bool.and_eq_true]; exact ⟨decide_eq_true (by omega), hsh.1⟩
  have hxk : ks[i].hasVar = false := by
    rw [Bool.not_eq_true'] at hx
    simp only [T.hasVar, T.hasVarAll_any, Bool.or_eq_false_iff] at hx
    have := List.any_eq_false.1 hx.2 ks[i] (List.getElem_mem hi')
    simpa using this
  unfold T.use
  rw [Bool.and_eq_true]
  refine ⟨by unfold T.ground; rw [Bool.and_eq_true]; exact ⟨hvk, by rw [hxk]; rfl⟩, (T.isN_iff _).2 ⟨hvk, hni⟩⟩
theorem an_use {K : T → Prop} (h : ∀ t, K t → t.use = true) {t : T} (ha : An K t) : t.use = true := ha (fun t => t.use = true) (fun t ht => by
  have hs := T.shapeK (Bool.and_eq_true_iff.1 (T.use_valid ht)).2
  exact ⟨fun hk => ⟨use_kid ht (by omega) (by omega), use_kid ht (by omega) (by omega)⟩, fun hk => use_kid ht (by omega) (by omega), fun hk _ => use_kid ht (by omega) (by omega)⟩) h
theorem an_mem {U K : List T} (hU : Uni U) (hK : ∀ t ∈ K, t ∈ U) {t : T} (ha : An (· ∈ K) t) : t ∈ U := ha (· ∈ U) (fun t ht => by
  have hs := T.shapeK (Bool.and_eq_true_iff.1 (hU.ok t ht)).2
  exact ⟨fun hk => ⟨hU.kid t ht 0 (by omega), hU.kid t ht 1 (by omega)⟩, fun hk => hU.kid t ht 1 (by omega), fun hk _ => hU.kid t ht 1 (by omega)⟩) hK
theorem cnt_of {L : List T} (hl : L.length ≤ 64) : cnt L = L.filter T.use := by unfold cnt; rw [List.take_of_length_le hl]
theorem cnt_same {L : List T} (hl : L.length ≤ 64) (hu : ∀ t ∈ L, t.use = true) : cnt L = L := by rw [cnt_of hl, List.filter_eq_self]; exact hu
end Go.Proofs.YtihbmgkbipeakaaGreat

namespace Go.Proofs.YtihbmgkbipeakaaGreat

/-- Ascending, each once. -/
def Asc (l : List T) : Prop := l.Pairwise fun a b => T.cmp a b = -1
theorem cmp_irr (a : T) : T.cmp a a ≠ -1 := by rw [T.cmp_self]; decide
theorem cmp_gt {a b : T} : T.cmp a b = 1 ↔ T.cmp b a = -1 := by rw [T.cmp_anti a b]; constructor <;> intro h <;> omega
/-- Two ascending lists with the same members are one. -/
theorem asc_ext : ∀ {l m : List T}, Asc l → Asc m → (∀ x, x ∈ l ↔ x ∈ m) → l = m
  | [], [], _, _, _ => rfl
  | [], b :: r, _, _, h => by have := (h b).2 (by simp); cases this
  | a :: r, [], _, _, h => by have := (h a).1 (by simp); cases this
  | a :: l, b :: m, hl, hm, h => by
    obtain ⟨l1, l2⟩ := List.pairwise_cons.1 hl
    obtain ⟨m1, m2⟩ := List.pairwise_cons.1 hm
    have hab : a = b := by
      rcases List.mem_cons.1 ((h a).1 (by simp)) with e | ha
      · exact e
      · rcases List.mem_cons.1 ((h b).2 (by simp)) with e | hb
        · exact e.symm
        · exact absurd (T.cmp_trans _ _ _ (l1 b hb) (m1 a ha)) (cmp_irr a)
    subst hab
    rw [asc_ext l2 m2 fun x => ⟨fun hx => by
      rcases List.mem_cons.1 ((h x).1 (List.mem_cons_of_mem _ hx)) with e | h'
      · subst e; exact absurd (l1 x hx) (cmp_irr x)
      · exact h', fun hx => by
      rcases List.mem_cons.1 ((h x).2 (List.mem_cons_of_mem _ hx)) with e | h'
      · subst e; exact absurd (m1 x hx) (cmp_irr x)
      · exact h'⟩]
/-- Where a term belongs: none where it is there. -/
def scanL (l : List T) (t : T) : Nat → Option Nat
  | 0 => some 0
  | k + 1 => if 0 ≤ T.cmp (l.getD k T.nil_) t then (if T.cmp (l.getD k T.nil_) t = 0 then none else scanL l t k) else some (k + 1)
def putL (l : List T) (t : T) : List T := match scanL l t l.length with
  | none => l
  | some k => (l.take k ++ [t]) ++ l.drop k
theorem getD_at {l : List T} {k : Nat} (h : k < l.length) : l.getD k T.nil_ = l[k] := by rw [List.getD_eq_getElem?_getD, List.getElem?_eq_getElem h]; rfl
theorem scan_facts {l : List T} (hl : Asc l) (t : T) : ∀ k, k ≤ l.length → (∀ j (h : j < l.length), k ≤ j → T.cmp l[j] t = 1) → match scanL l t k with
    | none => t ∈ l
    | some q => q ≤ l.length ∧ (∀ j (h : j < l.length), j < q → T.cmp l[j] t = -1) ∧ ∀ j (h : j < l.length), q ≤ j → T.cmp l[j] t = 1
  | 0, hk, h => ⟨hk, fun j _ hj => by omega, h⟩
  | k + 1, hk, h => by
    simp only [scanL]
    rw [getD_at (by omega)]
    by_cases h1 : 0 ≤ T.cmp l[k] t
    · rw [if_pos h1]
      by_cases h2 : T.cmp l[k] t = 0
      · rw [if_pos h2]
        have := T.cmp_eq _ _ h2
        show t ∈ l
        rw [← this]; exact List.getElem_mem _
      · rw [if_neg h2]
        refine scan_facts hl t k (by omega) fun j hj hkj => ?_
        by_cases e : j = k
        · subst e; rcases T.cmp_vals l[j] t with g | g | g <;> omega
        · exact h j hj (by omega)
    · rw [if_neg h1]
      have hkt : T.cmp l[k] t = -1 := by rcases T.cmp_vals l[k] t with g | g | g <;> omega
      refine ⟨hk, fun j hj hjk => ?_, h⟩
      by_cases e : j = k
      · subst e; exact hkt
      · exact T.cmp_trans _ _ _ (List.pairwise_iff_getElem.1 hl j k hj (by omega) (by omega)) hkt
theorem put_facts {l : List T} (hl : Asc l) (t : T) : Asc (putL l t) ∧ ∀ x, x ∈ putL l t ↔ x ∈ l ∨ x = t := by
  have h := scan_facts hl t l.length (Nat.le_refl _) (fun j hj h => by omega)
  unfold putL
  cases hq : scanL l t l.length with
  | none =>
    rw [hq] at h
    exact ⟨hl, fun x => ⟨.inl, fun h' => by rcases h' with h' | rfl; exact h'; exact h⟩⟩
  | some q =>
    rw [hq] at h
    obtain ⟨h1, h2, h3⟩ := h
    have ht : ∀ a ∈ l.take q, T.cmp a t = -1 := fun a ha => by
      obtain ⟨j, hj, rfl⟩ := List.getElem_of_mem ha
      rw [List.getElem_take]
      rw [List.length_take] at hj
      exact h2 j (by omega) (by omega)
    have hd : ∀ a ∈ l.drop q, T.cmp t a = -1 := fun a ha => by
      obtain ⟨j, hj, rfl⟩ := List.getElem_of_mem ha
      rw [List.getElem_drop]
      rw [List.length_drop] at hj
      exact cmp_gt.1 (h3 (q + j) (by omega) (by omega))
    have hsplit : Asc (l.take q ++ l.drop q) := by rw [List.take_append_drop]; exact hl
    obtain ⟨s1, s2, s3⟩ := List.pairwise_append.1 hsplit
    refine ⟨?_, fun x => ?_⟩
    · show Asc ((l.take q ++ [t]) ++ l.drop q)
      refine List.pairwise_append.2 ⟨List.pairwise_append.2 ⟨s1, by simp, fun a ha b hb => ?_⟩, s2, fun a ha b hb => ?_⟩
      · rw [List.mem_singleton] at hb; subst hb; exact ht a ha
      · rcases List.mem_append.1 ha with ha | ha
        · exact s3 a ha b hb
        · rw [List.mem_singleton] at ha; subst ha; exact hd b hb
    · show x ∈ (l.take q ++ [t]) ++ l.drop q ↔ _
      have hm : x ∈ l ↔ x ∈ l.take q ∨ x ∈ l.drop q := by rw [← List.mem_append, List.take_append_drop]
      rw [hm, List.mem_append, List.mem_append, List.mem_singleton]
      constructor
      · rintro ((h | h) | h)
        · exact .inl (.inl h)
        · exact .inr h
        · exact .inl (.inr h)
      · rintro ((h | h) | h)
        · exact .inl (.inl h)
        · exact .inr h
        · exact .inl (.inr h)
end Go.Proofs.YtihbmgkbipeakaaGreat

namespace Go.Proofs.YtihbmgkbipeakaaGreat

def hasL (l : List T) (t : T) : Bool := l.any fun x => decide (T.cmp x t = 0)
theorem has_iff {l : List T} {t : T} : hasL l t = true ↔ t ∈ l := by
  unfold hasL
  rw [List.any_eq_true]
  constructor
  · rintro ⟨x, hx, h⟩
    have := T.cmp_eq _ _ (of_decide_eq_true h)
    rw [← this]; exact hx
  · intro h
    exact ⟨t, h, by rw [T.cmp_self]; rfl⟩
/-- A list without the elements of another one, if it has all of them. -/
def withoutL : List T → List T → Option (List T)
  | l, [] => some l
  | l, m :: ms => match l.findIdx? (fun x => decide (T.cmp x m = 0)) with
    | none => none
    | some k => withoutL (l.eraseIdx k) ms
theorem perm_erase : ∀ {l : List T} {k : Nat} (h : k < l.length), l.Perm (l[k] :: l.eraseIdx k)
  | a :: r, 0, _ => List.Perm.refl _
  | a :: r, k + 1, h => by
    have := perm_erase (l := r) (k := k) (by simpa using h)
    simp only [List.getElem_cons_succ, List.eraseIdx_cons_succ]
    exact (this.cons a).trans (List.Perm.swap _ _ _)
theorem without_some : ∀ {m l r : List T}, withoutL l m = some r → l.Perm (m ++ r)
  | [], l, r, h => by simp only [withoutL] at h; injection h with h; rw [h]; exact List.Perm.refl _
  | x :: ms, l, r, h => by
    simp only [withoutL] at h
    cases hf : l.findIdx? (fun y => decide (T.cmp y x = 0)) with
    | none => rw [hf] at h; cases h
    | some k =>
      rw [hf] at h
      rw [List.findIdx?_eq_some_iff_getElem] at hf
      obtain ⟨hk, h1, _⟩ := hf
      have e := T.cmp_eq _ _ (of_decide_eq_true h1)
      have := (perm_erase hk).trans ((without_some h).cons l[k])
      rw [e] at this
      exact this
theorem without_full : ∀ {m l r : List T}, l.Perm (m ++ r) → ∃ r', withoutL l m = some r' ∧ r'.Perm r
  | [], l, r, h => ⟨l, rfl, h⟩
  | x :: ms, l, r, h => by
    simp only [withoutL]
    cases hf : l.findIdx? (fun y => decide (T.cmp y x = 0)) with
    | none =>
      rw [List.findIdx?_eq_none_iff] at hf
      have hx : x ∈ l := h.mem_iff.2 (by simp)
      have := hf x hx
      rw [T.cmp_self] at this
      simp at this
    | some k =>
      rw [List.findIdx?_eq_some_iff_getElem] at hf
      obtain ⟨hk, h1, _⟩ := hf
      have e := T.cmp_eq _ _ (of_decide_eq_true h1)
      have hp := (perm_erase hk).symm.trans h
      rw [e] at hp
      exact without_full (List.Perm.cons_inv hp)
def rpowL (l : List T) (t : T) : Bool := (l.any fun p => decide (p.kind = 7) && match withoutL t.kids p.kids with
  | none => false
  | some r => r.all (hasL l)) || t.kids.all (hasL l)
def rbuild : Nat → List T → T → Bool
  | 0, _, _ => false
  | n + 1, l, t => hasL l t || (if t.kind = 3 ∨ t.kind = 5 ∨ t.kind = 6 ∨ t.kind = 4 then t.kids.all (rbuild n l) else if t.kind = 7 then rpowL l t else false)
theorem all_has {l r : List T} : r.all (hasL l) = true ↔ ∀ x ∈ r, x ∈ l := by
  rw [List.all_eq_true]
  exact ⟨fun h x hx => has_iff.1 (h x hx), fun h x hx => has_iff.2 (h x hx)⟩
theorem rpow_iff {l : List T} {t : T} : rpowL l t = true ↔ (∃ p ∈ l, p.kind = 7 ∧ ∃ r, t.kids.Perm (p.kids ++ r) ∧ ∀ x ∈ r, x ∈ l) ∨ ∀ x ∈ t.kids, x ∈ l := by
  unfold rpowL
  rw [Bool.or_eq_true, all_has, List.any_eq_true]
  refine or_congr ⟨?_, ?_⟩ Iff.rfl
  · rintro ⟨p, hp, h⟩
    rw [Bool.and_eq_true] at h
    refine ⟨p, hp, of_decide_eq_true h.1, ?_⟩
    cases hw : withoutL t.kids p.kids with
    | none => rw [hw] at h; exact absurd h.2 (by simp)
    | some r =>
      rw [hw] at h
      exact ⟨r, without_some hw, all_has.1 h.2⟩
  · rintro ⟨p, hp, h7, r, hr, hx⟩
    obtain ⟨r', h1, h2⟩ := without_full hr
    refine ⟨p, hp, ?_⟩
    rw [Bool.and_eq_true, h1]
    exact ⟨decide_eq_true h7, all_has.2 fun x hx' => hx x (h2.mem_iff.1 hx')⟩
theorem kid_eq {t : T} {i : Nat} (h : i < t.kids.length) : t.kid i = t.kids[i] := by show t.kids.getD i T.nil_ = _; rw [List.getD_eq_getElem?_getD, List.getElem?_eq_getElem h]; rfl
/-- What can be put together the reference builds. -/
theorem rbuild_full {U l : List T} (hU : Uni U) : ∀ (n : Nat) (t : T), t ∈ U → t.bulk < n → Syn (· ∈ l) t → rbuild n l t = true
  | 0, _, _, hb, _ => by omega
  | n + 1, t, ht, hb, hs => by
    have hk := T.shapeK (Bool.and_eq_true_iff.1 (hU.ok t ht)).2
    have ihk : ∀ i, i < t.kids.length → Syn (· ∈ l) (t.kid i) → rbuild n l (t.kid i) = true := fun i hi h => rbuild_full hU n _ (hU.kid t ht i hi) (by have := T.kid_bulk hi; omega) h
    simp only [rbuild]
    rw [Bool.or_eq_true, has_iff]
    cases hs with
    | base h => exact .inl h
    | hash h4 h0 =>
      right
      rw [if_pos (by omega), List.all_eq_true]
      intro x hx
      obtain ⟨i, hi, rfl⟩ := List.getElem_of_mem hx
      obtain rfl : i = 0 := by omega
      rw [← kid_eq hi]; exact ihk 0 hi h0
    | two hk2 h0 h1 =>
      right
      rw [if_pos (by omega), List.all_eq_true]
      intro x hx
      obtain ⟨i, hi, rfl⟩ := List.getElem_of_mem hx
      rw [← kid_eq hi]
      rcases (by omega : i = 0 ∨ i = 1) with rfl | rfl
      · exact ihk 0 hi h0
      · exact ihk 1 hi h1
    | raise h7 h1 h0 =>
      right
      rw [if_neg (by omega), if_pos h7, rpow_iff]
      right
      intro x hx
      obtain ⟨i, hi, rfl⟩ := List.getElem_of_mem hx
      obtain rfl : i = 0 := by omega
      rw [← kid_eq hi]
      exact h0.atom (exp_atom (Bool.and_eq_true_iff.1 (hU.ok t ht)).2 h7 hi)
    | pow i h7 h1 hi hl hx =>
      right
      rw [if_neg (by omega), if_pos h7, rpow_iff]
      have hxi : t.kids[i] ∈ l := by
        rw [← kid_eq hi]
        exact hx.atom (exp_atom (Bool.and_eq_true_iff.1 (hU.ok t ht)).2 h7 hi)
      have hper : t.kids.Perm (t.kids[i] :: (t.lessOf i).kids) := perm_erase hi
      have ih := rbuild_full hU n _ (hU.less t ht h7 h1 i hi) (by have := T.less_bulk hi; omega) hl
      cases n with
      | zero => cases ih
      | succ n =>
        simp only [rbuild] at ih
        have hk7 : (t.lessOf i).kind = 7 := rfl
        rw [Bool.or_eq_true, has_iff, if_neg (by omega), if_pos hk7, rpow_iff] at ih
        rcases ih with h | ⟨p, hp, hp7, r, hr, hrl⟩ | h
        · exact .inl ⟨_, h, hk7, [t.kids[i]], hper.trans (by rw [← List.singleton_append]; exact List.perm_append_comm), fun x hx => by rw [List.mem_singleton] at hx; rw [hx]; exact hxi⟩
        · refine .inl ⟨p, hp, hp7, t.kids[i] :: r, hper.trans ((hr.cons _).trans ?_), fun x hx => ?_⟩
          · exact (List.perm_middle (l₁ := p.kids) (l₂ := r) (a := t.kids[i])).symm
          · rcases List.mem_cons.1 hx with rfl | hx
            · exact hxi
            · exact hrl x hx
        · right
          intro x hx
          rcases List.mem_cons.1 (hper.mem_iff.1 hx) with rfl | hx
          · exact hxi
          · exact h x hx
/-- Exponents in order. -/
def UpL (l : List T) : Prop := l.Pairwise fun a b => T.cmp a b ≤ 0
theorem up_perm : ∀ {l m : List T}, UpL l → UpL m → l.Perm m → l = m
  | [], m, _, _, h => (List.nil_perm.1 h).symm
  | a :: l, [], _, _, h => absurd h.length_eq (by simp)
  | a :: l, b :: m, hl, hm, h => by
    obtain ⟨l1, l2⟩ := List.pairwise_cons.1 hl
    obtain ⟨m1, m2⟩ := List.pairwise_cons.1 hm
    have hab : a = b := by
      rcases List.mem_cons.1 (h.mem_iff.1 (show a ∈ a :: l by simp)) with e | ha
      · exact e
      · rcases List.mem_cons.1 (h.mem_iff.2 (show b ∈ b :: m by simp)) with e | hb
        · exact e.symm
        · have h1 := l1 b hb
          have h2 := m1 a ha
          have h3 := T.cmp_anti a b
          exact T.cmp_eq _ _ (by omega)
    subst hab
    rw [up_perm l2 m2 (List.Perm.cons_inv h)]
theorem up_erase {l : List T} (h : UpL l) (i : Nat) : UpL (l.eraseIdx i) := List.Pairwise.sublist (List.eraseIdx_sublist l i) h
theorem use_up {t : T} (h : t.use = true) (h7 : t.kind = 7) : UpL t.kids ∧ t.name = ⟨#[]⟩ := by
  have hv := T.use_valid h
  unfold T.use at h
  obtain ⟨_, hnorm⟩ := (T.isN_iff t).1 (Bool.and_eq_true_iff.1 h).2
  have hsh := (Bool.and_eq_true_iff.1 hv).2
  obtain ⟨k, s, ks⟩ := t
  obtain rfl : k = 7 := h7
  simp only [T.norm, if_pos] at hnorm
  injection hnorm with _ _ hnorm
  refine ⟨?_, ?_⟩
  · have := T.isort_up (T.normAll ks)
    rw [hnorm] at this; exact this
  · rw [T.shape_head 7 s ks (by decide) (by decide)] at hsh
    have h1 := (Bool.and_eq_true_iff.1 (Bool.and_eq_true_iff.1 hsh).1).2
    show s = ⟨#[]⟩
    exact T.empty_of h1
/-- A power of which a base and the rest are there. -/
theorem pow_base {l : List T} {p : T} (hp : p ∈ l) (hp7 : p.kind = 7) (hpn : p.name = ⟨#[]⟩) (hpu : UpL p.kids) (hpl : 1 ≤ p.kids.length) : ∀ (r ks : List T), UpL ks → ks.Perm (p.kids ++ r) → (∀ x ∈ r, x ∈ l) → Syn (· ∈ l) (.mk 7 ⟨#[]⟩ ks)
  | [], ks, hu, hper, _ => by
    rw [List.append_nil] at hper
    have e := up_perm hu hpu hper
    obtain ⟨k, s, ps⟩ := p
    obtain rfl : k = 7 := hp7
    obtain rfl : s = ⟨#[]⟩ := hpn
    have e' : ks = ps := e
    rw [e']; exact .base hp
  | x :: r, ks, hu, hper, hr => by
    have hx : x ∈ ks := hper.mem_iff.2 (List.mem_append_right _ (by simp))
    obtain ⟨j, hj, e⟩ := List.getElem_of_mem hx
    have hlen : ks.length = p.kids.length + (r.length + 1) := by rw [hper.length_eq]; simp
    have hper' : (ks.eraseIdx j).Perm (p.kids ++ r) := by
      have h1 := (perm_erase hj).symm.trans (hper.trans List.perm_middle)
      rw [e] at h1
      exact List.Perm.cons_inv h1
    refine .pow j rfl (show 1 < ks.length by omega) hj (pow_base hp hp7 hpn hpu hpl r _ (up_erase hu j) hper' fun y hy => hr y (List.mem_cons_of_mem _ hy)) (.base ?_)
    show T.kid (.mk 7 ⟨#[]⟩ ks) j ∈ l
    rw [kid_eq (t := .mk 7 ⟨#[]⟩ ks) hj]
    show ks[j] ∈ l
    rw [e]; exact hr x (by simp)
/-- A power all of whose exponents are there. -/
theorem pow_raise {l : List T} : ∀ (n : Nat) (ks : List T), ks.length = n + 1 → (∀ x ∈ ks, x ∈ l) → Syn (· ∈ l) (.mk 7 ⟨#[]⟩ ks)
  | 0, ks, hn, h => by
    refine .raise rfl hn (.base ?_)
    show T.kid (.mk 7 ⟨#[]⟩ ks) 0 ∈ l
    rw [kid_eq (t := .mk 7 ⟨#[]⟩ ks) (show 0 < ks.length by omega)]
    exact h _ (List.getElem_mem _)
  | n + 1, ks, hn, h => by
    refine .pow 0 rfl (show 1 < ks.length by omega) (show 0 < ks.length by omega) (pow_raise n (ks.eraseIdx 0) ?_ fun x hx => h x ((List.eraseIdx_sublist ks 0).subset hx)) (.base ?_)
    · rw [List.length_eraseIdx, if_pos (by omega)]; omega
    · show T.kid (.mk 7 ⟨#[]⟩ ks) 0 ∈ l
      rw [kid_eq (t := .mk 7 ⟨#[]⟩ ks) (show 0 < ks.length by omega)]
      exact h _ (List.getElem_mem _)
/-- What the reference builds can be put together. -/
theorem rbuild_syn {l : List T} (hl : ∀ p ∈ l, p.use = true) : ∀ (n : Nat) (t : T), t.use = true → rbuild n l t = true → Syn (· ∈ l) t
  | 0, _, _, h => by cases h
  | n + 1, t, hu, h => by
    have hk := T.shapeK (Bool.and_eq_true_iff.1 (T.use_valid hu)).2
    simp only [rbuild] at h
    rw [Bool.or_eq_true, has_iff] at h
    rcases h with h | h
    · exact .base h
    · split at h
      · rename_i hkk
        rw [List.all_eq_true] at h
        have ih : ∀ i, i < t.kids.length → Syn (· ∈ l) (t.kid i) := fun i hi => rbuild_syn hl n _ (use_kid hu (by omega) hi) (by rw [kid_eq hi]; exact h _ (List.getElem_mem hi))
        by_cases h4 : t.kind = 4
        · exact .hash h4 (ih 0 (by omega))
        · exact .two (by omega) (ih 0 (by omega)) (ih 1 (by omega))
      · split at h
        · rename_i h7
          obtain ⟨u1, u2⟩ := use_up hu h7
          rw [rpow_iff] at h
          obtain ⟨k, s, ks⟩ := t
          obtain rfl : k = 7 := h7
          obtain rfl : s = ⟨#[]⟩ := u2
          rcases h with ⟨p, hp, hp7, r, hr, hrl⟩ | h
          · obtain ⟨p1, p2⟩ := use_up (hl p hp) hp7
            have hpk := T.shapeK (Bool.and_eq_true_iff.1 (T.use_valid (hl p hp))).2
            exact pow_base hp hp7 p2 p1 (by omega) r ks u1 hr hrl
          · have hks : 1 ≤ ks.length := by
              rcases hk with ⟨h, _⟩ | ⟨h, _⟩ | ⟨h, _⟩ | ⟨_, h, _⟩
              · have h' : (7 : Int) = 1 ∨ (7 : Int) = 2 := h; omega
              · have h' : (7 : Int) = 3 ∨ (7 : Int) = 5 ∨ (7 : Int) = 6 := h; omega
              · have h' : (7 : Int) = 4 := h; omega
              · exact h
            exact pow_raise (ks.length - 1) ks (by omega) h
        · cases h
end Go.Proofs.YtihbmgkbipeakaaGreat

namespace Go.Proofs.YtihbmgkbipeakaaGreat

/-- What the reference puts for one term of its list. -/
def rput1 (l next : List T) (t : T) : List T :=
  if t.kind = 3 then putL (putL next (t.kid 0)) (t.kid 1)
  else if t.kind = 6 then putL next (t.kid 1)
  else if t.kind = 5 then (if rbuild ((t.kid 0).bulk + 1) l (t.kid 0) = true then putL next (t.kid 1) else next)
  else next
def rround (l : List T) : List T := l.foldl (rput1 l) l
theorem put_len (l : List T) (t : T) : l.length ≤ (putL l t).length ∧ ((putL l t).length = l.length → putL l t = l) := by
  unfold putL
  cases scanL l t l.length with
  | none => exact ⟨Nat.le_refl _, fun _ => rfl⟩
  | some q =>
    have : ((l.take q ++ [t]) ++ l.drop q).length = l.length + 1 := by simp; omega
    show l.length ≤ ((l.take q ++ [t]) ++ l.drop q).length ∧ _
    exact ⟨by omega, fun h => absurd (this.symm.trans h) (by omega)⟩
/-- The rules for one term. -/
def Rule (l : List T) (t x : T) : Prop := t.kind = 3 ∧ (x = t.kid 0 ∨ x = t.kid 1) ∨ t.kind = 6 ∧ x = t.kid 1 ∨ t.kind = 5 ∧ rbuild ((t.kid 0).bulk + 1) l (t.kid 0) = true ∧ x = t.kid 1
theorem rput1_facts (l : List T) {next : List T} (hn : Asc next) (t : T) : Asc (rput1 l next t) ∧ next.length ≤ (rput1 l next t).length ∧ ∀ x, x ∈ rput1 l next t ↔ x ∈ next ∨ Rule l t x := by
  unfold rput1 Rule
  by_cases h3 : t.kind = 3
  · rw [if_pos h3]
    obtain ⟨a1, a2⟩ := put_facts hn (t.kid 0)
    obtain ⟨b1, b2⟩ := put_facts a1 (t.kid 1)
    refine ⟨b1, Nat.le_trans (put_len next _).1 (put_len _ _).1, fun x => ?_⟩
    rw [b2, a2]
    constructor
    · rintro ((h | h) | h)
      · exact .inl h
      · exact .inr (.inl ⟨h3, .inl h⟩)
      · exact .inr (.inl ⟨h3, .inr h⟩)
    · rintro (h | ⟨_, h | h⟩ | ⟨h, _⟩ | ⟨h, _⟩)
      · exact .inl (.inl h)
      · exact .inl (.inr h)
      · exact .inr h
      · omega
      · omega
  · rw [if_neg h3]
    by_cases h6 : t.kind = 6
    · rw [if_pos h6]
      obtain ⟨a1, a2⟩ := put_facts hn (t.kid 1)
      refine ⟨a1, (put_len next _).1, fun x => ?_⟩
      rw [a2]
      constructor
      · rintro (h | h)
        · exact .inl h
        · exact .inr (.inr (.inl ⟨h6, h⟩))
      · rintro (h | ⟨h, _⟩ | ⟨_, h⟩ | ⟨h, _⟩)
        · exact .inl h
        · omega
        · exact .inr h
        · omega
    · rw [if_neg h6]
      by_cases h5 : t.kind = 5
      · rw [if_pos h5]
        by_cases hb : rbuild ((t.kid 0).bulk + 1) l (t.kid 0) = true
        · rw [if_pos hb]
          obtain ⟨a1, a2⟩ := put_facts hn (t.kid 1)
          refine ⟨a1, (put_len next _).1, fun x => ?_⟩
          rw [a2]
          constructor
          · rintro (h | h)
            · exact .inl h
            · exact .inr (.inr (.inr ⟨h5, hb, h⟩))
          · rintro (h | ⟨h, _⟩ | ⟨h, _⟩ | ⟨_, _, h⟩)
            · exact .inl h
            · omega
            · omega
            · exact .inr h
        · rw [if_neg hb]
          refine ⟨hn, Nat.le_refl _, fun x => ⟨.inl, ?_⟩⟩
          rintro (h | ⟨h, _⟩ | ⟨h, _⟩ | ⟨_, h, _⟩)
          · exact h
          · omega
          · omega
          · exact absurd h hb
      · rw [if_neg h5]
        refine ⟨hn, Nat.le_refl _, fun x => ⟨.inl, ?_⟩⟩
        rintro (h | ⟨h, _⟩ | ⟨h, _⟩ | ⟨h, _⟩)
        · exact h
        · omega
        · omega
        · omega
theorem rfold_facts (l : List T) : ∀ (ts next : List T), Asc next → Asc (ts.foldl (rput1 l) next) ∧ next.length ≤ (ts.foldl (rput1 l) next).length ∧ ∀ x, x ∈ ts.foldl (rput1 l) next ↔ x ∈ next ∨ ∃ t ∈ ts, Rule l t x
  | [], next, hn => ⟨hn, Nat.le_refl _, fun x => by simp⟩
  | t :: r, next, hn => by
    obtain ⟨a1, a2, a3⟩ := rput1_facts l hn t
    obtain ⟨b1, b2, b3⟩ := rfold_facts l r _ a1
    refine ⟨b1, Nat.le_trans a2 b2, fun x => ?_⟩
    rw [List.foldl_cons, b3, a3]
    constructor
    · rintro ((h | h) | ⟨u, hu, h⟩)
      · exact .inl h
      · exact .inr ⟨t, by simp, h⟩
      · exact .inr ⟨u, List.mem_cons_of_mem _ hu, h⟩
    · rintro (h | ⟨u, hu, h⟩)
      · exact .inl (.inl h)
      · rcases List.mem_cons.1 hu with rfl | hu
        · exact .inl (.inr h)
        · exact .inr ⟨u, hu, h⟩
open Classical in
/-- An ascending list that a longer one of the same length holds is that one. -/
theorem asc_same {l m : List T} (hl : Asc l) (hm : Asc m) (h : ∀ x ∈ l, x ∈ m) (hlen : m.length = l.length) : m = l := by
  have nd : ∀ {k : List T}, Asc k → k.Nodup := fun hk => List.Pairwise.imp (fun h e => by subst e; exact cmp_irr _ h) hk
  refine asc_ext hm hl fun x => ⟨fun hx => ?_, h x⟩
  by_cases hxl : x ∈ l
  · exact hxl
  · have h2 : (x :: l).Nodup := List.nodup_cons.2 ⟨hxl, nd hl⟩
    have := nodup_le h2 (m := m) fun y hy => by
      rcases List.mem_cons.1 hy with rfl | hy
      · exact hx
      · exact h y hy
    simp only [List.length_cons] at this; omega
def rrun : Nat → List T → List T
  | 0, l => l
  | f + 1, l => if (rround l).length = l.length then l else rrun f (rround l)
def rfirst (K : List T) : List T := K.foldl putL []
theorem first_facts : ∀ (K l : List T), Asc l → Asc (K.foldl putL l) ∧ ∀ x, x ∈ K.foldl putL l ↔ x ∈ l ∨ x ∈ K
  | [], l, hl => ⟨hl, fun x => by simp⟩
  | t :: r, l, hl => by
    obtain ⟨a1, a2⟩ := put_facts hl t
    obtain ⟨b1, b2⟩ := first_facts r _ a1
    exact ⟨b1, fun x => by rw [List.foldl_cons, b2, a2, List.mem_cons, or_assoc]⟩
/-- What the reference's list keeps. -/
structure RInv (U : List T) (K : T → Prop) (l : List T) : Prop where
  asc : Asc l
  use : ∀ x ∈ l, x.use = true
  mem : ∀ x ∈ l, x ∈ U
  an : ∀ x ∈ l, An K x
theorem rule_an {U l : List T} {K : T → Prop} (h : RInv U K l) (hU : Uni U) {t x : T} (ht : t ∈ l) (hr : Rule l t x) : x.use = true ∧ x ∈ U ∧ An K x := by
  have hu := h.use t ht
  have hk := T.shapeK (Bool.and_eq_true_iff.1 (T.use_valid hu)).2
  have ha := an_took K t (h.an t ht)
  rcases hr with ⟨h3, rfl | rfl⟩ | ⟨h6, rfl⟩ | ⟨h5, hb, rfl⟩
  · exact ⟨use_kid hu (by omega) (by omega), hU.kid t (h.mem t ht) 0 (by omega), (ha.1 h3).1⟩
  · exact ⟨use_kid hu (by omega) (by omega), hU.kid t (h.mem t ht) 1 (by omega), (ha.1 h3).2⟩
  · exact ⟨use_kid hu (by omega) (by omega), hU.kid t (h.mem t ht) 1 (by omega), ha.2.1 h6⟩
  · refine ⟨use_kid hu (by omega) (by omega), hU.kid t (h.mem t ht) 1 (by omega), ha.2.2 h5 ?_⟩
    exact (rbuild_syn h.use _ _ (use_kid hu (by omega) (by omega)) hb).mono fun y hy => h.an y hy
theorem RInv.round {U l : List T} {K : T → Prop} (h : RInv U K l) (hU : Uni U) : RInv U K (rround l) ∧ l.length ≤ (rround l).length ∧ ∀ x ∈ l, x ∈ rround l := by
  obtain ⟨a1, a2, a3⟩ := rfold_facts l l l h.asc
  have key : ∀ x ∈ rround l, x.use = true ∧ x ∈ U ∧ An K x := fun x hx => by
    rcases (a3 x).1 hx with hx | ⟨t, ht, hr⟩
    · exact ⟨h.use x hx, h.mem x hx, h.an x hx⟩
    · exact rule_an h hU ht hr
  exact ⟨⟨a1, fun x hx => (key x hx).1, fun x hx => (key x hx).2.1, fun x hx => (key x hx).2.2⟩, a2, fun x hx => (a3 x).2 (.inl hx)⟩
open Classical in
theorem RInv.len {U l : List T} {K : T → Prop} (h : RInv U K l) : l.length ≤ U.length :=
  nodup_le (List.Pairwise.imp (fun h e => by subst e; exact cmp_irr _ h) h.asc) h.mem
theorem rrun_facts {U : List T} {K : T → Prop} (hU : Uni U) : ∀ (f : Nat) (l : List T), RInv U K l → U.length < f + l.length → RInv U K (rrun f l) ∧ (∀ x ∈ l, x ∈ rrun f l) ∧ Took (· ∈ rrun f l)
  | 0, l, h, hf => by have := h.len; omega
  | f + 1, l, h, hf => by
    obtain ⟨a1, a2, a3⟩ := h.round hU
    simp only [rrun]
    by_cases hl : (rround l).length = l.length
    · rw [if_pos hl]
      refine ⟨h, fun x hx => hx, fun t ht => ?_⟩
      have e := asc_same h.asc a1.asc a3 hl
      have hm : ∀ x, Rule l t x → x ∈ l := fun x hr => by
        rw [← e]; exact ((rfold_facts l l l h.asc).2.2 x).2 (.inr ⟨t, ht, hr⟩)
      have hk := T.shapeK (Bool.and_eq_true_iff.1 (T.use_valid (h.use t ht))).2
      refine ⟨fun h3 => ⟨hm _ (.inl ⟨h3, .inl rfl⟩), hm _ (.inl ⟨h3, .inr rfl⟩)⟩, fun h6 => hm _ (.inr (.inl ⟨h6, rfl⟩)), fun h5 hs => hm _ (.inr (.inr ⟨h5, ?_, rfl⟩))⟩
      exact rbuild_full hU _ _ (hU.kid t (h.mem t ht) 0 (by omega)) (Nat.lt_succ_self _) hs
    · rw [if_neg hl]
      obtain ⟨b1, b2, b3⟩ := rrun_facts hU f _ a1 (by omega)
      exact ⟨b1, fun x hx => b2 x (a3 x hx), b3⟩
/-- The reference's Close: the same set, in ascending order. -/
theorem rclose_facts {U K : List T} (hU : Uni U) (hK : ∀ t ∈ K, t ∈ U) (hu : ∀ t ∈ K, t.use = true) {f : Nat} (hf : U.length < f) : Asc (rrun f (rfirst K)) ∧ ∀ x, x ∈ rrun f (rfirst K) ↔ An (· ∈ K) x := by
  obtain ⟨a1, a2⟩ := first_facts K [] List.Pairwise.nil
  have hm : ∀ x, x ∈ rfirst K ↔ x ∈ K := fun x => (a2 x).trans ⟨fun h => by rcases h with h | h; cases h; exact h, .inr⟩
  have hi : RInv U (· ∈ K) (rfirst K) := ⟨a1, fun x hx => hu x ((hm x).1 hx), fun x hx => hK x ((hm x).1 hx), fun x hx => An.known ((hm x).1 hx)⟩
  obtain ⟨b1, b2, b3⟩ := rrun_facts hU f _ hi (by omega)
  exact ⟨b1.asc, fun x => ⟨b1.an x, fun ha => ha _ b3 fun y hy => b2 y ((hm y).2 hy)⟩⟩
end Go.Proofs.YtihbmgkbipeakaaGreat

namespace Go.Proofs.YtihbmgkbipeakaaGreat

end Go.Proofs.YtihbmgkbipeakaaGreat
