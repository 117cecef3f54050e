/- Several texts in one: WebKn, WebSd, WebSe. -/
import Derived.Test.YtihbmgkbipeakaaWebG18
import Derived.Test.YtihbmgkbipeakaaWebG19
import Derived.Deep.CutBlock
namespace Go.Proofs.Ytihbmgkbipeakaa
open Go.RowKit

theorem DiceAt.keep {B g : Nat} {w w' : World} (h : DiceAt B g w) (hk : ∀ b, b ≤ g → b < w.heap.size → w'.heap[b]? = w.heap[b]?) : DiceAt B g w' := by
  have hgl := h.lt
  obtain ⟨h0, A, n, c, k, h1, h2, h3, h3', h4⟩ := h
  refine ⟨h0, A, n, c, k, (hk g (Nat.le_refl _) hgl).trans h1, h2, h3, h3', ?_⟩
  rcases h4 with h4 | ⟨b, off, hbB, e, hc⟩
  · exact .inl h4
  · refine .inr ⟨b, off, hbB, e, fun j hj => ?_⟩
    obtain ⟨z, g1, g2⟩ := hc j hj
    refine ⟨z, ?_, g2⟩
    rw [← g1]
    exact World.cell?_of_block (hk b (by omega) (by omega))
/-- A list of terms takes one more, whatever else was done. -/
theorem TermsRow.pushS {w1 w3 : World} {base : Nat} {v : Value} {L : List T} {t : T} {A8 : Option Addr} {c8 : Nat} {xs : List Value} {u0 u1 u2 : Value} {o : Obj} (hct : CT (but base v.ownBlock) w1 xs L)
    (ht : TermIn (but base v.ownBlock) w1 (.agg #[u0, u1, u2]) t) (hown : w3.ownsRow base 29 3 (.slice A8 (L.length + 1) c8) (L.length + 1) (xs ++ [u0, u1, u2]))
    (hg : (w1.alloc o).grownBy w3 v.ownBlock) (hat : A8.map (·.block) = v.ownBlock ∨ A8.map (·.block) = some (w1.alloc o).heap.size) : TermsRow w3 base (.slice A8 (L.length + 1) c8) (L ++ [t]) := by
  obtain ⟨g8, cap, e, _⟩ := hown.form (by omega)
  injection e with e1 e2 e3
  subst e1; subst e3
  refine TermsRow.snoc (w := w1.alloc o) (H := (w1.alloc o).heap.size) (fun i hi => ?_) hct.1 ?_ hown hg ?_ rfl
  · obtain ⟨a0, a1, a2, b0, b1, b2, b3⟩ := hct.2 i hi
    exact ⟨a0, a1, a2, b0, b1, b2, b3.keep fun b hb2 hl => ⟨hb2, Below.heap_alloc w1 o b hl⟩⟩
  · exact ht.keep fun b hbb hl => ⟨hbb, Below.heap_alloc w1 o b hl⟩
  · rcases hat with h | h
    · exact .inl h.symm
    · right; injection h
/-- What the maker of knowledge keeps: g is its dice, B the least block of its terms. -/
def KnAt (P : T → Prop) (B g : Nat) (w : World) (L : List T) (l : Value) (wr : World) : Prop := TermsRow wr B l L ∧ (∀ t ∈ L, P t) ∧ DiceAt g g wr ∧ Below w.heap.size w wr ∧ w.heap.size ≤ g ∧ g < B ∧ B ≤ wr.heap.size
/-- After a term was made. -/
theorem KnAt.step {P : T → Prop} {B g : Nat} {w wr w3 : World} {L : List T} {l : Value} (h : KnAt P B g w L l wr) (hd : DiceAt g g w3) (hg : wr.grownBy w3 (some g)) : KnAt P B g w L l w3 := by
  obtain ⟨h1, h2, h3, h4, h5, h6, h7⟩ := h
  exact ⟨h1.keep fun b hb hl => hg.block b hl (fun e => by have e' : b = g := Option.some.inj e; omega), h2, hd, h4.grown hg h4.size (fun k hk => by have e' : g = k := Option.some.inj hk; omega), h5, h6, Nat.le_trans h7 hg.size⟩
theorem KnAt.later {P : T → Prop} {B g : Nat} {w wr w3 : World} {L : List T} {l : Value} (h : KnAt P B g w L l wr) (hb : Below wr.heap.size wr w3) : KnAt P B g w L l w3 := by
  obtain ⟨h1, h2, h3, h4, h5, h6, h7⟩ := h
  exact ⟨h1.later hb, h2, h3.below hb h3.lt, h4.trans (hb.mono h4.size), h5, h6, Nat.le_trans h7 hb.size⟩
theorem KnAt.cells {P : T → Prop} {B g : Nat} {w wr : World} {L : List T} {l : Value} (h : KnAt P B g w L l wr) : ∃ A c xs, l = .slice A L.length c ∧ wr.ownsRow B 29 3 (.slice A L.length c) L.length xs ∧ CT (but B (Value.slice A L.length c).ownBlock) wr xs L := by
  obtain ⟨xs, h1, h2⟩ := h.1.cells
  obtain ⟨A, c, rfl⟩ := own_shapeU h1
  exact ⟨A, c, xs, rfl, h1, h2⟩
/-- A term that was made just now lies apart from the list. -/
theorem KnAt.apart {P : T → Prop} {B g : Nat} {w wr w3 : World} {L : List T} {l v : Value} {t : T} (h : KnAt P B g w L l wr) (hti : TermIn (from_ wr.heap.size) w3 v t) : TermIn (but B l.ownBlock) w3 v t := by
  obtain ⟨h1, h2, h3, h4, h5, h6, h7⟩ := h
  exact hti.keep fun b hb _ => ⟨but_iff.2 ⟨by have := of_decide_eq_true hb; omega, fun e => by have := (h1.block b e).2; have := of_decide_eq_true hb; omega⟩, rfl⟩
theorem KnAt.push {P : T → Prop} {B g : Nat} {w w3 w8 : World} {L : List T} {t : T} {A A8 : Option Addr} {c c8 : Nat} {xs : List Value} {u0 u1 u2 : Value} {o : Obj} (h : KnAt P B g w L (.slice A L.length c) w3)
    (hct : CT (but B (Value.slice A L.length c).ownBlock) w3 xs L) (ht : TermIn (but B (Value.slice A L.length c).ownBlock) w3 (.agg #[u0, u1, u2]) t) (hm : P t)
    (hown : w8.ownsRow B 29 3 (.slice A8 (L.length + 1) c8) (L.length + 1) (xs ++ [u0, u1, u2])) (hg : (w3.alloc o).grownBy w8 (Value.slice A L.length c).ownBlock)
    (hat : A8.map (·.block) = (Value.slice A L.length c).ownBlock ∨ A8.map (·.block) = some (w3.alloc o).heap.size) : KnAt P B g w (L ++ [t]) (.slice A8 (L.length + 1) c8) w8 := by
  obtain ⟨h1, h2, h3, h4, h5, h6, h7⟩ := h
  have hb := below_alloc1 w3 o
  have hz := size_alloc1 w3 o
  refine ⟨TermsRow.pushS hct ht hown hg hat, fun x hx => ?_, h3.keep fun b hbg hl => ?_, ?_, h5, h6, Nat.le_trans h7 (Nat.le_trans hb.size hg.size)⟩
  · rcases List.mem_append.1 hx with hx | hx
    · exact h2 x hx
    · rw [List.mem_singleton] at hx; subst hx; exact hm
  · exact (hg.block b (by omega) (fun e => by have := (h1.block b e.symm).1; omega)).trans (hb.block b hl)
  · refine (h4.trans (hb.mono h4.size)).grown hg (Nat.le_trans h4.size (by omega)) (fun k hk => ?_)
    have := (h1.block k hk).1; omega

set_option maxRecDepth 100000 in
set_option maxHeartbeats 8000000 in
theorem made_known (A : Option Addr) (n c : Nat) (w : World) (hn : n ≤ 80) (hl : ListAt w A n) :
    Calls Try.prog 7 #[.slice A n c] w fun e w' => ∃ v L B, e = .returned v ∧ w.heap.size ≤ B ∧ B ≤ w'.heap.size ∧ TermsRow w' B v L ∧ 1 ≤ L.length ∧ L.length ≤ 7 ∧ (∀ t ∈ L, T.Made 4 t) ∧ Below w.heap.size w w' := by
  obtain ⟨i0, hi0, hz0, hz1, hz2⟩ := info_parts Try.infoT
  have HQ := Lib.hid hn; have HLA := Lib.hid hl
  clear hn hl
  go_enter Try.func7, Try.ntmps7
  go_upto_region 1 with fail
  go_wp2_with fail
  refine (made_roll A n c _ HQ.out HLA.out).mono ?_; rintro e w1 ⟨g, hg, rfl, hd, hb1⟩
  have HG := Lib.hid hg; have HD := Lib.hid hd; have HB1 := Lib.hid hb1
  clear hg hd hb1
  go_upto_region 3 with fail
  go_wp2_with fail
  refine (made_next g g 7 _ HD.out (by omega) (by omega)).mono ?_; rintro e w2 ⟨v, hv0, hv1, rfl, hd2, hg2⟩
  obtain ⟨m, rfl⟩ : ∃ m : Nat, v = (m : Int) := ⟨v.toNat, by omega⟩
  have hm6 : m < 7 := by omega
  have HST := Lib.hid (show KnAt (T.Made 4) (g + 1) g w [] (.slice none 0 0) w2 from ⟨TermsRow.nil _ _, fun t ht => (List.not_mem_nil ht).elim, hd2, HB1.out.grown hg2 HB1.out.size (fun k hk => by have e' : g = k := Option.some.inj hk; have := HG.out; omega), HG.out, Nat.lt_succ_self _, hd2.lt⟩)
  have hw7 : IntKind.i64.wrap (1 + (m : Int)) = ((m + 1 : Nat) : Int) := by rw [IntWalk.i64_in _ (by omega)]; omega
  clear hd2 hg2 hv0 hv1
  go_upto_region 4 with fail
  go_loopw [5, 4] (fun i l wr => ∃ (j : Nat) (L : List T), i = .int .i64 j ∧ L.length + j = m + 1 ∧ KnAt (T.Made 4) (g + 1) g w L l wr) (fun i _ _ => (intOf i).toNat)
  case atStart => exact ⟨m + 1, [], by first | rfl | (rw [hw7]) | go_num, by simp, HST.out⟩
  case round =>
    obtain ⟨j, L, rfl, hj, hk⟩ := hrel
    have HJ := Lib.hid hj
    by_cases h0 : 0 < j
    · have h0' : (0 : Int) < (j : Int) := by omega
      have hj7 : j ≤ 7 := by omega
      obtain ⟨A7, c7, xs, rfl, hown, hct⟩ := hk.cells
      have HK := Lib.hid hk
      clear hk hown hct hj
      go_wp2_with fail
      refine (made_term 0 4 (by omega) (by omega) g g _ HK.out.2.2.1).mono ?_; rintro e w3 ⟨t, A3, C3, hmd, rfl, hti, hd3, hg3⟩
      have HK3 := Lib.hid (HK.out.step hd3 hg3)
      have hap := HK.out.apart hti
      obtain ⟨A9, c9, xs3, e9, hown3, hct3⟩ := HK3.out.cells
      injection e9 with e91 e92 e93
      subst e91; subst e93
      have hwb := below_alloc1 w3 (.cells #[.int .i64 t.kind, .string t.name, .slice A3 t.kids.length C3] 29)
      have HOWN3 := Lib.hid (own_later hown3 hwb)
      have HONE := Lib.hid hti.one
      have hz3 : g + 1 ≤ (w3.alloc (.cells #[.int .i64 t.kind, .string t.name, .slice A3 t.kids.length C3] 29)).heap.size := by rw [size_alloc1]; have := hd3.lt; omega
      have HPUSH := Lib.hid (fun w8 A8 c8 hown8 hg8 hat8 => KnAt.push (w8 := w8) (A8 := A8) (c8 := c8) (o := .cells #[.int .i64 t.kind, .string t.name, .slice A3 t.kids.length C3] 29 (0, 0)) HK3.out hct3 hap hmd hown8 hg8 hat8)
      have hL7 : L.length ≤ 7 := by have := HJ.out; omega
      clear hti hd3 hg3 hap hwb hown3 hct3 hmd
      go_wp2_with (at_builtin; refine wpList_append_src _ rfl _ _ 27 rfl (g + 1) 29 i0 _ 3 48 Try.underlying27 hi0 hz0 hz1 hz2 rfl (by omega) _ _ _ rfl HOWN3.out _ 1 1 [.int .i64 t.kind, .string t.name, .slice A3 t.kids.length C3] rfl (Src.newsU _ _ _ 3 rfl) HONE.out (by unfold maxLen; omega) (by omega) hz3 ?_; intro A8 c8 w8 hown8 hg8 hat8; have HR8 := Lib.hid (HPUSH.out _ _ _ hown8 hg8 hat8); clear hown8 hg8 hat8)
      go_roundw
      case rel => exact ⟨j - 1, L ++ [t], by go_num, by rw [List.length_append]; have := HJ.out; simp; omega, by simpa using HR8.out⟩
      case measure => simp [intOf]; omega
    · obtain rfl : j = 0 := by omega
      have HK := Lib.hid hk
      clear hk hj h0
      go_upto_region 7 with fail
      go_wp2_with fail
      go_ret
      exact ⟨_, L, g + 1, rfl, by have := HG.out; omega, HK.out.2.2.2.2.2.2, HK.out.1, by have := HJ.out; omega, by have := HJ.out; omega, HK.out.2.1, HK.out.2.2.2.1⟩
end Go.Proofs.Ytihbmgkbipeakaa

namespace Go.Proofs.Ytihbmgkbipeakaa
open Go.RowKit

namespace T
theorem sub_bulkAll : ∀ {a b : List T}, a.Sublist b → bulkAll a ≤ bulkAll b
  | _, _, .slnil => Nat.le_refl _
  | _, _, .cons _ h => by have := sub_bulkAll h; simp only [bulkAll]; omega
  | _, _, .cons_cons _ h => by have := sub_bulkAll h; simp only [bulkAll]; omega
mutual
theorem subs_bulk : ∀ (t x : T), x ∈ subs t → x.bulk ≤ t.bulk
  | .mk k s ks, x, h => by
    simp only [subs] at h
    rcases List.mem_cons.1 h with rfl | h
    · exact Nat.le_refl _
    · rcases List.mem_append.1 h with h | h
      · have := subsAll_bulk ks x h; simp only [T.bulk]; omega
      · split at h
        · obtain ⟨l, hl, rfl⟩ := List.mem_map.1 h
          have := sub_bulkAll (subl_mem (List.mem_filter.1 hl).1)
          simp only [T.bulk, emp_size]; omega
        · cases h
theorem subsAll_bulk : ∀ (l : List T) (x : T), x ∈ subsAll l → x.bulk ≤ bulkAll l
  | [], x, h => by cases h
  | t :: r, x, h => by
    simp only [subsAll] at h
    simp only [bulkAll]
    rcases List.mem_append.1 h with h | h
    · have := subs_bulk t x h; omega
    · have := subsAll_bulk r x h; omega
end
end T
def z_secret : ByteArray := ⟨#[115, 101, 99, 114, 101, 116]⟩
def sec : T := .mk 1 z_secret []
/-- A term that hides the secret. -/
def HidT (t : T) : Prop := t.bulk ≤ 1000 ∧ t.safe z_secret = true
theorem hid_made {D : Nat} (hD : D ≤ 4) {t : T} (h : T.Made D t) : HidT t := ⟨by have := h.bulk hD; omega, T.low_safe (by decide) t h.2.2.2⟩
theorem hid_power : HidT (.mk 7 ⟨#[]⟩ [sec]) := ⟨by decide, by kernel_rfl⟩
theorem hid_snd {D : Nat} (hD : D ≤ 4) {t : T} (h : T.Made D t) (k : Int) (hk : k = 5 ∨ k = 6) : HidT (.mk k ⟨#[]⟩ [sec, t]) := by
  refine ⟨?_, ?_⟩
  · have := h.bulk hD
    have h1 : sec.bulk = 10 := by decide
    simp only [T.bulk, T.bulkAll, T.emp_size] at *; omega
  · rw [T.safe_snd (t := .mk k ⟨#[]⟩ [sec, t]) hk]
    simp only [T.kids, List.tail_cons, T.safeAll, Bool.and_true]
    exact (hid_made hD h).2
theorem hid_hash {D : Nat} (hD : D ≤ 4) {t : T} (h : T.Made D t) : HidT (.mk 4 ⟨#[]⟩ [.mk 3 ⟨#[]⟩ [sec, t]]) := by
  refine ⟨?_, T.safe_else (t := .mk 4 ⟨#[]⟩ [.mk 3 ⟨#[]⟩ [sec, t]]) (show (4 : Int) ≠ 1 by decide) (show (4 : Int) ≠ 3 by decide) (show (4 : Int) ≠ 5 by decide) (show (4 : Int) ≠ 6 by decide)⟩
  have := h.bulk hD
  have h1 : sec.bulk = 10 := by decide
  simp only [T.bulk, T.bulkAll, T.emp_size] at *; omega
/-- The power of an atom and the secret, in its normal form. -/
theorem hid_norm {k : Int} {s : ByteArray} (h : T.made0 k s = true) : (T.mk 7 ⟨#[]⟩ [.mk k s [], sec]).valid = true ∧ (T.mk 7 ⟨#[]⟩ [.mk k s [], sec]).bulk ≤ 1048576 ∧ HidT (T.mk 7 ⟨#[]⟩ [.mk k s [], sec]).norm := by
  unfold T.made0 at h
  simp only [Bool.or_eq_true, Bool.and_eq_true, decide_eq_true_eq] at h
  rcases h with ⟨rfl, (rfl | rfl) | rfl⟩ | ⟨rfl, (((rfl | rfl) | rfl) | rfl) | rfl⟩
  all_goals exact ⟨by kernel_rfl, by decide, by rw [T.bulk_norm]; decide, by kernel_rfl⟩
theorem use_of {L : List T} : ∀ t ∈ cnt L, t.use = true := fun _ h => (List.mem_filter.1 h).2
theorem mem_of_cnt {L : List T} : ∀ t ∈ cnt L, t ∈ L := fun _ h => List.mem_of_mem_take (List.mem_filter.1 h).1
/-- The terms of a few of which each is not too large. -/
theorem uni_few (K : List T) (hv : ∀ t ∈ K, t.valid = true) (hl : K.length ≤ 1000) (hb : ∀ t ∈ K, t.bulk ≤ 1048576) : Uni (T.subsAll K) ∧ ∀ t ∈ T.subsAll K, t.bulk ≤ 1048576 :=
  ⟨uni_of hv hl, fun t ht => by obtain ⟨x, hx, hs⟩ := T.mem_subsAll.1 ht; exact Nat.le_trans (T.subs_bulk x t hs) (hb x hx)⟩
theorem can_secret (L : List T) (hl : L.length ≤ 100) (h : ∀ t ∈ L, HidT t) :
    ∃ U, Uni U ∧ (∀ t ∈ U, t.bulk ≤ 1048576) ∧ (∀ t ∈ cnt L, t ∈ U) ∧ sec ∈ U ∧ canB (Wb.fill U.length (cnt L)) sec = false := by
  have hlen : (cnt L).length ≤ 100 := by unfold cnt; exact Nat.le_trans (List.length_filter_le _ _) (by rw [List.length_take]; omega)
  obtain ⟨hU, hbU⟩ := uni_few (sec :: cnt L) (fun t ht => by
      rcases List.mem_cons.1 ht with rfl | ht
      · kernel_rfl
      · exact T.use_valid (use_of t ht)) (by rw [List.length_cons]; omega) (fun t ht => by
      rcases List.mem_cons.1 ht with rfl | ht
      · decide
      · have := (h t (mem_of_cnt t ht)).1; omega)
  have hK : ∀ t ∈ cnt L, t ∈ T.subsAll (sec :: cnt L) := fun t ht => in_subs (List.mem_cons_of_mem _ ht)
  have hs : sec ∈ T.subsAll (sec :: cnt L) := in_subs (by simp)
  refine ⟨_, hU, hbU, hK, hs, can_n ?_⟩
  refine Wb.name_none hU (z := z_secret) (fill_inv hU hK _) ?_ hs rfl rfl
  have h1 := Wb.start_facts z_secret (cnt L) [] hK (Inv.nil _)
  exact (Wb.run_facts hU z_secret _ _ _ h1.1).2 (h1.2 (fun t ht => (h t (mem_of_cnt t ht)).2) (fun s hs => by cases hs))

/-- The value of x at the end of a case: gx is its box, g the dice. -/
def CaseAt (g gx : Nat) (wr W : World) : Prop := ∃ (t : T) (A : Option Addr) (c : Nat), Box W gx (.int .i64 t.kind) (.string t.name) (.slice A t.kids.length c) ∧ TermIn (from_ wr.heap.size) W (.agg #[.int .i64 t.kind, .string t.name, .slice A t.kids.length c]) t ∧ HidT t ∧ DiceAt g g W ∧ wr.grownBy W (some g)
theorem case_ends {g gx : Nat} {wr W : World} {t : T} {A : Option Addr} {c : Nat} {v0 v1 v2 : Value} (hbx : Box W gx v0 v1 v2) (hd : DiceAt g g W) (hg : wr.grownBy W (some g)) (hgx : wr.heap.size ≤ gx) (hgl : g < wr.heap.size)
    (ht : TermIn (but wr.heap.size (some gx)) W (.agg #[.int .i64 t.kind, .string t.name, .slice A t.kids.length c]) t) (hP : HidT t) :
    CaseAt g gx wr (((W.setCell ⟨gx, 0, none⟩ (.int .i64 t.kind)).setCell ⟨gx, 1, none⟩ (.string t.name)).setCell ⟨gx, 2, none⟩ (.slice A t.kids.length c)) := by
  refine ⟨t, A, c, box_set3 hbx _ _ _, ht.keep fun b hb _ => ?_, hP, hd.keep fun b hb _ => set3_other _ _ _ _ _ _ (by omega), ?_⟩
  · obtain ⟨h1, h2⟩ := but_iff.1 hb
    exact ⟨decide_eq_true h1, set3_other _ _ _ _ _ _ (fun e => h2 (by rw [e]))⟩
  · have h := below_set3 W gx (.int .i64 t.kind) (.string t.name) (.slice A t.kids.length c)
    exact ⟨h.os.trans hg.os, h.tape.trans hg.tape, h.output.trans hg.output, Nat.le_trans hg.size h.size, fun i hi hn => (h.block i (by omega)).trans (hg.block i hi hn)⟩
/-- A term of cells that were laid just now. -/
theorem case_kids {base gx : Nat} {W : World} {xs : List Value} {L : List T} (hct : CT (but base (some gx)) W xs L) (hgx : gx < W.heap.size) (hb : base ≤ W.heap.size) (k : Int) (hk : -9223372036854775808 ≤ k ∧ k ≤ 9223372036854775807) (hl : L.length ≤ maxLen) :
    TermIn (but base (some gx)) (W.alloc (.cells xs.toArray 29)) (.agg #[.int .i64 k, .string ⟨#[]⟩, .slice (some ⟨W.heap.size, 0, none⟩) L.length L.length]) (.mk k ⟨#[]⟩ L) := by
  refine CT.term (b := W.heap.size) (hct.keep fun b hb' hlt => ⟨hb', Below.heap_alloc _ _ _ hlt⟩) (fun j u hu => ?_) (but_iff.2 ⟨hb, fun e => by have e' : gx = W.heap.size := Option.some.inj e; omega⟩) k ⟨#[]⟩ hk (by decide) (Nat.le_refl _) hl
  have e := heap_alloc_new W (.cells xs.toArray 29)
  unfold World.cell?; rw [e]; simpa using hu
theorem sec_in (S : Nat → Bool) (W : World) : TermIn S W (.agg #[.int .i64 1, .string z_secret, .slice none 0 0]) sec := atom_in _ _ 1 z_secret (by decide) (by decide)
theorem sec_ct (S : Nat → Bool) (W : World) : CT S W [.int .i64 1, .string z_secret, .slice none 0 0] [sec] := CT.one (sec_in S W)
end Go.Proofs.Ytihbmgkbipeakaa

namespace Go.Proofs.Ytihbmgkbipeakaa
open Go.RowKit Go.ChangeShapes Go.WideShapes

/-- The normal form of a power of an atom and the secret. -/
theorem norm_ready {k : Int} {s : ByteArray} (W : World) (hk : T.made0 k s = true) :
    Calls Try.prog 10 #[.agg #[.int .i64 7, .string ⟨#[]⟩, .slice (some ⟨W.heap.size, 0, none⟩) 2 2]] (W.alloc (.cells #[.int .i64 k, .string s, .slice none 0 0, .int .i64 1, .string z_secret, .slice none 0 0] 29)) fun e w' =>
      ∃ (t : T) (A : Option Addr) (c : Nat), e = .returned (.agg #[.int .i64 t.kind, .string t.name, .slice A t.kids.length c]) ∧ TermIn (from_ (W.heap.size + 1)) w' (.agg #[.int .i64 t.kind, .string t.name, .slice A t.kids.length c]) t ∧ HidT t ∧
        Below (W.alloc (.cells #[.int .i64 k, .string s, .slice none 0 0, .int .i64 1, .string z_secret, .slice none 0 0] 29)).heap.size (W.alloc (.cells #[.int .i64 k, .string s, .slice none 0 0, .int .i64 1, .string z_secret, .slice none 0 0] 29)) w' := by
  obtain ⟨h1, h2, h3⟩ := hid_norm hk
  have ht : TermAt (W.alloc (.cells #[.int .i64 k, .string s, .slice none 0 0, .int .i64 1, .string z_secret, .slice none 0 0] 29)) (.agg #[.int .i64 7, .string ⟨#[]⟩, .slice (some ⟨W.heap.size, 0, none⟩) 2 2]) (T.mk 7 ⟨#[]⟩ [.mk k s [], sec]) :=
    CT.term (S := fun _ => true) (b := W.heap.size) (xs := [.int .i64 k, .string s, .slice none 0 0, .int .i64 1, .string z_secret, .slice none 0 0]) (L := [.mk k s [], sec])
      ((CT.one (atom_in _ _ k s (by have := (T.made0_facts hk).1; omega) (by have := (T.made0_facts hk).2.2; unfold maxLen; omega))).append (sec_ct _ _)) (fun j u hu => by
        have e := heap_alloc_new W (.cells #[.int .i64 k, .string s, .slice none 0 0, .int .i64 1, .string z_secret, .slice none 0 0] 29)
        unfold World.cell?; rw [e]; simpa using hu) rfl 7 ⟨#[]⟩ (by decide) (by decide) (Nat.le_refl _) (show 2 ≤ maxLen by decide) |>.at
  have h := rnormal (.mk 7 ⟨#[]⟩ [.mk k s [], sec]) _ _ ht h2
  rw [if_pos h1] at h
  refine h.mono ?_
  rintro e w' ⟨A, c, h4, h5, h6⟩
  rw [size_alloc1] at h5
  exact ⟨_, A, c, h4, h5, h3, h6⟩
/-- What the law's loop keeps: gs is the secret's box. -/
def LawAt (B g gs : Nat) (w : World) (L : List T) (l : Value) (wr : World) : Prop := KnAt HidT B g w L l wr ∧ Box wr gs (.int .i64 1) (.string z_secret) (.slice none 0 0) ∧ g < gs ∧ gs < B
theorem LawAt.box {B g gs : Nat} {w wr W : World} {L : List T} {l : Value} (h : LawAt B g gs w L l wr) (hg : wr.grownBy W (some g)) : Box W gs (.int .i64 1) (.string z_secret) (.slice none 0 0) := h.2.1.grown hg (fun e => by have e' := Option.some.inj e; have := h.2.2.1; omega)

theorem LawAt.step {B g gs : Nat} {w wr W : World} {L : List T} {l : Value} (h : LawAt B g gs w L l wr) (hd : DiceAt g g W) (hg : wr.grownBy W (some g)) : LawAt B g gs w L l W := ⟨h.1.step hd hg, h.box hg, h.2.2⟩
theorem LawAt.later {B g gs : Nat} {w wr W : World} {L : List T} {l : Value} (h : LawAt B g gs w L l wr) (hb : Below wr.heap.size wr W) : LawAt B g gs w L l W := ⟨h.1.later hb, h.2.1.later hb, h.2.2⟩
theorem LawAt.room {B g gs : Nat} {w wr : World} {L : List T} {l : Value} (h : LawAt B g gs w L l wr) (o : Obj) : B ≤ (wr.alloc o).heap.size := by rw [size_alloc1]; have := h.1.2.2.2.2.2.2; omega
theorem LawAt.push {B g gs : Nat} {w w3 w8 : World} {L : List T} {t : T} {A A8 : Option Addr} {c c8 : Nat} {xs : List Value} {u0 u1 u2 : Value} {o : Obj} (h : LawAt B g gs w L (.slice A L.length c) w3)
    (hct : CT (but B (Value.slice A L.length c).ownBlock) w3 xs L) (ht : TermIn (but B (Value.slice A L.length c).ownBlock) w3 (.agg #[u0, u1, u2]) t) (hm : HidT t)
    (hown : w8.ownsRow B 29 3 (.slice A8 (L.length + 1) c8) (L.length + 1) (xs ++ [u0, u1, u2])) (hg : (w3.alloc o).grownBy w8 (Value.slice A L.length c).ownBlock)
    (hat : A8.map (·.block) = (Value.slice A L.length c).ownBlock ∨ A8.map (·.block) = some (w3.alloc o).heap.size) : LawAt B g gs w (L ++ [t]) (.slice A8 (L.length + 1) c8) w8 :=
  ⟨h.1.push hct ht hm hown hg hat, (h.2.1.later (below_alloc1 w3 o)).grown hg (fun e => by have := (h.1.1.block gs e).1; have := h.2.2.2; omega), h.2.2⟩

set_option maxRecDepth 100000 in
set_option maxHeartbeats 16000000 in
theorem ded_secret (A : Option Addr) (n c : Nat) (w : World) (hn : n ≤ maxLen) (hl : ListAt w A n) :
    Calls Try.prog 3 #[.slice A n c] w fun e w' => e = .returned (.bool true) ∧ Below w.heap.size w w' := by
  have HL := Lib.hid (fun W => made_light A n c W hn)
  obtain ⟨q, hq⟩ : ∃ q, decide (n ≤ 80) = q := ⟨_, rfl⟩
  rw [hq] at HL
  have HLA := Lib.hid hl
  obtain ⟨i0, hi0, hz0, hz1, hz2⟩ := info_parts Try.infoT
  clear hl
  go_enter Try.func3, Try.ntmps3
  go_wp2_with fail
  refine (HL.out _).mono ?_; rintro e w1 ⟨rfl, rfl⟩
  cases q
  · go_wp2_with fail
    refine (awake _).mono ?_; rintro e w3 ⟨rfl, hb⟩
    have HB := Lib.hid hb
    clear hb
    go_wp2_with fail
    go_ret
    exact ⟨rfl, HB.out⟩
  have HQ := Lib.hid (of_decide_eq_true hq)
  clear hq hn HL
  go_wp2_with fail
  refine (made_roll A n c _ HQ.out HLA.out).mono ?_; rintro e w2 ⟨g, hg, rfl, hd, hb2⟩
  have hws := below_alloc1 w2 (.cells #[.int .i64 1, .string ⟨#[115, 101, 99, 114, 101, 116]⟩, .slice none 0 0] 29)
  have hbs := Box.new w2 (.int .i64 1) (.string ⟨#[115, 101, 99, 114, 101, 116]⟩) (.slice none 0 0)
  have HG := Lib.hid (And.intro hg hd.lt); have HD3 := Lib.hid (hd.below hws hd.lt); have HB3 := Lib.hid (hb2.trans (hws.mono hb2.size))
  have HLA3 := Lib.hid ((HLA.out.below hb2).below hws)
  have HZ3 := Lib.hid (size_alloc1 w2 (.cells #[.int .i64 1, .string ⟨#[115, 101, 99, 114, 101, 116]⟩, .slice none 0 0] 29))
  clear hg hd hb2 hws HLA
  go_upto_region 5 with fail
  generalize w2.alloc (.cells #[.int .i64 1, .string ⟨#[115, 101, 99, 114, 101, 116]⟩, .slice none 0 0] 29) = w3 at hbs HD3 HB3 HLA3 HZ3 ⊢
  have HBS3 := Lib.hid hbs
  clear hbs
  go_wp2_with fail
  refine (made_known A n c _ HQ.out HLA3.out).mono ?_; rintro e w4 ⟨v4, L0, B, rfl, hB1, hB2, hrow, _, hL7, hmd, hb4⟩
  have HST := Lib.hid (show LawAt B g w2.heap.size w L0 v4 w4 from ⟨⟨hrow, fun t ht => hid_made (by omega) (hmd t ht), HD3.out.below hb4 HD3.out.lt, HB3.out.trans (hb4.mono HB3.out.size), HG.out.1, by have := HG.out.2; have := HZ3.out; omega, hB2⟩, HBS3.out.later hb4, HG.out.2, by have := HZ3.out; omega⟩)
  have HGW := Lib.hid HG.out.1
  clear hB1 hB2 hrow hmd hb4 HD3 HB3 HLA3 HZ3 HBS3 HG
  generalize w2.heap.size = gs at HST ⊢
  go_upto_region 6 with fail
  go_wp2_with fail
  refine (made_next g g 4 _ HST.out.1.2.2.1 (by omega) (by omega)).mono ?_; rintro e w5 ⟨v5, hv0, hv1, rfl, hd5, hg5⟩
  have HST5 := Lib.hid (HST.out.step hd5 hg5)
  clear hd5 hg5 HST
  go_upto_region 7 with fail
  go_loopw [6, 5] (fun i l wr => ∃ (z : Int) (L : List T), i = .int .i64 z ∧ -1 ≤ z ∧ z ≤ 3 ∧ (L.length : Int) + z ≤ 10 ∧ LawAt B g gs w L l wr) (fun i _ _ => (intOf i + 1).toNat)
  case atStart => exact ⟨v5, L0, rfl, by omega, by omega, by omega, HST5.out⟩
  case round =>
    obtain ⟨z, L, rfl, hz1', hz2', hz3, hk⟩ := hrel
    have HZL := Lib.hid hz3
    obtain ⟨A7, c7, _, rfl, _, _⟩ := hk.1.cells
    by_cases h0 : 0 ≤ z
    · have HK := Lib.hid hk
      clear hk hz3
      go_wp2_with fail
      refine (made_term 0 3 (by omega) (by omega) g g _ HK.out.1.2.2.1).mono ?_; rintro e w3 ⟨t, A3, C3, hmd, rfl, hti, hd3, hg3⟩
      have hwx := below_alloc1 w3 (.cells #[.int .i64 t.kind, .string t.name, .slice A3 t.kids.length C3] 29)
      have hbx := Box.new w3 (.int .i64 t.kind) (.string t.name) (.slice A3 t.kids.length C3)
      have HMD := Lib.hid hmd
      have HGX := Lib.hid (And.intro hg3.size HK.out.1.2.2.1.lt)
      have HDX := Lib.hid (hd3.below hwx hd3.lt); have HGRX := Lib.hid (grownBy_trans hg3 (grownBy_of_below (some g) hwx))
      have HTX := Lib.hid (show TermIn (but wr.heap.size (some w3.heap.size)) _ _ _ from hti.keep fun b hb hlt => ⟨but_iff.2 ⟨of_decide_eq_true hb, fun e => by have e' : w3.heap.size = b := Option.some.inj e; omega⟩, hwx.block b hlt⟩)
      clear hwx hmd hti hd3 hg3
      go_upto_region 10 with fail
      generalize w3.alloc (.cells #[.int .i64 t.kind, .string t.name, .slice A3 t.kids.length C3] 29) = wx at hbx HDX HGRX HTX ⊢
      generalize w3.heap.size = gx at hbx HGX HTX ⊢
      have HBX := Lib.hid hbx
      clear hbx
      go_wp2_with fail
      refine (made_next g g 5 _ HDX.out (by omega) (by omega)).mono ?_; rintro e w5 ⟨v, hv0, hv1, rfl, hd5, hg5⟩
      have HX5 := Lib.hid (HBX.out.grown hg5 (fun e => by have e' := Option.some.inj e; have := HGX.out; omega))
      have HG5 := Lib.hid (grownBy_trans HGRX.out hg5); have HD5 := Lib.hid hd5
      have HBS5 := Lib.hid (HK.out.box HG5.out)
      have HGS := Lib.hid HK.out.2.2.1
      have HT5 := Lib.hid (HTX.out.keep (w' := w5) (S' := but wr.heap.size (some gx)) fun b hb hlt => ⟨hb, hg5.block b hlt (fun e => by have e' : b = g := Option.some.inj e; have := (but_iff.1 hb).1; have := HGX.out; omega)⟩)
      clear hd5 hg5 HBX HDX HGRX HTX
      go_upto_block 2 with fail
      go_cut [] from 27 to 58 (fun W' => CaseAt g gx wr W')
      case first =>
        rcases (by omega : v = 0 ∨ v = 1 ∨ v = 2 ∨ v = 3 ∨ v = 4) with rfl | rfl | rfl | rfl | rfl
        · have hwa := below_alloc1 w5 (.cells #[.int .i64 1, .string z_secret, .slice none 0 0] 29)
          have BXa := HX5.out.later hwa
          obtain ⟨x0, x1, x2⟩ := BXa.cells; obtain ⟨f0, f1, f2⟩ := BXa.free
          obtain ⟨y0, y1, y2⟩ := HX5.out.cells
          obtain ⟨s0, s1, s2⟩ := HBS5.out.cells
          have HTa := Lib.hid (case_kids (xs := [.int .i64 1, .string z_secret, .slice none 0 0]) (L := [sec]) (sec_ct _ w5) HX5.out.lt HG5.out.size 7 (by decide) (by decide))
          have HDa := Lib.hid (HD5.out.below hwa HD5.out.lt); have HGa := Lib.hid (grownBy_trans HG5.out (grownBy_of_below (some g) hwa)); have HBXa := Lib.hid BXa
          clear hwa BXa
          go_wp2_with fail
          go_meet
          refine case_ends (t := (.mk 7 ⟨#[]⟩ [sec])) (A := some ⟨w5.heap.size, 0, none⟩) (c := 1) HBXa.out HDa.out HGa.out HGX.out.1 HGX.out.2 HTa.out hid_power
        · have hwa := below_alloc1 w5 (.cells #[.int .i64 1, .string z_secret, .slice none 0 0, .int .i64 t.kind, .string t.name, .slice A3 t.kids.length C3] 29)
          have BXa := HX5.out.later hwa
          obtain ⟨x0, x1, x2⟩ := BXa.cells; obtain ⟨f0, f1, f2⟩ := BXa.free
          obtain ⟨y0, y1, y2⟩ := HX5.out.cells
          obtain ⟨s0, s1, s2⟩ := HBS5.out.cells
          have HTa := Lib.hid (case_kids (xs := [.int .i64 1, .string z_secret, .slice none 0 0, .int .i64 t.kind, .string t.name, .slice A3 t.kids.length C3]) (L := [sec, t]) ((sec_ct _ w5).append (CT.one HT5.out)) HX5.out.lt HG5.out.size 5 (by decide) (show 2 ≤ maxLen by decide))
          have HDa := Lib.hid (HD5.out.below hwa HD5.out.lt); have HGa := Lib.hid (grownBy_trans HG5.out (grownBy_of_below (some g) hwa)); have HBXa := Lib.hid BXa
          clear hwa BXa
          go_wp2_with fail
          go_meet
          refine case_ends (t := (.mk 5 ⟨#[]⟩ [sec, t])) (A := some ⟨w5.heap.size, 0, none⟩) (c := 2) HBXa.out HDa.out HGa.out HGX.out.1 HGX.out.2 HTa.out (hid_snd (by omega) HMD.out 5 (.inl rfl))
        · have hwa := below_alloc1 w5 (.cells #[.int .i64 1, .string z_secret, .slice none 0 0, .int .i64 t.kind, .string t.name, .slice A3 t.kids.length C3] 29)
          have BXa := HX5.out.later hwa
          obtain ⟨x0, x1, x2⟩ := BXa.cells; obtain ⟨f0, f1, f2⟩ := BXa.free
          obtain ⟨y0, y1, y2⟩ := HX5.out.cells
          obtain ⟨s0, s1, s2⟩ := HBS5.out.cells
          have HTa := Lib.hid (case_kids (xs := [.int .i64 1, .string z_secret, .slice none 0 0, .int .i64 t.kind, .string t.name, .slice A3 t.kids.length C3]) (L := [sec, t]) ((sec_ct _ w5).append (CT.one HT5.out)) HX5.out.lt HG5.out.size 6 (by decide) (show 2 ≤ maxLen by decide))
          have HDa := Lib.hid (HD5.out.below hwa HD5.out.lt); have HGa := Lib.hid (grownBy_trans HG5.out (grownBy_of_below (some g) hwa)); have HBXa := Lib.hid BXa
          clear hwa BXa
          go_wp2_with fail
          go_meet
          refine case_ends (t := (.mk 6 ⟨#[]⟩ [sec, t])) (A := some ⟨w5.heap.size, 0, none⟩) (c := 2) HBXa.out HDa.out HGa.out HGX.out.1 HGX.out.2 HTa.out (hid_snd (by omega) HMD.out 6 (.inr rfl))
        · have hw1 := below_alloc1 w5 (.cells #[.int .i64 1, .string z_secret, .slice none 0 0, .int .i64 t.kind, .string t.name, .slice A3 t.kids.length C3] 29)
          have hw2 := below_alloc1 (w5.alloc (.cells #[.int .i64 1, .string z_secret, .slice none 0 0, .int .i64 t.kind, .string t.name, .slice A3 t.kids.length C3] 29)) (.cells #[.int .i64 3, .string ⟨#[]⟩, .slice (some ⟨w5.heap.size, 0, none⟩) 2 2] 29)
          have hwa := hw1.trans (hw2.mono hw1.size)
          have BXa := HX5.out.later hwa
          obtain ⟨x0, x1, x2⟩ := BXa.cells; obtain ⟨f0, f1, f2⟩ := BXa.free
          obtain ⟨y0, y1, y2⟩ := HX5.out.cells
          obtain ⟨s0, s1, s2⟩ := HBS5.out.cells
          have hta := case_kids (xs := [.int .i64 1, .string z_secret, .slice none 0 0, .int .i64 t.kind, .string t.name, .slice A3 t.kids.length C3]) (L := [sec, t]) ((sec_ct _ w5).append (CT.one HT5.out)) HX5.out.lt HG5.out.size 3 (by decide) (show 2 ≤ maxLen by decide)
          have htb := case_kids (xs := [.int .i64 3, .string ⟨#[]⟩, .slice (some ⟨w5.heap.size, 0, none⟩) 2 2]) (L := [.mk 3 ⟨#[]⟩ [sec, t]]) (CT.one hta) (Nat.lt_of_lt_of_le HX5.out.lt hw1.size) (Nat.le_trans HG5.out.size hw1.size) 4 (by decide) (show 1 ≤ maxLen by decide)
          rw [size_alloc1] at htb
          have HTa := Lib.hid htb
          have HDa := Lib.hid (HD5.out.below hwa HD5.out.lt); have HGa := Lib.hid (grownBy_trans HG5.out (grownBy_of_below (some g) hwa)); have HBXa := Lib.hid BXa
          clear hwa hw1 hw2 BXa hta htb
          go_wp2_with fail
          go_meet
          refine case_ends (t := (.mk 4 ⟨#[]⟩ [.mk 3 ⟨#[]⟩ [sec, t]])) (A := some ⟨w5.heap.size + 1, 0, none⟩) (c := 1) HBXa.out HDa.out HGa.out HGX.out.1 HGX.out.2 HTa.out (hid_hash (by omega) HMD.out)
        · obtain ⟨s0, s1, s2⟩ := HBS5.out.cells
          have HDd := Lib.hid (show DiceAt g g (World.drew w5) from HD5.out); have HGd := Lib.hid (show wr.grownBy (World.drew w5) (some g) from mill_grown_drew HG5.out); have HBXd := Lib.hid (show Box (World.drew w5) gx _ _ _ from HX5.out); have HBSd := Lib.hid (show Box (World.drew w5) gs _ _ _ from HBS5.out)
          have d0 := HBSd.out.cells.1; have d1 := HBSd.out.cells.2.1; have d2 := HBSd.out.cells.2.2
          go_upto_region 11 with fail
          refine wp_region_any (by kernel_rfl) ?_
          (try (change wpAny _ _ _ _ _ _ _ (World.drew _)))
          (refine wpAny_take (i := 0) (v := ?_) (by simp only [List.getElem?_toArray, List.getElem?_cons_zero]; rfl) (by kernel_rfl) (by kernel_rfl) (by kernel_rfl) (by exact fun _ _ _ h => h) (Or.inl ⟨by rfl, ?_⟩) ?_; rotate_left 1; · (intro w; go_simp; (try with_reducible rfl)))
          refine wpAny_ready (rs := [1, 2]) (by kernel_rfl) (by simp) ?_
          refine AllReady.cons (by simp only [List.getElem?_toArray, List.getElem?_cons_succ, List.getElem?_cons_zero]; rfl) (fun K hK => ?_) ?_
          · go_simp; go_at_call 11; refine (made_atom g g 0 _ HDd.out).mono ?_; rintro e w6 ⟨k, s, hk, rfl, hd6, hg6⟩; have HD6 := Lib.hid hd6; have HK6 := Lib.hid hk; have HG6 := Lib.hid (grownBy_trans HGd.out hg6); have HBX6 := Lib.hid (HBXd.out.grown hg6 (fun e => by have e' := Option.some.inj e; have := HGX.out; omega)); have HBS6 := Lib.hid (HBSd.out.grown hg6 (fun e => by have e' := Option.some.inj e; have := HGS.out; omega)); obtain ⟨s0, s1, s2⟩ := HBS6.out.cells; clear hd6 hg6 hk
            (first | (refine hK _ _ ?_; clear hK K) | skip)
            refine wpAny_ready (rs := [2]) (by kernel_rfl) (by simp) ?_
            refine AllReady.cons (by simp only [List.getElem?_toArray, List.getElem?_cons_succ, List.getElem?_cons_zero]; rfl) (fun K hK => ?_) ?_
            · go_simp
              (first | (refine hK _ _ ?_; clear hK K) | skip)
              refine wpAny_ready (rs := [3]) (by kernel_rfl) (by simp) ?_
              refine AllReady.cons (by simp only [List.getElem?_toArray, List.getElem?_cons_succ, List.getElem?_cons_zero]; rfl) (fun K hK => ?_) ?_
              · go_simp
                (first | (refine hK _ _ ?_; clear hK K) | skip)
                (refine wpAny_take (i := 4) (v := ?_) (by simp only [List.getElem?_toArray, List.getElem?_cons_succ, List.getElem?_cons_zero]; rfl) (by kernel_rfl) (by kernel_rfl) (by kernel_rfl) (by exact fun _ _ _ h => h) (Or.inl ⟨by rfl, ?_⟩) ?_; rotate_left 1; · (intro w; go_simp; (try with_reducible rfl)))
                refine wpAny_ready (rs := [5]) (by kernel_rfl) (by simp) ?_
                refine AllReady.cons (by simp only [List.getElem?_toArray, List.getElem?_cons_succ, List.getElem?_cons_zero]; rfl) (fun K hK => ?_) ?_
                · go_simp; go_at_call 10; refine (norm_ready w6 HK6.out).mono ?_; rintro e w7 ⟨t7, A7, C7, rfl, ht7, hh7, hb7⟩; have hwa := below_alloc1 w6 (.cells #[.int .i64 k, .string s, .slice none 0 0, .int .i64 1, .string z_secret, .slice none 0 0] 29); have hb7' := hwa.trans (hb7.mono hwa.size); have HT7 := Lib.hid ht7; have HH7 := Lib.hid hh7; have HD7 := Lib.hid (HD6.out.below hb7' HD6.out.lt); have HG7 := Lib.hid (grownBy_trans HG6.out (grownBy_of_below (some g) hb7')); have HBX7 := Lib.hid (HBX6.out.later hb7'); obtain ⟨x0, x1, x2⟩ := HBX7.out.cells; obtain ⟨f0, f1, f2⟩ := HBX7.out.free; clear hwa hb7 hb7' ht7 hh7
                  (first | (refine hK _ _ ?_; clear hK K) | skip)
                  refine wpAny_ready (rs := [6]) (by kernel_rfl) (by simp) ?_
                  refine AllReady.cons (by simp only [List.getElem?_toArray, List.getElem?_cons_succ, List.getElem?_cons_zero]; rfl) (fun K hK => ?_) ?_
                  · go_simp
                    (first | (refine hK _ _ ?_; clear hK K) | skip)
                    refine wpAny_done (by kernel_rfl) ?_ _
                    go_wp2_with fail
                    go_meet
                    exact case_ends HBX7.out HD7.out HG7.out HGX.out.1 HGX.out.2 (HT7.out.keep fun b hb _ => ⟨but_iff.2 ⟨by have := of_decide_eq_true hb; have := HBX6.out.lt; have := HG6.out.size; omega, fun e => by have e' := Option.some.inj e; have := of_decide_eq_true hb; have := HBX6.out.lt; omega⟩, rfl⟩) HH7.out
                  exact AllReady.nil
                exact AllReady.nil
              exact AllReady.nil
            exact AllReady.nil
          refine AllReady.cons (by simp only [List.getElem?_toArray, List.getElem?_cons_succ, List.getElem?_cons_zero]; rfl) (fun K hK => ?_) ?_
          · go_simp
            (first | (refine hK _ _ ?_; clear hK K) | skip)
            refine wpAny_ready (rs := [1]) (by kernel_rfl) (by simp) ?_
            refine AllReady.cons (by simp only [List.getElem?_toArray, List.getElem?_cons_succ, List.getElem?_cons_zero]; rfl) (fun K hK => ?_) ?_
            · go_simp; go_at_call 11; refine (made_atom g g 0 _ HDd.out).mono ?_; rintro e w6 ⟨k, s, hk, rfl, hd6, hg6⟩; have HD6 := Lib.hid hd6; have HK6 := Lib.hid hk; have HG6 := Lib.hid (grownBy_trans HGd.out hg6); have HBX6 := Lib.hid (HBXd.out.grown hg6 (fun e => by have e' := Option.some.inj e; have := HGX.out; omega)); have HBS6 := Lib.hid (HBSd.out.grown hg6 (fun e => by have e' := Option.some.inj e; have := HGS.out; omega)); obtain ⟨s0, s1, s2⟩ := HBS6.out.cells; clear hd6 hg6 hk
              (first | (refine hK _ _ ?_; clear hK K) | skip)
              refine wpAny_ready (rs := [3]) (by kernel_rfl) (by simp) ?_
              refine AllReady.cons (by simp only [List.getElem?_toArray, List.getElem?_cons_succ, List.getElem?_cons_zero]; rfl) (fun K hK => ?_) ?_
              · go_simp
                (first | (refine hK _ _ ?_; clear hK K) | skip)
                (refine wpAny_take (i := 4) (v := ?_) (by simp only [List.getElem?_toArray, List.getElem?_cons_succ, List.getElem?_cons_zero]; rfl) (by kernel_rfl) (by kernel_rfl) (by kernel_rfl) (by exact fun _ _ _ h => h) (Or.inl ⟨by rfl, ?_⟩) ?_; rotate_left 1; · (intro w; go_simp; (try with_reducible rfl)))
                refine wpAny_ready (rs := [5]) (by kernel_rfl) (by simp) ?_
                refine AllReady.cons (by simp only [List.getElem?_toArray, List.getElem?_cons_succ, List.getElem?_cons_zero]; rfl) (fun K hK => ?_) ?_
                · go_simp; go_at_call 10; refine (norm_ready w6 HK6.out).mono ?_; rintro e w7 ⟨t7, A7, C7, rfl, ht7, hh7, hb7⟩; have hwa := below_alloc1 w6 (.cells #[.int .i64 k, .string s, .slice none 0 0, .int .i64 1, .string z_secret, .slice none 0 0] 29); have hb7' := hwa.trans (hb7.mono hwa.size); have HT7 := Lib.hid ht7; have HH7 := Lib.hid hh7; have HD7 := Lib.hid (HD6.out.below hb7' HD6.out.lt); have HG7 := Lib.hid (grownBy_trans HG6.out (grownBy_of_below (some g) hb7')); have HBX7 := Lib.hid (HBX6.out.later hb7'); obtain ⟨x0, x1, x2⟩ := HBX7.out.cells; obtain ⟨f0, f1, f2⟩ := HBX7.out.free; clear hwa hb7 hb7' ht7 hh7
                  (first | (refine hK _ _ ?_; clear hK K) | skip)
                  refine wpAny_ready (rs := [6]) (by kernel_rfl) (by simp) ?_
                  refine AllReady.cons (by simp only [List.getElem?_toArray, List.getElem?_cons_succ, List.getElem?_cons_zero]; rfl) (fun K hK => ?_) ?_
                  · go_simp
                    (first | (refine hK _ _ ?_; clear hK K) | skip)
                    refine wpAny_done (by kernel_rfl) ?_ _
                    go_wp2_with fail
                    go_meet
                    exact case_ends HBX7.out HD7.out HG7.out HGX.out.1 HGX.out.2 (HT7.out.keep fun b hb _ => ⟨but_iff.2 ⟨by have := of_decide_eq_true hb; have := HBX6.out.lt; have := HG6.out.size; omega, fun e => by have e' := Option.some.inj e; have := of_decide_eq_true hb; have := HBX6.out.lt; omega⟩, rfl⟩) HH7.out
                  exact AllReady.nil
                exact AllReady.nil
              exact AllReady.nil
            exact AllReady.nil
          exact AllReady.nil
      case rest =>
        obtain ⟨t9, A9, c9, hbx, hti, hh, hd, hg⟩ := hcut
        have HK3 := Lib.hid (HK.out.step hd hg)
        have hap := HK.out.1.apart hti
        obtain ⟨A10, c10, xs3, e9, hown3, hct3⟩ := HK3.out.1.cells
        injection e9 with e91 e92 e93
        subst e91; subst e93
        obtain ⟨x0, x1, x2⟩ := hbx.cells
        have HOWN3 := Lib.hid (own_later hown3 (below_alloc1 _ (.cells #[.int .i64 t9.kind, .string t9.name, .slice A9 t9.kids.length c9] 29)))
        have HONE := Lib.hid hti.one
        have hz3 := HK3.out.room (.cells #[.int .i64 t9.kind, .string t9.name, .slice A9 t9.kids.length c9] 29)
        have HPUSH := Lib.hid (fun w8 A8 c8 hown8 hg8 hat8 => LawAt.push (w8 := w8) (A8 := A8) (c8 := c8) (o := .cells #[.int .i64 t9.kind, .string t9.name, .slice A9 t9.kids.length c9] 29 (0, 0)) HK3.out hct3 hap hh hown8 hg8 hat8)
        have hL7' : L.length ≤ 11 := by have := HZL.out; omega
        clear hti hd hg hap hown3 hct3 hh hbx
        go_wp2_with (at_builtin; refine wpList_append_src _ rfl _ _ 27 rfl B 29 i0 _ 3 48 Try.underlying27 hi0 hz0 hz1 hz2 rfl (by omega) _ _ _ rfl HOWN3.out _ 1 1 [.int .i64 t9.kind, .string t9.name, .slice A9 t9.kids.length c9] rfl (Src.newsU _ _ _ 3 rfl) HONE.out (by unfold maxLen; omega) (by omega) hz3 ?_; intro A8 c8 w8 hown8 hg8 hat8; have HR8 := Lib.hid (HPUSH.out _ _ _ hown8 hg8 hat8); clear hown8 hg8 hat8)
        go_roundw
        case rel => exact ⟨z - 1, L ++ [t9], by go_num, by omega, by omega, by rw [List.length_append]; have := HZL.out; simp only [List.length_cons, List.length_nil]; omega, by simpa using HR8.out⟩
        case measure => simp [intOf]; omega
    · have hz9 : z = -1 := by omega
      subst hz9
      have HK := Lib.hid hk
      have hL11 : L.length ≤ 11 := by omega
      clear hk h0
      go_upto_region 21 with fail
      go_wp2_with fail
      refine (awake _).mono ?_; rintro e w9 ⟨rfl, hb9⟩
      have HK9 := Lib.hid (HK.out.later hb9)
      obtain ⟨s0, s1, s2⟩ := HK9.out.2.1.cells
      obtain ⟨U, hU, hbU, hKU, hs, hcan⟩ := can_secret L (by omega) HK.out.1.2.1
      have hkn : KnownAt w9 A7 c7 L := (TermsRow.term HK9.out.1.1 0 ⟨#[]⟩ (by decide) (by decide)).at
      have hc := ocan hU hbU L A7 c7 sec (.agg #[.int .i64 1, .string z_secret, .slice none 0 0]) w9 hkn (fun t ht => by have := (HK.out.1.2.1 t ht).1; omega) hKU (sec_in (fun _ => true) _).at (by decide) (fun _ => hs)
      rw [hcan] at hc
      have HC := Lib.hid hc
      clear hb9 hU hbU hKU hs hcan hkn hc
      go_wp2_with fail
      refine HC.out.mono ?_; rintro e w10 ⟨rfl, hb10⟩
      have HB10 := Lib.hid (HK9.out.1.2.2.2.1.trans (hb10.mono HK9.out.1.2.2.2.1.size))
      clear hb10
      go_wp2_with fail
      go_ret
      exact ⟨rfl, HB10.out⟩
set_option maxRecDepth 100000 in
theorem walkDeductionSecret {H : Type} {enc : TypeId × Value → H} {X Y Z : Prop} (w : World) (v : Value) (d : DataW H) {b0 : Nat} {p : List MemPlace} {r : Reach} (hv : Value.okWide Try.prog w r b0 22 v) (hd : DataW.Trod enc Try.prog w 0 (fun _ => true) true 22 v d p)
    (_hsz : X) (_hL : Y) (_hsh : Z) :
    Calls Try.prog 3 #[v] w fun e w' => e = .returned (.bool true) ∧ Below w.heap.size w w' := by
  obtain ⟨A, n, c, rfl, h1, h2, h3⟩ := open_list hv hd
  exact ded_secret A n c w (Nat.le_trans h1 h2) h3
end Go.Proofs.Ytihbmgkbipeakaa
