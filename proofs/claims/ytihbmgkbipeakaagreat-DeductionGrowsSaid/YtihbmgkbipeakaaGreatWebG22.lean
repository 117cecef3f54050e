/- Several texts in one: WebKn, TermCmpD, WebSo, WebTh. -/
import Derived.Test.YtihbmgkbipeakaaGreatWebG20
import Derived.Test.YtihbmgkbipeakaaGreatWebG21
import Derived.Test.YtihbmgkbipeakaaGreatWebG1
import Derived.Deep.RegionHeld3
import Derived.Sort.Grow
import Derived.Test.YtihbmgkbipeakaaGreatWebG16
import Derived.Test.YtihbmgkbipeakaaGreatWebG3
import Derived.Test.YtihbmgkbipeakaaGreatShelfH
import Derived.Shelf.SlSortCmp.WholeK
import Derived.Shelf.SlSortCmp.NoneTotal
import Derived.Test.YtihbmgkbipeakaaGreatWebG13
import Derived.Test.YtihbmgkbipeakaaGreatWebG9
namespace Go.Proofs.YtihbmgkbipeakaaGreat
open Go.RowKit

theorem DiceAt.keep {B g : Nat} {w w' : World} (h : DiceAt B g w) (hk : ∀ b, b ≤ g → b < w.heap.size → w'.heap[b]? = w.heap[b]?) : DiceAt B g w' := by
  have hgl := h.lt
  obtain ⟨h0, A, n, c, k, h1, h2, h3, h3', h4⟩ := h
  refine ⟨h0, A, n, c, k, (hk g (Nat.le_refl _) hgl).trans h1, h2, h3, h3', ?_⟩
  rcases h4 with h4 | ⟨b, off, hbB, e, hc⟩
  · exact .inl h4
  · refine .inr ⟨b, off, hbB, e, fun j hj => ?_⟩
    obtain ⟨z, g1, g2⟩ := hc j hj
    refine ⟨z, ?_, g2⟩
    rw [← g1]
    exact World.cell?_of_block (hk b (by omega) (by omega))
/-- A list of terms takes one more, whatever else was done. -/
theorem TermsRow.pushS {w1 w3 : World} {base : Nat} {v : Value} {L : List T} {t : T} {A8 : Option Addr} {c8 : Nat} {xs : List Value} {u0 u1 u2 : Value} {o : Obj} (hct : CT (but base v.ownBlock) w1 xs L)
    (ht : TermIn (but base v.ownBlock) w1 (.agg #[u0, u1, u2]) t) (hown : w3.ownsRow base 29 3 (.slice A8 (L.length + 1) c8) (L.length + 1) (xs ++ [u0, u1, u2]))
    (hg : (w1.alloc o).grownBy w3 v.ownBlock) (hat : A8.map (·.block) = v.ownBlock ∨ A8.map (·.block) = some (w1.alloc o).heap.size) : TermsRow w3 base (.slice A8 (L.length + 1) c8) (L ++ [t]) := by
  obtain ⟨g8, cap, e, _⟩ := hown.form (by omega)
  injection e with e1 e2 e3
  subst e1; subst e3
  refine TermsRow.snoc (w := w1.alloc o) (H := (w1.alloc o).heap.size) (fun i hi => ?_) hct.1 ?_ hown hg ?_ rfl
  · obtain ⟨a0, a1, a2, b0, b1, b2, b3⟩ := hct.2 i hi
    exact ⟨a0, a1, a2, b0, b1, b2, b3.keep fun b hb2 hl => ⟨hb2, Below.heap_alloc w1 o b hl⟩⟩
  · exact ht.keep fun b hbb hl => ⟨hbb, Below.heap_alloc w1 o b hl⟩
  · rcases hat with h | h
    · exact .inl h.symm
    · right; injection h
/-- What the maker of knowledge keeps: g is its dice, B the least block of its terms. -/
def KnAt (P : T → Prop) (B g : Nat) (w : World) (L : List T) (l : Value) (wr : World) : Prop := TermsRow wr B l L ∧ (∀ t ∈ L, P t) ∧ DiceAt g g wr ∧ Below w.heap.size w wr ∧ w.heap.size ≤ g ∧ g < B ∧ B ≤ wr.heap.size
/-- After a term was made. -/
theorem KnAt.step {P : T → Prop} {B g : Nat} {w wr w3 : World} {L : List T} {l : Value} (h : KnAt P B g w L l wr) (hd : DiceAt g g w3) (hg : wr.grownBy w3 (some g)) : KnAt P B g w L l w3 := by
  obtain ⟨h1, h2, h3, h4, h5, h6, h7⟩ := h
  exact ⟨h1.keep fun b hb hl => hg.block b hl (fun e => by have e' : b = g := Option.some.inj e; omega), h2, hd, h4.grown hg h4.size (fun k hk => by have e' : g = k := Option.some.inj hk; omega), h5, h6, Nat.le_trans h7 hg.size⟩
theorem KnAt.later {P : T → Prop} {B g : Nat} {w wr w3 : World} {L : List T} {l : Value} (h : KnAt P B g w L l wr) (hb : Below wr.heap.size wr w3) : KnAt P B g w L l w3 := by
  obtain ⟨h1, h2, h3, h4, h5, h6, h7⟩ := h
  exact ⟨h1.later hb, h2, h3.below hb h3.lt, h4.trans (hb.mono h4.size), h5, h6, Nat.le_trans h7 hb.size⟩
theorem KnAt.cells {P : T → Prop} {B g : Nat} {w wr : World} {L : List T} {l : Value} (h : KnAt P B g w L l wr) : ∃ A c xs, l = .slice A L.length c ∧ wr.ownsRow B 29 3 (.slice A L.length c) L.length xs ∧ CT (but B (Value.slice A L.length c).ownBlock) wr xs L := by
  obtain ⟨xs, h1, h2⟩ := h.1.cells
  obtain ⟨A, c, rfl⟩ := own_shapeU h1
  exact ⟨A, c, xs, rfl, h1, h2⟩
/-- A term that was made just now lies apart from the list. -/
theorem KnAt.apart {P : T → Prop} {B g : Nat} {w wr w3 : World} {L : List T} {l v : Value} {t : T} (h : KnAt P B g w L l wr) (hti : TermIn (from_ wr.heap.size) w3 v t) : TermIn (but B l.ownBlock) w3 v t := by
  obtain ⟨h1, h2, h3, h4, h5, h6, h7⟩ := h
  exact hti.keep fun b hb _ => ⟨but_iff.2 ⟨by have := of_decide_eq_true hb; omega, fun e => by have := (h1.block b e).2; have := of_decide_eq_true hb; omega⟩, rfl⟩
theorem KnAt.push {P : T → Prop} {B g : Nat} {w w3 w8 : World} {L : List T} {t : T} {A A8 : Option Addr} {c c8 : Nat} {xs : List Value} {u0 u1 u2 : Value} {o : Obj} (h : KnAt P B g w L (.slice A L.length c) w3)
    (hct : CT (but B (Value.slice A L.length c).ownBlock) w3 xs L) (ht : TermIn (but B (Value.slice A L.length c).ownBlock) w3 (.agg #[u0, u1, u2]) t) (hm : P t)
    (hown : w8.ownsRow B 29 3 (.slice A8 (L.length + 1) c8) (L.length + 1) (xs ++ [u0, u1, u2])) (hg : (w3.alloc o).grownBy w8 (Value.slice A L.length c).ownBlock)
    (hat : A8.map (·.block) = (Value.slice A L.length c).ownBlock ∨ A8.map (·.block) = some (w3.alloc o).heap.size) : KnAt P B g w (L ++ [t]) (.slice A8 (L.length + 1) c8) w8 := by
  obtain ⟨h1, h2, h3, h4, h5, h6, h7⟩ := h
  have hb := below_alloc1 w3 o
  have hz := size_alloc1 w3 o
  refine ⟨TermsRow.pushS hct ht hown hg hat, fun x hx => ?_, h3.keep fun b hbg hl => ?_, ?_, h5, h6, Nat.le_trans h7 (Nat.le_trans hb.size hg.size)⟩
  · rcases List.mem_append.1 hx with hx | hx
    · exact h2 x hx
    · rw [List.mem_singleton] at hx; subst hx; exact hm
  · exact (hg.block b (by omega) (fun e => by have := (h1.block b e.symm).1; omega)).trans (hb.block b hl)
  · refine (h4.trans (hb.mono h4.size)).grown hg (Nat.le_trans h4.size (by omega)) (fun k hk => ?_)
    have := (h1.block k hk).1; omega

set_option maxRecDepth 100000 in
set_option maxHeartbeats 8000000 in
theorem made_known (A : Option Addr) (n c : Nat) (w : World) (hn : n ≤ 80) (hl : ListAt w A n) :
    Calls Tryz.prog 13 #[.slice A n c] w fun e w' => ∃ v L B, e = .returned v ∧ w.heap.size ≤ B ∧ B ≤ w'.heap.size ∧ TermsRow w' B v L ∧ 1 ≤ L.length ∧ L.length ≤ 7 ∧ (∀ t ∈ L, T.Made 4 t) ∧ Below w.heap.size w w' := by
  obtain ⟨i0, hi0, hz0, hz1, hz2⟩ := info_parts Tryz.infoT
  have HQ := Lib.hid hn; have HLA := Lib.hid hl
  clear hn hl
  go_enter Tryz.func13, Tryz.ntmps13
  go_upto_region 1 with fail
  go_wp2_with fail
  refine (made_roll A n c _ HQ.out HLA.out).mono ?_; rintro e w1 ⟨g, hg, rfl, hd, hb1⟩
  have HG := Lib.hid hg; have HD := Lib.hid hd; have HB1 := Lib.hid hb1
  clear hg hd hb1
  go_upto_region 3 with fail
  go_wp2_with fail
  refine (made_next g g 7 _ HD.out (by omega) (by omega)).mono ?_; rintro e w2 ⟨v, hv0, hv1, rfl, hd2, hg2⟩
  obtain ⟨m, rfl⟩ : ∃ m : Nat, v = (m : Int) := ⟨v.toNat, by omega⟩
  have hm6 : m < 7 := by omega
  have HST := Lib.hid (show KnAt (T.Made 4) (g + 1) g w [] (.slice none 0 0) w2 from ⟨TermsRow.nil _ _, fun t ht => (List.not_mem_nil ht).elim, hd2, HB1.out.grown hg2 HB1.out.size (fun k hk => by have e' : g = k := Option.some.inj hk; have := HG.out; omega), HG.out, Nat.lt_succ_self _, hd2.lt⟩)
  have hw7 : IntKind.i64.wrap (1 + (m : Int)) = ((m + 1 : Nat) : Int) := by rw [IntWalk.i64_in _ (by omega)]; omega
  clear hd2 hg2 hv0 hv1
  go_upto_region 4 with fail
  go_loopw [5, 4] (fun i l wr => ∃ (j : Nat) (L : List T), i = .int .i64 j ∧ L.length + j = m + 1 ∧ KnAt (T.Made 4) (g + 1) g w L l wr) (fun i _ _ => (intOf i).toNat)
  case atStart => exact ⟨m + 1, [], by first | rfl | (rw [hw7]) | go_num, by simp, HST.out⟩
  case round =>
    obtain ⟨j, L, rfl, hj, hk⟩ := hrel
    have HJ := Lib.hid hj
    by_cases h0 : 0 < j
    · have h0' : (0 : Int) < (j : Int) := by omega
      have hj7 : j ≤ 7 := by omega
      obtain ⟨A7, c7, xs, rfl, hown, hct⟩ := hk.cells
      have HK := Lib.hid hk
      clear hk hown hct hj
      go_wp2_with fail
      refine (made_term 0 4 (by omega) (by omega) g g _ HK.out.2.2.1).mono ?_; rintro e w3 ⟨t, A3, C3, hmd, rfl, hti, hd3, hg3⟩
      have HK3 := Lib.hid (HK.out.step hd3 hg3)
      have hap := HK.out.apart hti
      obtain ⟨A9, c9, xs3, e9, hown3, hct3⟩ := HK3.out.cells
      injection e9 with e91 e92 e93
      subst e91; subst e93
      have hwb := below_alloc1 w3 (.cells #[.int .i64 t.kind, .string t.name, .slice A3 t.kids.length C3] 29)
      have HOWN3 := Lib.hid (own_later hown3 hwb)
      have HONE := Lib.hid hti.one
      have hz3 : g + 1 ≤ (w3.alloc (.cells #[.int .i64 t.kind, .string t.name, .slice A3 t.kids.length C3] 29)).heap.size := by rw [size_alloc1]; have := hd3.lt; omega
      have HPUSH := Lib.hid (fun w8 A8 c8 hown8 hg8 hat8 => KnAt.push (w8 := w8) (A8 := A8) (c8 := c8) (o := .cells #[.int .i64 t.kind, .string t.name, .slice A3 t.kids.length C3] 29 (0, 0)) HK3.out hct3 hap hmd hown8 hg8 hat8)
      have hL7 : L.length ≤ 7 := by have := HJ.out; omega
      clear hti hd3 hg3 hap hwb hown3 hct3 hmd
      go_wp2_with (at_builtin; refine wpList_append_src _ rfl _ _ 27 rfl (g + 1) 29 i0 _ 3 48 Tryz.underlying27 hi0 hz0 hz1 hz2 rfl (by omega) _ _ _ rfl HOWN3.out _ 1 1 [.int .i64 t.kind, .string t.name, .slice A3 t.kids.length C3] rfl (Src.newsU _ _ _ 3 rfl) HONE.out (by unfold maxLen; omega) (by omega) hz3 ?_; intro A8 c8 w8 hown8 hg8 hat8; have HR8 := Lib.hid (HPUSH.out _ _ _ hown8 hg8 hat8); clear hown8 hg8 hat8)
      go_roundw
      case rel => exact ⟨j - 1, L ++ [t], by go_num, by rw [List.length_append]; have := HJ.out; simp; omega, by simpa using HR8.out⟩
      case measure => simp [intOf]; omega
    · obtain rfl : j = 0 := by omega
      have HK := Lib.hid hk
      clear hk hj h0
      go_upto_region 7 with fail
      go_wp2_with fail
      go_ret
      exact ⟨_, L, g + 1, rfl, by have := HG.out; omega, HK.out.2.2.2.2.2.2, HK.out.1, by have := HJ.out; omega, by have := HJ.out; omega, HK.out.2.1, HK.out.2.2.2.1⟩
end Go.Proofs.YtihbmgkbipeakaaGreat

namespace Go.Proofs.YtihbmgkbipeakaaGreat
open Go.RowKit

/-- Below, and the draws have not become fewer. -/
structure BelowD (B : Nat) (w w' : World) : Prop extends Below B w w' where
  drawn : w.drawn ≤ w'.drawn
theorem BelowD.refl (B : Nat) (w : World) : BelowD B w w := ⟨Below.refl B w, Nat.le_refl _⟩
theorem BelowD.trans {B : Nat} {a b c : World} (h : BelowD B a b) (k : BelowD B b c) : BelowD B a c := ⟨h.toBelow.trans k.toBelow, Nat.le_trans h.drawn k.drawn⟩
theorem BelowD.mono {B B' : Nat} {w w' : World} (h : BelowD B w w') (hB : B' ≤ B) : BelowD B' w w' := ⟨h.toBelow.mono hB, h.drawn⟩
theorem BelowD.drew {B : Nat} {a w : World} (h : BelowD B a w) : BelowD B a w.drew := ⟨h.toBelow.drew, Nat.le_succ_of_le h.drawn⟩
theorem BelowD.alloc {B : Nat} {a w : World} (h : BelowD B a w) (hB : B ≤ w.heap.size) (o : Obj) : BelowD B a (w.alloc o) := ⟨h.toBelow.alloc hB o, h.drawn⟩
theorem below_two (w : World) (a b c a' b' c' : Value) (t : TypeId) : BelowD w.heap.size w ((w.alloc (.cells #[a, b, c] t)).alloc (.cells #[a', b', c'] t)) := ⟨(boxed_two w a b c a' b' c' t).2.2, Nat.le_refl _⟩

set_option maxRecDepth 100000 in
set_option maxHeartbeats 2000000 in
/-- slices.CompareFunc over two lists of kids, given what Compare says of each pair. -/
theorem cmp_funcD (A A' : Option Addr) (cap cap' : Nat) (ks ks' : List T) (U U' : Nat → Value × Value × Value) (w : World) (hkn : ks.length ≤ 1048576) (_hkn' : ks'.length ≤ 1048576)
    (hA : ks.length = 0 ∨ ∃ b off, A = some ⟨b, off, none⟩ ∧ ∀ i, i < ks.length → w.cell? ⟨b, off + i * 3, none⟩ = some (U i).1 ∧ w.cell? ⟨b, off + i * 3 + 1, none⟩ = some (U i).2.1 ∧ w.cell? ⟨b, off + i * 3 + 2, none⟩ = some (U i).2.2)
    (hU : ∀ i (h : i < ks.length), TermAt w (.agg #[(U i).1, (U i).2.1, (U i).2.2]) ks[i])
    (hA' : ks'.length = 0 ∨ ∃ b off, A' = some ⟨b, off, none⟩ ∧ ∀ i, i < ks'.length → w.cell? ⟨b, off + i * 3, none⟩ = some (U' i).1 ∧ w.cell? ⟨b, off + i * 3 + 1, none⟩ = some (U' i).2.1 ∧ w.cell? ⟨b, off + i * 3 + 2, none⟩ = some (U' i).2.2)
    (hU' : ∀ i (h : i < ks'.length), TermAt w (.agg #[(U' i).1, (U' i).2.1, (U' i).2.2]) ks'[i])
    (hC : ∀ j (h : j < ks.length) (h' : j < ks'.length) (v v' : Value) (W : World), TermAt W v ks[j] → TermAt W v' ks'[j] → Calls Tryz.prog 103 #[v, v'] W fun e w' => e = .returned (.int .i64 (T.cmp ks[j] ks'[j])) ∧ BelowD W.heap.size W w') :
    Calls Tryz.prog 137 #[.slice A ks.length cap, .slice A' ks'.length cap', .func (.func 103) #[] #[]] w fun e w' =>
      e = .returned (.int .i64 (T.cmpAll ks ks')) ∧ BelowD w.heap.size w w' := by
  have HC := Lib.hid hC; clear hC
  go_enter Tryz.func137, Tryz.ntmps137
  go_wp2_with fail
  go_loopw [13] (fun i wr => ∃ j : Nat, j ≤ ks.length ∧ j ≤ ks'.length ∧ i = .int .i64 j ∧ (∀ m (h : m < j) (h1 : m < ks.length) (h2 : m < ks'.length), T.cmp ks[m] ks'[m] = 0) ∧ BelowD w.heap.size w wr) (fun i _ => ks.length - (intOf i).toNat)
  case atStart => exact ⟨0, Nat.zero_le _, Nat.zero_le _, rfl, fun m h => absurd h (by omega), BelowD.refl _ _⟩
  case round =>
    obtain ⟨j, hj, hj', rfl, hz, hbl⟩ := hrel
    have HZ := Lib.hid hz; clear hz
    by_cases hlt : j < ks.length
    · obtain ⟨b, off, B1, C1, rfl, d0, d1, d2, hu⟩ := TermAt.cells hlt hA hU
      have e0 := cell_later hbl.toBelow d0; have e1 := cell_later hbl.toBelow d1; have e2 := cell_later hbl.toBelow d2
      have hi : (j : Int) < (ks.length : Int) := by omega
      clear d0 d1 d2
      by_cases hlt' : j < ks'.length
      · obtain ⟨b', off', B1', C1', rfl, d0', d1', d2', hu'⟩ := TermAt.cells hlt' hA' hU'
        have e0' := cell_later hbl.toBelow d0'; have e1' := cell_later hbl.toBelow d1'; have e2' := cell_later hbl.toBelow d2'
        clear d0' d1' d2'
        have hi' : (j : Int) < (ks'.length : Int) := by omega
        have f0 := cell_later ((Below.refl wr.heap.size wr).alloc (Nat.le_refl _) (.cells #[.int .i64 ks[j].kind, .string ks[j].name, .slice B1 ks[j].kids.length C1] 29)) e0'
        have f1 := cell_later ((Below.refl wr.heap.size wr).alloc (Nat.le_refl _) (.cells #[.int .i64 ks[j].kind, .string ks[j].name, .slice B1 ks[j].kids.length C1] 29)) e1'
        have f2 := cell_later ((Below.refl wr.heap.size wr).alloc (Nat.le_refl _) (.cells #[.int .i64 ks[j].kind, .string ks[j].name, .slice B1 ks[j].kids.length C1] 29)) e2'
        have hb2 := below_two wr (.int .i64 ks[j].kind) (.string ks[j].name) (.slice B1 ks[j].kids.length C1) (.int .i64 ks'[j].kind) (.string ks'[j].name) (.slice B1' ks'[j].kids.length C1') 29
        have HU := Lib.hid ((hu.later hbl.toBelow).later hb2.toBelow); have HU' := Lib.hid ((hu'.later hbl.toBelow).later hb2.toBelow)
        have HLT := Lib.hid hlt; have HLT' := Lib.hid hlt'
        have HAT := Lib.hid (fun hn => T.cmpAll_at ks ks' j hlt hlt' (fun m g => HZ.out m g (by omega) (by omega)) hn)
        obtain ⟨c, hcv⟩ : ∃ c, T.cmp ks[j] ks'[j] = c := ⟨_, rfl⟩
        have HCV := Lib.hid hcv
        have hc := HC.out j hlt hlt'
        have HC' := Lib.hid hc
        clear hcv hc hu hu'
        go_wp2_with fail
        refine (HC'.out _ _ _ HU.out HU'.out).mono ?_; rintro e w2 ⟨he, hb4⟩
        have he' : e = .returned (.int .i64 c) := he.trans (ret_i64 HCV.out)
        clear he; subst he'
        replace hb4 := hbl.trans ((hb2.trans (hb4.mono hb2.size)).mono hbl.size)
        clear f0 f1 f2 e0 e1 e2 e0' e1' e2'
        by_cases hc0 : c = 0
        · subst hc0
          go_wp2_with fail
          go_roundw
          case rel =>
            refine ⟨j + 1, HLT.out, HLT'.out, by go_num, fun m h g1 g2 => ?_, hb4⟩
            rcases Nat.lt_or_ge m j with g | g
            · exact HZ.out m g g1 g2
            · obtain rfl : m = j := by omega
              exact HCV.out
          case measure => have := HLT.out; simp [intOf]; omega
        · have hne : (c != 0) = true := by rw [bne_iff_ne]; exact hc0
          have HR := Lib.hid (HAT.out (fun h => hc0 (HCV.out.symm.trans h)))
          go_wp2_with fail
          go_ret
          exact ⟨ret_i64 (HCV.out.symm.trans HR.out.symm), hb4⟩
      · have hi' : (ks'.length : Int) ≤ (j : Int) := by omega
        have HL := Lib.hid (show T.cmpAll ks ks' = 1 by rw [T.cmpAll_len ks ks' (fun m g1 g2 => HZ.out m (by omega) g1 g2), if_neg (by omega), if_pos (by omega)])
        have hu1 := Lib.hid hu
        clear hu
        go_wp2_with fail
        go_ret
        exact ⟨ret_i64 HL.out.symm, hbl.alloc hbl.size _⟩
    · have hi : (ks.length : Int) ≤ (j : Int) := by omega
      have hl := T.cmpAll_len ks ks' (fun m g1 g2 => HZ.out m (by omega) g1 g2)
      by_cases g1 : ks.length < ks'.length
      · rw [if_pos g1] at hl
        have HL := Lib.hid hl; clear hl
        have q1 : (ks.length : Int) < (ks'.length : Int) := by omega
        go_wp2_with fail
        go_ret
        exact ⟨ret_i64 HL.out.symm, hbl⟩
      · rw [if_neg g1, if_neg (by omega)] at hl
        have HL := Lib.hid hl; clear hl
        have q1 : (ks'.length : Int) ≤ (ks.length : Int) := by omega
        go_wp2_with fail
        go_ret
        exact ⟨ret_i64 HL.out.symm, hbl⟩
/-- Six cells and a bound, as they stand while memory is made. -/
theorem six_laterD {w1 W W2 : World} {p0 p1 p2 p3 p4 p5 : Addr} {v0 v1 v2 v3 v4 v5 : Value} (h : W.cell? p0 = some v0 ∧ W.cell? p1 = some v1 ∧ W.cell? p2 = some v2 ∧ W.cell? p3 = some v3 ∧ W.cell? p4 = some v4 ∧ W.cell? p5 = some v5 ∧ BelowD w1.heap.size w1 W)
    (hb : BelowD W.heap.size W W2) : W2.cell? p0 = some v0 ∧ W2.cell? p1 = some v1 ∧ W2.cell? p2 = some v2 ∧ W2.cell? p3 = some v3 ∧ W2.cell? p4 = some v4 ∧ W2.cell? p5 = some v5 ∧ BelowD w1.heap.size w1 W2 := by
  obtain ⟨h0, h1, h2, h3, h4, h5, h6⟩ := h
  exact ⟨cell_later hb.toBelow h0, cell_later hb.toBelow h1, cell_later hb.toBelow h2, cell_later hb.toBelow h3, cell_later hb.toBelow h4, cell_later hb.toBelow h5, h6.trans (hb.mono h6.size)⟩

set_option maxRecDepth 100000 in
set_option maxHeartbeats 4000000 in
theorem ocmpD : ∀ (N : Nat) (t t' : T) (v v' : Value) (w : World), t.bulk < N → TermAt w v t → TermAt w v' t' → t.bulk ≤ 1048576 → t'.bulk ≤ 1048576 →
    Calls Tryz.prog 103 #[v, v'] w fun e w' => e = .returned (.int .i64 (t.cmp t')) ∧ BelowD w.heap.size w w' := by
  intro N
  induction N with
  | zero => intro t t' v v' w h; omega
  | succ N ih =>
    intro t t' v v' w hN ht ht' hbk hbk'
    cases ht with
    | mk k s A cap ks U h1 h2 h3 h4 hA hU =>
    cases ht' with
    | mk k' s' A' cap' ks' U' h1' h2' h3' h4' hA' hU' =>
      simp only [T.bulk] at hN hbk hbk'
      have hkn : ks.length ≤ 1048576 := by have := T.len_le ks; omega
      have hkn' : ks'.length ≤ 1048576 := by have := T.len_le ks'; omega
      rw [T.cmp_or3]
      obtain ⟨hbx, hbx', _⟩ := boxed_two w (.int .i64 k) (.string s) (.slice A ks.length cap) (.int .i64 k') (.string s') (.slice A' ks'.length cap') 29
      have hb1 := below_two w (.int .i64 k) (.string s) (.slice A ks.length cap) (.int .i64 k') (.string s') (.slice A' ks'.length cap') 29
      have ht := TermAt.mk k s A cap ks U h1 h2 h3 h4 hA hU
      go_enter Tryz.func103, Tryz.ntmps103
      go_upto_region 1 with fail
      generalize (w.alloc (.cells #[.int .i64 k, .string s, .slice A ks.length cap] 29)).alloc (.cells #[.int .i64 k', .string s', .slice A' ks'.length cap'] 29) = w1 at hbx hbx' hb1 ⊢
      obtain ⟨x0, x1, x2⟩ := hbx
      obtain ⟨y0, y1, y2⟩ := hbx'
      have bA := Lib.hid hA; have bU := Lib.hid hU; have bA' := Lib.hid hA'; have bU' := Lib.hid hU'
      have hF : ∀ W, BelowD w1.heap.size w1 W → Calls Tryz.prog 137 #[.slice A ks.length cap, .slice A' ks'.length cap', .func (.func 103) #[] #[]] W fun e w' =>
          e = .returned (.int .i64 (T.cmpAll ks ks')) ∧ BelowD W.heap.size W w' := fun W hW => by
        have hWw := hb1.trans (hW.mono hb1.size)
        refine cmp_funcD A A' cap cap' ks ks' U U' W hkn hkn' ?_ (fun i h => (hU i h).later hWw.toBelow) ?_ (fun i h => (hU' i h).later hWw.toBelow) ?_
        · rcases hA with h | ⟨b, off, e, hc⟩
          · exact .inl h
          · exact .inr ⟨b, off, e, fun i hi => by obtain ⟨c0, c1, c2⟩ := hc i hi; exact ⟨cell_later hWw.toBelow c0, cell_later hWw.toBelow c1, cell_later hWw.toBelow c2⟩⟩
        · rcases hA' with h | ⟨b, off, e, hc⟩
          · exact .inl h
          · exact .inr ⟨b, off, e, fun i hi => by obtain ⟨c0, c1, c2⟩ := hc i hi; exact ⟨cell_later hWw.toBelow c0, cell_later hWw.toBelow c1, cell_later hWw.toBelow c2⟩⟩
        · intro j h h' v v' W' hv hv'
          have := T.bulk_at ks j h; have := T.bulk_at ks' j h'
          exact ih _ _ _ _ _ (by omega) hv hv' (by omega) (by omega)
      have HF := Lib.hid hF
      clear hA hU hA' hU' ht hF
      go_region_held3 (fun W => W.cell? ⟨w.heap.size, 0, none⟩ = some (.int .i64 k) ∧ W.cell? ⟨w.heap.size, 1, none⟩ = some (.string s) ∧ W.cell? ⟨w.heap.size, 2, none⟩ = some (.slice A ks.length cap) ∧ W.cell? ⟨w.heap.size + 1, 0, none⟩ = some (.int .i64 k') ∧ W.cell? ⟨w.heap.size + 1, 1, none⟩ = some (.string s') ∧ W.cell? ⟨w.heap.size + 1, 2, none⟩ = some (.slice A' ks'.length cap') ∧ BelowD w1.heap.size w1 W)
        (first | exact ⟨x0, x1, x2, y0, y1, y2, BelowD.refl _ _⟩ | exact ⟨x0, x1, x2, y0, y1, y2, (BelowD.refl _ _).drew⟩ | exact six_laterD (by assumption) hb4 | exact six_laterD (by assumption) ((BelowD.refl _ _).alloc (Nat.le_refl _) _) | go_keep)
        (first | (go_at_call 135; refine (cmp_int _ _ _).mono ?_; rintro e w' ⟨rfl, rfl⟩) | (go_at_call 136; refine (cmp_str _ _ _).mono ?_; rintro e w' ⟨rfl, rfl⟩) | (go_at_call 137; refine (HF.out _ (by first | assumption | exact BelowD.refl _ _ | exact (BelowD.refl _ _).drew)).mono ?_; rintro e w2 ⟨rfl, hb4⟩) | (go_at_call 134; refine (cmp_or _ _ _ _ _ _ (boxed_new _ _ _ _ _).1 (boxed_new _ _ _ _ _).2.1 (boxed_new _ _ _ _ _).2.2).mono ?_; rintro e w' ⟨rfl, rfl⟩))
      all_goals
        rename_i hS
        have hb5 := hS.2.2.2.2.2.2
        clear hS x0 x1 x2 y0 y1 y2
        go_wp2_with fail
        go_ret
        exact ⟨rfl, hb1.trans (hb5.mono hb1.size)⟩
/-- As the sort asks it. -/
theorem BelowD.grow {w w' : World} (h : BelowD w.heap.size w w') : ∃ q os, w' = Go.Sort.grow (w.drewN q) os := by
  refine ⟨w'.drawn - w.drawn, w'.heap.extract w.heap.size w'.heap.size, ?_⟩
  have hd := h.drawn
  have hh : w'.heap = w.heap ++ w'.heap.extract w.heap.size w'.heap.size := by
    apply Array.ext_getElem?
    intro i
    have hs := h.size
    rw [Array.getElem?_append]
    split
    · rename_i hi; exact h.block i hi
    · rename_i hi
      rw [Array.getElem?_extract]
      split
      · congr 1; omega
      · rw [Array.getElem?_eq_none (by omega)]
  obtain ⟨h1, t1, d1, o1, u1⟩ := w'
  have e1 := h.os; have e2 := h.tape; have e3 := h.output
  dsimp only at hd hh e1 e2 e3 ⊢
  unfold Go.Sort.grow World.drewN
  dsimp only
  congr 1
  omega
end Go.Proofs.YtihbmgkbipeakaaGreat

namespace Go.Proofs.YtihbmgkbipeakaaGreat
open Go.RowKit Go.Sort

/-- A term of the row that is sorted: it lies apart from the row. -/
def SCell (w : World) (blk : Nat) : Type := { x : (Int × ByteArray × Option Addr × Nat × Nat) × T // TermIn (but 0 (some blk)) w (.agg #[.int .i64 x.1.1, .string x.1.2.1, .slice x.1.2.2.1 x.1.2.2.2.1 x.1.2.2.2.2]) x.2 ∧ x.2.bulk ≤ 1048576 }
instance (w : World) (blk : Nat) : Inhabited (SCell w blk) := ⟨⟨((0, ⟨#[]⟩, none, 0, 0), .mk 0 ⟨#[]⟩ []), atom_in _ _ 0 ⟨#[]⟩ (by decide) (by decide), by decide⟩⟩
def SCell.enc {w : World} {blk : Nat} (x : SCell w blk) : List Value := [.int .i64 x.1.1.1, .string x.1.1.2.1, .slice x.1.1.2.2.1 x.1.1.2.2.2.1 x.1.1.2.2.2.2]
def SCell.t {w : World} {blk : Nat} (x : SCell w blk) : T := x.1.2
def SCell.cf {w : World} {blk : Nat} (x y : SCell w blk) : Int := T.cmp x.t y.t
theorem scell_swo (w : World) (blk : Nat) : SWO (ltOf (SCell.cf (w := w) (blk := blk))) where
  irrefl x := by unfold ltOf SCell.cf; rw [T.cmp_self]; rfl
  trans x y z h1 h2 := by
    unfold ltOf SCell.cf at *
    rw [decide_eq_true_eq] at *
    have e1 : T.cmp x.t y.t = -1 := by rcases T.cmp_vals x.t y.t with h | h | h <;> omega
    have e2 : T.cmp y.t z.t = -1 := by rcases T.cmp_vals y.t z.t with h | h | h <;> omega
    rw [T.cmp_trans _ _ _ e1 e2]; decide
  ntrans x y z h1 h2 := by
    unfold ltOf SCell.cf at *
    rw [decide_eq_false_iff_not] at *
    intro h3
    have a1 := T.cmp_anti x.t y.t; have a2 := T.cmp_anti y.t z.t
    have e3 : T.cmp x.t z.t = -1 := by rcases T.cmp_vals x.t z.t with h | h | h <;> omega
    rcases T.cmp_vals x.t y.t with h | h | h
    · omega
    · have e := T.cmp_eq _ _ h
      rw [e] at e3; omega
    · rcases T.cmp_vals y.t z.t with g | g | g
      · omega
      · have e := T.cmp_eq _ _ g
        rw [e] at h; omega
      · have := T.cmp_trans z.t y.t x.t (by omega) (by omega)
        have a3 := T.cmp_anti x.t z.t
        omega
/-- Other blocks while the row is sorted. -/
theorem sortWorldK_block {α : Type} [Inhabited α] (enc : α → List Value) (k : Nat) (w : World) (blk off m : Nat) (dk : Array α) (os : Array Obj) (b : Nat) (hb : b < w.heap.size) (hn : b ≠ blk) : (sortWorldK enc k w blk off m dk os).heap[b]? = w.heap[b]? := by
  show ((w.heap.modify blk _) ++ os)[b]? = _
  rw [Array.getElem?_append_left (by simpa using hb), Array.getElem?_modify, if_neg (by omega)]
theorem sortWorldK_below {α : Type} [Inhabited α] (enc : α → List Value) (k : Nat) (w : World) (blk off m : Nat) (dk : Array α) (os : Array Obj) {B : Nat} (hB : B ≤ blk) (hl : blk < w.heap.size) : Below B w (sortWorldK enc k w blk off m dk os) := by
  refine ⟨rfl, rfl, rfl, ?_, fun b hb => sortWorldK_block enc k w blk off m dk os b (by omega) (by omega)⟩
  show w.heap.size ≤ ((w.heap.modify blk _) ++ os).size
  simp
theorem scell_lays {w : World} {blk : Nat} (off size : Nat) : CmpLays Tryz.prog 103 #[] (SCell.enc (w := w) (blk := blk)) 3 SCell.cf blk off size w := fun m os dk _ x y => by
  obtain ⟨⟨⟨k, s, A, n, c⟩, t⟩, ht, hb⟩ := x
  obtain ⟨⟨⟨k', s', A', n', c'⟩, t'⟩, ht', hb'⟩ := y
  have hk : ∀ b, but 0 (some blk) b = true → b < w.heap.size → (fun _ => true) b = true ∧ (sortWorldK (SCell.enc (w := w) (blk := blk)) 3 w blk off m dk os).heap[b]? = w.heap[b]? := fun b hb hl => ⟨rfl, sortWorldK_block _ _ _ _ _ _ _ _ b hl (fun e => (but_iff.1 hb).2 (by rw [e]))⟩
  have h := ocmpD (t.bulk + 1) t t' _ _ (sortWorldK (SCell.enc (w := w) (blk := blk)) 3 w blk off m dk os) (by omega) (ht.keep hk).at (ht'.keep hk).at hb hb'
  exact h.mono fun e w' ⟨he, hw⟩ => ⟨he, hw.grow⟩
/-- What the sort of a list of terms leaves. -/
def SortPost (base : Nat) (w : World) (A : Option Addr) (cap : Nat) (L : List T) (e : Ending) (w' : World) : Prop :=
  e = .returned (.tuple #[]) ∧ ∃ L', L'.Perm L ∧ L'.Pairwise (fun a b => ¬ T.cmp b a < 0) ∧ KnownAt w' A cap L' ∧ Below base w w'
theorem osort {base cap : Nat} {A : Option Addr} {L : List T} (w : World) (h : TermsRow w base (.slice A L.length cap) L) (hb : ∀ t ∈ L, t.bulk ≤ 1048576) (hl : L.length ≤ 1048576) :
    Calls Tryz.prog 102 #[.slice A L.length cap, .func (.func 103) #[] #[]] w (SortPost base w A cap L) := by
  by_cases h0 : L.length = 0
  · obtain rfl : L = [] := List.eq_nil_of_length_eq_zero h0
    have hn := AnyF.slices_SortFunc_none (P := Tryz.prog) Tryz.laySo A cap (.func (.func 103) #[] #[]) w
    refine hn.mono ?_
    rintro e w' ⟨rfl, rfl⟩
    exact ⟨rfl, [], List.Perm.refl _, List.Pairwise.nil, (TermsRow.term h 0 ⟨#[]⟩ (by decide) (by decide)).at, Below.refl _ _⟩
  · obtain ⟨xs, hown, hct⟩ := h.cells
    obtain ⟨blk, cap', e, _⟩ := hown.form (by omega)
    injection e with e1 e2 e3
    subst e1; subst e3
    have hbk := h.block blk rfl
    have hsh := h.shape
    obtain ⟨_, _, e4, hc1, hc2⟩ := hsh
    injection e4 with e5 e6 e7
    subst e7
    have hx : ∀ i : Fin L.length, ∃ x : SCell w blk, x.t = L[i] ∧ ∀ r v, x.enc[r]? = some v → xs[i.1 * 3 + r]? = some v := fun i => by
      obtain ⟨u0, u1, u2, q0, q1, q2, ht⟩ := hct.2 i.1 i.2
      obtain ⟨A0, c0, ev⟩ := ht.view
      injection ev with ev
      injection ev with ev
      injection ev with g0 ev
      injection ev with g1 ev
      injection ev with g2 _
      subst g0; subst g1; subst g2
      refine ⟨⟨((L[i].kind, L[i].name, A0, L[i].kids.length, c0), L[i]), ht.keep fun b hb' _ => ⟨but_iff.2 ⟨Nat.zero_le _, (but_iff.1 hb').2⟩, rfl⟩, hb _ (List.getElem_mem _)⟩, rfl, fun r v hv => ?_⟩
      match r, hv with
      | 0, hv => injection hv with hv; subst hv; exact q0
      | 1, hv => injection hv with hv; subst hv; exact q1
      | 2, hv => injection hv with hv; subst hv; exact q2
      | r + 3, hv => simp [SCell.enc] at hv
    obtain ⟨zs, hzs⟩ : ∃ zs : List (SCell w blk), zs = List.ofFn (fun i : Fin L.length => (hx i).choose) := ⟨_, rfl⟩
    have hlen : zs.length = L.length := by rw [hzs, List.length_ofFn]
    have hz : ∀ j (hj : j < L.length), zs[j]! = (hx ⟨j, hj⟩).choose := fun j hj => by
      rw [getElem!_pos zs j (by rw [hlen]; exact hj)]
      subst hzs
      rw [List.getElem_ofFn]
    have hmap : zs.map SCell.t = L := by
      apply List.ext_getElem
      · rw [List.length_map, hlen]
      · intro j h1 h2
        rw [List.getElem_map]
        have := hz j h2
        rw [getElem!_pos zs j (by omega)] at this
        rw [this]
        exact (hx ⟨j, h2⟩).choose_spec.1
    have hds : zs.toArray.size = L.length := by simp [hlen]
    have hH : HoldsK (SCell.enc (w := w) (blk := blk)) 3 w blk 0 zs.toArray := fun j hj => by
      rw [size_flatK] at hj
      rw [get_flatK _ _ _ _ hj, Nat.zero_add]
      rw [hds] at hj
      have hq : j / 3 < L.length := by omega
      refine ⟨?_, hown.frozenAt j⟩
      rw [hown.cellAt j (by omega)]
      have hgz : zs.toArray[j / 3]! = (hx ⟨j / 3, hq⟩).choose := by
        rw [← hz (j / 3) hq, getElem!_pos zs.toArray _ (by rw [hds]; exact hq), getElem!_pos zs _ (by rw [hlen]; exact hq)]; simp
      rw [hgz]
      have hsp := (hx ⟨j / 3, hq⟩).choose_spec.2 (j % 3)
      generalize (hx ⟨j / 3, hq⟩).choose = x at hsp
      have hr : j % 3 < x.enc.length := by have : x.enc.length = 3 := rfl; omega
      have := hsp _ (List.getElem?_eq_getElem hr)
      have ej : j / 3 * 3 + j % 3 = j := by omega
      rw [ej] at this
      rw [this]
      show some _ = some (x.enc[j % 3]!)
      rw [getElem!_pos x.enc (j % 3) hr]
    have eg : ∀ args w, (callFunc 103 args).run Tryz.prog w = .ok (.enter 103 args) w := enters_of Tryz.func103 (by kernel_rfl) rfl
    have hcon := AnyQ.slices_SortFunc (P := Tryz.prog) Tryz.laySo 3 (fun w => Tryz.isAgg29 w) (fun w => Tryz.sizeOf29 w) (SCell.enc (w := w) (blk := blk)) (fun _ => rfl) (fun x v hv => by
        simp only [SCell.enc, List.mem_cons, List.not_mem_nil, or_false] at hv
        rcases hv with rfl | rfl | rfl <;> rfl) SCell.cf (scell_swo w blk) 103 #[] blk 0 cap zs.toArray w eg (scell_lays 0 _) hH hbk.2 (by rw [hds]; omega)
    rw [hds] at hcon
    refine hcon.mono ?_
    rintro e w' ⟨rfl, d', n, os, ⟨hp1, _, hp3⟩, hso, rfl⟩
    have hd' : d'.size = L.length := by rw [hp1, hds]
    have hperm : d'.toList.Perm zs := by
      rw [← hd'] at hp3
      have e1 : d'.extract 0 d'.size = d' := by simp
      have e2 : zs.toArray.extract 0 d'.size = zs.toArray := by rw [hd', ← hds]; simp
      rw [e1, e2] at hp3; exact hp3
    have hll : (d'.toList.map SCell.t).length = L.length := by simp [hd']
    refine ⟨rfl, d'.toList.map SCell.t, by rw [← hmap]; exact hperm.map _, ?_, ?_, sortWorldK_below _ _ _ _ _ _ _ _ hbk.1 hbk.2⟩
    · rw [List.pairwise_map, List.pairwise_iff_getElem]
      intro i j hi hj hij
      have h2 := hso i j (Nat.zero_le _) hij (by simpa [hd'] using hj)
      unfold ltOf SCell.cf at h2
      rw [decide_eq_false_iff_not] at h2
      rw [getElem!_pos d' _ (by simpa using hj), getElem!_pos d' _ (by simpa using hi)] at h2
      simpa using h2
    · have hH' := holdsK_sortWorldK_c (SCell.enc (w := w) (blk := blk)) 3 w blk 0 zs.toArray d' n os hH hbk.2 hp1
      have hcell : ∀ i, i < L.length → ∀ r, r < 3 → (sortWorldK (SCell.enc (w := w) (blk := blk)) 3 w blk 0 n d' os).cell? ⟨blk, 0 + i * 3 + r, none⟩ = some (d'[i]!.enc[r]!) := fun i hi r hr => by
        have := (hH' (i * 3 + r) (by rw [size_flatK, hd']; omega)).1
        rw [get_flatK _ _ _ _ (by rw [hd']; omega)] at this
        have e1 : (i * 3 + r) / 3 = i := by omega
        have e2 : (i * 3 + r) % 3 = r := by omega
        rw [e1, e2, id] at this
        rw [Nat.add_assoc]; exact this
      have hkn : TermAt (sortWorldK (SCell.enc (w := w) (blk := blk)) 3 w blk 0 n d' os) (.agg #[.int .i64 0, .string ⟨#[]⟩, .slice (some ⟨blk, 0, none⟩) (d'.toList.map SCell.t).length cap]) (.mk 0 ⟨#[]⟩ (d'.toList.map SCell.t)) := by
        refine .mk 0 ⟨#[]⟩ _ cap _ (fun i => (d'[i]!.enc[0]!, d'[i]!.enc[1]!, d'[i]!.enc[2]!)) (by decide) (by decide) (by rw [hll]; exact hc1) hc2 (.inr ⟨blk, 0, rfl, fun i hi => ?_⟩) (fun i hi => ?_)
        · rw [hll] at hi
          exact ⟨hcell i hi 0 (by omega), hcell i hi 1 (by omega), hcell i hi 2 (by omega)⟩
        · rw [hll] at hi
          have e1 : (d'.toList.map SCell.t)[i] = d'[i]!.t := by rw [List.getElem_map, getElem!_pos d' i (by omega)]; rfl
          rw [e1]
          obtain ⟨⟨⟨k, s, A, n', c⟩, t⟩, ht, _⟩ := d'[i]!
          exact (ht.keep fun b hb' hlt => ⟨rfl, sortWorldK_block _ _ _ _ _ _ _ _ b hlt (fun e => (but_iff.1 hb').2 (by rw [e]))⟩).at
      rw [hll] at hkn
      unfold KnownAt
      rw [hll]; exact hkn
end Go.Proofs.YtihbmgkbipeakaaGreat

namespace Go.Proofs.YtihbmgkbipeakaaGreat

/-- What can be put together of what is known. -/
inductive Syn (P : T → Prop) : T → Prop
  | base {t : T} : P t → Syn P t
  | hash {t : T} : t.kind = 4 → Syn P (t.kid 0) → Syn P t
  | two {t : T} : (t.kind = 3 ∨ t.kind = 5 ∨ t.kind = 6) → Syn P (t.kid 0) → Syn P (t.kid 1) → Syn P t
  | raise {t : T} : t.kind = 7 → t.kids.length = 1 → Syn P (t.kid 0) → Syn P t
  | pow {t : T} (i : Nat) : t.kind = 7 → 1 < t.kids.length → i < t.kids.length → Syn P (t.lessOf i) → Syn P (t.kid i) → Syn P t
theorem Syn.bind {P Q : T → Prop} (h : ∀ t, P t → Syn Q t) {t : T} (hs : Syn P t) : Syn Q t := by
  induction hs with
  | base hp => exact h _ hp
  | hash hk _ ih => exact .hash hk ih
  | two hk _ _ i0 i1 => exact .two hk i0 i1
  | raise hk hl _ ih => exact .raise hk hl ih
  | pow i hk hl hi _ _ i0 i1 => exact .pow i hk hl hi i0 i1
theorem Syn.mono {P Q : T → Prop} (h : ∀ t, P t → Q t) {t : T} (hs : Syn P t) : Syn Q t := hs.bind fun t ht => .base (h t ht)
theorem Syn.atom {P : T → Prop} {t : T} (hs : Syn P t) (hk : t.kind = 1 ∨ t.kind = 2) : P t := by
  cases hs with
  | base hp => exact hp
  | hash h => omega
  | two h => omega
  | raise h => omega
  | pow i h => omega
theorem Syn.iff {P Q : T → Prop} (h : ∀ t, P t ↔ Q t) (t : T) : Syn P t ↔ Syn Q t := ⟨fun hs => hs.mono fun t => (h t).1, fun hs => hs.mono fun t => (h t).2⟩
/-- A power's exponents are names or variables. -/
theorem exp_atom {t : T} (h : t.shape = true) (h7 : t.kind = 7) {i : Nat} (hi : i < t.kids.length) : (t.kid i).kind = 1 ∨ (t.kid i).kind = 2 := by
  obtain ⟨k, s, ks⟩ := t
  obtain rfl : k = 7 := h7
  rw [T.shape_head 7 s ks (by decide) (by decide)] at h
  simp only [T.headOk] at h
  simp at h
  have hi' : i < ks.length := hi
  have hm : ks[i] ∈ ks := List.getElem_mem hi'
  have ha := h.1.1.2 _ hm
  have he : (T.mk 7 s ks).kid i = ks[i] := by show ks.getD i T.nil_ = _; rw [List.getD_eq_getElem?_getD, List.getElem?_eq_getElem hi']; rfl
  rw [he]
  cases hx : ks[i] with
  | mk k2 s2 l2 =>
    rw [hx] at ha
    simp only [T.atom] at ha
    show k2 = 1 ∨ k2 = 2
    simpa using ha
namespace Wb
/-- The terms that were found by taking apart. -/
def Part (W : List Stp) (t : T) : Prop := ∃ s ∈ W, s.part = true ∧ s.t = t
/-- All steps' terms can be put together. -/
def Sound (P : T → Prop) (W : List Stp) : Prop := ∀ s ∈ W, Syn P s.t
theorem Sound.push {P : T → Prop} {W : List Stp} (h : Sound P W) {s : Stp} (hs : Syn P s.t) : Sound P (W ++ [s]) := fun x hx => by
  rcases List.mem_append.1 hx with hx | hx
  · exact h x hx
  · rw [List.mem_singleton] at hx; rw [hx]; exact hs
theorem Sound.add {P : T → Prop} {W : List Stp} (h : Sound P W) {t : T} (ht : Syn P t) (how : Nat) (frm : List Nat) : Sound P (add W t how frm).1 := by
  cases hf : find W t with
  | some i => rw [add_some hf]; exact h
  | none => rw [add_none hf]; exact h.push ht
theorem Sound.mark {P : T → Prop} {W : List Stp} (h : Sound P W) (i : Nat) : Sound P (mark W i) := fun x hx => by
  obtain ⟨j, hj, rfl⟩ := List.getElem_of_mem hx
  have h3 : j < W.length := by rwa [mark_len] at hj
  rw [(mark_t W i j hj h3).1]
  exact h _ (List.getElem_mem h3)
theorem Sound.take {P : T → Prop} {W : List Stp} (h : Sound P W) {t : T} (ht : Syn P t) (how : Nat) (frm : List Nat) : Sound P (take W t how frm).1 := by
  unfold Wb.take
  split
  · exact h.add ht how frm
  · exact (h.add ht how frm).mark _
theorem find_syn {U : List T} (hU : Uni U) {P : T → Prop} {W : List Stp} (hW : Inv U W) (hS : Sound P W) {t : T} (ht : t ∈ U) {i : Nat} (h : find W t = some i) : Syn P t := by
  obtain ⟨hi, e⟩ := find_eq hU hW ht h
  rw [← e]; exact hS _ (List.getElem_mem hi)
def PutsP (P : T → Prop) (U : List T) (rec : List Stp → T → List Stp × Option Nat) (t : T) : Prop := ∀ W, Inv U W → Sound P W → Sound P (rec W t).1 ∧ ∀ i, (rec W t).2 = some i → Syn P t
theorem both_syn {U : List T} {P : T → Prop} {rec : List Stp → T → List Stp × Option Nat} {t : T} (how : Nat) (hk : t.kind = 3 ∨ t.kind = 5 ∨ t.kind = 6) (h0 : Puts U rec (t.kid 0)) (s0 : PutsP P U rec (t.kid 0)) (s1 : PutsP P U rec (t.kid 1)) :
    PutsP P U (fun W t => both rec W t how) t := fun W hW hS => by
  obtain ⟨a1, _, _⟩ := h0 W hW
  obtain ⟨b1, b2⟩ := s0 W hW hS
  obtain ⟨c1, c2⟩ := s1 _ a1 b1
  simp only [both]
  split
  · exact ⟨b1, fun i h => by cases h⟩
  · rename_i a ha
    split
    · exact ⟨c1, fun i h => by cases h⟩
    · rename_i b hb
      have ht := Syn.two hk (b2 a ha) (c2 b hb)
      exact ⟨c1.add ht _ _, fun _ _ => ht⟩
theorem pow_syn {U : List T} (hU : Uni U) {P : T → Prop} {rec : List Stp → T → List Stp × Option Nat} {t : T} (h7 : t.kind = 7) (htU : t ∈ U) (hl : ∀ i, i < t.kids.length → 1 < t.kids.length → Puts U rec (t.lessOf i) ∧ PutsP P U rec (t.lessOf i)) :
    ∀ (f i : Nat), f + i = t.kids.length → PutsP P U (fun W _ => pow rec t f i W) t
  | 0, i, _, W, _, hS => ⟨hS, fun i h => by cases h⟩
  | f + 1, i, hfi, W, hW, hS => by
    have ih := pow_syn hU h7 htU hl f (i + 1) (by omega)
    simp only [pow]
    split
    · exact ih W hW hS
    · rename_i nm hnm
      have hx := find_syn hU hW hS (hU.kid t htU i (by omega)) hnm
      split
      · rename_i h1
        obtain rfl : i = 0 := by omega
        have ht := Syn.raise h7 h1 hx
        exact ⟨hS.add ht _ _, fun _ _ => ht⟩
      · rename_i h1
        obtain ⟨p1, p2⟩ := hl i (by omega) (by omega)
        obtain ⟨a1, _, _⟩ := p1 W hW
        obtain ⟨b1, b2⟩ := p2 W hW hS
        split
        · exact ih _ a1 b1
        · rename_i p hp
          have ht := Syn.pow i h7 (by omega) (by omega) (b2 p hp) hx
          exact ⟨b1.add ht _ _, fun _ _ => ht⟩
theorem build_syn {U : List T} (hU : Uni U) (P : T → Prop) : ∀ (n : Nat) (t : T), t ∈ U → PutsP P U (build n) t
  | 0, t, _, W, _, hS => ⟨hS, fun i h => by cases h⟩
  | n + 1, t, ht, W, hW, hS => by
    have hs := T.shapeK (Bool.and_eq_true_iff.1 (hU.ok t ht)).2
    have ihk : ∀ i, i < t.kids.length → PutsP P U (build n) (t.kid i) := fun i hi => build_syn hU P n _ (hU.kid t ht i hi)
    have ihp : ∀ i, i < t.kids.length → Puts U (build n) (t.kid i) := fun i hi => build_puts hU n _ (hU.kid t ht i hi)
    simp only [build]
    split
    · rename_i i hi
      exact ⟨hS, fun _ _ => find_syn hU hW hS ht hi⟩
    · split
      · rename_i h4
        obtain ⟨a1, a2⟩ := ihk 0 (by omega) W hW hS
        split
        · exact ⟨a1, fun i h => by cases h⟩
        · rename_i m hm
          have htt := Syn.hash h4 (a2 m hm)
          exact ⟨a1.add htt _ _, fun _ _ => htt⟩
      · split
        · rename_i h3
          exact both_syn 6 (.inl h3) (ihp 0 (by omega)) (ihk 0 (by omega)) (ihk 1 (by omega)) W hW hS
        · split
          · rename_i h5
            exact both_syn 8 (.inr (.inl h5)) (ihp 0 (by omega)) (ihk 0 (by omega)) (ihk 1 (by omega)) W hW hS
          · split
            · rename_i h6
              exact both_syn 9 (.inr (.inr h6)) (ihp 0 (by omega)) (ihk 0 (by omega)) (ihk 1 (by omega)) W hW hS
            · split
              · rename_i h7
                exact pow_syn hU h7 ht (fun i hi h1 => ⟨build_puts hU n _ (hU.less t ht h7 h1 i hi), build_syn hU P n _ (hU.less t ht h7 h1 i hi)⟩) t.kids.length 0 rfl W hW hS
              · exact ⟨hS, fun i h => by cases h⟩
/-- What is put together marks nothing. -/
def Par (rec : List Stp → T → List Stp × Option Nat) (t : T) : Prop := ∀ W x, Part (rec W t).1 x ↔ Part W x
theorem part_add (W : List Stp) (t : T) (how : Nat) (frm : List Nat) (x : T) : Part (add W t how frm).1 x ↔ Part W x := by
  cases hf : find W t with
  | some i => rw [add_some hf]
  | none =>
    rw [add_none hf]
    constructor
    · rintro ⟨s, hs, h1, h2⟩
      rcases List.mem_append.1 hs with hs | hs
      · exact ⟨s, hs, h1, h2⟩
      · rw [List.mem_singleton] at hs; rw [hs] at h1; cases h1
    · rintro ⟨s, hs, h1, h2⟩
      exact ⟨s, List.mem_append_left _ hs, h1, h2⟩
theorem par_both {rec : List Stp → T → List Stp × Option Nat} {t : T} (how : Nat) (h0 : Par rec (t.kid 0)) (h1 : Par rec (t.kid 1)) : Par (fun W t => both rec W t how) t := fun W x => by
  simp only [both]
  split
  · exact h0 W x
  · split
    · exact (h1 _ x).trans (h0 W x)
    · exact (part_add _ _ _ _ x).trans ((h1 _ x).trans (h0 W x))
theorem par_pow {rec : List Stp → T → List Stp × Option Nat} {t : T} (hl : ∀ i, Par rec (t.lessOf i)) : ∀ (f i : Nat) (W : List Stp) (x : T), Part (pow rec t f i W).1 x ↔ Part W x
  | 0, _, _, _ => Iff.rfl
  | f + 1, i, W, x => by
    have ih := par_pow hl f (i + 1)
    simp only [pow]
    split
    · exact ih W x
    · split
      · exact part_add _ _ _ _ x
      · split
        · exact (ih _ x).trans (hl i W x)
        · exact (part_add _ _ _ _ x).trans (hl i W x)
theorem par_build : ∀ (n : Nat) (t : T), Par (build n) t
  | 0, _, _, _ => Iff.rfl
  | n + 1, t, W, x => by
    simp only [build]
    split
    · exact Iff.rfl
    · split
      · split
        · exact par_build n _ W x
        · exact (part_add _ _ _ _ x).trans (par_build n _ W x)
      · split
        · exact par_both 6 (par_build n _) (par_build n _) W x
        · split
          · exact par_both 8 (par_build n _) (par_build n _) W x
          · split
            · exact par_both 9 (par_build n _) (par_build n _) W x
            · split
              · exact par_pow (fun i => par_build n _) _ _ W x
              · exact Iff.rfl
theorem part_find {W : List Stp} {t : T} (h : Part W t) : ∃ i, find W t = some i := by
  obtain ⟨s, hs, _, e⟩ := h
  cases hf : find W t with
  | some i => exact ⟨i, rfl⟩
  | none => exact absurd (by rw [e]) (findK_none hf s hs)
/-- Where an exponent is known and the rest can be put together, a power is found. -/
theorem pow_full {U : List T} (hU : Uni U) {rec : List Stp → T → List Stp × Option Nat} {t : T} (h7 : t.kind = 7) (ht : t ∈ U) (hp : ∀ i, i < t.kids.length → 1 < t.kids.length → Puts U rec (t.lessOf i) ∧ Par rec (t.lessOf i))
    (hr : ∀ i, i < t.kids.length → 1 < t.kids.length → ∀ W, Inv U W → Syn (Part W) (t.lessOf i) → ∃ r, (rec W (t.lessOf i)).2 = some r) :
    ∀ (f i : Nat) (W : List Stp), f + i = t.kids.length → Inv U W → (∃ j, i ≤ j ∧ j < t.kids.length ∧ Syn (Part W) (t.kid j) ∧ (1 < t.kids.length → Syn (Part W) (t.lessOf j))) → ∃ r, (pow rec t f i W).2 = some r
  | 0, i, W, hfi, _, ⟨j, h1, h2, _⟩ => by omega
  | f + 1, i, W, hfi, hW, ⟨j, h1, h2, h3, h4⟩ => by
    have hat := h3.atom (exp_atom (Bool.and_eq_true_iff.1 (hU.ok t ht)).2 h7 h2)
    simp only [pow]
    split
    · rename_i hn
      have hne : i ≠ j := fun e => by
        subst e
        obtain ⟨r, hr⟩ := part_find hat
        rw [hr] at hn; cases hn
      exact pow_full hU h7 ht hp hr f (i + 1) W (by omega) hW ⟨j, by omega, h2, h3, h4⟩
    · split
      · exact ⟨_, rfl⟩
      · have hl : 1 < t.kids.length := by omega
        obtain ⟨p1, p2⟩ := hp i (by omega) hl
        split
        · rename_i hn
          have hne : i ≠ j := fun e => by
            subst e
            obtain ⟨r, hr⟩ := hr i h2 hl W hW (h4 hl)
            rw [hr] at hn; cases hn
          have hP := p2 W
          exact pow_full hU h7 ht hp hr f (i + 1) _ (by omega) (p1 W hW).1 ⟨j, by omega, h2, (Syn.iff hP _).2 h3, fun hl => (Syn.iff hP _).2 (h4 hl)⟩
        · exact ⟨_, rfl⟩
theorem both_full {U : List T} {rec : List Stp → T → List Stp × Option Nat} {t : T} (how : Nat) {W : List Stp} (hW : Inv U W) (p0 : Puts U rec (t.kid 0)) (q0 : Par rec (t.kid 0))
    (h0 : ∀ W, Inv U W → Syn (Part W) (t.kid 0) → ∃ r, (rec W (t.kid 0)).2 = some r) (h1 : ∀ W, Inv U W → Syn (Part W) (t.kid 1) → ∃ r, (rec W (t.kid 1)).2 = some r) (s0 : Syn (Part W) (t.kid 0)) (s1 : Syn (Part W) (t.kid 1)) : ∃ r, (both rec W t how).2 = some r := by
  obtain ⟨a, ha⟩ := h0 W hW s0
  obtain ⟨b, hb⟩ := h1 _ (p0 W hW).1 ((Syn.iff (q0 W) _).2 s1)
  simp only [both, ha, hb]
  exact ⟨_, rfl⟩
/-- What can be put together is found. -/
theorem build_full {U : List T} (hU : Uni U) : ∀ (n : Nat) (t : T), t ∈ U → t.bulk < n → ∀ W, Inv U W → Syn (Part W) t → ∃ r, (build n W t).2 = some r
  | 0, _, _, hb, _, _, _ => by omega
  | n + 1, t, ht, hb, W, hW, hS => by
    have hs := T.shapeK (Bool.and_eq_true_iff.1 (hU.ok t ht)).2
    have ihk : ∀ i, i < t.kids.length → ∀ W, Inv U W → Syn (Part W) (t.kid i) → ∃ r, (build n W (t.kid i)).2 = some r := fun i hi => build_full hU n _ (hU.kid t ht i hi) (by have := T.kid_bulk hi; omega)
    have ihp : ∀ i, i < t.kids.length → Puts U (build n) (t.kid i) := fun i hi => build_puts hU n _ (hU.kid t ht i hi)
    simp only [build]
    split
    · exact ⟨_, rfl⟩
    · rename_i hn
      have hnp : ¬ Part W t := fun h => by obtain ⟨r, hr⟩ := part_find h; rw [hr] at hn; cases hn
      cases hS with
      | base h => exact absurd h hnp
      | hash h4 h0 =>
        rw [if_pos h4]
        obtain ⟨r, hr⟩ := ihk 0 (by omega) W hW h0
        rw [hr]; exact ⟨_, rfl⟩
      | two hk h0 h1 =>
        rw [if_neg (by omega)]
        rcases hk with h | h | h
        · rw [if_pos h]; exact both_full 6 hW (ihp 0 (by omega)) (par_build n _) (ihk 0 (by omega)) (ihk 1 (by omega)) h0 h1
        · rw [if_neg (by omega), if_pos h]; exact both_full 8 hW (ihp 0 (by omega)) (par_build n _) (ihk 0 (by omega)) (ihk 1 (by omega)) h0 h1
        · rw [if_neg (by omega), if_neg (by omega), if_pos h]; exact both_full 9 hW (ihp 0 (by omega)) (par_build n _) (ihk 0 (by omega)) (ihk 1 (by omega)) h0 h1
      | raise h7 h1 h0 =>
        rw [if_neg (by omega), if_neg (by omega), if_neg (by omega), if_neg (by omega), if_pos h7]
        exact pow_full hU h7 ht (fun i hi h1 => ⟨build_puts hU n _ (hU.less t ht h7 h1 i hi), par_build n _⟩) (fun i hi h1 => build_full hU n _ (hU.less t ht h7 h1 i hi) (by have := T.less_bulk hi; omega)) t.kids.length 0 W rfl hW ⟨0, Nat.le_refl _, by omega, h0, fun h => by omega⟩
      | pow i h7 h1 hi hl hx =>
        rw [if_neg (by omega), if_neg (by omega), if_neg (by omega), if_neg (by omega), if_pos h7]
        exact pow_full hU h7 ht (fun i hi h1 => ⟨build_puts hU n _ (hU.less t ht h7 h1 i hi), par_build n _⟩) (fun i hi h1 => build_full hU n _ (hU.less t ht h7 h1 i hi) (by have := T.less_bulk hi; omega)) t.kids.length 0 W rfl hW ⟨i, Nat.zero_le _, hi, hx, fun _ => hl⟩
/-- A web puts together just what follows from the terms that were taken apart. -/
theorem bld_iff {U : List T} (hU : Uni U) {t : T} (ht : t ∈ U) {W : List Stp} (hW : Inv U W) (hS : Sound (Part W) W) : (∃ r, (bld W t).2 = some r) ↔ Syn (Part W) t :=
  ⟨fun ⟨r, hr⟩ => (build_syn hU _ _ t ht W hW hS).2 r hr, fun h => build_full hU _ t ht (Nat.lt_succ_self _) W hW h⟩
end Wb
end Go.Proofs.YtihbmgkbipeakaaGreat
