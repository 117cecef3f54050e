/- Several texts in one: WebO, WebY, WebV, WebSo, WebTh. -/
import Derived.Test.YtihbmgkbipeakaaGreatWebG14
import Derived.Test.YtihbmgkbipeakaaGreatWebG15
import Derived.Test.YtihbmgkbipeakaaGreatShelfH
import Derived.Shelf.SlicesE.IndexFunc
import Derived.Shelf.SlicesQ.IndexFunc
import Derived.Test.YtihbmgkbipeakaaGreatWebG6
import Derived.Test.YtihbmgkbipeakaaGreatWebG3
import Derived.Shelf.SlSortCmp.WholeK
import Derived.Shelf.SlSortCmp.NoneTotal
import Derived.Test.YtihbmgkbipeakaaGreatWebG13
import Derived.Test.YtihbmgkbipeakaaGreatWebG9
namespace Go.Proofs.YtihbmgkbipeakaaGreat

namespace Wb
theorem Ord.nil : Ord [] := fun _ h => absurd h (Nat.not_lt_zero _)
theorem Ord.push {W : List Stp} (h : Ord W) (t : T) (how : Nat) {frm : List Nat} (p : Bool) (h2 : frm.length ≤ 2) (hf : ∀ j ∈ frm, j < W.length) : Ord (W ++ [⟨t, how, frm, p⟩]) := fun i hi => by
  by_cases hl : i < W.length
  · rw [List.getElem_append_left hl]; exact h i hl
  · have e : i = W.length := by simp at hi; omega
    subst e
    have e3 : (W ++ [(⟨t, how, frm, p⟩ : Stp)])[W.length]'hi = ⟨t, how, frm, p⟩ := by simp
    rw [e3]; exact ⟨h2, hf⟩
theorem Ord.add {W : List Stp} (h : Ord W) (t : T) (how : Nat) {frm : List Nat} (h2 : frm.length ≤ 2) (hf : ∀ j ∈ frm, j < W.length) : Ord (add W t how frm).1 := by
  cases hq : find W t with
  | some i => rw [add_some hq]; exact h
  | none => rw [add_none hq]; exact h.push t how false h2 hf
theorem Ord.mark {W : List Stp} (h : Ord W) (i : Nat) : Ord (mark W i) := fun j hj => by
  have h3 : j < W.length := by rwa [mark_len] at hj
  obtain ⟨_, _, e, _⟩ := mark_t W i j hj h3
  rw [e]; exact h j h3
theorem Ord.take {W : List Stp} (h : Ord W) (t : T) (how : Nat) {frm : List Nat} (h2 : frm.length ≤ 2) (hf : ∀ j ∈ frm, j < W.length) : Ord (take W t how frm).1 := by
  unfold Wb.take
  split
  · exact h.add t how h2 hf
  · exact (h.add t how h2 hf).mark _
def PutsO (U : List T) (rec : List Stp → T → List Stp × Option Nat) (t : T) : Prop := ∀ W, Inv U W → Ord W → Ord (rec W t).1
theorem both_ord {U : List T} {rec : List Stp → T → List Stp × Option Nat} {t : T} (how : Nat) (h0 : Puts U rec (t.kid 0)) (h1 : Puts U rec (t.kid 1)) (o0 : PutsO U rec (t.kid 0)) (o1 : PutsO U rec (t.kid 1)) : PutsO U (fun W t => both rec W t how) t := fun W hW hO => by
  obtain ⟨a1, a2, a3⟩ := h0 W hW
  have b0 := o0 W hW hO
  obtain ⟨c1, c2, c3⟩ := h1 _ a1
  have b1 := o1 _ a1 b0
  cases ha : (rec W (t.kid 0)).2 with
  | none => simp only [both, ha]; exact b0
  | some a =>
    cases hb : (rec (rec W (t.kid 0)).1 (t.kid 1)).2 with
    | none => simp only [both, ha, hb]; exact b1
    | some b =>
      simp only [both, ha, hb]
      refine b1.add t how (Nat.le_refl _) fun j hj => ?_
      have h3 := a3 a ha; have h4 := c3 b hb; have h5 := c2.length_le
      simp only [List.mem_cons, List.not_mem_nil, or_false] at hj
      rcases hj with rfl | rfl
      · exact Nat.lt_of_lt_of_le h3 h5
      · exact h4
theorem pow_ord {U : List T} {rec : List Stp → T → List Stp × Option Nat} {t : T} (hl : ∀ i, i < t.kids.length → 1 < t.kids.length → Puts U rec (t.lessOf i) ∧ PutsO U rec (t.lessOf i)) :
    ∀ (f i : Nat), f + i = t.kids.length → PutsO U (fun W _ => pow rec t f i W) t
  | 0, i, _, W, _, hO => hO
  | f + 1, i, hfi, W, hW, hO => by
    have ih := pow_ord hl f (i + 1) (by omega)
    simp only [pow]
    split
    · exact ih W hW hO
    · rename_i nm hnm
      have hn := findK_lt (W := W) (k := (t.kid i).key) hnm
      split
      · exact hO.add t 11 (by simp) (fun j hj => by simp at hj; omega)
      · rename_i h1
        obtain ⟨p1, p2⟩ := hl i (by omega) (by omega)
        obtain ⟨a1, a2, a3⟩ := p1 W hW
        have b1 := p2 W hW hO
        split
        · exact ih _ a1 b1
        · rename_i p hp
          refine b1.add t 10 (Nat.le_refl _) fun j hj => ?_
          have h3 := a3 p hp; have h5 := a2.length_le
          simp only [List.mem_cons, List.not_mem_nil, or_false] at hj
          rcases hj with rfl | rfl
          · exact h3
          · exact Nat.lt_of_lt_of_le hn h5
theorem build_ord {U : List T} (hU : Uni U) : ∀ (n : Nat) (t : T), t ∈ U → PutsO U (build n) t
  | 0, t, _, W, _, hO => hO
  | n + 1, t, ht, W, hW, hO => by
    have hs := T.shapeK (Bool.and_eq_true_iff.1 (hU.ok t ht)).2
    have ihk : ∀ i, i < t.kids.length → PutsO U (build n) (t.kid i) := fun i hi => build_ord hU n _ (hU.kid t ht i hi)
    have ihp : ∀ i, i < t.kids.length → Puts U (build n) (t.kid i) := fun i hi => build_puts hU n _ (hU.kid t ht i hi)
    simp only [build]
    split
    · exact hO
    · split
      · rename_i h4
        have a1 := ihk 0 (by omega) W hW hO
        obtain ⟨_, _, a3⟩ := ihp 0 (by omega) W hW
        split
        · exact a1
        · rename_i m hm
          exact a1.add t 7 (by simp) (fun j hj => by have := a3 m hm; simp at hj; omega)
      · split
        · exact both_ord 6 (ihp 0 (by omega)) (ihp 1 (by omega)) (ihk 0 (by omega)) (ihk 1 (by omega)) W hW hO
        · split
          · exact both_ord 8 (ihp 0 (by omega)) (ihp 1 (by omega)) (ihk 0 (by omega)) (ihk 1 (by omega)) W hW hO
          · split
            · exact both_ord 9 (ihp 0 (by omega)) (ihp 1 (by omega)) (ihk 0 (by omega)) (ihk 1 (by omega)) W hW hO
            · split
              · rename_i h7
                exact pow_ord (fun i hi h1 => ⟨build_puts hU n _ (hU.less t ht h7 h1 i hi), build_ord hU n _ (hU.less t ht h7 h1 i hi)⟩) t.kids.length 0 rfl W hW hO
              · exact hO
theorem apart_ord {U : List T} (hU : Uni U) {W : List Stp} (hW : Inv U W) (hO : Ord W) {i : Nat} (hi : i < W.length) : Ord (apart W i).1 := by
  have hm : W[i].t ∈ U := hW.mem _ (List.getElem_mem hi)
  have hs := T.shapeK (Bool.and_eq_true_iff.1 (hU.ok _ hm)).2
  have h1 : ([i] : List Nat).length ≤ 2 := by simp
  unfold apart
  rw [term_at hi]
  generalize W[i].t = t at hm hs ⊢
  dsimp only
  split
  · have hf : ∀ j ∈ [i], j < W.length := fun j hj => by simp at hj; omega
    have hl := take_len W (t.kid 0) 2 [i]
    exact (hO.take _ 2 h1 hf).take _ 3 h1 (fun j hj => Nat.lt_of_lt_of_le (hf j hj) hl)
  · split
    · exact hO.take _ 5 h1 (fun j hj => by simp at hj; omega)
    · split
      · split
        · exact hO
        · obtain ⟨b1, b2, b3⟩ := bld_inv hU (hU.kid t hm 0 (by omega)) hW
          have b4 : Ord (bld W (t.kid 0)).1 := build_ord hU _ _ (hU.kid t hm 0 (by omega)) W hW hO
          split
          · exact b4
          · rename_i k hk
            refine b4.take _ 4 (Nat.le_refl _) fun j hj => ?_
            have h5 := b2.length_le; have h6 := b3 k hk
            simp only [List.mem_cons, List.not_mem_nil, or_false] at hj
            rcases hj with rfl | rfl
            · omega
            · exact h6
      · exact hO
theorem rnd_ord {U : List T} (hU : Uni U) : ∀ (f i : Nat) (m : Bool) (W : List Stp), Inv U W → Ord W → Ord (rnd f i m W).1
  | 0, _, _, _, _, hO => hO
  | f + 1, i, m, W, hW, hO => by
    simp only [rnd]
    split
    · rename_i hi
      split
      · exact rnd_ord hU f (i + 1) _ _ (apart_inv hU hW hi).1 (apart_ord hU hW hO hi)
      · exact rnd_ord hU f (i + 1) m W hW hO
    · exact hO
theorem run_ord {U : List T} (hU : Uni U) (N : Nat) : ∀ (f : Nat) (W : List Stp), Inv U W → Ord W → Ord (run N f W)
  | 0, _, _, hO => hO
  | f + 1, W, hW, hO => by
    have a1 := (rnd_facts hU ⟨#[]⟩ N 0 false W hW).1
    have a2 := rnd_ord hU N 0 false W hW hO
    simp only [run]
    split
    · exact run_ord hU N f _ a1 a2
    · exact a2
theorem start_ord : ∀ (ts : List T) (W : List Stp), Ord W → Ord (ts.foldl (fun W t => (take W t 1 []).1) W)
  | [], _, hO => hO
  | t :: r, W, hO => start_ord r _ (hO.take t 1 (by simp) (fun j hj => by cases hj))
theorem fill_ord {U K : List T} (hU : Uni U) (hK : ∀ t ∈ K, t ∈ U) (N : Nat) : Ord (fill N K) := by
  have h := start_inv hK K.length
  rw [List.take_of_length_le (Nat.le_refl _)] at h
  exact run_ord hU N (N + 1) _ h (start_ord K [] Ord.nil)
theorem bld_ord {U : List T} (hU : Uni U) {t : T} (ht : t ∈ U) {W : List Stp} (hW : Inv U W) (hO : Ord W) : Ord (bld W t).1 := build_ord hU _ t ht W hW hO
end Wb
end Go.Proofs.YtihbmgkbipeakaaGreat

namespace Go.Proofs.YtihbmgkbipeakaaGreat
open Go.RowKit Go.Maps

theorem IntsIn.all {S : Nat → Bool} {w : World} {A : Option Addr} {ns : List Int} (h : IntsIn S w A ns) : IntsIn (fun _ => true) w A ns := h.keep fun _ _ _ => ⟨rfl, rfl⟩
/-- A deduction that can be read. -/
def DedAt (w : World) (A : Option Addr) (L : List Rsn) : Prop := L.length = 0 ∨ ∃ b off, A = some ⟨b, off, none⟩ ∧ ∀ i (h : i < L.length), ∃ A' c' F fc, w.cell? ⟨b, off + i * 5, none⟩ = some (.int .i64 L[i].t.kind) ∧ w.cell? ⟨b, off + i * 5 + 1, none⟩ = some (.string L[i].t.name) ∧
  w.cell? ⟨b, off + i * 5 + 2, none⟩ = some (.slice A' L[i].t.kids.length c') ∧ w.cell? ⟨b, off + i * 5 + 3, none⟩ = some (.int .i64 L[i].how) ∧ w.cell? ⟨b, off + i * 5 + 4, none⟩ = some (.slice F L[i].frm.length fc) ∧
  TermAt w (.agg #[.int .i64 L[i].t.kind, .string L[i].t.name, .slice A' L[i].t.kids.length c']) L[i].t ∧ IntsIn (fun _ => true) w F L[i].frm
theorem DedAt.later {w w' : World} {A : Option Addr} {L : List Rsn} (h : DedAt w A L) (hb : Below w.heap.size w w') : DedAt w' A L := by
  rcases h with h | ⟨b, off, e, h⟩
  · exact .inl h
  · refine .inr ⟨b, off, e, fun i hi => ?_⟩
    obtain ⟨A', c', F, fc, c0, c1, c2, c3, c4, ht, hf⟩ := h i hi
    exact ⟨A', c', F, fc, cell_later hb c0, cell_later hb c1, cell_later hb c2, cell_later hb c3, cell_later hb c4, ht.later hb, hf.keep fun b _ hl => ⟨rfl, hb.block b hl⟩⟩
theorem OutAt.ded {H M : Nat} {X : Nat → Bool} {w : World} {ov : Value} {out : List Rsn} (h : OutAt H X M w ov out) : ∃ A c, ov = .slice A out.length c ∧ DedAt w A out := by
  obtain ⟨css, h1, h2⟩ := h
  rcases Nat.eq_zero_or_pos out.length with h0 | h0
  · obtain ⟨A, c, e⟩ := own_shape h2
    exact ⟨A, c, e, .inl h0⟩
  · obtain ⟨gb, cp, e, _⟩ := h2.form h0
    subst e
    refine ⟨_, cp, rfl, .inr ⟨gb, 0, rfl, fun i hi => ?_⟩⟩
    have hi' : i < css.length := by rw [h1.1]; exact hi
    obtain ⟨A, cap, F, fc, e, ht, hf⟩ := h1.2 i hi' hi
    have hlen : ∀ cs ∈ css, cs.length = 5 := fun cs hc => by
      obtain ⟨j, hj, rfl⟩ := List.getElem_of_mem hc
      exact (h1.2 j hj (by rw [← h1.1]; exact hj)).len
    have hc : ∀ r, r < 5 → w.cell? ⟨gb, 0 + i * 5 + r, none⟩ = (css[i])[r]? := fun r hr => by
      rw [Nat.zero_add, h2.cellAt (i * 5 + r) (by omega)]
      exact flat_at css hlen i hi' r hr
    rw [e] at hc
    exact ⟨A, cap, F, fc, hc 0 (by omega), hc 1 (by omega), hc 2 (by omega), hc 3 (by omega), hc 4 (by omega), ht.at, hf.all⟩
/-- The deduction of a term, if there is one. -/
def derV (W : List Stp) (t : T) : Option (List Rsn) := if t.use = true then (Wb.bld W t).2.map fun i => (Wb.nd (i + 1) (Wb.bld W t).1 [] [] i).1.1 else none
def DerTo (w : World) (r : Option (List Rsn)) (e : Ending) (w' : World) : Prop := Below w.heap.size w w' ∧ match r with
  | none => e = .returned (.tuple #[.slice none 0 0, .bool false])
  | some L => ∃ A c, e = .returned (.tuple #[.slice A L.length c, .bool true]) ∧ DedAt w' A L
theorem der_f {W : List Stp} {t : T} (h : t.use = false) : derV W t = none := by unfold derV; rw [h]; rfl
theorem der_n {W : List Stp} {t : T} (h : (Wb.bld W t).2 = none) : derV W t = none := by unfold derV; rw [h]; split <;> rfl
theorem der_s {W : List Stp} {t : T} {i : Nat} (hu : t.use = true) (h : (Wb.bld W t).2 = some i) : derV W t = some (Wb.nd (i + 1) (Wb.bld W t).1 [] [] i).1.1 := by unfold derV; rw [if_pos hu, h]; rfl

set_option maxRecDepth 100000 in
set_option maxHeartbeats 4000000 in
theorem oderive {U : List T} (hU : Uni U) (hbU : ∀ t ∈ U, t.bulk ≤ 1048576) (L : List T) (A : Option Addr) (cap : Nat) (t : T) (v : Value) (w : World) (h : KnownAt w A cap L) (hb : ∀ t ∈ L, t.bulk ≤ 1048576) (hK : ∀ t ∈ cnt L, t ∈ U) (hT : TermAt w v t) (hbk : t.bulk ≤ 1048576) (ht : t.use = true → t ∈ U) :
    Calls Tryz.prog 21 #[.slice A L.length cap, v] w (DerTo w (derV (Wb.fill U.length (cnt L)) t)) := by
  have hv : ∃ A0 cap0, v = .agg #[.int .i64 t.kind, .string t.name, .slice A0 t.kids.length cap0] := by obtain ⟨A0, cap0, _, e, _⟩ := TermAt.inv hT; exact ⟨A0, cap0, e⟩
  obtain ⟨A0, cap0, rfl⟩ := hv
  have hw := below_alloc1 w (.cells #[.int .i64 t.kind, .string t.name, .slice A0 t.kids.length cap0] 29)
  have bx := Box.new w (.int .i64 t.kind) (.string t.name) (.slice A0 t.kids.length cap0)
  have HFI := Lib.hid (fun W' (hW' : KnownAt W' A cap L) => ofill hU hbU L A cap W' hW' hb hK)
  have HI := Lib.hid (fill_inv hU hK U.length); have HO := Lib.hid (Wb.fill_ord hU hK U.length)
  have HKN := Lib.hid (h.later hw); have HT := Lib.hid (hT.later hw); have HB1 := Lib.hid hw
  have HUS := Lib.hid (fun v' W' hW => ousable t v' W' hW hbk); have HCP := Lib.hid (fun v' W' hW => ocopy (t.bulk + 1) t v' W' (by omega) hW hbk)
  generalize Wb.fill U.length (cnt L) = W at HFI HI HO ⊢
  obtain ⟨R, hR⟩ : ∃ R, derV W t = R := ⟨_, rfl⟩
  have hdf := der_f (W := W) (t := t); have hdn := der_n (W := W) (t := t); have hds := fun i => der_s (W := W) (t := t) (i := i)
  rw [hR] at hdf hdn hds ⊢
  have HDF := Lib.hid hdf; have HDN := Lib.hid hdn; have HDS := Lib.hid hds
  have HBU := Lib.hid (fun B g M vs vp v' W' (hu : t.use = true) hW hT' => obuild (B := B) hU hbU (t.bulk + 1) t (by omega) (ht hu) v' W' g M vs vp W HI.out hW hT')
  have HIB := Lib.hid (fun (hu : t.use = true) => (show Inv U (Wb.bld W t).1 ∧ Wb.Ord (Wb.bld W t).1 ∧ ∀ i, (Wb.bld W t).2 = some i → i < (Wb.bld W t).1.length from ⟨(Wb.bld_inv hU (ht hu) HI.out).1, Wb.bld_ord hU (ht hu) HI.out HO.out, (Wb.bld_inv hU (ht hu) HI.out).2.2⟩))
  clear h hb hK hT hw hbk ht hdf hdn hds hR
  obtain ⟨k, hk⟩ : ∃ k, t.kind = k := ⟨_, rfl⟩
  obtain ⟨nm, hnm⟩ : ∃ nm, t.name = nm := ⟨_, rfl⟩
  obtain ⟨kn, hkn⟩ : ∃ kn, t.kids.length = kn := ⟨_, rfl⟩
  rw [hk, hnm, hkn] at bx HKN HT HB1 ⊢
  have HV := Lib.hid (show t.kind = k ∧ t.name = nm ∧ t.kids.length = kn from ⟨hk, hnm, hkn⟩)
  clear hk hnm hkn
  go_enter Tryz.func21, Tryz.ntmps21
  go_upto_region 1 with fail
  generalize w.alloc (.cells #[.int .i64 k, .string nm, .slice A0 kn cap0] 29) = w1 at bx HKN HT HB1 ⊢
  obtain ⟨x0, x1, x2⟩ := bx.cells
  have BX := Lib.hid bx
  clear bx
  go_wp2_with fail
  refine (HUS.out _ _ HT.out).mono ?_; rintro e w2 ⟨rfl, hb2⟩
  have HB2 := Lib.hid (HB1.out.trans (hb2.mono HB1.out.size)); have HT2 := Lib.hid (HT.out.later hb2); have BX2 := Lib.hid (BX.out.later hb2); have HK2 := Lib.hid (HKN.out.later hb2)
  clear hb2 x0 x1 x2
  cases hu : t.use with
  | false =>
    have HE := Lib.hid (HDF.out hu)
    clear hu
    go_wp2_with fail
    go_ret2
    rw [HE.out]
    exact ⟨HB2.out, rfl⟩
  | true =>
    have HBUU := Lib.hid (fun B g M vs vp v' W' => HBU.out B g M vs vp v' W' hu); have HIBU := Lib.hid (HIB.out hu); have HDSU := Lib.hid (fun i => HDS.out i hu)
    clear hu
    go_wp2_with fail
    refine (HFI.out _ HK2.out).mono ?_; rintro e w3 ⟨g, M, vs, vp, rfl, hw3, hb3⟩
    have HW3 := Lib.hid hw3; have HT3 := Lib.hid (HT2.out.later hb3); have HB3 := Lib.hid (HB2.out.trans (hb3.mono HB2.out.size))
    obtain ⟨y0, y1, y2⟩ := (BX2.out.later hb3).cells
    have HLE := Lib.hid HB2.out.size
    clear hw3 hb3
    go_wp2_with fail
    refine (HCP.out _ _ HT3.out).mono ?_; rintro e w4 ⟨A4, C4, rfl, hti, hb4⟩
    have HW4 := Lib.hid (HW3.out.later hb4); have HB4 := Lib.hid (HB3.out.trans (hb4.mono HB3.out.size))
    have hti4 : TermIn (nr g M vs vp) w4 _ t := hti.keep (S' := nr g M vs vp) (fun b hb hl => ⟨nr_new HW3.out (of_decide_eq_true hb), rfl⟩)
    have hbl := HBUU.out _ g M vs vp _ w4 HW4.out hti4
    change Calls _ _ _ _ (BTo _ g M _ vs vp (Wb.bld W t)) at hbl
    generalize Wb.bld W t = q at hbl HIBU HDSU HDN
    have HBLQ := Lib.hid hbl
    clear hti hb4 hti4 hbl y0 y1 y2
    go_wp2_with fail
    refine HBLQ.out.mono ?_; rintro e w5 ⟨he, vs5, vp5, hw5, hf5⟩
    have HW5 := Lib.hid hw5; have HB5 := Lib.hid (HB4.out.trans (hf5.below.mono HLE.out))
    clear hw5 hf5
    cases hq : q.2 with
    | none =>
      have he2 : e = .returned (.int .i64 (-1)) := by rw [he, hq]; rfl
      clear he; subst he2
      have HE := Lib.hid (HDN.out hq)
      clear hq
      go_wp2_with fail
      go_ret2
      rw [HE.out]
      exact ⟨HB5.out, rfl⟩
    | some p =>
      have he2 : e = .returned (.int .i64 (p : Int)) := by rw [he, hq]; rfl
      clear he; subst he2
      have hneg : ¬ ((p : Int) < 0) := by omega
      have HE := Lib.hid (HDSU.out p hq)
      have HPL := Lib.hid (HIBU.out.2.2 p hq)
      clear hq
      have hb6 := below_alloc1 w5 (.map #[] 0)
      have hmk : Sem.run Tryz.prog (Instr.makeMap 89 none) w5 = .ok (.map (some w5.heap.size)) (w5.alloc (.map #[] 0)) := rfl
      have HND := Lib.hid (oneeded HW5.out HIBU.out.2.1 (fun s hs => hbU _ (HIBU.out.1.mem s hs)) (p + 1) p (Nat.lt_succ_self _) HPL.out (w5.alloc (.map #[] 0)) (.slice none 0 0) w5.heap.size [] [] (fun _ => false) hb6 (fun b e => by cases e) (Wb.NdI.nil _)
        ⟨[], ⟨rfl, fun i h => absurd h (Nat.not_lt_zero _)⟩, own_nil _ _ _ _⟩ ⟨Nat.le_refl _, .map [], 0, World.ownsMap_made w5 Tryz.prog 3 _, Nat.le_refl _, fun i => ⟨rfl, fun k h => by cases h⟩⟩)
      have HB6 := Lib.hid (HB5.out.trans (hb6.mono HB5.out.size))
      have HLE6 := Lib.hid HB5.out.size
      clear hb6
      go_wp2_with fail
      refine HND.out.mono ?_; rintro e w7 ⟨ov', rfl, ho, _, hb7, _⟩
      obtain ⟨A7, c7, rfl, hd⟩ := ho.ded
      have HD := Lib.hid hd; have HB7 := Lib.hid (HB6.out.trans (hb7.mono HLE6.out))
      clear ho hd hb7 hmk
      go_wp2_with fail
      go_ret2
      rw [HE.out]
      exact ⟨HB7.out, A7, c7, rfl, HD.out⟩
end Go.Proofs.YtihbmgkbipeakaaGreat

namespace Go.Proofs.YtihbmgkbipeakaaGreat
open Go.RowKit

def sameB (t t' : T) : Bool := decide (t.cmp t' = 0)
set_option maxRecDepth 100000 in
set_option maxHeartbeats 4000000 in
theorem osame (t t' : T) (v v' : Value) (w : World) (ht : TermAt w v t) (ht' : TermAt w v' t') (hb : t.bulk ≤ 1048576) (hb' : t'.bulk ≤ 1048576) :
    Calls Tryz.prog 86 #[v, v'] w fun e w' => e = .returned (.bool (sameB t t')) ∧ Below w.heap.size w w' := by
  unfold sameB
  cases ht with
  | mk k s A cap ks U h1 h2 h3 h4 hA hU =>
  cases ht' with
  | mk k' s' A' cap' ks' U' h1' h2' h3' h4' hA' hU' =>
    have hc := fun W hW hW' => ocmp ((T.mk k s ks).bulk + 1) (.mk k s ks) (.mk k' s' ks') (.agg #[.int .i64 k, .string s, .slice A ks.length cap]) (.agg #[.int .i64 k', .string s', .slice A' ks'.length cap']) W (by omega) hW hW' hb hb'
    have ht := TermAt.mk k s A cap ks U h1 h2 h3 h4 hA hU
    have ht' := TermAt.mk k' s' A' cap' ks' U' h1' h2' h3' h4' hA' hU'
    have HC := Lib.hid hc; have HT := Lib.hid ht; have HT' := Lib.hid ht'
    obtain ⟨c, hcv⟩ : ∃ c, (T.mk k s ks).cmp (.mk k' s' ks') = c := ⟨_, rfl⟩
    have HCV := Lib.hid hcv
    clear hc ht ht' hA hA' hU hU' hcv
    go_enter Tryz.func86, Tryz.ntmps86
    go_wp2_with fail
    have hb1 := (boxed_two w (.int .i64 k) (.string s) (.slice A ks.length cap) (.int .i64 k') (.string s') (.slice A' ks'.length cap') 29).2.2
    refine (HC.out _ (HT.out.later hb1) (HT'.out.later hb1)).mono ?_; rintro e w2 ⟨rfl, hb4⟩
    replace hb4 := hb1.trans (hb4.mono hb1.size)
    rw [HCV.out]
    go_wp2_with fail
    go_ret
    exact ⟨ret_bool (by rw [HCV.out, Bool.eq_iff_iff, beq_iff_eq, decide_eq_true_eq]), hb4⟩

/-- Is a number none of the places ahead of i. -/
def offB (i : Nat) (x : Int) : Bool := decide (x < 0) || decide ((i : Int) ≤ x)
set_option maxRecDepth 100000 in
theorem off_gives (i bi : Nat) (w : World) (hc : w.cell? ⟨bi, 0, none⟩ = some (.int .i64 (i : Int))) : PredAt Tryz.prog 83 #[.pointer (some ⟨bi, 0, none⟩)] (Value.int .i64) (offB i) w := fun W x hb => by
  have hl := World.block_lt_of_cell? w _ hc
  have hcW := cell_later hb hc
  show Calls Tryz.prog 83 #[.int .i64 x, .pointer (some ⟨bi, 0, none⟩)] W _
  by_cases h : x < 0
  · have hB : offB i x = true := by unfold offB; rw [decide_eq_true h]; rfl
    rw [hB]
    clear hb hl hB hc
    go_enter Tryz.func83, Tryz.ntmps83
    go_wp2_with fail
    go_ret
    exact ⟨rfl, 0, rfl⟩
  · have hB : offB i x = decide ((i : Int) ≤ x) := by unfold offB; rw [decide_eq_false h]; rfl
    rw [hB]
    clear hb hl hB hc
    go_enter Tryz.func83, Tryz.ntmps83
    go_wp2_with fail
    go_ret
    exact ⟨rfl, 0, rfl⟩
theorem oints {F : Option Addr} {fc bi i : Nat} {ns : List Int} (w : World) (hF : IntsIn (fun _ => true) w F ns) (hc : w.cell? ⟨bi, 0, none⟩ = some (.int .i64 (i : Int))) (hl : ns.length ≤ 1048576) :
    Calls Tryz.prog 82 #[.slice F ns.length fc, .func (.func 83) #[] #[.pointer (some ⟨bi, 0, none⟩)]] w fun e w' => e = .returned (.bool (ns.any (offB i))) ∧ Below w.heap.size w w' := by
  rcases hF with h0 | ⟨b, off, rfl, _, hcell⟩
  · have hn : ns = [] := List.eq_nil_of_length_eq_zero h0
    subst hn
    have h := AnyE.slices_ContainsFunc_empty (P := Tryz.prog) Tryz.layCi F fc (.func (.func 83) #[] #[.pointer (some ⟨bi, 0, none⟩)]) w
    change Calls Tryz.prog 82 _ _ _ at h
    refine h.mono ?_
    rintro e w' ⟨rfl, rfl⟩
    exact ⟨rfl, Below.refl _ _⟩
  · have eg : ∀ args w, (callFunc 83 args).run Tryz.prog w = .ok (.enter 83 args) w := enters_of Tryz.func83 (by kernel_rfl) rfl
    have h := AnyE.slices_ContainsFunc (P := Tryz.prog) Tryz.layCi (Value.int .i64) (offB i) 83 #[.pointer (some ⟨bi, 0, none⟩)] eg b off ns.length fc ns w (off_gives i bi w hc) (Nat.le_refl _) (by omega) (fun j hj => by rw [getElem!_pos ns j hj]; exact hcell j hj)
    change Calls Tryz.prog 82 _ _ _ at h
    refine h.mono ?_
    rintro e w' ⟨rfl, q, rfl⟩
    rw [List.take_length]
    exact ⟨rfl, below_drewN (Below.refl _ _) q⟩
/-- A term and its cells. -/
def TCell (w : World) : Type := { x : (Int × ByteArray × Option Addr × Nat × Nat) × T // TermAt w (.agg #[.int .i64 x.1.1, .string x.1.2.1, .slice x.1.2.2.1 x.1.2.2.2.1 x.1.2.2.2.2]) x.2 ∧ x.2.bulk ≤ 1048576 }
instance (w : World) : Inhabited (TCell w) := ⟨⟨((0, ⟨#[]⟩, none, 0, 0), .mk 0 ⟨#[]⟩ []), TermAt.mk 0 ⟨#[]⟩ none 0 [] (fun _ => (undef, undef, undef)) (by decide) (by decide) (Nat.le_refl _) (Nat.zero_le _) (.inl rfl) (fun i h => by simp at h), by decide⟩⟩
def TCell.enc {w : World} (x : TCell w) : List Value := [.int .i64 x.1.1.1, .string x.1.1.2.1, .slice x.1.1.2.2.1 x.1.1.2.2.2.1 x.1.1.2.2.2.2]
set_option maxRecDepth 100000 in
theorem same_gives (s : T) (bs : Nat) (A : Option Addr) (c : Nat) (w : World) (c0 : w.cell? ⟨bs, 0, none⟩ = some (.int .i64 s.kind)) (c1 : w.cell? ⟨bs, 1, none⟩ = some (.string s.name)) (c2 : w.cell? ⟨bs, 2, none⟩ = some (.slice A s.kids.length c))
    (hs : TermAt w (.agg #[.int .i64 s.kind, .string s.name, .slice A s.kids.length c]) s) (hb : s.bulk ≤ 1048576) : PredBelow Tryz.prog 85 #[.pointer (some ⟨bs, 0, none⟩)] (fun x : TCell w => .agg x.enc.toArray) (fun x => sameB x.1.2 s) w := fun W x hB => by
  obtain ⟨⟨⟨k, nm, Ax, nx, cx⟩, t⟩, ht, htb⟩ := x
  show Calls Tryz.prog 85 #[.agg #[.int .i64 k, .string nm, .slice Ax nx cx], .pointer (some ⟨bs, 0, none⟩)] W fun e w' => e = .returned (.bool (sameB t s)) ∧ Below w.heap.size w w'
  have ht' : TermAt W (.agg #[.int .i64 k, .string nm, .slice Ax nx cx]) t := TermAt.later ht hB
  have hw := below_alloc1 W (.cells #[.int .i64 k, .string nm, .slice Ax nx cx] 29)
  have bx := Box.new W (.int .i64 k) (.string nm) (.slice Ax nx cx)
  have hbw := hB.trans (hw.mono hB.size)
  have HS := Lib.hid (fun W' (h1 : TermAt W' (.agg #[.int .i64 k, .string nm, .slice Ax nx cx]) t) h2 => osame t s _ (.agg #[.int .i64 s.kind, .string s.name, .slice A s.kids.length c]) W' h1 h2 htb hb)
  have HT := Lib.hid (ht'.later hw); have HSS := Lib.hid (hs.later hbw); have HB := Lib.hid hbw
  have d0 := cell_later hbw c0; have d1 := cell_later hbw c1; have d2 := cell_later hbw c2
  clear ht ht' hw hbw c0 c1 c2 hs hB
  generalize sameB t s = R at HS ⊢
  go_enter Tryz.func85, Tryz.ntmps85
  go_upto_region 1 with fail
  generalize W.alloc (.cells #[.int .i64 k, .string nm, .slice Ax nx cx] 29) = w1 at bx HT HSS HB d0 d1 d2 ⊢
  obtain ⟨x0, x1, x2⟩ := bx.cells
  clear bx
  go_wp2_with fail
  refine (HS.out _ HT.out HSS.out).mono ?_; rintro e w2 ⟨rfl, hb2⟩
  have HB2 := Lib.hid (HB.out.trans (hb2.mono HB.out.size))
  clear hb2 x0 x1 x2 d0 d1 d2
  go_wp2_with fail
  go_ret
  exact ⟨rfl, HB2.out⟩
end Go.Proofs.YtihbmgkbipeakaaGreat

namespace Go.Proofs.YtihbmgkbipeakaaGreat
open Go.RowKit Go.Sort

/-- A term of the row that is sorted: it lies apart from the row. -/
def SCell (w : World) (blk : Nat) : Type := { x : (Int × ByteArray × Option Addr × Nat × Nat) × T // TermIn (but 0 (some blk)) w (.agg #[.int .i64 x.1.1, .string x.1.2.1, .slice x.1.2.2.1 x.1.2.2.2.1 x.1.2.2.2.2]) x.2 ∧ x.2.bulk ≤ 1048576 }
instance (w : World) (blk : Nat) : Inhabited (SCell w blk) := ⟨⟨((0, ⟨#[]⟩, none, 0, 0), .mk 0 ⟨#[]⟩ []), atom_in _ _ 0 ⟨#[]⟩ (by decide) (by decide), by decide⟩⟩
def SCell.enc {w : World} {blk : Nat} (x : SCell w blk) : List Value := [.int .i64 x.1.1.1, .string x.1.1.2.1, .slice x.1.1.2.2.1 x.1.1.2.2.2.1 x.1.1.2.2.2.2]
def SCell.t {w : World} {blk : Nat} (x : SCell w blk) : T := x.1.2
def SCell.cf {w : World} {blk : Nat} (x y : SCell w blk) : Int := T.cmp x.t y.t
theorem scell_swo (w : World) (blk : Nat) : SWO (ltOf (SCell.cf (w := w) (blk := blk))) where
  irrefl x := by unfold ltOf SCell.cf; rw [T.cmp_self]; rfl
  trans x y z h1 h2 := by
    unfold ltOf SCell.cf at *
    rw [decide_eq_true_eq] at *
    have e1 : T.cmp x.t y.t = -1 := by rcases T.cmp_vals x.t y.t with h | h | h <;> omega
    have e2 : T.cmp y.t z.t = -1 := by rcases T.cmp_vals y.t z.t with h | h | h <;> omega
    rw [T.cmp_trans _ _ _ e1 e2]; decide
  ntrans x y z h1 h2 := by
    unfold ltOf SCell.cf at *
    rw [decide_eq_false_iff_not] at *
    intro h3
    have a1 := T.cmp_anti x.t y.t; have a2 := T.cmp_anti y.t z.t
    have e3 : T.cmp x.t z.t = -1 := by rcases T.cmp_vals x.t z.t with h | h | h <;> omega
    rcases T.cmp_vals x.t y.t with h | h | h
    · omega
    · have e := T.cmp_eq _ _ h
      rw [e] at e3; omega
    · rcases T.cmp_vals y.t z.t with g | g | g
      · omega
      · have e := T.cmp_eq _ _ g
        rw [e] at h; omega
      · have := T.cmp_trans z.t y.t x.t (by omega) (by omega)
        have a3 := T.cmp_anti x.t z.t
        omega
/-- Other blocks while the row is sorted. -/
theorem sortWorldK_block {α : Type} [Inhabited α] (enc : α → List Value) (k : Nat) (w : World) (blk off m : Nat) (dk : Array α) (os : Array Obj) (b : Nat) (hb : b < w.heap.size) (hn : b ≠ blk) : (sortWorldK enc k w blk off m dk os).heap[b]? = w.heap[b]? := by
  show ((w.heap.modify blk _) ++ os)[b]? = _
  rw [Array.getElem?_append_left (by simpa using hb), Array.getElem?_modify, if_neg (by omega)]
theorem sortWorldK_below {α : Type} [Inhabited α] (enc : α → List Value) (k : Nat) (w : World) (blk off m : Nat) (dk : Array α) (os : Array Obj) {B : Nat} (hB : B ≤ blk) (hl : blk < w.heap.size) : Below B w (sortWorldK enc k w blk off m dk os) := by
  refine ⟨rfl, rfl, rfl, ?_, fun b hb => sortWorldK_block enc k w blk off m dk os b (by omega) (by omega)⟩
  show w.heap.size ≤ ((w.heap.modify blk _) ++ os).size
  simp
theorem scell_lays {w : World} {blk : Nat} (off size : Nat) : CmpLays Tryz.prog 103 #[] (SCell.enc (w := w) (blk := blk)) 3 SCell.cf blk off size w := fun m os dk _ x y => by
  obtain ⟨⟨⟨k, s, A, n, c⟩, t⟩, ht, hb⟩ := x
  obtain ⟨⟨⟨k', s', A', n', c'⟩, t'⟩, ht', hb'⟩ := y
  have hk : ∀ b, but 0 (some blk) b = true → b < w.heap.size → (fun _ => true) b = true ∧ (sortWorldK (SCell.enc (w := w) (blk := blk)) 3 w blk off m dk os).heap[b]? = w.heap[b]? := fun b hb hl => ⟨rfl, sortWorldK_block _ _ _ _ _ _ _ _ b hl (fun e => (but_iff.1 hb).2 (by rw [e]))⟩
  have h := ocmpD (t.bulk + 1) t t' _ _ (sortWorldK (SCell.enc (w := w) (blk := blk)) 3 w blk off m dk os) (by omega) (ht.keep hk).at (ht'.keep hk).at hb hb'
  exact h.mono fun e w' ⟨he, hw⟩ => ⟨he, hw.grow⟩
/-- What the sort of a list of terms leaves. -/
def SortPost (base : Nat) (w : World) (A : Option Addr) (cap : Nat) (L : List T) (e : Ending) (w' : World) : Prop :=
  e = .returned (.tuple #[]) ∧ ∃ L', L'.Perm L ∧ L'.Pairwise (fun a b => ¬ T.cmp b a < 0) ∧ KnownAt w' A cap L' ∧ Below base w w'
theorem osort {base cap : Nat} {A : Option Addr} {L : List T} (w : World) (h : TermsRow w base (.slice A L.length cap) L) (hb : ∀ t ∈ L, t.bulk ≤ 1048576) (hl : L.length ≤ 1048576) :
    Calls Tryz.prog 102 #[.slice A L.length cap, .func (.func 103) #[] #[]] w (SortPost base w A cap L) := by
  by_cases h0 : L.length = 0
  · obtain rfl : L = [] := List.eq_nil_of_length_eq_zero h0
    have hn := AnyF.slices_SortFunc_none (P := Tryz.prog) Tryz.laySo A cap (.func (.func 103) #[] #[]) w
    refine hn.mono ?_
    rintro e w' ⟨rfl, rfl⟩
    exact ⟨rfl, [], List.Perm.refl _, List.Pairwise.nil, (TermsRow.term h 0 ⟨#[]⟩ (by decide) (by decide)).at, Below.refl _ _⟩
  · obtain ⟨xs, hown, hct⟩ := h.cells
    obtain ⟨blk, cap', e, _⟩ := hown.form (by omega)
    injection e with e1 e2 e3
    subst e1; subst e3
    have hbk := h.block blk rfl
    have hsh := h.shape
    obtain ⟨_, _, e4, hc1, hc2⟩ := hsh
    injection e4 with e5 e6 e7
    subst e7
    have hx : ∀ i : Fin L.length, ∃ x : SCell w blk, x.t = L[i] ∧ ∀ r v, x.enc[r]? = some v → xs[i.1 * 3 + r]? = some v := fun i => by
      obtain ⟨u0, u1, u2, q0, q1, q2, ht⟩ := hct.2 i.1 i.2
      obtain ⟨A0, c0, ev⟩ := ht.view
      injection ev with ev
      injection ev with ev
      injection ev with g0 ev
      injection ev with g1 ev
      injection ev with g2 _
      subst g0; subst g1; subst g2
      refine ⟨⟨((L[i].kind, L[i].name, A0, L[i].kids.length, c0), L[i]), ht.keep fun b hb' _ => ⟨but_iff.2 ⟨Nat.zero_le _, (but_iff.1 hb').2⟩, rfl⟩, hb _ (List.getElem_mem _)⟩, rfl, fun r v hv => ?_⟩
      match r, hv with
      | 0, hv => injection hv with hv; subst hv; exact q0
      | 1, hv => injection hv with hv; subst hv; exact q1
      | 2, hv => injection hv with hv; subst hv; exact q2
      | r + 3, hv => simp [SCell.enc] at hv
    obtain ⟨zs, hzs⟩ : ∃ zs : List (SCell w blk), zs = List.ofFn (fun i : Fin L.length => (hx i).choose) := ⟨_, rfl⟩
    have hlen : zs.length = L.length := by rw [hzs, List.length_ofFn]
    have hz : ∀ j (hj : j < L.length), zs[j]! = (hx ⟨j, hj⟩).choose := fun j hj => by
      rw [getElem!_pos zs j (by rw [hlen]; exact hj)]
      subst hzs
      rw [List.getElem_ofFn]
    have hmap : zs.map SCell.t = L := by
      apply List.ext_getElem
      · rw [List.length_map, hlen]
      · intro j h1 h2
        rw [List.getElem_map]
        have := hz j h2
        rw [getElem!_pos zs j (by omega)] at this
        rw [this]
        exact (hx ⟨j, h2⟩).choose_spec.1
    have hds : zs.toArray.size = L.length := by simp [hlen]
    have hH : HoldsK (SCell.enc (w := w) (blk := blk)) 3 w blk 0 zs.toArray := fun j hj => by
      rw [size_flatK] at hj
      rw [get_flatK _ _ _ _ hj, Nat.zero_add]
      rw [hds] at hj
      have hq : j / 3 < L.length := by omega
      refine ⟨?_, hown.frozenAt j⟩
      rw [hown.cellAt j (by omega)]
      have hgz : zs.toArray[j / 3]! = (hx ⟨j / 3, hq⟩).choose := by
        rw [← hz (j / 3) hq, getElem!_pos zs.toArray _ (by rw [hds]; exact hq), getElem!_pos zs _ (by rw [hlen]; exact hq)]; simp
      rw [hgz]
      have hsp := (hx ⟨j / 3, hq⟩).choose_spec.2 (j % 3)
      generalize (hx ⟨j / 3, hq⟩).choose = x at hsp
      have hr : j % 3 < x.enc.length := by have : x.enc.length = 3 := rfl; omega
      have := hsp _ (List.getElem?_eq_getElem hr)
      have ej : j / 3 * 3 + j % 3 = j := by omega
      rw [ej] at this
      rw [this]
      show some _ = some (x.enc[j % 3]!)
      rw [getElem!_pos x.enc (j % 3) hr]
    have eg : ∀ args w, (callFunc 103 args).run Tryz.prog w = .ok (.enter 103 args) w := enters_of Tryz.func103 (by kernel_rfl) rfl
    have hcon := AnyQ.slices_SortFunc (P := Tryz.prog) Tryz.laySo 3 (fun w => Tryz.isAgg29 w) (fun w => Tryz.sizeOf29 w) (SCell.enc (w := w) (blk := blk)) (fun _ => rfl) (fun x v hv => by
        simp only [SCell.enc, List.mem_cons, List.not_mem_nil, or_false] at hv
        rcases hv with rfl | rfl | rfl <;> rfl) SCell.cf (scell_swo w blk) 103 #[] blk 0 cap zs.toArray w eg (scell_lays 0 _) hH hbk.2 (by rw [hds]; omega)
    rw [hds] at hcon
    refine hcon.mono ?_
    rintro e w' ⟨rfl, d', n, os, ⟨hp1, _, hp3⟩, hso, rfl⟩
    have hd' : d'.size = L.length := by rw [hp1, hds]
    have hperm : d'.toList.Perm zs := by
      rw [← hd'] at hp3
      have e1 : d'.extract 0 d'.size = d' := by simp
      have e2 : zs.toArray.extract 0 d'.size = zs.toArray := by rw [hd', ← hds]; simp
      rw [e1, e2] at hp3; exact hp3
    have hll : (d'.toList.map SCell.t).length = L.length := by simp [hd']
    refine ⟨rfl, d'.toList.map SCell.t, by rw [← hmap]; exact hperm.map _, ?_, ?_, sortWorldK_below _ _ _ _ _ _ _ _ hbk.1 hbk.2⟩
    · rw [List.pairwise_map, List.pairwise_iff_getElem]
      intro i j hi hj hij
      have h2 := hso i j (Nat.zero_le _) hij (by simpa [hd'] using hj)
      unfold ltOf SCell.cf at h2
      rw [decide_eq_false_iff_not] at h2
      rw [getElem!_pos d' _ (by simpa using hj), getElem!_pos d' _ (by simpa using hi)] at h2
      simpa using h2
    · have hH' := holdsK_sortWorldK_c (SCell.enc (w := w) (blk := blk)) 3 w blk 0 zs.toArray d' n os hH hbk.2 hp1
      have hcell : ∀ i, i < L.length → ∀ r, r < 3 → (sortWorldK (SCell.enc (w := w) (blk := blk)) 3 w blk 0 n d' os).cell? ⟨blk, 0 + i * 3 + r, none⟩ = some (d'[i]!.enc[r]!) := fun i hi r hr => by
        have := (hH' (i * 3 + r) (by rw [size_flatK, hd']; omega)).1
        rw [get_flatK _ _ _ _ (by rw [hd']; omega)] at this
        have e1 : (i * 3 + r) / 3 = i := by omega
        have e2 : (i * 3 + r) % 3 = r := by omega
        rw [e1, e2, id] at this
        rw [Nat.add_assoc]; exact this
      have hkn : TermAt (sortWorldK (SCell.enc (w := w) (blk := blk)) 3 w blk 0 n d' os) (.agg #[.int .i64 0, .string ⟨#[]⟩, .slice (some ⟨blk, 0, none⟩) (d'.toList.map SCell.t).length cap]) (.mk 0 ⟨#[]⟩ (d'.toList.map SCell.t)) := by
        refine .mk 0 ⟨#[]⟩ _ cap _ (fun i => (d'[i]!.enc[0]!, d'[i]!.enc[1]!, d'[i]!.enc[2]!)) (by decide) (by decide) (by rw [hll]; exact hc1) hc2 (.inr ⟨blk, 0, rfl, fun i hi => ?_⟩) (fun i hi => ?_)
        · rw [hll] at hi
          exact ⟨hcell i hi 0 (by omega), hcell i hi 1 (by omega), hcell i hi 2 (by omega)⟩
        · rw [hll] at hi
          have e1 : (d'.toList.map SCell.t)[i] = d'[i]!.t := by rw [List.getElem_map, getElem!_pos d' i (by omega)]; rfl
          rw [e1]
          obtain ⟨⟨⟨k, s, A, n', c⟩, t⟩, ht, _⟩ := d'[i]!
          exact (ht.keep fun b hb' hlt => ⟨rfl, sortWorldK_block _ _ _ _ _ _ _ _ b hlt (fun e => (but_iff.1 hb').2 (by rw [e]))⟩).at
      rw [hll] at hkn
      unfold KnownAt
      rw [hll]; exact hkn
end Go.Proofs.YtihbmgkbipeakaaGreat

namespace Go.Proofs.YtihbmgkbipeakaaGreat

/-- What can be put together of what is known. -/
inductive Syn (P : T → Prop) : T → Prop
  | base {t : T} : P t → Syn P t
  | hash {t : T} : t.kind = 4 → Syn P (t.kid 0) → Syn P t
  | two {t : T} : (t.kind = 3 ∨ t.kind = 5 ∨ t.kind = 6) → Syn P (t.kid 0) → Syn P (t.kid 1) → Syn P t
  | raise {t : T} : t.kind = 7 → t.kids.length = 1 → Syn P (t.kid 0) → Syn P t
  | pow {t : T} (i : Nat) : t.kind = 7 → 1 < t.kids.length → i < t.kids.length → Syn P (t.lessOf i) → Syn P (t.kid i) → Syn P t
theorem Syn.bind {P Q : T → Prop} (h : ∀ t, P t → Syn Q t) {t : T} (hs : Syn P t) : Syn Q t := by
  induction hs with
  | base hp => exact h _ hp
  | hash hk _ ih => exact .hash hk ih
  | two hk _ _ i0 i1 => exact .two hk i0 i1
  | raise hk hl _ ih => exact .raise hk hl ih
  | pow i hk hl hi _ _ i0 i1 => exact .pow i hk hl hi i0 i1
theorem Syn.mono {P Q : T → Prop} (h : ∀ t, P t → Q t) {t : T} (hs : Syn P t) : Syn Q t := hs.bind fun t ht => .base (h t ht)
theorem Syn.atom {P : T → Prop} {t : T} (hs : Syn P t) (hk : t.kind = 1 ∨ t.kind = 2) : P t := by
  cases hs with
  | base hp => exact hp
  | hash h => omega
  | two h => omega
  | raise h => omega
  | pow i h => omega
theorem Syn.iff {P Q : T → Prop} (h : ∀ t, P t ↔ Q t) (t : T) : Syn P t ↔ Syn Q t := ⟨fun hs => hs.mono fun t => (h t).1, fun hs => hs.mono fun t => (h t).2⟩
/-- A power's exponents are names or variables. -/
theorem exp_atom {t : T} (h : t.shape = true) (h7 : t.kind = 7) {i : Nat} (hi : i < t.kids.length) : (t.kid i).kind = 1 ∨ (t.kid i).kind = 2 := by
  obtain ⟨k, s, ks⟩ := t
  obtain rfl : k = 7 := h7
  rw [T.shape_head 7 s ks (by decide) (by decide)] at h
  simp only [T.headOk] at h
  simp at h
  have hi' : i < ks.length := hi
  have hm : ks[i] ∈ ks := List.getElem_mem hi'
  have ha := h.1.1.2 _ hm
  have he : (T.mk 7 s ks).kid i = ks[i] := by show ks.getD i T.nil_ = _; rw [List.getD_eq_getElem?_getD, List.getElem?_eq_getElem hi']; rfl
  rw [he]
  cases hx : ks[i] with
  | mk k2 s2 l2 =>
    rw [hx] at ha
    simp only [T.atom] at ha
    show k2 = 1 ∨ k2 = 2
    simpa using ha
namespace Wb
/-- The terms that were found by taking apart. -/
def Part (W : List Stp) (t : T) : Prop := ∃ s ∈ W, s.part = true ∧ s.t = t
/-- All steps' terms can be put together. -/
def Sound (P : T → Prop) (W : List Stp) : Prop := ∀ s ∈ W, Syn P s.t
theorem Sound.push {P : T → Prop} {W : List Stp} (h : Sound P W) {s : Stp} (hs : Syn P s.t) : Sound P (W ++ [s]) := fun x hx => by
  rcases List.mem_append.1 hx with hx | hx
  · exact h x hx
  · rw [List.mem_singleton] at hx; rw [hx]; exact hs
theorem Sound.add {P : T → Prop} {W : List Stp} (h : Sound P W) {t : T} (ht : Syn P t) (how : Nat) (frm : List Nat) : Sound P (add W t how frm).1 := by
  cases hf : find W t with
  | some i => rw [add_some hf]; exact h
  | none => rw [add_none hf]; exact h.push ht
theorem Sound.mark {P : T → Prop} {W : List Stp} (h : Sound P W) (i : Nat) : Sound P (mark W i) := fun x hx => by
  obtain ⟨j, hj, rfl⟩ := List.getElem_of_mem hx
  have h3 : j < W.length := by rwa [mark_len] at hj
  rw [(mark_t W i j hj h3).1]
  exact h _ (List.getElem_mem h3)
theorem Sound.take {P : T → Prop} {W : List Stp} (h : Sound P W) {t : T} (ht : Syn P t) (how : Nat) (frm : List Nat) : Sound P (take W t how frm).1 := by
  unfold Wb.take
  split
  · exact h.add ht how frm
  · exact (h.add ht how frm).mark _
theorem find_syn {U : List T} (hU : Uni U) {P : T → Prop} {W : List Stp} (hW : Inv U W) (hS : Sound P W) {t : T} (ht : t ∈ U) {i : Nat} (h : find W t = some i) : Syn P t := by
  obtain ⟨hi, e⟩ := find_eq hU hW ht h
  rw [← e]; exact hS _ (List.getElem_mem hi)
def PutsP (P : T → Prop) (U : List T) (rec : List Stp → T → List Stp × Option Nat) (t : T) : Prop := ∀ W, Inv U W → Sound P W → Sound P (rec W t).1 ∧ ∀ i, (rec W t).2 = some i → Syn P t
theorem both_syn {U : List T} {P : T → Prop} {rec : List Stp → T → List Stp × Option Nat} {t : T} (how : Nat) (hk : t.kind = 3 ∨ t.kind = 5 ∨ t.kind = 6) (h0 : Puts U rec (t.kid 0)) (s0 : PutsP P U rec (t.kid 0)) (s1 : PutsP P U rec (t.kid 1)) :
    PutsP P U (fun W t => both rec W t how) t := fun W hW hS => by
  obtain ⟨a1, _, _⟩ := h0 W hW
  obtain ⟨b1, b2⟩ := s0 W hW hS
  obtain ⟨c1, c2⟩ := s1 _ a1 b1
  simp only [both]
  split
  · exact ⟨b1, fun i h => by cases h⟩
  · rename_i a ha
    split
    · exact ⟨c1, fun i h => by cases h⟩
    · rename_i b hb
      have ht := Syn.two hk (b2 a ha) (c2 b hb)
      exact ⟨c1.add ht _ _, fun _ _ => ht⟩
theorem pow_syn {U : List T} (hU : Uni U) {P : T → Prop} {rec : List Stp → T → List Stp × Option Nat} {t : T} (h7 : t.kind = 7) (htU : t ∈ U) (hl : ∀ i, i < t.kids.length → 1 < t.kids.length → Puts U rec (t.lessOf i) ∧ PutsP P U rec (t.lessOf i)) :
    ∀ (f i : Nat), f + i = t.kids.length → PutsP P U (fun W _ => pow rec t f i W) t
  | 0, i, _, W, _, hS => ⟨hS, fun i h => by cases h⟩
  | f + 1, i, hfi, W, hW, hS => by
    have ih := pow_syn hU h7 htU hl f (i + 1) (by omega)
    simp only [pow]
    split
    · exact ih W hW hS
    · rename_i nm hnm
      have hx := find_syn hU hW hS (hU.kid t htU i (by omega)) hnm
      split
      · rename_i h1
        obtain rfl : i = 0 := by omega
        have ht := Syn.raise h7 h1 hx
        exact ⟨hS.add ht _ _, fun _ _ => ht⟩
      · rename_i h1
        obtain ⟨p1, p2⟩ := hl i (by omega) (by omega)
        obtain ⟨a1, _, _⟩ := p1 W hW
        obtain ⟨b1, b2⟩ := p2 W hW hS
        split
        · exact ih _ a1 b1
        · rename_i p hp
          have ht := Syn.pow i h7 (by omega) (by omega) (b2 p hp) hx
          exact ⟨b1.add ht _ _, fun _ _ => ht⟩
theorem build_syn {U : List T} (hU : Uni U) (P : T → Prop) : ∀ (n : Nat) (t : T), t ∈ U → PutsP P U (build n) t
  | 0, t, _, W, _, hS => ⟨hS, fun i h => by cases h⟩
  | n + 1, t, ht, W, hW, hS => by
    have hs := T.shapeK (Bool.and_eq_true_iff.1 (hU.ok t ht)).2
    have ihk : ∀ i, i < t.kids.length → PutsP P U (build n) (t.kid i) := fun i hi => build_syn hU P n _ (hU.kid t ht i hi)
    have ihp : ∀ i, i < t.kids.length → Puts U (build n) (t.kid i) := fun i hi => build_puts hU n _ (hU.kid t ht i hi)
    simp only [build]
    split
    · rename_i i hi
      exact ⟨hS, fun _ _ => find_syn hU hW hS ht hi⟩
    · split
      · rename_i h4
        obtain ⟨a1, a2⟩ := ihk 0 (by omega) W hW hS
        split
        · exact ⟨a1, fun i h => by cases h⟩
        · rename_i m hm
          have htt := Syn.hash h4 (a2 m hm)
          exact ⟨a1.add htt _ _, fun _ _ => htt⟩
      · split
        · rename_i h3
          exact both_syn 6 (.inl h3) (ihp 0 (by omega)) (ihk 0 (by omega)) (ihk 1 (by omega)) W hW hS
        · split
          · rename_i h5
            exact both_syn 8 (.inr (.inl h5)) (ihp 0 (by omega)) (ihk 0 (by omega)) (ihk 1 (by omega)) W hW hS
          · split
            · rename_i h6
              exact both_syn 9 (.inr (.inr h6)) (ihp 0 (by omega)) (ihk 0 (by omega)) (ihk 1 (by omega)) W hW hS
            · split
              · rename_i h7
                exact pow_syn hU h7 ht (fun i hi h1 => ⟨build_puts hU n _ (hU.less t ht h7 h1 i hi), build_syn hU P n _ (hU.less t ht h7 h1 i hi)⟩) t.kids.length 0 rfl W hW hS
              · exact ⟨hS, fun i h => by cases h⟩
/-- What is put together marks nothing. -/
def Par (rec : List Stp → T → List Stp × Option Nat) (t : T) : Prop := ∀ W x, Part (rec W t).1 x ↔ Part W x
theorem part_add (W : List Stp) (t : T) (how : Nat) (frm : List Nat) (x : T) : Part (add W t how frm).1 x ↔ Part W x := by
  cases hf : find W t with
  | some i => rw [add_some hf]
  | none =>
    rw [add_none hf]
    constructor
    · rintro ⟨s, hs, h1, h2⟩
      rcases List.mem_append.1 hs with hs | hs
      · exact ⟨s, hs, h1, h2⟩
      · rw [List.mem_singleton] at hs; rw [hs] at h1; cases h1
    · rintro ⟨s, hs, h1, h2⟩
      exact ⟨s, List.mem_append_left _ hs, h1, h2⟩
theorem par_both {rec : List Stp → T → List Stp × Option Nat} {t : T} (how : Nat) (h0 : Par rec (t.kid 0)) (h1 : Par rec (t.kid 1)) : Par (fun W t => both rec W t how) t := fun W x => by
  simp only [both]
  split
  · exact h0 W x
  · split
    · exact (h1 _ x).trans (h0 W x)
    · exact (part_add _ _ _ _ x).trans ((h1 _ x).trans (h0 W x))
theorem par_pow {rec : List Stp → T → List Stp × Option Nat} {t : T} (hl : ∀ i, Par rec (t.lessOf i)) : ∀ (f i : Nat) (W : List Stp) (x : T), Part (pow rec t f i W).1 x ↔ Part W x
  | 0, _, _, _ => Iff.rfl
  | f + 1, i, W, x => by
    have ih := par_pow hl f (i + 1)
    simp only [pow]
    split
    · exact ih W x
    · split
      · exact part_add _ _ _ _ x
      · split
        · exact (ih _ x).trans (hl i W x)
        · exact (part_add _ _ _ _ x).trans (hl i W x)
theorem par_build : ∀ (n : Nat) (t : T), Par (build n) t
  | 0, _, _, _ => Iff.rfl
  | n + 1, t, W, x => by
    simp only [build]
    split
    · exact Iff.rfl
    · split
      · split
        · exact par_build n _ W x
        · exact (part_add _ _ _ _ x).trans (par_build n _ W x)
      · split
        · exact par_both 6 (par_build n _) (par_build n _) W x
        · split
          · exact par_both 8 (par_build n _) (par_build n _) W x
          · split
            · exact par_both 9 (par_build n _) (par_build n _) W x
            · split
              · exact par_pow (fun i => par_build n _) _ _ W x
              · exact Iff.rfl
theorem part_find {W : List Stp} {t : T} (h : Part W t) : ∃ i, find W t = some i := by
  obtain ⟨s, hs, _, e⟩ := h
  cases hf : find W t with
  | some i => exact ⟨i, rfl⟩
  | none => exact absurd (by rw [e]) (findK_none hf s hs)
/-- Where an exponent is known and the rest can be put together, a power is found. -/
theorem pow_full {U : List T} (hU : Uni U) {rec : List Stp → T → List Stp × Option Nat} {t : T} (h7 : t.kind = 7) (ht : t ∈ U) (hp : ∀ i, i < t.kids.length → 1 < t.kids.length → Puts U rec (t.lessOf i) ∧ Par rec (t.lessOf i))
    (hr : ∀ i, i < t.kids.length → 1 < t.kids.length → ∀ W, Inv U W → Syn (Part W) (t.lessOf i) → ∃ r, (rec W (t.lessOf i)).2 = some r) :
    ∀ (f i : Nat) (W : List Stp), f + i = t.kids.length → Inv U W → (∃ j, i ≤ j ∧ j < t.kids.length ∧ Syn (Part W) (t.kid j) ∧ (1 < t.kids.length → Syn (Part W) (t.lessOf j))) → ∃ r, (pow rec t f i W).2 = some r
  | 0, i, W, hfi, _, ⟨j, h1, h2, _⟩ => by omega
  | f + 1, i, W, hfi, hW, ⟨j, h1, h2, h3, h4⟩ => by
    have hat := h3.atom (exp_atom (Bool.and_eq_true_iff.1 (hU.ok t ht)).2 h7 h2)
    simp only [pow]
    split
    · rename_i hn
      have hne : i ≠ j := fun e => by
        subst e
        obtain ⟨r, hr⟩ := part_find hat
        rw [hr] at hn; cases hn
      exact pow_full hU h7 ht hp hr f (i + 1) W (by omega) hW ⟨j, by omega, h2, h3, h4⟩
    · split
      · exact ⟨_, rfl⟩
      · have hl : 1 < t.kids.length := by omega
        obtain ⟨p1, p2⟩ := hp i (by omega) hl
        split
        · rename_i hn
          have hne : i ≠ j := fun e => by
            subst e
            obtain ⟨r, hr⟩ := hr i h2 hl W hW (h4 hl)
            rw [hr] at hn; cases hn
          have hP := p2 W
          exact pow_full hU h7 ht hp hr f (i + 1) _ (by omega) (p1 W hW).1 ⟨j, by omega, h2, (Syn.iff hP _).2 h3, fun hl => (Syn.iff hP _).2 (h4 hl)⟩
        · exact ⟨_, rfl⟩
theorem both_full {U : List T} {rec : List Stp → T → List Stp × Option Nat} {t : T} (how : Nat) {W : List Stp} (hW : Inv U W) (p0 : Puts U rec (t.kid 0)) (q0 : Par rec (t.kid 0))
    (h0 : ∀ W, Inv U W → Syn (Part W) (t.kid 0) → ∃ r, (rec W (t.kid 0)).2 = some r) (h1 : ∀ W, Inv U W → Syn (Part W) (t.kid 1) → ∃ r, (rec W (t.kid 1)).2 = some r) (s0 : Syn (Part W) (t.kid 0)) (s1 : Syn (Part W) (t.kid 1)) : ∃ r, (both rec W t how).2 = some r := by
  obtain ⟨a, ha⟩ := h0 W hW s0
  obtain ⟨b, hb⟩ := h1 _ (p0 W hW).1 ((Syn.iff (q0 W) _).2 s1)
  simp only [both, ha, hb]
  exact ⟨_, rfl⟩
/-- What can be put together is found. -/
theorem build_full {U : List T} (hU : Uni U) : ∀ (n : Nat) (t : T), t ∈ U → t.bulk < n → ∀ W, Inv U W → Syn (Part W) t → ∃ r, (build n W t).2 = some r
  | 0, _, _, hb, _, _, _ => by omega
  | n + 1, t, ht, hb, W, hW, hS => by
    have hs := T.shapeK (Bool.and_eq_true_iff.1 (hU.ok t ht)).2
    have ihk : ∀ i, i < t.kids.length → ∀ W, Inv U W → Syn (Part W) (t.kid i) → ∃ r, (build n W (t.kid i)).2 = some r := fun i hi => build_full hU n _ (hU.kid t ht i hi) (by have := T.kid_bulk hi; omega)
    have ihp : ∀ i, i < t.kids.length → Puts U (build n) (t.kid i) := fun i hi => build_puts hU n _ (hU.kid t ht i hi)
    simp only [build]
    split
    · exact ⟨_, rfl⟩
    · rename_i hn
      have hnp : ¬ Part W t := fun h => by obtain ⟨r, hr⟩ := part_find h; rw [hr] at hn; cases hn
      cases hS with
      | base h => exact absurd h hnp
      | hash h4 h0 =>
        rw [if_pos h4]
        obtain ⟨r, hr⟩ := ihk 0 (by omega) W hW h0
        rw [hr]; exact ⟨_, rfl⟩
      | two hk h0 h1 =>
        rw [if_neg (by omega)]
        rcases hk with h | h | h
        · rw [if_pos h]; exact both_full 6 hW (ihp 0 (by omega)) (par_build n _) (ihk 0 (by omega)) (ihk 1 (by omega)) h0 h1
        · rw [if_neg (by omega), if_pos h]; exact both_full 8 hW (ihp 0 (by omega)) (par_build n _) (ihk 0 (by omega)) (ihk 1 (by omega)) h0 h1
        · rw [if_neg (by omega), if_neg (by omega), if_pos h]; exact both_full 9 hW (ihp 0 (by omega)) (par_build n _) (ihk 0 (by omega)) (ihk 1 (by omega)) h0 h1
      | raise h7 h1 h0 =>
        rw [if_neg (by omega), if_neg (by omega), if_neg (by omega), if_neg (by omega), if_pos h7]
        exact pow_full hU h7 ht (fun i hi h1 => ⟨build_puts hU n _ (hU.less t ht h7 h1 i hi), par_build n _⟩) (fun i hi h1 => build_full hU n _ (hU.less t ht h7 h1 i hi) (by have := T.less_bulk hi; omega)) t.kids.length 0 W rfl hW ⟨0, Nat.le_refl _, by omega, h0, fun h => by omega⟩
      | pow i h7 h1 hi hl hx =>
        rw [if_neg (by omega), if_neg (by omega), if_neg (by omega), if_neg (by omega), if_pos h7]
        exact pow_full hU h7 ht (fun i hi h1 => ⟨build_puts hU n _ (hU.less t ht h7 h1 i hi), par_build n _⟩) (fun i hi h1 => build_full hU n _ (hU.less t ht h7 h1 i hi) (by have := T.less_bulk hi; omega)) t.kids.length 0 W rfl hW ⟨i, Nat.zero_le _, hi, hx, fun _ => hl⟩
/-- A web puts together just what follows from the terms that were taken apart. -/
theorem bld_iff {U : List T} (hU : Uni U) {t : T} (ht : t ∈ U) {W : List Stp} (hW : Inv U W) (hS : Sound (Part W) W) : (∃ r, (bld W t).2 = some r) ↔ Syn (Part W) t :=
  ⟨fun ⟨r, hr⟩ => (build_syn hU _ _ t ht W hW hS).2 r hr, fun h => build_full hU _ t ht (Nat.lt_succ_self _) W hW h⟩
end Wb
end Go.Proofs.YtihbmgkbipeakaaGreat
