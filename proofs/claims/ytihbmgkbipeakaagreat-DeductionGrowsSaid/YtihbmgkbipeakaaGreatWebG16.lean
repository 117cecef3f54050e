/- Several texts in one: WebO, WebY, WebV. -/
import Derived.Test.YtihbmgkbipeakaaGreatWebG14
import Derived.Test.YtihbmgkbipeakaaGreatWebG15
import Derived.Test.YtihbmgkbipeakaaGreatShelfH
import Derived.Shelf.SlicesE.IndexFunc
import Derived.Shelf.SlicesQ.IndexFunc
namespace Go.Proofs.YtihbmgkbipeakaaGreat

namespace Wb
theorem Ord.nil : Ord [] := fun _ h => absurd h (Nat.not_lt_zero _)
theorem Ord.push {W : List Stp} (h : Ord W) (t : T) (how : Nat) {frm : List Nat} (p : Bool) (h2 : frm.length ≤ 2) (hf : ∀ j ∈ frm, j < W.length) : Ord (W ++ [⟨t, how, frm, p⟩]) := fun i hi => by
  by_cases hl : i < W.length
  · rw [List.getElem_append_left hl]; exact h i hl
  · have e : i = W.length := by simp at hi; omega
    subst e
    have e3 : (W ++ [(⟨t, how, frm, p⟩ : Stp)])[W.length]'hi = ⟨t, how, frm, p⟩ := by simp
    rw [e3]; exact ⟨h2, hf⟩
theorem Ord.add {W : List Stp} (h : Ord W) (t : T) (how : Nat) {frm : List Nat} (h2 : frm.length ≤ 2) (hf : ∀ j ∈ frm, j < W.length) : Ord (add W t how frm).1 := by
  cases hq : find W t with
  | some i => rw [add_some hq]; exact h
  | none => rw [add_none hq]; exact h.push t how false h2 hf
theorem Ord.mark {W : List Stp} (h : Ord W) (i : Nat) : Ord (mark W i) := fun j hj => by
  have h3 : j < W.length := by rwa [mark_len] at hj
  obtain ⟨_, _, e, _⟩ := mark_t W i j hj h3
  rw [e]; exact h j h3
theorem Ord.take {W : List Stp} (h : Ord W) (t : T) (how : Nat) {frm : List Nat} (h2 : frm.length ≤ 2) (hf : ∀ j ∈ frm, j < W.length) : Ord (take W t how frm).1 := by
  unfold Wb.take
  split
  · exact h.add t how h2 hf
  · exact (h.add t how h2 hf).mark _
def PutsO (U : List T) (rec : List Stp → T → List Stp × Option Nat) (t : T) : Prop := ∀ W, Inv U W → Ord W → Ord (rec W t).1
theorem both_ord {U : List T} {rec : List Stp → T → List Stp × Option Nat} {t : T} (how : Nat) (h0 : Puts U rec (t.kid 0)) (h1 : Puts U rec (t.kid 1)) (o0 : PutsO U rec (t.kid 0)) (o1 : PutsO U rec (t.kid 1)) : PutsO U (fun W t => both rec W t how) t := fun W hW hO => by
  obtain ⟨a1, a2, a3⟩ := h0 W hW
  have b0 := o0 W hW hO
  obtain ⟨c1, c2, c3⟩ := h1 _ a1
  have b1 := o1 _ a1 b0
  cases ha : (rec W (t.kid 0)).2 with
  | none => simp only [both, ha]; exact b0
  | some a =>
    cases hb : (rec (rec W (t.kid 0)).1 (t.kid 1)).2 with
    | none => simp only [both, ha, hb]; exact b1
    | some b =>
      simp only [both, ha, hb]
      refine b1.add t how (Nat.le_refl _) fun j hj => ?_
      have h3 := a3 a ha; have h4 := c3 b hb; have h5 := c2.length_le
      simp only [List.mem_cons, List.not_mem_nil, or_false] at hj
      rcases hj with rfl | rfl
      · exact Nat.lt_of_lt_of_le h3 h5
      · exact h4
theorem pow_ord {U : List T} {rec : List Stp → T → List Stp × Option Nat} {t : T} (hl : ∀ i, i < t.kids.length → 1 < t.kids.length → Puts U rec (t.lessOf i) ∧ PutsO U rec (t.lessOf i)) :
    ∀ (f i : Nat), f + i = t.kids.length → PutsO U (fun W _ => pow rec t f i W) t
  | 0, i, _, W, _, hO => hO
  | f + 1, i, hfi, W, hW, hO => by
    have ih := pow_ord hl f (i + 1) (by omega)
    simp only [pow]
    split
    · exact ih W hW hO
    · rename_i nm hnm
      have hn := findK_lt (W := W) (k := (t.kid i).key) hnm
      split
      · exact hO.add t 11 (by simp) (fun j hj => by simp at hj; omega)
      · rename_i h1
        obtain ⟨p1, p2⟩ := hl i (by omega) (by omega)
        obtain ⟨a1, a2, a3⟩ := p1 W hW
        have b1 := p2 W hW hO
        split
        · exact ih _ a1 b1
        · rename_i p hp
          refine b1.add t 10 (Nat.le_refl _) fun j hj => ?_
          have h3 := a3 p hp; have h5 := a2.length_le
          simp only [List.mem_cons, List.not_mem_nil, or_false] at hj
          rcases hj with rfl | rfl
          · exact h3
          · exact Nat.lt_of_lt_of_le hn h5
theorem build_ord {U : List T} (hU : Uni U) : ∀ (n : Nat) (t : T), t ∈ U → PutsO U (build n) t
  | 0, t, _, W, _, hO => hO
  | n + 1, t, ht, W, hW, hO => by
    have hs := T.shapeK (Bool.and_eq_true_iff.1 (hU.ok t ht)).2
    have ihk : ∀ i, i < t.kids.length → PutsO U (build n) (t.kid i) := fun i hi => build_ord hU n _ (hU.kid t ht i hi)
    have ihp : ∀ i, i < t.kids.length → Puts U (build n) (t.kid i) := fun i hi => build_puts hU n _ (hU.kid t ht i hi)
    simp only [build]
    split
    · exact hO
    · split
      · rename_i h4
        have a1 := ihk 0 (by omega) W hW hO
        obtain ⟨_, _, a3⟩ := ihp 0 (by omega) W hW
        split
        · exact a1
        · rename_i m hm
          exact a1.add t 7 (by simp) (fun j hj => by have := a3 m hm; simp at hj; omega)
      · split
        · exact both_ord 6 (ihp 0 (by omega)) (ihp 1 (by omega)) (ihk 0 (by omega)) (ihk 1 (by omega)) W hW hO
        · split
          · exact both_ord 8 (ihp 0 (by omega)) (ihp 1 (by omega)) (ihk 0 (by omega)) (ihk 1 (by omega)) W hW hO
          · split
            · exact both_ord 9 (ihp 0 (by omega)) (ihp 1 (by omega)) (ihk 0 (by omega)) (ihk 1 (by omega)) W hW hO
            · split
              · rename_i h7
                exact pow_ord (fun i hi h1 => ⟨build_puts hU n _ (hU.less t ht h7 h1 i hi), build_ord hU n _ (hU.less t ht h7 h1 i hi)⟩) t.kids.length 0 rfl W hW hO
              · exact hO
theorem apart_ord {U : List T} (hU : Uni U) {W : List Stp} (hW : Inv U W) (hO : Ord W) {i : Nat} (hi : i < W.length) : Ord (apart W i).1 := by
  have hm : W[i].t ∈ U := hW.mem _ (List.getElem_mem hi)
  have hs := T.shapeK (Bool.and_eq_true_iff.1 (hU.ok _ hm)).2
  have h1 : ([i] : List Nat).length ≤ 2 := by simp
  unfold apart
  rw [term_at hi]
  generalize W[i].t = t at hm hs ⊢
  dsimp only
  split
  · have hf : ∀ j ∈ [i], j < W.length := fun j hj => by simp at hj; omega
    have hl := take_len W (t.kid 0) 2 [i]
    exact (hO.take _ 2 h1 hf).take _ 3 h1 (fun j hj => Nat.lt_of_lt_of_le (hf j hj) hl)
  · split
    · exact hO.take _ 5 h1 (fun j hj => by simp at hj; omega)
    · split
      · split
        · exact hO
        · obtain ⟨b1, b2, b3⟩ := bld_inv hU (hU.kid t hm 0 (by omega)) hW
          have b4 : Ord (bld W (t.kid 0)).1 := build_ord hU _ _ (hU.kid t hm 0 (by omega)) W hW hO
          split
          · exact b4
          · rename_i k hk
            refine b4.take _ 4 (Nat.le_refl _) fun j hj => ?_
            have h5 := b2.length_le; have h6 := b3 k hk
            simp only [List.mem_cons, List.not_mem_nil, or_false] at hj
            rcases hj with rfl | rfl
            · omega
            · exact h6
      · exact hO
theorem rnd_ord {U : List T} (hU : Uni U) : ∀ (f i : Nat) (m : Bool) (W : List Stp), Inv U W → Ord W → Ord (rnd f i m W).1
  | 0, _, _, _, _, hO => hO
  | f + 1, i, m, W, hW, hO => by
    simp only [rnd]
    split
    · rename_i hi
      split
      · exact rnd_ord hU f (i + 1) _ _ (apart_inv hU hW hi).1 (apart_ord hU hW hO hi)
      · exact rnd_ord hU f (i + 1) m W hW hO
    · exact hO
theorem run_ord {U : List T} (hU : Uni U) (N : Nat) : ∀ (f : Nat) (W : List Stp), Inv U W → Ord W → Ord (run N f W)
  | 0, _, _, hO => hO
  | f + 1, W, hW, hO => by
    have a1 := (rnd_facts hU ⟨#[]⟩ N 0 false W hW).1
    have a2 := rnd_ord hU N 0 false W hW hO
    simp only [run]
    split
    · exact run_ord hU N f _ a1 a2
    · exact a2
theorem start_ord : ∀ (ts : List T) (W : List Stp), Ord W → Ord (ts.foldl (fun W t => (take W t 1 []).1) W)
  | [], _, hO => hO
  | t :: r, W, hO => start_ord r _ (hO.take t 1 (by simp) (fun j hj => by cases hj))
theorem fill_ord {U K : List T} (hU : Uni U) (hK : ∀ t ∈ K, t ∈ U) (N : Nat) : Ord (fill N K) := by
  have h := start_inv hK K.length
  rw [List.take_of_length_le (Nat.le_refl _)] at h
  exact run_ord hU N (N + 1) _ h (start_ord K [] Ord.nil)
theorem bld_ord {U : List T} (hU : Uni U) {t : T} (ht : t ∈ U) {W : List Stp} (hW : Inv U W) (hO : Ord W) : Ord (bld W t).1 := build_ord hU _ t ht W hW hO
end Wb
end Go.Proofs.YtihbmgkbipeakaaGreat

namespace Go.Proofs.YtihbmgkbipeakaaGreat
open Go.RowKit Go.Maps

theorem IntsIn.all {S : Nat → Bool} {w : World} {A : Option Addr} {ns : List Int} (h : IntsIn S w A ns) : IntsIn (fun _ => true) w A ns := h.keep fun _ _ _ => ⟨rfl, rfl⟩
/-- A deduction that can be read. -/
def DedAt (w : World) (A : Option Addr) (L : List Rsn) : Prop := L.length = 0 ∨ ∃ b off, A = some ⟨b, off, none⟩ ∧ ∀ i (h : i < L.length), ∃ A' c' F fc, w.cell? ⟨b, off + i * 5, none⟩ = some (.int .i64 L[i].t.kind) ∧ w.cell? ⟨b, off + i * 5 + 1, none⟩ = some (.string L[i].t.name) ∧
  w.cell? ⟨b, off + i * 5 + 2, none⟩ = some (.slice A' L[i].t.kids.length c') ∧ w.cell? ⟨b, off + i * 5 + 3, none⟩ = some (.int .i64 L[i].how) ∧ w.cell? ⟨b, off + i * 5 + 4, none⟩ = some (.slice F L[i].frm.length fc) ∧
  TermAt w (.agg #[.int .i64 L[i].t.kind, .string L[i].t.name, .slice A' L[i].t.kids.length c']) L[i].t ∧ IntsIn (fun _ => true) w F L[i].frm
theorem DedAt.later {w w' : World} {A : Option Addr} {L : List Rsn} (h : DedAt w A L) (hb : Below w.heap.size w w') : DedAt w' A L := by
  rcases h with h | ⟨b, off, e, h⟩
  · exact .inl h
  · refine .inr ⟨b, off, e, fun i hi => ?_⟩
    obtain ⟨A', c', F, fc, c0, c1, c2, c3, c4, ht, hf⟩ := h i hi
    exact ⟨A', c', F, fc, cell_later hb c0, cell_later hb c1, cell_later hb c2, cell_later hb c3, cell_later hb c4, ht.later hb, hf.keep fun b _ hl => ⟨rfl, hb.block b hl⟩⟩
theorem OutAt.ded {H M : Nat} {X : Nat → Bool} {w : World} {ov : Value} {out : List Rsn} (h : OutAt H X M w ov out) : ∃ A c, ov = .slice A out.length c ∧ DedAt w A out := by
  obtain ⟨css, h1, h2⟩ := h
  rcases Nat.eq_zero_or_pos out.length with h0 | h0
  · obtain ⟨A, c, e⟩ := own_shape h2
    exact ⟨A, c, e, .inl h0⟩
  · obtain ⟨gb, cp, e, _⟩ := h2.form h0
    subst e
    refine ⟨_, cp, rfl, .inr ⟨gb, 0, rfl, fun i hi => ?_⟩⟩
    have hi' : i < css.length := by rw [h1.1]; exact hi
    obtain ⟨A, cap, F, fc, e, ht, hf⟩ := h1.2 i hi' hi
    have hlen : ∀ cs ∈ css, cs.length = 5 := fun cs hc => by
      obtain ⟨j, hj, rfl⟩ := List.getElem_of_mem hc
      exact (h1.2 j hj (by rw [← h1.1]; exact hj)).len
    have hc : ∀ r, r < 5 → w.cell? ⟨gb, 0 + i * 5 + r, none⟩ = (css[i])[r]? := fun r hr => by
      rw [Nat.zero_add, h2.cellAt (i * 5 + r) (by omega)]
      exact flat_at css hlen i hi' r hr
    rw [e] at hc
    exact ⟨A, cap, F, fc, hc 0 (by omega), hc 1 (by omega), hc 2 (by omega), hc 3 (by omega), hc 4 (by omega), ht.at, hf.all⟩
/-- The deduction of a term, if there is one. -/
def derV (W : List Stp) (t : T) : Option (List Rsn) := if t.use = true then (Wb.bld W t).2.map fun i => (Wb.nd (i + 1) (Wb.bld W t).1 [] [] i).1.1 else none
def DerTo (w : World) (r : Option (List Rsn)) (e : Ending) (w' : World) : Prop := Below w.heap.size w w' ∧ match r with
  | none => e = .returned (.tuple #[.slice none 0 0, .bool false])
  | some L => ∃ A c, e = .returned (.tuple #[.slice A L.length c, .bool true]) ∧ DedAt w' A L
theorem der_f {W : List Stp} {t : T} (h : t.use = false) : derV W t = none := by unfold derV; rw [h]; rfl
theorem der_n {W : List Stp} {t : T} (h : (Wb.bld W t).2 = none) : derV W t = none := by unfold derV; rw [h]; split <;> rfl
theorem der_s {W : List Stp} {t : T} {i : Nat} (hu : t.use = true) (h : (Wb.bld W t).2 = some i) : derV W t = some (Wb.nd (i + 1) (Wb.bld W t).1 [] [] i).1.1 := by unfold derV; rw [if_pos hu, h]; rfl

set_option maxRecDepth 100000 in
set_option maxHeartbeats 4000000 in
theorem oderive {U : List T} (hU : Uni U) (hbU : ∀ t ∈ U, t.bulk ≤ 1048576) (L : List T) (A : Option Addr) (cap : Nat) (t : T) (v : Value) (w : World) (h : KnownAt w A cap L) (hb : ∀ t ∈ L, t.bulk ≤ 1048576) (hK : ∀ t ∈ cnt L, t ∈ U) (hT : TermAt w v t) (hbk : t.bulk ≤ 1048576) (ht : t.use = true → t ∈ U) :
    Calls Tryz.prog 21 #[.slice A L.length cap, v] w (DerTo w (derV (Wb.fill U.length (cnt L)) t)) := by
  have hv : ∃ A0 cap0, v = .agg #[.int .i64 t.kind, .string t.name, .slice A0 t.kids.length cap0] := by obtain ⟨A0, cap0, _, e, _⟩ := TermAt.inv hT; exact ⟨A0, cap0, e⟩
  obtain ⟨A0, cap0, rfl⟩ := hv
  have hw := below_alloc1 w (.cells #[.int .i64 t.kind, .string t.name, .slice A0 t.kids.length cap0] 29)
  have bx := Box.new w (.int .i64 t.kind) (.string t.name) (.slice A0 t.kids.length cap0)
  have HFI := Lib.hid (fun W' (hW' : KnownAt W' A cap L) => ofill hU hbU L A cap W' hW' hb hK)
  have HI := Lib.hid (fill_inv hU hK U.length); have HO := Lib.hid (Wb.fill_ord hU hK U.length)
  have HKN := Lib.hid (h.later hw); have HT := Lib.hid (hT.later hw); have HB1 := Lib.hid hw
  have HUS := Lib.hid (fun v' W' hW => ousable t v' W' hW hbk); have HCP := Lib.hid (fun v' W' hW => ocopy (t.bulk + 1) t v' W' (by omega) hW hbk)
  generalize Wb.fill U.length (cnt L) = W at HFI HI HO ⊢
  obtain ⟨R, hR⟩ : ∃ R, derV W t = R := ⟨_, rfl⟩
  have hdf := der_f (W := W) (t := t); have hdn := der_n (W := W) (t := t); have hds := fun i => der_s (W := W) (t := t) (i := i)
  rw [hR] at hdf hdn hds ⊢
  have HDF := Lib.hid hdf; have HDN := Lib.hid hdn; have HDS := Lib.hid hds
  have HBU := Lib.hid (fun B g M vs vp v' W' (hu : t.use = true) hW hT' => obuild (B := B) hU hbU (t.bulk + 1) t (by omega) (ht hu) v' W' g M vs vp W HI.out hW hT')
  have HIB := Lib.hid (fun (hu : t.use = true) => (show Inv U (Wb.bld W t).1 ∧ Wb.Ord (Wb.bld W t).1 ∧ ∀ i, (Wb.bld W t).2 = some i → i < (Wb.bld W t).1.length from ⟨(Wb.bld_inv hU (ht hu) HI.out).1, Wb.bld_ord hU (ht hu) HI.out HO.out, (Wb.bld_inv hU (ht hu) HI.out).2.2⟩))
  clear h hb hK hT hw hbk ht hdf hdn hds hR
  obtain ⟨k, hk⟩ : ∃ k, t.kind = k := ⟨_, rfl⟩
  obtain ⟨nm, hnm⟩ : ∃ nm, t.name = nm := ⟨_, rfl⟩
  obtain ⟨kn, hkn⟩ : ∃ kn, t.kids.length = kn := ⟨_, rfl⟩
  rw [hk, hnm, hkn] at bx HKN HT HB1 ⊢
  have HV := Lib.hid (show t.kind = k ∧ t.name = nm ∧ t.kids.length = kn from ⟨hk, hnm, hkn⟩)
  clear hk hnm hkn
  go_enter Tryz.func21, Tryz.ntmps21
  go_upto_region 1 with fail
  generalize w.alloc (.cells #[.int .i64 k, .string nm, .slice A0 kn cap0] 29) = w1 at bx HKN HT HB1 ⊢
  obtain ⟨x0, x1, x2⟩ := bx.cells
  have BX := Lib.hid bx
  clear bx
  go_wp2_with fail
  refine (HUS.out _ _ HT.out).mono ?_; rintro e w2 ⟨rfl, hb2⟩
  have HB2 := Lib.hid (HB1.out.trans (hb2.mono HB1.out.size)); have HT2 := Lib.hid (HT.out.later hb2); have BX2 := Lib.hid (BX.out.later hb2); have HK2 := Lib.hid (HKN.out.later hb2)
  clear hb2 x0 x1 x2
  cases hu : t.use with
  | false =>
    have HE := Lib.hid (HDF.out hu)
    clear hu
    go_wp2_with fail
    go_ret2
    rw [HE.out]
    exact ⟨HB2.out, rfl⟩
  | true =>
    have HBUU := Lib.hid (fun B g M vs vp v' W' => HBU.out B g M vs vp v' W' hu); have HIBU := Lib.hid (HIB.out hu); have HDSU := Lib.hid (fun i => HDS.out i hu)
    clear hu
    go_wp2_with fail
    refine (HFI.out _ HK2.out).mono ?_; rintro e w3 ⟨g, M, vs, vp, rfl, hw3, hb3⟩
    have HW3 := Lib.hid hw3; have HT3 := Lib.hid (HT2.out.later hb3); have HB3 := Lib.hid (HB2.out.trans (hb3.mono HB2.out.size))
    obtain ⟨y0, y1, y2⟩ := (BX2.out.later hb3).cells
    have HLE := Lib.hid HB2.out.size
    clear hw3 hb3
    go_wp2_with fail
    refine (HCP.out _ _ HT3.out).mono ?_; rintro e w4 ⟨A4, C4, rfl, hti, hb4⟩
    have HW4 := Lib.hid (HW3.out.later hb4); have HB4 := Lib.hid (HB3.out.trans (hb4.mono HB3.out.size))
    have hti4 : TermIn (nr g M vs vp) w4 _ t := hti.keep (S' := nr g M vs vp) (fun b hb hl => ⟨nr_new HW3.out (of_decide_eq_true hb), rfl⟩)
    have hbl := HBUU.out _ g M vs vp _ w4 HW4.out hti4
    change Calls _ _ _ _ (BTo _ g M _ vs vp (Wb.bld W t)) at hbl
    generalize Wb.bld W t = q at hbl HIBU HDSU HDN
    have HBLQ := Lib.hid hbl
    clear hti hb4 hti4 hbl y0 y1 y2
    go_wp2_with fail
    refine HBLQ.out.mono ?_; rintro e w5 ⟨he, vs5, vp5, hw5, hf5⟩
    have HW5 := Lib.hid hw5; have HB5 := Lib.hid (HB4.out.trans (hf5.below.mono HLE.out))
    clear hw5 hf5
    cases hq : q.2 with
    | none =>
      have he2 : e = .returned (.int .i64 (-1)) := by rw [he, hq]; rfl
      clear he; subst he2
      have HE := Lib.hid (HDN.out hq)
      clear hq
      go_wp2_with fail
      go_ret2
      rw [HE.out]
      exact ⟨HB5.out, rfl⟩
    | some p =>
      have he2 : e = .returned (.int .i64 (p : Int)) := by rw [he, hq]; rfl
      clear he; subst he2
      have hneg : ¬ ((p : Int) < 0) := by omega
      have HE := Lib.hid (HDSU.out p hq)
      have HPL := Lib.hid (HIBU.out.2.2 p hq)
      clear hq
      have hb6 := below_alloc1 w5 (.map #[] 0)
      have hmk : Sem.run Tryz.prog (Instr.makeMap 89 none) w5 = .ok (.map (some w5.heap.size)) (w5.alloc (.map #[] 0)) := rfl
      have HND := Lib.hid (oneeded HW5.out HIBU.out.2.1 (fun s hs => hbU _ (HIBU.out.1.mem s hs)) (p + 1) p (Nat.lt_succ_self _) HPL.out (w5.alloc (.map #[] 0)) (.slice none 0 0) w5.heap.size [] [] (fun _ => false) hb6 (fun b e => by cases e) (Wb.NdI.nil _)
        ⟨[], ⟨rfl, fun i h => absurd h (Nat.not_lt_zero _)⟩, own_nil _ _ _ _⟩ ⟨Nat.le_refl _, .map [], 0, World.ownsMap_made w5 Tryz.prog 3 _, Nat.le_refl _, fun i => ⟨rfl, fun k h => by cases h⟩⟩)
      have HB6 := Lib.hid (HB5.out.trans (hb6.mono HB5.out.size))
      have HLE6 := Lib.hid HB5.out.size
      clear hb6
      go_wp2_with fail
      refine HND.out.mono ?_; rintro e w7 ⟨ov', rfl, ho, _, hb7, _⟩
      obtain ⟨A7, c7, rfl, hd⟩ := ho.ded
      have HD := Lib.hid hd; have HB7 := Lib.hid (HB6.out.trans (hb7.mono HLE6.out))
      clear ho hd hb7 hmk
      go_wp2_with fail
      go_ret2
      rw [HE.out]
      exact ⟨HB7.out, A7, c7, rfl, HD.out⟩
end Go.Proofs.YtihbmgkbipeakaaGreat

namespace Go.Proofs.YtihbmgkbipeakaaGreat
open Go.RowKit

def sameB (t t' : T) : Bool := decide (t.cmp t' = 0)
set_option maxRecDepth 100000 in
set_option maxHeartbeats 4000000 in
theorem osame (t t' : T) (v v' : Value) (w : World) (ht : TermAt w v t) (ht' : TermAt w v' t') (hb : t.bulk ≤ 1048576) (hb' : t'.bulk ≤ 1048576) :
    Calls Tryz.prog 86 #[v, v'] w fun e w' => e = .returned (.bool (sameB t t')) ∧ Below w.heap.size w w' := by
  unfold sameB
  cases ht with
  | mk k s A cap ks U h1 h2 h3 h4 hA hU =>
  cases ht' with
  | mk k' s' A' cap' ks' U' h1' h2' h3' h4' hA' hU' =>
    have hc := fun W hW hW' => ocmp ((T.mk k s ks).bulk + 1) (.mk k s ks) (.mk k' s' ks') (.agg #[.int .i64 k, .string s, .slice A ks.length cap]) (.agg #[.int .i64 k', .string s', .slice A' ks'.length cap']) W (by omega) hW hW' hb hb'
    have ht := TermAt.mk k s A cap ks U h1 h2 h3 h4 hA hU
    have ht' := TermAt.mk k' s' A' cap' ks' U' h1' h2' h3' h4' hA' hU'
    have HC := Lib.hid hc; have HT := Lib.hid ht; have HT' := Lib.hid ht'
    obtain ⟨c, hcv⟩ : ∃ c, (T.mk k s ks).cmp (.mk k' s' ks') = c := ⟨_, rfl⟩
    have HCV := Lib.hid hcv
    clear hc ht ht' hA hA' hU hU' hcv
    go_enter Tryz.func86, Tryz.ntmps86
    go_wp2_with fail
    have hb1 := (boxed_two w (.int .i64 k) (.string s) (.slice A ks.length cap) (.int .i64 k') (.string s') (.slice A' ks'.length cap') 29).2.2
    refine (HC.out _ (HT.out.later hb1) (HT'.out.later hb1)).mono ?_; rintro e w2 ⟨rfl, hb4⟩
    replace hb4 := hb1.trans (hb4.mono hb1.size)
    rw [HCV.out]
    go_wp2_with fail
    go_ret
    exact ⟨ret_bool (by rw [HCV.out, Bool.eq_iff_iff, beq_iff_eq, decide_eq_true_eq]), hb4⟩

/-- Is a number none of the places ahead of i. -/
def offB (i : Nat) (x : Int) : Bool := decide (x < 0) || decide ((i : Int) ≤ x)
set_option maxRecDepth 100000 in
theorem off_gives (i bi : Nat) (w : World) (hc : w.cell? ⟨bi, 0, none⟩ = some (.int .i64 (i : Int))) : PredAt Tryz.prog 83 #[.pointer (some ⟨bi, 0, none⟩)] (Value.int .i64) (offB i) w := fun W x hb => by
  have hl := World.block_lt_of_cell? w _ hc
  have hcW := cell_later hb hc
  show Calls Tryz.prog 83 #[.int .i64 x, .pointer (some ⟨bi, 0, none⟩)] W _
  by_cases h : x < 0
  · have hB : offB i x = true := by unfold offB; rw [decide_eq_true h]; rfl
    rw [hB]
    clear hb hl hB hc
    go_enter Tryz.func83, Tryz.ntmps83
    go_wp2_with fail
    go_ret
    exact ⟨rfl, 0, rfl⟩
  · have hB : offB i x = decide ((i : Int) ≤ x) := by unfold offB; rw [decide_eq_false h]; rfl
    rw [hB]
    clear hb hl hB hc
    go_enter Tryz.func83, Tryz.ntmps83
    go_wp2_with fail
    go_ret
    exact ⟨rfl, 0, rfl⟩
theorem oints {F : Option Addr} {fc bi i : Nat} {ns : List Int} (w : World) (hF : IntsIn (fun _ => true) w F ns) (hc : w.cell? ⟨bi, 0, none⟩ = some (.int .i64 (i : Int))) (hl : ns.length ≤ 1048576) :
    Calls Tryz.prog 82 #[.slice F ns.length fc, .func (.func 83) #[] #[.pointer (some ⟨bi, 0, none⟩)]] w fun e w' => e = .returned (.bool (ns.any (offB i))) ∧ Below w.heap.size w w' := by
  rcases hF with h0 | ⟨b, off, rfl, _, hcell⟩
  · have hn : ns = [] := List.eq_nil_of_length_eq_zero h0
    subst hn
    have h := AnyE.slices_ContainsFunc_empty (P := Tryz.prog) Tryz.layCi F fc (.func (.func 83) #[] #[.pointer (some ⟨bi, 0, none⟩)]) w
    change Calls Tryz.prog 82 _ _ _ at h
    refine h.mono ?_
    rintro e w' ⟨rfl, rfl⟩
    exact ⟨rfl, Below.refl _ _⟩
  · have eg : ∀ args w, (callFunc 83 args).run Tryz.prog w = .ok (.enter 83 args) w := enters_of Tryz.func83 (by kernel_rfl) rfl
    have h := AnyE.slices_ContainsFunc (P := Tryz.prog) Tryz.layCi (Value.int .i64) (offB i) 83 #[.pointer (some ⟨bi, 0, none⟩)] eg b off ns.length fc ns w (off_gives i bi w hc) (Nat.le_refl _) (by omega) (fun j hj => by rw [getElem!_pos ns j hj]; exact hcell j hj)
    change Calls Tryz.prog 82 _ _ _ at h
    refine h.mono ?_
    rintro e w' ⟨rfl, q, rfl⟩
    rw [List.take_length]
    exact ⟨rfl, below_drewN (Below.refl _ _) q⟩
/-- A term and its cells. -/
def TCell (w : World) : Type := { x : (Int × ByteArray × Option Addr × Nat × Nat) × T // TermAt w (.agg #[.int .i64 x.1.1, .string x.1.2.1, .slice x.1.2.2.1 x.1.2.2.2.1 x.1.2.2.2.2]) x.2 ∧ x.2.bulk ≤ 1048576 }
instance (w : World) : Inhabited (TCell w) := ⟨⟨((0, ⟨#[]⟩, none, 0, 0), .mk 0 ⟨#[]⟩ []), TermAt.mk 0 ⟨#[]⟩ none 0 [] (fun _ => (undef, undef, undef)) (by decide) (by decide) (Nat.le_refl _) (Nat.zero_le _) (.inl rfl) (fun i h => by simp at h), by decide⟩⟩
def TCell.enc {w : World} (x : TCell w) : List Value := [.int .i64 x.1.1.1, .string x.1.1.2.1, .slice x.1.1.2.2.1 x.1.1.2.2.2.1 x.1.1.2.2.2.2]
set_option maxRecDepth 100000 in
theorem same_gives (s : T) (bs : Nat) (A : Option Addr) (c : Nat) (w : World) (c0 : w.cell? ⟨bs, 0, none⟩ = some (.int .i64 s.kind)) (c1 : w.cell? ⟨bs, 1, none⟩ = some (.string s.name)) (c2 : w.cell? ⟨bs, 2, none⟩ = some (.slice A s.kids.length c))
    (hs : TermAt w (.agg #[.int .i64 s.kind, .string s.name, .slice A s.kids.length c]) s) (hb : s.bulk ≤ 1048576) : PredBelow Tryz.prog 85 #[.pointer (some ⟨bs, 0, none⟩)] (fun x : TCell w => .agg x.enc.toArray) (fun x => sameB x.1.2 s) w := fun W x hB => by
  obtain ⟨⟨⟨k, nm, Ax, nx, cx⟩, t⟩, ht, htb⟩ := x
  show Calls Tryz.prog 85 #[.agg #[.int .i64 k, .string nm, .slice Ax nx cx], .pointer (some ⟨bs, 0, none⟩)] W fun e w' => e = .returned (.bool (sameB t s)) ∧ Below w.heap.size w w'
  have ht' : TermAt W (.agg #[.int .i64 k, .string nm, .slice Ax nx cx]) t := TermAt.later ht hB
  have hw := below_alloc1 W (.cells #[.int .i64 k, .string nm, .slice Ax nx cx] 29)
  have bx := Box.new W (.int .i64 k) (.string nm) (.slice Ax nx cx)
  have hbw := hB.trans (hw.mono hB.size)
  have HS := Lib.hid (fun W' (h1 : TermAt W' (.agg #[.int .i64 k, .string nm, .slice Ax nx cx]) t) h2 => osame t s _ (.agg #[.int .i64 s.kind, .string s.name, .slice A s.kids.length c]) W' h1 h2 htb hb)
  have HT := Lib.hid (ht'.later hw); have HSS := Lib.hid (hs.later hbw); have HB := Lib.hid hbw
  have d0 := cell_later hbw c0; have d1 := cell_later hbw c1; have d2 := cell_later hbw c2
  clear ht ht' hw hbw c0 c1 c2 hs hB
  generalize sameB t s = R at HS ⊢
  go_enter Tryz.func85, Tryz.ntmps85
  go_upto_region 1 with fail
  generalize W.alloc (.cells #[.int .i64 k, .string nm, .slice Ax nx cx] 29) = w1 at bx HT HSS HB d0 d1 d2 ⊢
  obtain ⟨x0, x1, x2⟩ := bx.cells
  clear bx
  go_wp2_with fail
  refine (HS.out _ HT.out HSS.out).mono ?_; rintro e w2 ⟨rfl, hb2⟩
  have HB2 := Lib.hid (HB.out.trans (hb2.mono HB.out.size))
  clear hb2 x0 x1 x2 d0 d1 d2
  go_wp2_with fail
  go_ret
  exact ⟨rfl, HB2.out⟩
end Go.Proofs.YtihbmgkbipeakaaGreat
