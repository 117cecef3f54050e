/- Several texts in one: WebN, WebG, WebH. -/
import Derived.Test.YtihbmgkbipeakaaGreatWebG12
import Derived.Test.YtihbmgkbipeakaaGreatWebG10
import Derived.Test.YtihbmgkbipeakaaGreatWebG6
import Derived.Deep.LoopGhost
namespace Go.Proofs.YtihbmgkbipeakaaGreat

namespace Wb
/-- How many steps were found by taking apart. -/
def np (W : List Stp) : Nat := W.countP fun s => s.part
theorem np_le (W : List Stp) : np W ≤ W.length := List.countP_le_length
theorem np_push (W : List Stp) (t : T) (how : Nat) (frm : List Nat) : np (W ++ [⟨t, how, frm, false⟩]) = np W := by
  unfold np; rw [List.countP_append]; simp
theorem np_add (W : List Stp) (t : T) (how : Nat) (frm : List Nat) : np (add W t how frm).1 = np W := by
  cases hf : find W t with
  | some i => rw [add_some hf]
  | none => rw [add_none hf]; exact np_push W t how frm
theorem np_mark : ∀ (W : List Stp) (i : Nat) (h : i < W.length), W[i].part = false → np (mark W i) = np W + 1
  | [], i, h, _ => absurd h (Nat.not_lt_zero _)
  | a :: r, 0, _, hp => by
    have hp' : a.part = false := hp
    unfold mark np
    rw [List.modify_zero_cons, List.countP_cons, List.countP_cons, hp']
    simp
  | a :: r, i + 1, h, hp => by
    have ih := np_mark r i (by simpa using h) hp
    unfold mark np at ih ⊢
    rw [List.modify_succ_cons, List.countP_cons, List.countP_cons, ih]; omega
theorem part_at {W : List Stp} {i : Nat} (h : i < W.length) : partAt W i = W[i].part := by unfold partAt; rw [List.getElem?_eq_getElem h]; rfl
theorem np_take (W : List Stp) (t : T) (how : Nat) (frm : List Nat) : np (take W t how frm).1 = np W + if (take W t how frm).2 = true then 1 else 0 := by
  have hp := add_pre W t how frm
  have hn := np_add W t how frm
  unfold take
  split
  · simp [hn]
  · rename_i h
    have h2 := part_at hp.2
    rw [Bool.not_eq_true, h2] at h
    rw [if_pos rfl]
    show np (mark _ _) = _
    rw [np_mark _ _ hp.2 h, hn]
/-- What is put together marks nothing. -/
def Nop (rec : List Stp → T → List Stp × Option Nat) (t : T) : Prop := ∀ W, np (rec W t).1 = np W
theorem np_both {rec : List Stp → T → List Stp × Option Nat} {t : T} (how : Nat) (h0 : Nop rec (t.kid 0)) (h1 : Nop rec (t.kid 1)) : Nop (fun W t => both rec W t how) t := fun W => by
  simp only [both]
  split
  · exact h0 W
  · split
    · exact (h1 _).trans (h0 W)
    · exact (np_add _ _ _ _).trans ((h1 _).trans (h0 W))
theorem np_pow {rec : List Stp → T → List Stp × Option Nat} {t : T} (hl : ∀ i, Nop rec (t.lessOf i)) : ∀ (f i : Nat) (W : List Stp), np (pow rec t f i W).1 = np W
  | 0, _, _ => rfl
  | f + 1, i, W => by
    have ih := np_pow hl f (i + 1)
    simp only [pow]
    split
    · exact ih W
    · split
      · exact np_add _ _ _ _
      · split
        · exact (ih _).trans (hl i W)
        · exact (np_add _ _ _ _).trans (hl i W)
theorem np_build : ∀ (n : Nat) (t : T), Nop (build n) t
  | 0, _, _ => rfl
  | n + 1, t, W => by
    simp only [build]
    split
    · rfl
    · split
      · split
        · exact np_build n _ W
        · exact (np_add _ _ _ _).trans (np_build n _ W)
      · split
        · exact np_both 6 (np_build n _) (np_build n _) W
        · split
          · exact np_both 8 (np_build n _) (np_build n _) W
          · split
            · exact np_both 9 (np_build n _) (np_build n _) W
            · split
              · exact np_pow (fun i => np_build n _) _ _ W
              · rfl
theorem np_apart (W : List Stp) (i : Nat) : np W + (if (apart W i).2 = true then 1 else 0) ≤ np (apart W i).1 := by
  unfold apart
  dsimp only
  split
  · have h1 := np_take W ((termAt W i).kid 0) 2 [i]
    have h2 := np_take (take W ((termAt W i).kid 0) 2 [i]).1 ((termAt W i).kid 1) 3 [i]
    dsimp only
    rw [h2, h1]
    cases (take W ((termAt W i).kid 0) 2 [i]).2 <;> cases (take (take W ((termAt W i).kid 0) 2 [i]).1 ((termAt W i).kid 1) 3 [i]).2 <;> simp
  · split
    · rw [np_take]; exact Nat.le_refl _
    · split
      · split
        · simp
        · split
          · have := np_build (((termAt W i).kid 0).bulk + 1) ((termAt W i).kid 0) W
            unfold bld
            simp [this]
          · rw [np_take]
            have := np_build (((termAt W i).kid 0).bulk + 1) ((termAt W i).kid 0) W
            unfold bld
            rw [this]; exact Nat.le_refl _
      · simp
theorem np_rnd : ∀ (f i : Nat) (m : Bool) (W : List Stp), np W ≤ np (rnd f i m W).1 ∧ ((rnd f i m W).2 = true → m = true ∨ np W + 1 ≤ np (rnd f i m W).1)
  | 0, _, m, W => ⟨Nat.le_refl _, fun h => .inl h⟩
  | f + 1, i, m, W => by
    simp only [rnd]
    split
    · split
      · obtain ⟨a1, a2⟩ := np_rnd f (i + 1) (m || (apart W i).2) (apart W i).1
        have ha := np_apart W i
        refine ⟨by split at ha <;> omega, fun h => ?_⟩
        rcases a2 h with h3 | h3
        · cases m with
          | true => exact .inl rfl
          | false =>
            right
            rw [Bool.false_or] at h3
            rw [if_pos h3] at ha
            omega
        · right; split at ha <;> omega
      · exact np_rnd f (i + 1) m W
    · exact ⟨Nat.le_refl _, fun h => .inl h⟩
end Wb
end Go.Proofs.YtihbmgkbipeakaaGreat

namespace Go.Proofs.YtihbmgkbipeakaaGreat
open Go.RowKit

theorem flat_at {n : Nat} : ∀ (css : List (List Value)), (∀ cs ∈ css, cs.length = n) → ∀ i (h : i < css.length) r, r < n → css.flatten[i * n + r]? = (css[i])[r]?
  | [], _, i, h, _, _ => absurd h (Nat.not_lt_zero _)
  | a :: rest, hl, 0, _, r, hr => by
    have := hl a (by simp)
    rw [List.flatten_cons, Nat.zero_mul, Nat.zero_add, List.getElem?_append_left (by omega)]; rfl
  | a :: rest, hl, i + 1, h, r, hr => by
    have h1 := hl a (by simp)
    have ih := flat_at rest (fun cs hc => hl cs (List.mem_cons_of_mem _ hc)) i (by simpa using h) r hr
    have e : (i + 1) * n + r = n + (i * n + r) := by rw [Nat.succ_mul]; omega
    rw [List.flatten_cons, e, List.getElem?_append_right (by omega), h1, Nat.add_sub_cancel_left, ih]
    rfl
/-- A step's cells. -/
theorem WebAt.step_row {B g M : Nat} {vs vp : Value} {W : List Stp} {w : World} (h : WebAt B w g M vs vp W) {i : Nat} (hi : i < W.length) : ∃ gs cp A cap F fc, vs = .slice (some ⟨gs, 0, none⟩) W.length cp ∧ w.cell? ⟨gs, i * 5, none⟩ = some (.int .i64 W[i].t.kind) ∧ w.cell? ⟨gs, i * 5 + 1, none⟩ = some (.string W[i].t.name) ∧
    w.cell? ⟨gs, i * 5 + 2, none⟩ = some (.slice A W[i].t.kids.length cap) ∧ w.cell? ⟨gs, i * 5 + 3, none⟩ = some (.int .i64 (W[i].how : Int)) ∧ w.cell? ⟨gs, i * 5 + 4, none⟩ = some (.slice F W[i].frm.length fc) ∧
    TermIn (nr g M vs vp) w (.agg #[.int .i64 W[i].t.kind, .string W[i].t.name, .slice A W[i].t.kids.length cap]) W[i].t ∧ NumsIn (nr g M vs vp) w F W[i].frm := by
  obtain ⟨css, h1, h2⟩ := h.steps
  obtain ⟨gs, cp, rfl, _⟩ := h2.form (by omega)
  have hi' : i < css.length := by rw [h1.1]; exact hi
  obtain ⟨A, cap, F, fc, e, ht, hf⟩ := h1.2 i hi' hi
  have hlen : ∀ cs ∈ css, cs.length = 5 := fun cs hc => by
    obtain ⟨j, hj, rfl⟩ := List.getElem_of_mem hc
    exact (h1.2 j hj (by rw [← h1.1]; exact hj)).len
  have hc : ∀ r, r < 5 → w.cell? ⟨gs, i * 5 + r, none⟩ = (css[i])[r]? := fun r hr => by
    rw [h2.cellAt (i * 5 + r) (by omega)]
    exact flat_at css hlen i hi' r hr
  rw [e] at hc
  exact ⟨gs, cp, A, cap, F, fc, rfl, hc 0 (by omega), hc 1 (by omega), hc 2 (by omega), hc 3 (by omega), hc 4 (by omega), ht, hf⟩
namespace Wb
variable {W : List Stp} {i : Nat}
theorem apart_pair (hi : i < W.length) (hk : W[i].t.kind = 3) : apart W i = ((take (take W (W[i].t.kid 0) 2 [i]).1 (W[i].t.kid 1) 3 [i]).1, (take (take W (W[i].t.kid 0) 2 [i]).1 (W[i].t.kid 1) 3 [i]).2 || (take W (W[i].t.kid 0) 2 [i]).2) := by
  unfold apart; rw [term_at hi]; dsimp only; rw [if_pos hk]
theorem apart_sign (hi : i < W.length) (hk : W[i].t.kind = 6) : apart W i = take W (W[i].t.kid 1) 5 [i] := by
  unfold apart; rw [term_at hi]; dsimp only; rw [if_neg (by omega), if_pos hk]
theorem apart_seal (hi : i < W.length) (hk : W[i].t.kind = 5) (hp : (find W (W[i].t.kid 1)).any (fun m => partAt W m) = true) : apart W i = (W, false) := by
  unfold apart; rw [term_at hi]; dsimp only; rw [if_neg (by omega), if_neg (by omega), if_pos hk, if_pos hp]
theorem apart_shut (hi : i < W.length) (hk : W[i].t.kind = 5) (hp : (find W (W[i].t.kid 1)).any (fun m => partAt W m) = false) (hb : (bld W (W[i].t.kid 0)).2 = none) : apart W i = ((bld W (W[i].t.kid 0)).1, false) := by
  unfold apart; rw [term_at hi]; dsimp only; rw [if_neg (by omega), if_neg (by omega), if_pos hk, if_neg (by rw [hp]; simp), hb]
theorem apart_open {k : Nat} (hi : i < W.length) (hk : W[i].t.kind = 5) (hp : (find W (W[i].t.kid 1)).any (fun m => partAt W m) = false) (hb : (bld W (W[i].t.kid 0)).2 = some k) : apart W i = take (bld W (W[i].t.kid 0)).1 (W[i].t.kid 1) 4 [i, k] := by
  unfold apart; rw [term_at hi]; dsimp only; rw [if_neg (by omega), if_neg (by omega), if_pos hk, if_neg (by rw [hp]; simp), hb]
theorem apart_else (hi : i < W.length) (hk : W[i].t.kind ≠ 3 ∧ W[i].t.kind ≠ 5 ∧ W[i].t.kind ≠ 6) : apart W i = (W, false) := by
  unfold apart; rw [term_at hi]; dsimp only; rw [if_neg hk.1, if_neg hk.2.2, if_neg hk.2.1]
end Wb
def ATo (B g M : Nat) (w : World) (vs vp : Value) (r : List Stp × Bool) (e : Ending) (w' : World) : Prop := e = .returned (.bool r.2) ∧ WebTo B g M w vs vp r.1 w'

set_option maxRecDepth 100000 in
set_option maxHeartbeats 8000000 in
theorem oapart {B g M : Nat} {vs vp : Value} {W : List Stp} {U : List T} (hU : Uni U) (hbU : ∀ t ∈ U, t.bulk ≤ 1048576) (i : Nat) (w : World) (hi : i < W.length) (hI : Inv U W) (h : WebAt B w g M vs vp W) :
    Calls Tryz.prog 97 #[.pointer (some ⟨g, 0, none⟩), .int .i64 (i : Int)] w (ATo B g M w vs vp (Wb.apart W i)) := by
  have htU := hI.mem _ (List.getElem_mem hi)
  have hsh := T.shapeK (Bool.and_eq_true_iff.1 (hU.ok _ htU)).2
  have hz := h.lt.2
  obtain ⟨gs, cp, A0, cap0, _, _, rfl, c0, c1, c2, _, _, hT, _⟩ := h.step_row hi
  have hr1 := Wb.apart_pair hi; have hr2 := Wb.apart_sign hi; have hr3 := Wb.apart_seal hi; have hr4 := Wb.apart_shut hi; have hr5 := fun k => Wb.apart_open (k := k) hi; have hr6 := Wb.apart_else hi
  generalize W[i].t = t at htU hsh hT c0 c1 c2 hr1 hr2 hr3 hr4 hr5 hr6
  obtain ⟨R, hR⟩ : ∃ R, Wb.apart W i = R := ⟨_, rfl⟩
  rw [hR] at hr1 hr2 hr3 hr4 hr5 hr6 ⊢
  have H1 := Lib.hid hr1; have H2 := Lib.hid hr2; have H3 := Lib.hid hr3; have H4 := Lib.hid hr4; have H5 := Lib.hid hr5; have H6 := Lib.hid hr6
  have hw := below_alloc1 w (.cells #[.int .i64 t.kind, .string t.name, .slice A0 t.kids.length cap0] 29)
  have bx := Box.new w (.int .i64 t.kind) (.string t.name) (.slice A0 t.kids.length cap0)
  obtain ⟨vs, hvs⟩ : ∃ v : Value, Value.slice (some ⟨gs, 0, none⟩) W.length cp = v := ⟨_, rfl⟩
  have HVS := Lib.hid hvs
  have HN := Lib.hid (show nr g M vs vp w.heap.size = true by rw [← hvs]; exact nr_new h (Nat.le_refl _))
  have HR1 := Lib.hid (show Fr B g M vs vp w vs vp _ from (Fr.refl B g M vs vp w).later hz hw)
  have HW1 := Lib.hid (show WebAt B _ g M vs vp W by rw [← hvs]; exact h.later hw)
  have HT1 := Lib.hid (show TermIn (nr g M vs vp) _ _ t by rw [← hvs]; exact hT.keep (S' := nr g M _ vp) (fun b hb hl => ⟨hb, hw.block b hl⟩))
  have HI := Lib.hid hI
  have hd0 := h.cells.1
  rw [hvs]
  have hi1 : (0 : Int) ≤ (i : Int) ∧ (i : Int) < (W.length : Int) := by omega
  obtain ⟨hi1, hi2⟩ := hi1
  have HTK := Lib.hid (fun (x : Nat) (hx : x < t.kids.length) v' W' how frm F fc Wj vs' vp' (hI' : Inv U Wj) hW hT' hF => otake (W := Wj) (g := g) (M := M) (B := B) (vs := vs') (vp := vp') (t.kid x) v' W' how frm F fc hW hT' (hbU _ (hU.kid t htU x hx)) hF (hI'.room hU (hU.kid t htU x hx)))
  have HIT := Lib.hid (fun (x : Nat) (hx : x < t.kids.length) how frm Wj (hI' : Inv U Wj) => Wb.take_inv how frm hI' (hU.kid t htU x hx))
  have HFD := Lib.hid (fun (x : Nat) (hx : x < t.kids.length) v' W' Wj vs' vp' (hW : WebAt B W' g M vs' vp' Wj) (hT' : TermAt W' v' (t.kid x)) => ofind (t.kid x) v' W' hW hT' (hbU _ (hU.kid t htU x hx)))
  have HBL := Lib.hid (fun (x : Nat) (hx : x < t.kids.length) => obuild (B := B) hU hbU ((t.kid x).bulk + 1) (t.kid x) (by omega) (hU.kid t htU x hx))
  have HPU := Lib.hid (fun (x : Nat) (hx : x < t.kids.length) (Wj : List Stp) (hI' : Inv U Wj) => Wb.bld_inv hU (hU.kid t htU x hx) hI')
  clear hr1 hr2 hr3 hr4 hr5 hr6 hR hI h hT hw hvs
  obtain ⟨k, hk⟩ : ∃ k, t.kind = k := ⟨_, rfl⟩
  obtain ⟨nm, hnm⟩ : ∃ nm, t.name = nm := ⟨_, rfl⟩
  obtain ⟨kn, hkn⟩ : ∃ kn, t.kids.length = kn := ⟨_, rfl⟩
  rw [hk, hnm, hkn] at bx HR1 HW1 HT1 
  rw [hk] at c0 H1 H2 H3 H4 H5 H6
  rw [hnm] at c1
  rw [hkn] at c2 HTK HIT HFD HBL HPU
  rw [hk, hkn] at hsh
  have HK := Lib.hid hk; have HKN := Lib.hid hkn
  have HSH := Lib.hid hsh
  clear hk hnm hkn hsh
  go_enter Tryz.func97, Tryz.ntmps97
  go_upto_region 2 with fail
  generalize w.alloc (.cells #[.int .i64 k, .string nm, .slice A0 kn cap0] 29) = w1 at bx HR1 HW1 HT1 ⊢
  clear c0 c1 c2 hd0
  obtain ⟨x0, x1, x2⟩ := bx.cells
  have BX := Lib.hid bx
  clear bx
  rcases HSH.out with ⟨h12, h0⟩ | ⟨h356, h2⟩ | ⟨h4, h1⟩ | ⟨h7, h1, h14⟩
  · have HE := Lib.hid (H6.out (by omega))
    rcases h12 with rfl | rfl
    · clear h0
      go_wp2_with fail
      go_ret
      rw [HE.out]
      exact ⟨rfl, _, _, HW1.out, HR1.out⟩
    · clear h0
      go_wp2_with fail
      go_ret
      rw [HE.out]
      exact ⟨rfl, _, _, HW1.out, HR1.out⟩
  · subst h2
    obtain ⟨b, off, A1, c1, rfl, _, d0, d1, d2, hk0⟩ := HT1.out.kid0 (by rw [HKN.out]; decide)
    rcases h356 with rfl | rfl | rfl
    · have hb2 := below_alloc1 w1 (.cells #[.int .i64 (i : Int)] 3)
      have HN2 := Lib.hid (NumsIn.one (S := nr g M vs vp) w1 i 3 (nr_new HW1.out (Nat.le_refl _)))
      have HW2 := Lib.hid (HW1.out.later hb2); have HT2 := Lib.hid (HT1.out.keep (S' := nr g M vs vp) (fun b hb hl => ⟨hb, hb2.block b hl⟩)); have HF2 := Lib.hid (HR1.out.later hz hb2)
      have HK0 := Lib.hid (hk0.keep (S' := nr g M vs vp) (fun b hb hl => ⟨hb, hb2.block b hl⟩)); have HB2 := Lib.hid (BX.out.later hb2)
      have htk := HTK.out 0 (by decide) _ _ 2 [i] _ 1 _ _ _ HI.out HW2.out HK0.out HN2.out
      have hit := HIT.out 0 (by decide) 2 [i] W HI.out
      have h1 := H1.out rfl
      generalize Wb.take W (t.kid 0) 2 [i] = q at htk hit h1
      have HTKQ := Lib.hid htk; have HI3 := Lib.hid hit; have H1Q := Lib.hid h1
      clear hb2 hk0 htk hit h1
      go_wp2_with fail
      refine HTKQ.out.mono ?_; rintro e w3 ⟨rfl, vs3, vp3, hw3, hf3⟩
      have HW3 := Lib.hid hw3; have HT3 := Lib.hid (HT2.out.fr hf3); have HF3 := Lib.hid (HF2.out.trans hf3); have HB3 := Lib.hid (HB2.out.fr hf3 HN.out)
      clear hw3 hf3 x0 x1 x2 d0 d1 d2
      obtain ⟨y0, y1, y2⟩ := HB3.out.cells
      obtain ⟨_, _, A2, c2, e1, _, d0, d1, d2, hk1⟩ := HT3.out.kid1 (by rw [HKN.out]; decide)
      injection e1 with e1; injection e1 with e1 e2; subst e1; subst e2
      have hb4 := below_alloc1 w3 (.cells #[.int .i64 (i : Int)] 3)
      have HN4 := Lib.hid (NumsIn.one (S := nr g M vs3 vp3) w3 i 3 (nr_new HW3.out (Nat.le_refl _)))
      have HW4 := Lib.hid (HW3.out.later hb4); have HF4 := Lib.hid (HF3.out.later hz hb4)
      have HK1 := Lib.hid (hk1.keep (S' := nr g M vs3 vp3) (fun b hb hl => ⟨hb, hb4.block b hl⟩))
      have htk := HTK.out 1 (by decide) _ _ 3 [i] _ 1 _ _ _ HI3.out HW4.out HK1.out HN4.out
      have h1 := H1Q.out
      obtain ⟨q1, q2⟩ := q
      dsimp only at h1 htk ⊢
      generalize Wb.take q1 (t.kid 1) 3 [i] = r at htk h1
      have HTKR := Lib.hid htk; have H1R := Lib.hid h1
      clear hb4 hk1 htk h1
      go_wp2_with fail
      refine HTKR.out.mono ?_; rintro e w5 ⟨rfl, hw5⟩
      have HW5 := Lib.hid (WebTo.after HF4.out hw5)
      clear hw5 y0 y1 y2 d0 d1 d2
      obtain ⟨r1, r2⟩ := r
      dsimp only at HW5 ⊢
      cases r2 with
      | true =>
        go_wp2_with fail
        go_ret
        rw [H1R.out]
        exact ⟨rfl, HW5.out⟩
      | false =>
        go_wp2_with fail
        go_ret
        rw [H1R.out]
        exact ⟨by cases q2 <;> rfl, HW5.out⟩
    · obtain ⟨_, _, A2, c2, e1, _, f0, f1, f2, hk1⟩ := HT1.out.kid1 (by rw [HKN.out]; decide)
      injection e1 with e1; injection e1 with e1 e2; subst e1; subst e2
      have HK1 := Lib.hid hk1
      clear hk0 hk1
      go_wp2_with fail
      refine (HFD.out 1 (by decide) _ _ _ _ _ HW1.out HK1.out.at).mono ?_; rintro e w2 ⟨he, hb2⟩
      have HWX := Lib.hid (HW1.out.later hb2); have HTX := Lib.hid (HT1.out.keep (S' := nr g M vs vp) (fun b hb hl => ⟨hb, hb2.block b hl⟩)); have HFX := Lib.hid (HR1.out.later hz hb2); have HBX := Lib.hid (BX.out.later hb2)
      clear hb2 x0 x1 x2 d0 d1 d2 f0 f1 f2
      cases hf : findK W (t.kid 1).key with
      | none =>
        have he2 : e = .returned (.int .i64 (-1)) := by rw [he, hf]; rfl
        clear he; subst he2
        have HPA := Lib.hid (show (Wb.find W (t.kid 1)).any (fun m => Wb.partAt W m) = false by rw [find_key, hf]; rfl)
        clear hf
        obtain ⟨y0, y1, y2⟩ := HBX.out.cells
        obtain ⟨_, _, A1, c1, e1, _, d0, d1, d2, hk0⟩ := HTX.out.kid0 (by rw [HKN.out]; decide)
        injection e1 with e1; injection e1 with e1 e2; subst e1; subst e2
        have HK0 := Lib.hid hk0
        have hbl := HBL.out 0 (by decide) _ _ g M vs vp W HI.out HWX.out HK0.out
        have hpu := HPU.out 0 (by decide) W HI.out
        have h4 := H4.out (by trivial) HPA.out
        have h5 := fun k => H5.out k (by trivial) HPA.out
        change Calls _ _ _ _ (BTo B g M _ vs vp (Wb.bld W (t.kid 0))) at hbl
        generalize Wb.bld W (t.kid 0) = q at hbl hpu h4 h5
        obtain ⟨hI6, _, _⟩ := hpu
        have HI6 := Lib.hid hI6; have HBLQ := Lib.hid hbl; have H4Q := Lib.hid h4; have H5Q := Lib.hid h5
        clear hk0 hI6 hbl h4 h5
        go_wp2_with fail
        refine HBLQ.out.mono ?_; rintro e w6 ⟨he, vs6, vp6, hw6, hf6⟩
        have HW6 := Lib.hid hw6; have HT6 := Lib.hid (HTX.out.fr hf6); have HF6 := Lib.hid (HFX.out.trans hf6); have HB6 := Lib.hid (HBX.out.fr hf6 HN.out)
        clear hw6 hf6 y0 y1 y2 d0 d1 d2
        cases hq : q.2 with
        | none =>
          have he2 : e = .returned (.int .i64 (-1)) := by rw [he, hq]; rfl
          clear he; subst he2
          have HE := Lib.hid (H4Q.out hq)
          clear hq
          go_wp2_with fail
          go_ret
          rw [HE.out]
          exact ⟨rfl, _, _, HW6.out, HF6.out⟩
        | some p =>
          have he2 : e = .returned (.int .i64 (p : Int)) := by rw [he, hq]; rfl
          clear he; subst he2
          have hpos : (0 : Int) ≤ (p : Int) := by omega
          have HE := Lib.hid (H5Q.out p hq)
          clear hq
          obtain ⟨y0, y1, y2⟩ := HB6.out.cells
          have hb7 := below_alloc1 w6 (.cells #[.int .i64 (i : Int), .int .i64 (p : Int)] 3)
          have HN7 := Lib.hid (NumsIn.two (S := nr g M vs6 vp6) w6 i p 3 (nr_new HW6.out (Nat.le_refl _)))
          have HW7 := Lib.hid (HW6.out.later hb7); have HT7 := Lib.hid (HT6.out.keep (S' := nr g M vs6 vp6) (fun b hb hl => ⟨hb, hb7.block b hl⟩)); have HF7 := Lib.hid (HF6.out.later hz hb7)
          obtain ⟨_, _, A2, c2, e1, _, d0, d1, d2, hk1⟩ := HT6.out.kid1 (by rw [HKN.out]; decide)
          injection e1 with e1; injection e1 with e1 e2; subst e1; subst e2
          have HK1 := Lib.hid (hk1.keep (S' := nr g M vs6 vp6) (fun b hb hl => ⟨hb, hb7.block b hl⟩))
          clear hb7 hk1
          go_wp2_with fail
          refine (HTK.out 1 (by decide) _ _ 4 [i, p] _ _ _ _ _ HI6.out HW7.out HK1.out HN7.out).mono ?_; rintro e w8 ⟨rfl, hw8⟩
          rw [← HE.out] at hw8 ⊢
          have HW8 := Lib.hid (WebTo.after HF7.out hw8)
          clear hw8 y0 y1 y2 d0 d1 d2
          go_wp2_with fail
          go_ret
          exact ⟨rfl, HW8.out⟩
      | some m =>
        have he2 : e = .returned (.int .i64 (m : Int)) := by rw [he, hf]; rfl
        clear he; subst he2
        have hm := findK_lt hf
        obtain ⟨gp, cp2, hvp, p0, _, _⟩ := HWX.out.part_row hm
        subst hvp
        have hd2 := HWX.out.cells.2.2.1
        have hm1 : (0 : Int) ≤ (m : Int) ∧ (m : Int) < (W.length : Int) := by omega
        obtain ⟨hm1, hm2⟩ := hm1
        have HPM := Lib.hid (show (Wb.find W (t.kid 1)).any (fun m => Wb.partAt W m) = W[m].part by rw [find_key, hf]; exact Wb.part_at hm)
        clear hf
        cases hpp : W[m].part with
        | true =>
          rw [hpp] at p0
          have HE := Lib.hid (H3.out (by trivial) (by rw [HPM.out, hpp]))
          clear hpp
          go_wp2_with fail
          go_ret
          rw [HE.out]
          exact ⟨rfl, _, _, HWX.out, HFX.out⟩
        | false =>
          rw [hpp] at p0
          have HPA := Lib.hid (HPM.out.trans hpp)
          clear hpp
          go_upto_region 12 with fail
          clear p0 hd2 hm1 hm2
          generalize Value.slice (some ⟨gp, 0, none⟩) W.length cp2 = vp at *
          obtain ⟨y0, y1, y2⟩ := HBX.out.cells
          obtain ⟨_, _, A1, c1, e1, _, d0, d1, d2, hk0⟩ := HTX.out.kid0 (by rw [HKN.out]; decide)
          injection e1 with e1; injection e1 with e1 e2; subst e1; subst e2
          have HK0 := Lib.hid hk0
          have hbl := HBL.out 0 (by decide) _ _ g M vs vp W HI.out HWX.out HK0.out
          have hpu := HPU.out 0 (by decide) W HI.out
          have h4 := H4.out (by trivial) HPA.out
          have h5 := fun k => H5.out k (by trivial) HPA.out
          change Calls _ _ _ _ (BTo B g M _ vs vp (Wb.bld W (t.kid 0))) at hbl
          generalize Wb.bld W (t.kid 0) = q at hbl hpu h4 h5
          obtain ⟨hI6, _, _⟩ := hpu
          have HI6 := Lib.hid hI6; have HBLQ := Lib.hid hbl; have H4Q := Lib.hid h4; have H5Q := Lib.hid h5
          clear hk0 hI6 hbl h4 h5
          go_wp2_with fail
          refine HBLQ.out.mono ?_; rintro e w6 ⟨he, vs6, vp6, hw6, hf6⟩
          have HW6 := Lib.hid hw6; have HT6 := Lib.hid (HTX.out.fr hf6); have HF6 := Lib.hid (HFX.out.trans hf6); have HB6 := Lib.hid (HBX.out.fr hf6 HN.out)
          clear hw6 hf6 y0 y1 y2 d0 d1 d2
          cases hq : q.2 with
          | none =>
            have he2 : e = .returned (.int .i64 (-1)) := by rw [he, hq]; rfl
            clear he; subst he2
            have HE := Lib.hid (H4Q.out hq)
            clear hq
            go_wp2_with fail
            go_ret
            rw [HE.out]
            exact ⟨rfl, _, _, HW6.out, HF6.out⟩
          | some p =>
            have he2 : e = .returned (.int .i64 (p : Int)) := by rw [he, hq]; rfl
            clear he; subst he2
            have hpos : (0 : Int) ≤ (p : Int) := by omega
            have HE := Lib.hid (H5Q.out p hq)
            clear hq
            obtain ⟨y0, y1, y2⟩ := HB6.out.cells
            have hb7 := below_alloc1 w6 (.cells #[.int .i64 (i : Int), .int .i64 (p : Int)] 3)
            have HN7 := Lib.hid (NumsIn.two (S := nr g M vs6 vp6) w6 i p 3 (nr_new HW6.out (Nat.le_refl _)))
            have HW7 := Lib.hid (HW6.out.later hb7); have HT7 := Lib.hid (HT6.out.keep (S' := nr g M vs6 vp6) (fun b hb hl => ⟨hb, hb7.block b hl⟩)); have HF7 := Lib.hid (HF6.out.later hz hb7)
            obtain ⟨_, _, A2, c2, e1, _, d0, d1, d2, hk1⟩ := HT6.out.kid1 (by rw [HKN.out]; decide)
            injection e1 with e1; injection e1 with e1 e2; subst e1; subst e2
            have HK1 := Lib.hid (hk1.keep (S' := nr g M vs6 vp6) (fun b hb hl => ⟨hb, hb7.block b hl⟩))
            clear hb7 hk1
            go_wp2_with fail
            refine (HTK.out 1 (by decide) _ _ 4 [i, p] _ _ _ _ _ HI6.out HW7.out HK1.out HN7.out).mono ?_; rintro e w8 ⟨rfl, hw8⟩
            rw [← HE.out] at hw8 ⊢
            have HW8 := Lib.hid (WebTo.after HF7.out hw8)
            clear hw8 y0 y1 y2 d0 d1 d2
            go_wp2_with fail
            go_ret
            exact ⟨rfl, HW8.out⟩
    · obtain ⟨_, _, A2, c2, e1, _, f0, f1, f2, hk1⟩ := HT1.out.kid1 (by rw [HKN.out]; decide)
      injection e1 with e1; injection e1 with e1 e2; subst e1; subst e2
      have hb2 := below_alloc1 w1 (.cells #[.int .i64 (i : Int)] 3)
      have HN2 := Lib.hid (NumsIn.one (S := nr g M vs vp) w1 i 3 (nr_new HW1.out (Nat.le_refl _)))
      have HW2 := Lib.hid (HW1.out.later hb2); have HF2 := Lib.hid (HR1.out.later hz hb2)
      have HK1 := Lib.hid (hk1.keep (S' := nr g M vs vp) (fun b hb hl => ⟨hb, hb2.block b hl⟩))
      have HE := Lib.hid (H2.out rfl)
      clear hb2 hk0 hk1
      go_wp2_with fail
      refine (HTK.out 1 (by decide) _ _ 5 [i] _ _ _ _ _ HI.out HW2.out HK1.out HN2.out).mono ?_; rintro e w5 ⟨rfl, hw5⟩
      rw [← HE.out] at hw5 ⊢
      have HW5 := Lib.hid (WebTo.after HF2.out hw5)
      clear hw5 x0 x1 x2 d0 d1 d2 f0 f1 f2
      go_wp2_with fail
      go_ret
      exact ⟨rfl, HW5.out⟩
  · subst h4
    have HE := Lib.hid (H6.out (by omega))
    go_wp2_with fail
    go_ret
    rw [HE.out]
    exact ⟨rfl, _, _, HW1.out, HR1.out⟩
  · subst h7
    have HE := Lib.hid (H6.out (by omega))
    go_wp2_with fail
    go_ret
    rw [HE.out]
    exact ⟨rfl, _, _, HW1.out, HR1.out⟩
end Go.Proofs.YtihbmgkbipeakaaGreat

namespace Go.Proofs.YtihbmgkbipeakaaGreat
open Go.RowKit Go.Maps

namespace Wb
variable {W : List Stp} {f i : Nat} {m : Bool}
theorem rnd_end (h : W.length ≤ i) : rnd f i m W = (W, m) := by
  cases f with
  | zero => rfl
  | succ f => simp only [rnd]; rw [if_neg (by omega)]
theorem rnd_skip (h : i < W.length) (hp : W[i].part = false) : rnd (f + 1) i m W = rnd f (i + 1) m W := by
  simp only [rnd]
  rw [if_pos h, if_neg (by rw [part_at h, hp]; simp)]
theorem rnd_step (h : i < W.length) (hp : W[i].part = true) : rnd (f + 1) i m W = rnd f (i + 1) (m || (apart W i).2) (apart W i).1 := by
  simp only [rnd]
  rw [if_pos h, if_pos (by rw [part_at h, hp])]
theorem start_take (K : List T) (j : Nat) (h : j < K.length) : start (K.take (j + 1)) = (take (start (K.take j)) K[j] 1 []).1 := by
  rw [List.take_succ_eq_append_getElem h]
  unfold start
  rw [List.foldl_append]; rfl
theorem start_inv {U : List T} {K : List T} (h : ∀ t ∈ K, t ∈ U) (j : Nat) : Inv U (start (K.take j)) :=
  (start_facts ⟨#[]⟩ (K.take j) [] (fun t ht => h t (List.mem_of_mem_take ht)) (Inv.nil U)).1
theorem run_more {N : Nat} {W' : List Stp} (h : rnd N 0 false W = (W', true)) : run N (f + 1) W = run N f W' := by
  simp only [run, h]; rfl
theorem run_done {N : Nat} {W' : List Stp} (h : rnd N 0 false W = (W', false)) : run N (f + 1) W = W' := by
  simp only [run, h]; rfl
/-- All that is found. -/
def fill (N : Nat) (K : List T) : List Stp := run N (N + 1) (start K)
end Wb
theorem own_nil (w : World) (B : Nat) (e : TypeId) (size : Nat) : w.ownsRow B e size (.slice none 0 0) 0 [] := ⟨by simp, .inl ⟨rfl, rfl⟩⟩
theorem WebAt.empty (w : World) (B : Nat) (hB : B ≤ w.heap.size) : WebAt B ((w.alloc (.map #[] 0)).alloc (.cells #[.slice none 0 0, .map (some w.heap.size), .slice none 0 0] 116)) (w.heap.size + 1) w.heap.size (.slice none 0 0) (.slice none 0 0) [] := by
  have hb := below_alloc1 (w.alloc (.map #[] 0)) (.cells #[.slice none 0 0, .map (some w.heap.size), .slice none 0 0] 116)
  refine ⟨⟨[], ⟨rfl, fun i h => absurd h (Nat.not_lt_zero _)⟩, own_nil _ _ _ _⟩, own_nil _ _ _ _, ⟨.map [], 0, ?_, Nat.le_refl _, MapIs.nil⟩, ?_, ⟨by omega, hB⟩, by simp⟩
  · exact (World.ownsMap_made w Tryz.prog 9 _).kept (row := none) (grownBy_of_below none hb) (by simp)
  · have := heap_alloc_new (w.alloc (.map #[] 0)) (.cells #[.slice none 0 0, .map (some w.heap.size), .slice none 0 0] 116)
    rw [size_alloc1] at this
    exact this

set_option maxRecDepth 100000 in
set_option maxHeartbeats 8000000 in
theorem ofill {U : List T} (hU : Uni U) (hbU : ∀ t ∈ U, t.bulk ≤ 1048576) (L : List T) (A : Option Addr) (cap : Nat) (w : World) (h : KnownAt w A cap L) (hb : ∀ t ∈ L, t.bulk ≤ 1048576) (hK : ∀ t ∈ cnt L, t ∈ U) :
    Calls Tryz.prog 51 #[.slice A L.length cap] w fun e w' => ∃ g M vs vp, e = .returned (.pointer (some ⟨g, 0, none⟩)) ∧ WebAt w.heap.size w' g M vs vp (Wb.fill U.length (cnt L)) ∧ Below w.heap.size w w' := by
  obtain ⟨N, hN⟩ : ∃ N, U.length = N := ⟨_, rfl⟩
  have HL := Lib.hid (fun (W : List Stp) (hI : Inv U W) => show W.length ≤ N by rw [← hN]; exact hI.len)
  rw [hN]
  have hNs : N ≤ 1048576 := by rw [← hN]; exact hU.size
  obtain ⟨R, hR⟩ : ∃ R, Wb.fill N (cnt L) = R := ⟨_, rfl⟩
  rw [hR]
  have HR := Lib.hid hR
  have HTK := Lib.hid (fun (t : T) (ht : t ∈ U) v' W' how frm F fc g M Wj vs' vp' (hI' : Inv U Wj) hW hT' hF => otake (W := Wj) (g := g) (M := M) (B := w.heap.size) (vs := vs') (vp := vp') t v' W' how frm F fc hW hT' (hbU t ht) hF (hI'.room hU ht))
  have HAP := Lib.hid (fun i w' g M vs vp W hi hI hW => oapart (B := w.heap.size) (g := g) (M := M) (vs := vs) (vp := vp) (W := W) hU hbU i w' hi hI hW)
  have HAI := Lib.hid (fun (i : Nat) (W : List Stp) (hi : i < W.length) (hI : Inv U W) => (Wb.apart_inv hU hI hi).1)
  have hmk : Sem.run Tryz.prog (Instr.makeMap 113 none) w = .ok (.map (some w.heap.size)) (w.alloc (.map #[] 0)) := rfl
  have hw := (below_alloc1 w (.map #[] 0)).trans ((below_alloc1 (w.alloc (.map #[] 0)) (.cells #[.slice none 0 0, .map (some w.heap.size), .slice none 0 0] 116)).mono (by rw [size_alloc1]; omega))
  have HW0 := Lib.hid (WebAt.empty w w.heap.size (Nat.le_refl _))
  have HC := Lib.hid (ocounted L A cap _ (h.later hw) hb)
  have HB1 := Lib.hid hw
  have HKU := Lib.hid hK
  clear h hb hK hw hR hN
  go_enter Tryz.func51, Tryz.ntmps51
  go_upto_region 2 with fail
  clear hmk
  generalize hw1 : (w.alloc (.map #[] 0)).alloc (.cells #[.slice none 0 0, .map (some w.heap.size), .slice none 0 0] 116) = w1 at HW0 HC HB1 ⊢
  have hsz1 : w1.heap.size = w.heap.size + 1 + 1 := by rw [← hw1, size_alloc1, size_alloc1]
  have HSZ := Lib.hid hsz1
  have hgp : (w.alloc (.map #[] 0)).heap.size = w.heap.size + 1 := size_alloc1 _ _
  clear hw1 hsz1
  obtain ⟨g, hg⟩ : ∃ g, w.heap.size + 1 = g := ⟨_, rfl⟩
  rw [hg] at HW0 ⊢
  clear hg hgp
  go_wp2_with fail
  refine HC.out.mono ?_; rintro e w2 ⟨v', rfl, hrow, hb2⟩
  obtain ⟨A5, c5, rfl, _, hc5⟩ := hrow.shape
  have ht2 : TermIn (nr g w.heap.size (.slice none 0 0) (.slice none 0 0)) w2 (.agg #[.int .i64 0, .string ⟨#[]⟩, .slice A5 (cnt L).length c5]) (.mk 0 ⟨#[]⟩ (cnt L)) :=
    (hrow.term 0 ⟨#[]⟩ (by omega) (Nat.zero_le _)).keep (fun b hb hl => ⟨nr_new HW0.out (of_decide_eq_true hb), rfl⟩)
  have HW2 := Lib.hid (HW0.out.later hb2); have HT2 := Lib.hid ht2; have HB2 := Lib.hid (HB1.out.trans (hb2.mono HB1.out.size))
  clear hrow hb2 ht2 hc5
  have hKl : (cnt L).length ≤ 64 := Nat.le_trans (List.length_filter_le _ _) (by rw [List.length_take]; omega)
  generalize cnt L = K at HT2 HKU HR hKl ⊢
  obtain ⟨n, hn⟩ : ∃ n, K.length = n := ⟨_, rfl⟩
  have HN := Lib.hid hn
  rw [hn] at HT2 hKl ⊢
  clear hn
  go_upto_region 3 with fail
  go_loopw [14] (fun s14 wr => ∃ (j : Nat) (vsj vpj : Value), j ≤ n ∧ s14 = .int .i64 j ∧ WebAt w.heap.size wr g w.heap.size vsj vpj (Wb.start (K.take j)) ∧ TermIn (nr g w.heap.size vsj vpj) wr (.agg #[.int .i64 0, .string ⟨#[]⟩, .slice A5 n c5]) (.mk 0 ⟨#[]⟩ K) ∧ Below w.heap.size w wr) (fun i _ => n - (intOf i).toNat)
  case atStart => exact ⟨0, _, _, Nat.zero_le _, rfl, by rw [List.take_zero]; exact HW2.out, HT2.out, HB2.out⟩
  case round =>
    obtain ⟨j, vsj, vpj, hj, rfl, hwj, htj, hbj⟩ := hrel
    by_cases hlt : j < n
    · have hjK : j < K.length := by rw [HN.out]; exact hlt
      obtain ⟨b, off, A1, c1, rfl, hS, d0, d1, d2, hkj⟩ := htj.kid (i := j) hjK
      have HKJ := Lib.hid (show (T.mk 0 ⟨#[]⟩ K).kid j = K[j]'(hjK) from T.kid_at (t := .mk 0 ⟨#[]⟩ K) hjK)
      generalize (T.mk 0 ⟨#[]⟩ K).kid j = t at d0 d1 d2 hkj HKJ
      have HTU := Lib.hid (show t ∈ U by rw [HKJ.out]; exact HKU.out _ (List.getElem_mem hjK))
      have HST := Lib.hid (show Wb.start (K.take (j + 1)) = (Wb.take (Wb.start (K.take j)) t 1 []).1 by rw [HKJ.out]; exact Wb.start_take K j hjK)
      have hi : (j : Int) < (n : Int) := by omega
      have hwa := below_alloc1 wr (.cells #[.int .i64 t.kind, .string t.name, .slice A1 t.kids.length c1] 29)
      have bk := Box.new wr (.int .i64 t.kind) (.string t.name) (.slice A1 t.kids.length c1)
      have HWA := Lib.hid (hwj.later hwa); have HTA := Lib.hid (htj.keep (S' := nr g w.heap.size vsj vpj) (fun b hb hl => ⟨hb, hwa.block b hl⟩)); have HKA := Lib.hid (hkj.keep (S' := nr g w.heap.size vsj vpj) (fun b hb hl => ⟨hb, hwa.block b hl⟩)); have HBA := Lib.hid (hbj.trans (hwa.mono hbj.size)); have HLT := Lib.hid hlt
      have HTAKE := Lib.hid (HTK.out t HTU.out _ _ 1 [] none 0 g w.heap.size _ vsj vpj (Wb.start_inv HKU.out j) HWA.out HKA.out (NumsIn.none_ _ _))
      clear hwj htj hbj hkj hwa
      go_upto_region 5 with fail
      generalize wr.alloc (.cells #[.int .i64 t.kind, .string t.name, .slice A1 t.kids.length c1] 29) = wa at *
      obtain ⟨k0, k1, k2⟩ := bk.cells
      clear bk d0 d1 d2
      go_wp2_with fail
      refine HTAKE.out.mono ?_; rintro e w3 ⟨rfl, vs3, vp3, hw3, hf3⟩
      have HW3 := Lib.hid (show WebAt w.heap.size w3 g w.heap.size vs3 vp3 (Wb.start (K.take (j + 1))) by rw [HST.out]; exact hw3)
      have HT3 := Lib.hid (HTA.out.fr hf3); have HB3 := Lib.hid (HBA.out.trans hf3.below)
      clear hw3 hf3 k0 k1 k2
      go_wp2_with fail
      go_roundw
      case rel => exact ⟨j + 1, _, _, HLT.out, by go_num, HW3.out, HT3.out, HB3.out⟩
      case measure => have := HLT.out; simp [intOf]; omega
    · obtain rfl : j = n := by omega
      have HI0 := Lib.hid (show Inv U (Wb.start K) by have := Wb.start_inv HKU.out j; rw [List.take_of_length_le (by rw [HN.out]; omega)] at this; exact this)
      have HWJ := Lib.hid (show WebAt w.heap.size wr g w.heap.size vsj vpj (Wb.start K) by rw [List.take_of_length_le (by rw [HN.out]; omega)] at hwj; exact hwj)
      have HBJ := Lib.hid hbj
      clear hwj htj hbj
      go_upto_region 8 with fail
      go_loopg [6] (N + 1) (fun gg s6 wr2 => ∃ (m : Bool) (Wj : List Stp) (f : Nat) (vs2 vp2 : Value), s6 = .bool m ∧ WebAt w.heap.size wr2 g w.heap.size vs2 vp2 Wj ∧ Inv U Wj ∧ Below w.heap.size w wr2 ∧ (m = true → Wb.run N f Wj = R ∧ N + 1 ≤ Wb.np Wj + f ∧ N + 1 ≤ Wb.np Wj + gg) ∧ (m = false → Wj = R))
      case atStart => exact ⟨true, _, N + 1, _, _, rfl, HWJ.out, HI0.out, HBJ.out, fun _ => ⟨HR.out, Nat.le_add_left _ _, Nat.le_add_left _ _⟩, fun e => by cases e⟩
      case round =>
        obtain ⟨m, Wj, f, vs2, vp2, rfl, hw2, hI2, hb2, hm1, hm2⟩ := hrel
        have HW2 := Lib.hid hw2; have HI2 := Lib.hid hI2; have HB2 := Lib.hid hb2
        cases m with
        | false =>
          have HE := Lib.hid (hm2 rfl)
          clear hw2 hI2 hb2 hm1 hm2
          go_wp2_with fail
          go_ret
          exact ⟨g, w.heap.size, _, _, rfl, by rw [← HE.out]; exact HW2.out, HB2.out⟩
        | true =>
          have HM := Lib.hid (hm1 rfl)
          have HNP := Lib.hid (show Wb.np Wj ≤ N from Nat.le_trans (Wb.np_le Wj) (HL.out Wj hI2))
          clear hw2 hI2 hb2 hm1 hm2
          obtain ⟨wo, rfl⟩ : ∃ wo : World, wo = wr := ⟨_, rfl⟩
          go_upto_region 11 with fail
          go_loopw [6, 7] (fun s6 s7 wi => ∃ (m2 : Bool) (i fi : Nat) (Wi : List Stp) (vsi vpi : Value), s6 = .bool m2 ∧ s7 = .int .i64 i ∧ i ≤ N ∧ N ≤ fi + i ∧ Wb.rnd fi i m2 Wi = Wb.rnd N 0 false Wj ∧ Inv U Wi ∧ WebAt w.heap.size wi g w.heap.size vsi vpi Wi ∧ Below w.heap.size w wi) (fun _ i _ => N + 1 - (intOf i).toNat)
          case atStart => exact ⟨false, 0, N, Wj, _, _, rfl, rfl, Nat.zero_le _, by omega, rfl, HI2.out, HW2.out, HB2.out⟩
          case round =>
            obtain ⟨m2, i, fi, Wi, vsi, vpi, rfl, rfl, hiN, hfi, hrnd, hIi, hwi, hbi⟩ := hrel
            obtain ⟨A7, c7, A8, c8, rfl, rfl⟩ := hwi.shapes
            have HWI := Lib.hid hwi; have HII := Lib.hid hIi; have HBI := Lib.hid hbi; have HRND := Lib.hid hrnd
            have hd0 := hwi.cells.1; have hd2 := hwi.cells.2.2.1
            by_cases hlt : i < Wi.length
            · have hlN := HL.out Wi hIi
              obtain ⟨f', hf'⟩ : ∃ f', fi = f' + 1 := ⟨fi - 1, by omega⟩
              subst hf'
              have HLT := Lib.hid hlt; have HLN := Lib.hid (show i + 1 ≤ N ∧ N ≤ f' + (i + 1) by omega)
              obtain ⟨gp, cp, hvp, p0, _, _⟩ := hwi.part_row hlt
              injection hvp with h1 _ h3; subst h1; subst h3
              have hi1 : (0 : Int) ≤ (i : Int) ∧ (i : Int) < (Wi.length : Int) := by omega
              obtain ⟨hi1, hi2⟩ := hi1
              have hi3 : (i : Int) ≤ 1048576 := by omega
              clear hwi hIi hbi hrnd hfi hlN hiN
              cases hp : (Wi[i]'(hlt)).part with
              | false =>
                rw [hp] at p0
                have HE := Lib.hid (show Wb.rnd f' (i + 1) m2 Wi = Wb.rnd N 0 false Wj by rw [← HRND.out]; exact (Wb.rnd_skip hlt hp).symm)
                clear hp hlt
                go_wp2_with fail
                go_roundw
                case rel => exact ⟨m2, i + 1, f', Wi, _, _, rfl, by go_num, HLN.out.1, HLN.out.2, HE.out, HII.out, HWI.out, HBI.out⟩
                case measure => have := HLN.out.1; simp [intOf]; omega
              | true =>
                rw [hp] at p0
                have hap := HAP.out i wr g w.heap.size _ _ Wi hlt HII.out HWI.out
                have hai := HAI.out i Wi hlt HII.out
                have hst := (Wb.rnd_step (f := f') (m := m2) hlt hp).symm.trans HRND.out
                generalize Wb.apart Wi i = r at hap hai hst
                have HAPR := Lib.hid hap; have HAIR := Lib.hid hai; have HSTR := Lib.hid hst
                clear hp hlt hap hai hst
                go_wp2_with fail
                refine HAPR.out.mono ?_; rintro e w3 ⟨rfl, vs3, vp3, hw3, hf3⟩
                have HW3 := Lib.hid hw3; have HB3 := Lib.hid (HBI.out.trans hf3.below)
                clear hw3 hf3 p0 hd0 hd2
                obtain ⟨r1, r2⟩ := r
                cases r2 with
                | true =>
                  have HE := Lib.hid (show Wb.rnd f' (i + 1) true r1 = Wb.rnd N 0 false Wj by have := HSTR.out; rw [Bool.or_true] at this; exact this)
                  go_wp2_with fail
                  go_roundw
                  case rel => exact ⟨true, i + 1, f', r1, _, _, rfl, by go_num, HLN.out.1, HLN.out.2, HE.out, HAIR.out, HW3.out, HB3.out⟩
                  case measure => have := HLN.out.1; simp [intOf]; omega
                | false =>
                  have HE := Lib.hid (show Wb.rnd f' (i + 1) m2 r1 = Wb.rnd N 0 false Wj by have := HSTR.out; rw [Bool.or_false] at this; exact this)
                  go_wp2_with fail
                  go_roundw
                  case rel => exact ⟨m2, i + 1, f', r1, _, _, rfl, by go_num, HLN.out.1, HLN.out.2, HE.out, HAIR.out, HW3.out, HB3.out⟩
                  case measure => have := HLN.out.1; simp [intOf]; omega
            · have hi2 : ¬ ((i : Int) < (Wi.length : Int)) := by omega
              have HE := Lib.hid (show Wb.rnd N 0 false Wj = (Wi, m2) by rw [← HRND.out]; exact Wb.rnd_end (by omega))
              have HGK := Lib.hid (show 0 < gk ∧ 0 < f by have := HM.out; have := HNP.out; omega)
              clear hwi hIi hbi hrnd hfi hiN hlt
              go_wp2_with fail
              go_roundg (gk - 1)
              case measure => have := HGK.out; omega
              case rel =>
                refine ⟨m2, Wi, f - 1, _, _, rfl, HWI.out, HII.out, HBI.out, fun e => ?_, fun e => ?_⟩
                · subst e
                  obtain ⟨h1, h2, h3⟩ := HM.out
                  obtain ⟨h4, h5⟩ := HGK.out
                  have h6 := (Wb.np_rnd N 0 false Wj).2
                  rw [HE.out] at h6
                  have h7 : Wb.np Wj + 1 ≤ Wb.np Wi := by
                    rcases h6 rfl with h | h
                    · cases h
                    · exact h
                  refine ⟨?_, by omega, by omega⟩
                  rw [← h1, show f = f - 1 + 1 by omega, Wb.run_more HE.out, Nat.add_sub_cancel]
                · subst e
                  obtain ⟨h1, h2, h3⟩ := HM.out
                  obtain ⟨h4, h5⟩ := HGK.out
                  rw [← h1, show f = f - 1 + 1 by omega, Wb.run_done HE.out]
end Go.Proofs.YtihbmgkbipeakaaGreat
