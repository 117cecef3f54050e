/- Several texts in one: WebF, WebG, TermCopy, WebU. -/
import Derived.Test.YtihbmgkbipeakaaGreatWebG12
import Derived.Test.YtihbmgkbipeakaaGreatWebG11
import Derived.Test.YtihbmgkbipeakaaGreatWebG3
import Derived.Test.YtihbmgkbipeakaaGreatWebG6
import Derived.Test.YtihbmgkbipeakaaGreatWebG4
namespace Go.Proofs.YtihbmgkbipeakaaGreat
open Go.RowKit

namespace Wb
variable {t : T} {W : List Stp} {n i : Nat}
theorem build_found (hf : findK W t.key = some i) : build (n + 1) W t = (W, some i) := by
  have : find W t = some i := hf
  simp only [build, this]
theorem build_pair (hf : findK W t.key = none) (hk : t.kind = 3) : build (n + 1) W t = both (build n) W t 6 := by
  have : find W t = none := hf
  simp only [build, this]
  rw [if_neg (by omega), if_pos hk]
theorem build_seal (hf : findK W t.key = none) (hk : t.kind = 5) : build (n + 1) W t = both (build n) W t 8 := by
  have : find W t = none := hf
  simp only [build, this]
  rw [if_neg (by omega), if_neg (by omega), if_pos hk]
theorem build_sign (hf : findK W t.key = none) (hk : t.kind = 6) : build (n + 1) W t = both (build n) W t 9 := by
  have : find W t = none := hf
  simp only [build, this]
  rw [if_neg (by omega), if_neg (by omega), if_neg (by omega), if_pos hk]
theorem build_pow (hf : findK W t.key = none) (hk : t.kind = 7) : build (n + 1) W t = pow (build n) t t.kids.length 0 W := by
  have : find W t = none := hf
  simp only [build, this]
  rw [if_neg (by omega), if_neg (by omega), if_neg (by omega), if_neg (by omega), if_pos hk]
theorem build_else (hf : findK W t.key = none) (hk : t.kind = 1 ∨ t.kind = 2) : build (n + 1) W t = (W, none) := by
  have : find W t = none := hf
  simp only [build, this]
  rw [if_neg (by omega), if_neg (by omega), if_neg (by omega), if_neg (by omega), if_neg (by omega)]
theorem build_hash (hf : findK W t.key = none) (hk : t.kind = 4) (h : (build n W (t.kid 0)).2 = none) : build (n + 1) W t = ((build n W (t.kid 0)).1, none) := by
  have : find W t = none := hf
  simp only [build, this]
  rw [if_pos hk, h]
theorem build_hashed (hf : findK W t.key = none) (hk : t.kind = 4) (h : (build n W (t.kid 0)).2 = some i) : build (n + 1) W t = ((add (build n W (t.kid 0)).1 t 7 [i]).1, some (add (build n W (t.kid 0)).1 t 7 [i]).2) := by
  have : find W t = none := hf
  simp only [build, this]
  rw [if_pos hk, h]
end Wb

set_option maxRecDepth 100000 in
set_option maxHeartbeats 8000000 in
theorem obuild {B : Nat} {U : List T} (hU : Uni U) (hbU : ∀ t ∈ U, t.bulk ≤ 1048576) : ∀ (n : Nat) (t : T), t.bulk < n → t ∈ U → BuildOk B U (Wb.build n) t := by
  intro n
  induction n with
  | zero => intro t h; omega
  | succ n ih =>
    intro t hn htU v w g M vs vp W hI h hT
    obtain ⟨A0, cap0, rfl⟩ := hT.view
    have hbk := hbU t htU
    have hz := h.lt.2
    have hsh := T.shapeK (Bool.and_eq_true_iff.1 (hU.ok t htU)).2
    have hw := below_alloc1 w (.cells #[.int .i64 t.kind, .string t.name, .slice A0 t.kids.length cap0] 29)
    have bx := Box.new w (.int .i64 t.kind) (.string t.name) (.slice A0 t.kids.length cap0)
    have HN := Lib.hid (nr_new h (Nat.le_refl _))
    have HR1 := Lib.hid ((Fr.refl B g M vs vp w).later hz hw)
    have HW1 := Lib.hid (h.later hw)
    have HT1 := Lib.hid (hT.keep (S' := nr g M vs vp) (fun b hb hl => ⟨hb, hw.block b hl⟩))
    have HFD := Lib.hid (fun v' W' (hW : WebAt B W' g M vs vp W) (hT' : TermAt W' v' t) => ofind t v' W' hW hT' hbk)
    have IHK := Lib.hid (fun i (hi : i < t.kids.length) => ih (t.kid i) (by have := T.kid_bulk hi; omega) (hU.kid t htU i hi))
    have HPK := Lib.hid (fun i (hi : i < t.kids.length) => Wb.build_puts hU n (t.kid i) (hU.kid t htU i hi))
    have IHL := Lib.hid (fun (h7 : t.kind = 7) i (hi : i < t.kids.length) (h1 : 1 < t.kids.length) => ih (t.lessOf i) (by have := T.less_bulk hi; omega) (hU.less t htU h7 h1 i hi))
    have HPL := Lib.hid (fun (h7 : t.kind = 7) i (hi : i < t.kids.length) (h1 : 1 < t.kids.length) => Wb.build_puts hU n (t.lessOf i) (hU.less t htU h7 h1 i hi))
    have HAD := Lib.hid (fun v' W' how F fc frm Wj vs' vp' (hI' : Inv U Wj) hW hT' hF => oadd (W := Wj) (g := g) (M := M) (B := B) (vs := vs') (vp := vp') t v' W' how frm F fc hW hT' hbk hF (hI'.room hU htU))
    have HBO := Lib.hid (fun v' W' how (h2 : t.kids.length = 2) hW hT' => oboth (rec := Wb.build n) (vs := vs) (vp := vp) (g := g) (M := M) (B := B) hU t v' W' how h2 htU hI hW hT' hbk (HPK.out 0 (by omega)) (HPK.out 1 (by omega)) (IHK.out 0 (by omega)) (IHK.out 1 (by omega)))
    have HPO := Lib.hid (fun v' W' (h7 : t.kind = 7) (h0 : 0 < t.kids.length) hW hT' => opower (rec := Wb.build n) (vs := vs) (vp := vp) (g := g) (M := M) (B := B) hU t v' W' h0 htU hI hW hT' hbk (HPL.out h7) (IHL.out h7))
    obtain ⟨R, hR⟩ : ∃ R, Wb.build (n + 1) W t = R := ⟨_, rfl⟩
    rw [hR]
    have HR := Lib.hid hR
    have HI := Lib.hid hI
    clear hR hI h hT hw ih hn
    obtain ⟨k, hk⟩ : ∃ k, t.kind = k := ⟨_, rfl⟩
    obtain ⟨nm, hnm⟩ : ∃ nm, t.name = nm := ⟨_, rfl⟩
    obtain ⟨kn, hkn⟩ : ∃ kn, t.kids.length = kn := ⟨_, rfl⟩
    rw [hk, hnm, hkn] at bx HR1 HW1 HT1 ⊢
    rw [hk, hkn] at hsh
    have HK := Lib.hid hk; have HKN := Lib.hid hkn
    have HSH := Lib.hid hsh
    clear hk hnm hkn hsh
    go_enter Tryz.func52, Tryz.ntmps52
    go_upto_region 1 with fail
    generalize w.alloc (.cells #[.int .i64 k, .string nm, .slice A0 kn cap0] 29) = w1 at bx HR1 HW1 HT1 ⊢
    obtain ⟨bx0, bx1, bx2⟩ := bx.cells
    have BX := Lib.hid bx
    clear bx
    go_wp2_with fail
    refine (HFD.out _ _ HW1.out HT1.out.at).mono ?_; rintro e w2 ⟨he, hb2⟩
    have HW2 := Lib.hid (HW1.out.later hb2); have HT2 := Lib.hid (HT1.out.keep (S' := nr g M vs vp) (fun b hb hl => ⟨hb, hb2.block b hl⟩)); have HF2 := Lib.hid (HR1.out.later hz hb2); have HB2 := Lib.hid (BX.out.later hb2)
    clear hb2 bx0 bx1 bx2
    cases hf : findK W t.key with
    | some i =>
      have he2 : e = .returned (.int .i64 (i : Int)) := by rw [he, hf]; rfl
      clear he; subst he2
      have hpos : (0 : Int) ≤ (i : Int) := by omega
      have HE := Lib.hid (show R = (W, some i) by rw [← HR.out]; exact Wb.build_found hf)
      clear hf
      go_wp2_with fail
      go_ret
      rw [HE.out]
      exact ⟨rfl, _, _, HW2.out, HF2.out⟩
    | none =>
      have he2 : e = .returned (.int .i64 (-1)) := by rw [he, hf]; rfl
      clear he; subst he2
      have HF := Lib.hid hf
      clear hf
      obtain ⟨y0, y1, y2⟩ := HB2.out.cells
      rcases HSH.out with ⟨h12, h0⟩ | ⟨h356, h2⟩ | ⟨h4, h1⟩ | ⟨h7, h1, h14⟩
      · have HE := Lib.hid (show R = (W, none) by rw [← HR.out]; exact Wb.build_else HF.out (by rw [HK.out]; exact h12))
        rcases h12 with rfl | rfl
        · clear h0
          go_wp2_with fail
          go_ret
          rw [HE.out]
          exact ⟨rfl, _, _, HW2.out, HF2.out⟩
        · clear h0
          go_wp2_with fail
          go_ret
          rw [HE.out]
          exact ⟨rfl, _, _, HW2.out, HF2.out⟩
      · subst h2
        rcases h356 with rfl | rfl | rfl
        · have HE := Lib.hid (HR.out.symm.trans (Wb.build_pair (n := n) HF.out HK.out))
          go_wp2_with fail
          refine (HBO.out _ _ 6 HKN.out HW2.out HT2.out).mono ?_; rintro e w5 ⟨rfl, hw5⟩
          rw [← HE.out] at hw5 ⊢
          have HW5 := Lib.hid (WebTo.after HF2.out hw5)
          clear hw5 y0 y1 y2
          go_wp2_with fail
          go_ret
          exact ⟨rfl, HW5.out⟩
        · have HE := Lib.hid (HR.out.symm.trans (Wb.build_seal (n := n) HF.out HK.out))
          go_wp2_with fail
          refine (HBO.out _ _ 8 HKN.out HW2.out HT2.out).mono ?_; rintro e w5 ⟨rfl, hw5⟩
          rw [← HE.out] at hw5 ⊢
          have HW5 := Lib.hid (WebTo.after HF2.out hw5)
          clear hw5 y0 y1 y2
          go_wp2_with fail
          go_ret
          exact ⟨rfl, HW5.out⟩
        · have HE := Lib.hid (HR.out.symm.trans (Wb.build_sign (n := n) HF.out HK.out))
          go_wp2_with fail
          refine (HBO.out _ _ 9 HKN.out HW2.out HT2.out).mono ?_; rintro e w5 ⟨rfl, hw5⟩
          rw [← HE.out] at hw5 ⊢
          have HW5 := Lib.hid (WebTo.after HF2.out hw5)
          clear hw5 y0 y1 y2
          go_wp2_with fail
          go_ret
          exact ⟨rfl, HW5.out⟩
      · subst h4; subst h1
        obtain ⟨b, off, A1, c1, rfl, _, d0, d1, d2, hk0⟩ := HT2.out.kid0 (by rw [HKN.out]; decide)
        have HK0 := Lib.hid hk0
        have hp := HPK.out 0 (by rw [HKN.out]; decide) W HI.out
        have hbl := IHK.out 0 (by rw [HKN.out]; decide) _ _ g M vs vp W HI.out HW2.out HK0.out
        have hl1 := fun e => HR.out.symm.trans (Wb.build_hash (n := n) HF.out HK.out e)
        have hl2 := fun p e => HR.out.symm.trans (Wb.build_hashed (n := n) (i := p) HF.out HK.out e)
        generalize Wb.build n W (t.kid 0) = q at hp hbl hl1 hl2
        obtain ⟨hI6, _, _⟩ := hp
        have HI6 := Lib.hid hI6; have HBL := Lib.hid hbl; have HL1 := Lib.hid hl1; have HL2 := Lib.hid hl2
        clear hk0 hI6 hbl hl1 hl2
        go_wp2_with fail
        refine HBL.out.mono ?_; rintro e w6 ⟨he, vs6, vp6, hw6, hf6⟩
        have HW6 := Lib.hid hw6; have HT6 := Lib.hid (HT2.out.fr hf6); have HF6 := Lib.hid (HF2.out.trans hf6); have HB6 := Lib.hid (HB2.out.fr hf6 HN.out)
        clear hw6 hf6 y0 y1 y2 d0 d1 d2
        cases hq : q.2 with
        | none =>
          have he2 : e = .returned (.int .i64 (-1)) := by rw [he, hq]; rfl
          clear he; subst he2
          have HE := Lib.hid (HL1.out hq)
          clear hq
          go_wp2_with fail
          go_ret
          rw [HE.out]
          exact ⟨rfl, _, _, HW6.out, HF6.out⟩
        | some p =>
          have he2 : e = .returned (.int .i64 (p : Int)) := by rw [he, hq]; rfl
          clear he; subst he2
          have hpos : (0 : Int) ≤ (p : Int) := by omega
          have HE := Lib.hid (HL2.out p hq)
          clear hq
          obtain ⟨y0, y1, y2⟩ := HB6.out.cells
          have hb7 := below_alloc1 w6 (.cells #[.int .i64 (p : Int)] 3)
          have HN7 := Lib.hid (NumsIn.one (S := nr g M vs6 vp6) w6 p 3 (nr_new HW6.out (Nat.le_refl _)))
          have HW7 := Lib.hid (HW6.out.later hb7); have HT7 := Lib.hid (HT6.out.keep (S' := nr g M vs6 vp6) (fun b hb hl => ⟨hb, hb7.block b hl⟩)); have HF7 := Lib.hid (HF6.out.later hz hb7)
          clear hb7
          go_wp2_with fail
          refine (HAD.out _ _ 7 _ _ [p] _ _ _ HI6.out HW7.out HT7.out HN7.out).mono ?_; rintro e w8 ⟨rfl, hw8⟩
          have HW8 := Lib.hid (WebTo.after HF7.out hw8)
          clear hw8 y0 y1 y2
          go_wp2_with fail
          go_ret
          rw [HE.out]
          exact ⟨rfl, HW8.out⟩
      · subst h7
        have HE := Lib.hid (HR.out.symm.trans (Wb.build_pow (n := n) HF.out HK.out))
        go_wp2_with fail
        refine (HPO.out _ _ HK.out (by rw [HKN.out]; exact h1) HW2.out HT2.out).mono ?_; rintro e w5 ⟨rfl, hw5⟩
        rw [← HE.out] at hw5 ⊢
        have HW5 := Lib.hid (WebTo.after HF2.out hw5)
        clear hw5 y0 y1 y2
        go_wp2_with fail
        go_ret
        exact ⟨rfl, HW5.out⟩
end Go.Proofs.YtihbmgkbipeakaaGreat

namespace Go.Proofs.YtihbmgkbipeakaaGreat
open Go.RowKit

theorem flat_at {n : Nat} : ∀ (css : List (List Value)), (∀ cs ∈ css, cs.length = n) → ∀ i (h : i < css.length) r, r < n → css.flatten[i * n + r]? = (css[i])[r]?
  | [], _, i, h, _, _ => absurd h (Nat.not_lt_zero _)
  | a :: rest, hl, 0, _, r, hr => by
    have := hl a (by simp)
    rw [List.flatten_cons, Nat.zero_mul, Nat.zero_add, List.getElem?_append_left (by omega)]; rfl
  | a :: rest, hl, i + 1, h, r, hr => by
    have h1 := hl a (by simp)
    have ih := flat_at rest (fun cs hc => hl cs (List.mem_cons_of_mem _ hc)) i (by simpa using h) r hr
    have e : (i + 1) * n + r = n + (i * n + r) := by rw [Nat.succ_mul]; omega
    rw [List.flatten_cons, e, List.getElem?_append_right (by omega), h1, Nat.add_sub_cancel_left, ih]
    rfl
/-- A step's cells. -/
theorem WebAt.step_row {B g M : Nat} {vs vp : Value} {W : List Stp} {w : World} (h : WebAt B w g M vs vp W) {i : Nat} (hi : i < W.length) : ∃ gs cp A cap F fc, vs = .slice (some ⟨gs, 0, none⟩) W.length cp ∧ w.cell? ⟨gs, i * 5, none⟩ = some (.int .i64 W[i].t.kind) ∧ w.cell? ⟨gs, i * 5 + 1, none⟩ = some (.string W[i].t.name) ∧
    w.cell? ⟨gs, i * 5 + 2, none⟩ = some (.slice A W[i].t.kids.length cap) ∧ w.cell? ⟨gs, i * 5 + 3, none⟩ = some (.int .i64 (W[i].how : Int)) ∧ w.cell? ⟨gs, i * 5 + 4, none⟩ = some (.slice F W[i].frm.length fc) ∧
    TermIn (nr g M vs vp) w (.agg #[.int .i64 W[i].t.kind, .string W[i].t.name, .slice A W[i].t.kids.length cap]) W[i].t ∧ NumsIn (nr g M vs vp) w F W[i].frm := by
  obtain ⟨css, h1, h2⟩ := h.steps
  obtain ⟨gs, cp, rfl, _⟩ := h2.form (by omega)
  have hi' : i < css.length := by rw [h1.1]; exact hi
  obtain ⟨A, cap, F, fc, e, ht, hf⟩ := h1.2 i hi' hi
  have hlen : ∀ cs ∈ css, cs.length = 5 := fun cs hc => by
    obtain ⟨j, hj, rfl⟩ := List.getElem_of_mem hc
    exact (h1.2 j hj (by rw [← h1.1]; exact hj)).len
  have hc : ∀ r, r < 5 → w.cell? ⟨gs, i * 5 + r, none⟩ = (css[i])[r]? := fun r hr => by
    rw [h2.cellAt (i * 5 + r) (by omega)]
    exact flat_at css hlen i hi' r hr
  rw [e] at hc
  exact ⟨gs, cp, A, cap, F, fc, rfl, hc 0 (by omega), hc 1 (by omega), hc 2 (by omega), hc 3 (by omega), hc 4 (by omega), ht, hf⟩
namespace Wb
variable {W : List Stp} {i : Nat}
theorem apart_pair (hi : i < W.length) (hk : W[i].t.kind = 3) : apart W i = ((take (take W (W[i].t.kid 0) 2 [i]).1 (W[i].t.kid 1) 3 [i]).1, (take (take W (W[i].t.kid 0) 2 [i]).1 (W[i].t.kid 1) 3 [i]).2 || (take W (W[i].t.kid 0) 2 [i]).2) := by
  unfold apart; rw [term_at hi]; dsimp only; rw [if_pos hk]
theorem apart_sign (hi : i < W.length) (hk : W[i].t.kind = 6) : apart W i = take W (W[i].t.kid 1) 5 [i] := by
  unfold apart; rw [term_at hi]; dsimp only; rw [if_neg (by omega), if_pos hk]
theorem apart_seal (hi : i < W.length) (hk : W[i].t.kind = 5) (hp : (find W (W[i].t.kid 1)).any (fun m => partAt W m) = true) : apart W i = (W, false) := by
  unfold apart; rw [term_at hi]; dsimp only; rw [if_neg (by omega), if_neg (by omega), if_pos hk, if_pos hp]
theorem apart_shut (hi : i < W.length) (hk : W[i].t.kind = 5) (hp : (find W (W[i].t.kid 1)).any (fun m => partAt W m) = false) (hb : (bld W (W[i].t.kid 0)).2 = none) : apart W i = ((bld W (W[i].t.kid 0)).1, false) := by
  unfold apart; rw [term_at hi]; dsimp only; rw [if_neg (by omega), if_neg (by omega), if_pos hk, if_neg (by rw [hp]; simp), hb]
theorem apart_open {k : Nat} (hi : i < W.length) (hk : W[i].t.kind = 5) (hp : (find W (W[i].t.kid 1)).any (fun m => partAt W m) = false) (hb : (bld W (W[i].t.kid 0)).2 = some k) : apart W i = take (bld W (W[i].t.kid 0)).1 (W[i].t.kid 1) 4 [i, k] := by
  unfold apart; rw [term_at hi]; dsimp only; rw [if_neg (by omega), if_neg (by omega), if_pos hk, if_neg (by rw [hp]; simp), hb]
theorem apart_else (hi : i < W.length) (hk : W[i].t.kind ≠ 3 ∧ W[i].t.kind ≠ 5 ∧ W[i].t.kind ≠ 6) : apart W i = (W, false) := by
  unfold apart; rw [term_at hi]; dsimp only; rw [if_neg hk.1, if_neg hk.2.2, if_neg hk.2.1]
end Wb
def ATo (B g M : Nat) (w : World) (vs vp : Value) (r : List Stp × Bool) (e : Ending) (w' : World) : Prop := e = .returned (.bool r.2) ∧ WebTo B g M w vs vp r.1 w'

set_option maxRecDepth 100000 in
set_option maxHeartbeats 8000000 in
theorem oapart {B g M : Nat} {vs vp : Value} {W : List Stp} {U : List T} (hU : Uni U) (hbU : ∀ t ∈ U, t.bulk ≤ 1048576) (i : Nat) (w : World) (hi : i < W.length) (hI : Inv U W) (h : WebAt B w g M vs vp W) :
    Calls Tryz.prog 97 #[.pointer (some ⟨g, 0, none⟩), .int .i64 (i : Int)] w (ATo B g M w vs vp (Wb.apart W i)) := by
  have htU := hI.mem _ (List.getElem_mem hi)
  have hsh := T.shapeK (Bool.and_eq_true_iff.1 (hU.ok _ htU)).2
  have hz := h.lt.2
  obtain ⟨gs, cp, A0, cap0, _, _, rfl, c0, c1, c2, _, _, hT, _⟩ := h.step_row hi
  have hr1 := Wb.apart_pair hi; have hr2 := Wb.apart_sign hi; have hr3 := Wb.apart_seal hi; have hr4 := Wb.apart_shut hi; have hr5 := fun k => Wb.apart_open (k := k) hi; have hr6 := Wb.apart_else hi
  generalize W[i].t = t at htU hsh hT c0 c1 c2 hr1 hr2 hr3 hr4 hr5 hr6
  obtain ⟨R, hR⟩ : ∃ R, Wb.apart W i = R := ⟨_, rfl⟩
  rw [hR] at hr1 hr2 hr3 hr4 hr5 hr6 ⊢
  have H1 := Lib.hid hr1; have H2 := Lib.hid hr2; have H3 := Lib.hid hr3; have H4 := Lib.hid hr4; have H5 := Lib.hid hr5; have H6 := Lib.hid hr6
  have hw := below_alloc1 w (.cells #[.int .i64 t.kind, .string t.name, .slice A0 t.kids.length cap0] 29)
  have bx := Box.new w (.int .i64 t.kind) (.string t.name) (.slice A0 t.kids.length cap0)
  obtain ⟨vs, hvs⟩ : ∃ v : Value, Value.slice (some ⟨gs, 0, none⟩) W.length cp = v := ⟨_, rfl⟩
  have HVS := Lib.hid hvs
  have HN := Lib.hid (show nr g M vs vp w.heap.size = true by rw [← hvs]; exact nr_new h (Nat.le_refl _))
  have HR1 := Lib.hid (show Fr B g M vs vp w vs vp _ from (Fr.refl B g M vs vp w).later hz hw)
  have HW1 := Lib.hid (show WebAt B _ g M vs vp W by rw [← hvs]; exact h.later hw)
  have HT1 := Lib.hid (show TermIn (nr g M vs vp) _ _ t by rw [← hvs]; exact hT.keep (S' := nr g M _ vp) (fun b hb hl => ⟨hb, hw.block b hl⟩))
  have HI := Lib.hid hI
  have hd0 := h.cells.1
  rw [hvs]
  have hi1 : (0 : Int) ≤ (i : Int) ∧ (i : Int) < (W.length : Int) := by omega
  obtain ⟨hi1, hi2⟩ := hi1
  have HTK := Lib.hid (fun (x : Nat) (hx : x < t.kids.length) v' W' how frm F fc Wj vs' vp' (hI' : Inv U Wj) hW hT' hF => otake (W := Wj) (g := g) (M := M) (B := B) (vs := vs') (vp := vp') (t.kid x) v' W' how frm F fc hW hT' (hbU _ (hU.kid t htU x hx)) hF (hI'.room hU (hU.kid t htU x hx)))
  have HIT := Lib.hid (fun (x : Nat) (hx : x < t.kids.length) how frm Wj (hI' : Inv U Wj) => Wb.take_inv how frm hI' (hU.kid t htU x hx))
  have HFD := Lib.hid (fun (x : Nat) (hx : x < t.kids.length) v' W' Wj vs' vp' (hW : WebAt B W' g M vs' vp' Wj) (hT' : TermAt W' v' (t.kid x)) => ofind (t.kid x) v' W' hW hT' (hbU _ (hU.kid t htU x hx)))
  have HBL := Lib.hid (fun (x : Nat) (hx : x < t.kids.length) => obuild (B := B) hU hbU ((t.kid x).bulk + 1) (t.kid x) (by omega) (hU.kid t htU x hx))
  have HPU := Lib.hid (fun (x : Nat) (hx : x < t.kids.length) (Wj : List Stp) (hI' : Inv U Wj) => Wb.bld_inv hU (hU.kid t htU x hx) hI')
  clear hr1 hr2 hr3 hr4 hr5 hr6 hR hI h hT hw hvs
  obtain ⟨k, hk⟩ : ∃ k, t.kind = k := ⟨_, rfl⟩
  obtain ⟨nm, hnm⟩ : ∃ nm, t.name = nm := ⟨_, rfl⟩
  obtain ⟨kn, hkn⟩ : ∃ kn, t.kids.length = kn := ⟨_, rfl⟩
  rw [hk, hnm, hkn] at bx HR1 HW1 HT1 
  rw [hk] at c0 H1 H2 H3 H4 H5 H6
  rw [hnm] at c1
  rw [hkn] at c2 HTK HIT HFD HBL HPU
  rw [hk, hkn] at hsh
  have HK := Lib.hid hk; have HKN := Lib.hid hkn
  have HSH := Lib.hid hsh
  clear hk hnm hkn hsh
  go_enter Tryz.func97, Tryz.ntmps97
  go_upto_region 2 with fail
  generalize w.alloc (.cells #[.int .i64 k, .string nm, .slice A0 kn cap0] 29) = w1 at bx HR1 HW1 HT1 ⊢
  clear c0 c1 c2 hd0
  obtain ⟨x0, x1, x2⟩ := bx.cells
  have BX := Lib.hid bx
  clear bx
  rcases HSH.out with ⟨h12, h0⟩ | ⟨h356, h2⟩ | ⟨h4, h1⟩ | ⟨h7, h1, h14⟩
  · have HE := Lib.hid (H6.out (by omega))
    rcases h12 with rfl | rfl
    · clear h0
      go_wp2_with fail
      go_ret
      rw [HE.out]
      exact ⟨rfl, _, _, HW1.out, HR1.out⟩
    · clear h0
      go_wp2_with fail
      go_ret
      rw [HE.out]
      exact ⟨rfl, _, _, HW1.out, HR1.out⟩
  · subst h2
    obtain ⟨b, off, A1, c1, rfl, _, d0, d1, d2, hk0⟩ := HT1.out.kid0 (by rw [HKN.out]; decide)
    rcases h356 with rfl | rfl | rfl
    · have hb2 := below_alloc1 w1 (.cells #[.int .i64 (i : Int)] 3)
      have HN2 := Lib.hid (NumsIn.one (S := nr g M vs vp) w1 i 3 (nr_new HW1.out (Nat.le_refl _)))
      have HW2 := Lib.hid (HW1.out.later hb2); have HT2 := Lib.hid (HT1.out.keep (S' := nr g M vs vp) (fun b hb hl => ⟨hb, hb2.block b hl⟩)); have HF2 := Lib.hid (HR1.out.later hz hb2)
      have HK0 := Lib.hid (hk0.keep (S' := nr g M vs vp) (fun b hb hl => ⟨hb, hb2.block b hl⟩)); have HB2 := Lib.hid (BX.out.later hb2)
      have htk := HTK.out 0 (by decide) _ _ 2 [i] _ 1 _ _ _ HI.out HW2.out HK0.out HN2.out
      have hit := HIT.out 0 (by decide) 2 [i] W HI.out
      have h1 := H1.out rfl
      generalize Wb.take W (t.kid 0) 2 [i] = q at htk hit h1
      have HTKQ := Lib.hid htk; have HI3 := Lib.hid hit; have H1Q := Lib.hid h1
      clear hb2 hk0 htk hit h1
      go_wp2_with fail
      refine HTKQ.out.mono ?_; rintro e w3 ⟨rfl, vs3, vp3, hw3, hf3⟩
      have HW3 := Lib.hid hw3; have HT3 := Lib.hid (HT2.out.fr hf3); have HF3 := Lib.hid (HF2.out.trans hf3); have HB3 := Lib.hid (HB2.out.fr hf3 HN.out)
      clear hw3 hf3 x0 x1 x2 d0 d1 d2
      obtain ⟨y0, y1, y2⟩ := HB3.out.cells
      obtain ⟨_, _, A2, c2, e1, _, d0, d1, d2, hk1⟩ := HT3.out.kid1 (by rw [HKN.out]; decide)
      injection e1 with e1; injection e1 with e1 e2; subst e1; subst e2
      have hb4 := below_alloc1 w3 (.cells #[.int .i64 (i : Int)] 3)
      have HN4 := Lib.hid (NumsIn.one (S := nr g M vs3 vp3) w3 i 3 (nr_new HW3.out (Nat.le_refl _)))
      have HW4 := Lib.hid (HW3.out.later hb4); have HF4 := Lib.hid (HF3.out.later hz hb4)
      have HK1 := Lib.hid (hk1.keep (S' := nr g M vs3 vp3) (fun b hb hl => ⟨hb, hb4.block b hl⟩))
      have htk := HTK.out 1 (by decide) _ _ 3 [i] _ 1 _ _ _ HI3.out HW4.out HK1.out HN4.out
      have h1 := H1Q.out
      obtain ⟨q1, q2⟩ := q
      dsimp only at h1 htk ⊢
      generalize Wb.take q1 (t.kid 1) 3 [i] = r at htk h1
      have HTKR := Lib.hid htk; have H1R := Lib.hid h1
      clear hb4 hk1 htk h1
      go_wp2_with fail
      refine HTKR.out.mono ?_; rintro e w5 ⟨rfl, hw5⟩
      have HW5 := Lib.hid (WebTo.after HF4.out hw5)
      clear hw5 y0 y1 y2 d0 d1 d2
      obtain ⟨r1, r2⟩ := r
      dsimp only at HW5 ⊢
      cases r2 with
      | true =>
        go_wp2_with fail
        go_ret
        rw [H1R.out]
        exact ⟨rfl, HW5.out⟩
      | false =>
        go_wp2_with fail
        go_ret
        rw [H1R.out]
        exact ⟨by cases q2 <;> rfl, HW5.out⟩
    · obtain ⟨_, _, A2, c2, e1, _, f0, f1, f2, hk1⟩ := HT1.out.kid1 (by rw [HKN.out]; decide)
      injection e1 with e1; injection e1 with e1 e2; subst e1; subst e2
      have HK1 := Lib.hid hk1
      clear hk0 hk1
      go_wp2_with fail
      refine (HFD.out 1 (by decide) _ _ _ _ _ HW1.out HK1.out.at).mono ?_; rintro e w2 ⟨he, hb2⟩
      have HWX := Lib.hid (HW1.out.later hb2); have HTX := Lib.hid (HT1.out.keep (S' := nr g M vs vp) (fun b hb hl => ⟨hb, hb2.block b hl⟩)); have HFX := Lib.hid (HR1.out.later hz hb2); have HBX := Lib.hid (BX.out.later hb2)
      clear hb2 x0 x1 x2 d0 d1 d2 f0 f1 f2
      cases hf : findK W (t.kid 1).key with
      | none =>
        have he2 : e = .returned (.int .i64 (-1)) := by rw [he, hf]; rfl
        clear he; subst he2
        have HPA := Lib.hid (show (Wb.find W (t.kid 1)).any (fun m => Wb.partAt W m) = false by rw [find_key, hf]; rfl)
        clear hf
        obtain ⟨y0, y1, y2⟩ := HBX.out.cells
        obtain ⟨_, _, A1, c1, e1, _, d0, d1, d2, hk0⟩ := HTX.out.kid0 (by rw [HKN.out]; decide)
        injection e1 with e1; injection e1 with e1 e2; subst e1; subst e2
        have HK0 := Lib.hid hk0
        have hbl := HBL.out 0 (by decide) _ _ g M vs vp W HI.out HWX.out HK0.out
        have hpu := HPU.out 0 (by decide) W HI.out
        have h4 := H4.out (by trivial) HPA.out
        have h5 := fun k => H5.out k (by trivial) HPA.out
        change Calls _ _ _ _ (BTo B g M _ vs vp (Wb.bld W (t.kid 0))) at hbl
        generalize Wb.bld W (t.kid 0) = q at hbl hpu h4 h5
        obtain ⟨hI6, _, _⟩ := hpu
        have HI6 := Lib.hid hI6; have HBLQ := Lib.hid hbl; have H4Q := Lib.hid h4; have H5Q := Lib.hid h5
        clear hk0 hI6 hbl h4 h5
        go_wp2_with fail
        refine HBLQ.out.mono ?_; rintro e w6 ⟨he, vs6, vp6, hw6, hf6⟩
        have HW6 := Lib.hid hw6; have HT6 := Lib.hid (HTX.out.fr hf6); have HF6 := Lib.hid (HFX.out.trans hf6); have HB6 := Lib.hid (HBX.out.fr hf6 HN.out)
        clear hw6 hf6 y0 y1 y2 d0 d1 d2
        cases hq : q.2 with
        | none =>
          have he2 : e = .returned (.int .i64 (-1)) := by rw [he, hq]; rfl
          clear he; subst he2
          have HE := Lib.hid (H4Q.out hq)
          clear hq
          go_wp2_with fail
          go_ret
          rw [HE.out]
          exact ⟨rfl, _, _, HW6.out, HF6.out⟩
        | some p =>
          have he2 : e = .returned (.int .i64 (p : Int)) := by rw [he, hq]; rfl
          clear he; subst he2
          have hpos : (0 : Int) ≤ (p : Int) := by omega
          have HE := Lib.hid (H5Q.out p hq)
          clear hq
          obtain ⟨y0, y1, y2⟩ := HB6.out.cells
          have hb7 := below_alloc1 w6 (.cells #[.int .i64 (i : Int), .int .i64 (p : Int)] 3)
          have HN7 := Lib.hid (NumsIn.two (S := nr g M vs6 vp6) w6 i p 3 (nr_new HW6.out (Nat.le_refl _)))
          have HW7 := Lib.hid (HW6.out.later hb7); have HT7 := Lib.hid (HT6.out.keep (S' := nr g M vs6 vp6) (fun b hb hl => ⟨hb, hb7.block b hl⟩)); have HF7 := Lib.hid (HF6.out.later hz hb7)
          obtain ⟨_, _, A2, c2, e1, _, d0, d1, d2, hk1⟩ := HT6.out.kid1 (by rw [HKN.out]; decide)
          injection e1 with e1; injection e1 with e1 e2; subst e1; subst e2
          have HK1 := Lib.hid (hk1.keep (S' := nr g M vs6 vp6) (fun b hb hl => ⟨hb, hb7.block b hl⟩))
          clear hb7 hk1
          go_wp2_with fail
          refine (HTK.out 1 (by decide) _ _ 4 [i, p] _ _ _ _ _ HI6.out HW7.out HK1.out HN7.out).mono ?_; rintro e w8 ⟨rfl, hw8⟩
          rw [← HE.out] at hw8 ⊢
          have HW8 := Lib.hid (WebTo.after HF7.out hw8)
          clear hw8 y0 y1 y2 d0 d1 d2
          go_wp2_with fail
          go_ret
          exact ⟨rfl, HW8.out⟩
      | some m =>
        have he2 : e = .returned (.int .i64 (m : Int)) := by rw [he, hf]; rfl
        clear he; subst he2
        have hm := findK_lt hf
        obtain ⟨gp, cp2, hvp, p0, _, _⟩ := HWX.out.part_row hm
        subst hvp
        have hd2 := HWX.out.cells.2.2.1
        have hm1 : (0 : Int) ≤ (m : Int) ∧ (m : Int) < (W.length : Int) := by omega
        obtain ⟨hm1, hm2⟩ := hm1
        have HPM := Lib.hid (show (Wb.find W (t.kid 1)).any (fun m => Wb.partAt W m) = W[m].part by rw [find_key, hf]; exact Wb.part_at hm)
        clear hf
        cases hpp : W[m].part with
        | true =>
          rw [hpp] at p0
          have HE := Lib.hid (H3.out (by trivial) (by rw [HPM.out, hpp]))
          clear hpp
          go_wp2_with fail
          go_ret
          rw [HE.out]
          exact ⟨rfl, _, _, HWX.out, HFX.out⟩
        | false =>
          rw [hpp] at p0
          have HPA := Lib.hid (HPM.out.trans hpp)
          clear hpp
          go_upto_region 12 with fail
          clear p0 hd2 hm1 hm2
          generalize Value.slice (some ⟨gp, 0, none⟩) W.length cp2 = vp at *
          obtain ⟨y0, y1, y2⟩ := HBX.out.cells
          obtain ⟨_, _, A1, c1, e1, _, d0, d1, d2, hk0⟩ := HTX.out.kid0 (by rw [HKN.out]; decide)
          injection e1 with e1; injection e1 with e1 e2; subst e1; subst e2
          have HK0 := Lib.hid hk0
          have hbl := HBL.out 0 (by decide) _ _ g M vs vp W HI.out HWX.out HK0.out
          have hpu := HPU.out 0 (by decide) W HI.out
          have h4 := H4.out (by trivial) HPA.out
          have h5 := fun k => H5.out k (by trivial) HPA.out
          change Calls _ _ _ _ (BTo B g M _ vs vp (Wb.bld W (t.kid 0))) at hbl
          generalize Wb.bld W (t.kid 0) = q at hbl hpu h4 h5
          obtain ⟨hI6, _, _⟩ := hpu
          have HI6 := Lib.hid hI6; have HBLQ := Lib.hid hbl; have H4Q := Lib.hid h4; have H5Q := Lib.hid h5
          clear hk0 hI6 hbl h4 h5
          go_wp2_with fail
          refine HBLQ.out.mono ?_; rintro e w6 ⟨he, vs6, vp6, hw6, hf6⟩
          have HW6 := Lib.hid hw6; have HT6 := Lib.hid (HTX.out.fr hf6); have HF6 := Lib.hid (HFX.out.trans hf6); have HB6 := Lib.hid (HBX.out.fr hf6 HN.out)
          clear hw6 hf6 y0 y1 y2 d0 d1 d2
          cases hq : q.2 with
          | none =>
            have he2 : e = .returned (.int .i64 (-1)) := by rw [he, hq]; rfl
            clear he; subst he2
            have HE := Lib.hid (H4Q.out hq)
            clear hq
            go_wp2_with fail
            go_ret
            rw [HE.out]
            exact ⟨rfl, _, _, HW6.out, HF6.out⟩
          | some p =>
            have he2 : e = .returned (.int .i64 (p : Int)) := by rw [he, hq]; rfl
            clear he; subst he2
            have hpos : (0 : Int) ≤ (p : Int) := by omega
            have HE := Lib.hid (H5Q.out p hq)
            clear hq
            obtain ⟨y0, y1, y2⟩ := HB6.out.cells
            have hb7 := below_alloc1 w6 (.cells #[.int .i64 (i : Int), .int .i64 (p : Int)] 3)
            have HN7 := Lib.hid (NumsIn.two (S := nr g M vs6 vp6) w6 i p 3 (nr_new HW6.out (Nat.le_refl _)))
            have HW7 := Lib.hid (HW6.out.later hb7); have HT7 := Lib.hid (HT6.out.keep (S' := nr g M vs6 vp6) (fun b hb hl => ⟨hb, hb7.block b hl⟩)); have HF7 := Lib.hid (HF6.out.later hz hb7)
            obtain ⟨_, _, A2, c2, e1, _, d0, d1, d2, hk1⟩ := HT6.out.kid1 (by rw [HKN.out]; decide)
            injection e1 with e1; injection e1 with e1 e2; subst e1; subst e2
            have HK1 := Lib.hid (hk1.keep (S' := nr g M vs6 vp6) (fun b hb hl => ⟨hb, hb7.block b hl⟩))
            clear hb7 hk1
            go_wp2_with fail
            refine (HTK.out 1 (by decide) _ _ 4 [i, p] _ _ _ _ _ HI6.out HW7.out HK1.out HN7.out).mono ?_; rintro e w8 ⟨rfl, hw8⟩
            rw [← HE.out] at hw8 ⊢
            have HW8 := Lib.hid (WebTo.after HF7.out hw8)
            clear hw8 y0 y1 y2 d0 d1 d2
            go_wp2_with fail
            go_ret
            exact ⟨rfl, HW8.out⟩
    · obtain ⟨_, _, A2, c2, e1, _, f0, f1, f2, hk1⟩ := HT1.out.kid1 (by rw [HKN.out]; decide)
      injection e1 with e1; injection e1 with e1 e2; subst e1; subst e2
      have hb2 := below_alloc1 w1 (.cells #[.int .i64 (i : Int)] 3)
      have HN2 := Lib.hid (NumsIn.one (S := nr g M vs vp) w1 i 3 (nr_new HW1.out (Nat.le_refl _)))
      have HW2 := Lib.hid (HW1.out.later hb2); have HF2 := Lib.hid (HR1.out.later hz hb2)
      have HK1 := Lib.hid (hk1.keep (S' := nr g M vs vp) (fun b hb hl => ⟨hb, hb2.block b hl⟩))
      have HE := Lib.hid (H2.out rfl)
      clear hb2 hk0 hk1
      go_wp2_with fail
      refine (HTK.out 1 (by decide) _ _ 5 [i] _ _ _ _ _ HI.out HW2.out HK1.out HN2.out).mono ?_; rintro e w5 ⟨rfl, hw5⟩
      rw [← HE.out] at hw5 ⊢
      have HW5 := Lib.hid (WebTo.after HF2.out hw5)
      clear hw5 x0 x1 x2 d0 d1 d2 f0 f1 f2
      go_wp2_with fail
      go_ret
      exact ⟨rfl, HW5.out⟩
  · subst h4
    have HE := Lib.hid (H6.out (by omega))
    go_wp2_with fail
    go_ret
    rw [HE.out]
    exact ⟨rfl, _, _, HW1.out, HR1.out⟩
  · subst h7
    have HE := Lib.hid (H6.out (by omega))
    go_wp2_with fail
    go_ret
    rw [HE.out]
    exact ⟨rfl, _, _, HW1.out, HR1.out⟩
end Go.Proofs.YtihbmgkbipeakaaGreat

namespace Go.Proofs.YtihbmgkbipeakaaGreat
open Go.RowKit

attribute [local go_sem ↓] Go.wp_at_zero Go.wp_at_succ

set_option maxRecDepth 100000 in
set_option maxHeartbeats 8000000 in
theorem ocopy : ∀ (N : Nat) (t : T) (v : Value) (w : World), t.bulk < N → TermAt w v t → t.bulk ≤ 1048576 →
    Calls Tryz.prog 53 #[v] w (RetT t w) := by
  intro N
  induction N with
  | zero => intro t v w h; omega
  | succ N ih =>
    intro t v w hN ht hbk
    cases ht with
    | mk k s A cap ks U h1 h2 h3 h4 hA hU =>
      simp only [T.bulk] at hN hbk
      have hkn : ks.length ≤ 262144 := by have := T.len_le ks; omega
      have HT := Lib.hid (TermAt.mk k s A cap ks U h1 h2 h3 h4 hA hU)
      obtain ⟨i0, hi0, hz0, hz1, hz2⟩ := info_parts Tryz.infoT
      go_enter Tryz.func53, Tryz.ntmps53
      go_wp2_with fail
      obtain ⟨bx, by', hb1, hsz⟩ := box_two w (.int .i64 k) (.string s) (.slice none 0 0) (.int .i64 0) (.string ⟨#[]⟩) (.slice none 0 0)
      generalize (w.alloc (.cells #[.int .i64 k, .string s, .slice none 0 0] 29)).alloc (.cells #[.int .i64 0, .string ⟨#[]⟩, .slice none 0 0] 29) = w1 at bx by' hb1 hsz ⊢
      have hstart : ArrAt w k s [] w1 := ⟨_, bx, by', TermsRow.nil _ _, hb1, by omega⟩
      have HST := Lib.hid hstart
      have IH := Lib.hid ih
      clear bx by' hb1 hsz hstart ih
      have hA2 := Lib.hid hA; have hU2 := Lib.hid hU
      clear hA hU
      go_loopw [11] (fun i wr => ∃ j : Nat, j ≤ ks.length ∧ i = .int .i64 j ∧ ArrAt w k s (ks.take j) wr) (fun i _ => ks.length - (intOf i).toNat)
      case atStart => exact ⟨0, Nat.zero_le _, rfl, by simpa using HST.out⟩
      case round =>
        obtain ⟨j, hj, rfl, hat⟩ := hrel
        by_cases hlt : j < ks.length
        · obtain ⟨kv, bx, bz, hrow, hbw, hsz⟩ := hat
          obtain ⟨b, off, B1, C1, rfl, d0, d1, d2, hu⟩ := TermAt.cells hlt hA2.out hU2.out
          have e0 := cell_later hbw d0; have e1 := cell_later hbw d1; have e2 := cell_later hbw d2
          have hi : (j : Int) < (ks.length : Int) := by omega
          have HU := Lib.hid (hu.later hbw); have HLT := Lib.hid hlt; have HJ := Lib.hid hj
          have HB2 := Lib.hid (show ks[j].bulk < N ∧ ks[j].bulk ≤ 1048576 by have := T.bulk_at ks j hlt; omega)
          clear d0 d1 d2 hu hj
          go_upto_region 6 with fail
          have hq := below_alloc1 wr (.cells #[.int .i64 ks[j].kind, .string ks[j].name, .slice B1 ks[j].kids.length C1] 29)
          have qx := Box.new wr (.int .i64 ks[j].kind) (.string ks[j].name) (.slice B1 ks[j].kids.length C1)
          have hqs := size_alloc1 wr (.cells #[.int .i64 ks[j].kind, .string ks[j].name, .slice B1 ks[j].kids.length C1] 29)
          generalize wr.alloc (.cells #[.int .i64 ks[j].kind, .string ks[j].name, .slice B1 ks[j].kids.length C1] 29) = wq at hq qx hqs ⊢
          replace bx := bx.later hq; replace bz := bz.later hq
          replace hrow := hrow.later hq
          replace hbw := hbw.trans (hq.mono hbw.size)
          have hsz' : w.heap.size + 2 ≤ wq.heap.size := by omega
          have HU2 := Lib.hid (HU.out.later hq)
          obtain ⟨xs, hown, hx⟩ := hrow.owns
          have hlen : (List.take j ks).length = j := by rw [List.length_take]; omega
          have HSTEP := Lib.hid (fun t w3 w4 u0 u1 u2 g cap => ArrAt.step (k := k) (s := s) (t := t) (w3 := w3) (w4 := w4) (u0 := u0) (u1 := u1) (u2 := u2) (g := g) (cap := cap) bx bz hrow hbw hsz' hx hown.1)
          have HTK := Lib.hid (show List.take j ks ++ [ks[j]] = List.take (j + 1) ks from (List.take_succ_eq_append_getElem hlt).symm)
          obtain ⟨y0, y1, y2⟩ := bx.cells
          obtain ⟨f0, f1, f2⟩ := bx.free
          obtain ⟨q0, q1, q2⟩ := qx.cells
          have hblk := hrow.block
          rw [hlen] at hown HSTEP
          have HOWN := Lib.hid hown; have HBX := Lib.hid bx; have HBLK := Lib.hid hblk
          have hbz : w.heap.size < wq.heap.size := by omega
          have HSZ := Lib.hid hsz'
          have HNE := Lib.hid (show kv.ownBlock ≠ some w.heap.size from fun e => by have := (hblk _ e).1; omega)
          clear e0 e1 e2 hx hrow bz hsz hsz' hlen hown bx hq hbw hblk hqs
          go_region_law (first | (refine step_append_lies _ (by rfl) _ _ _ (by rfl) (w.heap.size + 2) 29 i0 _ 3 48 Tryz.underlying27 hi0 hz0 hz1 hz2 rfl (by omega) _ _ _ (by rfl) HOWN3.out ⟨_, 0, none⟩ 1 1 _ (by rfl) (by rfl) (World.news_of_block (heap_alloc_new _ _)) HONE.out (by omega) (by unfold maxLen; omega) (by omega) HBS.out _ rfl ?_; intro g cap w4 hown4 hgrow hat hlt4; have HB4 := (HBX.out.later (hb3'.trans ((below_alloc1 w3 _).mono hb3'.size))).grown hgrow HNE.out; have c4 := HB4.cells.2.2; have f4 := HB4.free.2.2) | (go_simp; go_at_call 53; refine (IH.out _ _ _ HB2.out.1 HU2.out.drew HB2.out.2).mono ?_; rintro e w3 ⟨A3, C3, rfl, hti, hb3⟩; have hb3' := below_undrew hb3; have z0 := cell_later hb3' y0; have z1 := cell_later hb3' y1; have z2 := cell_later hb3' y2; have zz2 := cell_later (below_alloc1 w3 (.cells #[.int .i64 ks[j].kind, .string ks[j].name, .slice A3 ks[j].kids.length C3] 29)) z2; have HOWN3 := Lib.hid ((own_later HOWN.out hb3').alloc (.cells #[.int .i64 ks[j].kind, .string ks[j].name, .slice A3 ks[j].kids.length C3] 29)); have HONE := Lib.hid hti.one; have HBS := Lib.hid (show w.heap.size + 2 ≤ (w3.alloc (.cells #[.int .i64 ks[j].kind, .string ks[j].name, .slice A3 ks[j].kids.length C3] 29)).heap.size by rw [size_alloc1]; have := hb3'.size; have := HSZ.out; omega)))
          all_goals
            have hfin := HSTEP.out ks[j] w3 w4 _ _ _ g cap hb3' hti hown4 hgrow (hat.imp id (fun h => h.trans (size_alloc1 _ _)))
            rw [HTK.out] at hfin
            have HFIN := Lib.hid hfin
            clear hfin hgrow hown4 hti c4 f4 HB4 z0 z1 z2 zz2 hat hlt4
            go_wp2_with fail
            go_roundw
            case rel => exact ⟨j + 1, HLT.out, by go_num, HFIN.out⟩
            case measure => have := HLT.out; simp [intOf]; omega
        · obtain rfl : j = ks.length := by omega
          rw [List.take_of_length_le (Nat.le_refl _)] at hat
          obtain ⟨kv, bx, bz, hrow, hbw, hsz⟩ := hat
          obtain ⟨A4, C4, hkv, _, _⟩ := hrow.shape
          obtain ⟨y0, y1, y2⟩ := bx.cells
          obtain ⟨q0, q1, q2⟩ := bz.cells
          obtain ⟨f0, f1, f2⟩ := bz.free
          have HTM := Lib.hid (hrow.term k s h1 h2)
          have HBW := Lib.hid hbw; have HBZ := Lib.hid bz
          rw [hkv] at y2 HTM
          clear hkv hrow hbw bx bz
          go_wp2_with fail
          obtain ⟨d0, d1, d2⟩ := (box_set3 HBZ.out (.int .i64 k) (.string s) (.slice A4 ks.length C4)).cells
          refine bodyPost_ret (v := .agg #[.int .i64 k, .string s, .slice A4 ks.length C4]) (by simp [results, Tryz.results53, go_sem, d0, d1, d2]) rfl ?_
          exact ret_set3 (t := .mk k s ks) _ _ _ HBW.out (by omega) rfl rfl rfl HTM.out
end Go.Proofs.YtihbmgkbipeakaaGreat

namespace Go.Proofs.YtihbmgkbipeakaaGreat
open Go.RowKit

/-- Does a term count. -/
def T.use (t : T) : Bool := t.ground && t.isN
theorem use_f {t : T} (h : t.ground = false) : t.use = false := by unfold T.use; rw [h]; rfl
theorem use_t {t : T} (h : t.ground = true) : t.use = t.isN := by unfold T.use; rw [h]; rfl
theorem T.use_valid {t : T} (h : t.use = true) : t.valid = true := ((T.isN_iff t).1 (Bool.and_eq_true_iff.1 h).2).1
set_option maxRecDepth 100000 in
set_option maxHeartbeats 4000000 in
theorem ousable (t : T) (v : Value) (w : World) (ht : TermAt w v t) (hbk : t.bulk ≤ 1048576) :
    Calls Tryz.prog 50 #[v] w fun e w' => e = .returned (.bool t.use) ∧ Below w.heap.size w w' := by
  have HG := Lib.hid (fun v' W hW => oground t v' W hW hbk)
  have HI := Lib.hid (fun v' W hW => oisn t v' W hW hbk)
  have h1 := use_f (t := t)
  have h2 := use_t (t := t)
  obtain ⟨q, hq⟩ : ∃ q, t.use = q := ⟨_, rfl⟩
  rw [hq] at h1 h2 ⊢
  generalize t.ground = p at h1 h2 HG
  generalize t.isN = r at h2 HI
  have H1 := Lib.hid h1; have H2 := Lib.hid h2
  clear h1 h2 hq
  cases ht with
  | mk k s A cap ks U h1 h2 h3 h4 hA hU =>
  have ht := TermAt.mk k s A cap ks U h1 h2 h3 h4 hA hU
  go_enter Tryz.func50, Tryz.ntmps50
  go_upto_region 1 with fail
  have bx := Box.new w (.int .i64 k) (.string s) (.slice A ks.length cap)
  have hw := below_alloc1 w (.cells #[.int .i64 k, .string s, .slice A ks.length cap] 29)
  have HT := Lib.hid (ht.later hw); have HW := Lib.hid hw
  clear ht hA hU hw
  generalize w.alloc (.cells #[.int .i64 k, .string s, .slice A ks.length cap] 29) = w1 at bx HT HW ⊢
  obtain ⟨x0, x1, x2⟩ := bx.cells
  have BX := Lib.hid bx
  clear bx
  go_wp2_with fail
  refine (HG.out _ _ HT.out).mono ?_; rintro e w2 ⟨rfl, hb2⟩
  have HB := Lib.hid (HW.out.trans (hb2.mono HW.out.size))
  have HT2 := Lib.hid (HT.out.later hb2)
  obtain ⟨y0, y1, y2⟩ := (BX.out.later hb2).cells
  clear hb2 x0 x1 x2
  cases p with
  | false =>
    go_wp2_with fail
    go_ret
    exact ⟨ret_bool (H1.out trivial).symm, HB.out⟩
  | true =>
    go_wp2_with fail
    refine (HI.out _ _ HT2.out).mono ?_; rintro e w3 ⟨rfl, hb3⟩
    have HB3 := Lib.hid (HB.out.trans (hb3.mono HB.out.size))
    clear hb3
    go_wp2_with fail
    go_ret
    exact ⟨ret_bool (H2.out trivial).symm, HB3.out⟩

theorem TermsRow.push {w w1 w3 : World} {base : Nat} {v : Value} {L : List T} {t : T} {A8 : Option Addr} {c8 : Nat} {xs : List Value} {u0 u1 u2 : Value} {o : Obj} (hct : CT (but base v.ownBlock) w xs L) (hv : ∀ b, v.ownBlock = some b → b < w.heap.size) (hbase : base ≤ w.heap.size)
    (hb : Below w.heap.size w w1) (ht : TermIn (from_ w.heap.size) w1 (.agg #[u0, u1, u2]) t) (hown : w3.ownsRow base 29 3 (.slice A8 (L.length + 1) c8) (L.length + 1) (xs ++ [u0, u1, u2]))
    (hg : (w1.alloc o).grownBy w3 v.ownBlock) (hat : A8.map (·.block) = v.ownBlock ∨ A8.map (·.block) = some (w1.alloc o).heap.size) : TermsRow w3 base (.slice A8 (L.length + 1) c8) (L ++ [t]) := by
  obtain ⟨g8, cap, e, _⟩ := hown.form (by omega)
  injection e with e1 e2 e3
  subst e1; subst e3
  have hb' := hb.trans ((below_alloc1 w1 o).mono hb.size)
  refine TermsRow.snoc (w := w1.alloc o) (H := (w1.alloc o).heap.size) (fun i hi => ?_) hct.1 ?_ hown hg ?_ rfl
  · obtain ⟨a0, a1, a2, b0, b1, b2, b3⟩ := hct.2 i hi
    exact ⟨a0, a1, a2, b0, b1, b2, b3.keep fun b hb2 hl => ⟨hb2, hb'.block b hl⟩⟩
  · refine ht.keep fun b hbb hl => ⟨but_iff.2 ⟨by have := of_decide_eq_true hbb; omega, fun e => by have := hv b e; have := of_decide_eq_true hbb; omega⟩, Below.heap_alloc w1 o b hl⟩
  · rcases hat with h | h
    · exact .inl h.symm
    · right; injection h
/-- A list of terms as a slice holds it. -/
def KnownAt (w : World) (A : Option Addr) (cap : Nat) (L : List T) : Prop := TermAt w (.agg #[.int .i64 0, .string ⟨#[]⟩, .slice A L.length cap]) (.mk 0 ⟨#[]⟩ L)
theorem KnownAt.later {w w' : World} {A : Option Addr} {cap : Nat} {L : List T} (h : KnownAt w A cap L) (hb : Below w.heap.size w w') : KnownAt w' A cap L := TermAt.later h hb
theorem TermAt.inv {w : World} {v : Value} {t : T} (h : TermAt w v t) : ∃ (A : Option Addr) (cap : Nat) (U : Nat → Value × Value × Value), v = .agg #[.int .i64 t.kind, .string t.name, .slice A t.kids.length cap] ∧ t.kids.length ≤ cap ∧ cap ≤ maxLen ∧
    (t.kids.length = 0 ∨ ∃ b off, A = some ⟨b, off, none⟩ ∧ ∀ i, i < t.kids.length → w.cell? ⟨b, off + i * 3, none⟩ = some (U i).1 ∧ w.cell? ⟨b, off + i * 3 + 1, none⟩ = some (U i).2.1 ∧ w.cell? ⟨b, off + i * 3 + 2, none⟩ = some (U i).2.2) ∧
    (∀ i (h : i < t.kids.length), TermAt w (.agg #[(U i).1, (U i).2.1, (U i).2.2]) t.kids[i]) := by
  cases h with
  | mk k s A cap ks U h1 h2 h3 h4 hA hU => exact ⟨A, cap, U, rfl, h3, h4, hA, hU⟩
theorem KnownAt.inv {w : World} {A : Option Addr} {cap : Nat} {L : List T} (h : KnownAt w A cap L) : ∃ U : Nat → Value × Value × Value, L.length ≤ cap ∧ cap ≤ maxLen ∧ (L.length = 0 ∨ ∃ b off, A = some ⟨b, off, none⟩ ∧ ∀ i, i < L.length → w.cell? ⟨b, off + i * 3, none⟩ = some (U i).1 ∧ w.cell? ⟨b, off + i * 3 + 1, none⟩ = some (U i).2.1 ∧ w.cell? ⟨b, off + i * 3 + 2, none⟩ = some (U i).2.2) ∧
    (∀ i (h : i < L.length), TermAt w (.agg #[(U i).1, (U i).2.1, (U i).2.2]) L[i]) := by
  obtain ⟨A', cap', U, e, h1, h2, h3, h4⟩ := TermAt.inv h
  injection e with e; injection e with e; injection e with _ e; injection e with _ e; injection e with e _
  injection e with e1 _ e3
  subst e1; subst e3
  exact ⟨U, h1, h2, h3, h4⟩
theorem KnownAt.get {w : World} {A : Option Addr} {cap : Nat} {L : List T} (h : KnownAt w A cap L) {i : Nat} (hi : i < L.length) : ∃ b off A' cap', A = some ⟨b, off, none⟩ ∧ w.cell? ⟨b, off + i * 3, none⟩ = some (.int .i64 L[i].kind) ∧ w.cell? ⟨b, off + i * 3 + 1, none⟩ = some (.string L[i].name) ∧
    w.cell? ⟨b, off + i * 3 + 2, none⟩ = some (.slice A' L[i].kids.length cap') ∧ TermAt w (.agg #[.int .i64 L[i].kind, .string L[i].name, .slice A' L[i].kids.length cap']) L[i] := by
  obtain ⟨U, _, _, hA, hU⟩ := h.inv
  exact TermAt.cells hi hA hU
theorem KnownAt.cap_le {w : World} {A : Option Addr} {cap : Nat} {L : List T} (h : KnownAt w A cap L) : L.length ≤ cap ∧ cap ≤ maxLen := by
  obtain ⟨U, h1, h2, _⟩ := h.inv
  exact ⟨h1, h2⟩
theorem own_shapeU {w : World} {base : Nat} {e : TypeId} {size n : Nat} {v : Value} {xs : List Value} (h : w.ownsRow base e size v n xs) : ∃ A c, v = .slice A n c := by
  rcases h.2 with ⟨rfl, rfl⟩ | ⟨g, cap, cur, rfl, _⟩
  · exact ⟨_, _, rfl⟩
  · exact ⟨_, _, rfl⟩
theorem Src.newsU (w : World) (cs : List Value) (e : TypeId) (size : Nat) (h : cs.length = size) : Src (w.alloc (.cells cs.toArray e)) size (some ⟨w.heap.size, 0, none⟩) 1 cs := by
  refine ⟨by omega, .inr ⟨_, 0, rfl, fun j u hu => ?_⟩⟩
  rw [Nat.zero_add]
  have e := heap_alloc_new w (.cells cs.toArray e)
  unfold World.cell?; rw [e]; simpa using hu
/-- The terms that count. -/
def cnt (L : List T) : List T := (L.take 64).filter T.use
theorem cnt_succ (L : List T) (j : Nat) (h : j < L.length) : (L.take (j + 1)).filter T.use = if L[j].use = true then (L.take j).filter T.use ++ [L[j]] else (L.take j).filter T.use := by
  rw [List.take_succ_eq_append_getElem h, List.filter_append]
  by_cases hu : L[j].use = true
  · rw [if_pos hu]; simp [hu]
  · rw [if_neg hu]; simp [hu]

set_option maxRecDepth 100000 in
set_option maxHeartbeats 8000000 in
theorem ocounted (L : List T) (A : Option Addr) (cap : Nat) (w : World) (h : KnownAt w A cap L) (hb : ∀ t ∈ L, t.bulk ≤ 1048576) :
    Calls Tryz.prog 39 #[.slice A L.length cap] w fun e w' => ∃ v', e = .returned v' ∧ TermsRow w' w.heap.size v' (cnt L) ∧ Below w.heap.size w w' := by
  obtain ⟨i0, hi0, hz0, hz1, hz2⟩ := info_parts Tryz.infoT
  obtain ⟨m, hm⟩ : ∃ m, m = min L.length 64 := ⟨_, rfl⟩
  have hm1 : m ≤ L.length := by omega
  have hm2 : m ≤ 64 := by omega
  have HM := Lib.hid hm
  have hcap := h.cap_le
  unfold maxLen at hcap
  have HKN := Lib.hid h; have HBK := Lib.hid hb
  obtain ⟨n, hn⟩ : ∃ n, L.length = n := ⟨_, rfl⟩
  have HN := Lib.hid hn
  rw [hn] at hm1 hm hcap ⊢
  obtain ⟨hcap1, hcap2⟩ := hcap
  clear h hb hn
  go_enter Tryz.func39, Tryz.ntmps39
  go_upto_region 2 with fail
  go_cut [10, 11, 12] from 6 to 13 (fun s10 s11 s12 W' => s10 = .slice A m cap ∧ s11 = .int .i64 m ∧ s12 = .int .i64 0 ∧ w = W')
  case first =>
    by_cases h64 : 64 < n
    · have e : m = 64 := by omega
      subst e
      have h64' : (64 : Int) < (n : Int) := by omega
      have hc64 : (64 : Int) ≤ (cap : Int) := by omega
      clear hm h64
      go_wp2_with fail
      go_meet
      exact ⟨by first | rfl | (congr 1; omega), by first | rfl | (congr 1; omega), rfl, rfl⟩
    · have e : m = n := by omega
      subst e
      have h64' : ¬ ((64 : Int) < (m : Int)) := by omega
      clear hm h64
      go_wp2_with fail
      go_meet
      exact ⟨by first | rfl | (congr 1; omega), by first | rfl | (congr 1; omega), rfl, rfl⟩
  case rest =>
    obtain ⟨rfl, rfl, rfl, rfl⟩ := hcut
    clear hm
    have HST := Lib.hid (show TermsRow w w.heap.size (.slice none 0 0) ((L.take 0).filter T.use) ∧ Below w.heap.size w w from ⟨TermsRow.nil _ _, Below.refl _ _⟩)
    go_upto_region 3 with fail
    go_loopw [12, 3] (fun i l wr => ∃ j : Nat, j ≤ m ∧ i = .int .i64 j ∧ TermsRow wr w.heap.size l ((L.take j).filter T.use) ∧ Below w.heap.size w wr) (fun i _ _ => m - (intOf i).toNat)
    case atStart => exact ⟨0, Nat.zero_le _, rfl, HST.out.1, HST.out.2⟩
    case round =>
      obtain ⟨j, hj, rfl, hrow, hbw⟩ := hrel
      by_cases hlt : j < m
      · have hjL : j < L.length := by have := HM.out; omega
        obtain ⟨b, off, A1, c1, rfl, d0, d1, d2, hu⟩ := (HKN.out.later hbw).get hjL
        have hi : (j : Int) < (m : Int) := by omega
        have hwa := below_alloc1 wr (.cells #[.int .i64 (L[j]'(hjL)).kind, .string (L[j]'(hjL)).name, .slice A1 (L[j]'(hjL)).kids.length c1] 29)
        have bk := Box.new wr (.int .i64 (L[j]'(hjL)).kind) (.string (L[j]'(hjL)).name) (.slice A1 (L[j]'(hjL)).kids.length c1)
        have HSC := Lib.hid (cnt_succ L j hjL)
        have hbk2 := HBK.out (L[j]'(hjL)) (List.getElem_mem hjL)
        have HU := Lib.hid (hu.later hwa)
        obtain ⟨t, ht⟩ : ∃ t, L[j]'(hjL) = t := ⟨_, rfl⟩
        rw [ht] at d0 d1 d2 hwa bk HSC hbk2 HU
        have HUS := Lib.hid (fun v' W hW => ousable t v' W hW hbk2); have HCP := Lib.hid (fun v' W hW => ocopy (t.bulk + 1) t v' W (by omega) hW hbk2)
        have HROW := Lib.hid (hrow.later hwa); have HBW := Lib.hid (hbw.trans (hwa.mono hbw.size)); have HLT := Lib.hid hlt
        clear hrow hbw hu ht hjL hbk2
        go_upto_region 5 with fail
        generalize wr.alloc (.cells #[.int .i64 t.kind, .string t.name, .slice A1 t.kids.length c1] 29) = wa at *
        obtain ⟨k0, k1, k2⟩ := bk.cells
        have BK := Lib.hid bk
        clear bk d0 d1 d2 hwa
        go_wp2_with fail
        refine (HUS.out _ _ HU.out).mono ?_; rintro e w2 ⟨rfl, hb2⟩
        have HB2 := Lib.hid (HBW.out.trans (hb2.mono HBW.out.size)); have HROW2 := Lib.hid (HROW.out.later hb2); have HU2 := Lib.hid (HU.out.later hb2); have BK2 := Lib.hid (BK.out.later hb2)
        clear hb2 k0 k1 k2
        cases hu : t.use with
        | false =>
          have HE := Lib.hid (show (L.take (j + 1)).filter T.use = (L.take j).filter T.use by rw [HSC.out, hu]; rfl)
          clear hu
          go_wp2_with fail
          go_roundw
          case rel => exact ⟨j + 1, HLT.out, by go_num, by rw [HE.out]; exact HROW2.out, HB2.out⟩
          case measure => have := HLT.out; simp [intOf]; omega
        | true =>
          have HE := Lib.hid (show (L.take (j + 1)).filter T.use = (L.take j).filter T.use ++ [t] by rw [HSC.out, hu]; rfl)
          clear hu
          obtain ⟨k0, k1, k2⟩ := BK2.out.cells
          obtain ⟨xs, hown, hct⟩ := HROW2.out.cells
          have HBLK := Lib.hid HROW2.out.block
          have HOWN := Lib.hid hown; have HCT := Lib.hid hct
          have hlen : ((L.take j).filter T.use).length ≤ 64 := Nat.le_trans (List.length_filter_le _ _) (by rw [List.length_take]; omega)
          generalize (L.take j).filter T.use = L0 at HOWN HCT HBLK hlen HE
          obtain ⟨A7, c7, rfl⟩ := own_shapeU HOWN.out
          clear hown hct
          go_wp2_with fail
          refine (HCP.out _ _ HU2.out).mono ?_; rintro e w3 ⟨A3, C3, rfl, hti, hb3⟩
          have hwb := below_alloc1 w3 (.cells #[.int .i64 t.kind, .string t.name, .slice A3 t.kids.length C3] 29)
          have HOWN3 := Lib.hid (own_later (own_later HOWN.out hb3) hwb)
          have HONE := Lib.hid hti.one
          have hz3 : w.heap.size ≤ (w3.alloc (.cells #[.int .i64 t.kind, .string t.name, .slice A3 t.kids.length C3] 29)).heap.size := by rw [size_alloc1]; have := hb3.size; have := HB2.out.size; omega
          have HPUSH := Lib.hid (fun w8 A8 c8 hown8 hg8 hat8 => TermsRow.push (base := w.heap.size) (w3 := w8) (A8 := A8) (c8 := c8) (o := .cells #[.int .i64 t.kind, .string t.name, .slice A3 t.kids.length C3] 29 (0, 0)) HCT.out (fun b e => (HBLK.out b e).2) HB2.out.size hb3 hti hown8 hg8 hat8)
          have HB3 := Lib.hid ((HB2.out.trans (hb3.mono HB2.out.size)).trans (hwb.mono (Nat.le_trans HB2.out.size hb3.size)))
          clear hb3 hti hwb k0 k1 k2
          go_wp2_with (at_builtin; refine wpList_append_src _ rfl _ _ 27 rfl w.heap.size 29 i0 _ 3 48 Tryz.underlying27 hi0 hz0 hz1 hz2 rfl (by omega) _ _ _ rfl HOWN3.out _ 1 1 [.int .i64 t.kind, .string t.name, .slice A3 t.kids.length C3] rfl (Src.newsU _ _ _ 3 rfl) HONE.out (by unfold maxLen; omega) (by omega) hz3 ?_; intro A8 c8 w8 hown8 hg8 hat8; have HR8 := Lib.hid (HPUSH.out _ _ _ hown8 hg8 hat8); have HB8 := Lib.hid (HB3.out.grown hg8 HB3.out.size (fun k hk => (HBLK.out k hk).1)); clear hown8 hg8 hat8)
          go_roundw
          case rel => exact ⟨j + 1, HLT.out, by go_num, by rw [HE.out]; exact HR8.out, HB8.out⟩
          case measure => have := HLT.out; simp [intOf]; omega
      · obtain rfl : j = m := by omega
        have HR := Lib.hid hrow; have HB := Lib.hid hbw
        have HE := Lib.hid (show (L.take j).filter T.use = cnt L by
          unfold cnt
          have := HM.out
          by_cases h : L.length ≤ 64
          · rw [List.take_of_length_le (by omega), List.take_of_length_le h]
          · rw [show j = 64 by omega])
        clear hrow hbw
        go_wp2_with fail
        go_ret
        exact ⟨_, rfl, by rw [← HE.out]; exact HR.out, HB.out⟩
end Go.Proofs.YtihbmgkbipeakaaGreat
