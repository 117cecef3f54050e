/- Several texts in one: WebC, WebL, WebE, WebF, TermMill. -/
import Derived.Test.YtihbmgkbipeakaaGreatWebG9
import Derived.Test.YtihbmgkbipeakaaGreatWebG3
import Derived.Test.YtihbmgkbipeakaaGreatShelfG
import Derived.Shelf.SlicesE.Clone
import Derived.Test.YtihbmgkbipeakaaGreatRows
import Derived.Test.YtihbmgkbipeakaaGreatWebG0
import Derived.ProofKit
import Derived.OpenShut
import Derived.Maps.Range
import Derived.Test.YtihbmgkbipeakaaGreatWebG2
import Derived.OwnWalk
import Derived.Deep.Slices
namespace Go.Proofs.YtihbmgkbipeakaaGreat
open Go.RowKit

def BTo (B g M : Nat) (w : World) (vs vp : Value) (r : List Stp × Option Nat) (e : Ending) (w' : World) : Prop := e = .returned (.int .i64 (fI r.2)) ∧ WebTo B g M w vs vp r.1 w'
/-- What the program's build does of a term. -/
def BuildOk (B : Nat) (U : List T) (rec : List Stp → T → List Stp × Option Nat) (t : T) : Prop := ∀ (v : Value) (w : World) (g M : Nat) (vs vp : Value) (W : List Stp), Inv U W → WebAt B w g M vs vp W → TermIn (nr g M vs vp) w v t →
  Calls Tryz.prog 52 #[.pointer (some ⟨g, 0, none⟩), v] w (BTo B g M w vs vp (rec W t))

set_option maxRecDepth 100000 in
set_option maxHeartbeats 4000000 in
theorem oboth {B g M : Nat} {vs vp : Value} {W : List Stp} {U : List T} {rec : List Stp → T → List Stp × Option Nat} (hU : Uni U) (t : T) (v : Value) (w : World) (how : Nat) (ht2 : t.kids.length = 2) (htU : t ∈ U) (hI : Inv U W)
    (h : WebAt B w g M vs vp W) (hT : TermIn (nr g M vs vp) w v t) (hbk : t.bulk ≤ 1048576) (p0 : Wb.Puts U rec (t.kid 0)) (p1 : Wb.Puts U rec (t.kid 1)) (b0 : BuildOk B U rec (t.kid 0)) (b1 : BuildOk B U rec (t.kid 1)) :
    Calls Tryz.prog 100 #[.pointer (some ⟨g, 0, none⟩), v, .int .i64 (how : Int)] w (BTo B g M w vs vp (Wb.both rec W t how)) := by
  obtain ⟨A0, cap0, rfl⟩ := hT.view
  obtain ⟨b, off, A1, c1, rfl, hS, _⟩ := hT.kid0 (by omega)
  have hw := below_alloc1 w (.cells #[.int .i64 t.kind, .string t.name, .slice (some ⟨b, off, none⟩) t.kids.length cap0] 29)
  have bx := Box.new w (.int .i64 t.kind) (.string t.name) (.slice (some ⟨b, off, none⟩) t.kids.length cap0)
  have hz := h.lt.2
  have HN := Lib.hid (nr_new h (Nat.le_refl _))
  have HR1 := Lib.hid ((Fr.refl B g M vs vp w).later hz hw)
  have HW1 := Lib.hid (h.later hw)
  have HT1 := Lib.hid (hT.keep (fun b hb hl => ⟨hb, hw.block b hl⟩))
  have hp0 := p0 W hI
  have HB0 := Lib.hid (fun v' W' hW hT' => b0 v' W' g M vs vp W hI hW hT')
  have hRn : (rec W (t.kid 0)).2 = none → Wb.both rec W t how = ((rec W (t.kid 0)).1, none) := fun e => by simp only [Wb.both, e]
  have hRs : ∀ a, (rec W (t.kid 0)).2 = some a → (rec (rec W (t.kid 0)).1 (t.kid 1)).2 = none → Wb.both rec W t how = ((rec (rec W (t.kid 0)).1 (t.kid 1)).1, none) := fun a e e' => by simp only [Wb.both, e, e']
  have hRb : ∀ a b, (rec W (t.kid 0)).2 = some a → (rec (rec W (t.kid 0)).1 (t.kid 1)).2 = some b → Wb.both rec W t how = ((Wb.add (rec (rec W (t.kid 0)).1 (t.kid 1)).1 t how [a, b]).1, some (Wb.add (rec (rec W (t.kid 0)).1 (t.kid 1)).1 t how [a, b]).2) := fun a b e e' => by simp only [Wb.both, e, e']
  obtain ⟨R, hR⟩ : ∃ R, Wb.both rec W t how = R := ⟨_, rfl⟩
  rw [hR] at hRn hRs hRb ⊢
  clear hR
  generalize rec W (t.kid 0) = q0 at hp0 HB0 hRn hRs hRb
  obtain ⟨hI0, _, _⟩ := hp0
  have hp1 := p1 q0.1 hI0
  have HB1 := Lib.hid (fun v' W' vs' vp' hW hT' => b1 v' W' g M vs' vp' q0.1 hI0 hW hT')
  generalize rec q0.1 (t.kid 1) = q1 at hp1 HB1 hRs hRb
  obtain ⟨hI1, _, _⟩ := hp1
  have HAD := Lib.hid (fun v' W' F fc frm vs' vp' hW hT' hF => oadd (W := q1.1) (g := g) (M := M) (B := B) (vs := vs') (vp := vp') t v' W' how frm F fc hW hT' hbk hF (hI1.room hU htU))
  have HRN := Lib.hid hRn; have HRS := Lib.hid hRs; have HRB := Lib.hid hRb
  clear hRn hRs hRb p0 p1 b0 b1 hI hI0 hI1 h hT htU hbk hw
  obtain ⟨k, hk⟩ : ∃ k, t.kind = k := ⟨_, rfl⟩
  obtain ⟨nm, hnm⟩ : ∃ nm, t.name = nm := ⟨_, rfl⟩
  rw [hk, hnm, ht2] at bx HR1 HW1 HT1 ⊢
  have HK2 := Lib.hid ht2
  clear hk hnm ht2
  obtain ⟨x0, hx0⟩ : ∃ x, fI q0.2 = x := ⟨_, rfl⟩
  obtain ⟨x1, hx1⟩ : ∃ x, fI q1.2 = x := ⟨_, rfl⟩
  have HX0 := Lib.hid hx0; have HX1 := Lib.hid hx1
  clear hx0 hx1
  go_enter Tryz.func100, Tryz.ntmps100
  go_upto_region 1 with fail
  generalize w.alloc (.cells #[.int .i64 k, .string nm, .slice (some ⟨b, off, none⟩) 2 cap0] 29) = w1 at bx HR1 HW1 HT1 ⊢
  obtain ⟨bx0, bx1, bx2⟩ := bx.cells
  obtain ⟨_, _, A1, c1, e1, _, d0, d1, d2, hk0⟩ := HT1.out.kid0 (by rw [HK2.out]; decide)
  injection e1 with e1; injection e1 with e1 e2; subst e1; subst e2
  have HK0 := Lib.hid hk0; have BX := Lib.hid bx
  clear hk0 bx
  go_wp2_with fail
  refine (HB0.out _ _ HW1.out HK0.out).mono ?_; rintro e w2 ⟨rfl, vs2, vp2, hw2, hf2⟩
  rw [HX0.out]
  have HW2 := Lib.hid hw2; have HT2 := Lib.hid (HT1.out.fr hf2); have HF2 := Lib.hid (HR1.out.trans hf2); have BX2 := Lib.hid (BX.out.fr hf2 HN.out); have HN2 := Lib.hid (hf2.keep _ HN.out BX.out.lt).1
  clear hw2 hf2 bx0 bx1 bx2 d0 d1 d2
  cases hq : q0.2 with
  | none =>
    have HE := Lib.hid (HRN.out hq)
    have hx : x0 = -1 := by have := HX0.out; rw [hq] at this; exact this.symm
    subst hx
    clear hq
    go_wp2_with fail
    go_ret
    rw [HE.out]
    exact ⟨rfl, _, _, HW2.out, HF2.out⟩
  | some a =>
    have hx : x0 = (a : Int) := by have := HX0.out; rw [hq] at this; exact this.symm
    subst hx
    have HQ := Lib.hid hq
    have hneg : ¬ ((a : Int) < 0) := by omega
    clear hq
    obtain ⟨bx0, bx1, bx2⟩ := BX2.out.cells
    obtain ⟨_, _, A2, c2, e1, _, d0, d1, d2, hk1⟩ := HT2.out.kid1 (by rw [HK2.out]; decide)
    injection e1 with e1; injection e1 with e1 e2; subst e1; subst e2
    have HK1 := Lib.hid hk1
    clear hk1
    go_wp2_with fail
    refine (HB1.out _ _ _ _ HW2.out HK1.out).mono ?_; rintro e w3 ⟨rfl, vs3, vp3, hw3, hf3⟩
    rw [HX1.out]
    have HW3 := Lib.hid hw3; have HT3 := Lib.hid (HT2.out.fr hf3); have HF3 := Lib.hid (HF2.out.trans hf3); have BX3 := Lib.hid (BX2.out.fr hf3 HN2.out)
    clear hw3 hf3 bx0 bx1 bx2 d0 d1 d2
    cases hq : q1.2 with
    | none =>
      have HE := Lib.hid (HRS.out a HQ.out hq)
      have hx : x1 = -1 := by have := HX1.out; rw [hq] at this; exact this.symm
      subst hx
      clear hq
      go_wp2_with fail
      go_ret
      rw [HE.out]
      exact ⟨rfl, _, _, HW3.out, HF3.out⟩
    | some b2 =>
      have HE := Lib.hid (HRB.out a b2 HQ.out hq)
      have hx : x1 = (b2 : Int) := by have := HX1.out; rw [hq] at this; exact this.symm
      subst hx
      have hneg2 : ¬ ((b2 : Int) < 0) := by omega
      clear hq
      obtain ⟨bx0, bx1, bx2⟩ := BX3.out.cells
      have hb4 := below_alloc1 w3 (.cells #[.int .i64 (a : Int), .int .i64 (b2 : Int)] 3)
      have HN4 := Lib.hid (NumsIn.two (S := nr g M vs3 vp3) w3 a b2 3 (nr_new HW3.out (Nat.le_refl _)))
      have HW4 := Lib.hid (HW3.out.later hb4); have HT4 := Lib.hid (HT3.out.keep (fun b hb hl => ⟨hb, hb4.block b hl⟩)); have HF4 := Lib.hid (HF3.out.later hz hb4)
      clear hb4
      go_wp2_with fail
      refine (HAD.out _ _ _ _ [a, b2] _ _ HW4.out HT4.out HN4.out).mono ?_; rintro e w5 ⟨rfl, hw5⟩
      have HW5 := Lib.hid (WebTo.after HF4.out hw5)
      clear hw5 bx0 bx1 bx2
      go_wp2_with fail
      go_ret
      rw [HE.out]
      exact ⟨rfl, HW5.out⟩
end Go.Proofs.YtihbmgkbipeakaaGreat

namespace Go.Proofs.YtihbmgkbipeakaaGreat
open Go.RowKit

theorem CT.of_term {S : Nat → Bool} {w : World} {k : Int} {s : ByteArray} {b off n cap : Nat} {t : T} (h : TermIn S w (.agg #[.int .i64 k, .string s, .slice (some ⟨b, off, none⟩) n cap]) t) : ∃ xs, CT S w xs t.kids ∧ ∀ j u, xs[j]? = some u → w.cell? ⟨b, off + j, none⟩ = some u := by
  cases h with
  | mk k s A cap ks U h1 h2 h3 h4 hA hU =>
  have key : ∀ {q : Addr} {v : Value}, (only w S).cell? q = some v → w.cell? q = some v := fun {q v} hq => by
    rw [cell_only] at hq
    split at hq
    · exact hq
    · cases hq
  show ∃ xs, CT S w xs ks ∧ _
  have hc : ∀ i, i < ks.length → w.cell? ⟨b, off + i * 3, none⟩ = some (U i).1 ∧ w.cell? ⟨b, off + i * 3 + 1, none⟩ = some (U i).2.1 ∧ w.cell? ⟨b, off + i * 3 + 2, none⟩ = some (U i).2.2 := fun i hi => by
    rcases hA with h0 | ⟨b', off', e, hc⟩
    · omega
    · injection e with e; injection e with e1 e2; subst e1; subst e2
      obtain ⟨a, b, c⟩ := hc i hi
      exact ⟨key a, key b, key c⟩
  clear hA
  have main : ∀ (m : Nat), m ≤ ks.length → ∃ xs, CT S w xs (ks.take m) ∧ ∀ j u, xs[j]? = some u → w.cell? ⟨b, off + j, none⟩ = some u := by
    intro m
    induction m with
    | zero => exact fun _ => ⟨[], by rw [List.take_zero]; exact CT.nil S w, fun j u hu => by simp at hu⟩
    | succ m ih =>
      intro hm
      obtain ⟨xs, h5, h6⟩ := ih (by omega)
      have hl : xs.length = m * 3 := by rw [h5.1, List.length_take, Nat.min_eq_left (by omega)]
      obtain ⟨c0, c1, c2⟩ := hc m (by omega)
      refine ⟨xs ++ [(U m).1, (U m).2.1, (U m).2.2], ?_, fun j u hu => ?_⟩
      · rw [List.take_succ_eq_append_getElem (by omega)]
        exact h5.append (CT.one (hU m (by omega)))
      · by_cases hj : j < m * 3
        · rw [List.getElem?_append_left (by omega)] at hu
          exact h6 j u hu
        · rw [List.getElem?_append_right (by omega), hl] at hu
          obtain ⟨d, rfl⟩ : ∃ d, j = m * 3 + d := ⟨j - m * 3, by omega⟩
          rw [Nat.add_sub_cancel_left] at hu
          match d, hu with
          | 0, hu => injection hu with hu; subst hu; exact c0
          | 1, hu => injection hu with hu; subst hu; exact c1
          | 2, hu => injection hu with hu; subst hu; exact c2
          | d + 3, hu => simp at hu
  obtain ⟨xs, h5, h6⟩ := main ks.length (Nat.le_refl _)
  rw [List.take_of_length_le (Nat.le_refl _)] at h5
  exact ⟨xs, h5, h6⟩
theorem CT.term {S : Nat → Bool} {w : World} {xs : List Value} {L : List T} {b cap : Nat} (h : CT S w xs L) (hc : ∀ j u, xs[j]? = some u → w.cell? ⟨b, j, none⟩ = some u) (hS : S b = true) (k : Int) (s : ByteArray) (hk : -9223372036854775808 ≤ k ∧ k ≤ 9223372036854775807) (hs : s.size ≤ maxLen) (hl : L.length ≤ cap) (hm : cap ≤ maxLen) :
    TermIn S w (.agg #[.int .i64 k, .string s, .slice (some ⟨b, 0, none⟩) L.length cap]) (.mk k s L) := by
  have hx : ∀ i (hi : i < L.length), ∃ x : Value × Value × Value, xs[i * 3]? = some x.1 ∧ xs[i * 3 + 1]? = some x.2.1 ∧ xs[i * 3 + 2]? = some x.2.2 ∧ TermIn S w (.agg #[x.1, x.2.1, x.2.2]) L[i] := fun i hi => by
    obtain ⟨u0, u1, u2, a, b, c, d⟩ := h.2 i hi
    exact ⟨(u0, u1, u2), a, b, c, d⟩
  refine .mk k s _ cap L (fun i => if hi : i < L.length then (hx i hi).choose else (undef, undef, undef)) hk hs hl hm (.inr ⟨b, 0, rfl, fun i hi => ?_⟩) (fun i hi => ?_)
  · rw [dif_pos hi]
    obtain ⟨a, b', c, _⟩ := (hx i hi).choose_spec
    rw [cell_only, cell_only, cell_only, if_pos hS, if_pos hS, if_pos hS, Nat.zero_add]
    exact ⟨hc _ _ a, hc _ _ b', hc _ _ c⟩
  · rw [dif_pos hi]
    exact (hx i hi).choose_spec.2.2.2
theorem CT.erase {S : Nat → Bool} {w : World} {xs : List Value} {L : List T} (h : CT S w xs L) (i : Nat) : CT S w (xs.take (i * 3) ++ xs.drop ((i + 1) * 3)) (L.eraseIdx i) := by
  rw [List.eraseIdx_eq_take_drop_succ]
  exact (h.take i).append (h.drop (i + 1))
/-- The kids are cloned. -/
theorem oclone {S : Nat → Bool} {k : Int} {s : ByteArray} {b off n cap : Nat} {t : T} (w : World) (h : TermIn S w (.agg #[.int .i64 k, .string s, .slice (some ⟨b, off, none⟩) n cap]) t) (hn : n = t.kids.length) (h0 : 0 < n) (h4 : n ≤ 1048576) :
    Calls Tryz.prog 131 #[.slice (some ⟨b, off, none⟩) n cap] w fun e w' => ∃ g2 c2 xs, e = .returned (.slice (some ⟨g2, 0, none⟩) n c2) ∧ w'.ownsRow w.heap.size 29 3 (.slice (some ⟨g2, 0, none⟩) n c2) n xs ∧ CT S w xs t.kids ∧ Below w.heap.size w w' := by
  obtain ⟨i0, hi0, hz0, hz1, hz2⟩ := info_parts Tryz.infoT
  obtain ⟨xs, hct, hc⟩ := CT.of_term h
  have hcon := AnyE.slices_Clone (P := Tryz.prog) Tryz.layCl i0 _ 3 48 hi0 hz0 hz1 hz2 rfl (by omega) (fun w => Tryz.sizeOf29 w) b off n cap xs w (by rw [hct.1, hn]) (by unfold maxLen; omega) (by omega) hc hct.one'
  change Calls Tryz.prog 131 _ _ _ at hcon
  refine hcon.mono ?_
  rintro e w' ⟨v', rfl, hown, _, hb⟩
  obtain ⟨g2, c2, rfl, _⟩ := hown.form h0
  exact ⟨g2, c2, xs, rfl, hown, hct, hb⟩
end Go.Proofs.YtihbmgkbipeakaaGreat

namespace Go.Proofs.YtihbmgkbipeakaaGreat
open Go.RowKit

/-- The term with an exponent less, out of a cloned row from which one element was taken. -/
theorem less_made {B g M : Nat} {vs vp : Value} {w w1 w2 : World} {W : List Stp} {t : T} {i g2 c2 : Nat} {xs : List Value} (h : WebAt B w g M vs vp W) (hct : CT (nr g M vs vp) w xs t.kids) (hown : w1.ownsRow w.heap.size 29 3 (.slice (some ⟨g2, 0, none⟩) t.kids.length c2) t.kids.length xs)
    (hb : Below w.heap.size w w1) (hi : i < t.kids.length) (hd : ∀ k u, (xs.take (i * 3) ++ xs.drop ((i + 1) * 3))[k]? = some u → w2.cell? ⟨g2, k, none⟩ = some u) (hb2 : Below g2 w1 w2) :
    TermIn (nr g M vs vp) w2 (.agg #[.int .i64 7, .string ⟨#[]⟩, .slice (some ⟨g2, 0, none⟩) (t.kids.length - 1) c2]) (t.lessOf i) ∧ Below w.heap.size w w2 := by
  obtain ⟨a1, a2, cur, a3⟩ := own_type hown (b := g2) rfl
  have hbb : Below w.heap.size w w2 := hb.trans (hb2.mono a1)
  have hct2 := (hct.keep (S' := nr g M vs vp) fun b hb' hl => ⟨hb', hbb.block b hl⟩).erase i
  have e : (t.kids.eraseIdx i).length = t.kids.length - 1 := List.length_eraseIdx_of_lt hi
  have hcap : t.kids.length ≤ c2 ∧ c2 ≤ maxLen := by
    rcases hown.2 with ⟨h0, _⟩ | ⟨_, cap, _, hv, _, _, h5, h6, _⟩
    · cases h0
    · injection hv with hv1 hv2 hv3; subst hv3; exact ⟨h5, h6⟩
  have := CT.term hct2 hd (nr_new h a1) 7 ⟨#[]⟩ (by omega) (Nat.zero_le _) (by rw [e]; omega) hcap.2
  rw [e] at this
  exact ⟨this, hbb⟩
namespace Wb
variable {rec : List Stp → T → List Stp × Option Nat} {t : T} {W : List Stp} {f j i : Nat}
theorem pow_skip (hf : findK W (t.kid j).key = none) : pow rec t (f + 1) j W = pow rec t f (j + 1) W := by
  have : find W (t.kid j) = none := hf
  simp only [pow, this]
theorem pow_one (hf : findK W (t.kid j).key = some i) (h1 : t.kids.length = 1) : pow rec t (f + 1) j W = ((add W t 11 [i]).1, some (add W t 11 [i]).2) := by
  have : find W (t.kid j) = some i := hf
  simp only [pow, this, if_pos h1]
theorem pow_less (hf : findK W (t.kid j).key = some i) (h1 : t.kids.length ≠ 1) (hr : (rec W (t.lessOf j)).2 = none) : pow rec t (f + 1) j W = pow rec t f (j + 1) (rec W (t.lessOf j)).1 := by
  have : find W (t.kid j) = some i := hf
  simp only [pow, this, if_neg h1, hr]
theorem pow_more {p : Nat} (hf : findK W (t.kid j).key = some i) (h1 : t.kids.length ≠ 1) (hr : (rec W (t.lessOf j)).2 = some p) : pow rec t (f + 1) j W = ((add (rec W (t.lessOf j)).1 t 10 [p, i]).1, some (add (rec W (t.lessOf j)).1 t 10 [p, i]).2) := by
  have : find W (t.kid j) = some i := hf
  simp only [pow, this, if_neg h1, hr]
end Wb
set_option maxRecDepth 100000 in
set_option maxHeartbeats 8000000 in
theorem opower {B g M : Nat} {vs vp : Value} {W : List Stp} {U : List T} {rec : List Stp → T → List Stp × Option Nat} (hU : Uni U) (t : T) (v : Value) (w : World) (hn0 : 0 < t.kids.length) (htU : t ∈ U) (hI : Inv U W)
    (h : WebAt B w g M vs vp W) (hT : TermIn (nr g M vs vp) w v t) (hbk : t.bulk ≤ 1048576) (hp : ∀ i, i < t.kids.length → 1 < t.kids.length → Wb.Puts U rec (t.lessOf i)) (hb : ∀ i, i < t.kids.length → 1 < t.kids.length → BuildOk B U rec (t.lessOf i)) :
    Calls Tryz.prog 101 #[.pointer (some ⟨g, 0, none⟩), v] w (BTo B g M w vs vp (Wb.pow rec t t.kids.length 0 W)) := by
  obtain ⟨A0, cap0, rfl⟩ := hT.view
  obtain ⟨b, off, _, _, rfl, hS, _⟩ := hT.kid0 hn0
  have hz := h.lt.2
  have hw := below_alloc1 w (.cells #[.int .i64 t.kind, .string t.name, .slice (some ⟨b, off, none⟩) t.kids.length cap0] 29)
  have bx := Box.new w (.int .i64 t.kind) (.string t.name) (.slice (some ⟨b, off, none⟩) t.kids.length cap0)
  have hn4 : t.kids.length ≤ 262144 := by have := T.len_le t.kids; have := t.bulk_eq; omega
  have HST := Lib.hid (show Inv U W ∧ WebAt B _ g M vs vp W ∧ Fr B g M vs vp w vs vp _ ∧ TermIn (nr g M vs vp) _ (.agg #[.int .i64 t.kind, .string t.name, .slice (some ⟨b, off, none⟩) t.kids.length cap0]) t ∧ nr g M vs vp w.heap.size = true from
    ⟨hI, h.later hw, (Fr.refl B g M vs vp w).later hz hw, hT.keep (fun b hb hl => ⟨hb, hw.block b hl⟩), nr_new h (Nat.le_refl _)⟩)
  obtain ⟨R, hR⟩ : ∃ R, Wb.pow rec t t.kids.length 0 W = R := ⟨_, rfl⟩
  rw [hR]
  have HR := Lib.hid hR
  have HP := Lib.hid hp; have HB := Lib.hid hb
  have HFD := Lib.hid (fun (j : Nat) (hj : j < t.kids.length) v' W' Wj vsj vpj (hW : WebAt B W' g M vsj vpj Wj) (hT' : TermAt W' v' (t.kid j)) => ofind (t.kid j) v' W' hW hT' (by have := T.kid_bulk hj; omega))
  have HAD := Lib.hid (fun v' W' how F fc frm Wj vs' vp' (hI' : Inv U Wj) hW hT' hF => oadd (W := Wj) (g := g) (M := M) (B := B) (vs := vs') (vp := vp') t v' W' how frm F fc hW hT' hbk hF (hI'.room hU htU))
  obtain ⟨n, hn⟩ : ∃ n, t.kids.length = n := ⟨_, rfl⟩
  obtain ⟨k, hk⟩ : ∃ k, t.kind = k := ⟨_, rfl⟩
  obtain ⟨nm, hnm⟩ : ∃ nm, t.name = nm := ⟨_, rfl⟩
  rw [hk, hnm, hn] at bx HST ⊢
  rw [hn] at hn0 hn4 HR
  have HN := Lib.hid hn
  clear hR hp hb h hT hI hw hk hnm hn
  go_enter Tryz.func101, Tryz.ntmps101
  go_upto_region 1 with fail
  generalize w.alloc (.cells #[.int .i64 k, .string nm, .slice (some ⟨b, off, none⟩) n cap0] 29) = w1 at bx HST ⊢
  obtain ⟨x0, x1, x2⟩ := bx.cells
  have BX := Lib.hid bx
  clear bx
  go_wp2_with fail
  clear x0 x1 x2
  go_loopw [13] (fun i wr => ∃ (j : Nat) (Wj : List Stp) (vsj vpj : Value), j ≤ n ∧ i = .int .i64 j ∧ Wb.pow rec t (n - j) j Wj = R ∧ Inv U Wj ∧ WebAt B wr g M vsj vpj Wj ∧ Fr B g M vs vp w vsj vpj wr ∧ TermIn (nr g M vsj vpj) wr (.agg #[.int .i64 k, .string nm, .slice (some ⟨b, off, none⟩) n cap0]) t ∧ Box wr w.heap.size (.int .i64 k) (.string nm) (.slice (some ⟨b, off, none⟩) n cap0) ∧ nr g M vsj vpj w.heap.size = true) (fun i _ => n - (intOf i).toNat)
  case atStart => exact ⟨0, W, vs, vp, Nat.zero_le _, rfl, HR.out, HST.out.1, HST.out.2.1, HST.out.2.2.1, HST.out.2.2.2.1, BX.out, HST.out.2.2.2.2⟩
  case round =>
    obtain ⟨j, Wj, vsj, vpj, hj, rfl, hpow, hIj, hwj, hfj, htj, hbj, hnj⟩ := hrel
    have HPOW := Lib.hid hpow; have HIJ := Lib.hid hIj; have HFJ := Lib.hid hfj; have HNJ := Lib.hid hnj; have HBJ := Lib.hid hbj
    by_cases hlt : j < n
    · obtain ⟨b', off', A1, c1, e1, hS', d0, d1, d2, hkj⟩ := htj.kid (i := j) (by rw [HN.out]; exact hlt)
      injection e1 with e1; injection e1 with e1 e2; subst e1; subst e2
      have hi : (j : Int) < (n : Int) := by omega
      have hwa := below_alloc1 wr (.cells #[.int .i64 (t.kid j).kind, .string (t.kid j).name, .slice A1 (t.kid j).kids.length c1] 29)
      have HW1 := Lib.hid (hwj.later hwa); have HT1 := Lib.hid (htj.keep (S' := nr g M vsj vpj) (fun b hb hl => ⟨hb, hwa.block b hl⟩)); have HK1 := Lib.hid (hkj.keep (S' := nr g M vsj vpj) (fun b hb hl => ⟨hb, hwa.block b hl⟩)); have HF1 := Lib.hid (HFJ.out.later hz hwa); have HB1 := Lib.hid (HBJ.out.later hwa)
      have HLT := Lib.hid hlt
      clear hpow hIj hwj hfj htj hbj hnj hkj hwa
      have bk := Box.new wr (.int .i64 (t.kid j).kind) (.string (t.kid j).name) (.slice A1 (t.kid j).kids.length c1)
      go_upto_region 4 with fail
      generalize wr.alloc (.cells #[.int .i64 (t.kid j).kind, .string (t.kid j).name, .slice A1 (t.kid j).kids.length c1] 29) = wa at *
      obtain ⟨bk0, bk1, bk2⟩ := bk.cells
      clear bk d0 d1 d2
      go_wp2_with fail
      refine (HFD.out j (by rw [HN.out]; exact HLT.out) _ _ _ _ _ HW1.out HK1.out.at).mono ?_; rintro e w2 ⟨he, hb2⟩
      have HW2 := Lib.hid (HW1.out.later hb2); have HT2 := Lib.hid (HT1.out.keep (S' := nr g M vsj vpj) (fun b hb hl => ⟨hb, hb2.block b hl⟩)); have HF2 := Lib.hid (HF1.out.later hz hb2); have HB2 := Lib.hid (HB1.out.later hb2)
      obtain ⟨f, hfn⟩ : ∃ f, n - j = f + 1 := ⟨n - j - 1, by have := HLT.out; omega⟩
      have HFN := Lib.hid hfn
      clear hb2 bk0 bk1 bk2 hfn
      cases hf : findK Wj (t.kid j).key with
      | none =>
        have he2 : e = .returned (.int .i64 (-1)) := by rw [he, hf]; rfl
        clear he; subst he2
        have HE := Lib.hid (show Wb.pow rec t (n - (j + 1)) (j + 1) Wj = R by
          rw [show n - (j + 1) = f by have := HFN.out; omega, ← HPOW.out, HFN.out]
          exact (Wb.pow_skip hf).symm)
        clear hf
        go_wp2_with fail
        go_roundw
        case rel => exact ⟨j + 1, Wj, vsj, vpj, HLT.out, by go_num, HE.out, HIJ.out, HW2.out, HF2.out, HT2.out, HB2.out, HNJ.out⟩
        case measure => have := HLT.out; simp [intOf]; omega
      | some i2 =>
        have he2 : e = .returned (.int .i64 (i2 : Int)) := by rw [he, hf]; rfl
        clear he; subst he2
        have hneg : ¬ ((i2 : Int) < 0) := by omega
        have HIF := Lib.hid hf
        clear hf
        obtain ⟨y0, y1, y2⟩ := HB2.out.cells
        by_cases h1 : n = 1
        · subst h1
          have HE := Lib.hid (show R = ((Wb.add Wj t 11 [i2]).1, some (Wb.add Wj t 11 [i2]).2) by
            rw [← HPOW.out, HFN.out]
            exact Wb.pow_one HIF.out HN.out)
          have hb4 := below_alloc1 w2 (.cells #[.int .i64 (i2 : Int)] 3)
          have HN4 := Lib.hid (NumsIn.one (S := nr g M vsj vpj) w2 i2 3 (nr_new HW2.out (Nat.le_refl _)))
          have HW4 := Lib.hid (HW2.out.later hb4); have HT4 := Lib.hid (HT2.out.keep (S' := nr g M vsj vpj) (fun b hb hl => ⟨hb, hb4.block b hl⟩)); have HF4 := Lib.hid (HF2.out.later hz hb4)
          clear hb4
          go_wp2_with fail
          refine (HAD.out _ _ 11 _ _ [i2] _ _ _ HIJ.out HW4.out HT4.out HN4.out).mono ?_; rintro e w5 ⟨rfl, hw5⟩
          have HW5 := Lib.hid (WebTo.after HF4.out hw5)
          clear hw5 y0 y1 y2
          go_wp2_with fail
          go_ret
          rw [HE.out]
          exact ⟨rfl, HW5.out⟩
        · have hn1 : ((n : Int) == 1) = false := by rw [beq_eq_false_iff_ne]; omega
          have hn1' : ¬ ((n : Int) = 1) := by omega
          have H1 := Lib.hid (show 1 < n by have := HLT.out; omega)
          clear h1
          go_wp2_with fail
          refine (oclone w2 HT2.out HN.out.symm hn0 (by omega)).mono ?_; rintro e w3 ⟨g2, c2, xs, rfl, hown, hct, hb3⟩
          have hcc : n ≤ c2 := by
            rcases hown.2 with ⟨h0, _⟩ | ⟨_, cap, _, hv, _, _, h5, _⟩
            · cases h0
            · injection hv with hv1 hv2 hv3; subst hv3; exact h5
          have HDL := Lib.hid (odelete g2 n c2 j (j + 1) xs w3 (by rw [hct.1, HN.out]) rfl HLT.out hcc (fun k u hu => by have := hown.cells (g := g2) rfl k u hu; rw [Go.WideShapes.add_plain, Nat.zero_add] at this; exact this) (fun k _ => hown.frozenAt k) hct.one')
          have HOW := Lib.hid hown; have HCT := Lib.hid hct; have HB3 := Lib.hid hb3
          clear hown hct hb3 y0 y1 y2
          go_wp2_with fail
          refine HDL.out.mono ?_; rintro e w4 ⟨rfl, hd, hb4⟩
          obtain ⟨hl4, hb24⟩ := less_made (t := t) HW2.out HCT.out (by rw [HN.out]; exact HOW.out) HB3.out (by rw [HN.out]; exact HLT.out) hd hb4
          rw [HN.out] at hl4
          have hb5 := below_alloc1 w4 (.cells #[.int .i64 7, .string ⟨#[]⟩, .slice (some ⟨g2, 0, none⟩) (n - 1) c2] 29)
          have bl := Box.new w4 (.int .i64 7) (.string ⟨#[]⟩) (.slice (some ⟨g2, 0, none⟩) (n - 1) c2)
          have hb25 := hb24.trans (hb5.mono hb24.size)
          have HL5 := Lib.hid (hl4.keep (S' := nr g M vsj vpj) (fun b hb hl => ⟨hb, hb5.block b hl⟩))
          have HW5 := Lib.hid (HW2.out.later hb25); have HT5 := Lib.hid (HT2.out.keep (S' := nr g M vsj vpj) (fun b hb hl => ⟨hb, hb25.block b hl⟩)); have HF5 := Lib.hid (HF2.out.later hz hb25); have HB5 := Lib.hid (HB2.out.later hb25)
          clear hd hb4 hl4 hb24 hb5 hb25
          go_upto_region 9 with fail
          generalize w4.alloc (.cells #[.int .i64 7, .string ⟨#[]⟩, .slice (some ⟨g2, 0, none⟩) (n - 1) c2] 29) = w5 at *
          obtain ⟨z0, z1, z2⟩ := bl.cells
          have hjt : j < t.kids.length := by rw [HN.out]; exact HLT.out
          have h1t : 1 < t.kids.length := by rw [HN.out]; exact H1.out
          have hp := HP.out j hjt h1t Wj HIJ.out
          have hbl := HB.out j hjt h1t _ w5 g M vsj vpj Wj HIJ.out HW5.out HL5.out
          have hl1 : (rec Wj (t.lessOf j)).2 = none → Wb.pow rec t f (j + 1) (rec Wj (t.lessOf j)).1 = R := fun e => by
            rw [← HPOW.out, HFN.out]; exact (Wb.pow_less HIF.out (by omega) e).symm
          have hl2 : ∀ p, (rec Wj (t.lessOf j)).2 = some p → R = ((Wb.add (rec Wj (t.lessOf j)).1 t 10 [p, i2]).1, some (Wb.add (rec Wj (t.lessOf j)).1 t 10 [p, i2]).2) := fun p e => by
            rw [← HPOW.out, HFN.out]; exact Wb.pow_more HIF.out (by omega) e
          generalize rec Wj (t.lessOf j) = q at hp hbl hl1 hl2
          obtain ⟨hI6, _, _⟩ := hp
          have HI6 := Lib.hid hI6; have HBL := Lib.hid hbl; have HL1 := Lib.hid hl1; have HL2 := Lib.hid hl2
          clear bl hjt h1t hI6 hbl hl1 hl2
          go_wp2_with fail
          refine HBL.out.mono ?_; rintro e w6 ⟨he, vs6, vp6, hw6, hf6⟩
          have HW6 := Lib.hid hw6; have HT6 := Lib.hid (HT5.out.fr hf6); have HF6 := Lib.hid (HF5.out.trans hf6); have HB6 := Lib.hid (HB5.out.fr hf6 HNJ.out); have HN6 := Lib.hid (hf6.keep _ HNJ.out HB5.out.lt).1
          clear hw6 hf6 z0 z1 z2
          cases hq : q.2 with
          | none =>
            have he2 : e = .returned (.int .i64 (-1)) := by rw [he, hq]; rfl
            clear he; subst he2
            have HE := Lib.hid (show Wb.pow rec t (n - (j + 1)) (j + 1) q.1 = R by
              rw [show n - (j + 1) = f by have := HFN.out; omega]
              exact HL1.out hq)
            clear hq
            go_wp2_with fail
            go_roundw
            case rel => exact ⟨j + 1, q.1, vs6, vp6, HLT.out, by go_num, HE.out, HI6.out, HW6.out, HF6.out, HT6.out, HB6.out, HN6.out⟩
            case measure => have := HLT.out; simp [intOf]; omega
          | some p =>
            have he2 : e = .returned (.int .i64 (p : Int)) := by rw [he, hq]; rfl
            clear he; subst he2
            have hpos : (0 : Int) ≤ (p : Int) := by omega
            have HE := Lib.hid (HL2.out p hq)
            clear hq
            obtain ⟨y0, y1, y2⟩ := HB6.out.cells
            have hb7 := below_alloc1 w6 (.cells #[.int .i64 (p : Int), .int .i64 (i2 : Int)] 3)
            have HN7 := Lib.hid (NumsIn.two (S := nr g M vs6 vp6) w6 p i2 3 (nr_new HW6.out (Nat.le_refl _)))
            have HW7 := Lib.hid (HW6.out.later hb7); have HT7 := Lib.hid (HT6.out.keep (S' := nr g M vs6 vp6) (fun b hb hl => ⟨hb, hb7.block b hl⟩)); have HF7 := Lib.hid (HF6.out.later hz hb7)
            clear hb7
            go_wp2_with fail
            refine (HAD.out _ _ 10 _ _ [p, i2] _ _ _ HI6.out HW7.out HT7.out HN7.out).mono ?_; rintro e w8 ⟨rfl, hw8⟩
            have HW8 := Lib.hid (WebTo.after HF7.out hw8)
            clear hw8 y0 y1 y2
            go_wp2_with fail
            go_ret
            rw [HE.out]
            exact ⟨rfl, HW8.out⟩
    · obtain rfl : j = n := by omega
      have HE := Lib.hid (show R = (Wj, none) by have := HPOW.out; rw [Nat.sub_self] at this; exact this.symm)
      have HW1 := Lib.hid hwj
      clear hpow hIj hwj hfj htj hbj hnj
      go_wp2_with fail
      go_ret
      rw [HE.out]
      exact ⟨rfl, _, _, HW1.out, HFJ.out⟩
end Go.Proofs.YtihbmgkbipeakaaGreat

namespace Go.Proofs.YtihbmgkbipeakaaGreat
open Go.RowKit

namespace Wb
variable {t : T} {W : List Stp} {n i : Nat}
theorem build_found (hf : findK W t.key = some i) : build (n + 1) W t = (W, some i) := by
  have : find W t = some i := hf
  simp only [build, this]
theorem build_pair (hf : findK W t.key = none) (hk : t.kind = 3) : build (n + 1) W t = both (build n) W t 6 := by
  have : find W t = none := hf
  simp only [build, this]
  rw [if_neg (by omega), if_pos hk]
theorem build_seal (hf : findK W t.key = none) (hk : t.kind = 5) : build (n + 1) W t = both (build n) W t 8 := by
  have : find W t = none := hf
  simp only [build, this]
  rw [if_neg (by omega), if_neg (by omega), if_pos hk]
theorem build_sign (hf : findK W t.key = none) (hk : t.kind = 6) : build (n + 1) W t = both (build n) W t 9 := by
  have : find W t = none := hf
  simp only [build, this]
  rw [if_neg (by omega), if_neg (by omega), if_neg (by omega), if_pos hk]
theorem build_pow (hf : findK W t.key = none) (hk : t.kind = 7) : build (n + 1) W t = pow (build n) t t.kids.length 0 W := by
  have : find W t = none := hf
  simp only [build, this]
  rw [if_neg (by omega), if_neg (by omega), if_neg (by omega), if_neg (by omega), if_pos hk]
theorem build_else (hf : findK W t.key = none) (hk : t.kind = 1 ∨ t.kind = 2) : build (n + 1) W t = (W, none) := by
  have : find W t = none := hf
  simp only [build, this]
  rw [if_neg (by omega), if_neg (by omega), if_neg (by omega), if_neg (by omega), if_neg (by omega)]
theorem build_hash (hf : findK W t.key = none) (hk : t.kind = 4) (h : (build n W (t.kid 0)).2 = none) : build (n + 1) W t = ((build n W (t.kid 0)).1, none) := by
  have : find W t = none := hf
  simp only [build, this]
  rw [if_pos hk, h]
theorem build_hashed (hf : findK W t.key = none) (hk : t.kind = 4) (h : (build n W (t.kid 0)).2 = some i) : build (n + 1) W t = ((add (build n W (t.kid 0)).1 t 7 [i]).1, some (add (build n W (t.kid 0)).1 t 7 [i]).2) := by
  have : find W t = none := hf
  simp only [build, this]
  rw [if_pos hk, h]
end Wb

set_option maxRecDepth 100000 in
set_option maxHeartbeats 8000000 in
theorem obuild {B : Nat} {U : List T} (hU : Uni U) (hbU : ∀ t ∈ U, t.bulk ≤ 1048576) : ∀ (n : Nat) (t : T), t.bulk < n → t ∈ U → BuildOk B U (Wb.build n) t := by
  intro n
  induction n with
  | zero => intro t h; omega
  | succ n ih =>
    intro t hn htU v w g M vs vp W hI h hT
    obtain ⟨A0, cap0, rfl⟩ := hT.view
    have hbk := hbU t htU
    have hz := h.lt.2
    have hsh := T.shapeK (Bool.and_eq_true_iff.1 (hU.ok t htU)).2
    have hw := below_alloc1 w (.cells #[.int .i64 t.kind, .string t.name, .slice A0 t.kids.length cap0] 29)
    have bx := Box.new w (.int .i64 t.kind) (.string t.name) (.slice A0 t.kids.length cap0)
    have HN := Lib.hid (nr_new h (Nat.le_refl _))
    have HR1 := Lib.hid ((Fr.refl B g M vs vp w).later hz hw)
    have HW1 := Lib.hid (h.later hw)
    have HT1 := Lib.hid (hT.keep (S' := nr g M vs vp) (fun b hb hl => ⟨hb, hw.block b hl⟩))
    have HFD := Lib.hid (fun v' W' (hW : WebAt B W' g M vs vp W) (hT' : TermAt W' v' t) => ofind t v' W' hW hT' hbk)
    have IHK := Lib.hid (fun i (hi : i < t.kids.length) => ih (t.kid i) (by have := T.kid_bulk hi; omega) (hU.kid t htU i hi))
    have HPK := Lib.hid (fun i (hi : i < t.kids.length) => Wb.build_puts hU n (t.kid i) (hU.kid t htU i hi))
    have IHL := Lib.hid (fun (h7 : t.kind = 7) i (hi : i < t.kids.length) (h1 : 1 < t.kids.length) => ih (t.lessOf i) (by have := T.less_bulk hi; omega) (hU.less t htU h7 h1 i hi))
    have HPL := Lib.hid (fun (h7 : t.kind = 7) i (hi : i < t.kids.length) (h1 : 1 < t.kids.length) => Wb.build_puts hU n (t.lessOf i) (hU.less t htU h7 h1 i hi))
    have HAD := Lib.hid (fun v' W' how F fc frm Wj vs' vp' (hI' : Inv U Wj) hW hT' hF => oadd (W := Wj) (g := g) (M := M) (B := B) (vs := vs') (vp := vp') t v' W' how frm F fc hW hT' hbk hF (hI'.room hU htU))
    have HBO := Lib.hid (fun v' W' how (h2 : t.kids.length = 2) hW hT' => oboth (rec := Wb.build n) (vs := vs) (vp := vp) (g := g) (M := M) (B := B) hU t v' W' how h2 htU hI hW hT' hbk (HPK.out 0 (by omega)) (HPK.out 1 (by omega)) (IHK.out 0 (by omega)) (IHK.out 1 (by omega)))
    have HPO := Lib.hid (fun v' W' (h7 : t.kind = 7) (h0 : 0 < t.kids.length) hW hT' => opower (rec := Wb.build n) (vs := vs) (vp := vp) (g := g) (M := M) (B := B) hU t v' W' h0 htU hI hW hT' hbk (HPL.out h7) (IHL.out h7))
    obtain ⟨R, hR⟩ : ∃ R, Wb.build (n + 1) W t = R := ⟨_, rfl⟩
    rw [hR]
    have HR := Lib.hid hR
    have HI := Lib.hid hI
    clear hR hI h hT hw ih hn
    obtain ⟨k, hk⟩ : ∃ k, t.kind = k := ⟨_, rfl⟩
    obtain ⟨nm, hnm⟩ : ∃ nm, t.name = nm := ⟨_, rfl⟩
    obtain ⟨kn, hkn⟩ : ∃ kn, t.kids.length = kn := ⟨_, rfl⟩
    rw [hk, hnm, hkn] at bx HR1 HW1 HT1 ⊢
    rw [hk, hkn] at hsh
    have HK := Lib.hid hk; have HKN := Lib.hid hkn
    have HSH := Lib.hid hsh
    clear hk hnm hkn hsh
    go_enter Tryz.func52, Tryz.ntmps52
    go_upto_region 1 with fail
    generalize w.alloc (.cells #[.int .i64 k, .string nm, .slice A0 kn cap0] 29) = w1 at bx HR1 HW1 HT1 ⊢
    obtain ⟨bx0, bx1, bx2⟩ := bx.cells
    have BX := Lib.hid bx
    clear bx
    go_wp2_with fail
    refine (HFD.out _ _ HW1.out HT1.out.at).mono ?_; rintro e w2 ⟨he, hb2⟩
    have HW2 := Lib.hid (HW1.out.later hb2); have HT2 := Lib.hid (HT1.out.keep (S' := nr g M vs vp) (fun b hb hl => ⟨hb, hb2.block b hl⟩)); have HF2 := Lib.hid (HR1.out.later hz hb2); have HB2 := Lib.hid (BX.out.later hb2)
    clear hb2 bx0 bx1 bx2
    cases hf : findK W t.key with
    | some i =>
      have he2 : e = .returned (.int .i64 (i : Int)) := by rw [he, hf]; rfl
      clear he; subst he2
      have hpos : (0 : Int) ≤ (i : Int) := by omega
      have HE := Lib.hid (show R = (W, some i) by rw [← HR.out]; exact Wb.build_found hf)
      clear hf
      go_wp2_with fail
      go_ret
      rw [HE.out]
      exact ⟨rfl, _, _, HW2.out, HF2.out⟩
    | none =>
      have he2 : e = .returned (.int .i64 (-1)) := by rw [he, hf]; rfl
      clear he; subst he2
      have HF := Lib.hid hf
      clear hf
      obtain ⟨y0, y1, y2⟩ := HB2.out.cells
      rcases HSH.out with ⟨h12, h0⟩ | ⟨h356, h2⟩ | ⟨h4, h1⟩ | ⟨h7, h1, h14⟩
      · have HE := Lib.hid (show R = (W, none) by rw [← HR.out]; exact Wb.build_else HF.out (by rw [HK.out]; exact h12))
        rcases h12 with rfl | rfl
        · clear h0
          go_wp2_with fail
          go_ret
          rw [HE.out]
          exact ⟨rfl, _, _, HW2.out, HF2.out⟩
        · clear h0
          go_wp2_with fail
          go_ret
          rw [HE.out]
          exact ⟨rfl, _, _, HW2.out, HF2.out⟩
      · subst h2
        rcases h356 with rfl | rfl | rfl
        · have HE := Lib.hid (HR.out.symm.trans (Wb.build_pair (n := n) HF.out HK.out))
          go_wp2_with fail
          refine (HBO.out _ _ 6 HKN.out HW2.out HT2.out).mono ?_; rintro e w5 ⟨rfl, hw5⟩
          rw [← HE.out] at hw5 ⊢
          have HW5 := Lib.hid (WebTo.after HF2.out hw5)
          clear hw5 y0 y1 y2
          go_wp2_with fail
          go_ret
          exact ⟨rfl, HW5.out⟩
        · have HE := Lib.hid (HR.out.symm.trans (Wb.build_seal (n := n) HF.out HK.out))
          go_wp2_with fail
          refine (HBO.out _ _ 8 HKN.out HW2.out HT2.out).mono ?_; rintro e w5 ⟨rfl, hw5⟩
          rw [← HE.out] at hw5 ⊢
          have HW5 := Lib.hid (WebTo.after HF2.out hw5)
          clear hw5 y0 y1 y2
          go_wp2_with fail
          go_ret
          exact ⟨rfl, HW5.out⟩
        · have HE := Lib.hid (HR.out.symm.trans (Wb.build_sign (n := n) HF.out HK.out))
          go_wp2_with fail
          refine (HBO.out _ _ 9 HKN.out HW2.out HT2.out).mono ?_; rintro e w5 ⟨rfl, hw5⟩
          rw [← HE.out] at hw5 ⊢
          have HW5 := Lib.hid (WebTo.after HF2.out hw5)
          clear hw5 y0 y1 y2
          go_wp2_with fail
          go_ret
          exact ⟨rfl, HW5.out⟩
      · subst h4; subst h1
        obtain ⟨b, off, A1, c1, rfl, _, d0, d1, d2, hk0⟩ := HT2.out.kid0 (by rw [HKN.out]; decide)
        have HK0 := Lib.hid hk0
        have hp := HPK.out 0 (by rw [HKN.out]; decide) W HI.out
        have hbl := IHK.out 0 (by rw [HKN.out]; decide) _ _ g M vs vp W HI.out HW2.out HK0.out
        have hl1 := fun e => HR.out.symm.trans (Wb.build_hash (n := n) HF.out HK.out e)
        have hl2 := fun p e => HR.out.symm.trans (Wb.build_hashed (n := n) (i := p) HF.out HK.out e)
        generalize Wb.build n W (t.kid 0) = q at hp hbl hl1 hl2
        obtain ⟨hI6, _, _⟩ := hp
        have HI6 := Lib.hid hI6; have HBL := Lib.hid hbl; have HL1 := Lib.hid hl1; have HL2 := Lib.hid hl2
        clear hk0 hI6 hbl hl1 hl2
        go_wp2_with fail
        refine HBL.out.mono ?_; rintro e w6 ⟨he, vs6, vp6, hw6, hf6⟩
        have HW6 := Lib.hid hw6; have HT6 := Lib.hid (HT2.out.fr hf6); have HF6 := Lib.hid (HF2.out.trans hf6); have HB6 := Lib.hid (HB2.out.fr hf6 HN.out)
        clear hw6 hf6 y0 y1 y2 d0 d1 d2
        cases hq : q.2 with
        | none =>
          have he2 : e = .returned (.int .i64 (-1)) := by rw [he, hq]; rfl
          clear he; subst he2
          have HE := Lib.hid (HL1.out hq)
          clear hq
          go_wp2_with fail
          go_ret
          rw [HE.out]
          exact ⟨rfl, _, _, HW6.out, HF6.out⟩
        | some p =>
          have he2 : e = .returned (.int .i64 (p : Int)) := by rw [he, hq]; rfl
          clear he; subst he2
          have hpos : (0 : Int) ≤ (p : Int) := by omega
          have HE := Lib.hid (HL2.out p hq)
          clear hq
          obtain ⟨y0, y1, y2⟩ := HB6.out.cells
          have hb7 := below_alloc1 w6 (.cells #[.int .i64 (p : Int)] 3)
          have HN7 := Lib.hid (NumsIn.one (S := nr g M vs6 vp6) w6 p 3 (nr_new HW6.out (Nat.le_refl _)))
          have HW7 := Lib.hid (HW6.out.later hb7); have HT7 := Lib.hid (HT6.out.keep (S' := nr g M vs6 vp6) (fun b hb hl => ⟨hb, hb7.block b hl⟩)); have HF7 := Lib.hid (HF6.out.later hz hb7)
          clear hb7
          go_wp2_with fail
          refine (HAD.out _ _ 7 _ _ [p] _ _ _ HI6.out HW7.out HT7.out HN7.out).mono ?_; rintro e w8 ⟨rfl, hw8⟩
          have HW8 := Lib.hid (WebTo.after HF7.out hw8)
          clear hw8 y0 y1 y2
          go_wp2_with fail
          go_ret
          rw [HE.out]
          exact ⟨rfl, HW8.out⟩
      · subst h7
        have HE := Lib.hid (HR.out.symm.trans (Wb.build_pow (n := n) HF.out HK.out))
        go_wp2_with fail
        refine (HPO.out _ _ HK.out (by rw [HKN.out]; exact h1) HW2.out HT2.out).mono ?_; rintro e w5 ⟨rfl, hw5⟩
        rw [← HE.out] at hw5 ⊢
        have HW5 := Lib.hid (WebTo.after HF2.out hw5)
        clear hw5 y0 y1 y2
        go_wp2_with fail
        go_ret
        exact ⟨rfl, HW5.out⟩
end Go.Proofs.YtihbmgkbipeakaaGreat

namespace Go.Proofs.YtihbmgkbipeakaaGreat
open Go.RowKit Go.ChangeShapes Go.WideShapes Go.Deep

/-- A list of numbers that lies in memory. -/
def ListAt (w : World) (A : Option Addr) (n : Nat) : Prop := n = 0 ∨ ∃ b off, A = some ⟨b, off, none⟩ ∧ ∀ j, j < n → ∃ z : Int, w.cell? ⟨b, off + j, none⟩ = some (.int .i64 z) ∧ -9223372036854775808 ≤ z ∧ z ≤ 9223372036854775807
theorem ListAt.keep {w w' : World} {A : Option Addr} {n : Nat} (h : ListAt w A n) (hk : ∀ p : Addr, (w.cell? p).isSome = true → w'.cell? p = w.cell? p) : ListAt w' A n := by
  rcases h with h | ⟨b, off, e, hc⟩
  · exact .inl h
  · refine .inr ⟨b, off, e, fun j hj => ?_⟩
    obtain ⟨z, h1, h2⟩ := hc j hj
    exact ⟨z, (hk _ (by rw [h1]; rfl)).trans h1, h2⟩
theorem ListAt.below {w w' : World} {A : Option Addr} {n : Nat} (h : ListAt w A n) (hb : Below w.heap.size w w') : ListAt w' A n := by
  refine h.keep fun p hp => ?_
  obtain ⟨v, hv⟩ := Option.isSome_iff_exists.1 hp
  rw [hv]; exact cell_later hb hv

/-- The dice: block g holds the list and how far it has been read. -/
def DiceAt (B g : Nat) (w : World) : Prop := B ≤ g ∧ ∃ (A : Option Addr) (n c k : Nat), w.heap[g]? = some (.cells #[.slice A n c, .int .i64 (k : Int)] 81 (0, 0)) ∧ k ≤ n ∧ n ≤ 80 ∧ n ≤ c ∧
  (n = 0 ∨ ∃ b off, b < B ∧ A = some ⟨b, off, none⟩ ∧ ∀ j, j < n → ∃ z : Int, w.cell? ⟨b, off + j, none⟩ = some (.int .i64 z) ∧ -9223372036854775808 ≤ z ∧ z ≤ 9223372036854775807)
theorem DiceAt.below {B B' g : Nat} {w w' : World} (h : DiceAt B g w) (hb : Below B' w w') (hg : g < B') : DiceAt B g w' := by
  obtain ⟨h0, A, n, c, k, h1, h2, h3, h3', h4⟩ := h
  refine ⟨h0, A, n, c, k, (hb.block g hg).trans h1, h2, h3, h3', ?_⟩
  rcases h4 with h4 | ⟨b, off, hbB, e, hc⟩
  · exact .inl h4
  · refine .inr ⟨b, off, hbB, e, fun j hj => ?_⟩
    obtain ⟨z, g1, g2⟩ := hc j hj
    exact ⟨z, (hb.cell (p := ⟨b, off + j, none⟩) (by show b < B'; omega)).trans g1, g2⟩
theorem DiceAt.lt {B g : Nat} {w : World} (h : DiceAt B g w) : g < w.heap.size := by
  obtain ⟨_, A, n, c, k, h1, _⟩ := h
  rcases Nat.lt_or_ge g w.heap.size with hlt | hge
  · exact hlt
  · rw [Array.getElem?_eq_none hge] at h1; cases h1

end Go.Proofs.YtihbmgkbipeakaaGreat
