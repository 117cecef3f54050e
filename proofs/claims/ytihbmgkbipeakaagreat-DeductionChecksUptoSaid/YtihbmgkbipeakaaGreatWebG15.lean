/- Several texts in one: WebMa, WebJ. -/
import Derived.Test.YtihbmgkbipeakaaGreatWebG14
namespace Go.Proofs.YtihbmgkbipeakaaGreat

/-- How a step follows; a gives the term of a place. -/
inductive Rt (K : T → Prop) (a : Nat → T) : T → Nat → List Nat → Prop
  | known {t : T} (h : K t) : Rt K a t 1 []
  | first {t : T} {i : Nat} (h3 : (a i).kind = 3) (h : t = (a i).kid 0) : Rt K a t 2 [i]
  | second {t : T} {i : Nat} (h3 : (a i).kind = 3) (h : t = (a i).kid 1) : Rt K a t 3 [i]
  | opened {t : T} {i k : Nat} (h5 : (a i).kind = 5) (hk : a k = (a i).kid 0) (h : t = (a i).kid 1) : Rt K a t 4 [i, k]
  | signed {t : T} {i : Nat} (h6 : (a i).kind = 6) (h : t = (a i).kid 1) : Rt K a t 5 [i]
  | pair {t : T} {i j : Nat} (h3 : t.kind = 3) (h0 : a i = t.kid 0) (h1 : a j = t.kid 1) : Rt K a t 6 [i, j]
  | hash {t : T} {i : Nat} (h4 : t.kind = 4) (h0 : a i = t.kid 0) : Rt K a t 7 [i]
  | seal_ {t : T} {i j : Nat} (h5 : t.kind = 5) (h0 : a i = t.kid 0) (h1 : a j = t.kid 1) : Rt K a t 8 [i, j]
  | sign {t : T} {i j : Nat} (h6 : t.kind = 6) (h0 : a i = t.kid 0) (h1 : a j = t.kid 1) : Rt K a t 9 [i, j]
  | power {t : T} {p n i : Nat} (h7 : t.kind = 7) (h1 : 1 < t.kids.length) (hi : i < t.kids.length) (hp : a p = t.lessOf i) (hn : a n = t.kid i) : Rt K a t 10 [p, n]
  | raise {t : T} {n : Nat} (h7 : t.kind = 7) (h1 : t.kids.length = 1) (hn : a n = t.kid 0) : Rt K a t 11 [n]
theorem Rt.congr {K : T → Prop} {a a' : Nat → T} {t : T} {how : Nat} {frm : List Nat} (h : Rt K a t how frm) (he : ∀ j ∈ frm, a' j = a j) : Rt K a' t how frm := by
  cases h with
  | known h => exact .known h
  | first h3 h => rename_i i; have e := he i (by simp); exact .first (by rw [e]; exact h3) (by rw [e]; exact h)
  | second h3 h => rename_i i; have e := he i (by simp); exact .second (by rw [e]; exact h3) (by rw [e]; exact h)
  | opened h5 hk h => rename_i i k; have e := he i (by simp); have e2 := he k (by simp); exact .opened (by rw [e]; exact h5) (by rw [e, e2]; exact hk) (by rw [e]; exact h)
  | signed h6 h => rename_i i; have e := he i (by simp); exact .signed (by rw [e]; exact h6) (by rw [e]; exact h)
  | pair h3 h0 h1 => rename_i i j; have e := he i (by simp); have e2 := he j (by simp); exact .pair h3 (by rw [e]; exact h0) (by rw [e2]; exact h1)
  | hash h4 h0 => rename_i i; have e := he i (by simp); exact .hash h4 (by rw [e]; exact h0)
  | seal_ h3 h0 h1 => rename_i i j; have e := he i (by simp); have e2 := he j (by simp); exact .seal_ h3 (by rw [e]; exact h0) (by rw [e2]; exact h1)
  | sign h3 h0 h1 => rename_i i j; have e := he i (by simp); have e2 := he j (by simp); exact .sign h3 (by rw [e]; exact h0) (by rw [e2]; exact h1)
  | power h7 h1 hi hp hn => rename_i p n i; have e := he p (by simp); have e2 := he n (by simp); exact .power h7 h1 hi (by rw [e]; exact hp) (by rw [e2]; exact hn)
  | raise h7 h1 hn => rename_i n; have e := he n (by simp); exact .raise h7 h1 (by rw [e]; exact hn)
namespace Wb
/-- All steps follow. -/
def RW (K : T → Prop) (W : List Stp) : Prop := ∀ i (h : i < W.length), (∀ j ∈ W[i].frm, j < W.length) ∧ Rt K (termAt W) W[i].t W[i].how W[i].frm
theorem RW.nil (K : T → Prop) : RW K [] := fun _ h => absurd h (Nat.not_lt_zero _)
theorem term_preR {W W' : List Stp} (h : W <+: W') {j : Nat} (hj : j < W.length) : termAt W' j = termAt W j := by
  obtain ⟨r, rfl⟩ := h
  rw [term_at hj, term_at (by simp; omega), List.getElem_append_left hj]
theorem RW.push {K : T → Prop} {W : List Stp} (h : RW K W) (s : Stp) (hs : Rt K (termAt W) s.t s.how s.frm) (hf : ∀ j ∈ s.frm, j < W.length) : RW K (W ++ [s]) := fun i hi => by
  have hp : W <+: W ++ [s] := List.prefix_append _ _
  by_cases hl : i < W.length
  · rw [List.getElem_append_left hl]
    obtain ⟨h1, h2⟩ := h i hl
    exact ⟨fun j hj => by have := h1 j hj; simp; omega, h2.congr fun j hj => term_preR hp (h1 j hj)⟩
  · have e : i = W.length := by simp at hi; omega
    subst e
    have e3 : (W ++ [s])[W.length]'hi = s := by simp
    rw [e3]
    exact ⟨fun j hj => by have := hf j hj; simp; omega, hs.congr fun j hj => term_preR hp (hf j hj)⟩
theorem RW.add {K : T → Prop} {W : List Stp} (h : RW K W) {t : T} {how : Nat} {frm : List Nat} (hr : Rt K (termAt W) t how frm) (hf : ∀ j ∈ frm, j < W.length) : RW K (add W t how frm).1 := by
  cases hq : find W t with
  | some i => rw [add_some hq]; exact h
  | none => rw [add_none hq]; exact h.push ⟨t, how, frm, false⟩ hr hf
theorem term_mark (W : List Stp) (i j : Nat) (hj : j < W.length) : termAt (mark W i) j = termAt W j := by
  rw [term_at hj, term_at (by rw [mark_len]; exact hj)]
  exact (mark_t W i j (by rw [mark_len]; exact hj) hj).1
theorem RW.mark {K : T → Prop} {W : List Stp} (h : RW K W) (i : Nat) : RW K (mark W i) := fun j hj => by
  have h3 : j < W.length := by rwa [mark_len] at hj
  obtain ⟨e1, e2, e3, _⟩ := mark_t W i j hj h3
  obtain ⟨h1, h2⟩ := h j h3
  rw [e1, e2, e3, mark_len]
  exact ⟨h1, h2.congr fun k hk => term_mark W i k (h1 k hk)⟩
theorem RW.take {K : T → Prop} {W : List Stp} (h : RW K W) {t : T} {how : Nat} {frm : List Nat} (hr : Rt K (termAt W) t how frm) (hf : ∀ j ∈ frm, j < W.length) : RW K (take W t how frm).1 := by
  unfold Wb.take
  split
  · exact h.add hr hf
  · exact (h.add hr hf).mark _
theorem add_term {U : List T} (hU : Uni U) {W : List Stp} (hW : Inv U W) {t : T} (ht : t ∈ U) (how : Nat) (frm : List Nat) : termAt (add W t how frm).1 (add W t how frm).2 = t := by
  cases hq : find W t with
  | some i =>
    rw [add_some hq]
    obtain ⟨hi, e⟩ := find_eq hU hW ht hq
    rw [term_at hi]; exact e
  | none =>
    rw [add_none hq, term_at (by simp)]
    simp
/-- What holds of a function that puts terms together: its steps follow, and the place is the term's. -/
def PutsR (K : T → Prop) (U : List T) (rec : List Stp → T → List Stp × Option Nat) (t : T) : Prop := ∀ W, Inv U W → RW K W → RW K (rec W t).1 ∧ ∀ i, (rec W t).2 = some i → termAt (rec W t).1 i = t
theorem both_R {K : T → Prop} {U : List T} (hU : Uni U) {rec : List Stp → T → List Stp × Option Nat} {t : T} (how : Nat) (ht : t ∈ U) (h0 : Puts U rec (t.kid 0)) (h1 : Puts U rec (t.kid 1)) (r0 : PutsR K U rec (t.kid 0)) (r1 : PutsR K U rec (t.kid 1))
    (hr : ∀ (a : Nat → T) i j, a i = t.kid 0 → a j = t.kid 1 → Rt K a t how [i, j]) : PutsR K U (fun W t => both rec W t how) t := fun W hW hR => by
  obtain ⟨a1, a2, a3⟩ := h0 W hW
  obtain ⟨b0, b0'⟩ := r0 W hW hR
  obtain ⟨c1, c2, c3⟩ := h1 _ a1
  obtain ⟨b1, b1'⟩ := r1 _ a1 b0
  cases ha : (rec W (t.kid 0)).2 with
  | none => simp only [both, ha]; exact ⟨b0, fun i h => by cases h⟩
  | some a =>
    cases hb : (rec (rec W (t.kid 0)).1 (t.kid 1)).2 with
    | none => simp only [both, ha, hb]; exact ⟨b1, fun i h => by cases h⟩
    | some b =>
      simp only [both, ha, hb]
      have h3 := a3 a ha; have h4 := c3 b hb; have h5 := c2.length_le
      refine ⟨b1.add (hr _ a b ((term_preR c2 h3).trans (b0' a ha)) (b1' b hb)) fun j hj => ?_, fun i h => ?_⟩
      · simp only [List.mem_cons, List.not_mem_nil, or_false] at hj
        rcases hj with rfl | rfl
        · exact Nat.lt_of_lt_of_le h3 h5
        · exact h4
      · injection h with h
        rw [← h]; exact add_term hU c1 ht _ _
theorem pow_R {K : T → Prop} {U : List T} (hU : Uni U) {rec : List Stp → T → List Stp × Option Nat} {t : T} (ht : t ∈ U) (h7 : t.kind = 7) (hl : ∀ i, i < t.kids.length → 1 < t.kids.length → Puts U rec (t.lessOf i) ∧ PutsR K U rec (t.lessOf i)) :
    ∀ (f i : Nat), f + i = t.kids.length → PutsR K U (fun W _ => pow rec t f i W) t
  | 0, i, _, W, _, hR => ⟨hR, fun j h => by cases h⟩
  | f + 1, i, hfi, W, hW, hR => by
    have ih := pow_R hU ht h7 hl f (i + 1) (by omega)
    simp only [pow]
    split
    · exact ih W hW hR
    · rename_i nm hnm
      obtain ⟨hn, en⟩ := find_eq hU hW (hU.kid t ht i (by omega)) hnm
      have en' : termAt W nm = t.kid i := (term_at hn).trans en
      split
      · rename_i h1
        have e0 : i = 0 := by omega
        subst e0
        exact ⟨hR.add (.raise h7 h1 en') (fun j hj => by simp at hj; omega), fun j h => by injection h with h; rw [← h]; exact add_term hU hW ht _ _⟩
      · rename_i h1
        obtain ⟨p1, p2⟩ := hl i (by omega) (by omega)
        obtain ⟨a1, a2, a3⟩ := p1 W hW
        obtain ⟨b1, b1'⟩ := p2 W hW hR
        split
        · exact ih _ a1 b1
        · rename_i p hp
          have h3 := a3 p hp; have h5 := a2.length_le
          refine ⟨b1.add (.power (i := i) h7 (by omega) (by omega) (b1' p hp) ((term_preR a2 hn).trans en')) fun j hj => ?_, fun j h => by injection h with h; rw [← h]; exact add_term hU a1 ht _ _⟩
          simp only [List.mem_cons, List.not_mem_nil, or_false] at hj
          rcases hj with rfl | rfl
          · exact h3
          · exact Nat.lt_of_lt_of_le hn h5
theorem build_R {K : T → Prop} {U : List T} (hU : Uni U) : ∀ (n : Nat) (t : T), t ∈ U → PutsR K U (build n) t
  | 0, t, _, W, _, hR => ⟨hR, fun j h => by cases h⟩
  | n + 1, t, ht, W, hW, hR => by
    have hs := T.shapeK (Bool.and_eq_true_iff.1 (hU.ok t ht)).2
    have ihk : ∀ i, i < t.kids.length → PutsR K U (build n) (t.kid i) := fun i hi => build_R hU n _ (hU.kid t ht i hi)
    have ihp : ∀ i, i < t.kids.length → Puts U (build n) (t.kid i) := fun i hi => build_puts hU n _ (hU.kid t ht i hi)
    simp only [build]
    split
    · rename_i i hi
      refine ⟨hR, fun j h => ?_⟩
      injection h with h
      obtain ⟨h1, h2⟩ := find_eq hU hW ht hi
      rw [← h, term_at h1]; exact h2
    · split
      · rename_i h4
        obtain ⟨a1, a1'⟩ := ihk 0 (by omega) W hW hR
        obtain ⟨q1, _, a3⟩ := ihp 0 (by omega) W hW
        split
        · exact ⟨a1, fun j h => by cases h⟩
        · rename_i m hm
          exact ⟨a1.add (.hash h4 (a1' m hm)) (fun j hj => by have := a3 m hm; simp at hj; omega), fun j h => by injection h with h; rw [← h]; exact add_term hU q1 ht _ _⟩
      · split
        · rename_i h3
          exact both_R hU 6 ht (ihp 0 (by omega)) (ihp 1 (by omega)) (ihk 0 (by omega)) (ihk 1 (by omega)) (fun a i j h0 h1 => .pair h3 h0 h1) W hW hR
        · split
          · rename_i h5
            exact both_R hU 8 ht (ihp 0 (by omega)) (ihp 1 (by omega)) (ihk 0 (by omega)) (ihk 1 (by omega)) (fun a i j h0 h1 => .seal_ h5 h0 h1) W hW hR
          · split
            · rename_i h6
              exact both_R hU 9 ht (ihp 0 (by omega)) (ihp 1 (by omega)) (ihk 0 (by omega)) (ihk 1 (by omega)) (fun a i j h0 h1 => .sign h6 h0 h1) W hW hR
            · split
              · rename_i h7
                exact pow_R hU ht h7 (fun i hi h1 => ⟨build_puts hU n _ (hU.less t ht h7 h1 i hi), build_R hU n _ (hU.less t ht h7 h1 i hi)⟩) t.kids.length 0 rfl W hW hR
              · exact ⟨hR, fun j h => by cases h⟩
theorem term_take {W : List Stp} {t : T} {how : Nat} {frm : List Nat} {j : Nat} (hj : j < W.length) : termAt (take W t how frm).1 j = termAt W j := by
  have hp := (add_pre W t how frm).1
  have hl := hp.length_le
  unfold Wb.take
  split
  · exact term_preR hp hj
  · exact (term_mark _ _ j (by omega)).trans (term_preR hp hj)
theorem apart_R {K : T → Prop} {U : List T} (hU : Uni U) {W : List Stp} (hW : Inv U W) (hR : RW K W) {i : Nat} (hi : i < W.length) : RW K (apart W i).1 := by
  have hm : W[i].t ∈ U := hW.mem _ (List.getElem_mem hi)
  have hs := T.shapeK (Bool.and_eq_true_iff.1 (hU.ok _ hm)).2
  have ha := term_at hi
  unfold apart
  rw [ha]
  generalize W[i].t = t at hm hs ha ⊢
  dsimp only
  have hf : ∀ j ∈ [i], j < W.length := fun j hj => by simp at hj; omega
  split
  · rename_i h3
    have hl := take_len W (t.kid 0) 2 [i]
    refine RW.take (RW.take hR (.first (by rw [ha]; exact h3) (by rw [ha])) hf) (.second ?_ ?_) (fun j hj => Nat.lt_of_lt_of_le (hf j hj) hl)
    · rw [term_take hi, ha]; exact h3
    · rw [term_take hi, ha]
  · split
    · rename_i h6
      exact RW.take hR (.signed (by rw [ha]; exact h6) (by rw [ha])) hf
    · split
      · rename_i h5
        split
        · exact hR
        · obtain ⟨b1, b2, b3⟩ := bld_inv hU (hU.kid t hm 0 (by omega)) hW
          obtain ⟨c1, c2⟩ := build_R (K := K) hU ((t.kid 0).bulk + 1) _ (hU.kid t hm 0 (by omega)) W hW hR
          split
          · exact c1
          · rename_i k hk
            have hai : termAt (bld W (t.kid 0)).1 i = t := (term_preR b2 hi).trans ha
            refine RW.take c1 (.opened (by show (termAt (bld W (t.kid 0)).1 i).kind = 5; rw [hai]; exact h5) (by show termAt (bld W (t.kid 0)).1 k = (termAt (bld W (t.kid 0)).1 i).kid 0; rw [hai]; exact c2 k hk) (by show _ = (termAt (bld W (t.kid 0)).1 i).kid 1; rw [hai])) fun j hj => ?_
            have h5 := b2.length_le; have h6 := b3 k hk
            simp only [List.mem_cons, List.not_mem_nil, or_false] at hj
            rcases hj with rfl | rfl
            · exact Nat.lt_of_lt_of_le hi h5
            · exact h6
      · exact hR
theorem rnd_R {K : T → Prop} {U : List T} (hU : Uni U) : ∀ (f i : Nat) (m : Bool) (W : List Stp), Inv U W → RW K W → RW K (rnd f i m W).1
  | 0, _, _, _, _, hR => hR
  | f + 1, i, m, W, hW, hR => by
    simp only [rnd]
    split
    · rename_i hi
      split
      · exact rnd_R hU f (i + 1) _ _ (apart_inv hU hW hi).1 (apart_R hU hW hR hi)
      · exact rnd_R hU f (i + 1) m W hW hR
    · exact hR
theorem run_R {K : T → Prop} {U : List T} (hU : Uni U) (N : Nat) : ∀ (f : Nat) (W : List Stp), Inv U W → RW K W → RW K (run N f W)
  | 0, _, _, hR => hR
  | f + 1, W, hW, hR => by
    have a1 := (rnd_facts hU ⟨#[]⟩ N 0 false W hW).1
    have a2 := rnd_R hU N 0 false W hW hR
    simp only [run]
    split
    · exact run_R hU N f _ a1 a2
    · exact a2
theorem start_R {K : T → Prop} : ∀ (ts : List T) (W : List Stp), (∀ t ∈ ts, K t) → RW K W → RW K (ts.foldl (fun W t => (take W t 1 []).1) W)
  | [], _, _, hR => hR
  | t :: r, W, h, hR => start_R r _ (fun x hx => h x (List.mem_cons_of_mem _ hx)) (hR.take (.known (h t (by simp))) (fun j hj => by cases hj))
theorem fill_R {U K : List T} (hU : Uni U) (hK : ∀ t ∈ K, t ∈ U) (N : Nat) : RW (· ∈ K) (fill N K) := by
  have h := start_inv hK K.length
  rw [List.take_of_length_le (Nat.le_refl _)] at h
  exact run_R hU N (N + 1) _ h (start_R K [] (fun t ht => ht) (RW.nil _))
/-- All steps behind a goal follow, and its place holds it. -/
theorem bld_R {K : T → Prop} {U : List T} (hU : Uni U) {t : T} (ht : t ∈ U) {W : List Stp} (hW : Inv U W) (hR : RW K W) : RW K (bld W t).1 ∧ ∀ i, (bld W t).2 = some i → termAt (bld W t).1 i = t := build_R hU _ t ht W hW hR
end Wb
end Go.Proofs.YtihbmgkbipeakaaGreat

namespace Go.Proofs.YtihbmgkbipeakaaGreat
open Go.RowKit Go.Maps

/-- A step of a deduction: its term, how it was obtained, from which steps. -/
structure Rsn where
  t : T
  how : Int
  frm : List Int
namespace Wb
def howAt (W : List Stp) (i : Nat) : Nat := (W[i]?.map Stp.how).getD 0
def frmAt (W : List Stp) (i : Nat) : List Nat := (W[i]?.map Stp.frm).getD []
abbrev NdR := (List Rsn × List (Nat × Nat)) × Nat
def ndl (rec : List Rsn → List (Nat × Nat) → Nat → NdR) : List Nat → List Rsn → List (Nat × Nat) → List Int → (List Rsn × List (Nat × Nat)) × List Int
  | [], out, pl, ks => ((out, pl), ks)
  | j :: js, out, pl, ks => ndl rec js (rec out pl j).1.1 (rec out pl j).1.2 (ks ++ [((rec out pl j).2 : Int)])
/-- The steps that lead to a place, in order. -/
def nd : Nat → List Stp → List Rsn → List (Nat × Nat) → Nat → NdR
  | 0, _, out, pl, _ => ((out, pl), 0)
  | f + 1, W, out, pl, i =>
    match pl.lookup i with
    | some k => ((out, pl), k)
    | none => (((ndl (nd f W) (frmAt W i) out pl []).1.1 ++ [⟨termAt W i, (howAt W i : Int), (ndl (nd f W) (frmAt W i) out pl []).2⟩], (i, (ndl (nd f W) (frmAt W i) out pl []).1.1.length) :: (ndl (nd f W) (frmAt W i) out pl []).1.2), (ndl (nd f W) (frmAt W i) out pl []).1.1.length)
theorem nd_known {f : Nat} {W : List Stp} {out : List Rsn} {pl : List (Nat × Nat)} {i k : Nat} (h : pl.lookup i = some k) : nd (f + 1) W out pl i = ((out, pl), k) := by
  simp only [nd, h]
theorem nd_new {f : Nat} {W : List Stp} {out : List Rsn} {pl : List (Nat × Nat)} {i : Nat} (h : pl.lookup i = none) : nd (f + 1) W out pl i = (((ndl (nd f W) (frmAt W i) out pl []).1.1 ++ [⟨termAt W i, (howAt W i : Int), (ndl (nd f W) (frmAt W i) out pl []).2⟩], (i, (ndl (nd f W) (frmAt W i) out pl []).1.1.length) :: (ndl (nd f W) (frmAt W i) out pl []).1.2), (ndl (nd f W) (frmAt W i) out pl []).1.1.length) := by
  simp only [nd, h]
/-- A step refers to earlier ones alone, and to two at most. -/
def Ord (W : List Stp) : Prop := ∀ i (h : i < W.length), W[i].frm.length ≤ 2 ∧ ∀ j ∈ W[i].frm, j < i
/-- What holds of the list and of the places. -/
def NdI (W : List Stp) (out : List Rsn) (pl : List (Nat × Nat)) : Prop := out.length = pl.length ∧ (pl.map Prod.fst).Nodup ∧ ∀ p ∈ pl, p.1 < W.length
theorem NdI.nil (W : List Stp) : NdI W [] [] := ⟨rfl, List.nodup_nil, fun p h => by cases h⟩
theorem nodup_lt : ∀ {l : List Nat} {n : Nat}, l.Nodup → (∀ x ∈ l, x < n) → l.length ≤ n := fun {l n} hn h => by
  have := nodup_le (l := l) (m := List.range n) hn fun x hx => List.mem_range.2 (h x hx)
  rwa [List.length_range] at this
theorem NdI.len {W : List Stp} {out : List Rsn} {pl : List (Nat × Nat)} (h : NdI W out pl) : out.length ≤ W.length := by
  rw [h.1]
  have := nodup_lt (l := pl.map Prod.fst) (n := W.length) h.2.1 fun x hx => by
    obtain ⟨p, hp, rfl⟩ := List.mem_map.1 hx
    exact h.2.2 p hp
  rwa [List.length_map] at this
theorem lookup_none {pl : List (Nat × Nat)} {i : Nat} (h : pl.lookup i = none) : ∀ p ∈ pl, p.1 ≠ i := by
  induction pl with
  | nil => intro p hp; cases hp
  | cons a r ih =>
    obtain ⟨a1, a2⟩ := a
    rw [List.lookup_cons] at h
    by_cases e : i = a1
    · subst e; simp at h
    · have hb : (i == a1) = false := by rw [beq_eq_false_iff_ne]; exact e
      rw [hb] at h
      intro p hp
      rcases List.mem_cons.1 hp with rfl | hp
      · exact fun e' => e e'.symm
      · exact ih h p hp
/-- What the recursion keeps. -/
def NdK (W : List Stp) (i : Nat) (rec : List Rsn → List (Nat × Nat) → Nat → NdR) : Prop := ∀ out pl, NdI W out pl → NdI W (rec out pl i).1.1 (rec out pl i).1.2 ∧ ∀ p ∈ (rec out pl i).1.2, p ∈ pl ∨ p.1 ≤ i
theorem ndl_inv {W : List Stp} {b : Nat} {rec : List Rsn → List (Nat × Nat) → Nat → NdR} : ∀ (js : List Nat), (∀ j ∈ js, j < b ∧ NdK W j rec) → ∀ out pl ks, NdI W out pl → NdI W (ndl rec js out pl ks).1.1 (ndl rec js out pl ks).1.2 ∧ ∀ p ∈ (ndl rec js out pl ks).1.2, p ∈ pl ∨ p.1 < b
  | [], _, out, pl, ks, h => ⟨h, fun p hp => .inl hp⟩
  | j :: js, hj, out, pl, ks, h => by
    obtain ⟨h1, h2⟩ := hj j (by simp)
    obtain ⟨h3, h4⟩ := h2 out pl h
    obtain ⟨h5, h6⟩ := ndl_inv js (fun x hx => hj x (List.mem_cons_of_mem _ hx)) (rec out pl j).1.1 (rec out pl j).1.2 (ks ++ [((rec out pl j).2 : Int)]) h3
    refine ⟨h5, fun p hp => ?_⟩
    rcases h6 p hp with h7 | h7
    · rcases h4 p h7 with h8 | h8
      · exact .inl h8
      · right; omega
    · exact .inr h7
theorem frm_at {W : List Stp} {i : Nat} (h : i < W.length) : frmAt W i = W[i].frm := by unfold frmAt; rw [List.getElem?_eq_getElem h]; rfl
theorem how_at {W : List Stp} {i : Nat} (h : i < W.length) : howAt W i = W[i].how := by unfold howAt; rw [List.getElem?_eq_getElem h]; rfl
theorem nd_inv {W : List Stp} (hO : Ord W) : ∀ (f i : Nat), i < f → i < W.length → NdK W i (nd f W)
  | 0, i, h, _ => absurd h (Nat.not_lt_zero _)
  | f + 1, i, hf, hi => fun out pl hI => by
    have hk : ∀ j ∈ frmAt W i, j < i ∧ NdK W j (nd f W) := fun j hj => by
      rw [frm_at hi] at hj
      have h1 := (hO i hi).2 j hj
      exact ⟨h1, nd_inv hO f j (by omega) (by omega)⟩
    cases hl : pl.lookup i with
    | some k => rw [nd_known hl]; exact ⟨hI, fun p hp => .inl hp⟩
    | none =>
      rw [nd_new hl]
      obtain ⟨h1, h2⟩ := ndl_inv (frmAt W i) hk out pl [] hI
      have hni : ∀ p ∈ (ndl (nd f W) (frmAt W i) out pl []).1.2, p.1 ≠ i := fun p hp => by
        rcases h2 p hp with h3 | h3
        · exact lookup_none hl p h3
        · omega
      refine ⟨⟨by simp [h1.1], ?_, fun p hp => ?_⟩, fun p hp => ?_⟩
      · rw [List.map_cons, List.nodup_cons]
        refine ⟨fun hm => ?_, h1.2.1⟩
        obtain ⟨p, hp, e⟩ := List.mem_map.1 hm
        exact hni p hp e
      · rcases List.mem_cons.1 hp with rfl | hp
        · exact hi
        · exact h1.2.2 p hp
      · rcases List.mem_cons.1 hp with rfl | hp
        · exact .inr (Nat.le_refl _)
        · rcases h2 p hp with h3 | h3
          · exact .inl h3
          · right; omega
end Wb
/-- Numbers in certain blocks. -/
def IntsIn (S : Nat → Bool) (w : World) (A : Option Addr) (ns : List Int) : Prop :=
  ns.length = 0 ∨ ∃ b off, A = some ⟨b, off, none⟩ ∧ S b = true ∧ ∀ i (h : i < ns.length), w.cell? ⟨b, off + i, none⟩ = some (.int .i64 ns[i])
theorem IntsIn.keep {S S' : Nat → Bool} {w w' : World} {A : Option Addr} {ns : List Int} (h : IntsIn S w A ns) (hk : ∀ b, S b = true → b < w.heap.size → S' b = true ∧ w'.heap[b]? = w.heap[b]?) : IntsIn S' w' A ns := by
  rcases h with h | ⟨b, off, e, hS, hc⟩
  · exact .inl h
  · by_cases h0 : ns.length = 0
    · exact .inl h0
    · have hl := World.block_lt_of_cell? w _ (hc 0 (by omega))
      obtain ⟨h1, h2⟩ := hk b hS hl
      exact .inr ⟨b, off, e, h1, fun i hi => (World.cell?_of_block h2).trans (hc i hi)⟩
/-- The same, where they may be stored to. -/
def IntsFr (S : Nat → Bool) (w : World) (A : Option Addr) (ns : List Int) : Prop :=
  ns.length = 0 ∨ ∃ b off, A = some ⟨b, off, none⟩ ∧ S b = true ∧ ∀ i (h : i < ns.length), w.cell? ⟨b, off + i, none⟩ = some (.int .i64 ns[i]) ∧ w.frozen? ⟨b, off + i, none⟩ = false
theorem frozen_of_block {w w' : World} {b k : Nat} (h : w'.heap[b]? = w.heap[b]?) : w'.frozen? ⟨b, k, none⟩ = w.frozen? ⟨b, k, none⟩ := by
  unfold World.frozen?
  rw [h]
theorem IntsFr.keep {S S' : Nat → Bool} {w w' : World} {A : Option Addr} {ns : List Int} (h : IntsFr S w A ns) (hk : ∀ b, S b = true → b < w.heap.size → S' b = true ∧ w'.heap[b]? = w.heap[b]?) : IntsFr S' w' A ns := by
  rcases h with h | ⟨b, off, e, hS, hc⟩
  · exact .inl h
  · by_cases h0 : ns.length = 0
    · exact .inl h0
    · have hl := World.block_lt_of_cell? w _ (hc 0 (by omega)).1
      obtain ⟨h1, h2⟩ := hk b hS hl
      exact .inr ⟨b, off, e, h1, fun i hi => ⟨(World.cell?_of_block h2).trans (hc i hi).1, (frozen_of_block h2).trans (hc i hi).2⟩⟩
theorem IntsFr.in {S : Nat → Bool} {w : World} {A : Option Addr} {ns : List Int} (h : IntsFr S w A ns) : IntsIn S w A ns := by
  rcases h with h | ⟨b, off, e, hS, hc⟩
  · exact .inl h
  · exact .inr ⟨b, off, e, hS, fun i hi => (hc i hi).1⟩
/-- A step of a deduction in its five cells. -/
def RsnAt (S : Nat → Bool) (w : World) (cs : List Value) (r : Rsn) : Prop :=
  ∃ A cap F fc, cs = [.int .i64 r.t.kind, .string r.t.name, .slice A r.t.kids.length cap, .int .i64 r.how, .slice F r.frm.length fc] ∧ TermIn S w (.agg #[.int .i64 r.t.kind, .string r.t.name, .slice A r.t.kids.length cap]) r.t ∧ IntsFr S w F r.frm
theorem RsnAt.keep {S S' : Nat → Bool} {w w' : World} {cs : List Value} {r : Rsn} (h : RsnAt S w cs r) (hk : ∀ b, S b = true → b < w.heap.size → S' b = true ∧ w'.heap[b]? = w.heap[b]?) : RsnAt S' w' cs r := by
  obtain ⟨A, cap, F, fc, e, h1, h2⟩ := h
  exact ⟨A, cap, F, fc, e, h1.keep hk, h2.keep hk⟩
theorem RsnAt.len {S : Nat → Bool} {w : World} {cs : List Value} {r : Rsn} (h : RsnAt S w cs r) : cs.length = 5 := by
  obtain ⟨A, cap, F, fc, e, _⟩ := h
  rw [e]; rfl
def RsnsAt (S : Nat → Bool) (w : World) (css : List (List Value)) (L : List Rsn) : Prop := css.length = L.length ∧ ∀ i (h : i < css.length) (h' : i < L.length), RsnAt S w css[i] L[i]
theorem RsnsAt.keep {S S' : Nat → Bool} {w w' : World} {css : List (List Value)} {L : List Rsn} (h : RsnsAt S w css L) (hk : ∀ b, S b = true → b < w.heap.size → S' b = true ∧ w'.heap[b]? = w.heap[b]?) : RsnsAt S' w' css L :=
  ⟨h.1, fun i a b => (h.2 i a b).keep hk⟩
theorem RsnsAt.push {S : Nat → Bool} {w : World} {css : List (List Value)} {L : List Rsn} {cs : List Value} {r : Rsn} (h : RsnsAt S w css L) (hs : RsnAt S w cs r) : RsnsAt S w (css ++ [cs]) (L ++ [r]) := by
  refine ⟨by rw [List.length_append, List.length_append, h.1]; rfl, fun i a b => ?_⟩
  by_cases hi : i < css.length
  · rw [List.getElem_append_left hi, List.getElem_append_left (by rw [← h.1]; exact hi)]
    exact h.2 i hi (by rw [← h.1]; exact hi)
  · have e1 : i = css.length := by simp at a; omega
    subst e1
    have e2 : (css ++ [cs])[css.length]'a = cs := by simp
    have e3 : (L ++ [r])[css.length]'b = r := by rw [List.getElem_append_right (by rw [h.1]; exact Nat.le_refl _)]; simp
    rw [e2, e3]; exact hs
/-- Blocks from H on but some. -/
def outS (H : Nat) (X : Nat → Bool) (row : Option Nat) (M : Nat) : Nat → Bool := fun b => decide (H ≤ b) && !(X b) && !(row == some b) && !(b == M)
theorem outS_iff {H M b : Nat} {X : Nat → Bool} {row : Option Nat} : outS H X row M b = true ↔ H ≤ b ∧ X b = false ∧ row ≠ some b ∧ b ≠ M := by
  unfold outS
  rw [Bool.and_eq_true, Bool.and_eq_true, Bool.and_eq_true, decide_eq_true_eq, Bool.not_eq_true', Bool.not_eq_true', Bool.not_eq_true', beq_eq_false_iff_ne, beq_eq_false_iff_ne, and_assoc, and_assoc]
/-- The list that 'needed' appends to. -/
def OutAt (H : Nat) (X : Nat → Bool) (M : Nat) (w : World) (ov : Value) (out : List Rsn) : Prop := ∃ css, RsnsAt (outS H X ov.ownBlock M) w css out ∧ w.ownsRow H 31 5 ov out.length css.flatten
theorem OutAt.less {H M : Nat} {X X' : Nat → Bool} {w : World} {ov : Value} {out : List Rsn} (h : OutAt H X M w ov out) (hx : ∀ b, X' b = true → X b = true) : OutAt H X' M w ov out := by
  obtain ⟨css, h1, h2⟩ := h
  refine ⟨css, h1.keep fun b hb _ => ⟨?_, rfl⟩, h2⟩
  obtain ⟨a1, a2, a3, a4⟩ := outS_iff.1 hb
  refine outS_iff.2 ⟨a1, ?_, a3, a4⟩
  cases e : X' b with
  | false => rfl
  | true => rw [hx b e] at a2; cases a2
/-- More blocks are left alone, which did not exist yet. -/
theorem OutAt.more {H M : Nat} {X X' : Nat → Bool} {w : World} {ov : Value} {out : List Rsn} (h : OutAt H X M w ov out) (hx : ∀ b, b < w.heap.size → X' b = true → X b = true) : OutAt H X' M w ov out := by
  obtain ⟨css, h1, h2⟩ := h
  refine ⟨css, h1.keep fun b hb hl => ⟨?_, rfl⟩, h2⟩
  obtain ⟨a1, a2, a3, a4⟩ := outS_iff.1 hb
  refine outS_iff.2 ⟨a1, ?_, a3, a4⟩
  cases e : X' b with
  | false => rfl
  | true => rw [hx b hl e] at a2; cases a2
def kn (i : Nat) : Lit := .int .i64 (i : Int)
def PlIs (D : DataW Unit) (pl : List (Nat × Nat)) : Prop := ∀ i : Nat, Maps.has D (kn i) = (pl.lookup i).isSome ∧ ∀ k, pl.lookup i = some k → D.atKey (kn i) (.lit (.int .i64 0)) = .lit (.int .i64 (k : Int))
theorem PlIs.push {D : DataW Unit} {pl : List (Nat × Nat)} (h : PlIs D pl) (hD : Maps.IsMap D) (i k : Nat) : PlIs (D.put (kn i) (.lit (.int .i64 (k : Int)))) ((i, k) :: pl) := fun j => by
  rw [List.lookup_cons]
  by_cases e : j = i
  · subst e
    rw [beq_self_eq_true]
    refine ⟨Maps.has_put_same hD (show Go.WideAt.IsKeyLit (kn j) from trivial) _, fun k' hk => ?_⟩
    have hk' : k = k' := Option.some.inj hk
    rw [Maps.atKey_put_same hD (show Go.WideAt.IsKeyLit (kn j) from trivial), hk']
  · have hb : (j == i) = false := by rw [beq_eq_false_iff_ne]; exact e
    have hk : kn j ≠ kn i := fun h => by unfold kn at h; injection h with _ h; exact e (by omega)
    rw [hb, Maps.has_put_other hk]
    refine ⟨(h j).1, fun k' hk' => ?_⟩
    rw [Maps.atKey_put_other hk]
    exact (h j).2 k' hk'
/-- The places that 'needed' keeps. -/
def PlAt (H M : Nat) (w : World) (pl : List (Nat × Nat)) : Prop := H ≤ M ∧ ∃ D n, w.ownsMap Tryz.prog 3 (plainElem (H := Unit) Tryz.prog 3) M n D ∧ n ≤ pl.length ∧ PlIs D pl
theorem PlAt.later {H M : Nat} {w w' : World} {pl : List (Nat × Nat)} (h : PlAt H M w pl) (hb : Below w.heap.size w w') : PlAt H M w' pl := by
  obtain ⟨h1, D, n, h2, h3⟩ := h
  exact ⟨h1, D, n, h2.kept (row := none) (grownBy_of_below none hb) (by simp), h3⟩
theorem PlAt.lt {H M : Nat} {w : World} {pl : List (Nat × Nat)} (h : PlAt H M w pl) : M < w.heap.size := by
  obtain ⟨h1, D, n, h2, h3⟩ := h
  obtain ⟨es, c, hm⟩ := map_block h2
  exact (Array.getElem?_eq_some_iff.1 hm).1
theorem OutAt.later {H M : Nat} {X : Nat → Bool} {w w' : World} {ov : Value} {out : List Rsn} (h : OutAt H X M w ov out) (hb : Below w.heap.size w w') : OutAt H X M w' ov out := by
  obtain ⟨css, h1, h2⟩ := h
  exact ⟨css, h1.keep fun b hb' hl => ⟨hb', hb.block b hl⟩, own_later h2 hb⟩
end Go.Proofs.YtihbmgkbipeakaaGreat
