/- Several texts in one: TermNrm, TermIdem, TermSame, TermIsN, TermStrOf, TermText, WebP, TermWrite, TermWrite2. -/
import Derived.Test.YtihbmgkbipeakaaGreatWebG3
import Derived.Test.YtihbmgkbipeakaaGreatWebG5
import Derived.Test.YtihbmgkbipeakaaGreatWebG1
import Derived.Test.YtihbmgkbipeakaaGreatWebG0
import Derived.Deep.RegionHeld3
import Derived.Test.YtihbmgkbipeakaaGreatShelf
import Derived.Lib.Join
namespace Go.Proofs.YtihbmgkbipeakaaGreat
open Go.RowKit

set_option maxRecDepth 100000 in
set_option maxHeartbeats 2000000 in
/-- Normal of a valid term is its normal form; else the zero term. -/
theorem onormal (t : T) (v : Value) (w : World) (ht : TermAt w v t) (hbk : t.bulk ≤ 1048576) :
    Calls Tryz.prog 76 #[v] w (RetT (if t.valid = true then t.norm else .mk 0 ⟨#[]⟩ []) w) := by
  have HV := Lib.hid (fun W hW r c hr hc => ovalid t v W hW hbk r c hr hc)
  have HA := Lib.hid (fun W hW (hs : t.shape = true) => oarr (t.bulk + 1) t v W (by omega) hW hbk hs)
  obtain ⟨q, hq⟩ : ∃ q, t.valid = q := ⟨_, rfl⟩
  have HSH := Lib.hid (fun (h : q = true) => show t.shape = true by rw [← hq] at h; exact (Bool.and_eq_true_iff.1 h).2)
  rw [hq] at HV ⊢
  clear hbk hq
  generalize t.norm = tn at *
  cases ht with
  | mk k s A cap ks U h1 h2 h3 h4 hA hU =>
    have HT := Lib.hid (TermAt.mk k s A cap ks U h1 h2 h3 h4 hA hU)
    obtain ⟨bx, by', hb1, hsz⟩ := box_two w (.int .i64 k) (.string s) (.slice A ks.length cap) (.int .i64 0) (.string ⟨#[]⟩) (.slice none 0 0)
    clear hA hU
    go_enter Tryz.func76, Tryz.ntmps76
    go_upto_region 1 with fail
    generalize (w.alloc (.cells #[.int .i64 k, .string s, .slice A ks.length cap] 29)).alloc (.cells #[.int .i64 0, .string ⟨#[]⟩, .slice none 0 0] 29) = w1 at bx by' hb1 hsz ⊢
    have HT1 := Lib.hid (HT.out.later hb1)
    obtain ⟨x0, x1, x2⟩ := bx.cells
    cases q
    · go_wp2_with fail
      refine (HV.out _ HT1.out false 76 rfl (.inr ⟨rfl, rfl⟩)).mono ?_; rintro e w2 ⟨rfl, hb2⟩
      have bz := by'.later hb2
      obtain ⟨y0, y1, y2⟩ := bz.cells
      obtain ⟨f0, f1, f2⟩ := bz.free
      have HB := Lib.hid (hb1.trans (hb2.mono hb1.size)); have HBZ := Lib.hid bz
      clear x0 x1 x2 hb2 bz
      go_wp2_with fail
      obtain ⟨d0, d1, d2⟩ := (box_set3 HBZ.out (.int .i64 0) (.string ⟨#[]⟩) (.slice none 0 0)).cells
      refine bodyPost_ret (v := .agg #[.int .i64 0, .string ⟨#[]⟩, .slice none 0 0]) (by simp [results, Tryz.results76, go_sem, d0, d1, d2]) rfl ?_
      exact ret_set3 (t := .mk 0 ⟨#[]⟩ []) (A := none) (cap := 0) _ _ _ HB.out (by omega) rfl rfl rfl (TermAt.mk 0 ⟨#[]⟩ none 0 [] (fun _ => (undef, undef, undef)) (by decide) (by decide) (Nat.le_refl _) (Nat.zero_le _) (.inl rfl) (fun i h => by simp at h))
    · go_wp2_with fail
      refine (HV.out _ HT1.out true 0 rfl (.inl ⟨rfl, rfl⟩)).mono ?_; rintro e w2 ⟨rfl, hb2⟩
      have y0 := cell_later hb2 x0; have y1 := cell_later hb2 x1; have y2 := cell_later hb2 x2
      have HB := Lib.hid (hb1.trans (hb2.mono hb1.size)); have HBY := Lib.hid (by'.later hb2)
      have HT2 := Lib.hid (HT1.out.later hb2)
      have hsz2 : w.heap.size + 2 ≤ w2.heap.size := by have := hb2.size; omega
      have HSZ := Lib.hid hsz2
      clear x0 x1 x2 hb2 hsz2 hsz
      go_wp2_with fail
      refine (HA.out _ HT2.out (HSH.out (by trivial))).mono ?_; rintro e w3 ⟨A3, C3, rfl, hti, hb3⟩
      have bz := HBY.out.later hb3
      obtain ⟨y0, y1, y2⟩ := bz.cells
      obtain ⟨f0, f1, f2⟩ := bz.free
      have HBZ := Lib.hid bz; have HB3 := Lib.hid (HB.out.trans (hb3.mono HB.out.size))
      have HTI := Lib.hid (hti.keep (w' := w3) (S' := from_ (w.heap.size + 1 + 1)) fun b hb _ => ⟨by have := of_decide_eq_true hb; have := HSZ.out; exact decide_eq_true (by omega), rfl⟩)
      clear hti hb3 bz
      go_wp2_with fail
      obtain ⟨d0, d1, d2⟩ := (box_set3 HBZ.out (.int .i64 tn.kind) (.string tn.name) (.slice A3 tn.kids.length C3)).cells
      refine bodyPost_ret (v := .agg #[.int .i64 tn.kind, .string tn.name, .slice A3 tn.kids.length C3]) (by simp [results, Tryz.results76, go_sem, d0, d1, d2]) rfl ?_
      exact ret_set3 _ _ _ HB3.out (by omega) rfl rfl rfl HTI.out

set_option maxRecDepth 100000 in
set_option maxHeartbeats 2000000 in
/-- Normal of a valid term is its normal form; else the zero term. -/
theorem rnormal (t : T) (v : Value) (w : World) (ht : TermAt w v t) (hbk : t.bulk ≤ 1048576) :
    Calls Tryz.prog 47 #[v] w (RetT (if t.valid = true then t.norm else .mk 0 ⟨#[]⟩ []) w) := by
  have HV := Lib.hid (fun W hW r c hr hc => rvalid t v W hW hbk r c hr hc)
  have HA := Lib.hid (fun W hW (_ : t.shape = true) => rord (t.bulk + 1) t v W (by omega) hW hbk )
  obtain ⟨q, hq⟩ : ∃ q, t.valid = q := ⟨_, rfl⟩
  have HSH := Lib.hid (fun (h : q = true) => show t.shape = true by rw [← hq] at h; exact (Bool.and_eq_true_iff.1 h).2)
  rw [hq] at HV ⊢
  clear hbk hq
  generalize t.norm = tn at *
  cases ht with
  | mk k s A cap ks U h1 h2 h3 h4 hA hU =>
    have HT := Lib.hid (TermAt.mk k s A cap ks U h1 h2 h3 h4 hA hU)
    obtain ⟨bx, by', hb1, hsz⟩ := box_two w (.int .i64 k) (.string s) (.slice A ks.length cap) (.int .i64 0) (.string ⟨#[]⟩) (.slice none 0 0)
    clear hA hU
    go_enter Tryz.func47, Tryz.ntmps47
    go_upto_region 1 with fail
    generalize (w.alloc (.cells #[.int .i64 k, .string s, .slice A ks.length cap] 29)).alloc (.cells #[.int .i64 0, .string ⟨#[]⟩, .slice none 0 0] 29) = w1 at bx by' hb1 hsz ⊢
    have HT1 := Lib.hid (HT.out.later hb1)
    obtain ⟨x0, x1, x2⟩ := bx.cells
    cases q
    · go_wp2_with fail
      refine (HV.out _ HT1.out false 76 rfl (.inr ⟨rfl, rfl⟩)).mono ?_; rintro e w2 ⟨rfl, hb2⟩
      have bz := by'.later hb2
      obtain ⟨y0, y1, y2⟩ := bz.cells
      obtain ⟨f0, f1, f2⟩ := bz.free
      have HB := Lib.hid (hb1.trans (hb2.mono hb1.size)); have HBZ := Lib.hid bz
      clear x0 x1 x2 hb2 bz
      go_wp2_with fail
      obtain ⟨d0, d1, d2⟩ := (box_set3 HBZ.out (.int .i64 0) (.string ⟨#[]⟩) (.slice none 0 0)).cells
      refine bodyPost_ret (v := .agg #[.int .i64 0, .string ⟨#[]⟩, .slice none 0 0]) (by simp [results, Tryz.results47, go_sem, d0, d1, d2]) rfl ?_
      exact ret_set3 (t := .mk 0 ⟨#[]⟩ []) (A := none) (cap := 0) _ _ _ HB.out (by omega) rfl rfl rfl (TermAt.mk 0 ⟨#[]⟩ none 0 [] (fun _ => (undef, undef, undef)) (by decide) (by decide) (Nat.le_refl _) (Nat.zero_le _) (.inl rfl) (fun i h => by simp at h))
    · go_wp2_with fail
      refine (HV.out _ HT1.out true 0 rfl (.inl ⟨rfl, rfl⟩)).mono ?_; rintro e w2 ⟨rfl, hb2⟩
      have y0 := cell_later hb2 x0; have y1 := cell_later hb2 x1; have y2 := cell_later hb2 x2
      have HB := Lib.hid (hb1.trans (hb2.mono hb1.size)); have HBY := Lib.hid (by'.later hb2)
      have HT2 := Lib.hid (HT1.out.later hb2)
      have hsz2 : w.heap.size + 2 ≤ w2.heap.size := by have := hb2.size; omega
      have HSZ := Lib.hid hsz2
      clear x0 x1 x2 hb2 hsz2 hsz
      go_wp2_with fail
      refine (HA.out _ HT2.out (HSH.out (by trivial))).mono ?_; rintro e w3 ⟨A3, C3, rfl, hti, hb3⟩
      have bz := HBY.out.later hb3
      obtain ⟨y0, y1, y2⟩ := bz.cells
      obtain ⟨f0, f1, f2⟩ := bz.free
      have HBZ := Lib.hid bz; have HB3 := Lib.hid (HB.out.trans (hb3.mono HB.out.size))
      have HTI := Lib.hid (hti.keep (w' := w3) (S' := from_ (w.heap.size + 1 + 1)) fun b hb _ => ⟨by have := of_decide_eq_true hb; have := HSZ.out; exact decide_eq_true (by omega), rfl⟩)
      clear hti hb3 bz
      go_wp2_with fail
      obtain ⟨d0, d1, d2⟩ := (box_set3 HBZ.out (.int .i64 tn.kind) (.string tn.name) (.slice A3 tn.kids.length C3)).cells
      refine bodyPost_ret (v := .agg #[.int .i64 tn.kind, .string tn.name, .slice A3 tn.kids.length C3]) (by simp [results, Tryz.results47, go_sem, d0, d1, d2]) rfl ?_
      exact ret_set3 _ _ _ HB3.out (by omega) rfl rfl rfl HTI.out
end Go.Proofs.YtihbmgkbipeakaaGreat

namespace Go.Proofs.YtihbmgkbipeakaaGreat

namespace T
theorem insR_perm (x : T) (l : List T) : (insR x l).Perm (x :: l) := by
  induction l with
  | nil => exact List.Perm.refl _
  | cons y r ih =>
    simp only [insR]
    split
    · exact (ih.cons y).trans (List.Perm.swap _ _ _)
    · exact List.Perm.refl _
theorem fold_perm (l : List T) : ∀ acc, (l.foldl (fun acc x => insR x acc) acc).Perm (acc ++ l) := by
  induction l with
  | nil => intro acc; simp
  | cons x r ih =>
    intro acc
    rw [List.foldl_cons]
    refine (ih _).trans ?_
    refine ((insR_perm x acc).append_right r).trans ?_
    exact List.perm_middle.symm
theorem isort_perm (l : List T) : (isort l).Perm l := by
  unfold isort
  exact (List.reverse_perm _).trans (by simpa using fold_perm l [])
theorem le_of_not {a b : T} (h : ¬ cmp a b < 0) : cmp b a ≤ 0 := by rw [cmp_anti a b]; omega
theorem le_trans_ {a b c : T} (h : cmp a b ≤ 0) (g : cmp b c ≤ 0) : cmp a c ≤ 0 := by
  rcases cmp_vals a b with h1 | h1 | h1
  · rcases cmp_vals b c with g1 | g1 | g1
    · rw [cmp_trans a b c h1 g1]; decide
    · rw [← cmp_eq b c g1]; exact h
    · omega
  · rw [cmp_eq a b h1]; exact g
  · omega
theorem insR_down (x : T) (l : List T) (h : l.Pairwise fun a b => cmp b a ≤ 0) : (insR x l).Pairwise fun a b => cmp b a ≤ 0 := by
  induction l with
  | nil => simp [insR]
  | cons y r ih =>
    simp only [insR]
    rw [List.pairwise_cons] at h
    split
    · rename_i hlt
      rw [List.pairwise_cons]
      refine ⟨fun z hz => ?_, ih h.2⟩
      rcases List.mem_cons.1 ((insR_perm x r).mem_iff.1 hz) with rfl | hz
      · omega
      · exact h.1 z hz
    · rename_i hge
      rw [List.pairwise_cons, List.pairwise_cons]
      refine ⟨fun z hz => ?_, h⟩
      rcases List.mem_cons.1 hz with rfl | hz
      · exact le_of_not hge
      · exact le_trans_ (h.1 z hz) (le_of_not hge)
theorem fold_down (l : List T) : ∀ acc : List T, (acc.Pairwise fun a b => cmp b a ≤ 0) → (l.foldl (fun acc x => insR x acc) acc).Pairwise fun a b => cmp b a ≤ 0 := by
  induction l with
  | nil => intro acc h; exact h
  | cons x r ih => intro acc h; rw [List.foldl_cons]; exact ih _ (insR_down x acc h)
theorem isort_up (l : List T) : (isort l).Pairwise fun a b => cmp a b ≤ 0 := by
  unfold isort
  rw [List.pairwise_reverse]
  exact fold_down l [] List.Pairwise.nil
theorem up_perm : ∀ (l m : List T), l.Perm m → (l.Pairwise fun a b => cmp a b ≤ 0) → (m.Pairwise fun a b => cmp a b ≤ 0) → l = m
  | [], m, h, _, _ => by rw [List.nil_perm.1 h]
  | a :: r, [], h, _, _ => by have := h.length_eq; simp at this
  | a :: r, b :: r', h, h1, h2 => by
    rw [List.pairwise_cons] at h1 h2
    have e : a = b := by
      rcases List.mem_cons.1 (h.mem_iff.1 (List.mem_cons_self)) with e | ha
      · exact e
      · rcases List.mem_cons.1 (h.mem_iff.2 (List.mem_cons_self)) with e | hb
        · exact e.symm
        · have g1 := h1.1 b hb
          have g2 := h2.1 a ha
          rw [cmp_anti a b] at g2
          exact cmp_eq a b (by omega)
    subst e
    rw [up_perm r r' (List.perm_cons a |>.1 h) h1.2 h2.2]
theorem isort_of_perm {l m : List T} (h : l.Perm m) : isort l = isort m :=
  up_perm _ _ ((isort_perm l).trans (h.trans (isort_perm m).symm)) (isort_up l) (isort_up m)

mutual
/-- A term whose exponents stand in the opposite order. -/
def turn : T → T
  | .mk k s ks => .mk k s (if k = 7 then ks.reverse else turnAll ks)
def turnAll : List T → List T
  | [] => []
  | t :: r => turn t :: turnAll r
end
mutual
theorem norm_turn : ∀ t : T, t.turn.norm = t.norm
  | .mk k s ks => by
    simp only [turn, norm]
    split
    · rw [normAll_map, normAll_map, List.map_reverse, isort_of_perm (List.reverse_perm _)]
    · rw [norm_turnAll ks]
theorem norm_turnAll : ∀ l : List T, normAll (turnAll l) = normAll l
  | [] => rfl
  | t :: r => by simp only [turnAll, normAll, norm_turn t, norm_turnAll r]
end
mutual
theorem norm_norm : ∀ t : T, t.norm.norm = t.norm
  | .mk k s ks => by
    simp only [norm]
    split
    · have h : (normAll (isort (normAll ks))).Perm (normAll ks) := by
        have h1 := (isort_perm (normAll ks)).map norm
        rw [← normAll_map, ← normAll_map, norm_normAll ks] at h1
        exact h1
      rw [isort_of_perm h]
    · rw [norm_normAll ks]
theorem norm_normAll : ∀ l : List T, normAll (normAll l) = normAll l
  | [] => rfl
  | t :: r => by simp only [normAll, norm_norm t, norm_normAll r]
end
end T
end Go.Proofs.YtihbmgkbipeakaaGreat

namespace Go.Proofs.YtihbmgkbipeakaaGreat
open Go.RowKit

theorem rsame (t t' : T) (v v' : Value) (w : World) (ht : TermAt w v t) (ht' : TermAt w v' t') (hb : t.bulk ≤ 1048576) (hb' : t'.bulk ≤ 1048576) :
    Calls Tryz.prog 25 #[v, v'] w fun e w' => e = .returned (.bool (decide (t.cmp t' = 0))) ∧ Below w.heap.size w w' := by
  cases ht with
  | mk k s A cap ks U h1 h2 h3 h4 hA hU =>
  cases ht' with
  | mk k' s' A' cap' ks' U' h1' h2' h3' h4' hA' hU' =>
    have hc := fun W hW hW' => rcmp ((T.mk k s ks).bulk + 1) (.mk k s ks) (.mk k' s' ks') (.agg #[.int .i64 k, .string s, .slice A ks.length cap]) (.agg #[.int .i64 k', .string s', .slice A' ks'.length cap']) W (by omega) hW hW' hb hb'
    have ht := TermAt.mk k s A cap ks U h1 h2 h3 h4 hA hU
    have ht' := TermAt.mk k' s' A' cap' ks' U' h1' h2' h3' h4' hA' hU'
    have HC := Lib.hid hc; have HT := Lib.hid ht; have HT' := Lib.hid ht'
    obtain ⟨c, hcv⟩ : ∃ c, (T.mk k s ks).cmp (.mk k' s' ks') = c := ⟨_, rfl⟩
    have HCV := Lib.hid hcv
    clear hc ht ht' hA hA' hU hU' hcv
    go_enter Tryz.func25, Tryz.ntmps25
    go_wp2_with fail
    have hb1 := (boxed_two w (.int .i64 k) (.string s) (.slice A ks.length cap) (.int .i64 k') (.string s') (.slice A' ks'.length cap') 29).2.2
    refine (HC.out _ (HT.out.later hb1) (HT'.out.later hb1)).mono ?_; rintro e w2 ⟨rfl, hb4⟩
    replace hb4 := hb1.trans (hb4.mono hb1.size)
    rw [HCV.out]
    go_wp2_with fail
    go_ret
    exact ⟨ret_bool (by rw [HCV.out, Bool.eq_iff_iff, beq_iff_eq, decide_eq_true_eq]), hb4⟩
end Go.Proofs.YtihbmgkbipeakaaGreat

namespace Go.Proofs.YtihbmgkbipeakaaGreat
open Go.RowKit

namespace T
/-- Is a term valid, and its own normal form? -/
def isN (t : T) : Bool := t.valid && decide (cmp t t.norm = 0)
theorem isN_iff (t : T) : t.isN = true ↔ t.valid = true ∧ t.norm = t := by
  unfold isN
  rw [Bool.and_eq_true, decide_eq_true_eq]
  constructor
  · rintro ⟨h1, h2⟩; exact ⟨h1, (cmp_eq _ _ h2).symm⟩
  · rintro ⟨h1, h2⟩; exact ⟨h1, by rw [h2]; exact cmp_self t⟩
end T

theorem isn_later {w1 W W2 : World} {p0 p1 p2 : Addr} {v0 v1 v2 : Value} {a : Value} {ta : T} (h : W.cell? p0 = some v0 ∧ W.cell? p1 = some v1 ∧ W.cell? p2 = some v2 ∧ TermAt W a ta ∧ Below w1.heap.size w1 W)
    (hb : Below W.heap.size W W2) : W2.cell? p0 = some v0 ∧ W2.cell? p1 = some v1 ∧ W2.cell? p2 = some v2 ∧ TermAt W2 a ta ∧ Below w1.heap.size w1 W2 := by
  obtain ⟨h0, h1, h2, h6, h8⟩ := h
  exact ⟨cell_later hb h0, cell_later hb h1, cell_later hb h2, h6.later hb, h8.trans (hb.mono h8.size)⟩

set_option maxRecDepth 100000 in
set_option maxHeartbeats 4000000 in
theorem oisn (t : T) (v : Value) (w : World) (ht : TermAt w v t) (hbk : t.bulk ≤ 1048576) :
    Calls Tryz.prog 59 #[v] w fun e w' => e = .returned (.bool t.isN) ∧ Below w.heap.size w w' := by
  have HV := Lib.hid (fun W hW r c hr hc => ovalid t v W hW hbk r c hr hc)
  have HA := Lib.hid (fun W hW (hs : t.shape = true) => oarr (t.bulk + 1) t v W (by omega) hW hbk hs)
  have HC := Lib.hid (fun v' W hW hW' => ocmp (t.bulk + 1) t t.norm v v' W (by omega) hW hW' hbk (by rw [T.bulk_norm]; exact hbk))
  have hI : t.isN = (t.valid && decide (T.cmp t t.norm = 0)) := rfl
  obtain ⟨q, hq⟩ : ∃ q, t.valid = q := ⟨_, rfl⟩
  obtain ⟨c, hc⟩ : ∃ c, T.cmp t t.norm = c := ⟨_, rfl⟩
  have HSH := Lib.hid (fun (h : q = true) => show t.shape = true by rw [← hq] at h; exact (Bool.and_eq_true_iff.1 h).2)
  rw [hI]
  rw [hc] at HC ⊢
  rw [hq] at HV ⊢
  clear hI hbk hq hc
  generalize t.norm = tn at HA HC
  cases ht with
  | mk k s A cap ks U h1 h2 h3 h4 hA hU =>
  have HT := Lib.hid (TermAt.mk k s A cap ks U h1 h2 h3 h4 hA hU)
  have hbx := boxed_new w (.int .i64 k) (.string s) (.slice A ks.length cap) 29
  have hb1 := below_alloc1 w (.cells #[.int .i64 k, .string s, .slice A ks.length cap] 29)
  clear hA hU
  go_enter Tryz.func59, Tryz.ntmps59
  go_upto_region 1 with fail
  generalize w.alloc (.cells #[.int .i64 k, .string s, .slice A ks.length cap] 29) = w1 at hbx hb1 ⊢
  obtain ⟨x0, x1, x2⟩ := hbx
  have HT1 := Lib.hid (HT.out.later hb1); have HB1 := Lib.hid hb1
  clear hb1
  cases q
  · (refine wp_region_held_drew (S := (fun W => W.cell? ⟨w.heap.size, 0, none⟩ = some (.int .i64 k) ∧ W.cell? ⟨w.heap.size, 1, none⟩ = some (.string s) ∧ W.cell? ⟨w.heap.size, 2, none⟩ = some (.slice A ks.length cap) ∧ TermAt W (.agg #[.int .i64 k, .string s, .slice A ks.length cap]) (.mk k s ks) ∧ Below w1.heap.size w1 W)) (by kernel_rfl) (show _ ∧ _ ∧ _ ∧ _ ∧ _ from ⟨x0, x1, x2, HT1.out.drew, (Below.refl _ _).drew⟩) (fun hHeld => ?_))
    (first | (refine tkJ 0 _ (h := ?_)) | (refine tkM 0 (h := ?_)))
    (refine rdJ 1 (h := fun K hK => ?_); go_simp; go_at_call 74; refine (HV.out _ hHeld.2.2.2.1 false 76 rfl (.inr ⟨rfl, rfl⟩)).mono ?_; rintro e w' ⟨rfl, hb4⟩; refine shK hK (isn_later hHeld hb4) (h := fun hHeld => ?_); clear hK K)
    (first | (refine tkJ 2 _ (h := ?_)) | (refine tkM 2 (h := ?_)))
    (first | (refine tkJ 3 _ (h := ?_)) | (refine tkM 3 (h := ?_)))
    (first | (refine tkJ 4 _ (h := ?_)) | (refine tkM 4 (h := ?_)))
    (first | (refine tkJ 5 _ (h := ?_)) | (refine tkM 5 (h := ?_)))
    (first | (refine tkJ 6 _ (h := ?_)) | (refine tkM 6 (h := ?_)))
    (first | (refine tkJ 7 _ (h := ?_)) | (refine tkM 7 (h := ?_)))
    (first | (refine tkJ 8 _ (h := ?_)) | (refine tkM 8 (h := ?_)))
    (first | (refine tkJ 9 _ (h := ?_)) | (refine tkM 9 (h := ?_)))
    (first | (refine tkJ 10 _ (h := ?_)) | (refine tkM 10 (h := ?_)))
    (refine wpAnyH_done (by kernel_rfl) ?_ _)
    have HB := Lib.hid (HB1.out.trans (hHeld.2.2.2.2.mono HB1.out.size))
    clear hHeld x0 x1 x2
    go_wp2_with fail
    go_ret
    exact ⟨rfl, HB.out⟩
  · (refine wp_region_held_drew (S := (fun W => W.cell? ⟨w.heap.size, 0, none⟩ = some (.int .i64 k) ∧ W.cell? ⟨w.heap.size, 1, none⟩ = some (.string s) ∧ W.cell? ⟨w.heap.size, 2, none⟩ = some (.slice A ks.length cap) ∧ TermAt W (.agg #[.int .i64 k, .string s, .slice A ks.length cap]) (.mk k s ks) ∧ Below w1.heap.size w1 W)) (by kernel_rfl) (show _ ∧ _ ∧ _ ∧ _ ∧ _ from ⟨x0, x1, x2, HT1.out.drew, (Below.refl _ _).drew⟩) (fun hHeld => ?_))
    (first | (refine tkJ 0 _ (h := ?_)) | (refine tkM 0 (h := ?_)))
    (refine rdJ 1 (h := fun K hK => ?_); go_simp; go_at_call 74; refine (HV.out _ hHeld.2.2.2.1 true 0 rfl (.inl ⟨rfl, rfl⟩)).mono ?_; rintro e w' ⟨rfl, hb4⟩; refine shK hK (isn_later hHeld hb4) (h := fun hHeld => ?_); clear hK K)
    (first | (refine tkJ 2 _ (h := ?_)) | (refine tkM 2 (h := ?_)))
    (first | (refine tkJ 3 _ (h := ?_)) | (refine tkM 3 (h := ?_)))
    (first | (refine tkJ 4 _ (h := ?_)) | (refine tkM 4 (h := ?_)))
    (first | (refine tkJ 5 _ (h := ?_)) | (refine tkM 5 (h := ?_)))
    (refine rdJ 6 (h := fun K hK => ?_); go_simp; go_at_call 106; refine (HA.out _ hHeld.2.2.2.1 (HSH.out rfl)).mono ?_; rintro e w' ⟨A3, C3, rfl, hti, hb4⟩; have HN := Lib.hid hti.at; refine shK hK (isn_later hHeld hb4) (h := fun hHeld => ?_); clear hK K)
    (refine rdJ 7 (h := fun K hK => ?_); go_simp; go_at_call 103; refine (HC.out _ _ hHeld.2.2.2.1 HN.out).mono ?_; rintro e w' ⟨rfl, hb4⟩; refine shK hK (isn_later hHeld hb4) (h := fun hHeld => ?_); clear hK K)
    (first | (refine tkJ 8 _ (h := ?_)) | (refine tkM 8 (h := ?_)))
    (first | (refine tkJ 9 _ (h := ?_)) | (refine tkM 9 (h := ?_)))
    (first | (refine tkJ 10 _ (h := ?_)) | (refine tkM 10 (h := ?_)))
    (refine wpAnyH_done (by kernel_rfl) ?_ _)
    have HB := Lib.hid (HB1.out.trans (hHeld.2.2.2.2.mono HB1.out.size))
    clear hHeld x0 x1 x2
    go_wp2_with fail
    go_ret
    exact ⟨ret_bool (by first | rfl | simp), HB.out⟩

set_option maxRecDepth 100000 in
set_option maxHeartbeats 4000000 in
theorem rproper (t : T) (v : Value) (w : World) (ht : TermAt w v t) (hbk : t.bulk ≤ 1048576) :
    Calls Tryz.prog 65 #[v] w fun e w' => e = .returned (.bool t.isN) ∧ Below w.heap.size w w' := by
  have HV := Lib.hid (fun W hW r c hr hc => rvalid t v W hW hbk r c hr hc)
  have HA := Lib.hid (fun W hW => rord (t.bulk + 1) t v W (by omega) hW hbk)
  have HC := Lib.hid (fun v' W hW hW' => rsame t t.norm v v' W hW hW' hbk (by rw [T.bulk_norm]; exact hbk))
  have hI : t.isN = (t.valid && decide (T.cmp t t.norm = 0)) := rfl
  obtain ⟨q, hq⟩ : ∃ q, t.valid = q := ⟨_, rfl⟩
  obtain ⟨c, hc⟩ : ∃ c, T.cmp t t.norm = c := ⟨_, rfl⟩
  rw [hI]
  rw [hc] at HC ⊢
  rw [hq] at HV ⊢
  clear hI hbk hq hc
  generalize t.norm = tn at HA HC
  cases ht with
  | mk k s A cap ks U h1 h2 h3 h4 hA hU =>
  have HT := Lib.hid (TermAt.mk k s A cap ks U h1 h2 h3 h4 hA hU)
  have hbx := boxed_new w (.int .i64 k) (.string s) (.slice A ks.length cap) 29
  have hb1 := below_alloc1 w (.cells #[.int .i64 k, .string s, .slice A ks.length cap] 29)
  clear hA hU
  go_enter Tryz.func65, Tryz.ntmps65
  go_upto_region 1 with fail
  generalize w.alloc (.cells #[.int .i64 k, .string s, .slice A ks.length cap] 29) = w1 at hbx hb1 ⊢
  obtain ⟨x0, x1, x2⟩ := hbx
  have HT1 := Lib.hid (HT.out.later hb1); have HB1 := Lib.hid hb1
  clear hb1
  cases q
  · (refine wp_region_held_drew (S := (fun W => W.cell? ⟨w.heap.size, 0, none⟩ = some (.int .i64 k) ∧ W.cell? ⟨w.heap.size, 1, none⟩ = some (.string s) ∧ W.cell? ⟨w.heap.size, 2, none⟩ = some (.slice A ks.length cap) ∧ TermAt W (.agg #[.int .i64 k, .string s, .slice A ks.length cap]) (.mk k s ks) ∧ Below w1.heap.size w1 W)) (by kernel_rfl) (show _ ∧ _ ∧ _ ∧ _ ∧ _ from ⟨x0, x1, x2, HT1.out.drew, (Below.refl _ _).drew⟩) (fun hHeld => ?_))
    (first | (refine tkJ 0 _ (h := ?_)) | (refine tkM 0 (h := ?_)))
    (refine rdJ 1 (h := fun K hK => ?_); go_simp; go_at_call 94; refine (HV.out _ hHeld.2.2.2.1 false 76 rfl (.inr ⟨rfl, rfl⟩)).mono ?_; rintro e w' ⟨rfl, hb4⟩; refine shK hK (isn_later hHeld hb4) (h := fun hHeld => ?_); clear hK K)
    (first | (refine tkJ 2 _ (h := ?_)) | (refine tkM 2 (h := ?_)))
    (first | (refine tkJ 3 _ (h := ?_)) | (refine tkM 3 (h := ?_)))
    (first | (refine tkJ 4 _ (h := ?_)) | (refine tkM 4 (h := ?_)))
    (first | (refine tkJ 5 _ (h := ?_)) | (refine tkM 5 (h := ?_)))
    (first | (refine tkJ 6 _ (h := ?_)) | (refine tkM 6 (h := ?_)))
    (first | (refine tkJ 7 _ (h := ?_)) | (refine tkM 7 (h := ?_)))
    (first | (refine tkJ 8 _ (h := ?_)) | (refine tkM 8 (h := ?_)))
    (first | (refine tkJ 9 _ (h := ?_)) | (refine tkM 9 (h := ?_)))
    (refine wpAnyH_done (by kernel_rfl) ?_ _)
    have HB := Lib.hid (HB1.out.trans (hHeld.2.2.2.2.mono HB1.out.size))
    clear hHeld x0 x1 x2
    go_wp2_with fail
    go_ret
    exact ⟨rfl, HB.out⟩
  · (refine wp_region_held_drew (S := (fun W => W.cell? ⟨w.heap.size, 0, none⟩ = some (.int .i64 k) ∧ W.cell? ⟨w.heap.size, 1, none⟩ = some (.string s) ∧ W.cell? ⟨w.heap.size, 2, none⟩ = some (.slice A ks.length cap) ∧ TermAt W (.agg #[.int .i64 k, .string s, .slice A ks.length cap]) (.mk k s ks) ∧ Below w1.heap.size w1 W)) (by kernel_rfl) (show _ ∧ _ ∧ _ ∧ _ ∧ _ from ⟨x0, x1, x2, HT1.out.drew, (Below.refl _ _).drew⟩) (fun hHeld => ?_))
    (first | (refine tkJ 0 _ (h := ?_)) | (refine tkM 0 (h := ?_)))
    (refine rdJ 1 (h := fun K hK => ?_); go_simp; go_at_call 94; refine (HV.out _ hHeld.2.2.2.1 true 0 rfl (.inl ⟨rfl, rfl⟩)).mono ?_; rintro e w' ⟨rfl, hb4⟩; refine shK hK (isn_later hHeld hb4) (h := fun hHeld => ?_); clear hK K)
    (first | (refine tkJ 2 _ (h := ?_)) | (refine tkM 2 (h := ?_)))
    (first | (refine tkJ 3 _ (h := ?_)) | (refine tkM 3 (h := ?_)))
    (first | (refine tkJ 4 _ (h := ?_)) | (refine tkM 4 (h := ?_)))
    (first | (refine tkJ 5 _ (h := ?_)) | (refine tkM 5 (h := ?_)))
    (refine rdJ 6 (h := fun K hK => ?_); go_simp; go_at_call 95; refine (HA.out _ hHeld.2.2.2.1).mono ?_; rintro e w' ⟨A3, C3, rfl, hti, hb4⟩; have HN := Lib.hid hti.at; refine shK hK (isn_later hHeld hb4) (h := fun hHeld => ?_); clear hK K)
    (refine rdJ 7 (h := fun K hK => ?_); go_simp; go_at_call 25; refine (HC.out _ _ hHeld.2.2.2.1 HN.out).mono ?_; rintro e w' ⟨rfl, hb4⟩; refine shK hK (isn_later hHeld hb4) (h := fun hHeld => ?_); clear hK K)
    (first | (refine tkJ 8 _ (h := ?_)) | (refine tkM 8 (h := ?_)))
    (first | (refine tkJ 9 _ (h := ?_)) | (refine tkM 9 (h := ?_)))
    (refine wpAnyH_done (by kernel_rfl) ?_ _)
    have HB := Lib.hid (HB1.out.trans (hHeld.2.2.2.2.mono HB1.out.size))
    clear hHeld x0 x1 x2
    go_wp2_with fail
    go_ret
    exact ⟨ret_bool (by first | rfl | simp), HB.out⟩
end Go.Proofs.YtihbmgkbipeakaaGreat

namespace Go.Proofs.YtihbmgkbipeakaaGreat
open Go.RowKit

/-- A text as a string. -/
def strOf (l : List UInt8) : ByteArray := ⟨l.toArray⟩
theorem strOf_size (l : List UInt8) : (strOf l).size = l.length := str_size l
theorem strOf_data (l : List UInt8) : (strOf l).data.toList = l := by simp [strOf]
end Go.Proofs.YtihbmgkbipeakaaGreat

namespace Go.Proofs.YtihbmgkbipeakaaGreat
open Go.RowKit

namespace T
/-- What stands in front of the kids. -/
def headS (k : Int) : List UInt8 := if k = 4 then [104, 97, 115, 104] else if k = 5 then [115, 101, 97, 108] else if k = 6 then [115, 105, 103, 110] else [112, 111, 119, 101, 114]
mutual
/-- A term as text. -/
def text : T → List UInt8
  | .mk k s ks => if k = 1 then s.data.toList else if k = 2 then 63 :: s.data.toList else if k = 3 then [60] ++ textAll ks ++ [62] else headS k ++ [40] ++ textAll ks ++ [41]
def textAll : List T → List UInt8
  | [] => []
  | t :: r => text t ++ textTail r
/-- The further kids, each behind a comma. -/
def textTail : List T → List UInt8
  | [] => []
  | t :: r => [44, 32] ++ text t ++ textTail r
end
theorem textTail_join : ∀ l : List T, textTail l = Lib.joinTail [44, 32] (l.map text)
  | [] => rfl
  | t :: r => by simp [textTail, Lib.joinTail, textTail_join r]
theorem textAll_join : ∀ l : List T, textAll l = Lib.join (l.map text) [44, 32]
  | [] => rfl
  | t :: r => by rw [List.map_cons, Lib.join_cons, ← textTail_join]; rfl
theorem headS_len (k : Int) : (headS k).length ≤ 5 := by
  unfold headS; repeat' split
  all_goals simp
mutual
theorem text_len : ∀ t : T, t.text.length + 2 ≤ 3 * t.bulk
  | .mk k s ks => by
    have h := textAll_len ks
    have h' := headS_len k
    simp only [text, bulk]
    repeat' split
    all_goals simp <;> omega
theorem textAll_len : ∀ l : List T, (textAll l).length ≤ 3 * bulkAll l
  | [] => by simp [textAll]
  | t :: r => by
    have h := text_len t
    have h' := textTail_len r
    simp only [textAll, bulkAll, List.length_append]; omega
theorem textTail_len : ∀ l : List T, (textTail l).length ≤ 3 * bulkAll l
  | [] => by simp [textTail]
  | t :: r => by
    have h := text_len t
    have h' := textTail_len r
    simp only [textTail, bulkAll, List.length_append, List.length_cons, List.length_nil]; omega
end
end T
theorem ohead (k : Int) (w : World) : Calls Tryz.prog 189 #[.int .i64 k] w fun e w' => e = .returned (.string ⟨(T.headS k).toArray⟩) ∧ w = w' := by
  have hc : (k = 4 ∧ T.headS k = [104, 97, 115, 104]) ∨ (k = 5 ∧ T.headS k = [115, 101, 97, 108]) ∨ (k = 6 ∧ T.headS k = [115, 105, 103, 110]) ∨ (((k == 4) = false ∧ (k == 5) = false ∧ (k == 6) = false) ∧ T.headS k = [112, 111, 119, 101, 114]) := by
    unfold T.headS
    by_cases h4 : k = 4
    · left; exact ⟨h4, by rw [if_pos h4]⟩
    by_cases h5 : k = 5
    · right; left; exact ⟨h5, by rw [if_neg h4, if_pos h5]⟩
    by_cases h6 : k = 6
    · right; right; left; exact ⟨h6, by rw [if_neg h4, if_neg h5, if_pos h6]⟩
    · right; right; right; refine ⟨⟨?_, ?_, ?_⟩, by rw [if_neg h4, if_neg h5, if_neg h6]⟩ <;> (rw [beq_eq_false_iff_ne]; assumption)
  rcases hc with ⟨rfl, e⟩ | ⟨rfl, e⟩ | ⟨rfl, e⟩ | ⟨⟨g4, g5, g6⟩, e⟩
  all_goals
    have E := Lib.hid e; clear e
    go_enter Tryz.func189, Tryz.ntmps189
    go_wp2
    go_ret
    exact ⟨ret_str (by rw [E.out]), rfl⟩
end Go.Proofs.YtihbmgkbipeakaaGreat

namespace Go.Proofs.YtihbmgkbipeakaaGreat

namespace T
/-- The text by which a term is found. -/
def key (t : T) : ByteArray := if t.valid = true then strOf t.text else ⟨#[]⟩
def nil_ : T := .mk 0 ⟨#[]⟩ []
def kid (t : T) (i : Nat) : T := t.kids.getD i nil_
/-- A power with an exponent less. -/
def lessOf (t : T) (i : Nat) : T := .mk 7 ⟨#[]⟩ (t.kids.eraseIdx i)
end T

/-- A step: its term, how it was found, from which steps; and whether it was found by taking apart. -/
structure Stp where
  t : T
  how : Nat
  frm : List Nat
  part : Bool
namespace Wb
def find (W : List Stp) (t : T) : Option Nat := W.findIdx? fun s => decide (s.t.key = t.key)
def add (W : List Stp) (t : T) (how : Nat) (frm : List Nat) : List Stp × Nat :=
  match find W t with
  | some i => (W, i)
  | none => (W ++ [⟨t, how, frm, false⟩], W.length)
def partAt (W : List Stp) (i : Nat) : Bool := (W[i]?.map Stp.part).getD false
def mark (W : List Stp) (i : Nat) : List Stp := W.modify i fun s => { s with part := true }
def take (W : List Stp) (t : T) (how : Nat) (frm : List Nat) : List Stp × Bool :=
  if partAt (add W t how frm).1 (add W t how frm).2 = true then ((add W t how frm).1, false) else (mark (add W t how frm).1 (add W t how frm).2, true)
/-- Both kids, then the term. -/
def both (rec : List Stp → T → List Stp × Option Nat) (W : List Stp) (t : T) (how : Nat) : List Stp × Option Nat :=
  match (rec W (t.kid 0)).2 with
  | none => ((rec W (t.kid 0)).1, none)
  | some a =>
    match (rec (rec W (t.kid 0)).1 (t.kid 1)).2 with
    | none => ((rec (rec W (t.kid 0)).1 (t.kid 1)).1, none)
    | some b => ((add (rec (rec W (t.kid 0)).1 (t.kid 1)).1 t how [a, b]).1, some (add (rec (rec W (t.kid 0)).1 (t.kid 1)).1 t how [a, b]).2)
/-- A power: the exponents from the i-th on are tried. -/
def pow (rec : List Stp → T → List Stp × Option Nat) (t : T) : Nat → Nat → List Stp → List Stp × Option Nat
  | 0, _, W => (W, none)
  | f + 1, i, W =>
    match find W (t.kid i) with
    | none => pow rec t f (i + 1) W
    | some nm =>
      if t.kids.length = 1 then ((add W t 11 [nm]).1, some (add W t 11 [nm]).2)
      else match (rec W (t.lessOf i)).2 with
        | none => pow rec t f (i + 1) (rec W (t.lessOf i)).1
        | some p => ((add (rec W (t.lessOf i)).1 t 10 [p, nm]).1, some (add (rec W (t.lessOf i)).1 t 10 [p, nm]).2)
/-- A term is put together. -/
def build : Nat → List Stp → T → List Stp × Option Nat
  | 0, W, _ => (W, none)
  | n + 1, W, t =>
    match find W t with
    | some i => (W, some i)
    | none =>
      if t.kind = 4 then
        match (build n W (t.kid 0)).2 with
        | none => ((build n W (t.kid 0)).1, none)
        | some m => ((add (build n W (t.kid 0)).1 t 7 [m]).1, some (add (build n W (t.kid 0)).1 t 7 [m]).2)
      else if t.kind = 3 then both (build n) W t 6
      else if t.kind = 5 then both (build n) W t 8
      else if t.kind = 6 then both (build n) W t 9
      else if t.kind = 7 then pow (build n) t t.kids.length 0 W
      else (W, none)
def bld (W : List Stp) (t : T) : List Stp × Option Nat := build (t.bulk + 1) W t
def termAt (W : List Stp) (i : Nat) : T := (W[i]?.map Stp.t).getD T.nil_
/-- A step's term is taken apart. -/
def apart (W : List Stp) (i : Nat) : List Stp × Bool :=
  let t := termAt W i
  if t.kind = 3 then ((take (take W (t.kid 0) 2 [i]).1 (t.kid 1) 3 [i]).1, (take (take W (t.kid 0) 2 [i]).1 (t.kid 1) 3 [i]).2 || (take W (t.kid 0) 2 [i]).2)
  else if t.kind = 6 then take W (t.kid 1) 5 [i]
  else if t.kind = 5 then
    if (find W (t.kid 1)).any (fun m => partAt W m) = true then (W, false)
    else match (bld W (t.kid 0)).2 with
      | none => ((bld W (t.kid 0)).1, false)
      | some k => take (bld W (t.kid 0)).1 (t.kid 1) 4 [i, k]
  else (W, false)
/-- A round over the steps from the i-th on. -/
def rnd : Nat → Nat → Bool → List Stp → List Stp × Bool
  | 0, _, m, W => (W, m)
  | f + 1, i, m, W =>
    if i < W.length then
      if partAt W i = true then rnd f (i + 1) (m || (apart W i).2) (apart W i).1 else rnd f (i + 1) m W
    else (W, m)
def run (U : Nat) : Nat → List Stp → List Stp
  | 0, W => W
  | f + 1, W => if (rnd U 0 false W).2 = true then run U f (rnd U 0 false W).1 else (rnd U 0 false W).1
def start (ts : List T) : List Stp := ts.foldl (fun W t => (take W t 1 []).1) []
end Wb
end Go.Proofs.YtihbmgkbipeakaaGreat

namespace Go.Proofs.YtihbmgkbipeakaaGreat
open Go.RowKit

theorem Tryz.infoS : (Tryz.prog.info? 9).map (fun i => (i.zero, i.size, i.bytes)) = some (some (.string ByteArray.empty), 1, 16) := by kernel_rfl

theorem join_texts (ks : List T) (sv : Value) (base : Nat) (wr : World) (hown : wr.ownsRow base 9 1 sv ks.length (ks.map fun t => .string (strOf t.text))) (hkn : ks.length ≤ 262144) (htl : (T.textAll ks).length ≤ 3145728) :
    Calls Tryz.prog 188 #[sv, .string ⟨#[44, 32]⟩] wr fun e w' => e = .returned (.string (strOf (T.textAll ks))) ∧ Below wr.heap.size wr w' := by
  rcases hown.2 with ⟨rfl, h0⟩ | ⟨g, c, cur, rfl, h5, h6, h7, h8, h9, h10⟩
  · have : ks = [] := List.eq_nil_of_length_eq_zero h0
    subst this
    refine (Tryz.strings_Join_none none 0 ⟨#[44, 32]⟩ wr).mono ?_
    rintro e w' ⟨rfl, rfl⟩
    exact ⟨rfl, Below.refl _ _⟩
  · have e1 : (List.map (fun x : ByteArray => x.data.toList) (ks.map fun t => strOf t.text)) = ks.map T.text := by
      rw [List.map_map]; exact List.map_congr_left fun t _ => strOf_data t.text
    have e2 : (Lib.join (ks.map T.text) (ByteArray.mk #[44, 32]).data.toList) = T.textAll ks := (T.textAll_join ks).symm
    have hc : ∀ (i : Nat) x, (ks.map fun t => strOf t.text)[i]? = some x → wr.cell? ⟨g, 0 + i, none⟩ = some (.string x) := fun i x hx => by
      have := hown.cells (g := g) rfl i (.string x) (by
        rw [List.getElem?_map] at hx ⊢
        obtain ⟨t, ht, rfl⟩ := Option.map_eq_some_iff.1 hx
        rw [ht]; rfl)
      rw [Go.WideShapes.add_plain] at this
      exact this
    have hj := Tryz.strings_Join g 0 c (ks.map fun t => strOf t.text) ⟨#[44, 32]⟩ wr hc (Array.getElem?_eq_some_iff.1 h6).1 (by rw [List.length_map]; omega) (by rw [List.length_map]; exact h7) (by rw [e1, e2]; omega)
    rw [e1, e2, List.length_map] at hj
    exact hj

set_option maxRecDepth 100000 in
set_option maxHeartbeats 600000 in
theorem owrite : ∀ (N : Nat) (t : T) (v : Value) (w : World), t.bulk < N → TermAt w v t → t.bulk ≤ 1048576 →
    Calls Tryz.prog 155 #[v] w fun e w' => e = .returned (.string (strOf t.text)) ∧ Below w.heap.size w w' := by
  intro N
  induction N with
  | zero => intro t v w h; omega
  | succ N ih =>
    intro t v w hN ht hbk
    cases ht with
    | mk k s A cap ks U h1 h2 h3 h4 hA hU =>
      simp only [T.bulk] at hN hbk
      have hkn : ks.length ≤ 262144 := by have := T.len_le ks; omega
      have htl := T.textAll_len ks
      have hss : s.size ≤ 1048576 := by omega
      obtain ⟨i0, hi0, hz0, hz1, hz2⟩ := info_parts Tryz.infoS
      have hbx := boxed_new w (.int .i64 k) (.string s) (.slice A ks.length cap) 29
      have hb1 := below_alloc1 w (.cells #[.int .i64 k, .string s, .slice A ks.length cap] 29)
      have hsz := size_alloc1 w (.cells #[.int .i64 k, .string s, .slice A ks.length cap] 29)
      obtain ⟨R, hR⟩ : ∃ R, strOf (T.mk k s ks).text = R := ⟨_, rfl⟩
      rw [hR]
      go_enter Tryz.func155, Tryz.ntmps155
      go_upto_region 1 with fail
      generalize w.alloc (.cells #[.int .i64 k, .string s, .slice A ks.length cap] 29) = w1 at hbx hb1 hsz ⊢
      obtain ⟨x0, x1, x2⟩ := hbx
      have IH := Lib.hid ih
      have BA := Lib.hid hA; have BU := Lib.hid hU
      clear ih hA hU
      by_cases k1 : k = 1
      · subst k1
        have HR := Lib.hid (show s = R by rw [← hR]; simp only [T.text, if_true]; exact str_of s)
        clear hR
        go_wp2_with fail
        go_ret
        exact ⟨ret_str HR.out, hb1⟩
      by_cases k2 : k = 2
      · subst k2
        have HR := Lib.hid (show (⟨#[63]⟩ : ByteArray) ++ s = R by
          rw [← hR]; simp only [T.text]
          have := str_add [63] s.data.toList
          rw [← str_of s] at this
          exact this)
        clear hR k1
        go_wp2_with fail
        go_ret
        exact ⟨ret_str HR.out, hb1⟩
      have k1' : (k == 1) = false := by rw [beq_eq_false_iff_ne]; exact k1
      have k2' : (k == 2) = false := by rw [beq_eq_false_iff_ne]; exact k2
      have hR2 : strOf (if k = 3 then [60] ++ T.textAll ks ++ [62] else T.headS k ++ [40] ++ T.textAll ks ++ [41]) = R := by rw [← hR]; simp only [T.text, if_neg k1, if_neg k2]
      have HR2 := Lib.hid hR2
      clear hR hR2 k1 k2
      have HHD := T.headS_len k
      go_wp2_with fail
      go_loopw [3, 21] (fun v3 i wr => ∃ (j : Nat) (sv : Value), j ≤ ks.length ∧ i = .int .i64 j ∧ sv = v3 ∧ wr.ownsRow (w.heap.size + 1) 9 1 sv j ((ks.take j).map fun t => .string (strOf t.text)) ∧ Below w1.heap.size w1 wr) (fun _ i _ => ks.length - (intOf i).toNat)
      case atStart => exact ⟨0, _, Nat.zero_le _, rfl, rfl, World.ownsRow_nil _ _ _ _, Below.refl _ _⟩
      case round =>
        obtain ⟨j, sv, hj, rfl, rfl, hown, hbl⟩ := hrel
        have hbw := hb1.trans (hbl.mono hb1.size)
        by_cases hlt : j < ks.length
        · obtain ⟨b, off, B1, C1, rfl, d0, d1, d2, hu⟩ := TermAt.cells hlt BA.out BU.out
          have e0 := cell_later hbw d0; have e1 := cell_later hbw d1; have e2 := cell_later hbw d2
          have hi : (j : Int) < (ks.length : Int) := by omega
          have HU := Lib.hid (hu.later hbw); have HLT := Lib.hid hlt
          have HB2 := Lib.hid (show ks[j].bulk < N ∧ ks[j].bulk ≤ 1048576 by have := T.bulk_at ks j hlt; omega)
          have HOWN := Lib.hid hown; have HBL := Lib.hid hbl; have HSZ := Lib.hid hsz
          have HTK := Lib.hid (show (ks.take j).map (fun t => Value.string (strOf t.text)) ++ [.string (strOf ks[j].text)] = (ks.take (j + 1)).map (fun t => Value.string (strOf t.text)) by rw [List.take_succ_eq_append_getElem hlt, List.map_append]; rfl)
          have HKN := Lib.hid hkn
          clear d0 d1 d2 hu hj hbw hown hbl htl hss
          go_wp2_with fail
          refine (IH.out _ _ _ HB2.out.1 (HU.out.later (below_alloc1 _ _)) HB2.out.2).mono ?_; rintro e w2 ⟨rfl, hb4⟩
          replace hb4 := (below_alloc1 wr (.cells #[.int .i64 ks[j].kind, .string ks[j].name, .slice B1 ks[j].kids.length C1] 29)).trans (hb4.mono (below_alloc1 _ _).size)
          have HB4 := Lib.hid hb4
          have HOWN4 := Lib.hid ((own_later HOWN.out hb4).alloc (.cells #[.string (strOf ks[j].text)] 9))
          have HMS := Lib.hid (show w.heap.size + 1 ≤ (w2.alloc (.cells #[.string (strOf ks[j].text)] 9)).heap.size by rw [size_alloc1]; have := hb4.size; have := HBL.out.size; have := HSZ.out; omega)
          clear hb4 e0 e1 e2
          go_wp2_with (at_builtin; refine wpList_append_lies _ rfl _ _ 56 rfl (w.heap.size + 1) 9 i0 _ 1 16 Tryz.underlying56 hi0 hz0 hz1 hz2 rfl (by omega) _ j _ rfl HOWN4.out ⟨w2.heap.size, 0, none⟩ 1 1 [.string (strOf ks[j].text)] rfl rfl (cell_one_new _ _ _) (by simp [Value.oneCell']) (by omega) (by have := HLT.out; have := HKN.out; unfold maxLen; omega) (by have := HLT.out; have := HKN.out; omega) HMS.out _ rfl ?_; intro g cap' w5 hown5 hg5 hat5 hlt5)
          rw [HTK.out] at hown5
          have HO5 := Lib.hid hown5
          have HB5 := Lib.hid ((HBL.out.trans ((HB4.out.trans ((below_alloc1 w2 (.cells #[.string (strOf ks[j].text)] 9)).mono HB4.out.size)).mono HBL.out.size)).grown hg5 (by have := HMS.out; have := HSZ.out; omega) (fun q hq => by have := (HOWN.out.lt q hq).1; have := HSZ.out; omega))
          clear hown5 hg5 hat5 hlt5
          go_wp2_with fail
          go_roundw
          case rel => exact ⟨j + 1, _, HLT.out, by go_num, rfl, HO5.out, HB5.out⟩
          case measure => have := HLT.out; simp [intOf]; omega
        · obtain rfl : j = ks.length := by omega
          rw [List.take_length] at hown
          have hj := join_texts ks sv (w.heap.size + 1) wr hown hkn (by omega)
          have HJ := Lib.hid hj
          obtain ⟨J, hJ⟩ : ∃ J, T.textAll ks = J := ⟨_, rfl⟩
          rw [hJ] at HJ HR2 htl
          have HB := Lib.hid hbw; have HBL := Lib.hid hbl
          have z0 := cell_later hbl x0
          have hJs : (strOf J).size ≤ 3145728 := by rw [strOf_size]; omega
          clear hj hown hbw hbl hlt hJ x0 x1 x2 htl
          go_wp2_with fail
          refine HJ.out.mono ?_; rintro e w2 ⟨rfl, hb2⟩
          have y0 := cell_later hb2 z0
          have HB2 := Lib.hid (HB.out.trans (hb2.mono HB.out.size))
          clear hb2 z0
          by_cases k3 : k = 3
          · subst k3
            have HR := Lib.hid (show (⟨#[60]⟩ : ByteArray) ++ strOf J ++ ⟨#[62]⟩ = R by
              have := HR2.out
              simp only [if_true] at this
              rw [← this]
              show (⟨[60].toArray⟩ : ByteArray) ++ ⟨J.toArray⟩ ++ ⟨[62].toArray⟩ = _
              rw [str_add, str_add]; rfl)
            have s1 : (1 : Nat) + (strOf J).size ≤ 9223372036854775807 := by omega
            clear k1' k2'
            go_wp2_with fail
            go_ret
            exact ⟨ret_str HR.out, HB2.out⟩
          · have k3' : (k == 3) = false := by rw [beq_eq_false_iff_ne]; exact k3
            have HR := Lib.hid (show (⟨(T.headS k).toArray⟩ : ByteArray) ++ ⟨#[40]⟩ ++ strOf J ++ ⟨#[41]⟩ = R by
              have := HR2.out
              rw [if_neg k3] at this
              rw [← this]
              show (⟨(T.headS k).toArray⟩ : ByteArray) ++ ⟨[40].toArray⟩ ++ ⟨J.toArray⟩ ++ ⟨[41].toArray⟩ = _
              rw [str_add, str_add, str_add]; rfl)
            have hH : (⟨(T.headS k).toArray⟩ : ByteArray).size ≤ 5 := by rw [str_size]; exact HHD
            have HH := Lib.hid (fun W => ohead k W)
            clear k3
            generalize (⟨(T.headS k).toArray⟩ : ByteArray) = hd at HR hH HH
            go_wp2_with (go_at_call 189; refine (HH.out _).mono ?_; rintro e w' ⟨rfl, rfl⟩)
            go_ret
            exact ⟨ret_str HR.out, HB2.out⟩
end Go.Proofs.YtihbmgkbipeakaaGreat

namespace Go.Proofs.YtihbmgkbipeakaaGreat
open Go.RowKit

set_option maxRecDepth 100000 in
set_option maxHeartbeats 2000000 in
theorem oformat (t : T) (v : Value) (w : World) (ht : TermAt w v t) (hbk : t.bulk ≤ 1048576) :
    Calls Tryz.prog 129 #[v] w fun e w' => e = .returned (.string (if t.valid = true then strOf t.text else ⟨#[]⟩)) ∧ Below w.heap.size w w' := by
  have HZ := Lib.hid (fun W hW r c hr hc => ovalid t v W hW hbk r c hr hc)
  have HS := Lib.hid (fun W hW => owrite (t.bulk + 1) t v W (by omega) hW hbk)
  obtain ⟨q, hq⟩ : ∃ q, t.valid = q := ⟨_, rfl⟩
  rw [hq] at HZ ⊢
  clear hbk hq
  generalize strOf t.text = p at *
  cases ht with
  | mk k s A cap ks U h1 h2 h3 h4 hA hU =>
    have HT := Lib.hid (TermAt.mk k s A cap ks U h1 h2 h3 h4 hA hU)
    have hbx := boxed_new w (.int .i64 k) (.string s) (.slice A ks.length cap) 29
    have hb1 := below_alloc1 w (.cells #[.int .i64 k, .string s, .slice A ks.length cap] 29)
    clear hA hU
    go_enter Tryz.func129, Tryz.ntmps129
    go_upto_region 1 with fail
    generalize w.alloc (.cells #[.int .i64 k, .string s, .slice A ks.length cap] 29) = w1 at hbx hb1 ⊢
    obtain ⟨x0, x1, x2⟩ := hbx
    have HT1 := Lib.hid (HT.out.later hb1)
    cases q
    · go_wp2_with fail
      refine (HZ.out _ HT1.out false 76 rfl (.inr ⟨rfl, rfl⟩)).mono ?_; rintro e w2 ⟨rfl, hb2⟩
      replace hb2 := hb1.trans (hb2.mono hb1.size)
      clear x0 x1 x2
      go_wp2_with fail
      go_ret
      exact ⟨rfl, hb2⟩
    · go_wp2_with fail
      refine (HZ.out _ HT1.out true 0 rfl (.inl ⟨rfl, rfl⟩)).mono ?_; rintro e w2 ⟨rfl, hb2⟩
      have y0 := cell_later hb2 x0; have y1 := cell_later hb2 x1; have y2 := cell_later hb2 x2
      have HT2 := Lib.hid (HT1.out.later hb2)
      replace hb2 := hb1.trans (hb2.mono hb1.size)
      clear x0 x1 x2
      go_wp2_with fail
      refine (HS.out _ HT2.out).mono ?_; rintro e w3 ⟨rfl, hb3⟩
      replace hb3 := hb2.trans (hb3.mono hb2.size)
      go_wp2_with fail
      go_ret
      exact ⟨rfl, hb3⟩

end Go.Proofs.YtihbmgkbipeakaaGreat
