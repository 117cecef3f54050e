/- Several texts in one: TermNrm, TermIdem, TermSame, TermIsN, TermStrOf, TermText, WebP, StrGather, WebAt. -/
import Derived.Test.YtihbmgkbipeakaaWebG3
import Derived.Test.YtihbmgkbipeakaaWebG4
import Derived.Test.YtihbmgkbipeakaaWebG2
import Derived.Test.YtihbmgkbipeakaaWebG0
import Derived.Test.YtihbmgkbipeakaaWebG1
import Derived.Deep.RegionHeld3
import Derived.Test.YtihbmgkbipeakaaShelf
import Derived.Lib.Join
import Derived.Maps.OwnSet
import Derived.Maps.Views
namespace Go.Proofs.Ytihbmgkbipeakaa
open Go.RowKit

set_option maxRecDepth 100000 in
set_option maxHeartbeats 2000000 in
/-- Normal of a valid term is its normal form; else the zero term. -/
theorem onormal (t : T) (v : Value) (w : World) (ht : TermAt w v t) (hbk : t.bulk ≤ 1048576) :
    Calls Try.prog 74 #[v] w (RetT (if t.valid = true then t.norm else .mk 0 ⟨#[]⟩ []) w) := by
  have HV := Lib.hid (fun W hW r c hr hc => ovalid t v W hW hbk r c hr hc)
  have HA := Lib.hid (fun W hW (hs : t.shape = true) => oarr (t.bulk + 1) t v W (by omega) hW hbk hs)
  obtain ⟨q, hq⟩ : ∃ q, t.valid = q := ⟨_, rfl⟩
  have HSH := Lib.hid (fun (h : q = true) => show t.shape = true by rw [← hq] at h; exact (Bool.and_eq_true_iff.1 h).2)
  rw [hq] at HV ⊢
  clear hbk hq
  generalize t.norm = tn at *
  cases ht with
  | mk k s A cap ks U h1 h2 h3 h4 hA hU =>
    have HT := Lib.hid (TermAt.mk k s A cap ks U h1 h2 h3 h4 hA hU)
    obtain ⟨bx, by', hb1, hsz⟩ := box_two w (.int .i64 k) (.string s) (.slice A ks.length cap) (.int .i64 0) (.string ⟨#[]⟩) (.slice none 0 0)
    clear hA hU
    go_enter Try.func74, Try.ntmps74
    go_upto_region 1 with fail
    generalize (w.alloc (.cells #[.int .i64 k, .string s, .slice A ks.length cap] 29)).alloc (.cells #[.int .i64 0, .string ⟨#[]⟩, .slice none 0 0] 29) = w1 at bx by' hb1 hsz ⊢
    have HT1 := Lib.hid (HT.out.later hb1)
    obtain ⟨x0, x1, x2⟩ := bx.cells
    cases q
    · go_wp2_with fail
      refine (HV.out _ HT1.out false 76 rfl (.inr ⟨rfl, rfl⟩)).mono ?_; rintro e w2 ⟨rfl, hb2⟩
      have bz := by'.later hb2
      obtain ⟨y0, y1, y2⟩ := bz.cells
      obtain ⟨f0, f1, f2⟩ := bz.free
      have HB := Lib.hid (hb1.trans (hb2.mono hb1.size)); have HBZ := Lib.hid bz
      clear x0 x1 x2 hb2 bz
      go_wp2_with fail
      obtain ⟨d0, d1, d2⟩ := (box_set3 HBZ.out (.int .i64 0) (.string ⟨#[]⟩) (.slice none 0 0)).cells
      refine bodyPost_ret (v := .agg #[.int .i64 0, .string ⟨#[]⟩, .slice none 0 0]) (by simp [results, Try.results74, go_sem, d0, d1, d2]) rfl ?_
      exact ret_set3 (t := .mk 0 ⟨#[]⟩ []) (A := none) (cap := 0) _ _ _ HB.out (by omega) rfl rfl rfl (TermAt.mk 0 ⟨#[]⟩ none 0 [] (fun _ => (undef, undef, undef)) (by decide) (by decide) (Nat.le_refl _) (Nat.zero_le _) (.inl rfl) (fun i h => by simp at h))
    · go_wp2_with fail
      refine (HV.out _ HT1.out true 0 rfl (.inl ⟨rfl, rfl⟩)).mono ?_; rintro e w2 ⟨rfl, hb2⟩
      have y0 := cell_later hb2 x0; have y1 := cell_later hb2 x1; have y2 := cell_later hb2 x2
      have HB := Lib.hid (hb1.trans (hb2.mono hb1.size)); have HBY := Lib.hid (by'.later hb2)
      have HT2 := Lib.hid (HT1.out.later hb2)
      have hsz2 : w.heap.size + 2 ≤ w2.heap.size := by have := hb2.size; omega
      have HSZ := Lib.hid hsz2
      clear x0 x1 x2 hb2 hsz2 hsz
      go_wp2_with fail
      refine (HA.out _ HT2.out (HSH.out (by trivial))).mono ?_; rintro e w3 ⟨A3, C3, rfl, hti, hb3⟩
      have bz := HBY.out.later hb3
      obtain ⟨y0, y1, y2⟩ := bz.cells
      obtain ⟨f0, f1, f2⟩ := bz.free
      have HBZ := Lib.hid bz; have HB3 := Lib.hid (HB.out.trans (hb3.mono HB.out.size))
      have HTI := Lib.hid (hti.keep (w' := w3) (S' := from_ (w.heap.size + 1 + 1)) fun b hb _ => ⟨by have := of_decide_eq_true hb; have := HSZ.out; exact decide_eq_true (by omega), rfl⟩)
      clear hti hb3 bz
      go_wp2_with fail
      obtain ⟨d0, d1, d2⟩ := (box_set3 HBZ.out (.int .i64 tn.kind) (.string tn.name) (.slice A3 tn.kids.length C3)).cells
      refine bodyPost_ret (v := .agg #[.int .i64 tn.kind, .string tn.name, .slice A3 tn.kids.length C3]) (by simp [results, Try.results74, go_sem, d0, d1, d2]) rfl ?_
      exact ret_set3 _ _ _ HB3.out (by omega) rfl rfl rfl HTI.out

set_option maxRecDepth 100000 in
set_option maxHeartbeats 2000000 in
/-- Normal of a valid term is its normal form; else the zero term. -/
theorem rnormal (t : T) (v : Value) (w : World) (ht : TermAt w v t) (hbk : t.bulk ≤ 1048576) :
    Calls Try.prog 10 #[v] w (RetT (if t.valid = true then t.norm else .mk 0 ⟨#[]⟩ []) w) := by
  have HV := Lib.hid (fun W hW r c hr hc => rvalid t v W hW hbk r c hr hc)
  have HA := Lib.hid (fun W hW (_ : t.shape = true) => rord (t.bulk + 1) t v W (by omega) hW hbk )
  obtain ⟨q, hq⟩ : ∃ q, t.valid = q := ⟨_, rfl⟩
  have HSH := Lib.hid (fun (h : q = true) => show t.shape = true by rw [← hq] at h; exact (Bool.and_eq_true_iff.1 h).2)
  rw [hq] at HV ⊢
  clear hbk hq
  generalize t.norm = tn at *
  cases ht with
  | mk k s A cap ks U h1 h2 h3 h4 hA hU =>
    have HT := Lib.hid (TermAt.mk k s A cap ks U h1 h2 h3 h4 hA hU)
    obtain ⟨bx, by', hb1, hsz⟩ := box_two w (.int .i64 k) (.string s) (.slice A ks.length cap) (.int .i64 0) (.string ⟨#[]⟩) (.slice none 0 0)
    clear hA hU
    go_enter Try.func10, Try.ntmps10
    go_upto_region 1 with fail
    generalize (w.alloc (.cells #[.int .i64 k, .string s, .slice A ks.length cap] 29)).alloc (.cells #[.int .i64 0, .string ⟨#[]⟩, .slice none 0 0] 29) = w1 at bx by' hb1 hsz ⊢
    have HT1 := Lib.hid (HT.out.later hb1)
    obtain ⟨x0, x1, x2⟩ := bx.cells
    cases q
    · go_wp2_with fail
      refine (HV.out _ HT1.out false 76 rfl (.inr ⟨rfl, rfl⟩)).mono ?_; rintro e w2 ⟨rfl, hb2⟩
      have bz := by'.later hb2
      obtain ⟨y0, y1, y2⟩ := bz.cells
      obtain ⟨f0, f1, f2⟩ := bz.free
      have HB := Lib.hid (hb1.trans (hb2.mono hb1.size)); have HBZ := Lib.hid bz
      clear x0 x1 x2 hb2 bz
      go_wp2_with fail
      obtain ⟨d0, d1, d2⟩ := (box_set3 HBZ.out (.int .i64 0) (.string ⟨#[]⟩) (.slice none 0 0)).cells
      refine bodyPost_ret (v := .agg #[.int .i64 0, .string ⟨#[]⟩, .slice none 0 0]) (by simp [results, Try.results10, go_sem, d0, d1, d2]) rfl ?_
      exact ret_set3 (t := .mk 0 ⟨#[]⟩ []) (A := none) (cap := 0) _ _ _ HB.out (by omega) rfl rfl rfl (TermAt.mk 0 ⟨#[]⟩ none 0 [] (fun _ => (undef, undef, undef)) (by decide) (by decide) (Nat.le_refl _) (Nat.zero_le _) (.inl rfl) (fun i h => by simp at h))
    · go_wp2_with fail
      refine (HV.out _ HT1.out true 0 rfl (.inl ⟨rfl, rfl⟩)).mono ?_; rintro e w2 ⟨rfl, hb2⟩
      have y0 := cell_later hb2 x0; have y1 := cell_later hb2 x1; have y2 := cell_later hb2 x2
      have HB := Lib.hid (hb1.trans (hb2.mono hb1.size)); have HBY := Lib.hid (by'.later hb2)
      have HT2 := Lib.hid (HT1.out.later hb2)
      have hsz2 : w.heap.size + 2 ≤ w2.heap.size := by have := hb2.size; omega
      have HSZ := Lib.hid hsz2
      clear x0 x1 x2 hb2 hsz2 hsz
      go_wp2_with fail
      refine (HA.out _ HT2.out (HSH.out (by trivial))).mono ?_; rintro e w3 ⟨A3, C3, rfl, hti, hb3⟩
      have bz := HBY.out.later hb3
      obtain ⟨y0, y1, y2⟩ := bz.cells
      obtain ⟨f0, f1, f2⟩ := bz.free
      have HBZ := Lib.hid bz; have HB3 := Lib.hid (HB.out.trans (hb3.mono HB.out.size))
      have HTI := Lib.hid (hti.keep (w' := w3) (S' := from_ (w.heap.size + 1 + 1)) fun b hb _ => ⟨by have := of_decide_eq_true hb; have := HSZ.out; exact decide_eq_true (by omega), rfl⟩)
      clear hti hb3 bz
      go_wp2_with fail
      obtain ⟨d0, d1, d2⟩ := (box_set3 HBZ.out (.int .i64 tn.kind) (.string tn.name) (.slice A3 tn.kids.length C3)).cells
      refine bodyPost_ret (v := .agg #[.int .i64 tn.kind, .string tn.name, .slice A3 tn.kids.length C3]) (by simp [results, Try.results10, go_sem, d0, d1, d2]) rfl ?_
      exact ret_set3 _ _ _ HB3.out (by omega) rfl rfl rfl HTI.out
end Go.Proofs.Ytihbmgkbipeakaa

namespace Go.Proofs.Ytihbmgkbipeakaa

namespace T
theorem insR_perm (x : T) (l : List T) : (insR x l).Perm (x :: l) := by
  induction l with
  | nil => exact List.Perm.refl _
  | cons y r ih =>
    simp only [insR]
    split
    · exact (ih.cons y).trans (List.Perm.swap _ _ _)
    · exact List.Perm.refl _
theorem fold_perm (l : List T) : ∀ acc, (l.foldl (fun acc x => insR x acc) acc).Perm (acc ++ l) := by
  induction l with
  | nil => intro acc; simp
  | cons x r ih =>
    intro acc
    rw [List.foldl_cons]
    refine (ih _).trans ?_
    refine ((insR_perm x acc).append_right r).trans ?_
    exact List.perm_middle.symm
theorem isort_perm (l : List T) : (isort l).Perm l := by
  unfold isort
  exact (List.reverse_perm _).trans (by simpa using fold_perm l [])
theorem le_of_not {a b : T} (h : ¬ cmp a b < 0) : cmp b a ≤ 0 := by rw [cmp_anti a b]; omega
theorem le_trans_ {a b c : T} (h : cmp a b ≤ 0) (g : cmp b c ≤ 0) : cmp a c ≤ 0 := by
  rcases cmp_vals a b with h1 | h1 | h1
  · rcases cmp_vals b c with g1 | g1 | g1
    · rw [cmp_trans a b c h1 g1]; decide
    · rw [← cmp_eq b c g1]; exact h
    · omega
  · rw [cmp_eq a b h1]; exact g
  · omega
theorem insR_down (x : T) (l : List T) (h : l.Pairwise fun a b => cmp b a ≤ 0) : (insR x l).Pairwise fun a b => cmp b a ≤ 0 := by
  induction l with
  | nil => simp [insR]
  | cons y r ih =>
    simp only [insR]
    rw [List.pairwise_cons] at h
    split
    · rename_i hlt
      rw [List.pairwise_cons]
      refine ⟨fun z hz => ?_, ih h.2⟩
      rcases List.mem_cons.1 ((insR_perm x r).mem_iff.1 hz) with rfl | hz
      · omega
      · exact h.1 z hz
    · rename_i hge
      rw [List.pairwise_cons, List.pairwise_cons]
      refine ⟨fun z hz => ?_, h⟩
      rcases List.mem_cons.1 hz with rfl | hz
      · exact le_of_not hge
      · exact le_trans_ (h.1 z hz) (le_of_not hge)
theorem fold_down (l : List T) : ∀ acc : List T, (acc.Pairwise fun a b => cmp b a ≤ 0) → (l.foldl (fun acc x => insR x acc) acc).Pairwise fun a b => cmp b a ≤ 0 := by
  induction l with
  | nil => intro acc h; exact h
  | cons x r ih => intro acc h; rw [List.foldl_cons]; exact ih _ (insR_down x acc h)
theorem isort_up (l : List T) : (isort l).Pairwise fun a b => cmp a b ≤ 0 := by
  unfold isort
  rw [List.pairwise_reverse]
  exact fold_down l [] List.Pairwise.nil
theorem up_perm : ∀ (l m : List T), l.Perm m → (l.Pairwise fun a b => cmp a b ≤ 0) → (m.Pairwise fun a b => cmp a b ≤ 0) → l = m
  | [], m, h, _, _ => by rw [List.nil_perm.1 h]
  | a :: r, [], h, _, _ => by have := h.length_eq; simp at this
  | a :: r, b :: r', h, h1, h2 => by
    rw [List.pairwise_cons] at h1 h2
    have e : a = b := by
      rcases List.mem_cons.1 (h.mem_iff.1 (List.mem_cons_self)) with e | ha
      · exact e
      · rcases List.mem_cons.1 (h.mem_iff.2 (List.mem_cons_self)) with e | hb
        · exact e.symm
        · have g1 := h1.1 b hb
          have g2 := h2.1 a ha
          rw [cmp_anti a b] at g2
          exact cmp_eq a b (by omega)
    subst e
    rw [up_perm r r' (List.perm_cons a |>.1 h) h1.2 h2.2]
theorem isort_of_perm {l m : List T} (h : l.Perm m) : isort l = isort m :=
  up_perm _ _ ((isort_perm l).trans (h.trans (isort_perm m).symm)) (isort_up l) (isort_up m)

mutual
/-- A term whose exponents stand in the opposite order. -/
def turn : T → T
  | .mk k s ks => .mk k s (if k = 7 then ks.reverse else turnAll ks)
def turnAll : List T → List T
  | [] => []
  | t :: r => turn t :: turnAll r
end
mutual
theorem norm_turn : ∀ t : T, t.turn.norm = t.norm
  | .mk k s ks => by
    simp only [turn, norm]
    split
    · rw [normAll_map, normAll_map, List.map_reverse, isort_of_perm (List.reverse_perm _)]
    · rw [norm_turnAll ks]
theorem norm_turnAll : ∀ l : List T, normAll (turnAll l) = normAll l
  | [] => rfl
  | t :: r => by simp only [turnAll, normAll, norm_turn t, norm_turnAll r]
end
mutual
theorem norm_norm : ∀ t : T, t.norm.norm = t.norm
  | .mk k s ks => by
    simp only [norm]
    split
    · have h : (normAll (isort (normAll ks))).Perm (normAll ks) := by
        have h1 := (isort_perm (normAll ks)).map norm
        rw [← normAll_map, ← normAll_map, norm_normAll ks] at h1
        exact h1
      rw [isort_of_perm h]
    · rw [norm_normAll ks]
theorem norm_normAll : ∀ l : List T, normAll (normAll l) = normAll l
  | [] => rfl
  | t :: r => by simp only [normAll, norm_norm t, norm_normAll r]
end
end T
end Go.Proofs.Ytihbmgkbipeakaa

namespace Go.Proofs.Ytihbmgkbipeakaa
open Go.RowKit

end Go.Proofs.Ytihbmgkbipeakaa

namespace Go.Proofs.Ytihbmgkbipeakaa
open Go.RowKit

namespace T
/-- Is a term valid, and its own normal form? -/
def isN (t : T) : Bool := t.valid && decide (cmp t t.norm = 0)
theorem isN_iff (t : T) : t.isN = true ↔ t.valid = true ∧ t.norm = t := by
  unfold isN
  rw [Bool.and_eq_true, decide_eq_true_eq]
  constructor
  · rintro ⟨h1, h2⟩; exact ⟨h1, (cmp_eq _ _ h2).symm⟩
  · rintro ⟨h1, h2⟩; exact ⟨h1, by rw [h2]; exact cmp_self t⟩
end T

theorem isn_later {w1 W W2 : World} {p0 p1 p2 : Addr} {v0 v1 v2 : Value} {a : Value} {ta : T} (h : W.cell? p0 = some v0 ∧ W.cell? p1 = some v1 ∧ W.cell? p2 = some v2 ∧ TermAt W a ta ∧ Below w1.heap.size w1 W)
    (hb : Below W.heap.size W W2) : W2.cell? p0 = some v0 ∧ W2.cell? p1 = some v1 ∧ W2.cell? p2 = some v2 ∧ TermAt W2 a ta ∧ Below w1.heap.size w1 W2 := by
  obtain ⟨h0, h1, h2, h6, h8⟩ := h
  exact ⟨cell_later hb h0, cell_later hb h1, cell_later hb h2, h6.later hb, h8.trans (hb.mono h8.size)⟩

set_option maxRecDepth 100000 in
set_option maxHeartbeats 4000000 in
theorem oisn (t : T) (v : Value) (w : World) (ht : TermAt w v t) (hbk : t.bulk ≤ 1048576) :
    Calls Try.prog 34 #[v] w fun e w' => e = .returned (.bool t.isN) ∧ Below w.heap.size w w' := by
  have HV := Lib.hid (fun W hW r c hr hc => ovalid t v W hW hbk r c hr hc)
  have HA := Lib.hid (fun W hW (hs : t.shape = true) => oarr (t.bulk + 1) t v W (by omega) hW hbk hs)
  have HC := Lib.hid (fun v' W hW hW' => ocmp (t.bulk + 1) t t.norm v v' W (by omega) hW hW' hbk (by rw [T.bulk_norm]; exact hbk))
  have hI : t.isN = (t.valid && decide (T.cmp t t.norm = 0)) := rfl
  obtain ⟨q, hq⟩ : ∃ q, t.valid = q := ⟨_, rfl⟩
  obtain ⟨c, hc⟩ : ∃ c, T.cmp t t.norm = c := ⟨_, rfl⟩
  have HSH := Lib.hid (fun (h : q = true) => show t.shape = true by rw [← hq] at h; exact (Bool.and_eq_true_iff.1 h).2)
  rw [hI]
  rw [hc] at HC ⊢
  rw [hq] at HV ⊢
  clear hI hbk hq hc
  generalize t.norm = tn at HA HC
  cases ht with
  | mk k s A cap ks U h1 h2 h3 h4 hA hU =>
  have HT := Lib.hid (TermAt.mk k s A cap ks U h1 h2 h3 h4 hA hU)
  have hbx := boxed_new w (.int .i64 k) (.string s) (.slice A ks.length cap) 29
  have hb1 := below_alloc1 w (.cells #[.int .i64 k, .string s, .slice A ks.length cap] 29)
  clear hA hU
  go_enter Try.func34, Try.ntmps34
  go_upto_region 1 with fail
  generalize w.alloc (.cells #[.int .i64 k, .string s, .slice A ks.length cap] 29) = w1 at hbx hb1 ⊢
  obtain ⟨x0, x1, x2⟩ := hbx
  have HT1 := Lib.hid (HT.out.later hb1); have HB1 := Lib.hid hb1
  clear hb1
  cases q
  · (refine wp_region_held_drew (S := (fun W => W.cell? ⟨w.heap.size, 0, none⟩ = some (.int .i64 k) ∧ W.cell? ⟨w.heap.size, 1, none⟩ = some (.string s) ∧ W.cell? ⟨w.heap.size, 2, none⟩ = some (.slice A ks.length cap) ∧ TermAt W (.agg #[.int .i64 k, .string s, .slice A ks.length cap]) (.mk k s ks) ∧ Below w1.heap.size w1 W)) (by kernel_rfl) (show _ ∧ _ ∧ _ ∧ _ ∧ _ from ⟨x0, x1, x2, HT1.out.drew, (Below.refl _ _).drew⟩) (fun hHeld => ?_))
    ((first | (refine wpAnyH_take (i := 0) (v := ?_) (by simp only [List.getElem?_toArray, List.getElem?_cons_zero]; rfl) (by kernel_rfl) (by kernel_rfl) (by kernel_rfl) (by exact fun _ _ _ h => h) (Or.inl ⟨by rfl, ?_⟩) (by assumption) ?_; rotate_left 1; · (intro w hSw; (try dsimp only at hSw); go_simp; (try with_reducible rfl))) | (refine wpAnyH_take (i := 0) (v := undef) (by simp only [List.getElem?_toArray, List.getElem?_cons_zero]; rfl) (by kernel_rfl) (by kernel_rfl) (by kernel_rfl) (by exact fun _ _ _ h => h) (Or.inr ⟨by rfl, rfl⟩) (by assumption) ?_)); (try simp only [Act.put, List.setIfInBounds_toArray, List.set_cons_zero, List.set_cons_succ]))
    (refine wpAnyH_ready (rs := [1]) (by kernel_rfl) (by simp) ?_; refine AllReadyH.cons (by simp only [List.getElem?_toArray, List.getElem?_cons_succ, List.getElem?_cons_zero]; rfl) (fun K hK => ?_) AllReadyH.nil; go_simp; go_at_call 53; refine (HV.out _ hHeld.2.2.2.1 false 76 rfl (.inr ⟨rfl, rfl⟩)).mono ?_; rintro e w' ⟨rfl, hb4⟩; refine hK.out _ _ (isn_later hHeld hb4) (fun hHeld => ?_); clear hK K; (try simp only [Act.put, List.setIfInBounds_toArray, List.set_cons_zero, List.set_cons_succ]))
    ((first | (refine wpAnyH_take (i := 2) (v := ?_) (by simp only [List.getElem?_toArray, List.getElem?_cons_succ, List.getElem?_cons_zero]; rfl) (by kernel_rfl) (by kernel_rfl) (by kernel_rfl) (by exact fun _ _ _ h => h) (Or.inl ⟨by rfl, ?_⟩) (by assumption) ?_; rotate_left 1; · (intro w hSw; (try dsimp only at hSw); go_simp; (try with_reducible rfl))) | (refine wpAnyH_take (i := 2) (v := undef) (by simp only [List.getElem?_toArray, List.getElem?_cons_succ, List.getElem?_cons_zero]; rfl) (by kernel_rfl) (by kernel_rfl) (by kernel_rfl) (by exact fun _ _ _ h => h) (Or.inr ⟨by rfl, rfl⟩) (by assumption) ?_)); (try simp only [Act.put, List.setIfInBounds_toArray, List.set_cons_zero, List.set_cons_succ]))
    ((first | (refine wpAnyH_take (i := 3) (v := ?_) (by simp only [List.getElem?_toArray, List.getElem?_cons_succ, List.getElem?_cons_zero]; rfl) (by kernel_rfl) (by kernel_rfl) (by kernel_rfl) (by exact fun _ _ _ h => h) (Or.inl ⟨by rfl, ?_⟩) (by assumption) ?_; rotate_left 1; · (intro w hSw; (try dsimp only at hSw); go_simp; (try with_reducible rfl))) | (refine wpAnyH_take (i := 3) (v := undef) (by simp only [List.getElem?_toArray, List.getElem?_cons_succ, List.getElem?_cons_zero]; rfl) (by kernel_rfl) (by kernel_rfl) (by kernel_rfl) (by exact fun _ _ _ h => h) (Or.inr ⟨by rfl, rfl⟩) (by assumption) ?_)); (try simp only [Act.put, List.setIfInBounds_toArray, List.set_cons_zero, List.set_cons_succ]))
    ((first | (refine wpAnyH_take (i := 4) (v := ?_) (by simp only [List.getElem?_toArray, List.getElem?_cons_succ, List.getElem?_cons_zero]; rfl) (by kernel_rfl) (by kernel_rfl) (by kernel_rfl) (by exact fun _ _ _ h => h) (Or.inl ⟨by rfl, ?_⟩) (by assumption) ?_; rotate_left 1; · (intro w hSw; (try dsimp only at hSw); go_simp; (try with_reducible rfl))) | (refine wpAnyH_take (i := 4) (v := undef) (by simp only [List.getElem?_toArray, List.getElem?_cons_succ, List.getElem?_cons_zero]; rfl) (by kernel_rfl) (by kernel_rfl) (by kernel_rfl) (by exact fun _ _ _ h => h) (Or.inr ⟨by rfl, rfl⟩) (by assumption) ?_)); (try simp only [Act.put, List.setIfInBounds_toArray, List.set_cons_zero, List.set_cons_succ]))
    ((first | (refine wpAnyH_take (i := 5) (v := ?_) (by simp only [List.getElem?_toArray, List.getElem?_cons_succ, List.getElem?_cons_zero]; rfl) (by kernel_rfl) (by kernel_rfl) (by kernel_rfl) (by exact fun _ _ _ h => h) (Or.inl ⟨by rfl, ?_⟩) (by assumption) ?_; rotate_left 1; · (intro w hSw; (try dsimp only at hSw); go_simp; (try with_reducible rfl))) | (refine wpAnyH_take (i := 5) (v := undef) (by simp only [List.getElem?_toArray, List.getElem?_cons_succ, List.getElem?_cons_zero]; rfl) (by kernel_rfl) (by kernel_rfl) (by kernel_rfl) (by exact fun _ _ _ h => h) (Or.inr ⟨by rfl, rfl⟩) (by assumption) ?_)); (try simp only [Act.put, List.setIfInBounds_toArray, List.set_cons_zero, List.set_cons_succ]))
    ((first | (refine wpAnyH_take (i := 6) (v := ?_) (by simp only [List.getElem?_toArray, List.getElem?_cons_succ, List.getElem?_cons_zero]; rfl) (by kernel_rfl) (by kernel_rfl) (by kernel_rfl) (by exact fun _ _ _ h => h) (Or.inl ⟨by rfl, ?_⟩) (by assumption) ?_; rotate_left 1; · (intro w hSw; (try dsimp only at hSw); go_simp; (try with_reducible rfl))) | (refine wpAnyH_take (i := 6) (v := undef) (by simp only [List.getElem?_toArray, List.getElem?_cons_succ, List.getElem?_cons_zero]; rfl) (by kernel_rfl) (by kernel_rfl) (by kernel_rfl) (by exact fun _ _ _ h => h) (Or.inr ⟨by rfl, rfl⟩) (by assumption) ?_)); (try simp only [Act.put, List.setIfInBounds_toArray, List.set_cons_zero, List.set_cons_succ]))
    ((first | (refine wpAnyH_take (i := 7) (v := ?_) (by simp only [List.getElem?_toArray, List.getElem?_cons_succ, List.getElem?_cons_zero]; rfl) (by kernel_rfl) (by kernel_rfl) (by kernel_rfl) (by exact fun _ _ _ h => h) (Or.inl ⟨by rfl, ?_⟩) (by assumption) ?_; rotate_left 1; · (intro w hSw; (try dsimp only at hSw); go_simp; (try with_reducible rfl))) | (refine wpAnyH_take (i := 7) (v := undef) (by simp only [List.getElem?_toArray, List.getElem?_cons_succ, List.getElem?_cons_zero]; rfl) (by kernel_rfl) (by kernel_rfl) (by kernel_rfl) (by exact fun _ _ _ h => h) (Or.inr ⟨by rfl, rfl⟩) (by assumption) ?_)); (try simp only [Act.put, List.setIfInBounds_toArray, List.set_cons_zero, List.set_cons_succ]))
    ((first | (refine wpAnyH_take (i := 8) (v := ?_) (by simp only [List.getElem?_toArray, List.getElem?_cons_succ, List.getElem?_cons_zero]; rfl) (by kernel_rfl) (by kernel_rfl) (by kernel_rfl) (by exact fun _ _ _ h => h) (Or.inl ⟨by rfl, ?_⟩) (by assumption) ?_; rotate_left 1; · (intro w hSw; (try dsimp only at hSw); go_simp; (try with_reducible rfl))) | (refine wpAnyH_take (i := 8) (v := undef) (by simp only [List.getElem?_toArray, List.getElem?_cons_succ, List.getElem?_cons_zero]; rfl) (by kernel_rfl) (by kernel_rfl) (by kernel_rfl) (by exact fun _ _ _ h => h) (Or.inr ⟨by rfl, rfl⟩) (by assumption) ?_)); (try simp only [Act.put, List.setIfInBounds_toArray, List.set_cons_zero, List.set_cons_succ]))
    ((first | (refine wpAnyH_take (i := 9) (v := ?_) (by simp only [List.getElem?_toArray, List.getElem?_cons_succ, List.getElem?_cons_zero]; rfl) (by kernel_rfl) (by kernel_rfl) (by kernel_rfl) (by exact fun _ _ _ h => h) (Or.inl ⟨by rfl, ?_⟩) (by assumption) ?_; rotate_left 1; · (intro w hSw; (try dsimp only at hSw); go_simp; (try with_reducible rfl))) | (refine wpAnyH_take (i := 9) (v := undef) (by simp only [List.getElem?_toArray, List.getElem?_cons_succ, List.getElem?_cons_zero]; rfl) (by kernel_rfl) (by kernel_rfl) (by kernel_rfl) (by exact fun _ _ _ h => h) (Or.inr ⟨by rfl, rfl⟩) (by assumption) ?_)); (try simp only [Act.put, List.setIfInBounds_toArray, List.set_cons_zero, List.set_cons_succ]))
    ((first | (refine wpAnyH_take (i := 10) (v := ?_) (by simp only [List.getElem?_toArray, List.getElem?_cons_succ, List.getElem?_cons_zero]; rfl) (by kernel_rfl) (by kernel_rfl) (by kernel_rfl) (by exact fun _ _ _ h => h) (Or.inl ⟨by rfl, ?_⟩) (by assumption) ?_; rotate_left 1; · (intro w hSw; (try dsimp only at hSw); go_simp; (try with_reducible rfl))) | (refine wpAnyH_take (i := 10) (v := undef) (by simp only [List.getElem?_toArray, List.getElem?_cons_succ, List.getElem?_cons_zero]; rfl) (by kernel_rfl) (by kernel_rfl) (by kernel_rfl) (by exact fun _ _ _ h => h) (Or.inr ⟨by rfl, rfl⟩) (by assumption) ?_)); (try simp only [Act.put, List.setIfInBounds_toArray, List.set_cons_zero, List.set_cons_succ]))
    (refine wpAnyH_done (by kernel_rfl) ?_ _)
    have HB := Lib.hid (HB1.out.trans (hHeld.2.2.2.2.mono HB1.out.size))
    clear hHeld x0 x1 x2
    go_wp2_with fail
    go_ret
    exact ⟨rfl, HB.out⟩
  · (refine wp_region_held_drew (S := (fun W => W.cell? ⟨w.heap.size, 0, none⟩ = some (.int .i64 k) ∧ W.cell? ⟨w.heap.size, 1, none⟩ = some (.string s) ∧ W.cell? ⟨w.heap.size, 2, none⟩ = some (.slice A ks.length cap) ∧ TermAt W (.agg #[.int .i64 k, .string s, .slice A ks.length cap]) (.mk k s ks) ∧ Below w1.heap.size w1 W)) (by kernel_rfl) (show _ ∧ _ ∧ _ ∧ _ ∧ _ from ⟨x0, x1, x2, HT1.out.drew, (Below.refl _ _).drew⟩) (fun hHeld => ?_))
    ((first | (refine wpAnyH_take (i := 0) (v := ?_) (by simp only [List.getElem?_toArray, List.getElem?_cons_zero]; rfl) (by kernel_rfl) (by kernel_rfl) (by kernel_rfl) (by exact fun _ _ _ h => h) (Or.inl ⟨by rfl, ?_⟩) (by assumption) ?_; rotate_left 1; · (intro w hSw; (try dsimp only at hSw); go_simp; (try with_reducible rfl))) | (refine wpAnyH_take (i := 0) (v := undef) (by simp only [List.getElem?_toArray, List.getElem?_cons_zero]; rfl) (by kernel_rfl) (by kernel_rfl) (by kernel_rfl) (by exact fun _ _ _ h => h) (Or.inr ⟨by rfl, rfl⟩) (by assumption) ?_)); (try simp only [Act.put, List.setIfInBounds_toArray, List.set_cons_zero, List.set_cons_succ]))
    (refine wpAnyH_ready (rs := [1]) (by kernel_rfl) (by simp) ?_; refine AllReadyH.cons (by simp only [List.getElem?_toArray, List.getElem?_cons_succ, List.getElem?_cons_zero]; rfl) (fun K hK => ?_) AllReadyH.nil; go_simp; go_at_call 53; refine (HV.out _ hHeld.2.2.2.1 true 0 rfl (.inl ⟨rfl, rfl⟩)).mono ?_; rintro e w' ⟨rfl, hb4⟩; refine hK.out _ _ (isn_later hHeld hb4) (fun hHeld => ?_); clear hK K; (try simp only [Act.put, List.setIfInBounds_toArray, List.set_cons_zero, List.set_cons_succ]))
    ((first | (refine wpAnyH_take (i := 2) (v := ?_) (by simp only [List.getElem?_toArray, List.getElem?_cons_succ, List.getElem?_cons_zero]; rfl) (by kernel_rfl) (by kernel_rfl) (by kernel_rfl) (by exact fun _ _ _ h => h) (Or.inl ⟨by rfl, ?_⟩) (by assumption) ?_; rotate_left 1; · (intro w hSw; (try dsimp only at hSw); go_simp; (try with_reducible rfl))) | (refine wpAnyH_take (i := 2) (v := undef) (by simp only [List.getElem?_toArray, List.getElem?_cons_succ, List.getElem?_cons_zero]; rfl) (by kernel_rfl) (by kernel_rfl) (by kernel_rfl) (by exact fun _ _ _ h => h) (Or.inr ⟨by rfl, rfl⟩) (by assumption) ?_)); (try simp only [Act.put, List.setIfInBounds_toArray, List.set_cons_zero, List.set_cons_succ]))
    ((first | (refine wpAnyH_take (i := 3) (v := ?_) (by simp only [List.getElem?_toArray, List.getElem?_cons_succ, List.getElem?_cons_zero]; rfl) (by kernel_rfl) (by kernel_rfl) (by kernel_rfl) (by exact fun _ _ _ h => h) (Or.inl ⟨by rfl, ?_⟩) (by assumption) ?_; rotate_left 1; · (intro w hSw; (try dsimp only at hSw); go_simp; (try with_reducible rfl))) | (refine wpAnyH_take (i := 3) (v := undef) (by simp only [List.getElem?_toArray, List.getElem?_cons_succ, List.getElem?_cons_zero]; rfl) (by kernel_rfl) (by kernel_rfl) (by kernel_rfl) (by exact fun _ _ _ h => h) (Or.inr ⟨by rfl, rfl⟩) (by assumption) ?_)); (try simp only [Act.put, List.setIfInBounds_toArray, List.set_cons_zero, List.set_cons_succ]))
    ((first | (refine wpAnyH_take (i := 4) (v := ?_) (by simp only [List.getElem?_toArray, List.getElem?_cons_succ, List.getElem?_cons_zero]; rfl) (by kernel_rfl) (by kernel_rfl) (by kernel_rfl) (by exact fun _ _ _ h => h) (Or.inl ⟨by rfl, ?_⟩) (by assumption) ?_; rotate_left 1; · (intro w hSw; (try dsimp only at hSw); go_simp; (try with_reducible rfl))) | (refine wpAnyH_take (i := 4) (v := undef) (by simp only [List.getElem?_toArray, List.getElem?_cons_succ, List.getElem?_cons_zero]; rfl) (by kernel_rfl) (by kernel_rfl) (by kernel_rfl) (by exact fun _ _ _ h => h) (Or.inr ⟨by rfl, rfl⟩) (by assumption) ?_)); (try simp only [Act.put, List.setIfInBounds_toArray, List.set_cons_zero, List.set_cons_succ]))
    ((first | (refine wpAnyH_take (i := 5) (v := ?_) (by simp only [List.getElem?_toArray, List.getElem?_cons_succ, List.getElem?_cons_zero]; rfl) (by kernel_rfl) (by kernel_rfl) (by kernel_rfl) (by exact fun _ _ _ h => h) (Or.inl ⟨by rfl, ?_⟩) (by assumption) ?_; rotate_left 1; · (intro w hSw; (try dsimp only at hSw); go_simp; (try with_reducible rfl))) | (refine wpAnyH_take (i := 5) (v := undef) (by simp only [List.getElem?_toArray, List.getElem?_cons_succ, List.getElem?_cons_zero]; rfl) (by kernel_rfl) (by kernel_rfl) (by kernel_rfl) (by exact fun _ _ _ h => h) (Or.inr ⟨by rfl, rfl⟩) (by assumption) ?_)); (try simp only [Act.put, List.setIfInBounds_toArray, List.set_cons_zero, List.set_cons_succ]))
    (refine wpAnyH_ready (rs := [6]) (by kernel_rfl) (by simp) ?_; refine AllReadyH.cons (by simp only [List.getElem?_toArray, List.getElem?_cons_succ, List.getElem?_cons_zero]; rfl) (fun K hK => ?_) AllReadyH.nil; go_simp; go_at_call 56; refine (HA.out _ hHeld.2.2.2.1 (HSH.out rfl)).mono ?_; rintro e w' ⟨A3, C3, rfl, hti, hb4⟩; have HN := Lib.hid hti.at; refine hK.out _ _ (isn_later hHeld hb4) (fun hHeld => ?_); clear hK K; (try simp only [Act.put, List.setIfInBounds_toArray, List.set_cons_zero, List.set_cons_succ]))
    (refine wpAnyH_ready (rs := [7]) (by kernel_rfl) (by simp) ?_; refine AllReadyH.cons (by simp only [List.getElem?_toArray, List.getElem?_cons_succ, List.getElem?_cons_zero]; rfl) (fun K hK => ?_) AllReadyH.nil; go_simp; go_at_call 55; refine (HC.out _ _ hHeld.2.2.2.1 HN.out).mono ?_; rintro e w' ⟨rfl, hb4⟩; refine hK.out _ _ (isn_later hHeld hb4) (fun hHeld => ?_); clear hK K; (try simp only [Act.put, List.setIfInBounds_toArray, List.set_cons_zero, List.set_cons_succ]))
    ((first | (refine wpAnyH_take (i := 8) (v := ?_) (by simp only [List.getElem?_toArray, List.getElem?_cons_succ, List.getElem?_cons_zero]; rfl) (by kernel_rfl) (by kernel_rfl) (by kernel_rfl) (by exact fun _ _ _ h => h) (Or.inl ⟨by rfl, ?_⟩) (by assumption) ?_; rotate_left 1; · (intro w hSw; (try dsimp only at hSw); go_simp; (try with_reducible rfl))) | (refine wpAnyH_take (i := 8) (v := undef) (by simp only [List.getElem?_toArray, List.getElem?_cons_succ, List.getElem?_cons_zero]; rfl) (by kernel_rfl) (by kernel_rfl) (by kernel_rfl) (by exact fun _ _ _ h => h) (Or.inr ⟨by rfl, rfl⟩) (by assumption) ?_)); (try simp only [Act.put, List.setIfInBounds_toArray, List.set_cons_zero, List.set_cons_succ]))
    ((first | (refine wpAnyH_take (i := 9) (v := ?_) (by simp only [List.getElem?_toArray, List.getElem?_cons_succ, List.getElem?_cons_zero]; rfl) (by kernel_rfl) (by kernel_rfl) (by kernel_rfl) (by exact fun _ _ _ h => h) (Or.inl ⟨by rfl, ?_⟩) (by assumption) ?_; rotate_left 1; · (intro w hSw; (try dsimp only at hSw); go_simp; (try with_reducible rfl))) | (refine wpAnyH_take (i := 9) (v := undef) (by simp only [List.getElem?_toArray, List.getElem?_cons_succ, List.getElem?_cons_zero]; rfl) (by kernel_rfl) (by kernel_rfl) (by kernel_rfl) (by exact fun _ _ _ h => h) (Or.inr ⟨by rfl, rfl⟩) (by assumption) ?_)); (try simp only [Act.put, List.setIfInBounds_toArray, List.set_cons_zero, List.set_cons_succ]))
    ((first | (refine wpAnyH_take (i := 10) (v := ?_) (by simp only [List.getElem?_toArray, List.getElem?_cons_succ, List.getElem?_cons_zero]; rfl) (by kernel_rfl) (by kernel_rfl) (by kernel_rfl) (by exact fun _ _ _ h => h) (Or.inl ⟨by rfl, ?_⟩) (by assumption) ?_; rotate_left 1; · (intro w hSw; (try dsimp only at hSw); go_simp; (try with_reducible rfl))) | (refine wpAnyH_take (i := 10) (v := undef) (by simp only [List.getElem?_toArray, List.getElem?_cons_succ, List.getElem?_cons_zero]; rfl) (by kernel_rfl) (by kernel_rfl) (by kernel_rfl) (by exact fun _ _ _ h => h) (Or.inr ⟨by rfl, rfl⟩) (by assumption) ?_)); (try simp only [Act.put, List.setIfInBounds_toArray, List.set_cons_zero, List.set_cons_succ]))
    (refine wpAnyH_done (by kernel_rfl) ?_ _)
    have HB := Lib.hid (HB1.out.trans (hHeld.2.2.2.2.mono HB1.out.size))
    clear hHeld x0 x1 x2
    go_wp2_with fail
    go_ret
    exact ⟨ret_bool (by first | rfl | simp), HB.out⟩

end Go.Proofs.Ytihbmgkbipeakaa

namespace Go.Proofs.Ytihbmgkbipeakaa
open Go.RowKit

/-- A text as a string. -/
def strOf (l : List UInt8) : ByteArray := ⟨l.toArray⟩
theorem strOf_size (l : List UInt8) : (strOf l).size = l.length := str_size l
theorem strOf_data (l : List UInt8) : (strOf l).data.toList = l := by simp [strOf]
end Go.Proofs.Ytihbmgkbipeakaa

namespace Go.Proofs.Ytihbmgkbipeakaa
open Go.RowKit

namespace T
/-- What stands in front of the kids. -/
def headS (k : Int) : List UInt8 := if k = 4 then [104, 97, 115, 104] else if k = 5 then [115, 101, 97, 108] else if k = 6 then [115, 105, 103, 110] else [112, 111, 119, 101, 114]
mutual
/-- A term as text. -/
def text : T → List UInt8
  | .mk k s ks => if k = 1 then s.data.toList else if k = 2 then 63 :: s.data.toList else if k = 3 then [60] ++ textAll ks ++ [62] else headS k ++ [40] ++ textAll ks ++ [41]
def textAll : List T → List UInt8
  | [] => []
  | t :: r => text t ++ textTail r
/-- The further kids, each behind a comma. -/
def textTail : List T → List UInt8
  | [] => []
  | t :: r => [44, 32] ++ text t ++ textTail r
end
theorem textTail_join : ∀ l : List T, textTail l = Lib.joinTail [44, 32] (l.map text)
  | [] => rfl
  | t :: r => by simp [textTail, Lib.joinTail, textTail_join r]
theorem textAll_join : ∀ l : List T, textAll l = Lib.join (l.map text) [44, 32]
  | [] => rfl
  | t :: r => by rw [List.map_cons, Lib.join_cons, ← textTail_join]; rfl
theorem headS_len (k : Int) : (headS k).length ≤ 5 := by
  unfold headS; repeat' split
  all_goals simp
mutual
theorem text_len : ∀ t : T, t.text.length + 2 ≤ 3 * t.bulk
  | .mk k s ks => by
    have h := textAll_len ks
    have h' := headS_len k
    simp only [text, bulk]
    repeat' split
    all_goals simp <;> omega
theorem textAll_len : ∀ l : List T, (textAll l).length ≤ 3 * bulkAll l
  | [] => by simp [textAll]
  | t :: r => by
    have h := text_len t
    have h' := textTail_len r
    simp only [textAll, bulkAll, List.length_append]; omega
theorem textTail_len : ∀ l : List T, (textTail l).length ≤ 3 * bulkAll l
  | [] => by simp [textTail]
  | t :: r => by
    have h := text_len t
    have h' := textTail_len r
    simp only [textTail, bulkAll, List.length_append, List.length_cons, List.length_nil]; omega
end
theorem textTail_take (l : List T) : ∀ (j : Nat) (h : j < l.length), textTail (l.take (j + 1)) = textTail (l.take j) ++ [44, 32] ++ text l[j] := by
  induction l with
  | nil => intro j h; simp at h
  | cons t r ih =>
    intro j h
    cases j with
    | zero => simp [textTail]
    | succ j =>
      have := ih j (by simpa using h)
      simp only [List.take_succ_cons, List.getElem_cons_succ, textTail, this]; simp
theorem textAll_take (l : List T) (j : Nat) (h : j < l.length) : textAll (l.take (j + 1)) = if j = 0 then text l[j] else textAll (l.take j) ++ [44, 32] ++ text l[j] := by
  cases l with
  | nil => simp at h
  | cons t r =>
    cases j with
    | zero => simp [textAll, textTail]
    | succ j =>
      have := textTail_take r j (by simpa using h)
      rw [if_neg (by omega)]
      simp only [List.take_succ_cons, List.getElem_cons_succ, textAll, this]; simp
end T
theorem ohead (k : Int) (w : World) : Calls Try.prog 83 #[.int .i64 k] w fun e w' => e = .returned (.string ⟨(T.headS k).toArray⟩) ∧ w = w' := by
  have hc : (k = 4 ∧ T.headS k = [104, 97, 115, 104]) ∨ (k = 5 ∧ T.headS k = [115, 101, 97, 108]) ∨ (k = 6 ∧ T.headS k = [115, 105, 103, 110]) ∨ (((k == 4) = false ∧ (k == 5) = false ∧ (k == 6) = false) ∧ T.headS k = [112, 111, 119, 101, 114]) := by
    unfold T.headS
    by_cases h4 : k = 4
    · left; exact ⟨h4, by rw [if_pos h4]⟩
    by_cases h5 : k = 5
    · right; left; exact ⟨h5, by rw [if_neg h4, if_pos h5]⟩
    by_cases h6 : k = 6
    · right; right; left; exact ⟨h6, by rw [if_neg h4, if_neg h5, if_pos h6]⟩
    · right; right; right; refine ⟨⟨?_, ?_, ?_⟩, by rw [if_neg h4, if_neg h5, if_neg h6]⟩ <;> (rw [beq_eq_false_iff_ne]; assumption)
  rcases hc with ⟨rfl, e⟩ | ⟨rfl, e⟩ | ⟨rfl, e⟩ | ⟨⟨g4, g5, g6⟩, e⟩
  all_goals
    have E := Lib.hid e; clear e
    go_enter Try.func83, Try.ntmps83
    go_wp2
    go_ret
    exact ⟨ret_str (by rw [E.out]), rfl⟩
end Go.Proofs.Ytihbmgkbipeakaa

namespace Go.Proofs.Ytihbmgkbipeakaa

namespace T
/-- The text by which a term is found. -/
def key (t : T) : ByteArray := if t.valid = true then strOf t.text else ⟨#[]⟩
def nil_ : T := .mk 0 ⟨#[]⟩ []
def kid (t : T) (i : Nat) : T := t.kids.getD i nil_
/-- A power with an exponent less. -/
def lessOf (t : T) (i : Nat) : T := .mk 7 ⟨#[]⟩ (t.kids.eraseIdx i)
end T

/-- A step: its term, how it was found, from which steps; and whether it was found by taking apart. -/
structure Stp where
  t : T
  how : Nat
  frm : List Nat
  part : Bool
namespace Wb
def find (W : List Stp) (t : T) : Option Nat := W.findIdx? fun s => decide (s.t.key = t.key)
def add (W : List Stp) (t : T) (how : Nat) (frm : List Nat) : List Stp × Nat :=
  match find W t with
  | some i => (W, i)
  | none => (W ++ [⟨t, how, frm, false⟩], W.length)
def partAt (W : List Stp) (i : Nat) : Bool := (W[i]?.map Stp.part).getD false
def mark (W : List Stp) (i : Nat) : List Stp := W.modify i fun s => { s with part := true }
def take (W : List Stp) (t : T) (how : Nat) (frm : List Nat) : List Stp × Bool :=
  if partAt (add W t how frm).1 (add W t how frm).2 = true then ((add W t how frm).1, false) else (mark (add W t how frm).1 (add W t how frm).2, true)
/-- Both kids, then the term. -/
def both (rec : List Stp → T → List Stp × Option Nat) (W : List Stp) (t : T) (how : Nat) : List Stp × Option Nat :=
  match (rec W (t.kid 0)).2 with
  | none => ((rec W (t.kid 0)).1, none)
  | some a =>
    match (rec (rec W (t.kid 0)).1 (t.kid 1)).2 with
    | none => ((rec (rec W (t.kid 0)).1 (t.kid 1)).1, none)
    | some b => ((add (rec (rec W (t.kid 0)).1 (t.kid 1)).1 t how [a, b]).1, some (add (rec (rec W (t.kid 0)).1 (t.kid 1)).1 t how [a, b]).2)
/-- A power: the exponents from the i-th on are tried. -/
def pow (rec : List Stp → T → List Stp × Option Nat) (t : T) : Nat → Nat → List Stp → List Stp × Option Nat
  | 0, _, W => (W, none)
  | f + 1, i, W =>
    match find W (t.kid i) with
    | none => pow rec t f (i + 1) W
    | some nm =>
      if t.kids.length = 1 then ((add W t 11 [nm]).1, some (add W t 11 [nm]).2)
      else match (rec W (t.lessOf i)).2 with
        | none => pow rec t f (i + 1) (rec W (t.lessOf i)).1
        | some p => ((add (rec W (t.lessOf i)).1 t 10 [p, nm]).1, some (add (rec W (t.lessOf i)).1 t 10 [p, nm]).2)
/-- A term is put together. -/
def build : Nat → List Stp → T → List Stp × Option Nat
  | 0, W, _ => (W, none)
  | n + 1, W, t =>
    match find W t with
    | some i => (W, some i)
    | none =>
      if t.kind = 4 then
        match (build n W (t.kid 0)).2 with
        | none => ((build n W (t.kid 0)).1, none)
        | some m => ((add (build n W (t.kid 0)).1 t 7 [m]).1, some (add (build n W (t.kid 0)).1 t 7 [m]).2)
      else if t.kind = 3 then both (build n) W t 6
      else if t.kind = 5 then both (build n) W t 8
      else if t.kind = 6 then both (build n) W t 9
      else if t.kind = 7 then pow (build n) t t.kids.length 0 W
      else (W, none)
def bld (W : List Stp) (t : T) : List Stp × Option Nat := build (t.bulk + 1) W t
def termAt (W : List Stp) (i : Nat) : T := (W[i]?.map Stp.t).getD T.nil_
/-- A step's term is taken apart. -/
def apart (W : List Stp) (i : Nat) : List Stp × Bool :=
  let t := termAt W i
  if t.kind = 3 then ((take (take W (t.kid 0) 2 [i]).1 (t.kid 1) 3 [i]).1, (take (take W (t.kid 0) 2 [i]).1 (t.kid 1) 3 [i]).2 || (take W (t.kid 0) 2 [i]).2)
  else if t.kind = 6 then take W (t.kid 1) 5 [i]
  else if t.kind = 5 then
    if (find W (t.kid 1)).any (fun m => partAt W m) = true then (W, false)
    else match (bld W (t.kid 0)).2 with
      | none => ((bld W (t.kid 0)).1, false)
      | some k => take (bld W (t.kid 0)).1 (t.kid 1) 4 [i, k]
  else (W, false)
/-- A round over the steps from the i-th on. -/
def rnd : Nat → Nat → Bool → List Stp → List Stp × Bool
  | 0, _, m, W => (W, m)
  | f + 1, i, m, W =>
    if i < W.length then
      if partAt W i = true then rnd f (i + 1) (m || (apart W i).2) (apart W i).1 else rnd f (i + 1) m W
    else (W, m)
def run (U : Nat) : Nat → List Stp → List Stp
  | 0, W => W
  | f + 1, W => if (rnd U 0 false W).2 = true then run U f (rnd U 0 false W).1 else (rnd U 0 false W).1
def start (ts : List T) : List Stp := ts.foldl (fun W t => (take W t 1 []).1) []
end Wb
end Go.Proofs.Ytihbmgkbipeakaa

namespace Go.Proofs.Ytihbmgkbipeakaa
open Go.RowKit

namespace T
mutual
/-- The names of a term's variables, in the order in which they occur. -/
def vars : T → List ByteArray
  | .mk k s ks => (if k = 2 then [s] else []) ++ varsAll ks
def varsAll : List T → List ByteArray
  | [] => []
  | t :: r => vars t ++ varsAll r
end
mutual
theorem vars_len : ∀ t : T, t.vars.length ≤ t.bulk
  | .mk k s ks => by
    have := varsAll_len ks
    simp only [vars, bulk, List.length_append]
    split <;> simp <;> omega
theorem varsAll_len : ∀ l : List T, (varsAll l).length ≤ bulkAll l
  | [] => by simp [varsAll, bulkAll]
  | t :: r => by have := vars_len t; have := varsAll_len r; simp only [varsAll, bulkAll, List.length_append]; omega
end
theorem varsAll_take (l : List T) : ∀ (i : Nat) (h : i < l.length), varsAll (l.take (i + 1)) = varsAll (l.take i) ++ l[i].vars := by
  induction l with
  | nil => intro i h; simp at h
  | cons t r ih =>
    intro i h
    cases i with
    | zero => simp [varsAll]
    | succ i => simp only [List.take_succ_cons, varsAll, List.getElem_cons_succ]; rw [ih i (by simpa using h), List.append_assoc]
theorem bulkAll_succ (l : List T) : ∀ (i : Nat) (h : i < l.length), bulkAll (l.take i) + l[i].bulk ≤ bulkAll l := by
  induction l with
  | nil => intro i h; simp at h
  | cons t r ih =>
    intro i h
    cases i with
    | zero => simp only [List.take_zero, bulkAll, List.getElem_cons_zero]; omega
    | succ i => have := ih i (by simpa using h); simp only [List.take_succ_cons, bulkAll, List.getElem_cons_succ]; omega
end T
/-- Blocks below B. -/
def under (B : Nat) : Nat → Bool := fun b => decide (b < B)
/-- A term as it is reached lies in the memory that is there. -/
theorem TermAt.under_ {w : World} {v : Value} {t : T} (h : TermAt w v t) : TermIn (under w.heap.size) w v t :=
  TermAt.keep h fun p hp => by
    rw [cell_only]
    obtain ⟨u, hu⟩ := Option.isSome_iff_exists.1 hp
    rw [if_pos (show under w.heap.size p.block = true from decide_eq_true (World.block_lt_of_cell? w p hu))]
theorem TermIn.below_ {B : Nat} {w w' : World} {v : Value} {t : T} (h : TermIn (under B) w v t) (hb : Below B w w') : TermIn (under B) w' v t :=
  h.keep fun b hb' _ => ⟨hb', hb.block b (of_decide_eq_true hb')⟩
/-- A kid's cells, below B. -/
theorem TermIn.cells {B : Nat} {w : World} {A : Option Addr} {ks : List T} {U : Nat → Value × Value × Value} {i : Nat} (h : i < ks.length)
    (hA : ks.length = 0 ∨ ∃ b off, A = some ⟨b, off, none⟩ ∧ ∀ i, i < ks.length → (only w (under B)).cell? ⟨b, off + i * 3, none⟩ = some (U i).1 ∧ (only w (under B)).cell? ⟨b, off + i * 3 + 1, none⟩ = some (U i).2.1 ∧ (only w (under B)).cell? ⟨b, off + i * 3 + 2, none⟩ = some (U i).2.2)
    (hU : ∀ i (h : i < ks.length), TermAt (only w (under B)) (.agg #[(U i).1, (U i).2.1, (U i).2.2]) ks[i]) :
    ∃ b off A' cap', b < B ∧ A = some ⟨b, off, none⟩ ∧ w.cell? ⟨b, off + i * 3, none⟩ = some (.int .i64 ks[i].kind) ∧ w.cell? ⟨b, off + i * 3 + 1, none⟩ = some (.string ks[i].name) ∧
      w.cell? ⟨b, off + i * 3 + 2, none⟩ = some (.slice A' ks[i].kids.length cap') ∧ TermIn (under B) w (.agg #[.int .i64 ks[i].kind, .string ks[i].name, .slice A' ks[i].kids.length cap']) ks[i] := by
  obtain ⟨b, off, A', cap', e, c0, c1, c2, hu⟩ := TermAt.cells h hA hU
  have key : ∀ {q : Addr} {v : Value}, (only w (under B)).cell? q = some v → q.block < B ∧ w.cell? q = some v := fun {q v} hq => by
    rw [cell_only] at hq
    split at hq
    · rename_i hS; exact ⟨of_decide_eq_true hS, hq⟩
    · cases hq
  exact ⟨b, off, A', cap', (key c0).1, e, (key c0).2, (key c1).2, (key c2).2, hu⟩
theorem cell_below {B : Nat} {w w' : World} {b o : Nat} {v : Value} (h : Below B w w') (hb : b < B) (hc : w.cell? ⟨b, o, none⟩ = some v) : w'.cell? ⟨b, o, none⟩ = some v := (h.cell (p := ⟨b, o, none⟩) hb).trans hc
theorem Try.infoStr : (Try.prog.info? 9).map (fun i => (i.zero, i.size, i.bytes)) = some (some (.string ByteArray.empty), 1, 16) := by kernel_rfl

theorem Src.one_str (w : World) (s : ByteArray) : Src (w.alloc (.cells #[.string s] 9)) 1 (some ⟨w.heap.size, 0, none⟩) 1 [.string s] := by
  refine ⟨rfl, .inr ⟨_, 0, rfl, fun j u hu => ?_⟩⟩
  rw [Nat.zero_add]
  match j, hu with
  | 0, hu =>
    have h := heap_alloc_new w (.cells #[.string s] 9)
    have e : (w.alloc (.cells #[.string s] 9)).cell? ⟨w.heap.size, 0, none⟩ = some (.string s) := by unfold World.cell?; rw [h]; rfl
    exact e.trans hu

end Go.Proofs.Ytihbmgkbipeakaa

namespace Go.Proofs.Ytihbmgkbipeakaa
open Go.RowKit

/-- The place of a text among the steps. -/
def findK (W : List Stp) (k : ByteArray) : Option Nat := W.findIdx? fun s => decide (s.t.key = k)
theorem find_key (W : List Stp) (t : T) : Wb.find W t = findK W t.key := rfl
theorem findK_push (W : List Stp) (s : Stp) (k : ByteArray) : findK (W ++ [s]) k = (findK W k).or (if s.t.key = k then some W.length else none) := by
  unfold findK
  rw [List.findIdx?_append]
  congr 1
  rw [List.findIdx?_singleton]
  by_cases h : s.t.key = k
  · rw [if_pos h, if_pos (decide_eq_true h)]; simp
  · rw [if_neg h, if_neg (by rw [decide_eq_true_eq]; exact h)]; rfl
theorem findK_lt {W : List Stp} {k : ByteArray} {i : Nat} (h : findK W k = some i) : i < W.length := by
  unfold findK at h
  rw [List.findIdx?_eq_some_iff_getElem] at h
  exact h.1
theorem mark_len (W : List Stp) (i : Nat) : (Wb.mark W i).length = W.length := by unfold Wb.mark; rw [List.length_modify]
theorem mark_t (W : List Stp) (i j : Nat) (h : j < (Wb.mark W i).length) (h' : j < W.length) : (Wb.mark W i)[j].t = W[j].t ∧ (Wb.mark W i)[j].how = W[j].how ∧ (Wb.mark W i)[j].frm = W[j].frm ∧ (Wb.mark W i)[j].part = if i = j then true else W[j].part := by
  have e : (Wb.mark W i)[j]'(h) = if i = j then { W[j] with part := true } else W[j] := List.getElem_modify _ _ _ _ h
  rw [e]
  split
  · exact ⟨rfl, rfl, rfl, rfl⟩
  · exact ⟨rfl, rfl, rfl, rfl⟩
theorem findK_mark (W : List Stp) (i : Nat) (k : ByteArray) : findK (Wb.mark W i) k = findK W k := by
  have e : ∀ (f : Stp → Stp) (hf : ∀ s, (f s).t = s.t) (W : List Stp) (i : Nat), findK (W.modify i f) k = findK W k := by
    intro f hf W
    induction W with
    | nil => intro i; rw [List.modify_nil]
    | cons a r ih =>
      intro i
      cases i with
      | zero => rw [List.modify_zero_cons]; unfold findK; rw [List.findIdx?_cons, List.findIdx?_cons, hf]
      | succ i =>
        rw [List.modify_succ_cons]
        have h := ih i
        unfold findK at h ⊢
        rw [List.findIdx?_cons, List.findIdx?_cons, h]
  exact e (fun s => { s with part := true }) (fun s => rfl) W i
/-- What the map holds. -/
def kl (k : ByteArray) : Lit := .string k.data.toList
theorem kl_inj {a b : ByteArray} (h : kl a = kl b) : a = b := by
  unfold kl at h
  injection h with h
  exact str_eq h
def MapIs (D : DataW Unit) (W : List Stp) : Prop := ∀ k : ByteArray, Maps.has D (kl k) = (findK W k).isSome ∧ ∀ i, findK W k = some i → D.atKey (kl k) (.lit (.int .i64 0)) = .lit (.int .i64 (i : Int))
theorem MapIs.nil : MapIs (.map []) [] := fun k => ⟨rfl, fun i h => by cases h⟩
theorem MapIs.mark {D : DataW Unit} {W : List Stp} (h : MapIs D W) (i : Nat) : MapIs D (Wb.mark W i) := fun k => by rw [findK_mark]; exact h k
theorem MapIs.push {D : DataW Unit} {W : List Stp} (h : MapIs D W) (hD : Maps.IsMap D) (s : Stp) (hn : findK W s.t.key = none) : MapIs (D.put (kl s.t.key) (.lit (.int .i64 (W.length : Int)))) (W ++ [s]) := fun k => by
  rw [findK_push]
  by_cases e : s.t.key = k
  · subst e
    rw [hn, if_pos rfl]
    refine ⟨Maps.has_put_same hD (show Go.WideAt.IsKeyLit (kl s.t.key) from trivial) _, fun i hi => ?_⟩
    have hi' : W.length = i := Option.some.inj hi
    rw [Maps.atKey_put_same hD (show Go.WideAt.IsKeyLit (kl s.t.key) from trivial), hi']
  · have hk : kl k ≠ kl s.t.key := fun h => e (kl_inj h).symm
    rw [if_neg e, Option.or_none, Maps.has_put_other hk]
    refine ⟨(h k).1, fun i hi => ?_⟩
    rw [Maps.atKey_put_other hk]
    exact (h k).2 i hi

/-- The blocks that are none of the web's own. -/
def nr (g M : Nat) (vs vp : Value) : Nat → Bool := fun b => !(b == g) && !(b == M) && !(vs.ownBlock == some b) && !(vp.ownBlock == some b)
theorem nr_iff {g M : Nat} {vs vp : Value} {b : Nat} : nr g M vs vp b = true ↔ b ≠ g ∧ b ≠ M ∧ vs.ownBlock ≠ some b ∧ vp.ownBlock ≠ some b := by
  unfold nr
  rw [Bool.and_eq_true, Bool.and_eq_true, Bool.and_eq_true, Bool.not_eq_true', Bool.not_eq_true', Bool.not_eq_true', Bool.not_eq_true', beq_eq_false_iff_ne, beq_eq_false_iff_ne, beq_eq_false_iff_ne, beq_eq_false_iff_ne, and_assoc, and_assoc]
/-- What a call may turn: the web's own blocks, and new ones. -/
structure Fr (B g M : Nat) (vs vp : Value) (w : World) (vs' vp' : Value) (w' : World) : Prop where
  below : Below B w w'
  size : w.heap.size ≤ w'.heap.size
  keep : ∀ b, nr g M vs vp b = true → b < w.heap.size → nr g M vs' vp' b = true ∧ w'.heap[b]? = w.heap[b]?
theorem Fr.refl (B g M : Nat) (vs vp : Value) (w : World) : Fr B g M vs vp w vs vp w := ⟨Below.refl _ _, Nat.le_refl _, fun _ h _ => ⟨h, rfl⟩⟩
theorem Fr.trans {B g M : Nat} {vs vp vs' vp' vs'' vp'' : Value} {w w' w'' : World} (h : Fr B g M vs vp w vs' vp' w') (h' : Fr B g M vs' vp' w' vs'' vp'' w'') : Fr B g M vs vp w vs'' vp'' w'' :=
  ⟨h.below.trans h'.below, Nat.le_trans h.size h'.size, fun b hb hl => by
    obtain ⟨h1, h2⟩ := h.keep b hb hl
    obtain ⟨h3, h4⟩ := h'.keep b h1 (Nat.lt_of_lt_of_le hl h.size)
    exact ⟨h3, h4.trans h2⟩⟩
theorem Fr.later {B g M : Nat} {vs vp vs' vp' : Value} {w w' w'' : World} (h : Fr B g M vs vp w vs' vp' w') (hB : B ≤ w.heap.size) (hb : Below w'.heap.size w' w'') : Fr B g M vs vp w vs' vp' w'' :=
  h.trans ⟨hb.mono (Nat.le_trans hB h.size), hb.size, fun b hb' hl => ⟨hb', hb.block b hl⟩⟩
/-- One of the web's own blocks turns; a slice moves into a new block, if at all. -/
theorem Fr.grown {B g M : Nat} {vs vp vs' vp' : Value} {w w' : World} {row : Option Nat} (hB : B ≤ w.heap.size) (hg : w.grownBy w' row) (hr : ∀ k, row = some k → B ≤ k ∧ nr g M vs vp k = false)
    (hs : vs'.ownBlock = vs.ownBlock ∨ vs'.ownBlock = some w.heap.size) (hp : vp'.ownBlock = vp.ownBlock ∨ vp'.ownBlock = some w.heap.size) : Fr B g M vs vp w vs' vp' w' :=
  ⟨(Below.refl B w).grown hg hB (fun k hk => (hr k hk).1), hg.size, fun b hb hl => by
    obtain ⟨h1, h2, h3, h4⟩ := nr_iff.1 hb
    refine ⟨nr_iff.2 ⟨h1, h2, ?_, ?_⟩, hg.block b hl (fun e => by have := (hr b e.symm).2; rw [hb] at this; cases this)⟩
    · rcases hs with hs | hs
      · rw [hs]; exact h3
      · rw [hs]; intro e; injection e with e; omega
    · rcases hp with hp | hp
      · rw [hp]; exact h4
      · rw [hp]; intro e; injection e with e; omega⟩
theorem nr_g {g M : Nat} {vs vp : Value} : nr g M vs vp g = false := by
  rw [Bool.eq_false_iff]; intro h; exact (nr_iff.1 h).1 rfl
theorem nr_M {g M : Nat} {vs vp : Value} : nr g M vs vp M = false := by
  rw [Bool.eq_false_iff]; intro h; exact (nr_iff.1 h).2.1 rfl
theorem nr_s {g M k : Nat} {vs vp : Value} (h : vs.ownBlock = some k) : nr g M vs vp k = false := by
  rw [Bool.eq_false_iff]; intro h'; exact (nr_iff.1 h').2.2.1 h
theorem nr_p {g M k : Nat} {vs vp : Value} (h : vp.ownBlock = some k) : nr g M vs vp k = false := by
  rw [Bool.eq_false_iff]; intro h'; exact (nr_iff.1 h').2.2.2 h
theorem grown_cell (w : World) (a : Addr) (u : Value) : w.grownBy (w.setCell a u) (some a.block) :=
  ⟨rfl, rfl, rfl, by simp [World.setCell], fun k _ hk => Below.heap_setCell _ _ _ k (fun e => hk (by rw [e]))⟩
theorem TermIn.fr {B g M : Nat} {vs vp vs' vp' : Value} {w w' : World} {v : Value} {t : T} (h : TermIn (nr g M vs vp) w v t) (hf : Fr B g M vs vp w vs' vp' w') : TermIn (nr g M vs' vp') w' v t := h.keep hf.keep
/-- Places that lie in certain blocks. -/
def NumsIn (S : Nat → Bool) (w : World) (A : Option Addr) (ns : List Nat) : Prop :=
  ns.length = 0 ∨ ∃ b off, A = some ⟨b, off, none⟩ ∧ S b = true ∧ ∀ i (h : i < ns.length), w.cell? ⟨b, off + i, none⟩ = some (.int .i64 (ns[i] : Int))
theorem NumsIn.keep {S S' : Nat → Bool} {w w' : World} {A : Option Addr} {ns : List Nat} (h : NumsIn S w A ns) (hk : ∀ b, S b = true → b < w.heap.size → S' b = true ∧ w'.heap[b]? = w.heap[b]?) : NumsIn S' w' A ns := by
  rcases h with h | ⟨b, off, e, hS, hc⟩
  · exact .inl h
  · by_cases h0 : ns.length = 0
    · exact .inl h0
    · have hl := World.block_lt_of_cell? w _ (hc 0 (by omega))
      obtain ⟨h1, h2⟩ := hk b hS hl
      exact .inr ⟨b, off, e, h1, fun i hi => (World.cell?_of_block h2).trans (hc i hi)⟩
/-- A step as it lies in its five cells. -/
def StepAt (S : Nat → Bool) (w : World) (cs : List Value) (s : Stp) : Prop :=
  ∃ A cap F fc, cs = [.int .i64 s.t.kind, .string s.t.name, .slice A s.t.kids.length cap, .int .i64 (s.how : Int), .slice F s.frm.length fc] ∧ TermIn S w (.agg #[.int .i64 s.t.kind, .string s.t.name, .slice A s.t.kids.length cap]) s.t ∧ NumsIn S w F s.frm
theorem StepAt.keep {S S' : Nat → Bool} {w w' : World} {cs : List Value} {s : Stp} (h : StepAt S w cs s) (hk : ∀ b, S b = true → b < w.heap.size → S' b = true ∧ w'.heap[b]? = w.heap[b]?) : StepAt S' w' cs s := by
  obtain ⟨A, cap, F, fc, e, h1, h2⟩ := h
  exact ⟨A, cap, F, fc, e, h1.keep hk, h2.keep hk⟩
theorem StepAt.len {S : Nat → Bool} {w : World} {cs : List Value} {s : Stp} (h : StepAt S w cs s) : cs.length = 5 := by
  obtain ⟨A, cap, F, fc, e, _⟩ := h
  rw [e]; rfl
theorem StepAt.one {S : Nat → Bool} {w : World} {cs : List Value} {s : Stp} (h : StepAt S w cs s) : ∀ u ∈ cs, u.oneCell' = true := by
  obtain ⟨A, cap, F, fc, e, _⟩ := h
  subst e
  intro u hu
  simp at hu
  rcases hu with rfl | rfl | rfl | rfl | rfl <;> rfl
def StepsAt (S : Nat → Bool) (w : World) (css : List (List Value)) (W : List Stp) : Prop := css.length = W.length ∧ ∀ i (h : i < css.length) (h' : i < W.length), StepAt S w css[i] W[i]
theorem StepsAt.keep {S S' : Nat → Bool} {w w' : World} {css : List (List Value)} {W : List Stp} (h : StepsAt S w css W) (hk : ∀ b, S b = true → b < w.heap.size → S' b = true ∧ w'.heap[b]? = w.heap[b]?) : StepsAt S' w' css W :=
  ⟨h.1, fun i a b => (h.2 i a b).keep hk⟩
theorem StepsAt.push {S : Nat → Bool} {w : World} {css : List (List Value)} {W : List Stp} {cs : List Value} {s : Stp} (h : StepsAt S w css W) (hs : StepAt S w cs s) : StepsAt S w (css ++ [cs]) (W ++ [s]) := by
  refine ⟨by rw [List.length_append, List.length_append, h.1]; rfl, fun i a b => ?_⟩
  by_cases hi : i < css.length
  · rw [List.getElem_append_left hi, List.getElem_append_left (by rw [← h.1]; exact hi)]
    exact h.2 i hi (by rw [← h.1]; exact hi)
  · have e1 : i = css.length := by simp at a; omega
    subst e1
    have e2 : (css ++ [cs])[css.length]'a = cs := by simp
    have e3 : (W ++ [s])[css.length]'b = s := by rw [List.getElem_append_right (by rw [h.1]; exact Nat.le_refl _)]; simp
    rw [e2, e3]; exact hs
theorem StepsAt.mark {S : Nat → Bool} {w : World} {css : List (List Value)} {W : List Stp} (h : StepsAt S w css W) (i : Nat) : StepsAt S w css (Wb.mark W i) := by
  refine ⟨by rw [mark_len]; exact h.1, fun j a b => ?_⟩
  have hj : j < W.length := by rw [← h.1]; exact a
  obtain ⟨e1, e2, e3, _⟩ := mark_t W i j b hj
  have := h.2 j a hj
  unfold StepAt at this ⊢
  rw [e1, e2, e3]; exact this
/-- The cells of the web. -/
structure WebAt (B : Nat) (w : World) (g M : Nat) (vs vp : Value) (W : List Stp) : Prop where
  steps : ∃ css, StepsAt (nr g M vs vp) w css W ∧ w.ownsRow B 76 5 vs W.length css.flatten
  part : w.ownsRow B 4 1 vp W.length (W.map fun s => Value.bool s.part)
  map : ∃ D n, w.ownsMap Try.prog 9 (plainElem (H := Unit) Try.prog 3) M n D ∧ n ≤ W.length ∧ MapIs D W
  box : w.heap[g]? = some (.cells #[vs, .map (some M), vp] 69 (0, 0))
  low : B ≤ g ∧ B ≤ M
  size : W.length ≤ 1048576
theorem WebAt.later {B g M : Nat} {w w' : World} {vs vp : Value} {W : List Stp} (h : WebAt B w g M vs vp W) (hb : Below w.heap.size w w') : WebAt B w' g M vs vp W := by
  obtain ⟨⟨css, h1, h2⟩, h3, ⟨D, n, h4, h5⟩, h6, h7, h8⟩ := h
  exact ⟨⟨css, h1.keep fun b hb' hl => ⟨hb', hb.block b hl⟩, own_later h2 hb⟩, own_later h3 hb, ⟨D, n, h4.kept (row := none) ⟨hb.os, hb.tape, hb.output, hb.size, fun k hk _ => hb.block k hk⟩ (by simp), h5⟩,
    (hb.block g (Array.getElem?_eq_some_iff.1 h6).1).trans h6, h7, h8⟩
theorem WebAt.lt {B g M : Nat} {w : World} {vs vp : Value} {W : List Stp} (h : WebAt B w g M vs vp W) : g < w.heap.size ∧ B ≤ w.heap.size := by
  have := (Array.getElem?_eq_some_iff.1 h.box).1
  have := h.low.1
  exact ⟨by assumption, by omega⟩
/-- The web's cells as a walk reads them. -/
theorem WebAt.cells {B g M : Nat} {w : World} {vs vp : Value} {W : List Stp} (h : WebAt B w g M vs vp W) : w.cell? ⟨g, 0, none⟩ = some vs ∧ w.cell? ⟨g, 1, none⟩ = some (.map (some M)) ∧ w.cell? ⟨g, 2, none⟩ = some vp ∧ w.frozen? ⟨g, 0, none⟩ = false ∧ w.frozen? ⟨g, 2, none⟩ = false := by
  have hb := h.box
  refine ⟨?_, ?_, ?_, ?_, ?_⟩ <;> simp [World.cell?, World.frozen?, hb]
/-- What a call leaves: the web as it then is. -/
def WebTo (B g M : Nat) (w : World) (vs vp : Value) (W' : List Stp) (w' : World) : Prop := ∃ vs' vp', WebAt B w' g M vs' vp' W' ∧ Fr B g M vs vp w vs' vp' w'
end Go.Proofs.Ytihbmgkbipeakaa
