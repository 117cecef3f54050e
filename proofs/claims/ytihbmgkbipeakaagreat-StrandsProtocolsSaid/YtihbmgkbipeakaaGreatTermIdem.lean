/- Chapter 40: the normal form does not depend on the order of exponents; the normal form of a normal form. -/
import Derived.Test.YtihbmgkbipeakaaGreatTermAnti
import Derived.Test.YtihbmgkbipeakaaGreatTermNorm
namespace Go.Proofs.YtihbmgkbipeakaaGreat

namespace T
theorem insR_perm (x : T) (l : List T) : (insR x l).Perm (x :: l) := by
  induction l with
  | nil => exact List.Perm.refl _
  | cons y r ih =>
    simp only [insR]
    split
    · exact (ih.cons y).trans (List.Perm.swap _ _ _)
    · exact List.Perm.refl _
theorem fold_perm (l : List T) : ∀ acc, (l.foldl (fun acc x => insR x acc) acc).Perm (acc ++ l) := by
  induction l with
  | nil => intro acc; simp
  | cons x r ih =>
    intro acc
    rw [List.foldl_cons]
    refine (ih _).trans ?_
    refine ((insR_perm x acc).append_right r).trans ?_
    exact List.perm_middle.symm
theorem isort_perm (l : List T) : (isort l).Perm l := by
  unfold isort
  exact (List.reverse_perm _).trans (by simpa using fold_perm l [])
theorem le_of_not {a b : T} (h : ¬ cmp a b < 0) : cmp b a ≤ 0 := by rw [cmp_anti a b]; omega
theorem le_trans_ {a b c : T} (h : cmp a b ≤ 0) (g : cmp b c ≤ 0) : cmp a c ≤ 0 := by
  rcases cmp_vals a b with h1 | h1 | h1
  · rcases cmp_vals b c with g1 | g1 | g1
    · rw [cmp_trans a b c h1 g1]; decide
    · rw [← cmp_eq b c g1]; exact h
    · omega
  · rw [cmp_eq a b h1]; exact g
  · omega
theorem insR_down (x : T) (l : List T) (h : l.Pairwise fun a b => cmp b a ≤ 0) : (insR x l).Pairwise fun a b => cmp b a ≤ 0 := by
  induction l with
  | nil => simp [insR]
  | cons y r ih =>
    simp only [insR]
    rw [List.pairwise_cons] at h
    split
    · rename_i hlt
      rw [List.pairwise_cons]
      refine ⟨fun z hz => ?_, ih h.2⟩
      rcases List.mem_cons.1 ((insR_perm x r).mem_iff.1 hz) with rfl | hz
      · omega
      · exact h.1 z hz
    · rename_i hge
      rw [List.pairwise_cons, List.pairwise_cons]
      refine ⟨fun z hz => ?_, h⟩
      rcases List.mem_cons.1 hz with rfl | hz
      · exact le_of_not hge
      · exact le_trans_ (h.1 z hz) (le_of_not hge)
theorem fold_down (l : List T) : ∀ acc : List T, (acc.Pairwise fun a b => cmp b a ≤ 0) → (l.foldl (fun acc x => insR x acc) acc).Pairwise fun a b => cmp b a ≤ 0 := by
  induction l with
  | nil => intro acc h; exact h
  | cons x r ih => intro acc h; rw [List.foldl_cons]; exact ih _ (insR_down x acc h)
theorem isort_up (l : List T) : (isort l).Pairwise fun a b => cmp a b ≤ 0 := by
  unfold isort
  rw [List.pairwise_reverse]
  exact fold_down l [] List.Pairwise.nil
theorem up_perm : ∀ (l m : List T), l.Perm m → (l.Pairwise fun a b => cmp a b ≤ 0) → (m.Pairwise fun a b => cmp a b ≤ 0) → l = m
  | [], m, h, _, _ => by rw [List.nil_perm.1 h]
  | a :: r, [], h, _, _ => by have := h.length_eq; simp at this
  | a :: r, b :: r', h, h1, h2 => by
    rw [List.pairwise_cons] at h1 h2
    have e : a = b := by
      rcases List.mem_cons.1 (h.mem_iff.1 (List.mem_cons_self)) with e | ha
      · exact e
      · rcases List.mem_cons.1 (h.mem_iff.2 (List.mem_cons_self)) with e | hb
        · exact e.symm
        · have g1 := h1.1 b hb
          have g2 := h2.1 a ha
          rw [cmp_anti a b] at g2
          exact cmp_eq a b (by omega)
    subst e
    rw [up_perm r r' (List.perm_cons a |>.1 h) h1.2 h2.2]
theorem isort_of_perm {l m : List T} (h : l.Perm m) : isort l = isort m :=
  up_perm _ _ ((isort_perm l).trans (h.trans (isort_perm m).symm)) (isort_up l) (isort_up m)

mutual
/-- A term whose exponents stand in the opposite order. -/
def turn : T → T
  | .mk k s ks => .mk k s (if k = 7 then ks.reverse else turnAll ks)
def turnAll : List T → List T
  | [] => []
  | t :: r => turn t :: turnAll r
end
mutual
theorem norm_turn : ∀ t : T, t.turn.norm = t.norm
  | .mk k s ks => by
    simp only [turn, norm]
    split
    · rw [normAll_map, normAll_map, List.map_reverse, isort_of_perm (List.reverse_perm _)]
    · rw [norm_turnAll ks]
theorem norm_turnAll : ∀ l : List T, normAll (turnAll l) = normAll l
  | [] => rfl
  | t :: r => by simp only [turnAll, normAll, norm_turn t, norm_turnAll r]
end
mutual
theorem norm_norm : ∀ t : T, t.norm.norm = t.norm
  | .mk k s ks => by
    simp only [norm]
    split
    · have h : (normAll (isort (normAll ks))).Perm (normAll ks) := by
        have h1 := (isort_perm (normAll ks)).map norm
        rw [← normAll_map, ← normAll_map, norm_normAll ks] at h1
        exact h1
      rw [isort_of_perm h]
    · rw [norm_normAll ks]
theorem norm_normAll : ∀ l : List T, normAll (normAll l) = normAll l
  | [] => rfl
  | t :: r => by simp only [normAll, norm_norm t, norm_normAll r]
end
end T
end Go.Proofs.YtihbmgkbipeakaaGreat
