/- Chapter 40: what the normal form and the turning of exponents keep. -/
import Derived.Test.YtlecmcfmaneejaaTermIdem
import Derived.Test.YtlecmcfmaneejaaTermVars
namespace Go.Proofs.Ytlecmcfmaneejaa

namespace T
theorem shapeAll_iff (l : List T) : shapeAll l = true ↔ ∀ t ∈ l, t.shape = true := by
  induction l with
  | nil => simp [shapeAll]
  | cons t r ih => simp [shapeAll, ih]
theorem headOk_map (f : T → T) (hf : ∀ t, (f t).atom = t.atom) (k : Int) (l : List T) : headOk k (l.map f) = headOk k l := by
  have e1 : ((l.map f)[0]?).map atom = (l[0]?).map atom := by cases l <;> simp [hf]
  have e2 : (l.map f).any (fun t => !t.atom) = l.any (fun t => !t.atom) := by
    rw [List.any_map]; congr 1; funext t; simp [hf]
  unfold headOk
  rw [e1, e2, List.length_map]
theorem headOk_perm {l m : List T} (h : l.Perm m) : headOk 7 l = headOk 7 m := by
  have e : l.any (fun t => !t.atom) = m.any (fun t => !t.atom) := by
    rw [Bool.eq_iff_iff, List.any_eq_true, List.any_eq_true]
    exact ⟨fun ⟨t, h1, h2⟩ => ⟨t, h.mem_iff.1 h1, h2⟩, fun ⟨t, h1, h2⟩ => ⟨t, h.mem_iff.2 h1, h2⟩⟩
  unfold headOk
  rw [e, h.length_eq]
  simp
theorem atom_norm (t : T) : t.norm.atom = t.atom := by cases t; rfl
theorem atom_turn (t : T) : t.turn.atom = t.atom := by cases t; rfl
theorem turnAll_map : ∀ l : List T, turnAll l = l.map turn
  | [] => rfl
  | t :: r => by simp only [turnAll, List.map_cons, turnAll_map r]
theorem sizeAll_perm {l m : List T} (h : l.Perm m) : sizeAll l = sizeAll m := by
  induction h with
  | nil => rfl
  | cons x _ ih => simp only [sizeAll, ih]
  | swap x y l => simp only [sizeAll]; omega
  | trans _ _ ih1 ih2 => exact ih1.trans ih2
theorem bulkAll_perm {l m : List T} (h : l.Perm m) : bulkAll l = bulkAll m := by
  induction h with
  | nil => rfl
  | cons x _ ih => simp only [bulkAll, ih]
  | swap x y l => simp only [bulkAll]; omega
  | trans _ _ ih1 ih2 => exact ih1.trans ih2
mutual
theorem size_norm : ∀ t : T, t.norm.size = t.size
  | .mk k s ks => by
    simp only [norm, size]
    split
    · rw [sizeAll_perm (isort_perm _), size_normAll ks]
    · rw [size_normAll ks]
theorem size_normAll : ∀ l : List T, sizeAll (normAll l) = sizeAll l
  | [] => rfl
  | t :: r => by simp only [normAll, sizeAll, size_norm t, size_normAll r]
end
mutual
theorem size_turn : ∀ t : T, t.turn.size = t.size
  | .mk k s ks => by
    simp only [turn, size]
    split
    · rw [sizeAll_perm (List.reverse_perm _)]
    · rw [size_turnAll ks]
theorem size_turnAll : ∀ l : List T, sizeAll (turnAll l) = sizeAll l
  | [] => rfl
  | t :: r => by simp only [turnAll, sizeAll, size_turn t, size_turnAll r]
end
mutual
theorem bulk_turn : ∀ t : T, t.turn.bulk = t.bulk
  | .mk k s ks => by
    simp only [turn, bulk]
    split
    · rw [bulkAll_perm (List.reverse_perm _)]
    · rw [bulk_turnAll ks]
theorem bulk_turnAll : ∀ l : List T, bulkAll (turnAll l) = bulkAll l
  | [] => rfl
  | t :: r => by simp only [turnAll, bulkAll, bulk_turn t, bulk_turnAll r]
end
mutual
theorem shape_norm : ∀ t : T, t.shape = true → t.norm.shape = true
  | .mk k s ks => fun h => by
    simp only [shape] at h
    simp only [norm, shape]
    by_cases h12 : k = 1 ∨ k = 2
    · rw [if_pos h12] at h ⊢
      have h7 : ¬ k = 7 := by omega
      rw [if_neg h7]
      rw [normAll_map, List.length_map]; exact h
    · rw [if_neg h12] at h ⊢
      simp only [Bool.and_eq_true] at h ⊢
      obtain ⟨⟨hh, he⟩, hk⟩ := h
      have hk' := shape_normAll ks hk
      have hh' : headOk k (normAll ks) = true := by rw [normAll_map, headOk_map norm atom_norm]; exact hh
      by_cases h7 : k = 7
      · subst h7
        rw [if_pos rfl]
        refine ⟨⟨by rw [headOk_perm (isort_perm _)]; exact hh', he⟩, ?_⟩
        rw [shapeAll_iff] at hk' ⊢
        exact fun t ht => hk' t ((isort_perm _).mem_iff.1 ht)
      · rw [if_neg h7]; exact ⟨⟨hh', he⟩, hk'⟩
theorem shape_normAll : ∀ l : List T, shapeAll l = true → shapeAll (normAll l) = true
  | [] => fun _ => rfl
  | t :: r => fun h => by
    simp only [shapeAll, normAll, Bool.and_eq_true] at h ⊢
    exact ⟨shape_norm t h.1, shape_normAll r h.2⟩
end
mutual
theorem shape_turn : ∀ t : T, t.shape = true → t.turn.shape = true
  | .mk k s ks => fun h => by
    simp only [shape] at h
    simp only [turn, shape]
    by_cases h12 : k = 1 ∨ k = 2
    · rw [if_pos h12] at h ⊢
      have h7 : ¬ k = 7 := by omega
      rw [if_neg h7]
      rw [turnAll_map, List.length_map]; exact h
    · rw [if_neg h12] at h ⊢
      simp only [Bool.and_eq_true] at h ⊢
      obtain ⟨⟨hh, he⟩, hk⟩ := h
      by_cases h7 : k = 7
      · subst h7
        rw [if_pos rfl]
        refine ⟨⟨by rw [headOk_perm (List.reverse_perm _)]; exact hh, he⟩, ?_⟩
        rw [shapeAll_iff] at hk ⊢
        exact fun t ht => hk t (List.mem_reverse.1 ht)
      · rw [if_neg h7]
        refine ⟨⟨by rw [turnAll_map, headOk_map turn atom_turn]; exact hh, he⟩, shape_turnAll ks hk⟩
theorem shape_turnAll : ∀ l : List T, shapeAll l = true → shapeAll (turnAll l) = true
  | [] => fun _ => rfl
  | t :: r => fun h => by
    simp only [shapeAll, turnAll, Bool.and_eq_true] at h ⊢
    exact ⟨shape_turn t h.1, shape_turnAll r h.2⟩
end
theorem valid_norm (t : T) (h : t.valid = true) : t.norm.valid = true := by
  unfold valid at *
  rw [Bool.and_eq_true] at *
  exact ⟨by rw [size_norm]; exact h.1, shape_norm t h.2⟩
theorem valid_turn (t : T) (h : t.valid = true) : t.turn.valid = true := by
  unfold valid at *
  rw [Bool.and_eq_true] at *
  exact ⟨by rw [size_turn]; exact h.1, shape_turn t h.2⟩
end T
end Go.Proofs.Ytlecmcfmaneejaa
