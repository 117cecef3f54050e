/- Chapter 40: the order of terms is total, plain. -/
import Derived.Test.YtihbmgkbipeakaaGreatTermNorm
namespace Go.Proofs.YtihbmgkbipeakaaGreat
open Go.RowKit

namespace T
theorem bless (x y : List UInt8) : Op.bytesLess x y = decide (x < y) := by
  induction x generalizing y with
  | nil => cases y <;> simp [Op.bytesLess]
  | cons a x ih => cases y with
    | nil => simp [Op.bytesLess]
    | cons b y => simp only [Op.bytesLess, ih, List.cons_lt_cons_iff, Bool.decide_or, Bool.decide_and]; congr 1
theorem list_tri (x y : List UInt8) : x < y ∨ x = y ∨ y < x := by
  induction x generalizing y with
  | nil => cases y with
    | nil => exact .inr (.inl rfl)
    | cons b y => exact .inl (List.nil_lt_cons b y)
  | cons a x ih => cases y with
    | nil => exact .inr (.inr (List.nil_lt_cons a x))
    | cons b y =>
      rw [List.cons_lt_cons_iff, List.cons_lt_cons_iff, List.cons.injEq]
      rcases ih y with h | h | h
      · by_cases e : a = b
        · left; right; exact ⟨e, h⟩
        · rcases (show a < b ∨ b < a by have : a.toNat ≠ b.toNat := fun h => e (UInt8.toNat_inj.1 h); rw [UInt8.lt_iff_toNat_lt, UInt8.lt_iff_toNat_lt]; omega) with g | g
          · left; left; exact g
          · right; right; left; exact g
      · by_cases e : a = b
        · right; left; exact ⟨e, h⟩
        · rcases (show a < b ∨ b < a by have : a.toNat ≠ b.toNat := fun h => e (UInt8.toNat_inj.1 h); rw [UInt8.lt_iff_toNat_lt, UInt8.lt_iff_toNat_lt]; omega) with g | g
          · left; left; exact g
          · right; right; left; exact g
      · by_cases e : a = b
        · right; right; right; exact ⟨e.symm, h⟩
        · rcases (show a < b ∨ b < a by have : a.toNat ≠ b.toNat := fun h => e (UInt8.toNat_inj.1 h); rw [UInt8.lt_iff_toNat_lt, UInt8.lt_iff_toNat_lt]; omega) with g | g
          · left; left; exact g
          · right; right; left; exact g
theorem ba_eq {a b : ByteArray} (h : a.toList = b.toList) : a = b := str_eq (by rw [← ByteArray.toList_eq, ← ByteArray.toList_eq]; exact h)
theorem cs_lt {a b : ByteArray} : cs a b = -1 ↔ a.toList < b.toList := by
  unfold cs less; rw [bless]
  by_cases h : a.toList < b.toList
  · simp [h]
  · simp only [h, decide_false, Bool.false_eq_true, if_false, iff_false]
    split <;> decide
theorem cs_eq {a b : ByteArray} : cs a b = 0 ↔ a = b := by
  unfold cs less; rw [bless]
  by_cases h : a.toList < b.toList
  · have : a ≠ b := fun e => by rw [e] at h; exact List.lt_irrefl _ h
    simp [h, this]
  · simp only [h, decide_false, Bool.false_eq_true, if_false]
    by_cases e : a.toList = b.toList
    · simp [ba_eq e]
    · have e' : (a.toList == b.toList) = false := by rw [beq_eq_false_iff_ne]; exact e
      have : a ≠ b := fun h => e (by rw [h])
      simp [e', this]
theorem cs_vals (a b : ByteArray) : cs a b = -1 ∨ cs a b = 0 ∨ cs a b = 1 := by
  unfold cs; split
  · simp
  · split <;> simp
theorem cs_anti (a b : ByteArray) : cs b a = -cs a b := by
  rcases list_tri a.toList b.toList with h | h | h
  · have h1 := cs_lt.2 h
    have h2 : cs b a ≠ -1 := fun e => List.lt_irrefl _ (List.lt_trans h (cs_lt.1 e))
    have h3 : cs b a ≠ 0 := fun e => by rw [cs_eq.1 e] at h; exact List.lt_irrefl _ h
    rcases cs_vals b a with g | g | g
    · exact absurd g h2
    · exact absurd g h3
    · rw [g, h1]; rfl
  · have := ba_eq h; subst this; rw [cs_eq.2 rfl]; rfl
  · have h1 := cs_lt.2 h
    have h2 : cs a b ≠ -1 := fun e => List.lt_irrefl _ (List.lt_trans h (cs_lt.1 e))
    have h3 : cs a b ≠ 0 := fun e => by rw [cs_eq.1 e] at h; exact List.lt_irrefl _ h
    rcases cs_vals a b with g | g | g
    · exact absurd g h2
    · exact absurd g h3
    · rw [g, h1]
theorem ci_lt {a b : Int} : ci a b = -1 ↔ a < b := by unfold ci; split <;> (try split) <;> omega
theorem ci_eq {a b : Int} : ci a b = 0 ↔ a = b := by unfold ci; split <;> (try split) <;> omega
theorem ci_anti (a b : Int) : ci b a = -ci a b := by unfold ci; split <;> (try split) <;> (try split) <;> omega
theorem or3_anti {x y z x' y' z' : Int} (hx : x' = -x) (hy : y' = -y) (hz : z' = -z) : or3 x' y' z' = -or3 x y z := by
  subst hx; subst hy; subst hz; unfold or3; split <;> (try split) <;> (try split) <;> (try split) <;> omega
mutual
theorem cmp_anti : ∀ a b : T, cmp b a = -cmp a b
  | .mk k s ks, .mk k' s' ks' => by rw [cmp_or3, cmp_or3]; exact or3_anti (ci_anti _ _) (cs_anti _ _) (cmpAll_anti ks ks')
theorem cmpAll_anti : ∀ l m : List T, cmpAll m l = -cmpAll l m
  | [], [] => rfl
  | [], _ :: _ => rfl
  | _ :: _, [] => rfl
  | a :: r, b :: r' => by
    have h1 := cmp_anti a b; have h2 := cmpAll_anti r r'
    simp only [cmpAll]
    split <;> split <;> omega
end
mutual
theorem cmp_eq : ∀ a b : T, cmp a b = 0 → a = b
  | .mk k s ks, .mk k' s' ks' => fun h => by
    rw [cmp_or3] at h
    unfold or3 at h
    split at h
    · omega
    · split at h
      · omega
      · rename_i h1 h2
        have e1 := ci_eq.1 (Decidable.not_not.1 h1); have e2 := cs_eq.1 (Decidable.not_not.1 h2)
        rw [e1, e2, cmpAll_eq ks ks' h]
theorem cmpAll_eq : ∀ l m : List T, cmpAll l m = 0 → l = m
  | [], [] => fun _ => rfl
  | [], _ :: _ => fun h => by simp [cmpAll] at h
  | _ :: _, [] => fun h => by simp [cmpAll] at h
  | a :: r, b :: r' => fun h => by
    simp only [cmpAll] at h
    split at h
    · rename_i h1; rw [cmp_eq a b h1, cmpAll_eq r r' h]
    · omega
end
mutual
theorem cmp_self : ∀ a : T, cmp a a = 0
  | .mk k s ks => by rw [cmp_or3, ci_eq.2 rfl, cs_eq.2 rfl, cmpAll_self ks]; rfl
theorem cmpAll_self : ∀ l : List T, cmpAll l l = 0
  | [] => rfl
  | a :: r => by simp only [cmpAll]; rw [if_pos (cmp_self a)]; exact cmpAll_self r
end
theorem or3_lt {x y z : Int} : or3 x y z = -1 ↔ x = -1 ∨ (x = 0 ∧ (y = -1 ∨ (y = 0 ∧ z = -1))) := by
  unfold or3; split <;> (try split) <;> omega
mutual
theorem cmp_trans : ∀ a b c : T, cmp a b = -1 → cmp b c = -1 → cmp a c = -1
  | .mk k s ks, .mk k' s' ks', .mk k'' s'' ks'' => fun h g => by
    rw [cmp_or3, or3_lt, ci_lt, ci_eq, cs_lt, cs_eq] at h g ⊢
    rcases h with h | ⟨rfl, h⟩
    · rcases g with g | ⟨rfl, g⟩
      · left; omega
      · left; exact h
    · rcases g with g | ⟨rfl, g⟩
      · left; exact g
      · right
        refine ⟨rfl, ?_⟩
        rcases h with h | ⟨rfl, h⟩
        · rcases g with g | ⟨rfl, g⟩
          · left; exact List.lt_trans h g
          · left; exact h
        · rcases g with g | ⟨rfl, g⟩
          · left; exact g
          · right; exact ⟨rfl, cmpAll_trans ks ks' ks'' h g⟩
theorem cmpAll_trans : ∀ a b c : List T, cmpAll a b = -1 → cmpAll b c = -1 → cmpAll a c = -1
  | [], [], _ => fun h _ => by simp [cmpAll] at h
  | [], _ :: _, [] => fun _ g => by simp [cmpAll] at g
  | [], _ :: _, _ :: _ => fun _ _ => rfl
  | _ :: _, [], _ => fun h _ => by simp [cmpAll] at h
  | _ :: _, _ :: _, [] => fun _ g => by simp [cmpAll] at g
  | a :: r, b :: r', c :: r'' => fun h g => by
    simp only [cmpAll] at h g ⊢
    by_cases h1 : cmp a b = 0
    · rw [if_pos h1] at h
      have := cmp_eq a b h1; subst this
      by_cases g1 : cmp a c = 0
      · rw [if_pos g1] at g ⊢; exact cmpAll_trans r r' r'' h g
      · rw [if_neg g1] at g ⊢; exact g
    · rw [if_neg h1] at h
      by_cases g1 : cmp b c = 0
      · have := cmp_eq b c g1; subst this
        rw [if_neg h1]; exact h
      · rw [if_neg g1] at g
        have := cmp_trans a b c h g
        rw [if_neg (by omega)]; exact this
end
end T
end Go.Proofs.YtihbmgkbipeakaaGreat
