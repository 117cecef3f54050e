/- Chapter 11: several texts in one (DatPlain2, Made, MadeSigns, OptBack, MadeName, ZonMadeP, ZonMade, ZonOdd). -/
import Derived.Test.YtelngghecmkipaaGreatDoorDatParse
import Derived.Test.YtelngghecmkipaaGreatDoorRows
import Derived.Test.YtelngghecmkipaaGreatDoorUtil
import Derived.ProofKit
import Derived.OpenShut
import Derived.Maps.Range
import Derived.Test.YtelngghecmkipaaGreatDoorOptSplitRef
import Derived.IntWalk
import Derived.Test.YtelngghecmkipaaGreatDoorZonGR
import Derived.Test.YtelngghecmkipaaGreatDoorZonGL
import Derived.Deep.CutRange
import Derived.Deep.RegionLaw
namespace Go.Proofs.YtelngghecmkipaaGreatDoor.Dat
open Go.RowKit

/-- The date of the next day. -/
theorem follow (n : Int) (h : 0 ≤ n) (h' : n ≤ 73047) :
    (dOf n < dim (yOf n) (mOf n) ∧ yOf (n + 1) = yOf n ∧ mOf (n + 1) = mOf n ∧ dOf (n + 1) = dOf n + 1) ∨
    (28 ≤ dOf n ∧ mOf n < 12 ∧ yOf (n + 1) = yOf n ∧ mOf (n + 1) = mOf n + 1 ∧ dOf (n + 1) = 1) ∨
    (28 ≤ dOf n ∧ mOf n = 12 ∧ yOf (n + 1) = yOf n + 1 ∧ mOf (n + 1) = 1 ∧ dOf (n + 1) = 1) := by
  obtain ⟨⟨h1, h2, h3, h4, h5, h6⟩, e⟩ := parts_ok n h (by omega)
  have hd := dim_bd (yOf n) (mOf n)
  by_cases c : dOf n < dim (yOf n) (mOf n)
  · have hv : vld (yOf n) (mOf n) (dOf n + 1) := ⟨h1, h2, h3, h4, by omega, by omega⟩
    have hn : num (yOf n) (mOf n) (dOf n + 1) = n + 1 := by unfold num at e ⊢; omega
    obtain ⟨a, b, g⟩ := parts_is hv hn
    exact .inl ⟨c, a.symm, b.symm, g.symm⟩
  · have cs := cum_succ (yOf n) (mOf n) h3 h4
    by_cases c2 : mOf n < 12
    · have hv : vld (yOf n) (mOf n + 1) 1 := ⟨h1, h2, by omega, by omega, by omega, by have := dim_bd (yOf n) (mOf n + 1); omega⟩
      have hn : num (yOf n) (mOf n + 1) 1 = n + 1 := by unfold num at e ⊢; omega
      obtain ⟨a, b, g⟩ := parts_is hv hn
      exact .inr (.inl ⟨by omega, c2, a.symm, b.symm, g.symm⟩)
    · have hm : mOf n = 12 := by omega
      have ce := cum_end (yOf n)
      have bs := bef_succ (yOf n) h1
      have hy : yOf n + 1 ≤ 2099 := by
        rcases Int.lt_or_le (yOf n) 2099 with g | g
        · omega
        · have e1 : yOf n = 2099 := by omega
          have e2 := bef_last
          rw [e1] at bs e ce cs; rw [hm] at cs e; unfold num at e
          rw [show (2099 : Int) + 1 = 2100 by omega] at bs
          rw [show (12 : Int) + 1 = 13 by omega] at cs
          rw [hm, e1] at c h6
          omega
      have hv : vld (yOf n + 1) 1 1 := ⟨by omega, hy, by omega, by omega, by omega, by have := dim_bd (yOf n + 1) 1; omega⟩
      have hn : num (yOf n + 1) 1 1 = n + 1 := by
        unfold num at e ⊢
        rw [cum_first]
        rw [hm] at e cs c h6
        rw [show (12 : Int) + 1 = 13 by omega] at cs
        omega
      obtain ⟨a, b, g⟩ := parts_is hv hn
      exact .inr (.inr ⟨by omega, hm, a.symm, b.symm, g.symm⟩)

/-- The first day of month k. -/
def S (k : Int) : Int := bef (1900 + k / 12) + cum (1900 + k / 12) (k % 12 + 1)
def dimK (k : Int) : Int := dim (1900 + k / 12) (k % 12 + 1)
theorem atMonth_eq (k d : Int) : atMonth k d = S k + cut k d - 1 := rfl
theorem cut_eq (k d : Int) : cut k d = if d ≤ dimK k then d else dimK k := rfl
theorem dimK_bd (k : Int) : 28 ≤ dimK k ∧ dimK k ≤ 31 := dim_bd _ _
theorem S_succ (k : Int) (h : 0 ≤ k) : S (k + 1) = S k + dimK k := by
  unfold S dimK
  by_cases c : k % 12 < 11
  · have e1 : (k + 1) / 12 = k / 12 := by omega
    have e2 : (k + 1) % 12 + 1 = k % 12 + 1 + 1 := by omega
    rw [e1, e2, cum_succ _ _ (by omega) (by omega)]
    omega
  · have e1 : (1900 + (k + 1) / 12) = (1900 + k / 12) + 1 := by omega
    have e2 : (k + 1) % 12 + 1 = 1 := by omega
    have e3 : k % 12 + 1 = 12 := by omega
    have cs := cum_succ (1900 + k / 12) 12 (by omega) (by omega)
    rw [show (12 : Int) + 1 = 13 by omega, cum_end] at cs
    rw [e1, e2, e3, cum_first, bef_succ _ (by omega)]
    omega
theorem S_add (k : Int) (h : 0 ≤ k) : ∀ j : Nat, S k + 28 * j ≤ S (k + j) ∧ S (k + j) ≤ S k + 31 * j ∧ (1 ≤ j → S k + dimK k + 28 * (j - 1) ≤ S (k + j))
  | 0 => by simp
  | j + 1 => by
    obtain ⟨a, b, c⟩ := S_add k h j
    have e := S_succ (k + j) (by omega)
    have d := dimK_bd (k + j)
    have d0 := dimK_bd k
    have e2 : k + ((j + 1 : Nat) : Int) = k + j + 1 := by omega
    rw [e2, e]
    refine ⟨by omega, by omega, fun _ => ?_⟩
    rcases Nat.eq_zero_or_pos j with rfl | hj
    · simp
    · have := c hj; omega
/-- The month of a day of month k. -/
theorem mix_at (k d : Int) (h : 0 ≤ k) (h' : k ≤ 2399) (hd : 1 ≤ d) : inR (atMonth k d) ∧ mix (atMonth k d) = k ∧ dOf (atMonth k d) = cut k d ∧ yOf (atMonth k d) = 1900 + k / 12 ∧ mOf (atMonth k d) = k % 12 + 1 := by
  have hv := atMonth_vld k d h h' hd
  obtain ⟨a, b, c⟩ := parts_of hv
  have hb := num_bd hv
  refine ⟨hb, ?_, c, a, b⟩
  unfold mix atMonth
  rw [a, b]; omega
theorem mix_day (n : Int) (hn : inR n) : 0 ≤ mix n ∧ mix n ≤ 2399 ∧ 1900 + mix n / 12 = yOf n ∧ mix n % 12 + 1 = mOf n ∧ n = S (mix n) + dOf n - 1 ∧ dOf n ≤ dimK (mix n) ∧ 1 ≤ dOf n := by
  obtain ⟨⟨h1, h2, h3, h4, h5, h6⟩, e⟩ := parts_ok n hn.1 hn.2
  have e1 : 1900 + mix n / 12 = yOf n := by unfold mix; omega
  have e2 : mix n % 12 + 1 = mOf n := by unfold mix; omega
  refine ⟨by unfold mix; omega, by unfold mix; omega, e1, e2, ?_, ?_, h5⟩
  · unfold S; rw [e1, e2]; unfold num at e; omega
  · unfold dimK; rw [e1, e2]; exact h6
theorem moV_yes (n k : Int) (h1 : -2400 ≤ k) (h2 : k ≤ 2400) (hn : inR n) (h3 : 0 ≤ mix n + k) (h4 : mix n + k ≤ 2399) : moV n k = atMonth (mix n + k) (dOf n) := by
  unfold moV; rw [if_neg]; rintro (h | h | h | h | h)
  · omega
  · omega
  · exact h hn
  · omega
  · omega
/-- Months later and as many earlier. -/
theorem months_add (n k : Int) (hn : inR n) (h0 : 0 ≤ k) (h1 : k ≤ 199) (hE : moE n k ≠ 8) :
    moE n k = 0 ∧ moE (moV n k) (-k) = 0 ∧ inR (moV (moV n k) (-k)) ∧ yOf (moV (moV n k) (-k)) = yOf n ∧ mOf (moV (moV n k) (-k)) = mOf n ∧ dOf (moV (moV n k) (-k)) ≤ dOf n ∧
      (dOf n ≤ 28 → dOf (moV (moV n k) (-k)) = dOf n) ∧ 28 * k ≤ moV n k - n ∧ moV n k - n ≤ 31 * k := by
  obtain ⟨m0, m1, m2, m3, m4, m5, m6⟩ := mix_day n hn
  have hr : ¬ (k < -2400 ∨ 2400 < k) := by omega
  have hx : ¬ (¬ inR n ∨ mix n + k < 0 ∨ 2399 < mix n + k) := by
    intro hh; apply hE; unfold moE; rw [if_neg hr, if_pos hh]
  have hk : mix n + k ≤ 2399 := by
    rcases Int.lt_or_le 2399 (mix n + k) with g | g
    · exact absurd (.inr (.inr g)) hx
    · exact g
  have e0 : moE n k = 0 := by unfold moE; rw [if_neg hr, if_neg hx]
  have e1 : moV n k = atMonth (mix n + k) (dOf n) := by
    unfold moV; rw [if_neg]; rintro (h | h | h | h | h)
    · omega
    · omega
    · exact h hn
    · omega
    · omega
  obtain ⟨a1, a2, a3, a4, a5⟩ := mix_at (mix n + k) (dOf n) (by omega) hk m6
  rw [← e1] at a1 a2 a3 a4 a5
  have c1 : 1 ≤ cut (mix n + k) (dOf n) ∧ cut (mix n + k) (dOf n) ≤ dOf n ∧ (dOf n ≤ 28 → cut (mix n + k) (dOf n) = dOf n) ∧ (cut (mix n + k) (dOf n) < dOf n → cut (mix n + k) (dOf n) = dimK (mix n + k)) := by
    have := dimK_bd (mix n + k)
    rw [cut_eq]; split <;> omega
  have f0 : moE (moV n k) (-k) = 0 := by
    unfold moE; rw [if_neg (by omega), if_neg]; rintro (h | h | h)
    · exact h a1
    · rw [a2] at h; omega
    · rw [a2] at h; omega
  have f1 : moV (moV n k) (-k) = atMonth (mix n) (cut (mix n + k) (dOf n)) := by
    rw [moV_yes (moV n k) (-k) (by omega) (by omega) a1 (by omega) (by omega), a2, a3]
    congr 1; omega
  obtain ⟨b1, b2, b3, b4, b5⟩ := mix_at (mix n) (cut (mix n + k) (dOf n)) m0 m1 c1.1
  rw [← f1] at b1 b2 b3 b4 b5
  have c2 : cut (mix n) (cut (mix n + k) (dOf n)) = cut (mix n + k) (dOf n) := by
    conv => lhs; rw [cut_eq]
    rw [if_pos (by omega)]
  obtain ⟨j, rfl⟩ := Int.eq_ofNat_of_zero_le h0
  have hs := S_add (mix n) m0 j
  have hdm := dimK_bd (mix n + j)
  have e1' := e1
  rw [atMonth_eq] at e1'
  refine ⟨e0, f0, b1, by rw [b4, m2], by rw [b5, m3], by rw [b3, c2]; omega, fun h => by rw [b3, c2]; exact c1.2.2.1 h, ?_, ?_⟩
  · rw [e1']
    rcases Nat.eq_zero_or_pos j with rfl | hj
    · have e9 : mix n + ((0 : Nat) : Int) = mix n := by omega
      rw [e9]
      have : cut (mix n) (dOf n) = dOf n := by rw [cut_eq, if_pos m5]
      omega
    · have := hs.2.2 hj
      by_cases g : cut (mix n + j) (dOf n) < dOf n
      · have := c1.2.2.2 g; omega
      · omega
  · rw [e1']; omega

/-- The date's place in another year. -/
theorem place_bd {y m d : Int} (h : vld y m d) (y' : Int) : 0 ≤ cum y' m + d - 1 ∧ cum y' m + d - 1 ≤ 364 + lpi y' := by
  obtain ⟨h1, h2, h3, h4, h5, h6⟩ := h
  have hl := lpi_01 y
  have hl' := lpi_01 y'
  have : m = 1 ∨ m = 2 ∨ m = 3 ∨ m = 4 ∨ m = 5 ∨ m = 6 ∨ m = 7 ∨ m = 8 ∨ m = 9 ∨ m = 10 ∨ m = 11 ∨ m = 12 := by omega
  rcases this with rfl | rfl | rfl | rfl | rfl | rfl | rfl | rfl | rfl | rfl | rfl | rfl <;> simp [dim] at h6 <;> simp [cum] <;> omega
/-- The j-th birthday. -/
def Bd (b j : Int) : Int := num (yOf b + j) (mOf b) (dOf b)
theorem Bd_step (b j : Int) (hb : inR b) (hj : 0 ≤ j) : Bd b j + 365 ≤ Bd b (j + 1) ∧ Bd b (j + 1) ≤ Bd b j + 366 := by
  obtain ⟨⟨h1, h2, h3, h4, h5, h6⟩, _⟩ := parts_ok b hb.1 hb.2
  have hs := bef_succ (yOf b + j) (by omega)
  have hl := lpi_01 (yOf b + j)
  have hl' := lpi_01 (yOf b + j + 1)
  unfold Bd num
  rw [show yOf b + (j + 1) = yOf b + j + 1 by omega, hs]
  have hc : cum (yOf b + j + 1) (mOf b) - cum (yOf b + j) (mOf b) = if mOf b ≤ 2 then 0 else lpi (yOf b + j + 1) - lpi (yOf b + j) := by
    by_cases c1 : mOf b ≤ 1
    · have l : ∀ y, cum y (mOf b) = 0 := fun y => by unfold cum; rw [if_pos c1]
      rw [l, l, if_pos (by omega)]; omega
    · by_cases c2 : mOf b = 2
      · have l : ∀ y, cum y (mOf b) = 31 := fun y => by unfold cum; rw [if_neg c1, if_pos c2]
        rw [l, l, if_pos (by omega)]; omega
      · rw [if_neg (by omega)]; unfold cum; simp only [c1, c2, if_false]; omega
  split at hc <;> omega
theorem Bd_mono (b : Int) (hb : inR b) (i : Int) (hi : 0 ≤ i) : ∀ k : Nat, Bd b i + 365 * k ≤ Bd b (i + k)
  | 0 => by simp
  | k + 1 => by
    have h1 := Bd_mono b hb i hi k
    have h2 := Bd_step b (i + k) hb (by omega)
    rw [show i + ((k + 1 : Nat) : Int) = i + k + 1 by omega]
    omega
theorem Bd_le (b : Int) (hb : inR b) (i j : Int) (hi : 0 ≤ i) (h : i ≤ j) : Bd b i + 365 * (j - i) ≤ Bd b j := by
  have := Bd_mono b hb i hi (j - i).toNat
  rw [show i + (((j - i).toNat : Nat) : Int) = j by omega] at this
  omega
theorem age_is (b n : Int) (hb : inR b) (hn : inR n) (h : b ≤ n) : agE b n = 0 ∧ 0 ≤ agV b n ∧ Bd b (agV b n) ≤ n ∧ n < Bd b (agV b n + 1) := by
  obtain ⟨hv, e⟩ := parts_ok b hb.1 hb.2
  obtain ⟨hv', e'⟩ := parts_ok n hn.1 hn.2
  have hy : yOf b ≤ yOf n := by
    rcases Int.lt_or_le (yOf n) (yOf b) with g | g
    · have := num_year hv' hv g; omega
    · exact g
  obtain ⟨h1, h2, h3, h4⟩ := yOf_ok n hn.1 hn.2
  have e1 : agV b n = yOf n - yOf b - if n < num (yOf n) (mOf b) (dOf b) then 1 else 0 := if_neg (by rintro (h | h | h) <;> first | omega | exact h (by assumption))
  have e2 : agE b n = 0 := (if_neg (by rintro (h | h) <;> exact h (by assumption))).trans (if_neg (by omega))
  refine ⟨e2, ?_⟩
  rw [e1]
  by_cases c : n < num (yOf n) (mOf b) (dOf b)
  · rw [if_pos c]
    have hne : yOf b ≠ yOf n := by intro hh; rw [← hh, e] at c; omega
    have p := place_bd hv (yOf n - 1)
    have hs := bef_succ (yOf n - 1) (by have := hv.1; omega)
    rw [show yOf n - 1 + 1 = yOf n by omega] at hs
    refine ⟨by omega, ?_, ?_⟩
    · unfold Bd num; rw [show yOf b + (yOf n - yOf b - 1) = yOf n - 1 by omega]; omega
    · unfold Bd; rw [show yOf b + (yOf n - yOf b - 1 + 1) = yOf n by omega]; exact c
  · rw [if_neg c]
    have p := place_bd hv (yOf n + 1)
    refine ⟨by omega, ?_, ?_⟩
    · unfold Bd; rw [show yOf b + (yOf n - yOf b - 0) = yOf n by omega]; omega
    · unfold Bd num; rw [show yOf b + (yOf n - yOf b - 0 + 1) = yOf n + 1 by omega]; omega
/-- Ages grow. -/
theorem ages_grow (b n : Int) (hb : inR b) (h : b ≤ n) (h' : n + 366 ≤ 73048) :
    agE b n = 0 ∧ agE b (n + 1) = 0 ∧ agE b (n + 366) = 0 ∧ 0 ≤ agV b n ∧ (agV b (n + 1) = agV b n ∨ agV b (n + 1) = agV b n + 1) ∧ (agV b (n + 366) = agV b n + 1 ∨ agV b (n + 366) = agV b n + 2) := by
  have hb0 := hb.1
  obtain ⟨a1, a2, a3, a4⟩ := age_is b n hb ⟨by omega, by omega⟩ h
  obtain ⟨b1, b2, b3, b4⟩ := age_is b (n + 1) hb ⟨by omega, by omega⟩ (by omega)
  obtain ⟨c1, c2, c3, c4⟩ := age_is b (n + 366) hb ⟨by omega, by omega⟩ (by omega)
  generalize agV b n = a at *
  generalize agV b (n + 1) = x at *
  generalize agV b (n + 366) = y at *
  have st := Bd_step b a hb a2
  refine ⟨a1, b1, c1, a2, ?_, ?_⟩
  · have g1 : a ≤ x := by
      rcases Int.lt_or_le x a with g | g
      · have := Bd_le b hb (x + 1) a (by omega) (by omega); omega
      · exact g
    have g2 : x ≤ a + 1 := by
      rcases Int.lt_or_le (a + 1) x with g | g
      · have := Bd_le b hb (a + 1) x (by omega) (by omega); omega
      · exact g
    omega
  · have g1 : a + 1 ≤ y := by
      rcases Int.lt_or_le a y with g | g
      · omega
      · have := Bd_le b hb (y + 1) (a + 1) (by omega) (by omega); omega
    have g2 : y ≤ a + 2 := by
      rcases Int.lt_or_le (a + 2) y with g | g
      · have := Bd_le b hb (a + 1) y (by omega) (by omega); omega
      · exact g
    omega

/-- The digits of a text of three numbers. -/
theorem fm_digits (a b c : Int) (ha : 0 ≤ a ∧ a ≤ 99) (hb : 0 ≤ b ∧ b ≤ 99) (hc : 0 ≤ c ∧ c ≤ 99) (s : ByteArray) (hs : s = ⟨(fm a b c 3).toArray⟩) :
    ∃ h : s.size = 6, allD (s[0]'(by omega)) (s[1]'(by omega)) (s[2]'(by omega)) (s[3]'(by omega)) (s[4]'(by omega)) (s[5]'(by omega)) ∧ 10 * dg (s[0]'(by omega)) + dg (s[1]'(by omega)) = a ∧
      10 * dg (s[2]'(by omega)) + dg (s[3]'(by omega)) = b ∧ 10 * dg (s[4]'(by omega)) + dg (s[5]'(by omega)) = c := by
  have h6 : s.size = 6 := by subst hs; rfl
  refine ⟨h6, ?_⟩
  have d0 := b8_toNat (48 + a / 10) (by omega) (by omega)
  have d1 := b8_toNat (48 + a % 10) (by omega) (by omega)
  have d2 := b8_toNat (48 + b / 10) (by omega) (by omega)
  have d3 := b8_toNat (48 + b % 10) (by omega) (by omega)
  have d4 := b8_toNat (48 + c / 10) (by omega) (by omega)
  have d5 := b8_toNat (48 + c % 10) (by omega) (by omega)
  have e0 : ∀ h : 0 < s.size, s[0]'h = b8 (48 + a / 10) := by subst hs; intro h; rfl
  have e1 : ∀ h : 1 < s.size, s[1]'h = b8 (48 + a % 10) := by subst hs; intro h; rfl
  have e2 : ∀ h : 2 < s.size, s[2]'h = b8 (48 + b / 10) := by subst hs; intro h; rfl
  have e3 : ∀ h : 3 < s.size, s[3]'h = b8 (48 + b % 10) := by subst hs; intro h; rfl
  have e4 : ∀ h : 4 < s.size, s[4]'h = b8 (48 + c / 10) := by subst hs; intro h; rfl
  have e5 : ∀ h : 5 < s.size, s[5]'h = b8 (48 + c % 10) := by subst hs; intro h; rfl
  unfold allD isD dg
  rw [e0, e1, e2, e3, e4, e5]
  omega
/-- What is read of a day's text. -/
theorem window (n f : Int) (hn : inR n) (h1 : 1900 ≤ f) (h2 : f ≤ 2000) :
    (f ≤ yOf n ∧ yOf n < f + 100 → prV (fmt n) f = n ∧ prE (fmt n) f = 0) ∧ (¬ (f ≤ yOf n ∧ yOf n < f + 100) → prE (fmt n) f ≠ 0 ∨ prV (fmt n) f ≠ n) := by
  obtain ⟨hv, e⟩ := parts_ok n hn.1 hn.2
  obtain ⟨g1, g2, g3, g4, g5, g6⟩ := hv
  have hd := dim_bd (yOf n) (mOf n)
  obtain ⟨hs, hall, ea, eb, ec⟩ := fm_digits (yOf n % 100) (mOf n) (dOf n) (by omega) (by omega) (by omega) (fmt n) rfl
  obtain ⟨pv, pe⟩ := pr_yes h1 h2 hs hall
  rw [ea, eb, ec] at pv pe
  rw [pv, pe]
  constructor
  · rintro ⟨k1, k2⟩
    have ey : yr f (yOf n % 100) = yOf n := by unfold yr; split <;> omega
    rw [ey]
    have hv' : vld (yOf n) (mOf n) (dOf n) := ⟨g1, g2, g3, g4, g5, g6⟩
    exact ⟨by unfold ofV; rw [if_pos hv', e], by unfold ofE; rw [if_pos hv']⟩
  · intro k
    by_cases hv' : vld (yr f (yOf n % 100)) (mOf n) (dOf n)
    · refine .inr ?_
      unfold ofV; rw [if_pos hv']
      intro hh
      have := num_inj hv' ⟨g1, g2, g3, g4, g5, g6⟩ (hh.trans e.symm)
      have ey : yr f (yOf n % 100) = yOf n := this.1
      unfold yr at ey
      split at ey <;> omega
    · exact .inl (by unfold ofE; rw [if_neg hv']; omega)
end Go.Proofs.YtelngghecmkipaaGreatDoor.Dat

namespace Go.Proofs.YtelngghecmkipaaGreatDoor
open Go.RowKit Go.ChangeShapes Go.WideShapes

/-- A list of numbers that lies in memory. -/
def ListAt (w : World) (A : Option Addr) (n : Nat) : Prop := n = 0 ∨ ∃ b off, A = some ⟨b, off, none⟩ ∧ ∀ j, j < n → ∃ z : Int, w.cell? ⟨b, off + j, none⟩ = some (.int .i64 z) ∧ -9223372036854775808 ≤ z ∧ z ≤ 9223372036854775807
theorem ListAt.keep {w w' : World} {A : Option Addr} {n : Nat} (h : ListAt w A n) (hk : ∀ p : Addr, (w.cell? p).isSome = true → w'.cell? p = w.cell? p) : ListAt w' A n := by
  rcases h with h | ⟨b, off, e, hc⟩
  · exact .inl h
  · refine .inr ⟨b, off, e, fun j hj => ?_⟩
    obtain ⟨z, h1, h2⟩ := hc j hj
    exact ⟨z, (hk _ (by rw [h1]; rfl)).trans h1, h2⟩
theorem ListAt.below {w w' : World} {A : Option Addr} {n : Nat} (h : ListAt w A n) (hb : Below w.heap.size w w') : ListAt w' A n := by
  refine h.keep fun p hp => ?_
  obtain ⟨v, hv⟩ := Option.isSome_iff_exists.1 hp
  rw [hv]; exact cell_later hb hv

set_option maxRecDepth 100000 in
/-- An argument of the type []int, opened. -/
theorem open_list {H : Type} {enc : TypeId × Value → H} {w : World} {b0 : Nat} {v : Value} {d : DataW H} {p : List MemPlace} {r : Reach}
    (hv : Value.okWide Tryz.prog w r b0 30 v) (h : DataW.Trod enc Tryz.prog w 0 (fun _ => true) true 30 v d p) :
    ∃ (A : Option Addr) (n c : Nat), v = .slice A n c ∧ n ≤ c ∧ c ≤ maxLen ∧ ListAt w A n := by
  obtain ⟨a0, len, cap, rfl⟩ := okWide_slice Tryz.underlying30 hv
  obtain ⟨fuel, hf⟩ := h
  rcases open_ints Tryz.underlying30 Tryz.underlying3 (by kernel_rfl) hf with ⟨hcs, _⟩ | ⟨x, l, c, zs, hcs, _, hl, hm, hz, _, hcell, hwz⟩
  · simp [Value.cells] at hcs
    obtain ⟨rfl, rfl, rfl⟩ := hcs
    exact ⟨none, 0, 0, rfl, Nat.le_refl _, Nat.zero_le _, .inl rfl⟩
  · simp [Value.cells] at hcs
    obtain ⟨rfl, rfl, rfl⟩ := hcs
    refine ⟨_, _, _, rfl, hl, hm, ?_⟩
    have hz' : zs.length = cap := by simpa using hz
    rcases Nat.eq_zero_or_pos len with h0 | h0
    · exact .inl h0
    · obtain ⟨b, off, rfl, hc⟩ := ints_at hcell (by omega)
      refine .inr ⟨b, off, rfl, fun j hj => ⟨_, hc j (by omega), ?_⟩⟩
      have hj' : j < zs.length := by omega
      have := bounds_i64 (hwz zs[j] (List.getElem_mem hj'))
      simpa [List.getD, List.getElem?_eq_getElem hj'] using this

/-- The dice: block g holds the list and how far it has been read. -/
def DiceAt (B g : Nat) (w : World) : Prop := B ≤ g ∧ ∃ (A : Option Addr) (n c k : Nat), w.heap[g]? = some (.cells #[.slice A n c, .int .i64 (k : Int)] 74 (0, 0)) ∧ k ≤ n ∧ n ≤ 400 ∧ n ≤ c ∧
  (n = 0 ∨ ∃ b off, b < B ∧ A = some ⟨b, off, none⟩ ∧ ∀ j, j < n → ∃ z : Int, w.cell? ⟨b, off + j, none⟩ = some (.int .i64 z) ∧ -9223372036854775808 ≤ z ∧ z ≤ 9223372036854775807)
theorem DiceAt.below {B B' g : Nat} {w w' : World} (h : DiceAt B g w) (hb : Below B' w w') (hg : g < B') : DiceAt B g w' := by
  obtain ⟨h0, A, n, c, k, h1, h2, h3, h3', h4⟩ := h
  refine ⟨h0, A, n, c, k, (hb.block g hg).trans h1, h2, h3, h3', ?_⟩
  rcases h4 with h4 | ⟨b, off, hbB, e, hc⟩
  · exact .inl h4
  · refine .inr ⟨b, off, hbB, e, fun j hj => ?_⟩
    obtain ⟨z, g1, g2⟩ := hc j hj
    exact ⟨z, (hb.cell (p := ⟨b, off + j, none⟩) (by show b < B'; omega)).trans g1, g2⟩
theorem DiceAt.lt {B g : Nat} {w : World} (h : DiceAt B g w) : g < w.heap.size := by
  obtain ⟨_, A, n, c, k, h1, _⟩ := h
  rcases Nat.lt_or_ge g w.heap.size with hlt | hge
  · exact hlt
  · rw [Array.getElem?_eq_none hge] at h1; cases h1

theorem made_light (A : Option Addr) (n c : Nat) (w : World) (hn : n ≤ maxLen) :
    Calls Tryz.prog 13 #[.slice A n c] w fun e w' => e = .returned (.bool (decide (n ≤ 400))) ∧ w = w' := by
  unfold maxLen at hn
  by_cases h : n ≤ 400
  · go_enter Tryz.func13, Tryz.ntmps13
    go_wp2_with fail
    go_ret
    exact ⟨ret_bool (by simp; omega), rfl⟩
  · go_enter Tryz.func13, Tryz.ntmps13
    go_wp2_with fail
    go_ret
    exact ⟨ret_bool (by simp; omega), rfl⟩

theorem made_roll (A : Option Addr) (n c : Nat) (w : World) (hn : n ≤ 400) (hc : n ≤ c) (hl : ListAt w A n) :
    Calls Tryz.prog 15 #[.slice A n c] w fun e w' => e = .returned (.pointer (some ⟨w.heap.size, 0, none⟩)) ∧ DiceAt w.heap.size w.heap.size w' ∧ Below w.heap.size w w' := by
  go_enter Tryz.func15, Tryz.ntmps15
  go_wp2_with fail
  go_ret
  refine ⟨rfl, ⟨Nat.le_refl _, A, n, c, 0, ?_, by omega, hn, hc, ?_⟩, (Below.refl _ _).alloc (Nat.le_refl _) _⟩
  · exact heap_alloc_new w _
  · rcases hl with h | ⟨b, off, e, hcell⟩
    · exact .inl h
    · rcases Nat.eq_zero_or_pos n with h0 | h0
      · exact .inl h0
      · have hlt : b < w.heap.size := by
          obtain ⟨z, h1, _⟩ := hcell 0 h0
          exact World.block_lt_of_cell? _ _ h1
        refine .inr ⟨b, off, hlt, e, fun j hj => ?_⟩
        obtain ⟨z, h1, h2⟩ := hcell j hj
        exact ⟨z, cell_later ((Below.refl _ _).alloc (Nat.le_refl _) _) h1, h2⟩

set_option maxHeartbeats 400000 in
theorem made_mod (n m : Int) (w : World) (h1 : -9223372036854775808 ≤ n) (h2 : n ≤ 9223372036854775807) (h3 : 1 ≤ m) (h4 : m ≤ 9223372036854775807) :
    Calls Tryz.prog 19 #[.int .i64 n, .int .i64 m] w fun e w' => e = .returned (.int .i64 (n % m)) ∧ w = w' := by
  have b1 := Int.emod_nonneg n (b := m) (by omega)
  have b2 := Int.emod_lt_of_pos n (b := m) (by omega)
  by_cases h0 : 0 ≤ n
  · go_enter Tryz.func19, Tryz.ntmps19
    go_wp2
    go_ret
    exact ⟨rfl, rfl⟩
  · have e1 := Int.tmod_eq_emod (a := n) (b := m)
    have b5 := Int.neg_tmod (a := n) (b := m)
    have b6 := Int.tmod_nonneg (a := -n) m (by omega)
    have b7 := Int.tmod_lt_of_pos (-n) (b := m) (by omega)
    have b3 : n.tmod m ≤ 0 := by omega
    have b4 : -m < n.tmod m := by omega
    clear b5 b6 b7
    by_cases hz : n.tmod m < 0
    · have e2 : n.tmod m + m = n % m := by
        rw [e1]; split
        · rename_i hh; rcases hh with hh | hh
          · omega
          · have := Int.emod_eq_zero_of_dvd hh; rw [e1, if_pos (Or.inr hh)] at hz; omega
        · omega
      have E2 := Lib.hid e2; clear e2 e1
      go_enter Tryz.func19, Tryz.ntmps19
      go_wp2
      go_ret
      exact ⟨ret_i64 (by have := E2.out; omega), rfl⟩
    · have e2 : n.tmod m = n % m := by
        have e0 : n.tmod m = 0 := by omega
        have hd : m ∣ n := Int.dvd_of_tmod_eq_zero e0
        rw [e0, Int.emod_eq_zero_of_dvd hd]
      have E2 := Lib.hid e2; clear e2 e1
      go_enter Tryz.func19, Tryz.ntmps19
      go_wp2
      go_ret
      exact ⟨ret_i64 (by have := E2.out; omega), rfl⟩

/-- Next gives a number below m; nothing but block g has turned. -/
def NextPost (B g : Nat) (m : Int) (w : World) (e : Ending) (w' : World) : Prop := ∃ v : Int, 0 ≤ v ∧ v < m ∧ e = .returned (.int .i64 v) ∧ DiceAt B g w' ∧ w.grownBy w' (some g)
theorem grown_drewN {a w : World} {row : Option Nat} (h : a.grownBy w row) (n : Nat) : a.grownBy (w.drewN n) row := ⟨h.os, h.tape, h.output, h.size, h.block⟩
theorem grown_drew {a w : World} {row : Option Nat} (h : a.grownBy w row) : a.grownBy w.drew row := ⟨h.os, h.tape, h.output, h.size, h.block⟩
theorem grown_set {a w : World} {g : Nat} (h : a.grownBy w (some g)) {p : Addr} (hp : p.block = g) (u : Value) : a.grownBy (w.setCell p u) (some g) :=
  ⟨h.os, h.tape, h.output, by simpa [World.setCell] using h.size, fun i hi hne => (Below.heap_setCell w p u i (by rintro rfl; exact hne (by rw [hp]))).trans (h.block i hi hne)⟩

set_option maxHeartbeats 800000 in
theorem made_next (B g : Nat) (m : Int) (w : World) (hd : DiceAt B g w) (h1 : 1 ≤ m) (h2 : m ≤ 9223372036854775807) :
    Calls Tryz.prog 41 #[.pointer (some ⟨g, 0, none⟩), .int .i64 m] w (NextPost B g m w) := by
  have hd' := hd
  obtain ⟨h0, A, n, c, k, hb, hk, hn, hnc, hl⟩ := hd
  have c0 : w.cell? ⟨g, 0, none⟩ = some (.slice A n c) := cell_of_row w g 0 _ _ _ hb
  have c1 : w.cell? ⟨g, 1, none⟩ = some (.int .i64 (k : Int)) := cell_of_row w g 1 _ _ _ hb
  have f1 : w.frozen? ⟨g, 1, none⟩ = false := by simp [World.frozen?, hb]
  by_cases hlt : k < n
  · rcases hl with hl | ⟨b, off, hbB, rfl, hc⟩
    · omega
    obtain ⟨z, hz, z1, z2⟩ := hc k hlt
    have hne : b ≠ g := by omega
    have d1 : ∀ q, ((w.drewN q).setCell ⟨g, 1, none⟩ (.int .i64 ((k : Int) + 1))).cell? ⟨b, off + k, none⟩ = some (.int .i64 z) := fun q => by
      rw [World.cell?_setCell_other (w.drewN q) ⟨g, 1, none⟩ ⟨b, off + k, none⟩ _ (by intro e; injection e with e1 _; exact hne e1.symm)]; exact hz
    have d2 : ∀ q, ((w.drewN q).setCell ⟨g, 1, none⟩ (.int .i64 ((k : Int) + 1))).cell? ⟨g, 0, none⟩ = some (.slice (some ⟨b, off, none⟩) n c) := fun q => by
      rw [World.cell?_setCell_other (w.drewN q) ⟨g, 1, none⟩ ⟨g, 0, none⟩ _ (by intro e; injection e with _ e1; omega)]; exact c0
    have d3 : ∀ q, ((w.drewN q).setCell ⟨g, 1, none⟩ (.int .i64 ((k : Int) + 1))).cell? ⟨g, 1, none⟩ = some (.int .i64 ((k : Int) + 1)) := fun q =>
      World.cell?_setCell_same (w.drewN q) ⟨g, 1, none⟩ _ c1
    have hD : ∀ q, DiceAt B g ((w.drewN q).setCell ⟨g, 1, none⟩ (.int .i64 ((k : Int) + 1))) := fun q => by
      refine ⟨h0, some ⟨b, off, none⟩, n, c, k + 1, ?_, by omega, hn, hnc, .inr ⟨b, off, hbB, rfl, fun j hj => ?_⟩⟩
      · have := heap_setCell_same (w.drewN q) g 1 _ _ (.int .i64 ((k : Int) + 1)) hb
        simpa using this
      · obtain ⟨z', e1, e2⟩ := hc j hj
        refine ⟨z', ?_, e2⟩
        rw [World.cell?_setCell_other (w.drewN q) ⟨g, 1, none⟩ ⟨b, off + j, none⟩ _ (by intro e; injection e with e1 _; exact hne e1.symm)]
        exact e1
    have HD := Lib.hid hD
    have m1 := Int.emod_nonneg z (b := m) (by omega)
    have m2 := Int.emod_lt_of_pos z (b := m) (by omega)
    clear hD hd' hc hb hne
    go_enter Tryz.func41, Tryz.ntmps41
    go_wp2_with fail
    go_quiet (fail)
    go_wp2_with fail
    go_quiet ((go_at_call 19; exact quiet_any (made_mod _ _ _ z1 z2 h1 h2)))
    go_wp2_with fail
    go_ret
    exact ⟨z % m, m1, m2, rfl, HD.out _, grown_drewN (grown_set (grown_drewN (World.grownBy.refl _ _) _) rfl _) _⟩
  · have HD := Lib.hid hd'
    clear hd' hb hl
    go_enter Tryz.func41, Tryz.ntmps41
    go_wp2_with fail
    go_quiet (fail)
    go_wp2_with fail
    go_ret
    exact ⟨0, by omega, by omega, rfl, HD.out, grown_drewN (World.grownBy.refl _ _) _⟩
end Go.Proofs.YtelngghecmkipaaGreatDoor

namespace Go.Proofs.YtelngghecmkipaaGreatDoor
open Go.RowKit

def isSign (c : UInt8) : Prop := (48 ≤ (c.toNat : Int) ∧ (c.toNat : Int) ≤ 57) ∨ (65 ≤ (c.toNat : Int) ∧ (c.toNat : Int) ≤ 90)
theorem u8_infoM : (Tryz.prog.info? 5).map (fun i => (i.zero, i.size, i.bytes)) = some (some (.int .u8 0), 1, 1) := by kernel_rfl
theorem own_keep {w w' : World} {B e size n g : Nat} {v : Value} {xs : List Value} (h : w.ownsRow B e size v n xs) (hg : w.grownBy w' (some g)) (hB : g < B) : w'.ownsRow B e size v n xs := by
  refine h.kept hg ?_
  rcases hv : v.ownBlock with _ | k
  · exact .inl rfl
  · refine .inr ?_
    have := own_block_le h k hv
    intro e; injection e with e; omega
def SignsPost (B g : Nat) (most : Int) (w : World) (e : Ending) (w' : World) : Prop := ∃ l : List UInt8, 1 ≤ l.length ∧ (l.length : Int) ≤ most ∧ (∀ c ∈ l, isSign c) ∧ e = .returned (.string ⟨l.toArray⟩) ∧ DiceAt B g w' ∧ w.grownBy w' (some g)
def SignsRel (B g : Nat) (most : Int) (w : World) (v i : Value) (wr : World) : Prop := ∃ (k : Nat) (l : List UInt8), i = .int .i64 k ∧ 1 ≤ l.length + k ∧ ((l.length + k : Nat) : Int) ≤ most ∧ (∀ c ∈ l, isSign c) ∧ wr.ownsRow w.heap.size 5 1 v l.length (BL l) ∧ DiceAt B g wr ∧ w.grownBy wr (some g)
instance (c : UInt8) : Decidable (isSign c) := by unfold isSign; exact inferInstance
def signTab : List UInt8 := [48, 49, 50, 51, 52, 53, 54, 55, 56, 57, 65, 66, 67, 68, 69, 70, 71, 72, 73, 74, 75, 76, 77, 78, 79, 80, 81, 82, 83, 84, 85, 86, 87, 88, 89, 90]
theorem sign_at (j : Nat) (h : j < 36) : isSign (signTab.getD j 0) := (by decide : ∀ j : Fin 36, isSign (signTab.getD j.1 0)) ⟨j, h⟩
theorem sign_get (j : Nat) (h : j < (⟨signTab.toArray⟩ : ByteArray).size) : isSign ((⟨signTab.toArray⟩ : ByteArray)[j]) := by
  have h' : j < signTab.length := h
  have e : (⟨signTab.toArray⟩ : ByteArray)[j] = signTab[j]'(h') := rfl
  have := sign_at j h'
  rw [e]; simpa [List.getD, List.getElem?_eq_getElem h'] using this
set_option maxRecDepth 100000 in
set_option maxHeartbeats 800000 in
theorem made_signs (B g : Nat) (most : Int) (w : World) (hd : DiceAt B g w) (h1 : 1 ≤ most) (h2 : most ≤ 100000) :
    Calls Tryz.prog 43 #[.pointer (some ⟨g, 0, none⟩), .int .i64 most] w (SignsPost B g most w) := by
  obtain ⟨i0, hi, hz0, hz1, hz2⟩ := info_parts u8_infoM
  have hgw := hd.lt
  go_enter Tryz.func43, Tryz.ntmps43
  go_wp2_with fail
  refine (made_next B g _ _ hd h1 (by omega)).mono ?_; rintro e w1 ⟨v, v1, v2, rfl, hd1, hg1⟩
  go_wp2_with fail
  go_loopw [5, 6] (SignsRel B g most w) (fun _ i _ => (intOf i).toNat)
  case atStart =>
    refine ⟨(1 + v).toNat, [], ?_, ?_, ?_, (by intro c hc; cases hc), ⟨rfl, .inl ⟨rfl, rfl⟩⟩, hd1, hg1⟩
    · rw [Int.toNat_of_nonneg (by omega)]
    · simp; omega
    · simp; omega
  case round =>
    obtain ⟨k, l, rfl, k1, k2, hl, hown, hdr, hgr⟩ := hrel
    by_cases hk : 0 < k
    · go_wp2_with fail
      refine (made_next B g _ _ hdr (by omega) (by omega)).mono ?_; rintro e w2 ⟨x, x1, x2, rfl, hd2, hg2⟩
      have hown2 := own_keep hown hg2 hgw
      have hsg := sign_get x.toNat (by show x.toNat < 36; omega)
      have hsz := hg2.size
      have hsz0 := hgr.size
      have hgr2 := hgr.trans hg2
      clear hown hg2 hdr
      go_wp2_with (at_builtin; refine wpList_append_own _ rfl _ _ 41 rfl w.heap.size 5 i0 (.int .u8 0) 1 1 Tryz.underlying41 hi hz0 hz1 hz2 rfl (by decide) _ _ _ rfl (hown2.alloc _) ⟨w2.heap.size, 0, none⟩ 1 1 [_] rfl rfl (cell_one_new _ _ _) (by intro u hu; simp at hu; subst hu; rfl) (by unfold maxLen; omega) (by omega) (by simp; omega) ?_; intro v' w3 hown3 hg3 _)
      have hd3 : DiceAt B g w3 := (hd2.below ((Below.refl w2.heap.size w2).alloc (Nat.le_refl _) _) hd2.lt).below (B' := w.heap.size) ⟨hg3.os, hg3.tape, hg3.output, hg3.size, fun i hi => hg3.block i (by simp; omega) (fun e => by have := own_block_le hown2 i e.symm; omega)⟩ hgw
      have hgr3 : w.grownBy w3 (some g) := (hgr2.andThen (World.grownBy_alloc w2 _ none) (by intro j hj; cases hj)).andThen hg3 (by intro j hj; exact .inl (own_block_le hown2 j hj))
      have hown4 : w3.ownsRow w.heap.size 5 1 v' (l.length + 1) (BL (l ++ [(⟨signTab.toArray⟩ : ByteArray)[x.toNat]'(by show x.toNat < 36; omega)])) := by rw [BL_append]; exact hown3
      clear hown3 hg3 hown2 hgr2 hd2
      go_roundw
      case rel =>
        refine ⟨k - 1, l ++ [(⟨signTab.toArray⟩ : ByteArray)[x.toNat]'(by show x.toNat < 36; omega)], ?_, ?_, ?_, ?_, ?_, hd3, hgr3⟩
        rotate_left 4
        · rw [List.length_append]; exact hown4
        · congr 1; omega
        · simp; omega
        · simp; omega
        · intro c hc
          rcases List.mem_append.1 hc with h | h
          · exact hl c h
          · have := List.mem_singleton.1 h; subst this; exact hsg
      case measure => simp [intOf]; omega
    · obtain rfl : k = 0 := by omega
      have hcv := conv_own (P := Tryz.prog) 41 9 5 l l.length rfl hown Tryz.underlying41 Tryz.underlying5 Tryz.underlying9
      clear hown
      go_wp2_with fail
      go_ret
      exact ⟨l, by omega, by omega, hl, rfl, hdr, hgr⟩
end Go.Proofs.YtelngghecmkipaaGreatDoor

namespace Go.Proofs.YtelngghecmkipaaGreatDoor.Opt
open Go.RowKit Go.Lib

section
variable {b : UInt8} (hb : isL b = false)
include hb
theorem isL_neb {c : UInt8} (h : isL c = true) : c ≠ b := by rintro rfl; rw [hb] at h; cases h
omit hb in
theorem wAt_appendb {a : List UInt8} (m : List UInt8) {k : Nat} (hk : k < a.length) (h : wAt b a k = true) : wAt b (a ++ m) k = true := by
  unfold wAt at *
  rw [getD_left a m k hk, getD_left a m (k - 1) (by omega)]
  simp only [Bool.or_eq_true, Bool.and_eq_true, decide_eq_true_eq, List.length_append] at *
  rcases h with h | ⟨⟨⟨h1, h2⟩, h3⟩, h4⟩
  · exact .inl h
  · exact .inr ⟨⟨⟨h1, h2⟩, by omega⟩, h4⟩
omit hb in
theorem wordsb_snoc {a : List UInt8} {c : UInt8} (h : words b a = true) (hc : isL c = true) : words b (a ++ [c]) = true := by
  refine words_yes fun k hk => ?_
  rcases Nat.lt_or_ge k a.length with g | g
  · exact wAt_appendb _ g (words_at h k g)
  · obtain rfl : k = a.length := by simp at hk; omega
    unfold wAt
    have := getD_right a [c] 0
    rw [Nat.add_zero] at this
    rw [this]; simp [hc]
theorem wordsb_last {a : List UInt8} (h : words b a = true) (hne : a ≠ []) : a.getD (a.length - 1) 0 ≠ b := by
  have hl : 0 < a.length := List.length_pos_iff.2 hne
  have := words_at h (a.length - 1) (by omega)
  unfold wAt at this
  simp only [Bool.or_eq_true, Bool.and_eq_true, decide_eq_true_eq] at this
  rcases this with g | ⟨⟨_, g⟩, _⟩
  · exact isL_neb hb g
  · omega
theorem wordsb_gap {a : List UInt8} {c : UInt8} (h : words b a = true) (hne : a ≠ []) (hc : isL c = true) : words b (a ++ [b, c]) = true := by
  have hl : 0 < a.length := List.length_pos_iff.2 hne
  refine words_yes fun k hk => ?_
  rcases Nat.lt_or_ge k a.length with g | g
  · exact wAt_appendb _ g (words_at h k g)
  · have hk' : k = a.length ∨ k = a.length + 1 := by simp at hk; omega
    unfold wAt
    rcases hk' with rfl | rfl
    · have e1 := getD_right a [b, c] 0
      rw [Nat.add_zero] at e1
      rw [e1, getD_left a _ (a.length - 1) (by omega)]
      have hn : (a.getD (a.length - 1) 0 == b) = false := by rw [beq_eq_false_iff_ne]; exact wordsb_last hb h hne
      unfold bne
      rw [hn]; simp [hl]
    · rw [getD_right a [b, c] 1]; simp [hc]
omit hb in
theorem wordsb_letters {a m : List UInt8} (h : words b a = true) (hm : m.all isL = true) : words b (a ++ m) = true := by
  induction m generalizing a with
  | nil => simpa using h
  | cons c r ih =>
    simp only [List.all_cons, Bool.and_eq_true] at hm
    have := ih (wordsb_snoc h hm.1) hm.2
    simpa using this
/-- A further word. -/
theorem wordsb_word {a m : List UInt8} (h : words b a = true) (hne : a ≠ []) (hm : m.all isL = true) (hm' : m ≠ []) : words b (a ++ [b] ++ m) = true := by
  cases m with
  | nil => exact absurd rfl hm'
  | cons c r =>
    simp only [List.all_cons, Bool.and_eq_true] at hm
    have := wordsb_letters (wordsb_gap hb h hne hm.1) hm.2
    simpa using this
omit hb in
theorem wordsb_cons {a : List UInt8} {c : UInt8} (h : words b a = true) (hc : isL c = true) : words b (c :: a) = true := by
  refine words_yes fun k hk => ?_
  cases k with
  | zero => simp [wAt, hc]
  | succ k =>
    have hk' : k < a.length := by simpa using hk
    have := words_at h k hk'
    unfold wAt at *
    have e1 : (c :: a).getD (k + 1) 0 = a.getD k 0 := by simp [List.getD]
    rw [e1]
    simp only [Bool.or_eq_true, Bool.and_eq_true, decide_eq_true_eq, List.length_cons, Nat.add_sub_cancel] at *
    rcases this with h | ⟨⟨⟨h1, h2⟩, h3⟩, h4⟩
    · exact .inl h
    · refine .inr ⟨⟨⟨h1, by omega⟩, by omega⟩, ?_⟩
      obtain ⟨j, rfl⟩ : ∃ j, k = j + 1 := ⟨k - 1, by omega⟩
      have e2 : (c :: a).getD (j + 1) 0 = a.getD j 0 := by simp [List.getD]
      rw [e2]; exact h4
end
theorem words_mem {b : UInt8} {a : List UInt8} (h : words b a = true) {c : UInt8} (hc : c ∈ a) : isL c = true ∨ c = b := by
  obtain ⟨k, hk, rfl⟩ := List.getElem_of_mem hc
  have := words_at h k hk
  unfold wAt at this
  rw [getD_eq _ _ hk] at this
  simp only [Bool.or_eq_true, Bool.and_eq_true, beq_iff_eq] at this
  rcases this with h | ⟨⟨⟨h, _⟩, _⟩, _⟩
  · exact .inl h
  · exact .inr h
theorem sub_getD {a : List UInt8} (k : Nat) (hk : k < a.length) : (sub 32 60 a).getD k 0 = if a.getD k 0 = 32 then 60 else a.getD k 0 := by
  rw [getD_eq _ _ (by rw [sub_length]; exact hk), getD_eq _ _ hk]
  simp [sub]
theorem words_sub {a : List UInt8} (h : words 32 a = true) : words 60 (sub 32 60 a) = true := by
  refine words_yes fun k hk => ?_
  rw [sub_length] at hk
  have := words_at h k hk
  unfold wAt at *
  rw [sub_getD k hk, sub_getD (k - 1) (by omega), sub_length]
  simp only [Bool.or_eq_true, Bool.and_eq_true, decide_eq_true_eq, beq_iff_eq, bne_iff_ne] at *
  rcases this with h' | ⟨⟨⟨h1, h2⟩, h3⟩, h4⟩
  · left; rw [if_neg]; exact h'; exact isL_neb (by decide) h'
  · refine .inr ⟨⟨⟨by rw [if_pos h1], h2⟩, h3⟩, ?_⟩
    rw [if_neg h4]
    have hm : a.getD (k - 1) 0 ∈ a := by rw [getD_eq _ _ (by omega)]; exact List.getElem_mem _
    rcases words_mem h hm with g | g
    · exact isL_neb (by decide) g
    · exact absurd g h4
theorem sub_back {a : List UInt8} (h : words 32 a = true) : sub 60 32 (sub 32 60 a) = a := by
  unfold sub
  rw [List.map_map]
  have : ∀ c ∈ a, ((fun c => if (c == 60) = true then 32 else c) ∘ fun c => if (c == 32) = true then 60 else c) c = c := fun c hc => by
    rcases words_mem h hc with g | g
    · have h1 := isL_neb (b := 32) (by decide) g
      have h2 := isL_neb (b := 60) (by decide) g
      simp [h1, h2]
    · subst g; simp
  conv => rhs; rw [← List.map_id a]
  exact List.map_congr_left this
theorem words_take {a : List UInt8} {m : Nat} (h : words 60 a = true) (hm : m ≤ a.length) (hl : m = 0 ∨ a.getD (m - 1) 0 ≠ 60) : words 60 (a.take m) = true := by
  refine words_yes fun k hk => ?_
  have hk' : k < m := by simp at hk; omega
  have e : ∀ j, j < m → (a.take m).getD j 0 = a.getD j 0 := fun j hj => by
    rw [getD_eq _ _ (by simp; omega), getD_eq _ _ (by omega)]; simp
  have := words_at h k (by omega)
  unfold wAt at *
  rw [e k hk', e (k - 1) (by omega)]
  simp only [Bool.or_eq_true, Bool.and_eq_true, decide_eq_true_eq, beq_iff_eq, bne_iff_ne] at *
  rcases this with h' | ⟨⟨⟨h1, h2⟩, h3⟩, h4⟩
  · exact .inl h'
  · refine .inr ⟨⟨⟨h1, h2⟩, ?_⟩, h4⟩
    rcases Nat.lt_or_ge (k + 1) m with g | g
    · simp; omega
    · obtain rfl : m = k + 1 := by omega
      rcases hl with hl | hl
      · omega
      · rw [Nat.add_sub_cancel] at hl; exact absurd h1 hl
theorem drop_nil : ∀ l : List UInt8, l.dropWhile (· == (60 : UInt8)) = [] → ∀ x ∈ l, x = 60
  | [], _ => fun _ h => by cases h
  | c :: r, h => by
    by_cases e : c = 60
    · subst e
      rw [List.dropWhile_cons_of_pos (by decide)] at h
      intro x hx
      rcases List.mem_cons.1 hx with g | g
      · exact g
      · exact drop_nil r h x g
    · rw [List.dropWhile_cons_of_neg (by simpa using e)] at h; cases h
theorem trim_head {c : UInt8} (l : List UInt8) (h : c ≠ 60) : trimRightB (c :: l) 60 ≠ [] := by
  unfold trimRightB
  intro e
  rw [List.reverse_eq_nil_iff] at e
  exact h (drop_nil _ e c (by simp))
theorem trim_front (m l : List UInt8) (h : trimRightB l 60 ≠ []) : trimRightB (m ++ l) 60 = m ++ trimRightB l 60 := by
  unfold trimRightB at *
  rw [List.reverse_append, List.dropWhile_append, if_neg, List.reverse_append, List.reverse_reverse]
  simpa using h
theorem trim_fill (m : List UInt8) : ∀ k, trimRightB (m ++ List.replicate k 60) 60 = trimRightB m 60
  | 0 => by simp
  | k + 1 => by rw [List.replicate_succ', ← List.append_assoc, trim_snoc, trim_fill m k]
theorem trim_words {a : List UInt8} (h : words 60 a = true) : trimRightB a 60 = a := by
  by_cases ha : a = []
  · rw [ha]; rfl
  · have hl : 0 < a.length := List.length_pos_iff.2 ha
    have e : a = a.take (a.length - 1) ++ [a.getD (a.length - 1) 0] := by
      rw [getD_eq _ _ (by omega), ← List.take_succ_eq_append_getElem (by omega), show a.length - 1 + 1 = a.length by omega, List.take_length]
    conv => lhs; rw [e]
    rw [trim_stop _ _ (words_last h ha), ← e]
/-- The beginning of words. -/
theorem trim_begin {a : List UInt8} (h : words 60 a = true) (n : Nat) (hn : 1 ≤ n) (hn' : n ≤ a.length) : ∃ m, 1 ≤ m ∧ m ≤ n ∧ trimRightB (a.take n) 60 = a.take m ∧ words 60 (a.take m) = true := by
  obtain ⟨m, hm, e, hl⟩ := trim_take (a.take n)
  have hm' : m ≤ n := by simp at hm; omega
  have hne : trimRightB (a.take n) 60 ≠ [] := by
    cases a with
    | nil => simp at hn'; omega
    | cons c r =>
      obtain ⟨n', rfl⟩ : ∃ n', n = n' + 1 := ⟨n - 1, by omega⟩
      rw [List.take_succ_cons]
      apply trim_head
      have := words_at h 0 (by simp)
      simp [wAt] at this
      exact isL_ne this
  have e2 : (a.take n).take m = a.take m := by rw [List.take_take, Nat.min_eq_left hm']
  have hm1 : 1 ≤ m := by
    rcases Nat.eq_zero_or_pos m with h0 | h0
    · subst h0; rw [e] at hne; simp at hne
    · exact h0
  refine ⟨m, hm1, hm', by rw [e, e2], words_take h (by omega) (.inr ?_)⟩
  rcases hl with hl | hl
  · omega
  · have : (a.take n).getD (m - 1) 0 = a.getD (m - 1) 0 := by
      rw [getD_eq _ _ (by simp; omega), getD_eq _ _ (by omega)]; simp
    rwa [this] at hl
theorem chars_words {a : List UInt8} (h : words 60 a = true) : chars a = true := by
  refine List.all_eq_true.2 fun c hc => ?_
  rcases words_mem h hc with g | g
  · simp [fchar, g]
  · subst g; decide
theorem chars_append (a b : List UInt8) : chars (a ++ b) = (chars a && chars b) := by simp [chars]
theorem chars_take {a : List UInt8} (h : chars a = true) (n : Nat) : chars (a.take n) = true := List.all_eq_true.2 fun x hx => List.all_eq_true.1 h x (List.mem_of_mem_take hx)
theorem chars_fill (n : Nat) : chars (List.replicate n 60) = true := List.all_eq_true.2 fun x hx => by rw [(List.mem_replicate.1 hx).2]; decide

/-- The field of names. -/
def fld (a b : List UInt8) (w : Nat) : List UInt8 := (nmL a b ++ List.replicate w 60).take w
theorem fld_length (a b : List UInt8) (w : Nat) : (fld a b w).length = w := by unfold fld; simp
theorem nmL_length (a b : List UInt8) : (nmL a b).length = a.length + (if b = [] then 0 else 2 + b.length) := by
  unfold nmL
  split
  · rw [sub_length]; omega
  · simp [sub_length]; omega
theorem nmL_chars {a b : List UInt8} (ha : words 32 a = true) (hb : words 32 b = true) : chars (nmL a b) = true := by
  unfold nmL
  split
  · exact chars_words (words_sub ha)
  · rw [chars_append, chars_append, chars_words (words_sub ha), chars_words (words_sub hb)]; decide
theorem fld_chars {a b : List UInt8} (ha : words 32 a = true) (hb : words 32 b = true) (w : Nat) : chars (fld a b w) = true := by
  unfold fld
  refine chars_take ?_ w
  rw [chars_append, nmL_chars ha hb, chars_fill]; rfl
theorem sub_ne {x y : UInt8} {a : List UInt8} (h : a ≠ []) : sub x y a ≠ [] := by
  cases a with
  | nil => exact absurd rfl h
  | cons c r => simp [sub]
/-- The names fit. -/
theorem fld_fits {a b : List UInt8} (ha : words 32 a = true) (hne : a ≠ []) (hb : words 32 b = true) (w : Nat) (hw : (nmL a b).length ≤ w) :
    trimRightB (fld a b w) 60 = nmL a b ∧ spl (nmL a b) = some (a, b) := by
  have e : fld a b w = nmL a b ++ List.replicate (w - (nmL a b).length) 60 := by
    unfold fld
    rw [List.take_append, List.take_of_length_le hw, List.take_replicate]
    congr 2; omega
  have wa := words_sub ha; have wb := words_sub hb
  refine ⟨?_, ?_⟩
  · rw [e, trim_fill]
    unfold nmL
    split
    · exact trim_words wa
    · rename_i hbn
      have := trim_words wb
      rw [← List.append_assoc, trim_front _ _ (by rw [this]; exact sub_ne hbn), this]
  · unfold nmL
    split
    · rename_i hbn
      rw [spl_one wa (sub_ne hne), sub_back ha, hbn]
    · rename_i hbn
      have := spl_two wa (sub_ne hne) wb (sub_ne hbn)
      simp only [List.cons_append, List.nil_append]
      rw [this, sub_back ha, sub_back hb]
theorem sub_take (x y : UInt8) (a : List UInt8) (n : Nat) : sub x y (a.take n) = (sub x y a).take n := by simp [sub]
/-- The names do not fit. -/
theorem fld_short {a b : List UInt8} (ha : words 32 a = true) (hne : a ≠ []) (hb : words 32 b = true) (w : Nat) (hw1 : 1 ≤ w) (hw : w < (nmL a b).length) :
    ∃ x y, spl (trimRightB (fld a b w) 60) = some (x, y) ∧ x.length ≤ a.length ∧ a.take x.length = x := by
  have e : fld a b w = (nmL a b).take w := by
    unfold fld
    rw [List.take_append, Nat.sub_eq_zero_of_le (Nat.le_of_lt hw), List.take_zero, List.append_nil]
  have wa := words_sub ha; have wb := words_sub hb
  have hla : (sub 32 60 a).length = a.length := sub_length _ _ _
  rw [e]
  by_cases h1 : w ≤ a.length
  · have e1 : (nmL a b).take w = (sub 32 60 a).take w := by
      unfold nmL; split
      · rfl
      · rw [List.take_append_of_le_length (by omega)]
    obtain ⟨m, m1, m2, m3, m4⟩ := trim_begin wa w hw1 (by omega)
    have hl : ((sub 32 60 a).take m).length = m := by simp; omega
    rw [e1, m3, spl_one m4 (by intro e; rw [e] at hl; simp at hl; omega)]
    refine ⟨_, _, rfl, ?_, ?_⟩
    · rw [sub_length, hl]; omega
    · rw [sub_length, hl, sub_take, sub_back ha]
  · have hbn : b ≠ [] := by
      rintro rfl
      rw [nmL_length] at hw; simp at hw; omega
    have e0 : nmL a b = sub 32 60 a ++ ([60, 60] ++ sub 32 60 b) := by unfold nmL; rw [if_neg hbn]
    have e1 : (nmL a b).take w = sub 32 60 a ++ ([60, 60] ++ sub 32 60 b).take (w - a.length) := by
      rw [e0, List.take_append, List.take_of_length_le (by omega), hla]
    rw [nmL_length, if_neg hbn] at hw
    by_cases h2 : w - a.length ≤ 2
    · have e2 : ([60, 60] ++ sub 32 60 b).take (w - a.length) = List.replicate (w - a.length) 60 := by
        have : w - a.length = 1 ∨ w - a.length = 2 := by omega
        rcases this with h | h <;> rw [h] <;> rfl
      rw [e1, e2, trim_fill, trim_words wa, spl_one wa (sub_ne hne)]
      exact ⟨_, _, rfl, by rw [sub_back ha]; omega, by rw [sub_back ha, List.take_length]⟩
    · have e2 : ([60, 60] ++ sub 32 60 b).take (w - a.length) = [60, 60] ++ (sub 32 60 b).take (w - a.length - 2) := by
        rw [List.take_append, List.take_of_length_le (by simp; omega)]; simp
      have hlb : (sub 32 60 b).length = b.length := sub_length _ _ _
      obtain ⟨m, m1, m2, m3, m4⟩ := trim_begin wb (w - a.length - 2) (by omega) (by omega)
      have hl : ((sub 32 60 b).take m).length = m := by simp; omega
      have hne' : (sub 32 60 b).take m ≠ [] := by intro e; rw [e] at hl; simp at hl; omega
      rw [e1, e2, ← List.append_assoc, trim_front _ _ (by rw [m3]; exact hne'), m3]
      have := spl_two wa (sub_ne hne) m4 hne'
      simp only [List.append_assoc, List.cons_append, List.nil_append]
      rw [this]
      exact ⟨_, _, rfl, by rw [sub_back ha]; omega, by rw [sub_back ha, List.take_length]⟩
end Go.Proofs.YtelngghecmkipaaGreatDoor.Opt

namespace Go.Proofs.YtelngghecmkipaaGreatDoor
open Go.RowKit

namespace Made
def nm : List (List UInt8) := [[65], [69, 82, 73, 75, 83, 83, 79, 78], [77, 65, 82, 73, 65], [68, 69], [76, 79, 83], [79, 75], [86, 65, 78, 68, 69, 82, 86, 65, 76, 75], [90, 90]]
def nmAt (j : Nat) : List UInt8 := nm.getD j []
def nmV (j : Nat) : Value := .string ⟨(nmAt j).toArray⟩
theorem nm_ok (j : Nat) (h : j < 8) : (nmAt j).all Opt.isL = true ∧ nmAt j ≠ [] ∧ (nmAt j).length ≤ 10 :=
  (by decide : ∀ j : Fin 8, (nmAt j.1).all Opt.isL = true ∧ nmAt j.1 ≠ [] ∧ (nmAt j.1).length ≤ 10) ⟨j, h⟩
end Made
def NamePost (B g : Nat) (most : Int) (w : World) (e : Ending) (w' : World) : Prop := ∃ l : List UInt8, Opt.words 32 l = true ∧ (l.length : Int) ≤ 11 * most ∧ e = .returned (.string ⟨l.toArray⟩) ∧ DiceAt B g w' ∧ w.grownBy w' (some g)
def NameRel (B g : Nat) (most : Int) (w : World) (s i : Value) (wr : World) : Prop := ∃ (k : Nat) (l : List UInt8), i = .int .i64 k ∧ s = .string ⟨l.toArray⟩ ∧ Opt.words 32 l = true ∧ (l.length : Int) + 11 * k ≤ 11 * most ∧
  wr.rowIs w.heap.size 98 8 Made.nmV ∧ DiceAt B g wr ∧ w.grownBy wr (some g)
theorem row_grown {w w' : World} {b g n : Nat} {t : TypeId} {f : Nat → Value} (h : w.rowIs b t n f) (hg : w.grownBy w' (some g)) (hne : b ≠ g) (hb : b < w.heap.size) : w'.rowIs b t n f := by
  have e := hg.block b hb (by intro e; injection e with e; exact hne e)
  simpa [World.rowIs, e] using h

set_option maxRecDepth 100000 in
set_option maxHeartbeats 1000000 in
theorem made_name (B g : Nat) (most : Int) (w : World) (hd : DiceAt B g w) (h1 : 1 ≤ most) (h2 : most ≤ 100) :
    Calls Tryz.prog 42 #[.pointer (some ⟨g, 0, none⟩), .int .i64 most] w (NamePost B g most w) := by
  have hgw := hd.lt
  go_enter Tryz.func42, Tryz.ntmps42
  have q0 : IntKind.i64.wrap (most + 1) = most + 1 := IntWalk.i64_in _ (by omega)
  go_wp2_with fail
  have hba := (Below.refl (w.heap.size) w).alloc (Nat.le_refl _) (.cells #[.string ⟨#[65]⟩, .string ⟨#[69, 82, 73, 75, 83, 83, 79, 78]⟩, .string ⟨#[77, 65, 82, 73, 65]⟩, .string ⟨#[68, 69]⟩, .string ⟨#[76, 79, 83]⟩, .string ⟨#[79, 75]⟩, .string ⟨#[86, 65, 78, 68, 69, 82, 86, 65, 76, 75]⟩, .string ⟨#[90, 90]⟩] 98)
  have hrow : (w.alloc (.cells #[.string ⟨#[65]⟩, .string ⟨#[69, 82, 73, 75, 83, 83, 79, 78]⟩, .string ⟨#[77, 65, 82, 73, 65]⟩, .string ⟨#[68, 69]⟩, .string ⟨#[76, 79, 83]⟩, .string ⟨#[79, 75]⟩, .string ⟨#[86, 65, 78, 68, 69, 82, 86, 65, 76, 75]⟩, .string ⟨#[90, 90]⟩] 98)).rowIs w.heap.size 98 8 Made.nmV :=
    World.rowIs_alloc _ _ _ _ (by
      intro i hi
      have : i = 0 ∨ i = 1 ∨ i = 2 ∨ i = 3 ∨ i = 4 ∨ i = 5 ∨ i = 6 ∨ i = 7 := by simp at hi; omega
      rcases this with rfl | rfl | rfl | rfl | rfl | rfl | rfl | rfl <;> rfl)
  have hga := World.grownBy_alloc w (.cells #[.string ⟨#[65]⟩, .string ⟨#[69, 82, 73, 75, 83, 83, 79, 78]⟩, .string ⟨#[77, 65, 82, 73, 65]⟩, .string ⟨#[68, 69]⟩, .string ⟨#[76, 79, 83]⟩, .string ⟨#[79, 75]⟩, .string ⟨#[86, 65, 78, 68, 69, 82, 86, 65, 76, 75]⟩, .string ⟨#[90, 90]⟩] 98) (some g)
  have hda := hd.below hba hgw
  have hsz : w.heap.size < (w.alloc (.cells #[.string ⟨#[65]⟩, .string ⟨#[69, 82, 73, 75, 83, 83, 79, 78]⟩, .string ⟨#[77, 65, 82, 73, 65]⟩, .string ⟨#[68, 69]⟩, .string ⟨#[76, 79, 83]⟩, .string ⟨#[79, 75]⟩, .string ⟨#[86, 65, 78, 68, 69, 82, 86, 65, 76, 75]⟩, .string ⟨#[90, 90]⟩] 98)).heap.size := by
    show _ < (w.heap.push _).size; rw [Array.size_push]; omega
  generalize w.alloc (.cells #[.string ⟨#[65]⟩, .string ⟨#[69, 82, 73, 75, 83, 83, 79, 78]⟩, .string ⟨#[77, 65, 82, 73, 65]⟩, .string ⟨#[68, 69]⟩, .string ⟨#[76, 79, 83]⟩, .string ⟨#[79, 75]⟩, .string ⟨#[86, 65, 78, 68, 69, 82, 86, 65, 76, 75]⟩, .string ⟨#[90, 90]⟩] 98) = wa at hba hrow hga hda hsz ⊢
  refine (made_next B g _ _ hda (by omega) (by omega)).mono ?_; rintro e w1 ⟨v, v1, v2, rfl, hd1, hg1⟩
  have hrow1 := row_grown hrow hg1 (by omega) hsz
  have hgr1 := hga.trans hg1
  clear hba hrow hga hda hg1 q0 hd
  go_wp2_with fail
  go_loopw [6, 7] (NameRel B g most w) (fun _ i _ => (intOf i).toNat)
  case atStart =>
    exact ⟨v.toNat, [], by rw [Int.toNat_of_nonneg v1], rfl, rfl, by simp; omega, hrow1, hd1, hgr1⟩
  case round =>
    obtain ⟨k, l, rfl, rfl, hl, hlen, hrow, hdr, hgr⟩ := hrel
    clear hrow1 hd1 hgr1
    by_cases hk : 0 < k
    · have hbw : w.heap.size < wr.heap.size := by
        rcases Nat.lt_or_ge w.heap.size wr.heap.size with h | h
        · exact h
        · exfalso; have := hrow.cell (i := 0) (by omega); have h3 := World.block_lt_of_cell? _ _ this; exact absurd h3 (by show ¬ w.heap.size < _; omega)
      obtain ⟨S, hS⟩ : ∃ S : ByteArray, (⟨l.toArray⟩ : ByteArray) = S := ⟨_, rfl⟩
      have hSs : S.size = l.length := by rw [← hS, str_size]
      have hSs2 : S.size ≤ 1100 := by omega
      have HSS := Lib.hid hSs
      rw [hS]
      have hem := fun (b : Bool) (h : l.isEmpty = b) => (str_empty (s := S) (l := l) (by rw [← hS]) h).1
      have HEM := Lib.hid hem
      have HS := Lib.hid hS; clear hS hem
      have hone : (⟨#[32]⟩ : ByteArray).size = 1 := rfl
      by_cases he : l = []
      · have e1 := HEM.out true (by rw [he]; rfl)
        have HE := Lib.hid he; clear he
        go_wp2_with fail
        refine (made_next B g _ _ hdr (by omega) (by omega)).mono ?_; rintro e w2 ⟨x, x1, x2, rfl, hd2, hg2⟩
        have hrow2 := row_grown hrow hg2 (by have := hgw; omega) hbw
        have hgr2 := hgr.trans hg2
        have hcell := hrow2.cell (i := x.toNat) (by omega)
        have hok := Made.nm_ok x.toNat (by omega)
        unfold Made.nmV at hcell
        obtain ⟨N, hN⟩ : ∃ N : ByteArray, (⟨(Made.nmAt x.toNat).toArray⟩ : ByteArray) = N := ⟨_, rfl⟩
        have hNs : N.size ≤ 10 := by rw [← hN, str_size]; omega
        rw [hN] at hcell
        have hadd : S ++ N = ⟨(l ++ Made.nmAt x.toNat).toArray⟩ := by rw [← HS.out, ← hN, str_add]
        have hwd : Opt.words 32 (l ++ Made.nmAt x.toNat) = true := Opt.wordsb_letters hl hok.1
        have hln : ((l ++ Made.nmAt x.toNat).length : Int) + 11 * ((k - 1 : Nat) : Int) ≤ 11 * most := by rw [List.length_append]; omega
        have HADD := Lib.hid hadd; have HWD := Lib.hid hwd; have HLN := Lib.hid hln
        have hz : S.size + N.size ≤ 9223372036854775807 := by omega
        clear hN hadd hwd hln hok hrow hg2 hdr hgr HEM
        go_wp2_with fail
        go_roundw
        case rel => exact ⟨k - 1, l ++ Made.nmAt x.toNat, by congr 1; omega, by rw [HADD.out], HWD.out, HLN.out, hrow2, hd2, hgr2⟩
        case measure => simp [intOf]; omega
      · have e1 := HEM.out false (by cases l with | nil => exact absurd rfl he | cons _ _ => rfl)
        have HE := Lib.hid he; clear he
        have hz0 : S.size + (⟨#[32]⟩ : ByteArray).size ≤ 9223372036854775807 := by rw [hone]; omega
        go_wp2_with fail
        refine (made_next B g _ _ hdr (by omega) (by omega)).mono ?_; rintro e w2 ⟨x, x1, x2, rfl, hd2, hg2⟩
        have hrow2 := row_grown hrow hg2 (by have := hgw; omega) hbw
        have hgr2 := hgr.trans hg2
        have hcell := hrow2.cell (i := x.toNat) (by omega)
        have hok := Made.nm_ok x.toNat (by omega)
        unfold Made.nmV at hcell
        obtain ⟨N, hN⟩ : ∃ N : ByteArray, (⟨(Made.nmAt x.toNat).toArray⟩ : ByteArray) = N := ⟨_, rfl⟩
        have hNs : N.size ≤ 10 := by rw [← hN, str_size]; omega
        rw [hN] at hcell
        have hsp : (S ++ (⟨#[32]⟩ : ByteArray)).size ≤ 1101 := by rw [ByteArray.size_append, hone]; omega
        have hadd : S ++ (⟨#[32]⟩ : ByteArray) ++ N = ⟨(l ++ [32] ++ Made.nmAt x.toNat).toArray⟩ := by rw [← HS.out, ← hN, ← str_add, ← str_add]
        have hwd : Opt.words 32 (l ++ [32] ++ Made.nmAt x.toNat) = true := Opt.wordsb_word (by decide) hl HE.out hok.1 hok.2.1
        have hln : ((l ++ [32] ++ Made.nmAt x.toNat).length : Int) + 11 * ((k - 1 : Nat) : Int) ≤ 11 * most := by simp only [List.length_append, List.length_singleton]; omega
        have HWD := Lib.hid hwd; have HLN := Lib.hid hln
        generalize S ++ (⟨#[32]⟩ : ByteArray) = C at hsp hadd ⊢
        have HADD := Lib.hid hadd
        have hz : C.size + N.size ≤ 9223372036854775807 := by omega
        clear hN hadd hwd hln hok hrow hg2 hdr hgr HEM
        go_wp2_with fail
        go_roundw
        case rel => exact ⟨k - 1, l ++ [32] ++ Made.nmAt x.toNat, by congr 1; omega, by rw [HADD.out], HWD.out, HLN.out, hrow2, hd2, hgr2⟩
        case measure => simp [intOf]; omega
    · obtain rfl : k = 0 := by omega
      go_wp2_with fail
      go_ret
      exact ⟨l, hl, by omega, by first | rfl | (simp), hdr, hgr⟩
end Go.Proofs.YtelngghecmkipaaGreatDoor

namespace Go.Proofs.YtelngghecmkipaaGreatDoor
open Go.RowKit
namespace Zn
theorem isDig_of {c : UInt8} (h : Dat.isD c) : isDig c = true := by unfold isDig; rw [decide_eq_true h.1, decide_eq_true h.2]; rfl
theorem isD_ne {c : UInt8} (h : Dat.isD c) : c ≠ 60 := by
  intro e; subst e
  have := h.2
  revert this; decide
theorem pair_of {a b : UInt8} (ha : Dat.isD a) (hb : Dat.isD b) : pair a b = ((10 : Nat) : Int) * Dat.dg a + Dat.dg b := by
  unfold pair
  rw [if_neg (fun h => isD_ne ha h.1), if_pos (by rw [isDig_of ha, isDig_of hb]; rfl)]
  rfl
theorem birth_fmt (n : Int) (h : 0 ≤ n) (h' : n ≤ 73048) : birthB (Dat.fmt n) = true := by
  obtain ⟨⟨g1, g2, g3, g4, g5, g6⟩, _⟩ := Dat.parts_ok n h h'
  have hd := Dat.dim_bd (Dat.yOf n) (Dat.mOf n)
  obtain ⟨hs, ⟨a0, a1, a2, a3, a4, a5⟩, ea, eb, ec⟩ := Dat.fm_digits (Dat.yOf n % 100) (Dat.mOf n) (Dat.dOf n) (by omega) (by omega) (by omega) (Dat.fmt n) rfl
  unfold birthB
  rw [dif_pos hs, pair_of a0 a1, pair_of a2 a3, pair_of a4 a5, ea, eb, ec]
  have p0 : pairOk 0 (Dat.yOf n % 100) = true := by unfold pairOk; rw [if_pos rfl, decide_eq_true_eq]; omega
  have p1 : pairOk 1 (Dat.mOf n) = true := by
    unfold pairOk
    rw [if_neg (by decide), if_pos rfl, Bool.or_eq_true, decide_eq_true_eq]; right; omega
  have p2 : pairOk 2 (Dat.dOf n) = true := by
    unfold pairOk
    rw [if_neg (by decide), if_neg (by decide), Bool.or_eq_true, decide_eq_true_eq]; right; omega
  rw [p0, p1, p2]; rfl
theorem exp_fmt (n : Int) (h : 36524 ≤ n) (h' : n ≤ 72523) : Dat.prE (Dat.fmt n) 2000 = 0 := by
  refine ((Dat.window n 2000 ⟨by omega, by omega⟩ (by decide) (by decide)).1 ?_).2
  unfold Dat.yOf
  rw [if_neg (by omega)]
  omega
theorem sign_ok {c : UInt8} (h : isSign c) : Opt.ok c = true ∧ c ≠ 60 := by
  unfold isSign at h
  constructor
  · unfold Opt.ok Opt.val
    rcases h with h | h
    · rw [if_pos h]; exact decide_eq_true (by omega)
    · rw [if_neg (by omega), if_pos h]; exact decide_eq_true (by omega)
  · intro e; subst e
    revert h; decide
theorem signs_plain {l : List UInt8} (h : ∀ c ∈ l, isSign c) : plain ⟨l.toArray⟩ = true := by
  unfold plain
  refine List.all_eq_true.2 fun c hc => ?_
  have := sign_ok (h c hc)
  rw [this.1, Bool.true_and, bne_iff_ne]
  exact this.2
theorem signs_extra {l : List UInt8} (h : ∀ c ∈ l, isSign c) : extra ⟨l.toArray⟩ = true := by
  unfold extra
  simp only [Bool.and_eq_true, bne_iff_ne]
  refine ⟨List.all_eq_true.2 fun c hc => (sign_ok (h c hc)).1, fun e => ?_, fun e => ?_⟩
  · exact (sign_ok (h 60 (List.mem_of_head? e))).2 rfl
  · exact (sign_ok (h 60 (List.mem_of_getLast? e))).2 rfl
theorem extra_nil : extra ⟨#[]⟩ = true := by decide
/-- What is made is a valid zone. -/
theorem good_made {F : Int} {KD ST SU GI NU NA BI SX EX OP SC : ByteArray} (hF : 1 ≤ F ∧ F ≤ 3) (h1 : letters KD 2 = true) (h2 : letters ST 3 = true) (h3 : Opt.words 32 SU.data.toList = true) (h4 : SU.size ≠ 0) (h5 : Opt.words 32 GI.data.toList = true)
    (h6 : 1 ≤ NU.size ∧ (NU.size : Int) ≤ longest F) (h7 : plain NU = true) (h8 : letters NA 3 = true) (h9 : birthB BI = true) (h10 : sexB SX = true) (h11 : Dat.prE EX 2000 = 0) (h12 : extra OP = true) (h13 : (OP.size : Int) ≤ wide F - (if (9 : Int) < NU.size then (NU.size : Int) - 7 else 0)) (h14 : extra SC = true)
    (h15 : F ≠ 1 → SC.size = 0) (h16 : SC.size ≤ 11) : Good ⟨F, KD, ST, SU, GI, NU, NA, BI, SX, EX, OP, SC⟩ :=
  ⟨hF, h1, h2, h3, h4, h5, by show NU.size ≠ 0; omega, h7, h6.2, h8, h9, h10, h11, h12, h14, h15, by show (OP.size : Int) + (if (9 : Int) < NU.size then (NU.size : Int) - 7 else 0) ≤ wide F; omega, by show (SC.size : Int) ≤ 11; omega⟩
theorem room_nil {F : Int} {n : Nat} (hF : 1 ≤ F ∧ F ≤ 3) (h : (n : Int) ≤ longest F) : (0 : Int) ≤ wide F - (if (9 : Int) < n then (n : Int) - 7 else 0) := by
  have h3 : F = 1 ∨ F = 2 ∨ F = 3 := by omega
  rcases h3 with rfl | rfl | rfl
  · have e1 : longest 1 = 20 := rfl; have e2 : wide 1 = 15 := rfl; rw [e1] at h; rw [e2]; split <;> omega
  · have e1 : longest 2 = 14 := rfl; have e2 : wide 2 = 7 := rfl; rw [e1] at h; rw [e2]; split <;> omega
  · have e1 : longest 3 = 9 := rfl; have e2 : wide 3 = 14 := rfl; rw [e1] at h; rw [e2]; split <;> omega
end Zn
end Go.Proofs.YtelngghecmkipaaGreatDoor

namespace Go.Proofs.YtelngghecmkipaaGreatDoor
open Go.RowKit

theorem ZBox.set {w : World} {g : Nat} {z z' : Zn.Z} (h : ZBox w g z) (i : Nat) (v : Value) (hz : (#[.int .i64 z.fmt, .string z.kind, .string z.state, .string z.sur, .string z.giv, .string z.num, .string z.nat, .string z.birth, .string z.sex, .string z.exp, .string z.opt, .string z.sec] : Array Value).setIfInBounds i v = #[.int .i64 z'.fmt, .string z'.kind, .string z'.state, .string z'.sur, .string z'.giv, .string z'.num, .string z'.nat, .string z'.birth, .string z'.sex, .string z'.exp, .string z'.opt, .string z'.sec]) : ZBox (w.setCell ⟨g, i, none⟩ v) g z' := by
  have := heap_setCell_same w g i _ _ v h
  rw [hz] at this
  exact this
/-- What the maker has made so far: the zone in block g3. -/
def PZ (w : World) (B g g2 g3 : Nat) (z : Zn.Z) (W : World) : Prop := ZBox W g3 z ∧ ZBox W g2 Zn.Z.zero ∧ DiceAt B g W ∧ w.grownBy W (some g) ∧ g < w.heap.size ∧ w.heap.size ≤ g2 ∧ w.heap.size ≤ g3 ∧ g2 ≠ g3
theorem PZ.later {w W W' : World} {B g g2 g3 : Nat} {z : Zn.Z} (h : PZ w B g g2 g3 z W) (hb : Below W.heap.size W W') : PZ w B g g2 g3 z W' :=
  ⟨h.1.later hb, h.2.1.later hb, h.2.2.1.below hb h.2.2.1.lt, grown_trans h.2.2.2.1 (grown_of_below hb _), h.2.2.2.2⟩
theorem PZ.dice {w W W' : World} {B g g2 g3 : Nat} {z : Zn.Z} (h : PZ w B g g2 g3 z W) (hd : DiceAt B g W') (hg : W.grownBy W' (some g)) : PZ w B g g2 g3 z W' :=
  ⟨h.1.grown hg (by have := h.2.2.2.2; simp; omega), h.2.1.grown hg (by have := h.2.2.2.2; simp; omega), hd, grown_trans h.2.2.2.1 hg, h.2.2.2.2⟩
theorem PZ.set {w W : World} {B g g2 g3 : Nat} {z : Zn.Z} (h : PZ w B g g2 g3 z W) (i : Nat) (v : Value) (z' : Zn.Z) (hz : (#[.int .i64 z.fmt, .string z.kind, .string z.state, .string z.sur, .string z.giv, .string z.num, .string z.nat, .string z.birth, .string z.sex, .string z.exp, .string z.opt, .string z.sec] : Array Value).setIfInBounds i v = #[.int .i64 z'.fmt, .string z'.kind, .string z'.state, .string z'.sur, .string z'.giv, .string z'.num, .string z'.nat, .string z'.birth, .string z'.sex, .string z'.exp, .string z'.opt, .string z'.sec]) :
    PZ w B g g2 g3 z' (W.setCell ⟨g3, i, none⟩ v) := by
  obtain ⟨h1, h2, h3, h4, h5, h6, h7, h8⟩ := h
  have hb : Below w.heap.size W (W.setCell ⟨g3, i, none⟩ v) := (Below.refl _ _).setCell (p := ⟨g3, i, none⟩) h7 v
  exact ⟨h1.set i v hz, (Below.heap_setCell W ⟨g3, i, none⟩ v g2 h8).trans h2, h3.below hb (by omega), ⟨hb.os.trans h4.os, hb.tape.trans h4.tape, hb.output.trans h4.output, Nat.le_trans h4.size hb.size, fun j hj hne => (hb.block j (by omega)).trans (h4.block j hj hne)⟩, h5, h6, h7, h8⟩
theorem PZ.frees {w W : World} {B g g2 g3 : Nat} {z : Zn.Z} (h : PZ w B g g2 g3 z W) : W.frozen? ⟨g3, 0, none⟩ = false ∧ W.frozen? ⟨g3, 1, none⟩ = false ∧ W.frozen? ⟨g3, 2, none⟩ = false ∧ W.frozen? ⟨g3, 3, none⟩ = false ∧ W.frozen? ⟨g3, 4, none⟩ = false ∧ W.frozen? ⟨g3, 5, none⟩ = false ∧ W.frozen? ⟨g3, 6, none⟩ = false ∧ W.frozen? ⟨g3, 7, none⟩ = false ∧ W.frozen? ⟨g3, 8, none⟩ = false ∧ W.frozen? ⟨g3, 9, none⟩ = false ∧ W.frozen? ⟨g3, 10, none⟩ = false ∧ W.frozen? ⟨g3, 11, none⟩ = false :=
  ⟨frozen_of_row W g3 0 _ _ h.1, frozen_of_row W g3 1 _ _ h.1, frozen_of_row W g3 2 _ _ h.1, frozen_of_row W g3 3 _ _ h.1, frozen_of_row W g3 4 _ _ h.1, frozen_of_row W g3 5 _ _ h.1, frozen_of_row W g3 6 _ _ h.1, frozen_of_row W g3 7 _ _ h.1, frozen_of_row W g3 8 _ _ h.1, frozen_of_row W g3 9 _ _ h.1, frozen_of_row W g3 10 _ _ h.1, frozen_of_row W g3 11 _ _ h.1⟩
theorem PZ.frees2 {w W : World} {B g g2 g3 : Nat} {z : Zn.Z} (h : PZ w B g g2 g3 z W) : W.frozen? ⟨g2, 0, none⟩ = false ∧ W.frozen? ⟨g2, 1, none⟩ = false ∧ W.frozen? ⟨g2, 2, none⟩ = false ∧ W.frozen? ⟨g2, 3, none⟩ = false ∧ W.frozen? ⟨g2, 4, none⟩ = false ∧ W.frozen? ⟨g2, 5, none⟩ = false ∧ W.frozen? ⟨g2, 6, none⟩ = false ∧ W.frozen? ⟨g2, 7, none⟩ = false ∧ W.frozen? ⟨g2, 8, none⟩ = false ∧ W.frozen? ⟨g2, 9, none⟩ = false ∧ W.frozen? ⟨g2, 10, none⟩ = false ∧ W.frozen? ⟨g2, 11, none⟩ = false :=
  ⟨frozen_of_row W g2 0 _ _ h.2.1, frozen_of_row W g2 1 _ _ h.2.1, frozen_of_row W g2 2 _ _ h.2.1, frozen_of_row W g2 3 _ _ h.2.1, frozen_of_row W g2 4 _ _ h.2.1, frozen_of_row W g2 5 _ _ h.2.1, frozen_of_row W g2 6 _ _ h.2.1, frozen_of_row W g2 7 _ _ h.2.1, frozen_of_row W g2 8 _ _ h.2.1, frozen_of_row W g2 9 _ _ h.2.1, frozen_of_row W g2 10 _ _ h.2.1, frozen_of_row W g2 11 _ _ h.2.1⟩
/-- What is made of a zone. -/
def ZonePost (B g : Nat) (w : World) (e : Ending) (w' : World) : Prop := ∃ z : Zn.Z, e = .returned z.val ∧ (Zn.Good z ∧ z.sur.size ≤ 33 ∧ z.giv.size ≤ 33) ∧ DiceAt B g w' ∧ w.grownBy w' (some g)
theorem results_zone (tmps : Array Value) (w : World) (g : Nat) (z : Zn.Z) (ha : tmps.getD 2 undef = .pointer (some ⟨g, 0, none⟩)) (h : ZBox w g z) :
    (results Tryz.f14 tmps).run Tryz.prog w = .ok z.val w := by
  have hp' : tmps[2]?.getD undef = .pointer (some ⟨g, 0, none⟩) := by simpa using ha
  simp [results, hp', asAddr, run_loadVar_row (P := Tryz.prog) w g _ _ _ _ _ h Tryz.underlying24 rfl Tryz.infoZone, Zn.Z.val]
theorem zone_ret {tmps : Array Value} {w W : World} {B g g2 g3 : Nat} {z : Zn.Z} (h : PZ w B g g2 g3 z W) (hg : Zn.Good z ∧ z.sur.size ≤ 33 ∧ z.giv.size ≤ 33) (ha : tmps.getD 2 undef = .pointer (some ⟨g2, 0, none⟩)) :
    bodyPost Tryz.prog Tryz.f14 (ZonePost B g w) Exit.ret { tmps := tmps, defers := [] } (zset W g2 z) := by
  obtain ⟨h1, h2, h3, h4, h5, h6, h7, h8⟩ := h
  have hb : Below w.heap.size W (zset W g2 z) := zset_below (Below.refl _ W) h6 z
  refine bodyPost_ret (results_zone _ _ g2 z ha (zset_box h2 z)) rfl ⟨z, rfl, hg, h3.below hb (by omega), ?_⟩
  exact ⟨hb.os.trans h4.os, hb.tape.trans h4.tape, hb.output.trans h4.output, Nat.le_trans h4.size hb.size, fun j hj hne => (hb.block j (by omega)).trans (h4.block j hj hne)⟩
theorem Zn.longest_le (F : Int) : Zn.longest F ≤ 20 := by
  unfold Zn.longest; repeat' split
  all_goals omega
theorem Zn.wide_bd (F : Int) : 7 ≤ Zn.wide F ∧ Zn.wide F ≤ 15 := by
  unfold Zn.wide; repeat' split
  all_goals omega
theorem Zn.most_ok {F m : Int} (hF : 1 ≤ F ∧ F ≤ 3) (h : m = 9 ∨ m = 14 ∧ F = 2) : 9 ≤ m ∧ m ≤ Zn.longest F := by
  have h3 : F = 1 ∨ F = 2 ∨ F = 3 := by omega
  have e1 : Zn.longest 1 = 20 := rfl; have e2 : Zn.longest 2 = 14 := rfl; have e3 : Zn.longest 3 = 9 := rfl
  rcases h3 with rfl | rfl | rfl <;> omega
theorem ret_sub0 (a : Int) : Value.int .i64 a = .int .i64 (a - 0) := by rw [Int.sub_zero]
theorem PZ.gne {w W : World} {B g g2 g3 : Nat} {z : Zn.Z} (h : PZ w B g g2 g3 z W) : W.heap.size ≠ g := by have := h.2.2.1.lt; omega
theorem pick_text {W0 W1 : World} {g ga : Nat} {KS : List ByteArray} {P : ByteArray → Bool} (hr : TextsAt W0 (some ⟨ga, 0, none⟩) KS) (hg : W0.grownBy W1 (some g)) (hlt : ga < W0.heap.size) (hne : ga ≠ g) (k : Nat) (hk : k < KS.length) (hP : KS.all P = true) :
    ∃ s, W1.cell? ⟨ga, k, none⟩ = some (.string s) ∧ P s = true := by
  obtain ⟨b, off, e, hc⟩ := hr.cell k hk
  injection e with e
  injection e with e1 e2
  subst e1; subst e2
  rw [Nat.zero_add] at hc
  refine ⟨KS[k], ?_, List.all_eq_true.1 hP _ (List.getElem_mem hk)⟩
  exact (World.cell?_of_block (a := ⟨ga, k, none⟩) (hg.block ga hlt (by intro e; injection e with e; exact hne e))).trans hc
def OnePost (B g : Nat) (w : World) (e : Ending) (w' : World) : Prop := ∃ b : Bool, e = .returned (.bool b) ∧ DiceAt B g w' ∧ w.grownBy w' (some g)
theorem made_one (B g : Nat) (m : Int) (w : World) (hd : DiceAt B g w) (h1 : 1 ≤ m) (h2 : m ≤ 100000) :
    Calls Tryz.prog 25 #[.pointer (some ⟨g, 0, none⟩), .int .i64 m] w (OnePost B g w) := by
  have HN := Lib.hid (made_next B g m w hd h1 (by omega))
  clear hd
  go_enter Tryz.func25, Tryz.ntmps25
  go_wp2_with fail
  refine HN.out.mono ?_; rintro e w1 ⟨v, v1, v2, rfl, hd1, hg1⟩
  go_wp2_with fail
  go_ret
  exact ⟨_, rfl, hd1, hg1⟩
def DayPost (B g : Nat) (w : World) (e : Ending) (w' : World) : Prop := ∃ n : Int, 0 ≤ n ∧ n ≤ 73048 ∧ e = .returned (.int .i64 n) ∧ DiceAt B g w' ∧ w.grownBy w' (some g)
theorem made_day (B g : Nat) (w : World) (hd : DiceAt B g w) :
    Calls Tryz.prog 45 #[.pointer (some ⟨g, 0, none⟩)] w (DayPost B g w) := by
  have HN := Lib.hid (made_next B g 243 w hd (by decide) (by decide))
  clear hd
  go_enter Tryz.func45, Tryz.ntmps45
  go_wp2_with fail
  refine HN.out.mono ?_; rintro e w1 ⟨v, v1, v2, rfl, hd1, hg1⟩
  have HG := Lib.hid hg1
  clear hg1
  go_wp2_with fail
  refine (made_next B g 300 w1 hd1 (by decide) (by decide)).mono ?_; rintro e w2 ⟨u, u1, u2, rfl, hd2, hg2⟩
  have HG2 := Lib.hid (HG.out.trans hg2)
  clear hg2
  go_wp2_with fail
  go_ret
  exact ⟨v * 300 + u, by omega, by omega, rfl, hd2, HG2.out⟩
set_option maxRecDepth 100000 in
set_option maxHeartbeats 16000000 in
theorem made_zone (B g : Nat) (w : World) (hd : DiceAt B g w) :
    Calls Tryz.prog 14 #[.pointer (some ⟨g, 0, none⟩)] w (ZonePost B g w) := by
  have hgw := hd.lt
  have hx2 : ZBox (w.alloc (.cells #[.int .i64 0, .string ⟨#[]⟩, .string ⟨#[]⟩, .string ⟨#[]⟩, .string ⟨#[]⟩, .string ⟨#[]⟩, .string ⟨#[]⟩, .string ⟨#[]⟩, .string ⟨#[]⟩, .string ⟨#[]⟩, .string ⟨#[]⟩, .string ⟨#[]⟩] 24)) w.heap.size Zn.Z.zero := ZBox.new w Zn.Z.zero
  have ha := below_alloc1 w (.cells #[.int .i64 0, .string ⟨#[]⟩, .string ⟨#[]⟩, .string ⟨#[]⟩, .string ⟨#[]⟩, .string ⟨#[]⟩, .string ⟨#[]⟩, .string ⟨#[]⟩, .string ⟨#[]⟩, .string ⟨#[]⟩, .string ⟨#[]⟩, .string ⟨#[]⟩] 24)
  have hd0 := hd.below ha hgw
  have hga := grown_of_below ha (some g)
  clear hd ha
  go_enter Tryz.func14, Tryz.ntmps14
  go_upto_region 1 with fail
  generalize w.alloc (.cells #[.int .i64 0, .string ⟨#[]⟩, .string ⟨#[]⟩, .string ⟨#[]⟩, .string ⟨#[]⟩, .string ⟨#[]⟩, .string ⟨#[]⟩, .string ⟨#[]⟩, .string ⟨#[]⟩, .string ⟨#[]⟩, .string ⟨#[]⟩, .string ⟨#[]⟩] 24) = W0 at hx2 hd0 hga ⊢
  obtain ⟨g2, hg2⟩ : ∃ q, w.heap.size = q := ⟨_, rfl⟩
  rw [hg2] at hx2 ⊢
  have HG2 := Lib.hid hg2
  clear hg2
  go_wp2_with fail
  refine (made_next B g 3 _ hd0 (by decide) (by decide)).mono ?_; rintro e W1 ⟨v, v1, v2, rfl, hd1, hg1⟩
  have HX := Lib.hid (hx2.grown hg1 (by have := HG2.out; simp; omega))
  have HGA := Lib.hid (hga.trans hg1)
  clear hx2 hd0 hga hg1
  obtain ⟨F, hF⟩ : ∃ F : Int, 1 + v = F := ⟨_, rfl⟩
  have hF3 : 1 ≤ F ∧ F ≤ 3 := by omega
  go_upto_region 2 with fail
  have hb := below_alloc1 W1 (.cells #[.int .i64 F, .string ⟨#[]⟩, .string ⟨#[]⟩, .string ⟨#[]⟩, .string ⟨#[]⟩, .string ⟨#[]⟩, .string ⟨#[]⟩, .string ⟨#[]⟩, .string ⟨#[]⟩, .string ⟨#[]⟩, .string ⟨#[]⟩, .string ⟨#[]⟩] 24)
  have hp : PZ w B g g2 W1.heap.size (⟨F, ⟨#[]⟩, ⟨#[]⟩, ⟨#[]⟩, ⟨#[]⟩, ⟨#[]⟩, ⟨#[]⟩, ⟨#[]⟩, ⟨#[]⟩, ⟨#[]⟩, ⟨#[]⟩, ⟨#[]⟩⟩ : Zn.Z) (W1.alloc (.cells #[.int .i64 F, .string ⟨#[]⟩, .string ⟨#[]⟩, .string ⟨#[]⟩, .string ⟨#[]⟩, .string ⟨#[]⟩, .string ⟨#[]⟩, .string ⟨#[]⟩, .string ⟨#[]⟩, .string ⟨#[]⟩, .string ⟨#[]⟩, .string ⟨#[]⟩] 24)) :=
    ⟨ZBox.new W1 (⟨F, ⟨#[]⟩, ⟨#[]⟩, ⟨#[]⟩, ⟨#[]⟩, ⟨#[]⟩, ⟨#[]⟩, ⟨#[]⟩, ⟨#[]⟩, ⟨#[]⟩, ⟨#[]⟩, ⟨#[]⟩⟩ : Zn.Z), HX.out.later hb, hd1.below hb hd1.lt, grown_trans HGA.out (grown_of_below hb _), hgw, Nat.le_of_eq HG2.out, HGA.out.size, Nat.ne_of_lt HX.out.lt⟩
  clear hb hd1 v1 v2 HX
  generalize W1.alloc (.cells #[.int .i64 F, .string ⟨#[]⟩, .string ⟨#[]⟩, .string ⟨#[]⟩, .string ⟨#[]⟩, .string ⟨#[]⟩, .string ⟨#[]⟩, .string ⟨#[]⟩, .string ⟨#[]⟩, .string ⟨#[]⟩, .string ⟨#[]⟩, .string ⟨#[]⟩] 24) = W at hp ⊢
  obtain ⟨g3, hg3⟩ : ∃ q, W1.heap.size = q := ⟨_, rfl⟩
  rw [hg3] at hp ⊢
  have HG3 := Lib.hid hg3
  have HF3 := Lib.hid hF3
  clear hg3 hF
  have hgne : W.heap.size ≠ g := hp.gne
  go_wp2_with fail
  have hr : TextsAt (W.alloc (.cells #[.string ⟨#[80]⟩, .string ⟨#[73, 68]⟩, .string ⟨#[86]⟩, .string ⟨#[65, 67]⟩] 9)) (some ⟨W.heap.size, 0, none⟩) [⟨#[80]⟩, ⟨#[73, 68]⟩, ⟨#[86]⟩, ⟨#[65, 67]⟩] := texts_new11 W _
  replace hp := hp.later (below_alloc1 W (.cells #[.string ⟨#[80]⟩, .string ⟨#[73, 68]⟩, .string ⟨#[86]⟩, .string ⟨#[65, 67]⟩] 9))
  have hlt : W.heap.size < (W.alloc (.cells #[.string ⟨#[80]⟩, .string ⟨#[73, 68]⟩, .string ⟨#[86]⟩, .string ⟨#[65, 67]⟩] 9)).heap.size := by rw [size_alloc1]; omega
  have hne : W.heap.size ≠ g := hgne
  generalize W.alloc (.cells #[.string ⟨#[80]⟩, .string ⟨#[73, 68]⟩, .string ⟨#[86]⟩, .string ⟨#[65, 67]⟩] 9) = W0 at hr hp hlt ⊢
  generalize W.heap.size = ga at hr hlt hne ⊢
  clear hgne W
  refine (made_next B g 4 _ hp.2.2.1 (by decide) (by decide)).mono ?_; rintro e W1 ⟨v, v1, v2, rfl, hd1, hg1⟩
  replace hp := hp.dice hd1 hg1
  obtain ⟨k, rfl⟩ := Int.eq_ofNat_of_zero_le v1
  obtain ⟨KD, hcell, hKD⟩ := pick_text (P := fun s => Zn.letters s 2) hr hg1 hlt hne k (by simp; omega) (by decide)
  have HKD := Lib.hid hKD
  clear hKD hr hlt hne hd1 hg1 v1
  obtain ⟨x0, x1, x2, x3, x4, x5, x6, x7, x8, x9, x10, x11⟩ := hp.1.cells
  obtain ⟨f0, f1, f2, f3, f4, f5, f6, f7, f8, f9, f10, f11⟩ := hp.frees
  go_upto_region 3 with fail
  have hp' : PZ w B g g2 g3 (⟨F, KD, ⟨#[]⟩, ⟨#[]⟩, ⟨#[]⟩, ⟨#[]⟩, ⟨#[]⟩, ⟨#[]⟩, ⟨#[]⟩, ⟨#[]⟩, ⟨#[]⟩, ⟨#[]⟩⟩ : Zn.Z) (W1.setCell ⟨g3, 1, none⟩ (.string KD)) := hp.set 1 _ _ rfl
  clear hp x0 x1 x2 x3 x4 x5 x6 x7 x8 x9 x10 x11 f0 f1 f2 f3 f4 f5 f6 f7 f8 f9 f10 f11
  generalize W1.setCell ⟨g3, 1, none⟩ (.string KD) = W at hp' ⊢
  have hp := hp'
  clear hp'
  have hgne : W.heap.size ≠ g := hp.gne
  clear hcell v2
  go_wp2_with fail
  have hr : TextsAt (W.alloc (.cells #[.string ⟨#[85, 84, 79]⟩, .string ⟨#[68]⟩, .string ⟨#[88, 88]⟩, .string ⟨#[65, 66, 67]⟩] 9)) (some ⟨W.heap.size, 0, none⟩) [⟨#[85, 84, 79]⟩, ⟨#[68]⟩, ⟨#[88, 88]⟩, ⟨#[65, 66, 67]⟩] := texts_new11 W _
  replace hp := hp.later (below_alloc1 W (.cells #[.string ⟨#[85, 84, 79]⟩, .string ⟨#[68]⟩, .string ⟨#[88, 88]⟩, .string ⟨#[65, 66, 67]⟩] 9))
  have hlt : W.heap.size < (W.alloc (.cells #[.string ⟨#[85, 84, 79]⟩, .string ⟨#[68]⟩, .string ⟨#[88, 88]⟩, .string ⟨#[65, 66, 67]⟩] 9)).heap.size := by rw [size_alloc1]; omega
  have hne : W.heap.size ≠ g := hgne
  generalize W.alloc (.cells #[.string ⟨#[85, 84, 79]⟩, .string ⟨#[68]⟩, .string ⟨#[88, 88]⟩, .string ⟨#[65, 66, 67]⟩] 9) = W0 at hr hp hlt ⊢
  generalize W.heap.size = ga at hr hlt hne ⊢
  clear hgne W
  refine (made_next B g 4 _ hp.2.2.1 (by decide) (by decide)).mono ?_; rintro e W1 ⟨v, v1, v2, rfl, hd1, hg1⟩
  replace hp := hp.dice hd1 hg1
  obtain ⟨k, rfl⟩ := Int.eq_ofNat_of_zero_le v1
  obtain ⟨ST, hcell, hST⟩ := pick_text (P := fun s => Zn.letters s 3) hr hg1 hlt hne k (by simp; omega) (by decide)
  have HST := Lib.hid hST
  clear hST hr hlt hne hd1 hg1 v1
  obtain ⟨x0, x1, x2, x3, x4, x5, x6, x7, x8, x9, x10, x11⟩ := hp.1.cells
  obtain ⟨f0, f1, f2, f3, f4, f5, f6, f7, f8, f9, f10, f11⟩ := hp.frees
  go_upto_region 4 with fail
  have hp' : PZ w B g g2 g3 (⟨F, KD, ST, ⟨#[]⟩, ⟨#[]⟩, ⟨#[]⟩, ⟨#[]⟩, ⟨#[]⟩, ⟨#[]⟩, ⟨#[]⟩, ⟨#[]⟩, ⟨#[]⟩⟩ : Zn.Z) (W1.setCell ⟨g3, 2, none⟩ (.string ST)) := hp.set 2 _ _ rfl
  clear hp x0 x1 x2 x3 x4 x5 x6 x7 x8 x9 x10 x11 f0 f1 f2 f3 f4 f5 f6 f7 f8 f9 f10 f11
  generalize W1.setCell ⟨g3, 2, none⟩ (.string ST) = W at hp' ⊢
  have hp := hp'
  clear hp'
  have hgne : W.heap.size ≠ g := hp.gne
  clear hcell v2
  go_wp2_with fail
  have hr : TextsAt (W.alloc (.cells #[.string ⟨#[85, 84, 79]⟩, .string ⟨#[68]⟩, .string ⟨#[88, 88]⟩, .string ⟨#[65, 66, 67]⟩] 9)) (some ⟨W.heap.size, 0, none⟩) [⟨#[85, 84, 79]⟩, ⟨#[68]⟩, ⟨#[88, 88]⟩, ⟨#[65, 66, 67]⟩] := texts_new11 W _
  replace hp := hp.later (below_alloc1 W (.cells #[.string ⟨#[85, 84, 79]⟩, .string ⟨#[68]⟩, .string ⟨#[88, 88]⟩, .string ⟨#[65, 66, 67]⟩] 9))
  have hlt : W.heap.size < (W.alloc (.cells #[.string ⟨#[85, 84, 79]⟩, .string ⟨#[68]⟩, .string ⟨#[88, 88]⟩, .string ⟨#[65, 66, 67]⟩] 9)).heap.size := by rw [size_alloc1]; omega
  have hne : W.heap.size ≠ g := hgne
  generalize W.alloc (.cells #[.string ⟨#[85, 84, 79]⟩, .string ⟨#[68]⟩, .string ⟨#[88, 88]⟩, .string ⟨#[65, 66, 67]⟩] 9) = W0 at hr hp hlt ⊢
  generalize W.heap.size = ga at hr hlt hne ⊢
  clear hgne W
  refine (made_next B g 4 _ hp.2.2.1 (by decide) (by decide)).mono ?_; rintro e W1 ⟨v, v1, v2, rfl, hd1, hg1⟩
  replace hp := hp.dice hd1 hg1
  obtain ⟨k, rfl⟩ := Int.eq_ofNat_of_zero_le v1
  obtain ⟨NA, hcell, hNA⟩ := pick_text (P := fun s => Zn.letters s 3) hr hg1 hlt hne k (by simp; omega) (by decide)
  have HNA := Lib.hid hNA
  clear hNA hr hlt hne hd1 hg1 v1
  obtain ⟨x0, x1, x2, x3, x4, x5, x6, x7, x8, x9, x10, x11⟩ := hp.1.cells
  obtain ⟨f0, f1, f2, f3, f4, f5, f6, f7, f8, f9, f10, f11⟩ := hp.frees
  go_upto_region 5 with fail
  have hp' : PZ w B g g2 g3 (⟨F, KD, ST, ⟨#[]⟩, ⟨#[]⟩, ⟨#[]⟩, NA, ⟨#[]⟩, ⟨#[]⟩, ⟨#[]⟩, ⟨#[]⟩, ⟨#[]⟩⟩ : Zn.Z) (W1.setCell ⟨g3, 6, none⟩ (.string NA)) := hp.set 6 _ _ rfl
  clear hp x0 x1 x2 x3 x4 x5 x6 x7 x8 x9 x10 x11 f0 f1 f2 f3 f4 f5 f6 f7 f8 f9 f10 f11
  generalize W1.setCell ⟨g3, 6, none⟩ (.string NA) = W at hp' ⊢
  have hp := hp'
  clear hp'
  have hgne : W.heap.size ≠ g := hp.gne
  clear hcell v2
  go_wp2_with fail
  refine (made_name B g 2 _ hp.2.2.1 (by decide) (by decide)).mono ?_; rintro e W1 ⟨l, hl, hln, rfl, hd1, hg1⟩
  replace hp := hp.dice hd1 hg1
  obtain ⟨SU, hSU⟩ : ∃ q : ByteArray, (⟨l.toArray⟩ : ByteArray) = q := ⟨_, rfl⟩
  have HSU := Lib.hid (show Opt.words 32 SU.data.toList = true ∧ SU.size ≤ 33 by rw [← hSU]; exact ⟨hl, by rw [arr_size]; omega⟩)
  rw [hSU]
  clear hl hln hd1 hg1 hSU
  go_wp2_with fail
  refine (made_name B g 3 _ hp.2.2.1 (by decide) (by decide)).mono ?_; rintro e W1 ⟨l, hl, hln, rfl, hd1, hg1⟩
  replace hp := hp.dice hd1 hg1
  obtain ⟨GI, hGI⟩ : ∃ q : ByteArray, (⟨l.toArray⟩ : ByteArray) = q := ⟨_, rfl⟩
  have HGI := Lib.hid (show Opt.words 32 GI.data.toList = true ∧ GI.size ≤ 33 by rw [← hGI]; exact ⟨hl, by rw [arr_size]; omega⟩)
  rw [hGI]
  clear hl hln hd1 hg1 hGI
  obtain ⟨x0, x1, x2, x3, x4, x5, x6, x7, x8, x9, x10, x11⟩ := hp.1.cells
  obtain ⟨f0, f1, f2, f3, f4, f5, f6, f7, f8, f9, f10, f11⟩ := hp.frees
  go_upto_region 6 with fail
  have hp' : PZ w B g g2 g3 (⟨F, KD, ST, SU, ⟨#[]⟩, ⟨#[]⟩, NA, ⟨#[]⟩, ⟨#[]⟩, ⟨#[]⟩, ⟨#[]⟩, ⟨#[]⟩⟩ : Zn.Z) (W1.setCell ⟨g3, 3, none⟩ (.string SU)) := hp.set 3 _ _ rfl
  have hp2 : PZ w B g g2 g3 (⟨F, KD, ST, SU, GI, ⟨#[]⟩, NA, ⟨#[]⟩, ⟨#[]⟩, ⟨#[]⟩, ⟨#[]⟩, ⟨#[]⟩⟩ : Zn.Z) ((W1.setCell ⟨g3, 3, none⟩ (.string SU)).setCell ⟨g3, 4, none⟩ (.string GI)) := hp'.set 4 _ _ rfl
  clear hp hp' x0 x1 x2 x3 x4 x5 x6 x7 x8 x9 x10 x11 f0 f1 f2 f3 f4 f5 f6 f7 f8 f9 f10 f11 hgne
  generalize (W1.setCell ⟨g3, 3, none⟩ (.string SU)).setCell ⟨g3, 4, none⟩ (.string GI) = W2 at hp2 ⊢
  have hp := hp2
  clear hp2
  obtain ⟨x0, x1, x2, x3, x4, x5, x6, x7, x8, x9, x10, x11⟩ := hp.1.cells
  obtain ⟨f0, f1, f2, f3, f4, f5, f6, f7, f8, f9, f10, f11⟩ := hp.frees
  go_upto_if 38 with fail
  go_cut [0] from 36 to 39 (fun q W' => q = .pointer (some ⟨g, 0, none⟩) ∧ ∃ S : ByteArray, (Opt.words 32 S.data.toList = true ∧ S.size ≠ 0 ∧ S.size ≤ 33) ∧ PZ w B g g2 g3 (⟨F, KD, ST, S, GI, ⟨#[]⟩, NA, ⟨#[]⟩, ⟨#[]⟩, ⟨#[]⟩, ⟨#[]⟩, ⟨#[]⟩⟩ : Zn.Z) W')
  case first =>
    by_cases hs : SU.size = 0
    · obtain ⟨e2, e3, e4⟩ := (empty_is2 SU).1 hs
      rw [e2]
      clear e2 e3 e4
      go_wp2_with fail
      go_meet
      exact ⟨rfl, ⟨#[79, 75]⟩, ⟨by decide, by decide, by decide⟩, hp.set 3 _ _ rfl⟩
    · obtain ⟨e2, e3, e4⟩ := (empty_is2 SU).2 hs
      rw [e2]
      clear e2 e3 e4
      go_wp2_with fail
      go_meet
      exact ⟨rfl, SU, ⟨HSU.out.1, hs, HSU.out.2⟩, hp⟩
  case rest =>
  clear hp x0 x1 x2 x3 x4 x5 x6 x7 x8 x9 x10 x11 f0 f1 f2 f3 f4 f5 f6 f7 f8 f9 f10 f11 HSU
  obtain ⟨rfl, S, hS, hp⟩ := hcut
  have HSN := Lib.hid hS
  clear hS
  obtain ⟨x0, x1, x2, x3, x4, x5, x6, x7, x8, x9, x10, x11⟩ := hp.1.cells
  go_upto_region 9 with fail
  go_cut [46] from 40 to 45 (fun q W' => ∃ b : Bool, q = .bool b ∧ (b = true → F = 2) ∧ PZ w B g g2 g3 (⟨F, KD, ST, S, GI, ⟨#[]⟩, NA, ⟨#[]⟩, ⟨#[]⟩, ⟨#[]⟩, ⟨#[]⟩, ⟨#[]⟩⟩ : Zn.Z) W')
  case first =>
    by_cases h2 : F = 2
    · have e1 : ((F : Int) == 2) = true := by rw [beq_iff_eq]; exact h2
      have H2 := Lib.hid h2
      clear h2
      go_wp2_with fail
      refine (made_one B g 3 _ hp.2.2.1 (by decide) (by decide)).mono ?_; rintro e W1 ⟨b, rfl, hd1, hg1⟩
      have hp1 := hp.dice hd1 hg1
      clear hd1 hg1 e1 hp x0 x1 x2 x3 x4 x5 x6 x7 x8 x9 x10 x11
      go_wp2_with fail
      go_meet
      exact ⟨b, rfl, fun _ => H2.out, hp1⟩
    · have e1 : ((F : Int) == 2) = false := by rw [beq_eq_false_iff_ne]; exact h2
      clear h2
      go_wp2_with fail
      go_meet
      exact ⟨false, rfl, fun h => (by cases h), hp⟩
  case rest =>
  clear hp x0 x1 x2 x3 x4 x5 x6 x7 x8 x9 x10 x11
  obtain ⟨b, rfl, hb, hp⟩ := hcut
  have HBF := Lib.hid hb
  clear hb
  go_upto_if 46 with fail
  go_cut [4] from 46 to 46 (fun q W' => ∃ m : Int, q = .int .i64 m ∧ (m = 9 ∨ m = 14 ∧ F = 2) ∧ PZ w B g g2 g3 (⟨F, KD, ST, S, GI, ⟨#[]⟩, NA, ⟨#[]⟩, ⟨#[]⟩, ⟨#[]⟩, ⟨#[]⟩, ⟨#[]⟩⟩ : Zn.Z) W')
  case first =>
    cases b
    · go_wp2_with fail
      go_meet
      exact ⟨9, rfl, .inl rfl, hp⟩
    · go_wp2_with fail
      go_meet
      exact ⟨14, rfl, .inr ⟨rfl, HBF.out (by trivial)⟩, hp⟩
  case rest =>
  clear hp HBF b
  obtain ⟨m, rfl, hm, hp⟩ := hcut
  have HM := Lib.hid hm
  clear hm
  obtain ⟨x0, x1, x2, x3, x4, x5, x6, x7, x8, x9, x10, x11⟩ := hp.1.cells
  go_upto_region 11 with fail
  go_cut [53] from 47 to 52 (fun q W' => ∃ b : Bool, q = .bool b ∧ (b = true → F = 1) ∧ PZ w B g g2 g3 (⟨F, KD, ST, S, GI, ⟨#[]⟩, NA, ⟨#[]⟩, ⟨#[]⟩, ⟨#[]⟩, ⟨#[]⟩, ⟨#[]⟩⟩ : Zn.Z) W')
  case first =>
    by_cases h2 : F = 1
    · have e1 : ((F : Int) == 1) = true := by rw [beq_iff_eq]; exact h2
      have H2 := Lib.hid h2
      clear h2
      go_wp2_with fail
      refine (made_one B g 3 _ hp.2.2.1 (by decide) (by decide)).mono ?_; rintro e W1 ⟨b, rfl, hd1, hg1⟩
      have hp1 := hp.dice hd1 hg1
      clear hd1 hg1 e1 hp x0 x1 x2 x3 x4 x5 x6 x7 x8 x9 x10 x11
      go_wp2_with fail
      go_meet
      exact ⟨b, rfl, fun _ => H2.out, hp1⟩
    · have e1 : ((F : Int) == 1) = false := by rw [beq_eq_false_iff_ne]; exact h2
      clear h2
      go_wp2_with fail
      go_meet
      exact ⟨false, rfl, fun h => (by cases h), hp⟩
  case rest =>
  clear hp x0 x1 x2 x3 x4 x5 x6 x7 x8 x9 x10 x11
  obtain ⟨b, rfl, hb, hp⟩ := hcut
  have HBF := Lib.hid hb
  clear hb
  go_upto_if 53 with fail
  go_cut [4] from 53 to 53 (fun q W' => ∃ m : Int, q = .int .i64 m ∧ (9 ≤ m ∧ m ≤ Zn.longest F) ∧ PZ w B g g2 g3 (⟨F, KD, ST, S, GI, ⟨#[]⟩, NA, ⟨#[]⟩, ⟨#[]⟩, ⟨#[]⟩, ⟨#[]⟩, ⟨#[]⟩⟩ : Zn.Z) W')
  case first =>
    have hlo : 9 ≤ m ∧ m ≤ Zn.longest F := Zn.most_ok HF3.out HM.out
    have HLO := Lib.hid hlo
    clear hlo
    cases b
    · go_wp2_with fail
      go_meet
      exact ⟨m, rfl, HLO.out, hp⟩
    · go_wp2_with fail
      go_meet
      exact ⟨20, rfl, by rw [HBF.out (by trivial)]; exact ⟨by decide, by decide⟩, hp⟩
  case rest =>
  clear hp HBF b HM m
  obtain ⟨m, rfl, hm, hp⟩ := hcut
  have hm20 : 9 ≤ m ∧ m ≤ 20 := ⟨hm.1, Int.le_trans hm.2 (Zn.longest_le F)⟩
  have HM := Lib.hid hm
  clear hm
  go_wp2_with fail
  refine (made_signs B g m _ hp.2.2.1 (by omega) (by omega)).mono ?_; rintro e W1 ⟨l, hl1, hlm, hls, rfl, hd1, hg1⟩
  replace hp := hp.dice hd1 hg1
  obtain ⟨NU, hNU⟩ : ∃ q : ByteArray, (⟨l.toArray⟩ : ByteArray) = q := ⟨_, rfl⟩
  have hnz : NU.size = l.length := by rw [← hNU]; exact arr_size l
  have HNP := Lib.hid (show Zn.plain NU = true by rw [← hNU]; exact Zn.signs_plain hls)
  have HNZ := Lib.hid (show 1 ≤ NU.size ∧ (NU.size : Int) ≤ Zn.longest F from ⟨by omega, Int.le_trans (by omega) HM.out.2⟩)
  have hn20 : NU.size ≤ 20 := by omega
  rw [hNU]
  clear hl1 hlm hls hd1 hg1 hNU hnz hm20 HM
  obtain ⟨x0, x1, x2, x3, x4, x5, x6, x7, x8, x9, x10, x11⟩ := hp.1.cells
  obtain ⟨f0, f1, f2, f3, f4, f5, f6, f7, f8, f9, f10, f11⟩ := hp.frees
  go_upto_region 14 with fail
  have hp' : PZ w B g g2 g3 (⟨F, KD, ST, S, GI, NU, NA, ⟨#[]⟩, ⟨#[]⟩, ⟨#[]⟩, ⟨#[]⟩, ⟨#[]⟩⟩ : Zn.Z) (W1.setCell ⟨g3, 5, none⟩ (.string NU)) := hp.set 5 _ _ rfl
  clear hp x0 x1 x2 x3 x4 x5 x6 x7 x8 x9 x10 x11 f0 f1 f2 f3 f4 f5 f6 f7 f8 f9 f10 f11
  generalize W1.setCell ⟨g3, 5, none⟩ (.string NU) = W at hp' ⊢
  have hp := hp'
  clear hp'
  go_wp2_with fail
  refine (made_day B g _ hp.2.2.1).mono ?_; rintro e W1 ⟨n, n0, n1, rfl, hd1, hg1⟩
  replace hp := hp.dice hd1 hg1
  clear hd1 hg1
  go_wp2_with fail
  refine (rformat_yes n W1 n0 n1).mono ?_; rintro e W2 ⟨rfl, hb2⟩
  replace hp := hp.later hb2
  obtain ⟨BI, hBI⟩ : ∃ q : ByteArray, Dat.fmt n = q := ⟨_, rfl⟩
  have HBI := Lib.hid (show Zn.birthB BI = true by rw [← hBI]; exact Zn.birth_fmt n n0 n1)
  rw [hBI]
  clear hb2 hBI n0 n1
  obtain ⟨x0, x1, x2, x3, x4, x5, x6, x7, x8, x9, x10, x11⟩ := hp.1.cells
  obtain ⟨f0, f1, f2, f3, f4, f5, f6, f7, f8, f9, f10, f11⟩ := hp.frees
  go_upto_region 16 with fail
  have hp' : PZ w B g g2 g3 (⟨F, KD, ST, S, GI, NU, NA, BI, ⟨#[]⟩, ⟨#[]⟩, ⟨#[]⟩, ⟨#[]⟩⟩ : Zn.Z) (W2.setCell ⟨g3, 7, none⟩ (.string BI)) := hp.set 7 _ _ rfl
  clear hp x0 x1 x2 x3 x4 x5 x6 x7 x8 x9 x10 x11 f0 f1 f2 f3 f4 f5 f6 f7 f8 f9 f10 f11
  generalize W2.setCell ⟨g3, 7, none⟩ (.string BI) = W at hp' ⊢
  have hp := hp'
  clear hp'
  go_wp2_with fail
  refine (made_one B g 5 _ hp.2.2.1 (by decide) (by decide)).mono ?_; rintro e W1 ⟨b, rfl, hd1, hg1⟩
  replace hp := hp.dice hd1 hg1
  clear hd1 hg1
  go_upto_if 67 with fail
  go_cut [0] from 67 to 73 (fun q W' => q = .pointer (some ⟨g, 0, none⟩) ∧ ∃ BJ : ByteArray, Zn.birthB BJ = true ∧ PZ w B g g2 g3 (⟨F, KD, ST, S, GI, NU, NA, BJ, ⟨#[]⟩, ⟨#[]⟩, ⟨#[]⟩, ⟨#[]⟩⟩ : Zn.Z) W')
  case first =>
    cases b
    · go_wp2_with fail
      go_meet
      exact ⟨rfl, BI, HBI.out, hp⟩
    · have hgne : W1.heap.size ≠ g := hp.gne
      go_wp2_with fail
      have hr : TextsAt (W1.alloc (.cells #[.string ⟨#[60, 60, 60, 60, 60, 60]⟩, .string ⟨#[56, 53, 60, 60, 60, 60]⟩, .string ⟨#[56, 53, 49, 50, 60, 60]⟩, .string ⟨#[60, 60, 48, 49, 51, 49]⟩, .string ⟨#[48, 48, 48, 50, 60, 60]⟩] 9)) (some ⟨W1.heap.size, 0, none⟩) [⟨#[60, 60, 60, 60, 60, 60]⟩, ⟨#[56, 53, 60, 60, 60, 60]⟩, ⟨#[56, 53, 49, 50, 60, 60]⟩, ⟨#[60, 60, 48, 49, 51, 49]⟩, ⟨#[48, 48, 48, 50, 60, 60]⟩] := texts_new11 W1 _
      replace hp := hp.later (below_alloc1 W1 (.cells #[.string ⟨#[60, 60, 60, 60, 60, 60]⟩, .string ⟨#[56, 53, 60, 60, 60, 60]⟩, .string ⟨#[56, 53, 49, 50, 60, 60]⟩, .string ⟨#[60, 60, 48, 49, 51, 49]⟩, .string ⟨#[48, 48, 48, 50, 60, 60]⟩] 9))
      have hlt : W1.heap.size < (W1.alloc (.cells #[.string ⟨#[60, 60, 60, 60, 60, 60]⟩, .string ⟨#[56, 53, 60, 60, 60, 60]⟩, .string ⟨#[56, 53, 49, 50, 60, 60]⟩, .string ⟨#[60, 60, 48, 49, 51, 49]⟩, .string ⟨#[48, 48, 48, 50, 60, 60]⟩] 9)).heap.size := by rw [size_alloc1]; omega
      generalize W1.alloc (.cells #[.string ⟨#[60, 60, 60, 60, 60, 60]⟩, .string ⟨#[56, 53, 60, 60, 60, 60]⟩, .string ⟨#[56, 53, 49, 50, 60, 60]⟩, .string ⟨#[60, 60, 48, 49, 51, 49]⟩, .string ⟨#[48, 48, 48, 50, 60, 60]⟩] 9) = W0 at hr hp hlt ⊢
      generalize W1.heap.size = ga at hr hlt hgne ⊢
      refine (made_next B g 5 _ hp.2.2.1 (by decide) (by decide)).mono ?_; rintro e W3 ⟨v, v1, v2, rfl, hd1, hg1⟩
      replace hp := hp.dice hd1 hg1
      obtain ⟨k, rfl⟩ := Int.eq_ofNat_of_zero_le v1
      obtain ⟨BJ, hcell, hBJ⟩ := pick_text (P := fun s => Zn.birthB s) hr hg1 hlt hgne k (by simp; omega) (by decide)
      have HBJ := Lib.hid hBJ
      clear hBJ hr hlt hgne hd1 hg1 v1
      obtain ⟨x0, x1, x2, x3, x4, x5, x6, x7, x8, x9, x10, x11⟩ := hp.1.cells
      obtain ⟨f0, f1, f2, f3, f4, f5, f6, f7, f8, f9, f10, f11⟩ := hp.frees
      go_wp2_with fail
      go_meet
      exact ⟨rfl, BJ, HBJ.out, hp.set 7 _ _ rfl⟩
  case rest =>
  clear hp HBI b
  obtain ⟨rfl, BJ, hBJ, hp⟩ := hcut
  have HBI := Lib.hid hBJ
  have hgne : wc.heap.size ≠ g := hp.gne
  clear hBJ
  obtain ⟨W, hW⟩ : ∃ q, wc = q := ⟨_, rfl⟩
  subst hW
  generalize wc = W at hp hgne ⊢
  go_wp2_with fail
  have hr : TextsAt (W.alloc (.cells #[.string ⟨#[77]⟩, .string ⟨#[70]⟩, .string ⟨#[60]⟩] 9)) (some ⟨W.heap.size, 0, none⟩) [⟨#[77]⟩, ⟨#[70]⟩, ⟨#[60]⟩] := texts_new11 W _
  replace hp := hp.later (below_alloc1 W (.cells #[.string ⟨#[77]⟩, .string ⟨#[70]⟩, .string ⟨#[60]⟩] 9))
  have hlt : W.heap.size < (W.alloc (.cells #[.string ⟨#[77]⟩, .string ⟨#[70]⟩, .string ⟨#[60]⟩] 9)).heap.size := by rw [size_alloc1]; omega
  have hne : W.heap.size ≠ g := hgne
  generalize W.alloc (.cells #[.string ⟨#[77]⟩, .string ⟨#[70]⟩, .string ⟨#[60]⟩] 9) = W0 at hr hp hlt ⊢
  generalize W.heap.size = ga at hr hlt hne ⊢
  clear hgne W
  refine (made_next B g 3 _ hp.2.2.1 (by decide) (by decide)).mono ?_; rintro e W1 ⟨v, v1, v2, rfl, hd1, hg1⟩
  replace hp := hp.dice hd1 hg1
  obtain ⟨k, rfl⟩ := Int.eq_ofNat_of_zero_le v1
  obtain ⟨SX, hcell, hSX⟩ := pick_text (P := fun s => Zn.sexB s) hr hg1 hlt hne k (by simp; omega) (by decide)
  have HSX := Lib.hid hSX
  clear hSX hr hlt hne hd1 hg1 v1
  obtain ⟨x0, x1, x2, x3, x4, x5, x6, x7, x8, x9, x10, x11⟩ := hp.1.cells
  obtain ⟨f0, f1, f2, f3, f4, f5, f6, f7, f8, f9, f10, f11⟩ := hp.frees
  go_upto_region 19 with fail
  have hp' : PZ w B g g2 g3 (⟨F, KD, ST, S, GI, NU, NA, BJ, SX, ⟨#[]⟩, ⟨#[]⟩, ⟨#[]⟩⟩ : Zn.Z) (W1.setCell ⟨g3, 8, none⟩ (.string SX)) := hp.set 8 _ _ rfl
  clear hp x0 x1 x2 x3 x4 x5 x6 x7 x8 x9 x10 x11 f0 f1 f2 f3 f4 f5 f6 f7 f8 f9 f10 f11
  generalize W1.setCell ⟨g3, 8, none⟩ (.string SX) = W at hp' ⊢
  have hp := hp'
  clear hp'
  have hgne : W.heap.size ≠ g := hp.gne
  clear hcell v2
  go_wp2_with fail
  refine (made_next B g 36000 _ hp.2.2.1 (by decide) (by decide)).mono ?_; rintro e W1 ⟨v, v1, v2, rfl, hd1, hg1⟩
  replace hp := hp.dice hd1 hg1
  clear hd1 hg1
  go_wp2_with fail
  refine (rformat_yes (36524 + v) W1 (by omega) (by omega)).mono ?_; rintro e W2 ⟨rfl, hb2⟩
  replace hp := hp.later hb2
  obtain ⟨EX, hEX⟩ : ∃ q : ByteArray, Dat.fmt (36524 + v) = q := ⟨_, rfl⟩
  have HEX := Lib.hid (show Dat.prE EX 2000 = 0 by rw [← hEX]; exact Zn.exp_fmt _ (by omega) (by omega))
  rw [hEX]
  clear hb2 hEX v1 v2
  obtain ⟨x0, x1, x2, x3, x4, x5, x6, x7, x8, x9, x10, x11⟩ := hp.1.cells
  obtain ⟨f0, f1, f2, f3, f4, f5, f6, f7, f8, f9, f10, f11⟩ := hp.frees
  go_upto_region 20 with fail
  have hp' : PZ w B g g2 g3 (⟨F, KD, ST, S, GI, NU, NA, BJ, SX, EX, ⟨#[]⟩, ⟨#[]⟩⟩ : Zn.Z) (W2.setCell ⟨g3, 9, none⟩ (.string EX)) := hp.set 9 _ _ rfl
  clear hp x0 x1 x2 x3 x4 x5 x6 x7 x8 x9 x10 x11 f0 f1 f2 f3 f4 f5 f6 f7 f8 f9 f10 f11
  generalize W2.setCell ⟨g3, 9, none⟩ (.string EX) = W at hp' ⊢
  have hp := hp'
  clear hp'
  have hix : ∀ w, (Instr.index 37 (.agg #[.int .i64 0, .int .i64 15, .int .i64 7, .int .i64 14]) (.int .i64 F)).run Tryz.prog w = .ok (.int .i64 (Zn.wide F)) w := by
    have h3 : F = 1 ∨ F = 2 ∨ F = 3 := by omega
    intro w
    rcases h3 with rfl | rfl | rfl <;> kernel_rfl
  have hwd := Zn.wide_bd F
  obtain ⟨WF, hWF⟩ : ∃ q, Zn.wide F = q := ⟨_, rfl⟩
  rw [hWF] at hix hwd
  have HWF := Lib.hid hWF
  clear hWF hgne
  obtain ⟨x0, x1, x2, x3, x4, x5, x6, x7, x8, x9, x10, x11⟩ := hp.1.cells
  go_upto_if 95 with fail
  clear hix
  go_cut [7] from 92 to 101 (fun q W' => q = .int .i64 (WF - if (9 : Int) < NU.size then (NU.size : Int) - 7 else 0) ∧ PZ w B g g2 g3 (⟨F, KD, ST, S, GI, NU, NA, BJ, SX, EX, ⟨#[]⟩, ⟨#[]⟩⟩ : Zn.Z) W')
  case first =>
    by_cases h9 : 9 < NU.size
    · have e1 : (9 : Int) < (NU.size : Int) := by omega
      have H9 := Lib.hid e1
      have e2 : IntKind.i64.wrap ((NU.size : Int) - 7) = (NU.size : Int) - 7 := IntWalk.i64_in _ (by omega)
      have e3 : IntKind.i64.wrap (WF - ((NU.size : Int) - 7)) = WF - ((NU.size : Int) - 7) := IntWalk.i64_in _ (by omega)
      clear h9
      go_wp2_with fail
      go_meet
      exact ⟨by rw [if_pos H9.out], hp⟩
    · have e1 : ¬ ((9 : Int) < (NU.size : Int)) := by omega
      have H9 := Lib.hid e1
      clear h9
      go_wp2_with fail
      go_meet
      exact ⟨by rw [if_neg (by have := H9.out; omega)]; exact ret_sub0 _, hp⟩
  case rest =>
  clear hp x0 x1 x2 x3 x4 x5 x6 x7 x8 x9 x10 x11
  obtain ⟨rfl, hp⟩ := hcut
  have hrm : (0 : Int) ≤ WF - (if (9 : Int) < NU.size then (NU.size : Int) - 7 else 0) ∧ WF - (if (9 : Int) < NU.size then (NU.size : Int) - 7 else 0) ≤ 15 := ⟨by rw [← HWF.out]; exact Zn.room_nil HF3.out HNZ.out.2, by split <;> omega⟩
  obtain ⟨RM, hRM⟩ : ∃ q : Int, (WF - if (9 : Int) < NU.size then (NU.size : Int) - 7 else 0) = q := ⟨_, rfl⟩
  rw [hRM] at hrm ⊢
  have HRM := Lib.hid hRM
  clear hRM
  go_upto_region 23 with fail
  go_cut [107] from 102 to 106 (fun q W' => ∃ b : Bool, q = .bool b ∧ (b = true → 0 < RM) ∧ PZ w B g g2 g3 (⟨F, KD, ST, S, GI, NU, NA, BJ, SX, EX, ⟨#[]⟩, ⟨#[]⟩⟩ : Zn.Z) W')
  case first =>
    by_cases h2 : 0 < RM
    · have e1 : decide ((0 : Int) < RM) = true := decide_eq_true h2
      have H2 := Lib.hid h2
      go_wp2_with fail
      refine (made_one B g 2 _ hp.2.2.1 (by decide) (by decide)).mono ?_; rintro e W1 ⟨b, rfl, hd1, hg1⟩
      have hp1 := hp.dice hd1 hg1
      clear hd1 hg1 e1 hp
      go_wp2_with fail
      go_meet
      exact ⟨b, rfl, fun _ => H2.out, hp1⟩
    · have e1 : decide ((0 : Int) < RM) = false := decide_eq_false h2
      go_wp2_with fail
      go_meet
      exact ⟨false, rfl, fun h => (by cases h), hp⟩
  case rest =>
  clear hp
  obtain ⟨b, rfl, hb, hp⟩ := hcut
  have HBF := Lib.hid hb
  clear hb
  go_upto_if 107 with fail
  go_cut [0] from 107 to 111 (fun q W' => q = .pointer (some ⟨g, 0, none⟩) ∧ ∃ OP : ByteArray, (Zn.extra OP = true ∧ (OP.size : Int) ≤ RM) ∧ PZ w B g g2 g3 (⟨F, KD, ST, S, GI, NU, NA, BJ, SX, EX, OP, ⟨#[]⟩⟩ : Zn.Z) W')
  case first =>
    cases b
    · go_wp2_with fail
      go_meet
      exact ⟨rfl, ⟨#[]⟩, ⟨Zn.extra_nil, hrm.1⟩, hp⟩
    · have hr0 := HBF.out (by trivial)
      go_wp2_with fail
      refine (made_signs B g RM _ hp.2.2.1 (by omega) (by omega)).mono ?_; rintro e W1 ⟨l, hl1, hlm, hls, rfl, hd1, hg1⟩
      replace hp := hp.dice hd1 hg1
      obtain ⟨OP, hOP⟩ : ∃ q : ByteArray, (⟨l.toArray⟩ : ByteArray) = q := ⟨_, rfl⟩
      have HOP := Lib.hid (show Zn.extra OP = true ∧ (OP.size : Int) ≤ RM from ⟨by rw [← hOP]; exact Zn.signs_extra hls, by rw [← hOP, arr_size]; exact hlm⟩)
      rw [hOP]
      clear hl1 hlm hls hd1 hg1 hOP
      obtain ⟨x0, x1, x2, x3, x4, x5, x6, x7, x8, x9, x10, x11⟩ := hp.1.cells
      obtain ⟨f0, f1, f2, f3, f4, f5, f6, f7, f8, f9, f10, f11⟩ := hp.frees
      go_wp2_with fail
      go_meet
      exact ⟨rfl, OP, HOP.out, hp.set 10 _ _ rfl⟩
  case rest =>
  clear hp HBF b
  obtain ⟨rfl, OP, hOP, hp⟩ := hcut
  have HOP := Lib.hid hOP
  clear hOP
  obtain ⟨x0, x1, x2, x3, x4, x5, x6, x7, x8, x9, x10, x11⟩ := hp.1.cells
  go_upto_region 25 with fail
  go_cut [118] from 112 to 117 (fun q W' => ∃ b : Bool, q = .bool b ∧ (b = true → F = 1) ∧ PZ w B g g2 g3 (⟨F, KD, ST, S, GI, NU, NA, BJ, SX, EX, OP, ⟨#[]⟩⟩ : Zn.Z) W')
  case first =>
    by_cases h2 : F = 1
    · have e1 : ((F : Int) == 1) = true := by rw [beq_iff_eq]; exact h2
      have H2 := Lib.hid h2
      clear h2
      go_wp2_with fail
      refine (made_one B g 3 _ hp.2.2.1 (by decide) (by decide)).mono ?_; rintro e W1 ⟨b, rfl, hd1, hg1⟩
      have hp1 := hp.dice hd1 hg1
      clear hd1 hg1 e1 hp x0 x1 x2 x3 x4 x5 x6 x7 x8 x9 x10 x11
      go_wp2_with fail
      go_meet
      exact ⟨b, rfl, fun _ => H2.out, hp1⟩
    · have e1 : ((F : Int) == 1) = false := by rw [beq_eq_false_iff_ne]; exact h2
      clear h2
      go_wp2_with fail
      go_meet
      exact ⟨false, rfl, fun h => (by cases h), hp⟩
  case rest =>
  clear hp x0 x1 x2 x3 x4 x5 x6 x7 x8 x9 x10 x11
  obtain ⟨b, rfl, hb, hp⟩ := hcut
  have HBF := Lib.hid hb
  clear hb
  go_upto_if 118 with fail
  go_cut [0] from 118 to 121 (fun q W' => q = .pointer (some ⟨g, 0, none⟩) ∧ ∃ SC : ByteArray, (Zn.extra SC = true ∧ SC.size ≤ 11 ∧ (F ≠ 1 → SC.size = 0)) ∧ PZ w B g g2 g3 (⟨F, KD, ST, S, GI, NU, NA, BJ, SX, EX, OP, SC⟩ : Zn.Z) W')
  case first =>
    cases b
    · go_wp2_with fail
      go_meet
      exact ⟨rfl, ⟨#[]⟩, ⟨Zn.extra_nil, by decide, fun _ => rfl⟩, hp⟩
    · have HF1 := Lib.hid (HBF.out (by trivial))
      go_wp2_with fail
      refine (made_signs B g 11 _ hp.2.2.1 (by decide) (by decide)).mono ?_; rintro e W1 ⟨l, hl1, hlm, hls, rfl, hd1, hg1⟩
      replace hp := hp.dice hd1 hg1
      obtain ⟨SC, hSC⟩ : ∃ q : ByteArray, (⟨l.toArray⟩ : ByteArray) = q := ⟨_, rfl⟩
      have HSC := Lib.hid (show Zn.extra SC = true ∧ SC.size ≤ 11 ∧ (F ≠ 1 → SC.size = 0) from ⟨by rw [← hSC]; exact Zn.signs_extra hls, by rw [← hSC, arr_size]; omega, fun h => absurd HF1.out h⟩)
      rw [hSC]
      clear hl1 hlm hls hd1 hg1 hSC
      obtain ⟨x0, x1, x2, x3, x4, x5, x6, x7, x8, x9, x10, x11⟩ := hp.1.cells
      obtain ⟨f0, f1, f2, f3, f4, f5, f6, f7, f8, f9, f10, f11⟩ := hp.frees
      go_wp2_with fail
      go_meet
      exact ⟨rfl, SC, HSC.out, hp.set 11 _ _ rfl⟩
  case rest =>
  clear hp HBF b
  obtain ⟨rfl, SC, hSC, hp⟩ := hcut
  have HSC := Lib.hid hSC
  clear hSC
  have HG := Lib.hid (Zn.good_made (F := F) (KD := KD) (ST := ST) (SU := S) (GI := GI) (NU := NU) (NA := NA) (BI := BJ) (SX := SX) (EX := EX) (OP := OP) (SC := SC) HF3.out HKD.out HST.out HSN.out.1 HSN.out.2.1 HGI.out.1 HNZ.out HNP.out HNA.out HBI.out HSX.out HEX.out HOP.out.1 (by rw [HWF.out, HRM.out]; exact HOP.out.2) HSC.out.1 HSC.out.2.2 HSC.out.2.1)
  obtain ⟨x0, x1, x2, x3, x4, x5, x6, x7, x8, x9, x10, x11⟩ := hp.1.cells
  obtain ⟨y0, y1, y2, y3, y4, y5, y6, y7, y8, y9, y10, y11⟩ := hp.2.1.cells
  obtain ⟨f0, f1, f2, f3, f4, f5, f6, f7, f8, f9, f10, f11⟩ := hp.frees2
  have HPF := Lib.hid hp
  clear hp
  go_wp2_with fail
  exact zone_ret (z := (⟨F, KD, ST, S, GI, NU, NA, BJ, SX, EX, OP, SC⟩ : Zn.Z)) HPF.out ⟨HG.out, HSN.out.2.2, HGI.out.2⟩ rfl

end Go.Proofs.YtelngghecmkipaaGreatDoor

namespace Go.Proofs.YtelngghecmkipaaGreatDoor
open Go.RowKit

theorem DiceAt.drew1 {B g : Nat} {w : World} (h : DiceAt B g w) : DiceAt B g w.drew := h
theorem grown_undrew {w w' : World} {row : Option Nat} (h : w.drew.grownBy w' row) : w.grownBy w' row := ⟨h.os, h.tape, h.output, h.size, h.block⟩
theorem ext_le (s : ByteArray) (k : Nat) : (s.extract 0 k).size ≤ s.size := by rw [ByteArray.size_extract]; omega
/-- What OddZone gives: a zone whose texts are short. -/
def OddPost (B g : Nat) (w : World) (e : Ending) (w' : World) : Prop := ∃ z : Zn.Z, e = .returned z.val ∧ z.fits 200 ∧ DiceAt B g w' ∧ w.grownBy w' (some g)
theorem results_odd (tmps : Array Value) (w : World) (g : Nat) (z : Zn.Z) (ha : tmps.getD 4 undef = .pointer (some ⟨g, 0, none⟩)) (h : ZBox w g z) :
    (results Tryz.f26 tmps).run Tryz.prog w = .ok z.val w := by
  have hp' : tmps[4]?.getD undef = .pointer (some ⟨g, 0, none⟩) := by simpa using ha
  simp [results, hp', asAddr, run_loadVar_row (P := Tryz.prog) w g _ _ _ _ _ h Tryz.underlying24 rfl Tryz.infoZone, Zn.Z.val]
theorem odd_ret {tmps : Array Value} {w W : World} {B g g2 g3 : Nat} {z : Zn.Z} (h : PZ w B g g2 g3 z W) (hg : z.fits 200) (ha : tmps.getD 4 undef = .pointer (some ⟨g2, 0, none⟩)) :
    bodyPost Tryz.prog Tryz.f26 (OddPost B g w) Exit.ret { tmps := tmps, defers := [] } (zset W g2 z) := by
  obtain ⟨h1, h2, h3, h4, h5, h6, h7, h8⟩ := h
  have hb : Below w.heap.size W (zset W g2 z) := zset_below (Below.refl _ W) h6 z
  refine bodyPost_ret (results_odd _ _ g2 z ha (zset_box h2 z)) rfl ⟨z, rfl, hg, h3.below hb (by omega), ?_⟩
  exact ⟨hb.os.trans h4.os, hb.tape.trans h4.tape, hb.output.trans h4.output, Nat.le_trans h4.size hb.size, fun j hj hne => (hb.block j (by omega)).trans (h4.block j hj hne)⟩
set_option maxRecDepth 100000 in
set_option maxHeartbeats 16000000 in
theorem made_odd (B g : Nat) (z : Zn.Z) (w : World) (hd : DiceAt B g w) (hz : z.fits 100) :
    Calls Tryz.prog 26 #[.pointer (some ⟨g, 0, none⟩), z.val] w (OddPost B g w) := by
  have hgw := hd.lt
  have HZ := Lib.hid hz
  have hx3 : ZBox (w.alloc (.cells #[.int .i64 z.fmt, .string z.kind, .string z.state, .string z.sur, .string z.giv, .string z.num, .string z.nat, .string z.birth, .string z.sex, .string z.exp, .string z.opt, .string z.sec] 24)) w.heap.size z := ZBox.new w z
  have ha := below_alloc1 w (.cells #[.int .i64 z.fmt, .string z.kind, .string z.state, .string z.sur, .string z.giv, .string z.num, .string z.nat, .string z.birth, .string z.sex, .string z.exp, .string z.opt, .string z.sec] 24)
  have hx2 : ZBox ((w.alloc (.cells #[.int .i64 z.fmt, .string z.kind, .string z.state, .string z.sur, .string z.giv, .string z.num, .string z.nat, .string z.birth, .string z.sex, .string z.exp, .string z.opt, .string z.sec] 24)).alloc (.cells #[.int .i64 0, .string ⟨#[]⟩, .string ⟨#[]⟩, .string ⟨#[]⟩, .string ⟨#[]⟩, .string ⟨#[]⟩, .string ⟨#[]⟩, .string ⟨#[]⟩, .string ⟨#[]⟩, .string ⟨#[]⟩, .string ⟨#[]⟩, .string ⟨#[]⟩] 24)) (w.alloc (.cells #[.int .i64 z.fmt, .string z.kind, .string z.state, .string z.sur, .string z.giv, .string z.num, .string z.nat, .string z.birth, .string z.sex, .string z.exp, .string z.opt, .string z.sec] 24)).heap.size Zn.Z.zero := ZBox.new _ Zn.Z.zero
  have hb := below_alloc1 (w.alloc (.cells #[.int .i64 z.fmt, .string z.kind, .string z.state, .string z.sur, .string z.giv, .string z.num, .string z.nat, .string z.birth, .string z.sex, .string z.exp, .string z.opt, .string z.sec] 24)) (.cells #[.int .i64 0, .string ⟨#[]⟩, .string ⟨#[]⟩, .string ⟨#[]⟩, .string ⟨#[]⟩, .string ⟨#[]⟩, .string ⟨#[]⟩, .string ⟨#[]⟩, .string ⟨#[]⟩, .string ⟨#[]⟩, .string ⟨#[]⟩, .string ⟨#[]⟩] 24)
  have hp : PZ w B g (w.alloc (.cells #[.int .i64 z.fmt, .string z.kind, .string z.state, .string z.sur, .string z.giv, .string z.num, .string z.nat, .string z.birth, .string z.sex, .string z.exp, .string z.opt, .string z.sec] 24)).heap.size w.heap.size z ((w.alloc (.cells #[.int .i64 z.fmt, .string z.kind, .string z.state, .string z.sur, .string z.giv, .string z.num, .string z.nat, .string z.birth, .string z.sex, .string z.exp, .string z.opt, .string z.sec] 24)).alloc (.cells #[.int .i64 0, .string ⟨#[]⟩, .string ⟨#[]⟩, .string ⟨#[]⟩, .string ⟨#[]⟩, .string ⟨#[]⟩, .string ⟨#[]⟩, .string ⟨#[]⟩, .string ⟨#[]⟩, .string ⟨#[]⟩, .string ⟨#[]⟩, .string ⟨#[]⟩] 24)) :=
    ⟨hx3.later hb, hx2, (hd.below ha hgw).below hb (Nat.lt_of_lt_of_le hgw ha.size), grown_trans (grown_of_below ha _) (grown_of_below hb _), hgw, ha.size, Nat.le_refl _, by rw [size_alloc1]; omega⟩
  rw [size_alloc1] at hp
  clear hd hx3 ha hx2 hb hz
  unfold Zn.Z.val
  go_enter Tryz.func26, Tryz.ntmps26
  go_upto_region 1 with fail
  generalize (w.alloc (.cells #[.int .i64 z.fmt, .string z.kind, .string z.state, .string z.sur, .string z.giv, .string z.num, .string z.nat, .string z.birth, .string z.sex, .string z.exp, .string z.opt, .string z.sec] 24)).alloc (.cells #[.int .i64 0, .string ⟨#[]⟩, .string ⟨#[]⟩, .string ⟨#[]⟩, .string ⟨#[]⟩, .string ⟨#[]⟩, .string ⟨#[]⟩, .string ⟨#[]⟩, .string ⟨#[]⟩, .string ⟨#[]⟩, .string ⟨#[]⟩, .string ⟨#[]⟩] 24) = W0 at hp ⊢
  obtain ⟨g2, hg2⟩ : ∃ q, w.heap.size + 1 = q := ⟨_, rfl⟩
  rw [hg2] at hp ⊢
  obtain ⟨g3, hg3⟩ : ∃ q, w.heap.size = q := ⟨_, rfl⟩
  rw [hg3] at hp hgw ⊢
  rw [← hg3] at hp hgw
  have HG := Lib.hid (And.intro hg2 hg3)
  clear hg2
  go_wp2_with fail
  refine (made_next B g 12 _ hp.2.2.1 (by decide) (by decide)).mono ?_; rintro e W ⟨v, v1, v2, rfl, hd1, hg1⟩
  replace hp := hp.dice hd1 hg1
  rw [hg3] at hp
  have hp : PZ w B g g2 g3 z W := hp
  clear hd1 hg1 hgw hg3
  have hgne : W.heap.size ≠ g := hp.gne
  have h12 : v = 0 ∨ v = 1 ∨ v = 2 ∨ v = 3 ∨ v = 4 ∨ v = 5 ∨ v = 6 ∨ v = 7 ∨ v = 8 ∨ v = 9 ∨ v = 10 ∨ v = 11 := by omega
  clear v1 v2
  rcases h12 with rfl | rfl | rfl | rfl | rfl | rfl | rfl | rfl | rfl | rfl | rfl | rfl

  · go_wp2_with fail
    refine (made_next B g 6 _ hp.2.2.1 (by decide) (by decide)).mono ?_; rintro e W1 ⟨v, v1, v2, rfl, hd1, hg1⟩
    replace hp := hp.dice hd1 hg1
    clear hd1 hg1 hgne
    obtain ⟨x0, x1, x2, x3, x4, x5, x6, x7, x8, x9, x10, x11⟩ := hp.1.cells
    obtain ⟨y0, y1, y2, y3, y4, y5, y6, y7, y8, y9, y10, y11⟩ := hp.2.1.cells
    obtain ⟨f0, f1, f2, f3, f4, f5, f6, f7, f8, f9, f10, f11⟩ := hp.frees
    obtain ⟨q0, q1, q2, q3, q4, q5, q6, q7, q8, q9, q10, q11⟩ := hp.frees2
    go_upto_region 25 with fail
    have hp' : PZ w B g g2 g3 (⟨v - 1, z.kind, z.state, z.sur, z.giv, z.num, z.nat, z.birth, z.sex, z.exp, z.opt, z.sec⟩ : Zn.Z) (W1.setCell ⟨g3, 0, none⟩ (.int .i64 (v - 1))) := hp.set 0 _ _ rfl
    clear hp v1 v2 x0 x1 x2 x3 x4 x5 x6 x7 x8 x9 x10 x11 y0 y1 y2 y3 y4 y5 y6 y7 y8 y9 y10 y11 f0 f1 f2 f3 f4 f5 f6 f7 f8 f9 f10 f11 q0 q1 q2 q3 q4 q5 q6 q7 q8 q9 q10 q11
    generalize W1.setCell ⟨g3, 0, none⟩ (.int .i64 (v - 1)) = W5 at hp' ⊢
    have hp := hp'
    replace hp := hp'
    clear hp'
    obtain ⟨x0, x1, x2, x3, x4, x5, x6, x7, x8, x9, x10, x11⟩ := hp.1.cells
    obtain ⟨y0, y1, y2, y3, y4, y5, y6, y7, y8, y9, y10, y11⟩ := hp.2.1.cells
    obtain ⟨f0, f1, f2, f3, f4, f5, f6, f7, f8, f9, f10, f11⟩ := hp.frees
    obtain ⟨q0, q1, q2, q3, q4, q5, q6, q7, q8, q9, q10, q11⟩ := hp.frees2
    have HPF := Lib.hid hp
    clear hp
    go_wp2_with fail
    exact odd_ret (z := (⟨v - 1, z.kind, z.state, z.sur, z.giv, z.num, z.nat, z.birth, z.sex, z.exp, z.opt, z.sec⟩ : Zn.Z)) HPF.out (by have hz := HZ.out; unfold Zn.Z.fits at *; dsimp only at *; omega) rfl
  · go_wp2_with fail
    have hr : TextsAt (W.alloc (.cells #[.string ⟨#[]⟩, .string ⟨#[112]⟩, .string ⟨#[80, 80, 80]⟩, .string ⟨#[80, 60]⟩, .string ⟨#[49]⟩] 9)) (some ⟨W.heap.size, 0, none⟩) [⟨#[]⟩, ⟨#[112]⟩, ⟨#[80, 80, 80]⟩, ⟨#[80, 60]⟩, ⟨#[49]⟩] := texts_new11 W _
    replace hp := hp.later (below_alloc1 W (.cells #[.string ⟨#[]⟩, .string ⟨#[112]⟩, .string ⟨#[80, 80, 80]⟩, .string ⟨#[80, 60]⟩, .string ⟨#[49]⟩] 9))
    have hlt : W.heap.size < (W.alloc (.cells #[.string ⟨#[]⟩, .string ⟨#[112]⟩, .string ⟨#[80, 80, 80]⟩, .string ⟨#[80, 60]⟩, .string ⟨#[49]⟩] 9)).heap.size := by rw [size_alloc1]; omega
    generalize W.alloc (.cells #[.string ⟨#[]⟩, .string ⟨#[112]⟩, .string ⟨#[80, 80, 80]⟩, .string ⟨#[80, 60]⟩, .string ⟨#[49]⟩] 9) = W0 at hr hp hlt ⊢
    generalize W.heap.size = ga at hr hlt hgne ⊢
    refine (made_next B g 5 _ hp.2.2.1 (by decide) (by decide)).mono ?_; rintro e W1 ⟨v, v1, v2, rfl, hd1, hg1⟩
    replace hp := hp.dice hd1 hg1
    obtain ⟨k, rfl⟩ := Int.eq_ofNat_of_zero_le v1
    obtain ⟨S, hcell, hS⟩ := pick_text (P := fun s => decide (s.size ≤ 100)) hr hg1 hlt hgne k (by simp; omega) (by decide)
    have HS := Lib.hid (of_decide_eq_true hS)
    clear hS hr hlt hgne hd1 hg1 v1
    obtain ⟨x0, x1, x2, x3, x4, x5, x6, x7, x8, x9, x10, x11⟩ := hp.1.cells
    obtain ⟨y0, y1, y2, y3, y4, y5, y6, y7, y8, y9, y10, y11⟩ := hp.2.1.cells
    obtain ⟨f0, f1, f2, f3, f4, f5, f6, f7, f8, f9, f10, f11⟩ := hp.frees
    obtain ⟨q0, q1, q2, q3, q4, q5, q6, q7, q8, q9, q10, q11⟩ := hp.frees2
    go_upto_region 25 with fail
    have hp' : PZ w B g g2 g3 (⟨z.fmt, S, z.state, z.sur, z.giv, z.num, z.nat, z.birth, z.sex, z.exp, z.opt, z.sec⟩ : Zn.Z) (W1.setCell ⟨g3, 1, none⟩ (.string S)) := hp.set 1 _ _ rfl
    clear hp hcell v2 x0 x1 x2 x3 x4 x5 x6 x7 x8 x9 x10 x11 y0 y1 y2 y3 y4 y5 y6 y7 y8 y9 y10 y11 f0 f1 f2 f3 f4 f5 f6 f7 f8 f9 f10 f11 q0 q1 q2 q3 q4 q5 q6 q7 q8 q9 q10 q11
    generalize W1.setCell ⟨g3, 1, none⟩ (.string S) = W5 at hp' ⊢
    have hp := hp'
    replace hp := hp'
    clear hp'
    obtain ⟨x0, x1, x2, x3, x4, x5, x6, x7, x8, x9, x10, x11⟩ := hp.1.cells
    obtain ⟨y0, y1, y2, y3, y4, y5, y6, y7, y8, y9, y10, y11⟩ := hp.2.1.cells
    obtain ⟨f0, f1, f2, f3, f4, f5, f6, f7, f8, f9, f10, f11⟩ := hp.frees
    obtain ⟨q0, q1, q2, q3, q4, q5, q6, q7, q8, q9, q10, q11⟩ := hp.frees2
    have HPF := Lib.hid hp
    clear hp
    go_wp2_with fail
    exact odd_ret (z := (⟨z.fmt, S, z.state, z.sur, z.giv, z.num, z.nat, z.birth, z.sex, z.exp, z.opt, z.sec⟩ : Zn.Z)) HPF.out (by have hz := HZ.out; unfold Zn.Z.fits at *; have hs := HS.out; dsimp only at *; omega) rfl
  · go_wp2_with fail
    have hr : TextsAt (W.alloc (.cells #[.string ⟨#[]⟩, .string ⟨#[85, 84, 79, 80]⟩, .string ⟨#[85, 49]⟩, .string ⟨#[60, 60, 60]⟩] 9)) (some ⟨W.heap.size, 0, none⟩) [⟨#[]⟩, ⟨#[85, 84, 79, 80]⟩, ⟨#[85, 49]⟩, ⟨#[60, 60, 60]⟩] := texts_new11 W _
    replace hp := hp.later (below_alloc1 W (.cells #[.string ⟨#[]⟩, .string ⟨#[85, 84, 79, 80]⟩, .string ⟨#[85, 49]⟩, .string ⟨#[60, 60, 60]⟩] 9))
    have hlt : W.heap.size < (W.alloc (.cells #[.string ⟨#[]⟩, .string ⟨#[85, 84, 79, 80]⟩, .string ⟨#[85, 49]⟩, .string ⟨#[60, 60, 60]⟩] 9)).heap.size := by rw [size_alloc1]; omega
    generalize W.alloc (.cells #[.string ⟨#[]⟩, .string ⟨#[85, 84, 79, 80]⟩, .string ⟨#[85, 49]⟩, .string ⟨#[60, 60, 60]⟩] 9) = W0 at hr hp hlt ⊢
    generalize W.heap.size = ga at hr hlt hgne ⊢
    refine (made_next B g 4 _ hp.2.2.1 (by decide) (by decide)).mono ?_; rintro e W1 ⟨v, v1, v2, rfl, hd1, hg1⟩
    replace hp := hp.dice hd1 hg1
    obtain ⟨k, rfl⟩ := Int.eq_ofNat_of_zero_le v1
    obtain ⟨S, hcell, hS⟩ := pick_text (P := fun s => decide (s.size ≤ 100)) hr hg1 hlt hgne k (by simp; omega) (by decide)
    have HS := Lib.hid (of_decide_eq_true hS)
    clear hS hr hlt hgne hd1 hg1 v1
    obtain ⟨x0, x1, x2, x3, x4, x5, x6, x7, x8, x9, x10, x11⟩ := hp.1.cells
    obtain ⟨y0, y1, y2, y3, y4, y5, y6, y7, y8, y9, y10, y11⟩ := hp.2.1.cells
    obtain ⟨f0, f1, f2, f3, f4, f5, f6, f7, f8, f9, f10, f11⟩ := hp.frees
    obtain ⟨q0, q1, q2, q3, q4, q5, q6, q7, q8, q9, q10, q11⟩ := hp.frees2
    go_upto_region 25 with fail
    have hp' : PZ w B g g2 g3 (⟨z.fmt, z.kind, S, z.sur, z.giv, z.num, z.nat, z.birth, z.sex, z.exp, z.opt, z.sec⟩ : Zn.Z) (W1.setCell ⟨g3, 2, none⟩ (.string S)) := hp.set 2 _ _ rfl
    have hp2 : PZ w B g g2 g3 (⟨z.fmt, z.kind, S, z.sur, z.giv, z.num, ⟨#[85, 84, 79]⟩, z.birth, z.sex, z.exp, z.opt, z.sec⟩ : Zn.Z) ((W1.setCell ⟨g3, 2, none⟩ (.string S)).setCell ⟨g3, 6, none⟩ (.string ⟨#[85, 84, 79]⟩)) := hp'.set 6 _ _ rfl
    clear hp'
    have hp' := hp2
    clear hp2
    clear hp hcell v2 x0 x1 x2 x3 x4 x5 x6 x7 x8 x9 x10 x11 y0 y1 y2 y3 y4 y5 y6 y7 y8 y9 y10 y11 f0 f1 f2 f3 f4 f5 f6 f7 f8 f9 f10 f11 q0 q1 q2 q3 q4 q5 q6 q7 q8 q9 q10 q11
    generalize (W1.setCell ⟨g3, 2, none⟩ (.string S)).setCell ⟨g3, 6, none⟩ (.string ⟨#[85, 84, 79]⟩) = W5 at hp' ⊢
    have hp := hp'
    replace hp := hp'
    clear hp'
    obtain ⟨x0, x1, x2, x3, x4, x5, x6, x7, x8, x9, x10, x11⟩ := hp.1.cells
    obtain ⟨y0, y1, y2, y3, y4, y5, y6, y7, y8, y9, y10, y11⟩ := hp.2.1.cells
    obtain ⟨f0, f1, f2, f3, f4, f5, f6, f7, f8, f9, f10, f11⟩ := hp.frees
    obtain ⟨q0, q1, q2, q3, q4, q5, q6, q7, q8, q9, q10, q11⟩ := hp.frees2
    have HPF := Lib.hid hp
    clear hp
    go_wp2_with fail
    exact odd_ret (z := (⟨z.fmt, z.kind, S, z.sur, z.giv, z.num, ⟨#[85, 84, 79]⟩, z.birth, z.sex, z.exp, z.opt, z.sec⟩ : Zn.Z)) HPF.out (by have hz := HZ.out; unfold Zn.Z.fits at *; have hs := HS.out; have hu : (⟨#[85, 84, 79]⟩ : ByteArray).size = 3 := rfl; dsimp only at *; omega) rfl
  · go_wp2_with fail
    have hr : TextsAt (W.alloc (.cells #[.string ⟨#[]⟩, .string ⟨#[32, 65]⟩, .string ⟨#[65, 32, 32, 66]⟩, .string ⟨#[97]⟩, .string ⟨#[65, 60, 66]⟩, .string ⟨#[65, 32]⟩] 9)) (some ⟨W.heap.size, 0, none⟩) [⟨#[]⟩, ⟨#[32, 65]⟩, ⟨#[65, 32, 32, 66]⟩, ⟨#[97]⟩, ⟨#[65, 60, 66]⟩, ⟨#[65, 32]⟩] := texts_new11 W _
    replace hp := hp.later (below_alloc1 W (.cells #[.string ⟨#[]⟩, .string ⟨#[32, 65]⟩, .string ⟨#[65, 32, 32, 66]⟩, .string ⟨#[97]⟩, .string ⟨#[65, 60, 66]⟩, .string ⟨#[65, 32]⟩] 9))
    have hlt : W.heap.size < (W.alloc (.cells #[.string ⟨#[]⟩, .string ⟨#[32, 65]⟩, .string ⟨#[65, 32, 32, 66]⟩, .string ⟨#[97]⟩, .string ⟨#[65, 60, 66]⟩, .string ⟨#[65, 32]⟩] 9)).heap.size := by rw [size_alloc1]; omega
    generalize W.alloc (.cells #[.string ⟨#[]⟩, .string ⟨#[32, 65]⟩, .string ⟨#[65, 32, 32, 66]⟩, .string ⟨#[97]⟩, .string ⟨#[65, 60, 66]⟩, .string ⟨#[65, 32]⟩] 9) = W0 at hr hp hlt ⊢
    generalize W.heap.size = ga at hr hlt hgne ⊢
    refine (made_next B g 6 _ hp.2.2.1 (by decide) (by decide)).mono ?_; rintro e W1 ⟨v, v1, v2, rfl, hd1, hg1⟩
    replace hp := hp.dice hd1 hg1
    obtain ⟨k, rfl⟩ := Int.eq_ofNat_of_zero_le v1
    obtain ⟨S, hcell, hS⟩ := pick_text (P := fun s => decide (s.size ≤ 100)) hr hg1 hlt hgne k (by simp; omega) (by decide)
    have HS := Lib.hid (of_decide_eq_true hS)
    clear hS hr hlt hgne hd1 hg1 v1
    obtain ⟨x0, x1, x2, x3, x4, x5, x6, x7, x8, x9, x10, x11⟩ := hp.1.cells
    obtain ⟨y0, y1, y2, y3, y4, y5, y6, y7, y8, y9, y10, y11⟩ := hp.2.1.cells
    obtain ⟨f0, f1, f2, f3, f4, f5, f6, f7, f8, f9, f10, f11⟩ := hp.frees
    obtain ⟨q0, q1, q2, q3, q4, q5, q6, q7, q8, q9, q10, q11⟩ := hp.frees2
    go_upto_region 25 with fail
    have hp' : PZ w B g g2 g3 (⟨z.fmt, z.kind, z.state, S, z.giv, z.num, z.nat, z.birth, z.sex, z.exp, z.opt, z.sec⟩ : Zn.Z) (W1.setCell ⟨g3, 3, none⟩ (.string S)) := hp.set 3 _ _ rfl
    clear hp hcell v2 x0 x1 x2 x3 x4 x5 x6 x7 x8 x9 x10 x11 y0 y1 y2 y3 y4 y5 y6 y7 y8 y9 y10 y11 f0 f1 f2 f3 f4 f5 f6 f7 f8 f9 f10 f11 q0 q1 q2 q3 q4 q5 q6 q7 q8 q9 q10 q11
    generalize W1.setCell ⟨g3, 3, none⟩ (.string S) = W5 at hp' ⊢
    have hp := hp'
    replace hp := hp'
    clear hp'
    obtain ⟨x0, x1, x2, x3, x4, x5, x6, x7, x8, x9, x10, x11⟩ := hp.1.cells
    obtain ⟨y0, y1, y2, y3, y4, y5, y6, y7, y8, y9, y10, y11⟩ := hp.2.1.cells
    obtain ⟨f0, f1, f2, f3, f4, f5, f6, f7, f8, f9, f10, f11⟩ := hp.frees
    obtain ⟨q0, q1, q2, q3, q4, q5, q6, q7, q8, q9, q10, q11⟩ := hp.frees2
    have HPF := Lib.hid hp
    clear hp
    go_wp2_with fail
    exact odd_ret (z := (⟨z.fmt, z.kind, z.state, S, z.giv, z.num, z.nat, z.birth, z.sex, z.exp, z.opt, z.sec⟩ : Zn.Z)) HPF.out (by have hz := HZ.out; unfold Zn.Z.fits at *; have hs := HS.out; dsimp only at *; omega) rfl
  · obtain ⟨x0, x1, x2, x3, x4, x5, x6, x7, x8, x9, x10, x11⟩ := hp.1.cells
    have hnz : z.num.size ≤ 100 := HZ.out.2.2.2.2.1
    have HNZ := Lib.hid hnz
    go_wp2_with fail
    refine wp_region_any (by kernel_rfl) ?_
    (try (change wpAny _ _ _ _ _ _ _ (World.drew _)))
    (refine wpAny_take (i := 0) (v := ?_) (by simp only [List.getElem?_toArray, List.getElem?_cons_zero]; rfl) (by kernel_rfl) (by kernel_rfl) (by kernel_rfl) (by exact fun _ _ _ h => h) (Or.inl ⟨by rfl, ?_⟩) ?_; rotate_left 1; · (intro w; go_simp; (try with_reducible rfl)))
    (refine wpAny_take (i := 2) (v := ?_) (by simp only [List.getElem?_toArray, List.getElem?_cons_succ, List.getElem?_cons_zero]; rfl) (by kernel_rfl) (by kernel_rfl) (by kernel_rfl) (by exact fun _ _ _ h => h) (Or.inl ⟨by rfl, ?_⟩) ?_; rotate_left 1; · (intro w; go_simp; (try with_reducible rfl)))
    refine wpAny_ready (rs := [1, 3]) (by kernel_rfl) (by simp) ?_
    refine AllReady.cons (by simp only [List.getElem?_toArray, List.getElem?_cons_succ, List.getElem?_cons_zero]; rfl) (fun K hK => ?_) ?_
    · go_simp
      (first | (refine hK _ _ ?_; clear hK K) | skip)
      refine wpAny_ready (rs := [3]) (by kernel_rfl) (by simp) ?_
      refine AllReady.cons (by simp only [List.getElem?_toArray, List.getElem?_cons_succ, List.getElem?_cons_zero]; rfl) (fun K hK => ?_) ?_
      · (go_simp; go_at_call 41; refine (made_next B g 13 _ (DiceAt.drew1 hp.2.2.1) (by decide) (by decide)).mono ?_; rintro e W1 ⟨v, v1, v2, rfl, hd1, hg1⟩; have hp1 := hp.dice hd1 (grown_undrew hg1); obtain ⟨k, rfl⟩ := Int.eq_ofNat_of_zero_le v1; have i1 : (k : Int) ≤ 12 := (by omega); have HX := Lib.hid (ext_le ⟨#[65, 66, 67, 68, 69, 70, 71, 72, 73, 74, 75, 76]⟩ k); obtain ⟨EX, hEX⟩ : ∃ q : ByteArray, (⟨#[65, 66, 67, 68, 69, 70, 71, 72, 73, 74, 75, 76]⟩ : ByteArray).extract 0 k = q := ⟨_, rfl⟩; rw [hEX] at HX; have hex := HX.out; have s1 : ¬ (9223372036854775807 < z.num.size + EX.size) := (by have := HNZ.out; have h12 : (⟨#[65, 66, 67, 68, 69, 70, 71, 72, 73, 74, 75, 76]⟩ : ByteArray).size = 12 := rfl; omega); obtain ⟨x0, x1, x2, x3, x4, x5, x6, x7, x8, x9, x10, x11⟩ := hp1.1.cells; obtain ⟨f0, f1, f2, f3, f4, f5, f6, f7, f8, f9, f10, f11⟩ := hp1.frees; clear hex)
        (first | (refine hK _ _ ?_; clear hK K) | skip)
        (refine wpAny_take (i := 4) (v := ?_) (by simp only [List.getElem?_toArray, List.getElem?_cons_succ, List.getElem?_cons_zero]; rfl) (by kernel_rfl) (by kernel_rfl) (by kernel_rfl) (by exact fun _ _ _ h => h) (Or.inl ⟨by rfl, ?_⟩) ?_; rotate_left 1; · (intro w; go_simp; (try with_reducible rfl)))
        (refine wpAny_take (i := 5) (v := ?_) (by simp only [List.getElem?_toArray, List.getElem?_cons_succ, List.getElem?_cons_zero]; rfl) (by kernel_rfl) (by kernel_rfl) (by kernel_rfl) (by exact fun _ _ _ h => h) (Or.inl ⟨by rfl, ?_⟩) ?_; rotate_left 1; · (intro w; go_simp; (try with_reducible rfl)))
        (refine wpAny_take (i := 6) (v := ?_) (by simp only [List.getElem?_toArray, List.getElem?_cons_succ, List.getElem?_cons_zero]; rfl) (by kernel_rfl) (by kernel_rfl) (by kernel_rfl) (by exact fun _ _ _ h => h) (Or.inl ⟨by rfl, ?_⟩) ?_; rotate_left 1; · (intro w; go_simp; (try with_reducible rfl)))
        refine wpAny_ready (rs := [7]) (by kernel_rfl) (by simp) ?_
        refine AllReady.cons (by simp only [List.getElem?_toArray, List.getElem?_cons_succ, List.getElem?_cons_zero]; rfl) (fun K hK => ?_) ?_
        · go_simp
          (first | (refine hK _ _ ?_; clear hK K) | skip)
          refine wpAny_done (by kernel_rfl) ?_ _
          have hp' : PZ w B g g2 g3 (⟨z.fmt, z.kind, z.state, z.sur, z.giv, z.num ++ EX, z.nat, z.birth, z.sex, z.exp, z.opt, z.sec⟩ : Zn.Z) (W1.setCell ⟨g3, 5, none⟩ (.string (z.num ++ EX))) := hp1.set 5 _ _ rfl
          have HS := Lib.hid (show (z.num ++ EX).size ≤ 112 by rw [ByteArray.size_append]; have h1 := HNZ.out; have h2 := HX.out; have h12 : (⟨#[65, 66, 67, 68, 69, 70, 71, 72, 73, 74, 75, 76]⟩ : ByteArray).size = 12 := rfl; omega)
          clear hp hp1 x0 x1 x2 x3 x4 x5 x6 x7 x8 x9 x10 x11 f0 f1 f2 f3 f4 f5 f6 f7 f8 f9 f10 f11
          go_upto_region 25 with fail
          generalize W1.setCell ⟨g3, 5, none⟩ (.string (z.num ++ EX)) = W5 at hp' ⊢
          have hp := hp'
          replace hp := hp'
          clear hp'
          obtain ⟨x0, x1, x2, x3, x4, x5, x6, x7, x8, x9, x10, x11⟩ := hp.1.cells
          obtain ⟨y0, y1, y2, y3, y4, y5, y6, y7, y8, y9, y10, y11⟩ := hp.2.1.cells
          obtain ⟨f0, f1, f2, f3, f4, f5, f6, f7, f8, f9, f10, f11⟩ := hp.frees
          obtain ⟨q0, q1, q2, q3, q4, q5, q6, q7, q8, q9, q10, q11⟩ := hp.frees2
          have HPF := Lib.hid hp
          clear hp
          go_wp2_with fail
          exact odd_ret (z := (⟨z.fmt, z.kind, z.state, z.sur, z.giv, z.num ++ EX, z.nat, z.birth, z.sex, z.exp, z.opt, z.sec⟩ : Zn.Z)) HPF.out (by have hz := HZ.out; unfold Zn.Z.fits at *; have hs := HS.out; dsimp only at *; omega) rfl
        exact AllReady.nil
      exact AllReady.nil
    refine AllReady.cons (by simp only [List.getElem?_toArray, List.getElem?_cons_succ, List.getElem?_cons_zero]; rfl) (fun K hK => ?_) ?_
    · (go_simp; go_at_call 41; refine (made_next B g 13 _ (DiceAt.drew1 hp.2.2.1) (by decide) (by decide)).mono ?_; rintro e W1 ⟨v, v1, v2, rfl, hd1, hg1⟩; have hp1 := hp.dice hd1 (grown_undrew hg1); obtain ⟨k, rfl⟩ := Int.eq_ofNat_of_zero_le v1; have i1 : (k : Int) ≤ 12 := (by omega); have HX := Lib.hid (ext_le ⟨#[65, 66, 67, 68, 69, 70, 71, 72, 73, 74, 75, 76]⟩ k); obtain ⟨EX, hEX⟩ : ∃ q : ByteArray, (⟨#[65, 66, 67, 68, 69, 70, 71, 72, 73, 74, 75, 76]⟩ : ByteArray).extract 0 k = q := ⟨_, rfl⟩; rw [hEX] at HX; have hex := HX.out; have s1 : ¬ (9223372036854775807 < z.num.size + EX.size) := (by have := HNZ.out; have h12 : (⟨#[65, 66, 67, 68, 69, 70, 71, 72, 73, 74, 75, 76]⟩ : ByteArray).size = 12 := rfl; omega); obtain ⟨x0, x1, x2, x3, x4, x5, x6, x7, x8, x9, x10, x11⟩ := hp1.1.cells; obtain ⟨f0, f1, f2, f3, f4, f5, f6, f7, f8, f9, f10, f11⟩ := hp1.frees; clear hex)
      (first | (refine hK _ _ ?_; clear hK K) | skip)
      (refine wpAny_take (i := 4) (v := ?_) (by simp only [List.getElem?_toArray, List.getElem?_cons_succ, List.getElem?_cons_zero]; rfl) (by kernel_rfl) (by kernel_rfl) (by kernel_rfl) (by exact fun _ _ _ h => h) (Or.inl ⟨by rfl, ?_⟩) ?_; rotate_left 1; · (intro w; go_simp; (try with_reducible rfl)))
      refine wpAny_ready (rs := [1]) (by kernel_rfl) (by simp) ?_
      refine AllReady.cons (by simp only [List.getElem?_toArray, List.getElem?_cons_succ, List.getElem?_cons_zero]; rfl) (fun K hK => ?_) ?_
      · go_simp
        (first | (refine hK _ _ ?_; clear hK K) | skip)
        (refine wpAny_take (i := 5) (v := ?_) (by simp only [List.getElem?_toArray, List.getElem?_cons_succ, List.getElem?_cons_zero]; rfl) (by kernel_rfl) (by kernel_rfl) (by kernel_rfl) (by exact fun _ _ _ h => h) (Or.inl ⟨by rfl, ?_⟩) ?_; rotate_left 1; · (intro w; go_simp; (try with_reducible rfl)))
        (refine wpAny_take (i := 6) (v := ?_) (by simp only [List.getElem?_toArray, List.getElem?_cons_succ, List.getElem?_cons_zero]; rfl) (by kernel_rfl) (by kernel_rfl) (by kernel_rfl) (by exact fun _ _ _ h => h) (Or.inl ⟨by rfl, ?_⟩) ?_; rotate_left 1; · (intro w; go_simp; (try with_reducible rfl)))
        refine wpAny_ready (rs := [7]) (by kernel_rfl) (by simp) ?_
        refine AllReady.cons (by simp only [List.getElem?_toArray, List.getElem?_cons_succ, List.getElem?_cons_zero]; rfl) (fun K hK => ?_) ?_
        · go_simp
          (first | (refine hK _ _ ?_; clear hK K) | skip)
          refine wpAny_done (by kernel_rfl) ?_ _
          have hp' : PZ w B g g2 g3 (⟨z.fmt, z.kind, z.state, z.sur, z.giv, z.num ++ EX, z.nat, z.birth, z.sex, z.exp, z.opt, z.sec⟩ : Zn.Z) (W1.setCell ⟨g3, 5, none⟩ (.string (z.num ++ EX))) := hp1.set 5 _ _ rfl
          have HS := Lib.hid (show (z.num ++ EX).size ≤ 112 by rw [ByteArray.size_append]; have h1 := HNZ.out; have h2 := HX.out; have h12 : (⟨#[65, 66, 67, 68, 69, 70, 71, 72, 73, 74, 75, 76]⟩ : ByteArray).size = 12 := rfl; omega)
          clear hp hp1 x0 x1 x2 x3 x4 x5 x6 x7 x8 x9 x10 x11 f0 f1 f2 f3 f4 f5 f6 f7 f8 f9 f10 f11
          go_upto_region 25 with fail
          generalize W1.setCell ⟨g3, 5, none⟩ (.string (z.num ++ EX)) = W5 at hp' ⊢
          have hp := hp'
          replace hp := hp'
          clear hp'
          obtain ⟨x0, x1, x2, x3, x4, x5, x6, x7, x8, x9, x10, x11⟩ := hp.1.cells
          obtain ⟨y0, y1, y2, y3, y4, y5, y6, y7, y8, y9, y10, y11⟩ := hp.2.1.cells
          obtain ⟨f0, f1, f2, f3, f4, f5, f6, f7, f8, f9, f10, f11⟩ := hp.frees
          obtain ⟨q0, q1, q2, q3, q4, q5, q6, q7, q8, q9, q10, q11⟩ := hp.frees2
          have HPF := Lib.hid hp
          clear hp
          go_wp2_with fail
          exact odd_ret (z := (⟨z.fmt, z.kind, z.state, z.sur, z.giv, z.num ++ EX, z.nat, z.birth, z.sex, z.exp, z.opt, z.sec⟩ : Zn.Z)) HPF.out (by have hz := HZ.out; unfold Zn.Z.fits at *; have hs := HS.out; dsimp only at *; omega) rfl
        exact AllReady.nil
      exact AllReady.nil
    exact AllReady.nil
  · go_wp2_with fail
    have hr : TextsAt (W.alloc (.cells #[.string ⟨#[]⟩, .string ⟨#[65, 60, 66]⟩, .string ⟨#[97]⟩, .string ⟨#[65, 66, 67, 68, 69, 70, 71, 72, 73, 74, 75, 76, 77, 78, 79, 80, 81, 82, 83, 84, 85]⟩] 9)) (some ⟨W.heap.size, 0, none⟩) [⟨#[]⟩, ⟨#[65, 60, 66]⟩, ⟨#[97]⟩, ⟨#[65, 66, 67, 68, 69, 70, 71, 72, 73, 74, 75, 76, 77, 78, 79, 80, 81, 82, 83, 84, 85]⟩] := texts_new11 W _
    replace hp := hp.later (below_alloc1 W (.cells #[.string ⟨#[]⟩, .string ⟨#[65, 60, 66]⟩, .string ⟨#[97]⟩, .string ⟨#[65, 66, 67, 68, 69, 70, 71, 72, 73, 74, 75, 76, 77, 78, 79, 80, 81, 82, 83, 84, 85]⟩] 9))
    have hlt : W.heap.size < (W.alloc (.cells #[.string ⟨#[]⟩, .string ⟨#[65, 60, 66]⟩, .string ⟨#[97]⟩, .string ⟨#[65, 66, 67, 68, 69, 70, 71, 72, 73, 74, 75, 76, 77, 78, 79, 80, 81, 82, 83, 84, 85]⟩] 9)).heap.size := by rw [size_alloc1]; omega
    generalize W.alloc (.cells #[.string ⟨#[]⟩, .string ⟨#[65, 60, 66]⟩, .string ⟨#[97]⟩, .string ⟨#[65, 66, 67, 68, 69, 70, 71, 72, 73, 74, 75, 76, 77, 78, 79, 80, 81, 82, 83, 84, 85]⟩] 9) = W0 at hr hp hlt ⊢
    generalize W.heap.size = ga at hr hlt hgne ⊢
    refine (made_next B g 4 _ hp.2.2.1 (by decide) (by decide)).mono ?_; rintro e W1 ⟨v, v1, v2, rfl, hd1, hg1⟩
    replace hp := hp.dice hd1 hg1
    obtain ⟨k, rfl⟩ := Int.eq_ofNat_of_zero_le v1
    obtain ⟨S, hcell, hS⟩ := pick_text (P := fun s => decide (s.size ≤ 100)) hr hg1 hlt hgne k (by simp; omega) (by decide)
    have HS := Lib.hid (of_decide_eq_true hS)
    clear hS hr hlt hgne hd1 hg1 v1
    obtain ⟨x0, x1, x2, x3, x4, x5, x6, x7, x8, x9, x10, x11⟩ := hp.1.cells
    obtain ⟨y0, y1, y2, y3, y4, y5, y6, y7, y8, y9, y10, y11⟩ := hp.2.1.cells
    obtain ⟨f0, f1, f2, f3, f4, f5, f6, f7, f8, f9, f10, f11⟩ := hp.frees
    obtain ⟨q0, q1, q2, q3, q4, q5, q6, q7, q8, q9, q10, q11⟩ := hp.frees2
    go_upto_region 25 with fail
    have hp' : PZ w B g g2 g3 (⟨z.fmt, z.kind, z.state, z.sur, z.giv, S, z.nat, z.birth, z.sex, z.exp, z.opt, z.sec⟩ : Zn.Z) (W1.setCell ⟨g3, 5, none⟩ (.string S)) := hp.set 5 _ _ rfl
    clear hp hcell v2 x0 x1 x2 x3 x4 x5 x6 x7 x8 x9 x10 x11 y0 y1 y2 y3 y4 y5 y6 y7 y8 y9 y10 y11 f0 f1 f2 f3 f4 f5 f6 f7 f8 f9 f10 f11 q0 q1 q2 q3 q4 q5 q6 q7 q8 q9 q10 q11
    generalize W1.setCell ⟨g3, 5, none⟩ (.string S) = W5 at hp' ⊢
    have hp := hp'
    replace hp := hp'
    clear hp'
    obtain ⟨x0, x1, x2, x3, x4, x5, x6, x7, x8, x9, x10, x11⟩ := hp.1.cells
    obtain ⟨y0, y1, y2, y3, y4, y5, y6, y7, y8, y9, y10, y11⟩ := hp.2.1.cells
    obtain ⟨f0, f1, f2, f3, f4, f5, f6, f7, f8, f9, f10, f11⟩ := hp.frees
    obtain ⟨q0, q1, q2, q3, q4, q5, q6, q7, q8, q9, q10, q11⟩ := hp.frees2
    have HPF := Lib.hid hp
    clear hp
    go_wp2_with fail
    exact odd_ret (z := (⟨z.fmt, z.kind, z.state, z.sur, z.giv, S, z.nat, z.birth, z.sex, z.exp, z.opt, z.sec⟩ : Zn.Z)) HPF.out (by have hz := HZ.out; unfold Zn.Z.fits at *; have hs := HS.out; dsimp only at *; omega) rfl
  · go_wp2_with fail
    have hr : TextsAt (W.alloc (.cells #[.string ⟨#[]⟩, .string ⟨#[56, 53, 49, 51, 48, 49]⟩, .string ⟨#[56, 53, 48, 49, 51, 50]⟩, .string ⟨#[56, 60, 48, 49, 48, 49]⟩, .string ⟨#[60, 60, 60, 60, 60]⟩, .string ⟨#[56, 53, 57, 57, 48, 48]⟩, .string ⟨#[56, 53, 48, 49, 48, 48]⟩, .string ⟨#[56, 53, 60, 60, 60, 60]⟩] 9)) (some ⟨W.heap.size, 0, none⟩) [⟨#[]⟩, ⟨#[56, 53, 49, 51, 48, 49]⟩, ⟨#[56, 53, 48, 49, 51, 50]⟩, ⟨#[56, 60, 48, 49, 48, 49]⟩, ⟨#[60, 60, 60, 60, 60]⟩, ⟨#[56, 53, 57, 57, 48, 48]⟩, ⟨#[56, 53, 48, 49, 48, 48]⟩, ⟨#[56, 53, 60, 60, 60, 60]⟩] := texts_new11 W _
    replace hp := hp.later (below_alloc1 W (.cells #[.string ⟨#[]⟩, .string ⟨#[56, 53, 49, 51, 48, 49]⟩, .string ⟨#[56, 53, 48, 49, 51, 50]⟩, .string ⟨#[56, 60, 48, 49, 48, 49]⟩, .string ⟨#[60, 60, 60, 60, 60]⟩, .string ⟨#[56, 53, 57, 57, 48, 48]⟩, .string ⟨#[56, 53, 48, 49, 48, 48]⟩, .string ⟨#[56, 53, 60, 60, 60, 60]⟩] 9))
    have hlt : W.heap.size < (W.alloc (.cells #[.string ⟨#[]⟩, .string ⟨#[56, 53, 49, 51, 48, 49]⟩, .string ⟨#[56, 53, 48, 49, 51, 50]⟩, .string ⟨#[56, 60, 48, 49, 48, 49]⟩, .string ⟨#[60, 60, 60, 60, 60]⟩, .string ⟨#[56, 53, 57, 57, 48, 48]⟩, .string ⟨#[56, 53, 48, 49, 48, 48]⟩, .string ⟨#[56, 53, 60, 60, 60, 60]⟩] 9)).heap.size := by rw [size_alloc1]; omega
    generalize W.alloc (.cells #[.string ⟨#[]⟩, .string ⟨#[56, 53, 49, 51, 48, 49]⟩, .string ⟨#[56, 53, 48, 49, 51, 50]⟩, .string ⟨#[56, 60, 48, 49, 48, 49]⟩, .string ⟨#[60, 60, 60, 60, 60]⟩, .string ⟨#[56, 53, 57, 57, 48, 48]⟩, .string ⟨#[56, 53, 48, 49, 48, 48]⟩, .string ⟨#[56, 53, 60, 60, 60, 60]⟩] 9) = W0 at hr hp hlt ⊢
    generalize W.heap.size = ga at hr hlt hgne ⊢
    refine (made_next B g 8 _ hp.2.2.1 (by decide) (by decide)).mono ?_; rintro e W1 ⟨v, v1, v2, rfl, hd1, hg1⟩
    replace hp := hp.dice hd1 hg1
    obtain ⟨k, rfl⟩ := Int.eq_ofNat_of_zero_le v1
    obtain ⟨S, hcell, hS⟩ := pick_text (P := fun s => decide (s.size ≤ 100)) hr hg1 hlt hgne k (by simp; omega) (by decide)
    have HS := Lib.hid (of_decide_eq_true hS)
    clear hS hr hlt hgne hd1 hg1 v1
    obtain ⟨x0, x1, x2, x3, x4, x5, x6, x7, x8, x9, x10, x11⟩ := hp.1.cells
    obtain ⟨y0, y1, y2, y3, y4, y5, y6, y7, y8, y9, y10, y11⟩ := hp.2.1.cells
    obtain ⟨f0, f1, f2, f3, f4, f5, f6, f7, f8, f9, f10, f11⟩ := hp.frees
    obtain ⟨q0, q1, q2, q3, q4, q5, q6, q7, q8, q9, q10, q11⟩ := hp.frees2
    go_upto_region 25 with fail
    have hp' : PZ w B g g2 g3 (⟨z.fmt, z.kind, z.state, z.sur, z.giv, z.num, z.nat, S, z.sex, z.exp, z.opt, z.sec⟩ : Zn.Z) (W1.setCell ⟨g3, 7, none⟩ (.string S)) := hp.set 7 _ _ rfl
    clear hp hcell v2 x0 x1 x2 x3 x4 x5 x6 x7 x8 x9 x10 x11 y0 y1 y2 y3 y4 y5 y6 y7 y8 y9 y10 y11 f0 f1 f2 f3 f4 f5 f6 f7 f8 f9 f10 f11 q0 q1 q2 q3 q4 q5 q6 q7 q8 q9 q10 q11
    generalize W1.setCell ⟨g3, 7, none⟩ (.string S) = W5 at hp' ⊢
    have hp := hp'
    replace hp := hp'
    clear hp'
    obtain ⟨x0, x1, x2, x3, x4, x5, x6, x7, x8, x9, x10, x11⟩ := hp.1.cells
    obtain ⟨y0, y1, y2, y3, y4, y5, y6, y7, y8, y9, y10, y11⟩ := hp.2.1.cells
    obtain ⟨f0, f1, f2, f3, f4, f5, f6, f7, f8, f9, f10, f11⟩ := hp.frees
    obtain ⟨q0, q1, q2, q3, q4, q5, q6, q7, q8, q9, q10, q11⟩ := hp.frees2
    have HPF := Lib.hid hp
    clear hp
    go_wp2_with fail
    exact odd_ret (z := (⟨z.fmt, z.kind, z.state, z.sur, z.giv, z.num, z.nat, S, z.sex, z.exp, z.opt, z.sec⟩ : Zn.Z)) HPF.out (by have hz := HZ.out; unfold Zn.Z.fits at *; have hs := HS.out; dsimp only at *; omega) rfl
  · go_wp2_with fail
    have hr : TextsAt (W.alloc (.cells #[.string ⟨#[]⟩, .string ⟨#[88]⟩, .string ⟨#[77, 70]⟩, .string ⟨#[109]⟩] 9)) (some ⟨W.heap.size, 0, none⟩) [⟨#[]⟩, ⟨#[88]⟩, ⟨#[77, 70]⟩, ⟨#[109]⟩] := texts_new11 W _
    replace hp := hp.later (below_alloc1 W (.cells #[.string ⟨#[]⟩, .string ⟨#[88]⟩, .string ⟨#[77, 70]⟩, .string ⟨#[109]⟩] 9))
    have hlt : W.heap.size < (W.alloc (.cells #[.string ⟨#[]⟩, .string ⟨#[88]⟩, .string ⟨#[77, 70]⟩, .string ⟨#[109]⟩] 9)).heap.size := by rw [size_alloc1]; omega
    generalize W.alloc (.cells #[.string ⟨#[]⟩, .string ⟨#[88]⟩, .string ⟨#[77, 70]⟩, .string ⟨#[109]⟩] 9) = W0 at hr hp hlt ⊢
    generalize W.heap.size = ga at hr hlt hgne ⊢
    refine (made_next B g 4 _ hp.2.2.1 (by decide) (by decide)).mono ?_; rintro e W1 ⟨v, v1, v2, rfl, hd1, hg1⟩
    replace hp := hp.dice hd1 hg1
    obtain ⟨k, rfl⟩ := Int.eq_ofNat_of_zero_le v1
    obtain ⟨S, hcell, hS⟩ := pick_text (P := fun s => decide (s.size ≤ 100)) hr hg1 hlt hgne k (by simp; omega) (by decide)
    have HS := Lib.hid (of_decide_eq_true hS)
    clear hS hr hlt hgne hd1 hg1 v1
    obtain ⟨x0, x1, x2, x3, x4, x5, x6, x7, x8, x9, x10, x11⟩ := hp.1.cells
    obtain ⟨y0, y1, y2, y3, y4, y5, y6, y7, y8, y9, y10, y11⟩ := hp.2.1.cells
    obtain ⟨f0, f1, f2, f3, f4, f5, f6, f7, f8, f9, f10, f11⟩ := hp.frees
    obtain ⟨q0, q1, q2, q3, q4, q5, q6, q7, q8, q9, q10, q11⟩ := hp.frees2
    go_upto_region 25 with fail
    have hp' : PZ w B g g2 g3 (⟨z.fmt, z.kind, z.state, z.sur, z.giv, z.num, z.nat, z.birth, S, z.exp, z.opt, z.sec⟩ : Zn.Z) (W1.setCell ⟨g3, 8, none⟩ (.string S)) := hp.set 8 _ _ rfl
    clear hp hcell v2 x0 x1 x2 x3 x4 x5 x6 x7 x8 x9 x10 x11 y0 y1 y2 y3 y4 y5 y6 y7 y8 y9 y10 y11 f0 f1 f2 f3 f4 f5 f6 f7 f8 f9 f10 f11 q0 q1 q2 q3 q4 q5 q6 q7 q8 q9 q10 q11
    generalize W1.setCell ⟨g3, 8, none⟩ (.string S) = W5 at hp' ⊢
    have hp := hp'
    replace hp := hp'
    clear hp'
    obtain ⟨x0, x1, x2, x3, x4, x5, x6, x7, x8, x9, x10, x11⟩ := hp.1.cells
    obtain ⟨y0, y1, y2, y3, y4, y5, y6, y7, y8, y9, y10, y11⟩ := hp.2.1.cells
    obtain ⟨f0, f1, f2, f3, f4, f5, f6, f7, f8, f9, f10, f11⟩ := hp.frees
    obtain ⟨q0, q1, q2, q3, q4, q5, q6, q7, q8, q9, q10, q11⟩ := hp.frees2
    have HPF := Lib.hid hp
    clear hp
    go_wp2_with fail
    exact odd_ret (z := (⟨z.fmt, z.kind, z.state, z.sur, z.giv, z.num, z.nat, z.birth, S, z.exp, z.opt, z.sec⟩ : Zn.Z)) HPF.out (by have hz := HZ.out; unfold Zn.Z.fits at *; have hs := HS.out; dsimp only at *; omega) rfl
  · go_wp2_with fail
    have hr : TextsAt (W.alloc (.cells #[.string ⟨#[]⟩, .string ⟨#[50, 53, 48, 50, 50, 57]⟩, .string ⟨#[50, 56, 48, 50, 50, 57]⟩, .string ⟨#[50, 53, 49, 51, 48, 49]⟩, .string ⟨#[50, 53, 60, 60, 60, 60]⟩, .string ⟨#[48, 48, 48, 48, 48, 48]⟩] 9)) (some ⟨W.heap.size, 0, none⟩) [⟨#[]⟩, ⟨#[50, 53, 48, 50, 50, 57]⟩, ⟨#[50, 56, 48, 50, 50, 57]⟩, ⟨#[50, 53, 49, 51, 48, 49]⟩, ⟨#[50, 53, 60, 60, 60, 60]⟩, ⟨#[48, 48, 48, 48, 48, 48]⟩] := texts_new11 W _
    replace hp := hp.later (below_alloc1 W (.cells #[.string ⟨#[]⟩, .string ⟨#[50, 53, 48, 50, 50, 57]⟩, .string ⟨#[50, 56, 48, 50, 50, 57]⟩, .string ⟨#[50, 53, 49, 51, 48, 49]⟩, .string ⟨#[50, 53, 60, 60, 60, 60]⟩, .string ⟨#[48, 48, 48, 48, 48, 48]⟩] 9))
    have hlt : W.heap.size < (W.alloc (.cells #[.string ⟨#[]⟩, .string ⟨#[50, 53, 48, 50, 50, 57]⟩, .string ⟨#[50, 56, 48, 50, 50, 57]⟩, .string ⟨#[50, 53, 49, 51, 48, 49]⟩, .string ⟨#[50, 53, 60, 60, 60, 60]⟩, .string ⟨#[48, 48, 48, 48, 48, 48]⟩] 9)).heap.size := by rw [size_alloc1]; omega
    generalize W.alloc (.cells #[.string ⟨#[]⟩, .string ⟨#[50, 53, 48, 50, 50, 57]⟩, .string ⟨#[50, 56, 48, 50, 50, 57]⟩, .string ⟨#[50, 53, 49, 51, 48, 49]⟩, .string ⟨#[50, 53, 60, 60, 60, 60]⟩, .string ⟨#[48, 48, 48, 48, 48, 48]⟩] 9) = W0 at hr hp hlt ⊢
    generalize W.heap.size = ga at hr hlt hgne ⊢
    refine (made_next B g 6 _ hp.2.2.1 (by decide) (by decide)).mono ?_; rintro e W1 ⟨v, v1, v2, rfl, hd1, hg1⟩
    replace hp := hp.dice hd1 hg1
    obtain ⟨k, rfl⟩ := Int.eq_ofNat_of_zero_le v1
    obtain ⟨S, hcell, hS⟩ := pick_text (P := fun s => decide (s.size ≤ 100)) hr hg1 hlt hgne k (by simp; omega) (by decide)
    have HS := Lib.hid (of_decide_eq_true hS)
    clear hS hr hlt hgne hd1 hg1 v1
    obtain ⟨x0, x1, x2, x3, x4, x5, x6, x7, x8, x9, x10, x11⟩ := hp.1.cells
    obtain ⟨y0, y1, y2, y3, y4, y5, y6, y7, y8, y9, y10, y11⟩ := hp.2.1.cells
    obtain ⟨f0, f1, f2, f3, f4, f5, f6, f7, f8, f9, f10, f11⟩ := hp.frees
    obtain ⟨q0, q1, q2, q3, q4, q5, q6, q7, q8, q9, q10, q11⟩ := hp.frees2
    go_upto_region 25 with fail
    have hp' : PZ w B g g2 g3 (⟨z.fmt, z.kind, z.state, z.sur, z.giv, z.num, z.nat, z.birth, z.sex, S, z.opt, z.sec⟩ : Zn.Z) (W1.setCell ⟨g3, 9, none⟩ (.string S)) := hp.set 9 _ _ rfl
    clear hp hcell v2 x0 x1 x2 x3 x4 x5 x6 x7 x8 x9 x10 x11 y0 y1 y2 y3 y4 y5 y6 y7 y8 y9 y10 y11 f0 f1 f2 f3 f4 f5 f6 f7 f8 f9 f10 f11 q0 q1 q2 q3 q4 q5 q6 q7 q8 q9 q10 q11
    generalize W1.setCell ⟨g3, 9, none⟩ (.string S) = W5 at hp' ⊢
    have hp := hp'
    replace hp := hp'
    clear hp'
    obtain ⟨x0, x1, x2, x3, x4, x5, x6, x7, x8, x9, x10, x11⟩ := hp.1.cells
    obtain ⟨y0, y1, y2, y3, y4, y5, y6, y7, y8, y9, y10, y11⟩ := hp.2.1.cells
    obtain ⟨f0, f1, f2, f3, f4, f5, f6, f7, f8, f9, f10, f11⟩ := hp.frees
    obtain ⟨q0, q1, q2, q3, q4, q5, q6, q7, q8, q9, q10, q11⟩ := hp.frees2
    have HPF := Lib.hid hp
    clear hp
    go_wp2_with fail
    exact odd_ret (z := (⟨z.fmt, z.kind, z.state, z.sur, z.giv, z.num, z.nat, z.birth, z.sex, S, z.opt, z.sec⟩ : Zn.Z)) HPF.out (by have hz := HZ.out; unfold Zn.Z.fits at *; have hs := HS.out; dsimp only at *; omega) rfl
  · go_wp2_with fail
    have hr : TextsAt (W.alloc (.cells #[.string ⟨#[60, 65]⟩, .string ⟨#[65, 60]⟩, .string ⟨#[65, 60, 66]⟩, .string ⟨#[97]⟩, .string ⟨#[65, 66, 67, 68, 69, 70, 71, 72, 73, 74, 75, 76, 77, 78, 79, 80]⟩] 9)) (some ⟨W.heap.size, 0, none⟩) [⟨#[60, 65]⟩, ⟨#[65, 60]⟩, ⟨#[65, 60, 66]⟩, ⟨#[97]⟩, ⟨#[65, 66, 67, 68, 69, 70, 71, 72, 73, 74, 75, 76, 77, 78, 79, 80]⟩] := texts_new11 W _
    replace hp := hp.later (below_alloc1 W (.cells #[.string ⟨#[60, 65]⟩, .string ⟨#[65, 60]⟩, .string ⟨#[65, 60, 66]⟩, .string ⟨#[97]⟩, .string ⟨#[65, 66, 67, 68, 69, 70, 71, 72, 73, 74, 75, 76, 77, 78, 79, 80]⟩] 9))
    have hlt : W.heap.size < (W.alloc (.cells #[.string ⟨#[60, 65]⟩, .string ⟨#[65, 60]⟩, .string ⟨#[65, 60, 66]⟩, .string ⟨#[97]⟩, .string ⟨#[65, 66, 67, 68, 69, 70, 71, 72, 73, 74, 75, 76, 77, 78, 79, 80]⟩] 9)).heap.size := by rw [size_alloc1]; omega
    generalize W.alloc (.cells #[.string ⟨#[60, 65]⟩, .string ⟨#[65, 60]⟩, .string ⟨#[65, 60, 66]⟩, .string ⟨#[97]⟩, .string ⟨#[65, 66, 67, 68, 69, 70, 71, 72, 73, 74, 75, 76, 77, 78, 79, 80]⟩] 9) = W0 at hr hp hlt ⊢
    generalize W.heap.size = ga at hr hlt hgne ⊢
    refine (made_next B g 5 _ hp.2.2.1 (by decide) (by decide)).mono ?_; rintro e W1 ⟨v, v1, v2, rfl, hd1, hg1⟩
    replace hp := hp.dice hd1 hg1
    obtain ⟨k, rfl⟩ := Int.eq_ofNat_of_zero_le v1
    obtain ⟨S, hcell, hS⟩ := pick_text (P := fun s => decide (s.size ≤ 100)) hr hg1 hlt hgne k (by simp; omega) (by decide)
    have HS := Lib.hid (of_decide_eq_true hS)
    clear hS hr hlt hgne hd1 hg1 v1
    obtain ⟨x0, x1, x2, x3, x4, x5, x6, x7, x8, x9, x10, x11⟩ := hp.1.cells
    obtain ⟨y0, y1, y2, y3, y4, y5, y6, y7, y8, y9, y10, y11⟩ := hp.2.1.cells
    obtain ⟨f0, f1, f2, f3, f4, f5, f6, f7, f8, f9, f10, f11⟩ := hp.frees
    obtain ⟨q0, q1, q2, q3, q4, q5, q6, q7, q8, q9, q10, q11⟩ := hp.frees2
    go_upto_region 25 with fail
    have hp' : PZ w B g g2 g3 (⟨z.fmt, z.kind, z.state, z.sur, z.giv, z.num, z.nat, z.birth, z.sex, z.exp, S, z.sec⟩ : Zn.Z) (W1.setCell ⟨g3, 10, none⟩ (.string S)) := hp.set 10 _ _ rfl
    clear hp hcell v2 x0 x1 x2 x3 x4 x5 x6 x7 x8 x9 x10 x11 y0 y1 y2 y3 y4 y5 y6 y7 y8 y9 y10 y11 f0 f1 f2 f3 f4 f5 f6 f7 f8 f9 f10 f11 q0 q1 q2 q3 q4 q5 q6 q7 q8 q9 q10 q11
    generalize W1.setCell ⟨g3, 10, none⟩ (.string S) = W5 at hp' ⊢
    have hp := hp'
    replace hp := hp'
    clear hp'
    obtain ⟨x0, x1, x2, x3, x4, x5, x6, x7, x8, x9, x10, x11⟩ := hp.1.cells
    obtain ⟨y0, y1, y2, y3, y4, y5, y6, y7, y8, y9, y10, y11⟩ := hp.2.1.cells
    obtain ⟨f0, f1, f2, f3, f4, f5, f6, f7, f8, f9, f10, f11⟩ := hp.frees
    obtain ⟨q0, q1, q2, q3, q4, q5, q6, q7, q8, q9, q10, q11⟩ := hp.frees2
    have HPF := Lib.hid hp
    clear hp
    go_wp2_with fail
    exact odd_ret (z := (⟨z.fmt, z.kind, z.state, z.sur, z.giv, z.num, z.nat, z.birth, z.sex, z.exp, S, z.sec⟩ : Zn.Z)) HPF.out (by have hz := HZ.out; unfold Zn.Z.fits at *; have hs := HS.out; dsimp only at *; omega) rfl
  · go_wp2_with fail
    have hr : TextsAt (W.alloc (.cells #[.string ⟨#[65]⟩, .string ⟨#[60]⟩, .string ⟨#[65, 66, 67, 68, 69, 70, 71, 72, 73, 74, 75, 76]⟩, .string ⟨#[65, 60, 49]⟩] 9)) (some ⟨W.heap.size, 0, none⟩) [⟨#[65]⟩, ⟨#[60]⟩, ⟨#[65, 66, 67, 68, 69, 70, 71, 72, 73, 74, 75, 76]⟩, ⟨#[65, 60, 49]⟩] := texts_new11 W _
    replace hp := hp.later (below_alloc1 W (.cells #[.string ⟨#[65]⟩, .string ⟨#[60]⟩, .string ⟨#[65, 66, 67, 68, 69, 70, 71, 72, 73, 74, 75, 76]⟩, .string ⟨#[65, 60, 49]⟩] 9))
    have hlt : W.heap.size < (W.alloc (.cells #[.string ⟨#[65]⟩, .string ⟨#[60]⟩, .string ⟨#[65, 66, 67, 68, 69, 70, 71, 72, 73, 74, 75, 76]⟩, .string ⟨#[65, 60, 49]⟩] 9)).heap.size := by rw [size_alloc1]; omega
    generalize W.alloc (.cells #[.string ⟨#[65]⟩, .string ⟨#[60]⟩, .string ⟨#[65, 66, 67, 68, 69, 70, 71, 72, 73, 74, 75, 76]⟩, .string ⟨#[65, 60, 49]⟩] 9) = W0 at hr hp hlt ⊢
    generalize W.heap.size = ga at hr hlt hgne ⊢
    refine (made_next B g 4 _ hp.2.2.1 (by decide) (by decide)).mono ?_; rintro e W1 ⟨v, v1, v2, rfl, hd1, hg1⟩
    replace hp := hp.dice hd1 hg1
    obtain ⟨k, rfl⟩ := Int.eq_ofNat_of_zero_le v1
    obtain ⟨S, hcell, hS⟩ := pick_text (P := fun s => decide (s.size ≤ 100)) hr hg1 hlt hgne k (by simp; omega) (by decide)
    have HS := Lib.hid (of_decide_eq_true hS)
    clear hS hr hlt hgne hd1 hg1 v1
    obtain ⟨x0, x1, x2, x3, x4, x5, x6, x7, x8, x9, x10, x11⟩ := hp.1.cells
    obtain ⟨y0, y1, y2, y3, y4, y5, y6, y7, y8, y9, y10, y11⟩ := hp.2.1.cells
    obtain ⟨f0, f1, f2, f3, f4, f5, f6, f7, f8, f9, f10, f11⟩ := hp.frees
    obtain ⟨q0, q1, q2, q3, q4, q5, q6, q7, q8, q9, q10, q11⟩ := hp.frees2
    go_upto_region 25 with fail
    have hp' : PZ w B g g2 g3 (⟨z.fmt, z.kind, z.state, z.sur, z.giv, z.num, z.nat, z.birth, z.sex, z.exp, z.opt, S⟩ : Zn.Z) (W1.setCell ⟨g3, 11, none⟩ (.string S)) := hp.set 11 _ _ rfl
    clear hp hcell v2 x0 x1 x2 x3 x4 x5 x6 x7 x8 x9 x10 x11 y0 y1 y2 y3 y4 y5 y6 y7 y8 y9 y10 y11 f0 f1 f2 f3 f4 f5 f6 f7 f8 f9 f10 f11 q0 q1 q2 q3 q4 q5 q6 q7 q8 q9 q10 q11
    generalize W1.setCell ⟨g3, 11, none⟩ (.string S) = W5 at hp' ⊢
    have hp := hp'
    replace hp := hp'
    clear hp'
    obtain ⟨x0, x1, x2, x3, x4, x5, x6, x7, x8, x9, x10, x11⟩ := hp.1.cells
    obtain ⟨y0, y1, y2, y3, y4, y5, y6, y7, y8, y9, y10, y11⟩ := hp.2.1.cells
    obtain ⟨f0, f1, f2, f3, f4, f5, f6, f7, f8, f9, f10, f11⟩ := hp.frees
    obtain ⟨q0, q1, q2, q3, q4, q5, q6, q7, q8, q9, q10, q11⟩ := hp.frees2
    have HPF := Lib.hid hp
    clear hp
    go_wp2_with fail
    exact odd_ret (z := (⟨z.fmt, z.kind, z.state, z.sur, z.giv, z.num, z.nat, z.birth, z.sex, z.exp, z.opt, S⟩ : Zn.Z)) HPF.out (by have hz := HZ.out; unfold Zn.Z.fits at *; have hs := HS.out; dsimp only at *; omega) rfl
  · go_wp2_with fail
    have hr : TextsAt (W.alloc (.cells #[.string ⟨#[]⟩, .string ⟨#[85, 84, 79, 80]⟩, .string ⟨#[117]⟩] 9)) (some ⟨W.heap.size, 0, none⟩) [⟨#[]⟩, ⟨#[85, 84, 79, 80]⟩, ⟨#[117]⟩] := texts_new11 W _
    replace hp := hp.later (below_alloc1 W (.cells #[.string ⟨#[]⟩, .string ⟨#[85, 84, 79, 80]⟩, .string ⟨#[117]⟩] 9))
    have hlt : W.heap.size < (W.alloc (.cells #[.string ⟨#[]⟩, .string ⟨#[85, 84, 79, 80]⟩, .string ⟨#[117]⟩] 9)).heap.size := by rw [size_alloc1]; omega
    generalize W.alloc (.cells #[.string ⟨#[]⟩, .string ⟨#[85, 84, 79, 80]⟩, .string ⟨#[117]⟩] 9) = W0 at hr hp hlt ⊢
    generalize W.heap.size = ga at hr hlt hgne ⊢
    refine (made_next B g 3 _ hp.2.2.1 (by decide) (by decide)).mono ?_; rintro e W1 ⟨v, v1, v2, rfl, hd1, hg1⟩
    replace hp := hp.dice hd1 hg1
    obtain ⟨k, rfl⟩ := Int.eq_ofNat_of_zero_le v1
    obtain ⟨S, hcell, hS⟩ := pick_text (P := fun s => decide (s.size ≤ 100)) hr hg1 hlt hgne k (by simp; omega) (by decide)
    have HS := Lib.hid (of_decide_eq_true hS)
    clear hS hr hlt hgne hd1 hg1 v1
    obtain ⟨x0, x1, x2, x3, x4, x5, x6, x7, x8, x9, x10, x11⟩ := hp.1.cells
    obtain ⟨y0, y1, y2, y3, y4, y5, y6, y7, y8, y9, y10, y11⟩ := hp.2.1.cells
    obtain ⟨f0, f1, f2, f3, f4, f5, f6, f7, f8, f9, f10, f11⟩ := hp.frees
    obtain ⟨q0, q1, q2, q3, q4, q5, q6, q7, q8, q9, q10, q11⟩ := hp.frees2
    go_upto_region 25 with fail
    have hp' : PZ w B g g2 g3 (⟨z.fmt, z.kind, z.state, z.sur, z.giv, z.num, S, z.birth, z.sex, z.exp, z.opt, z.sec⟩ : Zn.Z) (W1.setCell ⟨g3, 6, none⟩ (.string S)) := hp.set 6 _ _ rfl
    clear hp hcell v2 x0 x1 x2 x3 x4 x5 x6 x7 x8 x9 x10 x11 y0 y1 y2 y3 y4 y5 y6 y7 y8 y9 y10 y11 f0 f1 f2 f3 f4 f5 f6 f7 f8 f9 f10 f11 q0 q1 q2 q3 q4 q5 q6 q7 q8 q9 q10 q11
    generalize W1.setCell ⟨g3, 6, none⟩ (.string S) = W5 at hp' ⊢
    have hp := hp'
    replace hp := hp'
    clear hp'
    obtain ⟨x0, x1, x2, x3, x4, x5, x6, x7, x8, x9, x10, x11⟩ := hp.1.cells
    obtain ⟨y0, y1, y2, y3, y4, y5, y6, y7, y8, y9, y10, y11⟩ := hp.2.1.cells
    obtain ⟨f0, f1, f2, f3, f4, f5, f6, f7, f8, f9, f10, f11⟩ := hp.frees
    obtain ⟨q0, q1, q2, q3, q4, q5, q6, q7, q8, q9, q10, q11⟩ := hp.frees2
    have HPF := Lib.hid hp
    clear hp
    go_wp2_with fail
    exact odd_ret (z := (⟨z.fmt, z.kind, z.state, z.sur, z.giv, z.num, S, z.birth, z.sex, z.exp, z.opt, z.sec⟩ : Zn.Z)) HPF.out (by have hz := HZ.out; unfold Zn.Z.fits at *; have hs := HS.out; dsimp only at *; omega) rfl
end Go.Proofs.YtelngghecmkipaaGreatDoor
