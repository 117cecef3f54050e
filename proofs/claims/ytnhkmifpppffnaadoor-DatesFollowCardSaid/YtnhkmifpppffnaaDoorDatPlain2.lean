/- Plain laws of chapter 3: the next date, months that are added, ages that grow, windows of a hundred years. -/
import Derived.Test.YtnhkmifpppffnaaDoorDatParse
namespace Go.Proofs.YtnhkmifpppffnaaDoor.Dat
open Go.RowKit

/-- The date of the next day. -/
theorem follow (n : Int) (h : 0 ≤ n) (h' : n ≤ 73047) :
    (dOf n < dim (yOf n) (mOf n) ∧ yOf (n + 1) = yOf n ∧ mOf (n + 1) = mOf n ∧ dOf (n + 1) = dOf n + 1) ∨
    (28 ≤ dOf n ∧ mOf n < 12 ∧ yOf (n + 1) = yOf n ∧ mOf (n + 1) = mOf n + 1 ∧ dOf (n + 1) = 1) ∨
    (28 ≤ dOf n ∧ mOf n = 12 ∧ yOf (n + 1) = yOf n + 1 ∧ mOf (n + 1) = 1 ∧ dOf (n + 1) = 1) := by
  obtain ⟨⟨h1, h2, h3, h4, h5, h6⟩, e⟩ := parts_ok n h (by omega)
  have hd := dim_bd (yOf n) (mOf n)
  by_cases c : dOf n < dim (yOf n) (mOf n)
  · have hv : vld (yOf n) (mOf n) (dOf n + 1) := ⟨h1, h2, h3, h4, by omega, by omega⟩
    have hn : num (yOf n) (mOf n) (dOf n + 1) = n + 1 := by unfold num at e ⊢; omega
    obtain ⟨a, b, g⟩ := parts_is hv hn
    exact .inl ⟨c, a.symm, b.symm, g.symm⟩
  · have cs := cum_succ (yOf n) (mOf n) h3 h4
    by_cases c2 : mOf n < 12
    · have hv : vld (yOf n) (mOf n + 1) 1 := ⟨h1, h2, by omega, by omega, by omega, by have := dim_bd (yOf n) (mOf n + 1); omega⟩
      have hn : num (yOf n) (mOf n + 1) 1 = n + 1 := by unfold num at e ⊢; omega
      obtain ⟨a, b, g⟩ := parts_is hv hn
      exact .inr (.inl ⟨by omega, c2, a.symm, b.symm, g.symm⟩)
    · have hm : mOf n = 12 := by omega
      have ce := cum_end (yOf n)
      have bs := bef_succ (yOf n) h1
      have hy : yOf n + 1 ≤ 2099 := by
        rcases Int.lt_or_le (yOf n) 2099 with g | g
        · omega
        · have e1 : yOf n = 2099 := by omega
          have e2 := bef_last
          rw [e1] at bs e ce cs; rw [hm] at cs e; unfold num at e
          rw [show (2099 : Int) + 1 = 2100 by omega] at bs
          rw [show (12 : Int) + 1 = 13 by omega] at cs
          rw [hm, e1] at c h6
          omega
      have hv : vld (yOf n + 1) 1 1 := ⟨by omega, hy, by omega, by omega, by omega, by have := dim_bd (yOf n + 1) 1; omega⟩
      have hn : num (yOf n + 1) 1 1 = n + 1 := by
        unfold num at e ⊢
        rw [cum_first]
        rw [hm] at e cs c h6
        rw [show (12 : Int) + 1 = 13 by omega] at cs
        omega
      obtain ⟨a, b, g⟩ := parts_is hv hn
      exact .inr (.inr ⟨by omega, hm, a.symm, b.symm, g.symm⟩)

/-- The first day of month k. -/
def S (k : Int) : Int := bef (1900 + k / 12) + cum (1900 + k / 12) (k % 12 + 1)
def dimK (k : Int) : Int := dim (1900 + k / 12) (k % 12 + 1)
theorem atMonth_eq (k d : Int) : atMonth k d = S k + cut k d - 1 := rfl
theorem cut_eq (k d : Int) : cut k d = if d ≤ dimK k then d else dimK k := rfl
theorem dimK_bd (k : Int) : 28 ≤ dimK k ∧ dimK k ≤ 31 := dim_bd _ _
theorem S_succ (k : Int) (h : 0 ≤ k) : S (k + 1) = S k + dimK k := by
  unfold S dimK
  by_cases c : k % 12 < 11
  · have e1 : (k + 1) / 12 = k / 12 := by omega
    have e2 : (k + 1) % 12 + 1 = k % 12 + 1 + 1 := by omega
    rw [e1, e2, cum_succ _ _ (by omega) (by omega)]
    omega
  · have e1 : (1900 + (k + 1) / 12) = (1900 + k / 12) + 1 := by omega
    have e2 : (k + 1) % 12 + 1 = 1 := by omega
    have e3 : k % 12 + 1 = 12 := by omega
    have cs := cum_succ (1900 + k / 12) 12 (by omega) (by omega)
    rw [show (12 : Int) + 1 = 13 by omega, cum_end] at cs
    rw [e1, e2, e3, cum_first, bef_succ _ (by omega)]
    omega
theorem S_add (k : Int) (h : 0 ≤ k) : ∀ j : Nat, S k + 28 * j ≤ S (k + j) ∧ S (k + j) ≤ S k + 31 * j ∧ (1 ≤ j → S k + dimK k + 28 * (j - 1) ≤ S (k + j))
  | 0 => by simp
  | j + 1 => by
    obtain ⟨a, b, c⟩ := S_add k h j
    have e := S_succ (k + j) (by omega)
    have d := dimK_bd (k + j)
    have d0 := dimK_bd k
    have e2 : k + ((j + 1 : Nat) : Int) = k + j + 1 := by omega
    rw [e2, e]
    refine ⟨by omega, by omega, fun _ => ?_⟩
    rcases Nat.eq_zero_or_pos j with rfl | hj
    · simp
    · have := c hj; omega
/-- The month of a day of month k. -/
theorem mix_at (k d : Int) (h : 0 ≤ k) (h' : k ≤ 2399) (hd : 1 ≤ d) : inR (atMonth k d) ∧ mix (atMonth k d) = k ∧ dOf (atMonth k d) = cut k d ∧ yOf (atMonth k d) = 1900 + k / 12 ∧ mOf (atMonth k d) = k % 12 + 1 := by
  have hv := atMonth_vld k d h h' hd
  obtain ⟨a, b, c⟩ := parts_of hv
  have hb := num_bd hv
  refine ⟨hb, ?_, c, a, b⟩
  unfold mix atMonth
  rw [a, b]; omega
theorem mix_day (n : Int) (hn : inR n) : 0 ≤ mix n ∧ mix n ≤ 2399 ∧ 1900 + mix n / 12 = yOf n ∧ mix n % 12 + 1 = mOf n ∧ n = S (mix n) + dOf n - 1 ∧ dOf n ≤ dimK (mix n) ∧ 1 ≤ dOf n := by
  obtain ⟨⟨h1, h2, h3, h4, h5, h6⟩, e⟩ := parts_ok n hn.1 hn.2
  have e1 : 1900 + mix n / 12 = yOf n := by unfold mix; omega
  have e2 : mix n % 12 + 1 = mOf n := by unfold mix; omega
  refine ⟨by unfold mix; omega, by unfold mix; omega, e1, e2, ?_, ?_, h5⟩
  · unfold S; rw [e1, e2]; unfold num at e; omega
  · unfold dimK; rw [e1, e2]; exact h6
theorem moV_yes (n k : Int) (h1 : -2400 ≤ k) (h2 : k ≤ 2400) (hn : inR n) (h3 : 0 ≤ mix n + k) (h4 : mix n + k ≤ 2399) : moV n k = atMonth (mix n + k) (dOf n) := by
  unfold moV; rw [if_neg]; rintro (h | h | h | h | h)
  · omega
  · omega
  · exact h hn
  · omega
  · omega
/-- Months later and as many earlier. -/
theorem months_add (n k : Int) (hn : inR n) (h0 : 0 ≤ k) (h1 : k ≤ 199) (hE : moE n k ≠ 8) :
    moE n k = 0 ∧ moE (moV n k) (-k) = 0 ∧ inR (moV (moV n k) (-k)) ∧ yOf (moV (moV n k) (-k)) = yOf n ∧ mOf (moV (moV n k) (-k)) = mOf n ∧ dOf (moV (moV n k) (-k)) ≤ dOf n ∧
      (dOf n ≤ 28 → dOf (moV (moV n k) (-k)) = dOf n) ∧ 28 * k ≤ moV n k - n ∧ moV n k - n ≤ 31 * k := by
  obtain ⟨m0, m1, m2, m3, m4, m5, m6⟩ := mix_day n hn
  have hr : ¬ (k < -2400 ∨ 2400 < k) := by omega
  have hx : ¬ (¬ inR n ∨ mix n + k < 0 ∨ 2399 < mix n + k) := by
    intro hh; apply hE; unfold moE; rw [if_neg hr, if_pos hh]
  have hk : mix n + k ≤ 2399 := by
    rcases Int.lt_or_le 2399 (mix n + k) with g | g
    · exact absurd (.inr (.inr g)) hx
    · exact g
  have e0 : moE n k = 0 := by unfold moE; rw [if_neg hr, if_neg hx]
  have e1 : moV n k = atMonth (mix n + k) (dOf n) := by
    unfold moV; rw [if_neg]; rintro (h | h | h | h | h)
    · omega
    · omega
    · exact h hn
    · omega
    · omega
  obtain ⟨a1, a2, a3, a4, a5⟩ := mix_at (mix n + k) (dOf n) (by omega) hk m6
  rw [← e1] at a1 a2 a3 a4 a5
  have c1 : 1 ≤ cut (mix n + k) (dOf n) ∧ cut (mix n + k) (dOf n) ≤ dOf n ∧ (dOf n ≤ 28 → cut (mix n + k) (dOf n) = dOf n) ∧ (cut (mix n + k) (dOf n) < dOf n → cut (mix n + k) (dOf n) = dimK (mix n + k)) := by
    have := dimK_bd (mix n + k)
    rw [cut_eq]; split <;> omega
  have f0 : moE (moV n k) (-k) = 0 := by
    unfold moE; rw [if_neg (by omega), if_neg]; rintro (h | h | h)
    · exact h a1
    · rw [a2] at h; omega
    · rw [a2] at h; omega
  have f1 : moV (moV n k) (-k) = atMonth (mix n) (cut (mix n + k) (dOf n)) := by
    rw [moV_yes (moV n k) (-k) (by omega) (by omega) a1 (by omega) (by omega), a2, a3]
    congr 1; omega
  obtain ⟨b1, b2, b3, b4, b5⟩ := mix_at (mix n) (cut (mix n + k) (dOf n)) m0 m1 c1.1
  rw [← f1] at b1 b2 b3 b4 b5
  have c2 : cut (mix n) (cut (mix n + k) (dOf n)) = cut (mix n + k) (dOf n) := by
    conv => lhs; rw [cut_eq]
    rw [if_pos (by omega)]
  obtain ⟨j, rfl⟩ := Int.eq_ofNat_of_zero_le h0
  have hs := S_add (mix n) m0 j
  have hdm := dimK_bd (mix n + j)
  have e1' := e1
  rw [atMonth_eq] at e1'
  refine ⟨e0, f0, b1, by rw [b4, m2], by rw [b5, m3], by rw [b3, c2]; omega, fun h => by rw [b3, c2]; exact c1.2.2.1 h, ?_, ?_⟩
  · rw [e1']
    rcases Nat.eq_zero_or_pos j with rfl | hj
    · have e9 : mix n + ((0 : Nat) : Int) = mix n := by omega
      rw [e9]
      have : cut (mix n) (dOf n) = dOf n := by rw [cut_eq, if_pos m5]
      omega
    · have := hs.2.2 hj
      by_cases g : cut (mix n + j) (dOf n) < dOf n
      · have := c1.2.2.2 g; omega
      · omega
  · rw [e1']; omega

/-- The date's place in another year. -/
theorem place_bd {y m d : Int} (h : vld y m d) (y' : Int) : 0 ≤ cum y' m + d - 1 ∧ cum y' m + d - 1 ≤ 364 + lpi y' := by
  obtain ⟨h1, h2, h3, h4, h5, h6⟩ := h
  have hl := lpi_01 y
  have hl' := lpi_01 y'
  have : m = 1 ∨ m = 2 ∨ m = 3 ∨ m = 4 ∨ m = 5 ∨ m = 6 ∨ m = 7 ∨ m = 8 ∨ m = 9 ∨ m = 10 ∨ m = 11 ∨ m = 12 := by omega
  rcases this with rfl | rfl | rfl | rfl | rfl | rfl | rfl | rfl | rfl | rfl | rfl | rfl <;> simp [dim] at h6 <;> simp [cum] <;> omega
/-- The j-th birthday. -/
def Bd (b j : Int) : Int := num (yOf b + j) (mOf b) (dOf b)
theorem Bd_step (b j : Int) (hb : inR b) (hj : 0 ≤ j) : Bd b j + 365 ≤ Bd b (j + 1) ∧ Bd b (j + 1) ≤ Bd b j + 366 := by
  obtain ⟨⟨h1, h2, h3, h4, h5, h6⟩, _⟩ := parts_ok b hb.1 hb.2
  have hs := bef_succ (yOf b + j) (by omega)
  have hl := lpi_01 (yOf b + j)
  have hl' := lpi_01 (yOf b + j + 1)
  unfold Bd num
  rw [show yOf b + (j + 1) = yOf b + j + 1 by omega, hs]
  have hc : cum (yOf b + j + 1) (mOf b) - cum (yOf b + j) (mOf b) = if mOf b ≤ 2 then 0 else lpi (yOf b + j + 1) - lpi (yOf b + j) := by
    by_cases c1 : mOf b ≤ 1
    · have l : ∀ y, cum y (mOf b) = 0 := fun y => by unfold cum; rw [if_pos c1]
      rw [l, l, if_pos (by omega)]; omega
    · by_cases c2 : mOf b = 2
      · have l : ∀ y, cum y (mOf b) = 31 := fun y => by unfold cum; rw [if_neg c1, if_pos c2]
        rw [l, l, if_pos (by omega)]; omega
      · rw [if_neg (by omega)]; unfold cum; simp only [c1, c2, if_false]; omega
  split at hc <;> omega
theorem Bd_mono (b : Int) (hb : inR b) (i : Int) (hi : 0 ≤ i) : ∀ k : Nat, Bd b i + 365 * k ≤ Bd b (i + k)
  | 0 => by simp
  | k + 1 => by
    have h1 := Bd_mono b hb i hi k
    have h2 := Bd_step b (i + k) hb (by omega)
    rw [show i + ((k + 1 : Nat) : Int) = i + k + 1 by omega]
    omega
theorem Bd_le (b : Int) (hb : inR b) (i j : Int) (hi : 0 ≤ i) (h : i ≤ j) : Bd b i + 365 * (j - i) ≤ Bd b j := by
  have := Bd_mono b hb i hi (j - i).toNat
  rw [show i + (((j - i).toNat : Nat) : Int) = j by omega] at this
  omega
theorem age_is (b n : Int) (hb : inR b) (hn : inR n) (h : b ≤ n) : agE b n = 0 ∧ 0 ≤ agV b n ∧ Bd b (agV b n) ≤ n ∧ n < Bd b (agV b n + 1) := by
  obtain ⟨hv, e⟩ := parts_ok b hb.1 hb.2
  obtain ⟨hv', e'⟩ := parts_ok n hn.1 hn.2
  have hy : yOf b ≤ yOf n := by
    rcases Int.lt_or_le (yOf n) (yOf b) with g | g
    · have := num_year hv' hv g; omega
    · exact g
  obtain ⟨h1, h2, h3, h4⟩ := yOf_ok n hn.1 hn.2
  have e1 : agV b n = yOf n - yOf b - if n < num (yOf n) (mOf b) (dOf b) then 1 else 0 := if_neg (by rintro (h | h | h) <;> first | omega | exact h (by assumption))
  have e2 : agE b n = 0 := (if_neg (by rintro (h | h) <;> exact h (by assumption))).trans (if_neg (by omega))
  refine ⟨e2, ?_⟩
  rw [e1]
  by_cases c : n < num (yOf n) (mOf b) (dOf b)
  · rw [if_pos c]
    have hne : yOf b ≠ yOf n := by intro hh; rw [← hh, e] at c; omega
    have p := place_bd hv (yOf n - 1)
    have hs := bef_succ (yOf n - 1) (by have := hv.1; omega)
    rw [show yOf n - 1 + 1 = yOf n by omega] at hs
    refine ⟨by omega, ?_, ?_⟩
    · unfold Bd num; rw [show yOf b + (yOf n - yOf b - 1) = yOf n - 1 by omega]; omega
    · unfold Bd; rw [show yOf b + (yOf n - yOf b - 1 + 1) = yOf n by omega]; exact c
  · rw [if_neg c]
    have p := place_bd hv (yOf n + 1)
    refine ⟨by omega, ?_, ?_⟩
    · unfold Bd; rw [show yOf b + (yOf n - yOf b - 0) = yOf n by omega]; omega
    · unfold Bd num; rw [show yOf b + (yOf n - yOf b - 0 + 1) = yOf n + 1 by omega]; omega
/-- Ages grow. -/
theorem ages_grow (b n : Int) (hb : inR b) (h : b ≤ n) (h' : n + 366 ≤ 73048) :
    agE b n = 0 ∧ agE b (n + 1) = 0 ∧ agE b (n + 366) = 0 ∧ 0 ≤ agV b n ∧ (agV b (n + 1) = agV b n ∨ agV b (n + 1) = agV b n + 1) ∧ (agV b (n + 366) = agV b n + 1 ∨ agV b (n + 366) = agV b n + 2) := by
  have hb0 := hb.1
  obtain ⟨a1, a2, a3, a4⟩ := age_is b n hb ⟨by omega, by omega⟩ h
  obtain ⟨b1, b2, b3, b4⟩ := age_is b (n + 1) hb ⟨by omega, by omega⟩ (by omega)
  obtain ⟨c1, c2, c3, c4⟩ := age_is b (n + 366) hb ⟨by omega, by omega⟩ (by omega)
  generalize agV b n = a at *
  generalize agV b (n + 1) = x at *
  generalize agV b (n + 366) = y at *
  have st := Bd_step b a hb a2
  refine ⟨a1, b1, c1, a2, ?_, ?_⟩
  · have g1 : a ≤ x := by
      rcases Int.lt_or_le x a with g | g
      · have := Bd_le b hb (x + 1) a (by omega) (by omega); omega
      · exact g
    have g2 : x ≤ a + 1 := by
      rcases Int.lt_or_le (a + 1) x with g | g
      · have := Bd_le b hb (a + 1) x (by omega) (by omega); omega
      · exact g
    omega
  · have g1 : a + 1 ≤ y := by
      rcases Int.lt_or_le a y with g | g
      · omega
      · have := Bd_le b hb (y + 1) (a + 1) (by omega) (by omega); omega
    have g2 : y ≤ a + 2 := by
      rcases Int.lt_or_le (a + 2) y with g | g
      · have := Bd_le b hb (a + 1) y (by omega) (by omega); omega
      · exact g
    omega

/-- The digits of a text of three numbers. -/
theorem fm_digits (a b c : Int) (ha : 0 ≤ a ∧ a ≤ 99) (hb : 0 ≤ b ∧ b ≤ 99) (hc : 0 ≤ c ∧ c ≤ 99) (s : ByteArray) (hs : s = ⟨(fm a b c 3).toArray⟩) :
    ∃ h : s.size = 6, allD (s[0]'(by omega)) (s[1]'(by omega)) (s[2]'(by omega)) (s[3]'(by omega)) (s[4]'(by omega)) (s[5]'(by omega)) ∧ 10 * dg (s[0]'(by omega)) + dg (s[1]'(by omega)) = a ∧
      10 * dg (s[2]'(by omega)) + dg (s[3]'(by omega)) = b ∧ 10 * dg (s[4]'(by omega)) + dg (s[5]'(by omega)) = c := by
  have h6 : s.size = 6 := by subst hs; rfl
  refine ⟨h6, ?_⟩
  have d0 := b8_toNat (48 + a / 10) (by omega) (by omega)
  have d1 := b8_toNat (48 + a % 10) (by omega) (by omega)
  have d2 := b8_toNat (48 + b / 10) (by omega) (by omega)
  have d3 := b8_toNat (48 + b % 10) (by omega) (by omega)
  have d4 := b8_toNat (48 + c / 10) (by omega) (by omega)
  have d5 := b8_toNat (48 + c % 10) (by omega) (by omega)
  have e0 : ∀ h : 0 < s.size, s[0]'h = b8 (48 + a / 10) := by subst hs; intro h; rfl
  have e1 : ∀ h : 1 < s.size, s[1]'h = b8 (48 + a % 10) := by subst hs; intro h; rfl
  have e2 : ∀ h : 2 < s.size, s[2]'h = b8 (48 + b / 10) := by subst hs; intro h; rfl
  have e3 : ∀ h : 3 < s.size, s[3]'h = b8 (48 + b % 10) := by subst hs; intro h; rfl
  have e4 : ∀ h : 4 < s.size, s[4]'h = b8 (48 + c / 10) := by subst hs; intro h; rfl
  have e5 : ∀ h : 5 < s.size, s[5]'h = b8 (48 + c % 10) := by subst hs; intro h; rfl
  unfold allD isD dg
  rw [e0, e1, e2, e3, e4, e5]
  omega
/-- What is read of a day's text. -/
theorem window (n f : Int) (hn : inR n) (h1 : 1900 ≤ f) (h2 : f ≤ 2000) :
    (f ≤ yOf n ∧ yOf n < f + 100 → prV (fmt n) f = n ∧ prE (fmt n) f = 0) ∧ (¬ (f ≤ yOf n ∧ yOf n < f + 100) → prE (fmt n) f ≠ 0 ∨ prV (fmt n) f ≠ n) := by
  obtain ⟨hv, e⟩ := parts_ok n hn.1 hn.2
  obtain ⟨g1, g2, g3, g4, g5, g6⟩ := hv
  have hd := dim_bd (yOf n) (mOf n)
  obtain ⟨hs, hall, ea, eb, ec⟩ := fm_digits (yOf n % 100) (mOf n) (dOf n) (by omega) (by omega) (by omega) (fmt n) rfl
  obtain ⟨pv, pe⟩ := pr_yes h1 h2 hs hall
  rw [ea, eb, ec] at pv pe
  rw [pv, pe]
  constructor
  · rintro ⟨k1, k2⟩
    have ey : yr f (yOf n % 100) = yOf n := by unfold yr; split <;> omega
    rw [ey]
    have hv' : vld (yOf n) (mOf n) (dOf n) := ⟨g1, g2, g3, g4, g5, g6⟩
    exact ⟨by unfold ofV; rw [if_pos hv', e], by unfold ofE; rw [if_pos hv']⟩
  · intro k
    by_cases hv' : vld (yr f (yOf n % 100)) (mOf n) (dOf n)
    · refine .inr ?_
      unfold ofV; rw [if_pos hv']
      intro hh
      have := num_inj hv' ⟨g1, g2, g3, g4, g5, g6⟩ (hh.trans e.symm)
      have ey : yr f (yOf n % 100) = yOf n := this.1
      unfold yr at ey
      split at ey <;> omega
    · exact .inl (by unfold ofE; rw [if_neg hv']; omega)
end Go.Proofs.YtnhkmifpppffnaaDoor.Dat
