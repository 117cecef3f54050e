
/- The plain calendar of chapter 3: leap years, days of a month, days before a year, and the date of a day. No program in sight. -/
namespace Go.Proofs.YtelngghecmkipaaGreatDoor.Dat

/-- Is y a leap year (1900 to 2099). -/
def lp (y : Int) : Bool := decide (y % 4 = 0) && decide (y ≠ 1900)
/-- One for a leap year. -/
def lpi (y : Int) : Int := if lp y = true then 1 else 0
/-- The days of a month. -/
def dim (y m : Int) : Int :=
  if m = 2 then 28 + lpi y else if m = 4 then 30 else if m = 6 then 30 else if m = 9 then 30 else if m = 11 then 30 else 31
/-- The days before a year. -/
def bef (y : Int) : Int := if y ≤ 1900 then 365 * (y - 1900) else 365 * (y - 1900) + (y - 1901) / 4
/-- The days of a year before a month. -/
def cum (y m : Int) : Int :=
  if m ≤ 1 then 0 else if m = 2 then 31 else lpi y + (if m = 3 then 59 else if m = 4 then 90 else if m = 5 then 120 else if m = 6 then 151 else
    if m = 7 then 181 else if m = 8 then 212 else if m = 9 then 243 else if m = 10 then 273 else if m = 11 then 304 else if m = 12 then 334 else 365)
/-- The day of a date. -/
def num (y m d : Int) : Int := bef y + cum y m + d - 1
/-- Is it a date. -/
def vld (y m d : Int) : Prop := 1900 ≤ y ∧ y ≤ 2099 ∧ 1 ≤ m ∧ m ≤ 12 ∧ 1 ≤ d ∧ d ≤ dim y m

theorem lpi_01 (y : Int) : 0 ≤ lpi y ∧ lpi y ≤ 1 := by unfold lpi; split <;> omega
theorem lpi_eq (y : Int) : lpi y = if y % 4 = 0 ∧ y ≠ 1900 then 1 else 0 := by
  unfold lpi lp; by_cases h1 : y % 4 = 0 <;> by_cases h2 : y = 1900 <;> simp [h1, h2]
theorem dim_bd (y m : Int) : 28 ≤ dim y m ∧ dim y m ≤ 31 := by
  have := lpi_01 y; unfold dim; repeat' split
  all_goals omega
theorem bef_succ (y : Int) (h : 1900 ≤ y) : bef (y + 1) = bef y + 365 + lpi y := by
  rw [lpi_eq]; unfold bef; repeat' split
  all_goals omega
theorem bef_first : bef 1900 = 0 := by unfold bef; simp
theorem bef_mono (a b : Int) (h : a ≤ b) : bef a ≤ bef b := by unfold bef; repeat' split
                                                               all_goals omega
theorem bef_lt (a b : Int) (h : a < b) : bef a + 365 ≤ bef b := by unfold bef; repeat' split
                                                                   all_goals omega
theorem bef_lt' (a b : Int) (h1 : 1900 ≤ a) (h : a < b) : bef a + 365 + lpi a ≤ bef b := by
  rw [← bef_succ a h1]; exact bef_mono _ _ (by omega)
theorem bef_bd (y : Int) (h : 1900 ≤ y) (h' : y ≤ 2100) : 0 ≤ bef y ∧ bef y ≤ 73049 := by unfold bef; split <;> omega
theorem bef_last : bef 2100 = 73049 := by unfold bef; simp
theorem cum_first (y : Int) : cum y 1 = 0 := by unfold cum; simp
theorem cum_succ (y m : Int) (h1 : 1 ≤ m) (h2 : m ≤ 12) : cum y (m + 1) = cum y m + dim y m := by
  unfold cum dim
  repeat' split
  all_goals omega
theorem cum_end (y : Int) : cum y 13 = 365 + lpi y := by unfold cum; simp; omega
theorem cum_bd (y m : Int) : 0 ≤ cum y m ∧ cum y m ≤ 366 := by
  have := lpi_01 y; unfold cum; repeat' split
  all_goals omega
theorem cum_mono (y a b : Int) (h : a < b) (h1 : 1 ≤ a) (h2 : b ≤ 13) : cum y a + dim y a ≤ cum y b := by
  have hl := lpi_01 y
  have h3 : cum y (a + 1) = cum y a + dim y a := cum_succ y a h1 (by omega)
  rw [← h3]
  unfold cum
  repeat' split
  all_goals omega
theorem cum_last (y m d : Int) (h1 : 1 ≤ m) (h2 : m ≤ 12) (h3 : d ≤ dim y m) : cum y m + d ≤ 365 + lpi y := by
  rw [← cum_end]; have := cum_mono y m 13 (by omega) h1 (by omega); omega
theorem num_bd {y m d : Int} (h : vld y m d) : 0 ≤ num y m d ∧ num y m d ≤ 73048 := by
  obtain ⟨h1, h2, h3, h4, h5, h6⟩ := h
  have b1 := bef_bd y h1 (by omega)
  have b2 := cum_bd y m
  have b3 := cum_last y m d h3 h4 h6
  have b4 := bef_succ y h1
  have b5 := bef_mono (y + 1) 2100 (by omega)
  rw [bef_last] at b5
  unfold num; omega
/-- Of two dates the one with the later year is the later. -/
theorem num_year {y m d y' m' d' : Int} (h : vld y m d) (h' : vld y' m' d') (hy : y < y') : num y m d < num y' m' d' := by
  obtain ⟨h1, h2, h3, h4, h5, h6⟩ := h
  obtain ⟨g1, g2, g3, g4, g5, g6⟩ := h'
  have b2 := cum_bd y' m'
  have b3 := cum_last y m d h3 h4 h6
  have b4 := bef_lt' y y' h1 hy
  unfold num; omega
theorem num_month {y m d m' d' : Int} (h : vld y m d) (h' : vld y m' d') (hy : m < m') : num y m d < num y m' d' := by
  obtain ⟨h1, h2, h3, h4, h5, h6⟩ := h
  obtain ⟨g1, g2, g3, g4, g5, g6⟩ := h'
  have b4 := cum_mono y m m' hy h3 (by omega)
  unfold num; omega
theorem num_inj {y m d y' m' d' : Int} (h : vld y m d) (h' : vld y' m' d') (e : num y m d = num y' m' d') : y = y' ∧ m = m' ∧ d = d' := by
  have e1 : y = y' := by
    rcases Int.lt_trichotomy y y' with g | g | g
    · have := num_year h h' g; omega
    · exact g
    · have := num_year h' h g; omega
  subst e1
  have e2 : m = m' := by
    rcases Int.lt_trichotomy m m' with g | g | g
    · have := num_month h h' g; omega
    · exact g
    · have := num_month h' h g; omega
  subst e2
  unfold num at e
  exact ⟨rfl, rfl, by omega⟩

/-- The year of a day. -/
def yOf (n : Int) : Int := if n < 365 then 1900 else 1901 + (4 * (n - 365) + 3) / 1461
/-- The month of the r-th day of a year. -/
def monthOf (y r : Int) : Int :=
  if r < 31 then 1 else if r < 59 + lpi y then 2 else if r < 90 + lpi y then 3 else if r < 120 + lpi y then 4 else if r < 151 + lpi y then 5 else if r < 181 + lpi y then 6 else
    if r < 212 + lpi y then 7 else if r < 243 + lpi y then 8 else if r < 273 + lpi y then 9 else if r < 304 + lpi y then 10 else if r < 334 + lpi y then 11 else 12
def mOf (n : Int) : Int := monthOf (yOf n) (n - bef (yOf n))
def dOf (n : Int) : Int := n - bef (yOf n) - cum (yOf n) (mOf n) + 1
theorem yOf_ok (n : Int) (h : 0 ≤ n) (h' : n ≤ 73048) : 1900 ≤ yOf n ∧ yOf n ≤ 2099 ∧ bef (yOf n) ≤ n ∧ n < bef (yOf n + 1) := by
  unfold yOf bef
  split
  · simp; omega
  · refine ⟨by omega, by omega, ?_, ?_⟩
    · rw [if_neg (by omega)]; omega
    · rw [if_neg (by omega)]; omega
theorem month_ok (y r : Int) (h : 0 ≤ r) (h' : r < 365 + lpi y) : 1 ≤ monthOf y r ∧ monthOf y r ≤ 12 ∧ cum y (monthOf y r) ≤ r ∧ r < cum y (monthOf y r) + dim y (monthOf y r) := by
  have hl := lpi_01 y
  unfold monthOf
  repeat' split
  all_goals (unfold cum dim; simp; omega)
theorem parts_ok (n : Int) (h : 0 ≤ n) (h' : n ≤ 73048) : vld (yOf n) (mOf n) (dOf n) ∧ num (yOf n) (mOf n) (dOf n) = n := by
  obtain ⟨a, b, c, d⟩ := yOf_ok n h h'
  rw [bef_succ _ a] at d
  obtain ⟨e, f, g, k⟩ := month_ok (yOf n) (n - bef (yOf n)) (by omega) (by omega)
  have hm : mOf n = monthOf (yOf n) (n - bef (yOf n)) := rfl
  rw [← hm] at e f g k
  refine ⟨⟨a, b, e, f, ?_, ?_⟩, ?_⟩ <;> simp only [dOf, num] <;> omega
theorem parts_of {y m d : Int} (h : vld y m d) : yOf (num y m d) = y ∧ mOf (num y m d) = m ∧ dOf (num y m d) = d := by
  obtain ⟨a, b⟩ := num_bd h
  obtain ⟨c, e⟩ := parts_ok _ a b
  exact num_inj c h e
theorem parts_is {y m d n : Int} (h : vld y m d) (e : num y m d = n) : y = yOf n ∧ m = mOf n ∧ d = dOf n := by
  subst e; obtain ⟨a, b, c⟩ := parts_of h; exact ⟨a.symm, b.symm, c.symm⟩
end Go.Proofs.YtelngghecmkipaaGreatDoor.Dat
