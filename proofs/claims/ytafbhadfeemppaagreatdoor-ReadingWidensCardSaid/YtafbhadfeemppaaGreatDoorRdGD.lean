/- Chapter 12: several texts in one (DatPlain, DatWalks, DatParts, DatMonths, DatTexts). -/
import Derived.Test.YtafbhadfeemppaaGreatDoorRows
import Derived.Test.YtafbhadfeemppaaGreatDoorUtil

/- The plain calendar of chapter 3: leap years, days of a month, days before a year, and the date of a day. No program in sight. -/
namespace Go.Proofs.YtafbhadfeemppaaGreatDoor.Dat

/-- Is y a leap year (1900 to 2099). -/
def lp (y : Int) : Bool := decide (y % 4 = 0) && decide (y ≠ 1900)
/-- One for a leap year. -/
def lpi (y : Int) : Int := if lp y = true then 1 else 0
/-- The days of a month. -/
def dim (y m : Int) : Int :=
  if m = 2 then 28 + lpi y else if m = 4 then 30 else if m = 6 then 30 else if m = 9 then 30 else if m = 11 then 30 else 31
/-- The days before a year. -/
def bef (y : Int) : Int := if y ≤ 1900 then 365 * (y - 1900) else 365 * (y - 1900) + (y - 1901) / 4
/-- The days of a year before a month. -/
def cum (y m : Int) : Int :=
  if m ≤ 1 then 0 else if m = 2 then 31 else lpi y + (if m = 3 then 59 else if m = 4 then 90 else if m = 5 then 120 else if m = 6 then 151 else
    if m = 7 then 181 else if m = 8 then 212 else if m = 9 then 243 else if m = 10 then 273 else if m = 11 then 304 else if m = 12 then 334 else 365)
/-- The day of a date. -/
def num (y m d : Int) : Int := bef y + cum y m + d - 1
/-- Is it a date. -/
def vld (y m d : Int) : Prop := 1900 ≤ y ∧ y ≤ 2099 ∧ 1 ≤ m ∧ m ≤ 12 ∧ 1 ≤ d ∧ d ≤ dim y m

theorem lpi_01 (y : Int) : 0 ≤ lpi y ∧ lpi y ≤ 1 := by unfold lpi; split <;> omega
theorem lpi_eq (y : Int) : lpi y = if y % 4 = 0 ∧ y ≠ 1900 then 1 else 0 := by
  unfold lpi lp; by_cases h1 : y % 4 = 0 <;> by_cases h2 : y = 1900 <;> simp [h1, h2]
theorem dim_bd (y m : Int) : 28 ≤ dim y m ∧ dim y m ≤ 31 := by
  have := lpi_01 y; unfold dim; repeat' split
  all_goals omega
theorem bef_succ (y : Int) (h : 1900 ≤ y) : bef (y + 1) = bef y + 365 + lpi y := by
  rw [lpi_eq]; unfold bef; repeat' split
  all_goals omega
theorem bef_first : bef 1900 = 0 := by unfold bef; simp
theorem bef_mono (a b : Int) (h : a ≤ b) : bef a ≤ bef b := by unfold bef; repeat' split
                                                               all_goals omega
theorem bef_lt' (a b : Int) (h1 : 1900 ≤ a) (h : a < b) : bef a + 365 + lpi a ≤ bef b := by
  rw [← bef_succ a h1]; exact bef_mono _ _ (by omega)
theorem bef_bd (y : Int) (h : 1900 ≤ y) (h' : y ≤ 2100) : 0 ≤ bef y ∧ bef y ≤ 73049 := by unfold bef; split <;> omega
theorem bef_last : bef 2100 = 73049 := by unfold bef; simp
theorem cum_first (y : Int) : cum y 1 = 0 := by unfold cum; simp
theorem cum_succ (y m : Int) (h1 : 1 ≤ m) (h2 : m ≤ 12) : cum y (m + 1) = cum y m + dim y m := by
  unfold cum dim
  repeat' split
  all_goals omega
theorem cum_end (y : Int) : cum y 13 = 365 + lpi y := by unfold cum; simp; omega
theorem cum_bd (y m : Int) : 0 ≤ cum y m ∧ cum y m ≤ 366 := by
  have := lpi_01 y; unfold cum; repeat' split
  all_goals omega
theorem cum_mono (y a b : Int) (h : a < b) (h1 : 1 ≤ a) (h2 : b ≤ 13) : cum y a + dim y a ≤ cum y b := by
  have hl := lpi_01 y
  have h3 : cum y (a + 1) = cum y a + dim y a := cum_succ y a h1 (by omega)
  rw [← h3]
  unfold cum
  repeat' split
  all_goals omega
theorem cum_last (y m d : Int) (h1 : 1 ≤ m) (h2 : m ≤ 12) (h3 : d ≤ dim y m) : cum y m + d ≤ 365 + lpi y := by
  rw [← cum_end]; have := cum_mono y m 13 (by omega) h1 (by omega); omega
theorem num_bd {y m d : Int} (h : vld y m d) : 0 ≤ num y m d ∧ num y m d ≤ 73048 := by
  obtain ⟨h1, h2, h3, h4, h5, h6⟩ := h
  have b1 := bef_bd y h1 (by omega)
  have b2 := cum_bd y m
  have b3 := cum_last y m d h3 h4 h6
  have b4 := bef_succ y h1
  have b5 := bef_mono (y + 1) 2100 (by omega)
  rw [bef_last] at b5
  unfold num; omega
/-- Of two dates the one with the later year is the later. -/
theorem num_year {y m d y' m' d' : Int} (h : vld y m d) (h' : vld y' m' d') (hy : y < y') : num y m d < num y' m' d' := by
  obtain ⟨h1, h2, h3, h4, h5, h6⟩ := h
  obtain ⟨g1, g2, g3, g4, g5, g6⟩ := h'
  have b2 := cum_bd y' m'
  have b3 := cum_last y m d h3 h4 h6
  have b4 := bef_lt' y y' h1 hy
  unfold num; omega
theorem num_month {y m d m' d' : Int} (h : vld y m d) (h' : vld y m' d') (hy : m < m') : num y m d < num y m' d' := by
  obtain ⟨h1, h2, h3, h4, h5, h6⟩ := h
  obtain ⟨g1, g2, g3, g4, g5, g6⟩ := h'
  have b4 := cum_mono y m m' hy h3 (by omega)
  unfold num; omega
theorem num_inj {y m d y' m' d' : Int} (h : vld y m d) (h' : vld y' m' d') (e : num y m d = num y' m' d') : y = y' ∧ m = m' ∧ d = d' := by
  have e1 : y = y' := by
    rcases Int.lt_trichotomy y y' with g | g | g
    · have := num_year h h' g; omega
    · exact g
    · have := num_year h' h g; omega
  subst e1
  have e2 : m = m' := by
    rcases Int.lt_trichotomy m m' with g | g | g
    · have := num_month h h' g; omega
    · exact g
    · have := num_month h' h g; omega
  subst e2
  unfold num at e
  exact ⟨rfl, rfl, by omega⟩

/-- The year of a day. -/
def yOf (n : Int) : Int := if n < 365 then 1900 else 1901 + (4 * (n - 365) + 3) / 1461
/-- The month of the r-th day of a year. -/
def monthOf (y r : Int) : Int :=
  if r < 31 then 1 else if r < 59 + lpi y then 2 else if r < 90 + lpi y then 3 else if r < 120 + lpi y then 4 else if r < 151 + lpi y then 5 else if r < 181 + lpi y then 6 else
    if r < 212 + lpi y then 7 else if r < 243 + lpi y then 8 else if r < 273 + lpi y then 9 else if r < 304 + lpi y then 10 else if r < 334 + lpi y then 11 else 12
def mOf (n : Int) : Int := monthOf (yOf n) (n - bef (yOf n))
def dOf (n : Int) : Int := n - bef (yOf n) - cum (yOf n) (mOf n) + 1
theorem yOf_ok (n : Int) (h : 0 ≤ n) (h' : n ≤ 73048) : 1900 ≤ yOf n ∧ yOf n ≤ 2099 ∧ bef (yOf n) ≤ n ∧ n < bef (yOf n + 1) := by
  unfold yOf bef
  split
  · simp; omega
  · refine ⟨by omega, by omega, ?_, ?_⟩
    · rw [if_neg (by omega)]; omega
    · rw [if_neg (by omega)]; omega
theorem month_ok (y r : Int) (h : 0 ≤ r) (h' : r < 365 + lpi y) : 1 ≤ monthOf y r ∧ monthOf y r ≤ 12 ∧ cum y (monthOf y r) ≤ r ∧ r < cum y (monthOf y r) + dim y (monthOf y r) := by
  have hl := lpi_01 y
  unfold monthOf
  repeat' split
  all_goals (unfold cum dim; simp; omega)
theorem parts_ok (n : Int) (h : 0 ≤ n) (h' : n ≤ 73048) : vld (yOf n) (mOf n) (dOf n) ∧ num (yOf n) (mOf n) (dOf n) = n := by
  obtain ⟨a, b, c, d⟩ := yOf_ok n h h'
  rw [bef_succ _ a] at d
  obtain ⟨e, f, g, k⟩ := month_ok (yOf n) (n - bef (yOf n)) (by omega) (by omega)
  have hm : mOf n = monthOf (yOf n) (n - bef (yOf n)) := rfl
  rw [← hm] at e f g k
  refine ⟨⟨a, b, e, f, ?_, ?_⟩, ?_⟩ <;> simp only [dOf, num] <;> omega
theorem parts_of {y m d : Int} (h : vld y m d) : yOf (num y m d) = y ∧ mOf (num y m d) = m ∧ dOf (num y m d) = d := by
  obtain ⟨a, b⟩ := num_bd h
  obtain ⟨c, e⟩ := parts_ok _ a b
  exact num_inj c h e
theorem parts_is {y m d n : Int} (h : vld y m d) (e : num y m d = n) : y = yOf n ∧ m = mOf n ∧ d = dOf n := by
  subst e; obtain ⟨a, b, c⟩ := parts_of h; exact ⟨a.symm, b.symm, c.symm⟩
end Go.Proofs.YtafbhadfeemppaaGreatDoor.Dat

namespace Go.Proofs.YtafbhadfeemppaaGreatDoor
open Go.RowKit

/-- The table of the program's days of months. -/
def Dat.tab (i : Nat) : Int := [31, 28, 31, 30, 31, 30, 31, 31, 30, 31, 30, 31].getD i 0
/-- The table lies in the program's variable. -/
def Dat.At (w : World) : Prop := ∀ i : Nat, i < 12 → w.cell? ⟨2, i, none⟩ = some (.int .i64 (Dat.tab i))
theorem Dat.tab_dim (y m : Int) (h1 : 1 ≤ m) (h2 : m ≤ 12) (h : ¬ (m = 2 ∧ Dat.lp y = true)) : Dat.tab (m.toNat - 1) = Dat.dim y m := by
  have : m = 1 ∨ m = 2 ∨ m = 3 ∨ m = 4 ∨ m = 5 ∨ m = 6 ∨ m = 7 ∨ m = 8 ∨ m = 9 ∨ m = 10 ∨ m = 11 ∨ m = 12 := by omega
  rcases this with rfl | rfl | rfl | rfl | rfl | rfl | rfl | rfl | rfl | rfl | rfl | rfl <;> simp [Dat.tab, Dat.dim]
  simp at h
  simp [Dat.lpi, h]

set_option maxHeartbeats 400000 in
theorem dleap (y : Int) (w : World) (h1 : 1900 ≤ y) (h2 : y ≤ 2099) :
    Calls Tryz.prog 175 #[.int .i64 y] w fun e w' => e = .returned (.bool (Dat.lp y)) ∧ w = w' := by
  by_cases c1 : y % 4 = 0
  · by_cases c2 : y = 1900
    · subst c2
      go_enter Tryz.func175, Tryz.ntmps175
      go_wp2
      go_ret
      exact ⟨by simp [Dat.lp], rfl⟩
    · by_cases c3 : y = 2000
      · subst c3
        go_enter Tryz.func175, Tryz.ntmps175
        go_wp2
        go_ret
        exact ⟨by simp [Dat.lp], rfl⟩
      · have hr : Dat.lp y = true := by simp [Dat.lp, c1, c2]
        have c4 : y % 100 ≠ 0 := by omega
        rw [hr]; clear hr
        go_enter Tryz.func175, Tryz.ntmps175
        go_wp2
        go_ret
        exact ⟨rfl, rfl⟩
  · have hr : Dat.lp y = false := by simp [Dat.lp, c1]
    rw [hr]; clear hr
    go_enter Tryz.func175, Tryz.ntmps175
    go_wp2
    go_ret
    exact ⟨rfl, rfl⟩

set_option maxHeartbeats 400000 in
theorem rleap (y : Int) (w : World) (h1 : 1900 ≤ y) (h2 : y ≤ 2099) :
    Calls Tryz.prog 143 #[.int .i64 y] w fun e w' => e = .returned (.bool (Dat.lp y)) ∧ w = w' := by
  by_cases c1 : y % 4 = 0
  · by_cases c2 : y = 1900
    · subst c2
      go_enter Tryz.func143, Tryz.ntmps143
      go_wp2
      go_ret
      exact ⟨by simp [Dat.lp], rfl⟩
    · have hr : Dat.lp y = true := by simp [Dat.lp, c1, c2]
      rw [hr]; clear hr
      go_enter Tryz.func143, Tryz.ntmps143
      go_wp2
      go_ret
      exact ⟨by simp [c2], rfl⟩
  · have hr : Dat.lp y = false := by simp [Dat.lp, c1]
    rw [hr]; clear hr
    go_enter Tryz.func143, Tryz.ntmps143
    go_wp2
    go_ret
    exact ⟨rfl, rfl⟩


set_option maxHeartbeats 400000 in
theorem ddays (y m : Int) (w : World) (hw : Dat.At w) (h1 : 1900 ≤ y) (h2 : y ≤ 2099) (h3 : 1 ≤ m) (h4 : m ≤ 12) :
    Calls Tryz.prog 153 #[.int .i64 y, .int .i64 m] w fun e w' => e = .returned (.int .i64 (Dat.dim y m)) ∧ w = w' := by
  have hc := hw (m.toNat - 1) (by omega)
  by_cases c : m = 2
  · subst c
    cases hl : Dat.lp y with
    | true =>
      have hd : Dat.dim y 2 = 29 := by simp [Dat.dim, Dat.lpi, hl]
      rw [hd]; clear hd
      have H := Lib.hid hl; clear hl
      go_enter Tryz.func153, Tryz.ntmps153
      go_wp2_with (go_at_call 175; refine (dleap _ _ h1 h2).mono ?_; rintro e w' ⟨rfl, rfl⟩; rw [H.out])
      go_ret
      exact ⟨rfl, rfl⟩
    | false =>
      have hd : Dat.dim y 2 = 28 := by simp [Dat.dim, Dat.lpi, hl]
      rw [hd]; clear hd
      have H := Lib.hid hl; clear hl
      have hc' : w.cell? ⟨2, 1, none⟩ = some (.int .i64 28) := hw 1 (by omega)
      clear hc
      go_enter Tryz.func153, Tryz.ntmps153
      go_wp2_with (go_at_call 175; refine (dleap _ _ h1 h2).mono ?_; rintro e w' ⟨rfl, rfl⟩; rw [H.out])
      go_ret
      exact ⟨rfl, rfl⟩
  · rw [Dat.tab_dim y m h3 h4 (by omega)] at hc
    go_enter Tryz.func153, Tryz.ntmps153
    go_wp2
    go_ret
    exact ⟨rfl, rfl⟩

set_option maxHeartbeats 400000 in
theorem dbefore (y : Int) (w : World) (h1 : 1900 ≤ y) (h2 : y ≤ 2100) :
    Calls Tryz.prog 154 #[.int .i64 y] w fun e w' => e = .returned (.int .i64 (Dat.bef y)) ∧ w = w' := by
  go_enter Tryz.func154, Tryz.ntmps154
  go_wp2
  go_loop [3, 4] (fun n k => ∃ v : Int, 1900 ≤ v ∧ v ≤ y ∧ k = .int .i64 v ∧ n = .int .i64 (365 * (y - 1900) + (Dat.bef v - 365 * (v - 1900)))) (fun _ k => (y - intOf k).toNat)
  case atStart => exact ⟨1900, by omega, h1, rfl, by rw [Dat.bef_first]; go_num⟩
  case round =>
    obtain ⟨v, hv1, hv2, rfl, rfl⟩ := hrel
    have hb := Dat.bef_bd v hv1 (by omega)
    by_cases hlt : v < y
    · have hs := Dat.bef_succ v hv1
      have Hs := Lib.hid hs; clear hs
      cases hl : Dat.lp v with
      | true =>
        have hi : Dat.lpi v = 1 := by simp [Dat.lpi, hl]
        have Hi := Lib.hid hi; clear hi
        have H := Lib.hid hl; clear hl
        go_wp2_with (go_at_call 175; refine (dleap _ _ (by omega) (by omega)).mono ?_; rintro e w' ⟨rfl, rfl⟩; rw [H.out])
        go_round
        case rel => exact ⟨v + 1, by omega, by omega, by go_num, by rw [Hs.out, Hi.out]; go_num⟩
        case measure => simp [intOf]; omega
      | false =>
        have hi : Dat.lpi v = 0 := by simp [Dat.lpi, hl]
        have Hi := Lib.hid hi; clear hi
        have H := Lib.hid hl; clear hl
        go_wp2_with (go_at_call 175; refine (dleap _ _ (by omega) (by omega)).mono ?_; rintro e w' ⟨rfl, rfl⟩; rw [H.out])
        go_round
        case rel => exact ⟨v + 1, by omega, by omega, by go_num, by rw [Hs.out, Hi.out]; go_num⟩
        case measure => simp [intOf]; omega
    · obtain rfl : v = y := by omega
      go_wp2
      go_ret
      exact ⟨ret_i64 (by omega), rfl⟩

set_option maxHeartbeats 400000 in
theorem rvalid_yes (n : Int) (w : World) (h : 0 ≤ n) (h' : n ≤ 73048) :
    Calls Tryz.prog 141 #[.int .i64 n] w fun e w' => e = .returned (.bool true) ∧ w = w' := by
  go_enter Tryz.func141, Tryz.ntmps141
  go_wp2
  go_ret
  exact ⟨rfl, rfl⟩
set_option maxHeartbeats 400000 in
theorem rlong (y m : Int) (w : World) (h1 : 1900 ≤ y) (h2 : y ≤ 2099) (h3 : 1 ≤ m) (h4 : m ≤ 12) :
    Calls Tryz.prog 142 #[.int .i64 y, .int .i64 m] w fun e w' => e = .returned (.int .i64 (Dat.dim y m)) ∧ w = w' := by
  by_cases c2 : m = 2
  · subst c2
    cases hl : Dat.lp y with
    | true =>
      have hd : Dat.dim y 2 = 29 := by simp [Dat.dim, Dat.lpi, hl]
      rw [hd]; clear hd
      have H := Lib.hid hl; clear hl
      go_enter Tryz.func142, Tryz.ntmps142
      go_wp2_with (go_at_call 143; refine (rleap _ _ h1 h2).mono ?_; rintro e w' ⟨rfl, rfl⟩; rw [H.out])
      go_ret
      exact ⟨rfl, rfl⟩
    | false =>
      have hd : Dat.dim y 2 = 28 := by simp [Dat.dim, Dat.lpi, hl]
      rw [hd]; clear hd
      have H := Lib.hid hl; clear hl
      go_enter Tryz.func142, Tryz.ntmps142
      go_wp2_with (go_at_call 143; refine (rleap _ _ h1 h2).mono ?_; rintro e w' ⟨rfl, rfl⟩; rw [H.out])
      go_ret
      exact ⟨rfl, rfl⟩
  · have : m = 1 ∨ m = 3 ∨ m = 4 ∨ m = 5 ∨ m = 6 ∨ m = 7 ∨ m = 8 ∨ m = 9 ∨ m = 10 ∨ m = 11 ∨ m = 12 := by omega
    rcases this with rfl | rfl | rfl | rfl | rfl | rfl | rfl | rfl | rfl | rfl | rfl
    all_goals
      go_enter Tryz.func142, Tryz.ntmps142
      go_wp2
      go_ret
      exact ⟨rfl, rfl⟩
end Go.Proofs.YtafbhadfeemppaaGreatDoor

namespace Go.Proofs.YtafbhadfeemppaaGreatDoor
open Go.RowKit

set_option maxHeartbeats 800000 in
theorem dof_yes (y m d : Int) (w : World) (hw : Dat.At w) (hv : Dat.vld y m d) :
    Calls Tryz.prog 124 #[.int .i64 y, .int .i64 m, .int .i64 d] w fun e w' => e = .returned (.tuple #[.int .i64 (Dat.num y m d), .int .i64 0]) ∧ w = w' := by
  obtain ⟨h1, h2, h3, h4, h5, h6⟩ := hv
  have hb := Dat.bef_bd y h1 (by omega)
  have hd := Dat.dim_bd y m
  go_enter Tryz.func124, Tryz.ntmps124
  go_wp2_with (first | (go_at_call 153; refine (ddays _ _ _ hw h1 h2 h3 h4).mono ?_; rintro e w' ⟨rfl, rfl⟩) | (go_at_call 154; refine (dbefore _ _ h1 (by omega)).mono ?_; rintro e w' ⟨rfl, rfl⟩))
  go_loop [8, 9] (fun n k => ∃ v : Int, 1 ≤ v ∧ v ≤ m ∧ k = .int .i64 v ∧ n = .int .i64 (Dat.bef y + d - 1 + Dat.cum y v)) (fun _ k => (m - intOf k).toNat)
  case atStart => exact ⟨1, by omega, h3, rfl, by rw [Dat.cum_first]; go_num⟩
  case round =>
    obtain ⟨v, hv1, hv2, rfl, rfl⟩ := hrel
    have hc := Dat.cum_bd y v
    have hdv := Dat.dim_bd y v
    by_cases hlt : v < m
    · have hs := Dat.cum_succ y v hv1 (by omega)
      have Hs := Lib.hid hs; clear hs
      go_wp2_with (go_at_call 153; refine (ddays _ _ _ hw h1 h2 hv1 (by omega)).mono ?_; rintro e w' ⟨rfl, rfl⟩)
      go_round
      case rel => exact ⟨v + 1, by omega, by omega, by go_num, by rw [Hs.out]; go_num⟩
      case measure => simp [intOf]; omega
    · obtain rfl : v = m := by omega
      go_wp2
      go_ret2
      exact ⟨ret_two (by unfold Dat.num; omega) rfl, rfl⟩

set_option maxHeartbeats 800000 in
theorem dof_no (y m d : Int) (w : World) (hw : Dat.At w) (hv : ¬ Dat.vld y m d) :
    Calls Tryz.prog 124 #[.int .i64 y, .int .i64 m, .int .i64 d] w fun e w' => e = .returned (.tuple #[.int .i64 0, .int .i64 8]) ∧ w = w' := by
  by_cases h1 : y < 1900
  · go_enter Tryz.func124, Tryz.ntmps124
    go_wp2_with fail
    go_ret2
    exact ⟨rfl, rfl⟩
  by_cases h2 : 2099 < y
  · go_enter Tryz.func124, Tryz.ntmps124
    go_wp2_with fail
    go_ret2
    exact ⟨rfl, rfl⟩
  by_cases h3 : m < 1
  · go_enter Tryz.func124, Tryz.ntmps124
    go_wp2_with fail
    go_ret2
    exact ⟨rfl, rfl⟩
  by_cases h4 : 12 < m
  · go_enter Tryz.func124, Tryz.ntmps124
    go_wp2_with fail
    go_ret2
    exact ⟨rfl, rfl⟩
  by_cases h5 : d < 1
  · go_enter Tryz.func124, Tryz.ntmps124
    go_wp2_with fail
    go_ret2
    exact ⟨rfl, rfl⟩
  have h6 : Dat.dim y m < d := by
    rcases Int.lt_or_le (Dat.dim y m) d with h | h
    · exact h
    · exact absurd ⟨by omega, by omega, by omega, by omega, by omega, h⟩ hv
  clear hv
  go_enter Tryz.func124, Tryz.ntmps124
  go_wp2_with (go_at_call 153; refine (ddays _ _ _ hw (by omega) (by omega) (by omega) (by omega)).mono ?_; rintro e w' ⟨rfl, rfl⟩)
  go_ret2
  exact ⟨rfl, rfl⟩

set_option maxHeartbeats 800000 in
theorem rof_yes (y m d : Int) (w : World) (hv : Dat.vld y m d) :
    Calls Tryz.prog 112 #[.int .i64 y, .int .i64 m, .int .i64 d] w fun e w' => e = .returned (.tuple #[.int .i64 (Dat.num y m d), .int .i64 0]) ∧ w = w' := by
  obtain ⟨h1, h2, h3, h4, h5, h6⟩ := hv
  have hb := Dat.bef_bd y h1 (by omega)
  have hd := Dat.dim_bd y m
  go_enter Tryz.func112, Tryz.ntmps112
  go_wp2_with (go_at_call 142; refine (rlong _ _ _ h1 h2 h3 h4).mono ?_; rintro e w' ⟨rfl, rfl⟩)
  go_loop [8, 9] (fun n k => ∃ v : Int, 1900 ≤ v ∧ v ≤ y ∧ k = .int .i64 v ∧ n = .int .i64 (d - 1 + Dat.bef v)) (fun _ k => (y - intOf k).toNat)
  case atStart => exact ⟨1900, by omega, h1, rfl, by rw [Dat.bef_first]; go_num⟩
  case round =>
    obtain ⟨v, hv1, hv2, rfl, rfl⟩ := hrel
    have hbv := Dat.bef_bd v hv1 (by omega)
    by_cases hlt : v < y
    · have hs := Dat.bef_succ v hv1
      have Hs := Lib.hid hs; clear hs
      cases hl : Dat.lp v with
      | true =>
        have hi : Dat.lpi v = 1 := by simp [Dat.lpi, hl]
        have Hi := Lib.hid hi; clear hi
        have H := Lib.hid hl; clear hl
        go_wp2_with (go_at_call 143; refine (rleap _ _ (by omega) (by omega)).mono ?_; rintro e w' ⟨rfl, rfl⟩; rw [H.out])
        go_round
        case rel => exact ⟨v + 1, by omega, by omega, by go_num, by rw [Hs.out, Hi.out]; go_num⟩
        case measure => simp [intOf]; omega
      | false =>
        have hi : Dat.lpi v = 0 := by simp [Dat.lpi, hl]
        have Hi := Lib.hid hi; clear hi
        have H := Lib.hid hl; clear hl
        go_wp2_with (go_at_call 143; refine (rleap _ _ (by omega) (by omega)).mono ?_; rintro e w' ⟨rfl, rfl⟩; rw [H.out])
        go_round
        case rel => exact ⟨v + 1, by omega, by omega, by go_num, by rw [Hs.out, Hi.out]; go_num⟩
        case measure => simp [intOf]; omega
    · obtain rfl : v = y := by omega
      go_wp2
      go_loop [8, 10] (fun n k => ∃ u : Int, 1 ≤ u ∧ u ≤ m ∧ k = .int .i64 u ∧ n = .int .i64 (d - 1 + Dat.bef v + Dat.cum v u)) (fun _ k => (m - intOf k).toNat)
      case atStart => exact ⟨1, by omega, h3, rfl, by rw [Dat.cum_first]; go_num⟩
      case round =>
        obtain ⟨u, hu1, hu2, rfl, rfl⟩ := hrel
        have hc := Dat.cum_bd v u
        have hdv := Dat.dim_bd v u
        by_cases hlt' : u < m
        · have hs := Dat.cum_succ v u hu1 (by omega)
          have Hs := Lib.hid hs; clear hs
          go_wp2_with (go_at_call 142; refine (rlong _ _ _ h1 h2 hu1 (by omega)).mono ?_; rintro e w' ⟨rfl, rfl⟩)
          go_round
          case rel => exact ⟨u + 1, by omega, by omega, by go_num, by rw [Hs.out]; go_num⟩
          case measure => simp [intOf]; omega
        · obtain rfl : u = m := by omega
          go_wp2
          go_ret2
          exact ⟨ret_two (by unfold Dat.num; omega) rfl, rfl⟩

set_option maxHeartbeats 800000 in
theorem rof_no (y m d : Int) (w : World) (hv : ¬ Dat.vld y m d) :
    Calls Tryz.prog 112 #[.int .i64 y, .int .i64 m, .int .i64 d] w fun e w' => e = .returned (.tuple #[.int .i64 0, .int .i64 8]) ∧ w = w' := by
  by_cases h1 : y < 1900
  · go_enter Tryz.func112, Tryz.ntmps112
    go_wp2_with fail
    go_ret2
    exact ⟨rfl, rfl⟩
  by_cases h2 : 2099 < y
  · go_enter Tryz.func112, Tryz.ntmps112
    go_wp2_with fail
    go_ret2
    exact ⟨rfl, rfl⟩
  by_cases h3 : m < 1
  · go_enter Tryz.func112, Tryz.ntmps112
    go_wp2_with fail
    go_ret2
    exact ⟨rfl, rfl⟩
  by_cases h4 : 12 < m
  · go_enter Tryz.func112, Tryz.ntmps112
    go_wp2_with fail
    go_ret2
    exact ⟨rfl, rfl⟩
  by_cases h5 : d < 1
  · go_enter Tryz.func112, Tryz.ntmps112
    go_wp2_with fail
    go_ret2
    exact ⟨rfl, rfl⟩
  have h6 : Dat.dim y m < d := by
    rcases Int.lt_or_le (Dat.dim y m) d with h | h
    · exact h
    · exact absurd ⟨by omega, by omega, by omega, by omega, by omega, h⟩ hv
  clear hv
  go_enter Tryz.func112, Tryz.ntmps112
  go_wp2_with (go_at_call 142; refine (rlong _ _ _ (by omega) (by omega) (by omega) (by omega)).mono ?_; rintro e w' ⟨rfl, rfl⟩)
  go_ret2
  exact ⟨rfl, rfl⟩

set_option maxHeartbeats 800000 in
theorem rparts_yes (n : Int) (w : World) (h : 0 ≤ n) (h' : n ≤ 73048) :
    Calls Tryz.prog 108 #[.int .i64 n] w fun e w' => e = .returned (.tuple #[.int .i64 (Dat.yOf n), .int .i64 (Dat.mOf n), .int .i64 (Dat.dOf n), .int .i64 0]) ∧ w = w' := by
  go_enter Tryz.func108, Tryz.ntmps108
  go_wp2_with (go_at_call 141; refine (rvalid_yes _ _ h h').mono ?_; rintro e w' ⟨rfl, rfl⟩)
  go_loop [0, 6, 7] (fun r t k => ∃ y m : Int, 1900 ≤ y ∧ y ≤ 2099 ∧ 1 ≤ m ∧ m ≤ 12 ∧ t = .int .i64 y ∧ k = .int .i64 m ∧ Dat.bef y + Dat.cum y m ≤ n ∧ r = .int .i64 (n - Dat.bef y - Dat.cum y m)) (fun r _ _ => (intOf r).toNat)
  case atStart => exact ⟨1900, 1, by omega, by omega, by omega, by omega, rfl, rfl, by rw [Dat.bef_first, Dat.cum_first]; omega, by rw [Dat.bef_first, Dat.cum_first]; go_num⟩
  case round =>
    obtain ⟨y, m, hy1, hy2, hm1, hm2, rfl, rfl, hr, rfl⟩ := hrel
    have hb := Dat.bef_bd y hy1 (by omega)
    have cb := Dat.cum_bd y m
    have db := Dat.dim_bd y m
    have cs := Dat.cum_succ y m hm1 hm2
    by_cases hc : n - Dat.bef y - Dat.cum y m < Dat.dim y m
    · have hv : Dat.vld y m (n - Dat.bef y - Dat.cum y m + 1) := ⟨by omega, by omega, by omega, by omega, by omega, by omega⟩
      have hn : Dat.num y m (n - Dat.bef y - Dat.cum y m + 1) = n := by unfold Dat.num; omega
      have hp := Dat.parts_is hv hn
      have Hp := Lib.hid hp; clear hp hn hv cs
      go_wp2_with (go_at_call 142; refine (rlong _ _ _ (by omega) (by omega) (by omega) (by omega)).mono ?_; rintro e w' ⟨rfl, rfl⟩)
      refine bodyPost_ret (results_tmp4 rfl _ _ _) rfl ?_
      exact ⟨ret_four Hp.out.1 Hp.out.2.1 Hp.out.2.2, rfl⟩
    · by_cases hm : m = 12
      · subst hm
        have e13 : Dat.cum y (12 + 1) = 365 + Dat.lpi y := Dat.cum_end y
        have hs := Dat.bef_succ y hy1
        have hy : y + 1 ≤ 2099 := by
          rcases Int.lt_or_le y 2099 with g | g
          · omega
          · obtain rfl : y = 2099 := by omega
            have e2 : Dat.bef (2099 + 1) = 73049 := Dat.bef_last
            omega
        have hk : n - Dat.bef y - Dat.cum y 12 - Dat.dim y 12 = n - Dat.bef (y + 1) - Dat.cum (y + 1) 1 := by rw [Dat.cum_first]; omega
        have hk' : Dat.bef (y + 1) + Dat.cum (y + 1) 1 ≤ n := by rw [Dat.cum_first]; omega
        have Hk := Lib.hid hk; clear hk
        have Hk' := Lib.hid hk'; clear hk' e13 hs cs
        go_wp2_with (go_at_call 142; refine (rlong _ _ _ (by omega) (by omega) (by omega) (by omega)).mono ?_; rintro e w' ⟨rfl, rfl⟩)
        go_round
        case rel => exact ⟨y + 1, 1, by omega, by omega, by omega, by omega, rfl, rfl, Hk'.out, by rw [← Hk.out]⟩
        case measure => simp [intOf]; omega
      · have Cs := Lib.hid cs; clear cs
        go_wp2_with (go_at_call 142; refine (rlong _ _ _ (by omega) (by omega) (by omega) (by omega)).mono ?_; rintro e w' ⟨rfl, rfl⟩)
        go_round
        case rel => exact ⟨y, m + 1, by omega, by omega, by omega, by omega, rfl, rfl, by rw [Cs.out]; omega, by rw [Cs.out]; go_num⟩
        case measure => simp [intOf]; omega
end Go.Proofs.YtafbhadfeemppaaGreatDoor

namespace Go.Proofs.YtafbhadfeemppaaGreatDoor
open Go.RowKit

namespace Dat
/-- What Of gives: the day, and the error. -/
noncomputable def ofV (y m d : Int) : Int := open Classical in if vld y m d then num y m d else 0
noncomputable def ofE (y m d : Int) : Int := open Classical in if vld y m d then 0 else 8
/-- What Parts gives. -/
def inR (n : Int) : Prop := 0 ≤ n ∧ n ≤ 73048
/-- The last day of month k, and the day d of it, or the last. -/
def cut (k d : Int) : Int := if d ≤ dim (1900 + k / 12) (k % 12 + 1) then d else dim (1900 + k / 12) (k % 12 + 1)
/-- What the maker's Mod gives for a modulus above 0. -/
def md (n m : Int) : Int := n % m

end Dat

theorem dof_any (y m d : Int) (w : World) (hw : Dat.At w) :
    Calls Tryz.prog 124 #[.int .i64 y, .int .i64 m, .int .i64 d] w fun e w' => e = .returned (.tuple #[.int .i64 (Dat.ofV y m d), .int .i64 (Dat.ofE y m d)]) ∧ w = w' := by
  by_cases h : Dat.vld y m d
  · simpa only [Dat.ofV, Dat.ofE, if_pos h] using dof_yes y m d w hw h
  · simpa only [Dat.ofV, Dat.ofE, if_neg h] using dof_no y m d w hw h
theorem rof_any (y m d : Int) (w : World) :
    Calls Tryz.prog 112 #[.int .i64 y, .int .i64 m, .int .i64 d] w fun e w' => e = .returned (.tuple #[.int .i64 (Dat.ofV y m d), .int .i64 (Dat.ofE y m d)]) ∧ w = w' := by
  by_cases h : Dat.vld y m d
  · simpa only [Dat.ofV, Dat.ofE, if_pos h] using rof_yes y m d w h
  · simpa only [Dat.ofV, Dat.ofE, if_neg h] using rof_no y m d w h
end Go.Proofs.YtafbhadfeemppaaGreatDoor

namespace Go.Proofs.YtafbhadfeemppaaGreatDoor
open Go.RowKit

namespace Dat
theorem At.below {w w' : World} (h : At w) (hb : Below w.heap.size w w') : At w' := fun i hi => cell_later hb (h i hi)
/-- Two digits. -/
def dig2 (k : Int) : List UInt8 := [b8 (48 + k / 10), b8 (48 + k % 10)]
def fm (a b c : Int) : Nat → List UInt8
  | 0 => []
  | 1 => dig2 a
  | 2 => dig2 a ++ dig2 b
  | _ => dig2 a ++ dig2 b ++ dig2 c
/-- The text of a day. -/
def fmt (n : Int) : ByteArray := ⟨(fm (yOf n % 100) (mOf n) (dOf n) 3).toArray⟩
end Dat
theorem own_block_le {w : World} {B e size n : Nat} {v : Value} {xs : List Value} (h : w.ownsRow B e size v n xs) : ∀ k, v.ownBlock = some k → B ≤ k := by
  intro k hk
  rcases h.2 with ⟨rfl, _⟩ | ⟨g, cap, cur, rfl, hB, _⟩
  · simp [Value.ownBlock] at hk
  · simp [Value.ownBlock] at hk; omega

set_option maxHeartbeats 400000 in
theorem rtwo (k : Int) (w : World) (h : 0 ≤ k) (h' : k ≤ 99) :
    Calls Tryz.prog 109 #[.int .i64 k] w fun e w' => e = .returned (.string ⟨(Dat.dig2 k).toArray⟩) ∧ Below w.heap.size w w' := by
  have hcv := conv_two (P := Tryz.prog) w 59 9 5 (48 + k / 10) (48 + k % 10) (by omega) (by omega) 2 Tryz.underlying59 Tryz.underlying5 Tryz.underlying9
  have hfin : (⟨#[b8 (48 + k / 10), b8 (48 + k % 10)]⟩ : ByteArray) = ⟨(Dat.dig2 k).toArray⟩ := rfl
  rw [hfin] at hcv; clear hfin
  go_enter Tryz.func109, Tryz.ntmps109
  go_wp2
  go_ret
  exact ⟨rfl, (Below.refl _ _).alloc (Nat.le_refl _) _⟩

set_option maxHeartbeats 800000 in
theorem rformat_yes (n : Int) (w : World) (h : 0 ≤ n) (h' : n ≤ 73048) :
    Calls Tryz.prog 74 #[.int .i64 n] w fun e w' => e = .returned (.tuple #[.string (Dat.fmt n), .int .i64 0]) ∧ Below w.heap.size w w' := by
  obtain ⟨⟨h1, h2, h3, h4, h5, h6⟩, _⟩ := Dat.parts_ok n h h'
  have hd := Dat.dim_bd (Dat.yOf n) (Dat.mOf n)
  go_enter Tryz.func74, Tryz.ntmps74
  go_wp2_with fail
  refine (rparts_yes _ _ h h').mono ?_; rintro e w' ⟨rfl, rfl⟩
  go_wp2_with fail
  refine (rtwo _ _ (by omega) (by omega)).mono ?_; rintro e w1 ⟨rfl, hb1⟩
  go_wp2_with fail
  refine (rtwo _ _ (by omega) (by omega)).mono ?_; rintro e w2 ⟨rfl, hb2⟩
  go_wp2_with fail
  refine (rtwo _ _ (by omega) (by omega)).mono ?_; rintro e w3 ⟨rfl, hb3⟩
  go_wp2_with fail
  go_ret2
  exact ⟨rfl, (hb1.trans (hb2.mono hb1.size)).trans (hb3.mono (Nat.le_trans hb1.size hb2.size))⟩

end Go.Proofs.YtafbhadfeemppaaGreatDoor
