/- The walks of chapter 3's arithmetic: dates.leap, days, before, Valid, Of, Parts and the reference's leap, long, Valid, Of, Parts. -/
import Derived.Test.YtelngghecmkipaaGreatDoorRows
import Derived.Test.YtelngghecmkipaaGreatDoorDatPlain
import Derived.Test.YtelngghecmkipaaGreatDoorUtil
namespace Go.Proofs.YtelngghecmkipaaGreatDoor
open Go.RowKit

/-- The table of the program's days of months. -/
def Dat.tab (i : Nat) : Int := [31, 28, 31, 30, 31, 30, 31, 31, 30, 31, 30, 31].getD i 0
/-- The table lies in the program's variable. -/
def Dat.At (w : World) : Prop := ∀ i : Nat, i < 12 → w.cell? ⟨0, i, none⟩ = some (.int .i64 (Dat.tab i))
theorem Dat.tab_dim (y m : Int) (h1 : 1 ≤ m) (h2 : m ≤ 12) (h : ¬ (m = 2 ∧ Dat.lp y = true)) : Dat.tab (m.toNat - 1) = Dat.dim y m := by
  have : m = 1 ∨ m = 2 ∨ m = 3 ∨ m = 4 ∨ m = 5 ∨ m = 6 ∨ m = 7 ∨ m = 8 ∨ m = 9 ∨ m = 10 ∨ m = 11 ∨ m = 12 := by omega
  rcases this with rfl | rfl | rfl | rfl | rfl | rfl | rfl | rfl | rfl | rfl | rfl | rfl <;> simp [Dat.tab, Dat.dim]
  simp at h
  simp [Dat.lpi, h]

set_option maxHeartbeats 400000 in
theorem dleap (y : Int) (w : World) (h1 : 1900 ≤ y) (h2 : y ≤ 2099) :
    Calls Tryz.prog 125 #[.int .i64 y] w fun e w' => e = .returned (.bool (Dat.lp y)) ∧ w = w' := by
  by_cases c1 : y % 4 = 0
  · by_cases c2 : y = 1900
    · subst c2
      go_enter Tryz.func125, Tryz.ntmps125
      go_wp2
      go_ret
      exact ⟨by simp [Dat.lp], rfl⟩
    · by_cases c3 : y = 2000
      · subst c3
        go_enter Tryz.func125, Tryz.ntmps125
        go_wp2
        go_ret
        exact ⟨by simp [Dat.lp], rfl⟩
      · have hr : Dat.lp y = true := by simp [Dat.lp, c1, c2]
        have c4 : y % 100 ≠ 0 := by omega
        rw [hr]; clear hr
        go_enter Tryz.func125, Tryz.ntmps125
        go_wp2
        go_ret
        exact ⟨rfl, rfl⟩
  · have hr : Dat.lp y = false := by simp [Dat.lp, c1]
    rw [hr]; clear hr
    go_enter Tryz.func125, Tryz.ntmps125
    go_wp2
    go_ret
    exact ⟨rfl, rfl⟩

set_option maxHeartbeats 400000 in
theorem rleap (y : Int) (w : World) (h1 : 1900 ≤ y) (h2 : y ≤ 2099) :
    Calls Tryz.prog 117 #[.int .i64 y] w fun e w' => e = .returned (.bool (Dat.lp y)) ∧ w = w' := by
  by_cases c1 : y % 4 = 0
  · by_cases c2 : y = 1900
    · subst c2
      go_enter Tryz.func117, Tryz.ntmps117
      go_wp2
      go_ret
      exact ⟨by simp [Dat.lp], rfl⟩
    · have hr : Dat.lp y = true := by simp [Dat.lp, c1, c2]
      rw [hr]; clear hr
      go_enter Tryz.func117, Tryz.ntmps117
      go_wp2
      go_ret
      exact ⟨by simp [c2], rfl⟩
  · have hr : Dat.lp y = false := by simp [Dat.lp, c1]
    rw [hr]; clear hr
    go_enter Tryz.func117, Tryz.ntmps117
    go_wp2
    go_ret
    exact ⟨rfl, rfl⟩


set_option maxHeartbeats 400000 in
theorem ddays (y m : Int) (w : World) (hw : Dat.At w) (h1 : 1900 ≤ y) (h2 : y ≤ 2099) (h3 : 1 ≤ m) (h4 : m ≤ 12) :
    Calls Tryz.prog 113 #[.int .i64 y, .int .i64 m] w fun e w' => e = .returned (.int .i64 (Dat.dim y m)) ∧ w = w' := by
  have hc := hw (m.toNat - 1) (by omega)
  by_cases c : m = 2
  · subst c
    cases hl : Dat.lp y with
    | true =>
      have hd : Dat.dim y 2 = 29 := by simp [Dat.dim, Dat.lpi, hl]
      rw [hd]; clear hd
      have H := Lib.hid hl; clear hl
      go_enter Tryz.func113, Tryz.ntmps113
      go_wp2_with (go_at_call 125; refine (dleap _ _ h1 h2).mono ?_; rintro e w' ⟨rfl, rfl⟩; rw [H.out])
      go_ret
      exact ⟨rfl, rfl⟩
    | false =>
      have hd : Dat.dim y 2 = 28 := by simp [Dat.dim, Dat.lpi, hl]
      rw [hd]; clear hd
      have H := Lib.hid hl; clear hl
      have hc' : w.cell? ⟨0, 1, none⟩ = some (.int .i64 28) := hw 1 (by omega)
      clear hc
      go_enter Tryz.func113, Tryz.ntmps113
      go_wp2_with (go_at_call 125; refine (dleap _ _ h1 h2).mono ?_; rintro e w' ⟨rfl, rfl⟩; rw [H.out])
      go_ret
      exact ⟨rfl, rfl⟩
  · rw [Dat.tab_dim y m h3 h4 (by omega)] at hc
    go_enter Tryz.func113, Tryz.ntmps113
    go_wp2
    go_ret
    exact ⟨rfl, rfl⟩

set_option maxHeartbeats 400000 in
theorem dbefore (y : Int) (w : World) (h1 : 1900 ≤ y) (h2 : y ≤ 2100) :
    Calls Tryz.prog 114 #[.int .i64 y] w fun e w' => e = .returned (.int .i64 (Dat.bef y)) ∧ w = w' := by
  go_enter Tryz.func114, Tryz.ntmps114
  go_wp2
  go_loop [3, 4] (fun n k => ∃ v : Int, 1900 ≤ v ∧ v ≤ y ∧ k = .int .i64 v ∧ n = .int .i64 (365 * (y - 1900) + (Dat.bef v - 365 * (v - 1900)))) (fun _ k => (y - intOf k).toNat)
  case atStart => exact ⟨1900, by omega, h1, rfl, by rw [Dat.bef_first]; go_num⟩
  case round =>
    obtain ⟨v, hv1, hv2, rfl, rfl⟩ := hrel
    have hb := Dat.bef_bd v hv1 (by omega)
    by_cases hlt : v < y
    · have hs := Dat.bef_succ v hv1
      have Hs := Lib.hid hs; clear hs
      cases hl : Dat.lp v with
      | true =>
        have hi : Dat.lpi v = 1 := by simp [Dat.lpi, hl]
        have Hi := Lib.hid hi; clear hi
        have H := Lib.hid hl; clear hl
        go_wp2_with (go_at_call 125; refine (dleap _ _ (by omega) (by omega)).mono ?_; rintro e w' ⟨rfl, rfl⟩; rw [H.out])
        go_round
        case rel => exact ⟨v + 1, by omega, by omega, by go_num, by rw [Hs.out, Hi.out]; go_num⟩
        case measure => simp [intOf]; omega
      | false =>
        have hi : Dat.lpi v = 0 := by simp [Dat.lpi, hl]
        have Hi := Lib.hid hi; clear hi
        have H := Lib.hid hl; clear hl
        go_wp2_with (go_at_call 125; refine (dleap _ _ (by omega) (by omega)).mono ?_; rintro e w' ⟨rfl, rfl⟩; rw [H.out])
        go_round
        case rel => exact ⟨v + 1, by omega, by omega, by go_num, by rw [Hs.out, Hi.out]; go_num⟩
        case measure => simp [intOf]; omega
    · obtain rfl : v = y := by omega
      go_wp2
      go_ret
      exact ⟨ret_i64 (by omega), rfl⟩

set_option maxHeartbeats 400000 in
theorem rvalid_yes (n : Int) (w : World) (h : 0 ≤ n) (h' : n ≤ 73048) :
    Calls Tryz.prog 106 #[.int .i64 n] w fun e w' => e = .returned (.bool true) ∧ w = w' := by
  go_enter Tryz.func106, Tryz.ntmps106
  go_wp2
  go_ret
  exact ⟨rfl, rfl⟩
set_option maxHeartbeats 400000 in
theorem rvalid_no (n : Int) (w : World) (h : ¬ (0 ≤ n ∧ n ≤ 73048)) :
    Calls Tryz.prog 106 #[.int .i64 n] w fun e w' => e = .returned (.bool false) ∧ w = w' := by
  by_cases h0 : 0 ≤ n
  · have h1 : 73048 < n := by omega
    clear h
    go_enter Tryz.func106, Tryz.ntmps106
    go_wp2
    go_ret
    exact ⟨by simp; omega, rfl⟩
  · clear h
    go_enter Tryz.func106, Tryz.ntmps106
    go_wp2
    go_ret
    exact ⟨rfl, rfl⟩

set_option maxHeartbeats 400000 in
theorem rlong (y m : Int) (w : World) (h1 : 1900 ≤ y) (h2 : y ≤ 2099) (h3 : 1 ≤ m) (h4 : m ≤ 12) :
    Calls Tryz.prog 107 #[.int .i64 y, .int .i64 m] w fun e w' => e = .returned (.int .i64 (Dat.dim y m)) ∧ w = w' := by
  by_cases c2 : m = 2
  · subst c2
    cases hl : Dat.lp y with
    | true =>
      have hd : Dat.dim y 2 = 29 := by simp [Dat.dim, Dat.lpi, hl]
      rw [hd]; clear hd
      have H := Lib.hid hl; clear hl
      go_enter Tryz.func107, Tryz.ntmps107
      go_wp2_with (go_at_call 117; refine (rleap _ _ h1 h2).mono ?_; rintro e w' ⟨rfl, rfl⟩; rw [H.out])
      go_ret
      exact ⟨rfl, rfl⟩
    | false =>
      have hd : Dat.dim y 2 = 28 := by simp [Dat.dim, Dat.lpi, hl]
      rw [hd]; clear hd
      have H := Lib.hid hl; clear hl
      go_enter Tryz.func107, Tryz.ntmps107
      go_wp2_with (go_at_call 117; refine (rleap _ _ h1 h2).mono ?_; rintro e w' ⟨rfl, rfl⟩; rw [H.out])
      go_ret
      exact ⟨rfl, rfl⟩
  · have : m = 1 ∨ m = 3 ∨ m = 4 ∨ m = 5 ∨ m = 6 ∨ m = 7 ∨ m = 8 ∨ m = 9 ∨ m = 10 ∨ m = 11 ∨ m = 12 := by omega
    rcases this with rfl | rfl | rfl | rfl | rfl | rfl | rfl | rfl | rfl | rfl | rfl
    all_goals
      go_enter Tryz.func107, Tryz.ntmps107
      go_wp2
      go_ret
      exact ⟨rfl, rfl⟩
end Go.Proofs.YtelngghecmkipaaGreatDoor
