/- The walks of chapter 3: Of and Parts of the program and of the reference. -/
import Derived.Test.YtelngghecmkipaaGreatDoorDatWalks
namespace Go.Proofs.YtelngghecmkipaaGreatDoor
open Go.RowKit

set_option maxHeartbeats 800000 in
theorem dof_yes (y m d : Int) (w : World) (hw : Dat.At w) (hv : Dat.vld y m d) :
    Calls Tryz.prog 91 #[.int .i64 y, .int .i64 m, .int .i64 d] w fun e w' => e = .returned (.tuple #[.int .i64 (Dat.num y m d), .int .i64 0]) ∧ w = w' := by
  obtain ⟨h1, h2, h3, h4, h5, h6⟩ := hv
  have hb := Dat.bef_bd y h1 (by omega)
  have hd := Dat.dim_bd y m
  go_enter Tryz.func91, Tryz.ntmps91
  go_wp2_with (first | (go_at_call 113; refine (ddays _ _ _ hw h1 h2 h3 h4).mono ?_; rintro e w' ⟨rfl, rfl⟩) | (go_at_call 114; refine (dbefore _ _ h1 (by omega)).mono ?_; rintro e w' ⟨rfl, rfl⟩))
  go_loop [8, 9] (fun n k => ∃ v : Int, 1 ≤ v ∧ v ≤ m ∧ k = .int .i64 v ∧ n = .int .i64 (Dat.bef y + d - 1 + Dat.cum y v)) (fun _ k => (m - intOf k).toNat)
  case atStart => exact ⟨1, by omega, h3, rfl, by rw [Dat.cum_first]; go_num⟩
  case round =>
    obtain ⟨v, hv1, hv2, rfl, rfl⟩ := hrel
    have hc := Dat.cum_bd y v
    have hdv := Dat.dim_bd y v
    by_cases hlt : v < m
    · have hs := Dat.cum_succ y v hv1 (by omega)
      have Hs := Lib.hid hs; clear hs
      go_wp2_with (go_at_call 113; refine (ddays _ _ _ hw h1 h2 hv1 (by omega)).mono ?_; rintro e w' ⟨rfl, rfl⟩)
      go_round
      case rel => exact ⟨v + 1, by omega, by omega, by go_num, by rw [Hs.out]; go_num⟩
      case measure => simp [intOf]; omega
    · obtain rfl : v = m := by omega
      go_wp2
      go_ret2
      exact ⟨ret_two (by unfold Dat.num; omega) rfl, rfl⟩

set_option maxHeartbeats 800000 in
theorem dof_no (y m d : Int) (w : World) (hw : Dat.At w) (hv : ¬ Dat.vld y m d) :
    Calls Tryz.prog 91 #[.int .i64 y, .int .i64 m, .int .i64 d] w fun e w' => e = .returned (.tuple #[.int .i64 0, .int .i64 8]) ∧ w = w' := by
  by_cases h1 : y < 1900
  · go_enter Tryz.func91, Tryz.ntmps91
    go_wp2_with fail
    go_ret2
    exact ⟨rfl, rfl⟩
  by_cases h2 : 2099 < y
  · go_enter Tryz.func91, Tryz.ntmps91
    go_wp2_with fail
    go_ret2
    exact ⟨rfl, rfl⟩
  by_cases h3 : m < 1
  · go_enter Tryz.func91, Tryz.ntmps91
    go_wp2_with fail
    go_ret2
    exact ⟨rfl, rfl⟩
  by_cases h4 : 12 < m
  · go_enter Tryz.func91, Tryz.ntmps91
    go_wp2_with fail
    go_ret2
    exact ⟨rfl, rfl⟩
  by_cases h5 : d < 1
  · go_enter Tryz.func91, Tryz.ntmps91
    go_wp2_with fail
    go_ret2
    exact ⟨rfl, rfl⟩
  have h6 : Dat.dim y m < d := by
    rcases Int.lt_or_le (Dat.dim y m) d with h | h
    · exact h
    · exact absurd ⟨by omega, by omega, by omega, by omega, by omega, h⟩ hv
  clear hv
  go_enter Tryz.func91, Tryz.ntmps91
  go_wp2_with (go_at_call 113; refine (ddays _ _ _ hw (by omega) (by omega) (by omega) (by omega)).mono ?_; rintro e w' ⟨rfl, rfl⟩)
  go_ret2
  exact ⟨rfl, rfl⟩

set_option maxHeartbeats 800000 in
theorem rof_yes (y m d : Int) (w : World) (hv : Dat.vld y m d) :
    Calls Tryz.prog 95 #[.int .i64 y, .int .i64 m, .int .i64 d] w fun e w' => e = .returned (.tuple #[.int .i64 (Dat.num y m d), .int .i64 0]) ∧ w = w' := by
  obtain ⟨h1, h2, h3, h4, h5, h6⟩ := hv
  have hb := Dat.bef_bd y h1 (by omega)
  have hd := Dat.dim_bd y m
  go_enter Tryz.func95, Tryz.ntmps95
  go_wp2_with (go_at_call 107; refine (rlong _ _ _ h1 h2 h3 h4).mono ?_; rintro e w' ⟨rfl, rfl⟩)
  go_loop [8, 9] (fun n k => ∃ v : Int, 1900 ≤ v ∧ v ≤ y ∧ k = .int .i64 v ∧ n = .int .i64 (d - 1 + Dat.bef v)) (fun _ k => (y - intOf k).toNat)
  case atStart => exact ⟨1900, by omega, h1, rfl, by rw [Dat.bef_first]; go_num⟩
  case round =>
    obtain ⟨v, hv1, hv2, rfl, rfl⟩ := hrel
    have hbv := Dat.bef_bd v hv1 (by omega)
    by_cases hlt : v < y
    · have hs := Dat.bef_succ v hv1
      have Hs := Lib.hid hs; clear hs
      cases hl : Dat.lp v with
      | true =>
        have hi : Dat.lpi v = 1 := by simp [Dat.lpi, hl]
        have Hi := Lib.hid hi; clear hi
        have H := Lib.hid hl; clear hl
        go_wp2_with (go_at_call 117; refine (rleap _ _ (by omega) (by omega)).mono ?_; rintro e w' ⟨rfl, rfl⟩; rw [H.out])
        go_round
        case rel => exact ⟨v + 1, by omega, by omega, by go_num, by rw [Hs.out, Hi.out]; go_num⟩
        case measure => simp [intOf]; omega
      | false =>
        have hi : Dat.lpi v = 0 := by simp [Dat.lpi, hl]
        have Hi := Lib.hid hi; clear hi
        have H := Lib.hid hl; clear hl
        go_wp2_with (go_at_call 117; refine (rleap _ _ (by omega) (by omega)).mono ?_; rintro e w' ⟨rfl, rfl⟩; rw [H.out])
        go_round
        case rel => exact ⟨v + 1, by omega, by omega, by go_num, by rw [Hs.out, Hi.out]; go_num⟩
        case measure => simp [intOf]; omega
    · obtain rfl : v = y := by omega
      go_wp2
      go_loop [8, 10] (fun n k => ∃ u : Int, 1 ≤ u ∧ u ≤ m ∧ k = .int .i64 u ∧ n = .int .i64 (d - 1 + Dat.bef v + Dat.cum v u)) (fun _ k => (m - intOf k).toNat)
      case atStart => exact ⟨1, by omega, h3, rfl, by rw [Dat.cum_first]; go_num⟩
      case round =>
        obtain ⟨u, hu1, hu2, rfl, rfl⟩ := hrel
        have hc := Dat.cum_bd v u
        have hdv := Dat.dim_bd v u
        by_cases hlt' : u < m
        · have hs := Dat.cum_succ v u hu1 (by omega)
          have Hs := Lib.hid hs; clear hs
          go_wp2_with (go_at_call 107; refine (rlong _ _ _ h1 h2 hu1 (by omega)).mono ?_; rintro e w' ⟨rfl, rfl⟩)
          go_round
          case rel => exact ⟨u + 1, by omega, by omega, by go_num, by rw [Hs.out]; go_num⟩
          case measure => simp [intOf]; omega
        · obtain rfl : u = m := by omega
          go_wp2
          go_ret2
          exact ⟨ret_two (by unfold Dat.num; omega) rfl, rfl⟩

set_option maxHeartbeats 800000 in
theorem rof_no (y m d : Int) (w : World) (hv : ¬ Dat.vld y m d) :
    Calls Tryz.prog 95 #[.int .i64 y, .int .i64 m, .int .i64 d] w fun e w' => e = .returned (.tuple #[.int .i64 0, .int .i64 8]) ∧ w = w' := by
  by_cases h1 : y < 1900
  · go_enter Tryz.func95, Tryz.ntmps95
    go_wp2_with fail
    go_ret2
    exact ⟨rfl, rfl⟩
  by_cases h2 : 2099 < y
  · go_enter Tryz.func95, Tryz.ntmps95
    go_wp2_with fail
    go_ret2
    exact ⟨rfl, rfl⟩
  by_cases h3 : m < 1
  · go_enter Tryz.func95, Tryz.ntmps95
    go_wp2_with fail
    go_ret2
    exact ⟨rfl, rfl⟩
  by_cases h4 : 12 < m
  · go_enter Tryz.func95, Tryz.ntmps95
    go_wp2_with fail
    go_ret2
    exact ⟨rfl, rfl⟩
  by_cases h5 : d < 1
  · go_enter Tryz.func95, Tryz.ntmps95
    go_wp2_with fail
    go_ret2
    exact ⟨rfl, rfl⟩
  have h6 : Dat.dim y m < d := by
    rcases Int.lt_or_le (Dat.dim y m) d with h | h
    · exact h
    · exact absurd ⟨by omega, by omega, by omega, by omega, by omega, h⟩ hv
  clear hv
  go_enter Tryz.func95, Tryz.ntmps95
  go_wp2_with (go_at_call 107; refine (rlong _ _ _ (by omega) (by omega) (by omega) (by omega)).mono ?_; rintro e w' ⟨rfl, rfl⟩)
  go_ret2
  exact ⟨rfl, rfl⟩

set_option maxHeartbeats 400000 in
theorem rparts_no (n : Int) (w : World) (h : ¬ (0 ≤ n ∧ n ≤ 73048)) :
    Calls Tryz.prog 81 #[.int .i64 n] w fun e w' => e = .returned (.tuple #[.int .i64 0, .int .i64 0, .int .i64 0, .int .i64 8]) ∧ w = w' := by
  have H := Lib.hid h; clear h
  go_enter Tryz.func81, Tryz.ntmps81
  go_wp2_with (go_at_call 106; refine (rvalid_no _ _ H.out).mono ?_; rintro e w' ⟨rfl, rfl⟩)
  refine bodyPost_ret (results_tmp4 rfl _ _ _) rfl ?_
  exact ⟨rfl, rfl⟩

set_option maxHeartbeats 800000 in
theorem rparts_yes (n : Int) (w : World) (h : 0 ≤ n) (h' : n ≤ 73048) :
    Calls Tryz.prog 81 #[.int .i64 n] w fun e w' => e = .returned (.tuple #[.int .i64 (Dat.yOf n), .int .i64 (Dat.mOf n), .int .i64 (Dat.dOf n), .int .i64 0]) ∧ w = w' := by
  go_enter Tryz.func81, Tryz.ntmps81
  go_wp2_with (go_at_call 106; refine (rvalid_yes _ _ h h').mono ?_; rintro e w' ⟨rfl, rfl⟩)
  go_loop [0, 6, 7] (fun r t k => ∃ y m : Int, 1900 ≤ y ∧ y ≤ 2099 ∧ 1 ≤ m ∧ m ≤ 12 ∧ t = .int .i64 y ∧ k = .int .i64 m ∧ Dat.bef y + Dat.cum y m ≤ n ∧ r = .int .i64 (n - Dat.bef y - Dat.cum y m)) (fun r _ _ => (intOf r).toNat)
  case atStart => exact ⟨1900, 1, by omega, by omega, by omega, by omega, rfl, rfl, by rw [Dat.bef_first, Dat.cum_first]; omega, by rw [Dat.bef_first, Dat.cum_first]; go_num⟩
  case round =>
    obtain ⟨y, m, hy1, hy2, hm1, hm2, rfl, rfl, hr, rfl⟩ := hrel
    have hb := Dat.bef_bd y hy1 (by omega)
    have cb := Dat.cum_bd y m
    have db := Dat.dim_bd y m
    have cs := Dat.cum_succ y m hm1 hm2
    by_cases hc : n - Dat.bef y - Dat.cum y m < Dat.dim y m
    · have hv : Dat.vld y m (n - Dat.bef y - Dat.cum y m + 1) := ⟨by omega, by omega, by omega, by omega, by omega, by omega⟩
      have hn : Dat.num y m (n - Dat.bef y - Dat.cum y m + 1) = n := by unfold Dat.num; omega
      have hp := Dat.parts_is hv hn
      have Hp := Lib.hid hp; clear hp hn hv cs
      go_wp2_with (go_at_call 107; refine (rlong _ _ _ (by omega) (by omega) (by omega) (by omega)).mono ?_; rintro e w' ⟨rfl, rfl⟩)
      refine bodyPost_ret (results_tmp4 rfl _ _ _) rfl ?_
      exact ⟨ret_four Hp.out.1 Hp.out.2.1 Hp.out.2.2, rfl⟩
    · by_cases hm : m = 12
      · subst hm
        have e13 : Dat.cum y (12 + 1) = 365 + Dat.lpi y := Dat.cum_end y
        have hs := Dat.bef_succ y hy1
        have hy : y + 1 ≤ 2099 := by
          rcases Int.lt_or_le y 2099 with g | g
          · omega
          · obtain rfl : y = 2099 := by omega
            have e2 : Dat.bef (2099 + 1) = 73049 := Dat.bef_last
            omega
        have hk : n - Dat.bef y - Dat.cum y 12 - Dat.dim y 12 = n - Dat.bef (y + 1) - Dat.cum (y + 1) 1 := by rw [Dat.cum_first]; omega
        have hk' : Dat.bef (y + 1) + Dat.cum (y + 1) 1 ≤ n := by rw [Dat.cum_first]; omega
        have Hk := Lib.hid hk; clear hk
        have Hk' := Lib.hid hk'; clear hk' e13 hs cs
        go_wp2_with (go_at_call 107; refine (rlong _ _ _ (by omega) (by omega) (by omega) (by omega)).mono ?_; rintro e w' ⟨rfl, rfl⟩)
        go_round
        case rel => exact ⟨y + 1, 1, by omega, by omega, by omega, by omega, rfl, rfl, Hk'.out, by rw [← Hk.out]⟩
        case measure => simp [intOf]; omega
      · have Cs := Lib.hid cs; clear cs
        go_wp2_with (go_at_call 107; refine (rlong _ _ _ (by omega) (by omega) (by omega) (by omega)).mono ?_; rintro e w' ⟨rfl, rfl⟩)
        go_round
        case rel => exact ⟨y, m + 1, by omega, by omega, by omega, by omega, rfl, rfl, by rw [Cs.out]; omega, by rw [Cs.out]; go_num⟩
        case measure => simp [intOf]; omega
end Go.Proofs.YtelngghecmkipaaGreatDoor
