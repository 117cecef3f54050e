/- The walks of chapter 3: Months and Age of the program and of the reference, and the maker's Mod. -/
import Derived.Test.YtelngghecmkipaaGreatDoorDatParts
namespace Go.Proofs.YtelngghecmkipaaGreatDoor
open Go.RowKit

namespace Dat
/-- What Of gives: the day, and the error. -/
noncomputable def ofV (y m d : Int) : Int := open Classical in if vld y m d then num y m d else 0
noncomputable def ofE (y m d : Int) : Int := open Classical in if vld y m d then 0 else 8
/-- What Parts gives. -/
def inR (n : Int) : Prop := 0 ≤ n ∧ n ≤ 73048
noncomputable def paY (n : Int) : Int := open Classical in if inR n then yOf n else 0
noncomputable def paM (n : Int) : Int := open Classical in if inR n then mOf n else 0
noncomputable def paD (n : Int) : Int := open Classical in if inR n then dOf n else 0
noncomputable def paE (n : Int) : Int := open Classical in if inR n then 0 else 8
/-- The number of a day's month. -/
def mix (n : Int) : Int := 12 * (yOf n - 1900) + mOf n - 1
/-- The last day of month k, and the day d of it, or the last. -/
def cut (k d : Int) : Int := if d ≤ dim (1900 + k / 12) (k % 12 + 1) then d else dim (1900 + k / 12) (k % 12 + 1)
def atMonth (k d : Int) : Int := num (1900 + k / 12) (k % 12 + 1) (cut k d)
/-- What Months gives. -/
noncomputable def moV (n k : Int) : Int := open Classical in if k < -2400 ∨ 2400 < k ∨ ¬ inR n ∨ mix n + k < 0 ∨ 2399 < mix n + k then 0 else atMonth (mix n + k) (dOf n)
noncomputable def moE (n k : Int) : Int := open Classical in if k < -2400 ∨ 2400 < k then 3 else if ¬ inR n ∨ mix n + k < 0 ∨ 2399 < mix n + k then 8 else 0
/-- What Age gives. -/
noncomputable def agV (b n : Int) : Int := open Classical in if ¬ inR b ∨ ¬ inR n ∨ n < b then 0 else yOf n - yOf b - if n < num (yOf n) (mOf b) (dOf b) then 1 else 0
noncomputable def agE (b n : Int) : Int := open Classical in if ¬ inR b ∨ ¬ inR n then 8 else if n < b then 3 else 0
/-- What the maker's Mod gives for a modulus above 0. -/
def md (n m : Int) : Int := n % m

theorem atMonth_vld (k d : Int) (h : 0 ≤ k) (h' : k ≤ 2399) (hd : 1 ≤ d) : vld (1900 + k / 12) (k % 12 + 1) (cut k d) := by
  have := dim_bd (1900 + k / 12) (k % 12 + 1)
  unfold vld cut
  split <;> omega
/-- The 29th of February counts as the first of March where there is none. -/
theorem num_march (y : Int) (h : lp y = false) : num y 3 1 = num y 2 29 := by unfold num cum lpi; simp [h]; omega
theorem lex (n b : Int) (hn : inR n) (hb : inR b) : n < num (yOf n) (mOf b) (dOf b) ↔ (mOf n < mOf b ∨ (mOf n = mOf b ∧ dOf n < dOf b)) := by
  obtain ⟨⟨h1, h2, h3, h4, h5, h6⟩, e⟩ := parts_ok n hn.1 hn.2
  obtain ⟨⟨g1, g2, g3, g4, g5, g6⟩, _⟩ := parts_ok b hb.1 hb.2
  have e' : n = num (yOf n) (mOf n) (dOf n) := e.symm
  generalize yOf n = y at *; generalize mOf n = m at *; generalize dOf n = d at *
  generalize mOf b = m' at *; generalize dOf b = d' at *; generalize yOf b = y' at *
  have hl := lpi_01 y
  have hl' := lpi_01 y'
  rcases Int.lt_trichotomy m m' with g | g | g
  · have c := cum_mono y m m' g h3 (by omega)
    unfold num at e' ⊢; omega
  · subst g; unfold num at e' ⊢; omega
  · have c := cum_mono y m' m g g3 (by omega)
    have dd : d' ≤ dim y m' + 1 := by unfold dim at g6 ⊢; repeat' split at g6
                                      all_goals (repeat' split)
                                      all_goals omega
    unfold num at e' ⊢; omega
end Dat

set_option maxHeartbeats 400000 in
theorem mod_any (n m : Int) (w : World) (h1 : -9223372036854775808 ≤ n) (h2 : n ≤ 9223372036854775807) (h3 : 1 ≤ m) (h4 : m ≤ 1000000) :
    Calls Tryz.prog 19 #[.int .i64 n, .int .i64 m] w fun e w' => e = .returned (.int .i64 (Dat.md n m)) ∧ w = w' := by
  have b1 := Int.emod_nonneg n (b := m) (by omega)
  have b2 := Int.emod_lt_of_pos n (b := m) (by omega)
  by_cases h0 : 0 ≤ n
  · go_enter Tryz.func19, Tryz.ntmps19
    go_wp2
    go_ret
    exact ⟨rfl, rfl⟩
  · have e1 := Int.tmod_eq_emod (a := n) (b := m)
    have b5 := Int.neg_tmod (a := n) (b := m)
    have b6 := Int.tmod_nonneg (a := -n) m (by omega)
    have b7 := Int.tmod_lt_of_pos (-n) (b := m) (by omega)
    have b3 : n.tmod m ≤ 0 := by omega
    have b4 : -m < n.tmod m := by omega
    clear b5 b6 b7
    by_cases hz : n.tmod m < 0
    · have e2 : n.tmod m + m = n % m := by
        rw [e1]; split
        · rename_i hh; rcases hh with hh | hh
          · omega
          · have := Int.emod_eq_zero_of_dvd hh; rw [e1, if_pos (Or.inr hh)] at hz; omega
        · omega
      have E2 := Lib.hid e2; clear e2 e1
      go_enter Tryz.func19, Tryz.ntmps19
      go_wp2
      go_ret
      exact ⟨ret_i64 (by unfold Dat.md; have := E2.out; omega), rfl⟩
    · have e2 : n.tmod m = n % m := by
        have e0 : n.tmod m = 0 := by omega
        have hd : m ∣ n := Int.dvd_of_tmod_eq_zero e0
        rw [e0, Int.emod_eq_zero_of_dvd hd]
      have E2 := Lib.hid e2; clear e2 e1
      go_enter Tryz.func19, Tryz.ntmps19
      go_wp2
      go_ret
      exact ⟨ret_i64 (by unfold Dat.md; have := E2.out; omega), rfl⟩

theorem dof_any (y m d : Int) (w : World) (hw : Dat.At w) :
    Calls Tryz.prog 91 #[.int .i64 y, .int .i64 m, .int .i64 d] w fun e w' => e = .returned (.tuple #[.int .i64 (Dat.ofV y m d), .int .i64 (Dat.ofE y m d)]) ∧ w = w' := by
  by_cases h : Dat.vld y m d
  · simpa only [Dat.ofV, Dat.ofE, if_pos h] using dof_yes y m d w hw h
  · simpa only [Dat.ofV, Dat.ofE, if_neg h] using dof_no y m d w hw h
theorem rof_any (y m d : Int) (w : World) :
    Calls Tryz.prog 95 #[.int .i64 y, .int .i64 m, .int .i64 d] w fun e w' => e = .returned (.tuple #[.int .i64 (Dat.ofV y m d), .int .i64 (Dat.ofE y m d)]) ∧ w = w' := by
  by_cases h : Dat.vld y m d
  · simpa only [Dat.ofV, Dat.ofE, if_pos h] using rof_yes y m d w h
  · simpa only [Dat.ofV, Dat.ofE, if_neg h] using rof_no y m d w h
theorem rparts_any (n : Int) (w : World) :
    Calls Tryz.prog 81 #[.int .i64 n] w fun e w' => e = .returned (.tuple #[.int .i64 (Dat.paY n), .int .i64 (Dat.paM n), .int .i64 (Dat.paD n), .int .i64 (Dat.paE n)]) ∧ w = w' := by
  by_cases h : Dat.inR n
  · simpa only [Dat.paY, Dat.paM, Dat.paD, Dat.paE, if_pos h] using rparts_yes n w h.1 h.2
  · simpa only [Dat.paY, Dat.paM, Dat.paD, Dat.paE, if_neg h] using rparts_no n w h

end Go.Proofs.YtelngghecmkipaaGreatDoor
