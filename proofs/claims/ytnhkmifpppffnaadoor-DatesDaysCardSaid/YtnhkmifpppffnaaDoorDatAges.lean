/- The walks of chapter 3: Age of the program and of the reference. -/
import Derived.Test.YtnhkmifpppffnaaDoorDatMonths
namespace Go.Proofs.YtnhkmifpppffnaaDoor
open Go.RowKit

theorem Dat.agV_bd (b n : Int) (hb : Dat.inR b) (hn : Dat.inR n) (h : b ≤ n) : Dat.yOf b ≤ Dat.yOf n := by
  obtain ⟨hv, e⟩ := Dat.parts_ok b hb.1 hb.2
  obtain ⟨hv', e'⟩ := Dat.parts_ok n hn.1 hn.2
  rcases Int.lt_or_le (Dat.yOf n) (Dat.yOf b) with g | g
  · have := Dat.num_year hv' hv g; omega
  · exact g

set_option maxHeartbeats 800000 in
theorem dage_any (b n : Int) (w : World) (hw : Dat.At w) :
    Calls Tryd.prog 21 #[.int .i64 b, .int .i64 n] w fun e w' => e = .returned (.tuple #[.int .i64 (Dat.agV b n), .int .i64 (Dat.agE b n)]) ∧ w = w' := by
  by_cases c1 : ¬ Dat.inR b
  · have e1 : Dat.agV b n = 0 := if_pos (.inl c1)
    have e2 : Dat.agE b n = 8 := if_pos (.inl c1)
    rw [e1, e2]; clear e1 e2
    have C1 := Lib.hid c1; clear c1
    go_enter Tryd.func21, Tryd.ntmps21
    go_wp2_with (go_at_call 16; refine (dvalid_no _ _ C1.out).mono ?_; rintro e w' ⟨rfl, rfl⟩)
    go_ret2
    exact ⟨rfl, rfl⟩
  replace c1 := Classical.not_not.1 c1
  by_cases c2 : ¬ Dat.inR n
  · have e1 : Dat.agV b n = 0 := if_pos (.inr (.inl c2))
    have e2 : Dat.agE b n = 8 := if_pos (.inr c2)
    rw [e1, e2]; clear e1 e2
    have C1 := Lib.hid c1; clear c1
    have C2 := Lib.hid c2; clear c2
    go_enter Tryd.func21, Tryd.ntmps21
    go_wp2_with fail
    refine (dvalid_yes _ _ C1.out.1 C1.out.2).mono ?_; rintro e w' ⟨rfl, rfl⟩
    go_wp2_with fail
    refine (dvalid_no _ _ C2.out).mono ?_; rintro e w' ⟨rfl, rfl⟩
    go_wp2_with fail
    go_ret2
    exact ⟨rfl, rfl⟩
  replace c2 := Classical.not_not.1 c2
  by_cases c3 : n < b
  · have e1 : Dat.agV b n = 0 := if_pos (.inr (.inr c3))
    have e2 : Dat.agE b n = 3 := (if_neg (by rintro (h | h) <;> exact h (by assumption))).trans (if_pos c3)
    rw [e1, e2]; clear e1 e2
    have C1 := Lib.hid c1; clear c1
    have C2 := Lib.hid c2; clear c2
    go_enter Tryd.func21, Tryd.ntmps21
    go_wp2_with fail
    refine (dvalid_yes _ _ C1.out.1 C1.out.2).mono ?_; rintro e w' ⟨rfl, rfl⟩
    go_wp2_with fail
    refine (dvalid_yes _ _ C2.out.1 C2.out.2).mono ?_; rintro e w' ⟨rfl, rfl⟩
    go_wp2_with fail
    go_ret2
    exact ⟨rfl, rfl⟩
  have hyy := Dat.agV_bd b n c1 c2 (by omega)
  have e1 : Dat.agV b n = Dat.yOf n - Dat.yOf b - if n < Dat.num (Dat.yOf n) (Dat.mOf b) (Dat.dOf b) then 1 else 0 := if_neg (by rintro (h | h | h) <;> first | omega | exact h (by assumption))
  have e2 : Dat.agE b n = 0 := (if_neg (by rintro (h | h) <;> exact h (by assumption))).trans (if_neg c3)
  rw [e1, e2]; clear e1 e2
  obtain ⟨⟨h1, h2, h3, h4, h5, h6⟩, _⟩ := Dat.parts_ok b c1.1 c1.2
  obtain ⟨⟨g1, g2, g3, g4, g5, g6⟩, _⟩ := Dat.parts_ok n c2.1 c2.2
  have hd := Dat.dim_bd (Dat.yOf b) (Dat.mOf b)
  have C1 := Lib.hid c1; clear c1
  have C2 := Lib.hid c2; clear c2
  generalize hR : (Dat.yOf n - Dat.yOf b - if n < Dat.num (Dat.yOf n) (Dat.mOf b) (Dat.dOf b) then 1 else 0) = R
  have key : ∀ m d : Int, Dat.vld (Dat.yOf n) m d → Dat.num (Dat.yOf n) m d = Dat.num (Dat.yOf n) (Dat.mOf b) (Dat.dOf b) →
      ((n < Dat.num (Dat.yOf n) m d → Dat.yOf n - Dat.yOf b - 1 = R) ∧ (¬ n < Dat.num (Dat.yOf n) m d → Dat.yOf n - Dat.yOf b = R)) := by
    intro m d _ e; rw [← hR, e]; constructor <;> intro hh
    · rw [if_pos hh]
    · rw [if_neg hh]; omega
  clear hR
  by_cases c4 : Dat.mOf b = 2 ∧ Dat.dOf b = 29
  · obtain ⟨cm, cd⟩ := c4
    cases hl : Dat.lp (Dat.yOf n) with
    | false =>
      have hv : Dat.vld (Dat.yOf n) 3 1 := ⟨g1, g2, by omega, by omega, by omega, by simp [Dat.dim]⟩
      have k := key 3 1 hv (by rw [cm, cd]; exact Dat.num_march _ hl)
      have K := Lib.hid k; clear k key
      have Hv := Lib.hid hv; clear hv
      have Hl := Lib.hid hl; clear hl
      have hb1 : (Dat.mOf b == 2) = true := by simp [cm]
      have hb2 : (Dat.dOf b == 29) = true := by simp [cd]
      have CM := Lib.hid cm; have CD := Lib.hid cd; clear cm cd
      by_cases c5 : n < Dat.num (Dat.yOf n) 3 1
      all_goals
        go_enter Tryd.func21, Tryd.ntmps21
        go_wp2_with fail
        refine (dvalid_yes _ _ C1.out.1 C1.out.2).mono ?_; rintro e w' ⟨rfl, rfl⟩
        go_wp2_with fail
        refine (dvalid_yes _ _ C2.out.1 C2.out.2).mono ?_; rintro e w' ⟨rfl, rfl⟩
        go_wp2_with fail
        refine (dparts_yes _ _ hw C1.out.1 C1.out.2).mono ?_; rintro e w' ⟨rfl, rfl⟩
        go_wp2_with fail
        refine (dparts_yes _ _ hw C2.out.1 C2.out.2).mono ?_; rintro e w' ⟨rfl, rfl⟩
        go_wp2_with fail
        refine (dleap _ _ g1 g2).mono ?_; rintro e w' ⟨rfl, rfl⟩; rw [Hl.out]
        go_wp2_with fail
        refine (dof_yes _ _ _ _ hw Hv.out).mono ?_; rintro e w' ⟨rfl, rfl⟩
        go_wp2_with fail
        go_ret2
        exact ⟨ret_two (by first | exact K.out.1 (by omega) | exact K.out.2 (by omega)) rfl, rfl⟩
    | true =>
      have hv : Dat.vld (Dat.yOf n) (Dat.mOf b) (Dat.dOf b) := ⟨g1, g2, by omega, by omega, by omega, by rw [cm, cd]; simp [Dat.dim, Dat.lpi, hl]⟩
      have k := key _ _ hv rfl
      have K := Lib.hid k; clear k key
      have Hv := Lib.hid hv; clear hv
      have Hl := Lib.hid hl; clear hl
      have hb1 : (Dat.mOf b == 2) = true := by simp [cm]
      have hb2 : (Dat.dOf b == 29) = true := by simp [cd]
      have CM := Lib.hid cm; have CD := Lib.hid cd; clear cm cd
      by_cases c5 : n < Dat.num (Dat.yOf n) (Dat.mOf b) (Dat.dOf b)
      all_goals
        go_enter Tryd.func21, Tryd.ntmps21
        go_wp2_with fail
        refine (dvalid_yes _ _ C1.out.1 C1.out.2).mono ?_; rintro e w' ⟨rfl, rfl⟩
        go_wp2_with fail
        refine (dvalid_yes _ _ C2.out.1 C2.out.2).mono ?_; rintro e w' ⟨rfl, rfl⟩
        go_wp2_with fail
        refine (dparts_yes _ _ hw C1.out.1 C1.out.2).mono ?_; rintro e w' ⟨rfl, rfl⟩
        go_wp2_with fail
        refine (dparts_yes _ _ hw C2.out.1 C2.out.2).mono ?_; rintro e w' ⟨rfl, rfl⟩
        go_wp2_with fail
        refine (dleap _ _ g1 g2).mono ?_; rintro e w' ⟨rfl, rfl⟩; rw [Hl.out]
        go_wp2_with fail
        refine (dof_yes _ _ _ _ hw Hv.out).mono ?_; rintro e w' ⟨rfl, rfl⟩
        go_wp2_with fail
        go_ret2
        exact ⟨ret_two (by first | exact K.out.1 (by omega) | exact K.out.2 (by omega)) rfl, rfl⟩
  · have hv : Dat.vld (Dat.yOf n) (Dat.mOf b) (Dat.dOf b) := by
      refine ⟨g1, g2, h3, h4, h5, ?_⟩
      have l1 := Dat.lpi_01 (Dat.yOf n)
      have l2 := Dat.lpi_01 (Dat.yOf b)
      unfold Dat.dim at h6 ⊢
      by_cases e : Dat.mOf b = 2
      · simp only [e, if_true] at h6 ⊢; omega
      · simp only [e, if_false] at h6 ⊢; omega
    have k := key _ _ hv rfl
    have K := Lib.hid k; clear k key
    have Hv := Lib.hid hv; clear hv
    have hbb : ((Dat.mOf b == 2) = true ∧ (Dat.dOf b == 29) = false) ∨ (Dat.mOf b == 2) = false := by
      by_cases e : Dat.mOf b = 2
      · exact .inl ⟨by simp [e], by simp; omega⟩
      · exact .inr (by simp [e])
    clear c4
    rcases hbb with ⟨hb1, hb2⟩ | hb1
    all_goals by_cases c5 : n < Dat.num (Dat.yOf n) (Dat.mOf b) (Dat.dOf b)
    all_goals
      go_enter Tryd.func21, Tryd.ntmps21
      go_wp2_with fail
      refine (dvalid_yes _ _ C1.out.1 C1.out.2).mono ?_; rintro e w' ⟨rfl, rfl⟩
      go_wp2_with fail
      refine (dvalid_yes _ _ C2.out.1 C2.out.2).mono ?_; rintro e w' ⟨rfl, rfl⟩
      go_wp2_with fail
      refine (dparts_yes _ _ hw C1.out.1 C1.out.2).mono ?_; rintro e w' ⟨rfl, rfl⟩
      go_wp2_with fail
      refine (dparts_yes _ _ hw C2.out.1 C2.out.2).mono ?_; rintro e w' ⟨rfl, rfl⟩
      go_wp2_with fail
      refine (dof_yes _ _ _ _ hw Hv.out).mono ?_; rintro e w' ⟨rfl, rfl⟩
      go_wp2_with fail
      go_ret2
      exact ⟨ret_two (by first | exact K.out.1 (by omega) | exact K.out.2 (by omega)) rfl, rfl⟩

set_option maxHeartbeats 800000 in
theorem rage_any (b n : Int) (w : World) :
    Calls Tryd.prog 22 #[.int .i64 b, .int .i64 n] w fun e w' => e = .returned (.tuple #[.int .i64 (Dat.agV b n), .int .i64 (Dat.agE b n)]) ∧ w = w' := by
  by_cases c1 : ¬ Dat.inR b
  · have e1 : Dat.agV b n = 0 := if_pos (.inl c1)
    have e2 : Dat.agE b n = 8 := if_pos (.inl c1)
    rw [e1, e2]; clear e1 e2
    have C1 := Lib.hid c1; clear c1
    go_enter Tryd.func22, Tryd.ntmps22
    go_wp2_with fail
    refine (rparts_no _ _ C1.out).mono ?_; rintro e w' ⟨rfl, rfl⟩
    go_wp2_with fail
    refine (rparts_any _ _).mono ?_; rintro e w' ⟨rfl, rfl⟩
    go_wp2_with fail
    go_ret2
    exact ⟨rfl, rfl⟩
  replace c1 := Classical.not_not.1 c1
  by_cases c2 : ¬ Dat.inR n
  · have e1 : Dat.agV b n = 0 := if_pos (.inr (.inl c2))
    have e2 : Dat.agE b n = 8 := if_pos (.inr c2)
    rw [e1, e2]; clear e1 e2
    have C1 := Lib.hid c1; clear c1
    have C2 := Lib.hid c2; clear c2
    go_enter Tryd.func22, Tryd.ntmps22
    go_wp2_with fail
    refine (rparts_yes _ _ C1.out.1 C1.out.2).mono ?_; rintro e w' ⟨rfl, rfl⟩
    go_wp2_with fail
    refine (rparts_no _ _ C2.out).mono ?_; rintro e w' ⟨rfl, rfl⟩
    go_wp2_with fail
    go_ret2
    exact ⟨rfl, rfl⟩
  replace c2 := Classical.not_not.1 c2
  by_cases c3 : n < b
  · have e1 : Dat.agV b n = 0 := if_pos (.inr (.inr c3))
    have e2 : Dat.agE b n = 3 := (if_neg (by rintro (h | h) <;> exact h (by assumption))).trans (if_pos c3)
    rw [e1, e2]; clear e1 e2
    have C1 := Lib.hid c1; clear c1
    have C2 := Lib.hid c2; clear c2
    go_enter Tryd.func22, Tryd.ntmps22
    go_wp2_with fail
    refine (rparts_yes _ _ C1.out.1 C1.out.2).mono ?_; rintro e w' ⟨rfl, rfl⟩
    go_wp2_with fail
    refine (rparts_yes _ _ C2.out.1 C2.out.2).mono ?_; rintro e w' ⟨rfl, rfl⟩
    go_wp2_with fail
    go_ret2
    exact ⟨rfl, rfl⟩
  have hyy := Dat.agV_bd b n c1 c2 (by omega)
  have e1 : Dat.agV b n = Dat.yOf n - Dat.yOf b - if n < Dat.num (Dat.yOf n) (Dat.mOf b) (Dat.dOf b) then 1 else 0 := if_neg (by rintro (h | h | h) <;> first | omega | exact h (by assumption))
  have e2 : Dat.agE b n = 0 := (if_neg (by rintro (h | h) <;> exact h (by assumption))).trans (if_neg c3)
  rw [e1, e2]; clear e1 e2
  obtain ⟨⟨h1, h2, h3, h4, h5, h6⟩, _⟩ := Dat.parts_ok b c1.1 c1.2
  obtain ⟨⟨g1, g2, g3, g4, g5, g6⟩, _⟩ := Dat.parts_ok n c2.1 c2.2
  have hx := Dat.lex n b c2 c1
  have C1 := Lib.hid c1; clear c1
  have C2 := Lib.hid c2; clear c2
  have hbb : (Dat.mOf n < Dat.mOf b ∧ n < Dat.num (Dat.yOf n) (Dat.mOf b) (Dat.dOf b)) ∨ (¬ Dat.mOf n < Dat.mOf b ∧ (Dat.mOf n == Dat.mOf b) = false ∧ ¬ n < Dat.num (Dat.yOf n) (Dat.mOf b) (Dat.dOf b)) ∨
      (¬ Dat.mOf n < Dat.mOf b ∧ (Dat.mOf n == Dat.mOf b) = true ∧ Dat.dOf n < Dat.dOf b ∧ n < Dat.num (Dat.yOf n) (Dat.mOf b) (Dat.dOf b)) ∨ (¬ Dat.mOf n < Dat.mOf b ∧ (Dat.mOf n == Dat.mOf b) = true ∧ ¬ Dat.dOf n < Dat.dOf b ∧ ¬ n < Dat.num (Dat.yOf n) (Dat.mOf b) (Dat.dOf b)) := by
    simp only [beq_iff_eq, beq_eq_false_iff_ne]
    omega
  clear hx
  rcases hbb with ⟨b1, b2⟩ | ⟨b1, b3, b2⟩ | ⟨b1, b3, b4, b2⟩ | ⟨b1, b3, b4, b2⟩
  all_goals
    first | rw [if_pos b2] | rw [if_neg b2]
    clear b2
    go_enter Tryd.func22, Tryd.ntmps22
    go_wp2_with fail
    refine (rparts_yes _ _ C1.out.1 C1.out.2).mono ?_; rintro e w' ⟨rfl, rfl⟩
    go_wp2_with fail
    refine (rparts_yes _ _ C2.out.1 C2.out.2).mono ?_; rintro e w' ⟨rfl, rfl⟩
    go_wp2_with fail
    go_ret2
    exact ⟨ret_two (by omega) rfl, rfl⟩
end Go.Proofs.YtnhkmifpppffnaaDoor
