/- Chapter 11: the walks of right and Shape of the reference; what the check digits ask. -/
import Derived.Test.YtelngghecmkipaaGreatDoorZonLines
namespace Go.Proofs.YtelngghecmkipaaGreatDoor
open Go.RowKit

set_option maxRecDepth 100000 in
set_option maxHeartbeats 1000000 in
theorem rright (S : ByteArray) (l : List UInt8) (c : UInt8) (hS : S = ⟨l.toArray⟩) (hv : Opt.valid l = true) (hl : l.length ≤ 1000) (w : World) :
    Calls Tryz.prog 38 #[.string S, .int .u8 (c.toNat : Int)] w fun e w' => e = .returned (.bool (decide ([c] = Zn.dg l))) ∧ Below w.heap.size w w' := by
  have hd := rdigit S w (by rw [hS, str_size]; omega)
  have e0 : Opt.digE S = 0 := by unfold Opt.digE; rw [hS]; exact if_pos hv
  have e1 : Opt.digS S = ⟨(Zn.dg l).toArray⟩ := by rw [hS]; exact digS_of hv
  rw [e0, e1] at hd
  obtain ⟨X, hX⟩ : ∃ X : ByteArray, X = ⟨(Zn.dg l).toArray⟩ := ⟨_, rfl⟩
  rw [← hX] at hd
  have zX : X.size = 1 := by rw [hX]; rfl
  have h0 : 0 < X.size := by omega
  have hx0 : X[0]'h0 = Opt.digit l := by subst hX; rfl
  have hc : (((X[0]'h0).toNat : Int) == (c.toNat : Int)) = decide ([c] = Zn.dg l) := by
    rw [hx0, Bool.eq_iff_iff, beq_iff_eq, decide_eq_true_eq]
    unfold Zn.dg
    constructor
    · intro h
      have : c = Opt.digit l := by apply UInt8.toNat_inj.1; omega
      rw [this]
    · intro h
      injection h with h _
      rw [h]
  obtain ⟨q, hq⟩ : ∃ q, decide ([c] = Zn.dg l) = q := ⟨_, rfl⟩
  rw [hq] at hc ⊢
  have HD := Lib.hid hd
  clear hd e0 e1 hX hx0 hq zX hS hv
  go_enter Tryz.func38, Tryz.ntmps38
  go_wp2_with fail
  refine HD.out.mono ?_; rintro e w1 ⟨rfl, hb⟩
  go_wp2_with fail
  go_ret
  exact ⟨rfl, hb⟩

theorem shape_two (s0 s1 : ByteArray) : Zn.shape (txts [s0, s1]) = if s0.size = 44 ∧ s1.size = 44 then 3 else if s0.size = 36 ∧ s1.size = 36 then 2 else 0 := by
  simp [Zn.shape, txts]
theorem shape_three (s0 s1 s2 : ByteArray) : Zn.shape (txts [s0, s1, s2]) = if s0.size = 30 ∧ s1.size = 30 ∧ s2.size = 30 then 1 else 0 := by
  simp [Zn.shape, txts]
theorem shape_else (R : List ByteArray) (h2 : R.length ≠ 2) (h3 : R.length ≠ 3) : Zn.shape (txts R) = 0 := by
  unfold Zn.shape
  rw [show (txts R).length = R.length from List.length_map _, if_neg (fun h => h2 h.1), if_neg (fun h => h2 h.1), if_neg (fun h => h3 h.1)]
set_option maxRecDepth 100000 in
set_option maxHeartbeats 4000000 in
theorem rshape (R : List ByteArray) (A : Option Addr) (c : Nat) (w : World) (hR : R.length ≤ 8796093022208) (hA : TextsAt w A R) :
    Calls Tryz.prog 36 #[.slice A R.length c] w fun e w' => e = .returned (.int .i64 (Zn.shape (txts R))) ∧ w = w' := by
  obtain ⟨q, hq⟩ : ∃ q : Int, (Zn.shape (txts R) : Int) = q := ⟨_, rfl⟩
  rw [hq]
  match R, hR, hA, hq with
  | [], _, _, hq =>
    have HQ := Lib.hid (show (0 : Int) = q from by rw [← hq, shape_else _ (by simp) (by simp)]; rfl)
    clear hq
    go_enter Tryz.func36, Tryz.ntmps36
    go_wp2_with fail
    go_ret
    exact ⟨ret_i64 HQ.out, rfl⟩
  | [_], _, _, hq =>
    have HQ := Lib.hid (show (0 : Int) = q from by rw [← hq, shape_else _ (by simp) (by simp)]; rfl)
    clear hq
    go_enter Tryz.func36, Tryz.ntmps36
    go_wp2_with fail
    go_ret
    exact ⟨ret_i64 HQ.out, rfl⟩
  | [s0, s1], hR, hA, hq =>
    obtain ⟨b, off, rfl, c0⟩ := hA.cell 0 (by simp)
    obtain ⟨b', off', e, c1⟩ := hA.cell 1 (by simp)
    injection e with e; injection e with e1 e2 e3; subst e1; subst e2
    simp only [List.getElem_cons_zero, List.getElem_cons_succ, Nat.add_zero] at c0 c1
    rw [shape_two] at hq
    have ei : ∀ (n : Nat) (m : Int), ((n : Int) == m) = decide ((n : Int) = m) := fun n m => by rw [Bool.eq_iff_iff, beq_iff_eq, decide_eq_true_eq]
    have a36 := ei s0.size 36; have b36 := ei s1.size 36; have a44 := ei s0.size 44; have b44 := ei s1.size 44
    clear ei hA hR
    by_cases h0 : s0.size = 36
    · rw [decide_eq_true (by omega)] at a36
      rw [decide_eq_false (by omega)] at a44
      by_cases h1 : s1.size = 36
      · rw [decide_eq_true (by omega)] at b36
        have HQ := Lib.hid (show (2 : Int) = q from by rw [← hq, if_neg (by omega), if_pos (by omega)]; rfl)
        clear hq h0 h1
        go_enter Tryz.func36, Tryz.ntmps36
        go_wp2_with fail
        go_ret
        exact ⟨ret_i64 HQ.out, rfl⟩
      · rw [decide_eq_false (by omega)] at b36
        have HQ := Lib.hid (show (0 : Int) = q from by rw [← hq, if_neg (by omega), if_neg (by omega)]; rfl)
        clear hq h0 h1
        go_enter Tryz.func36, Tryz.ntmps36
        go_wp2_with fail
        go_ret
        exact ⟨ret_i64 HQ.out, rfl⟩
    · rw [decide_eq_false (by omega)] at a36
      by_cases h4 : s0.size = 44
      · rw [decide_eq_true (by omega)] at a44
        by_cases h1 : s1.size = 44
        · rw [decide_eq_true (by omega)] at b44
          have HQ := Lib.hid (show (3 : Int) = q from by rw [← hq, if_pos (by omega)]; rfl)
          clear hq h0 h1 h4
          go_enter Tryz.func36, Tryz.ntmps36
          go_wp2_with fail
          go_ret
          exact ⟨ret_i64 HQ.out, rfl⟩
        · rw [decide_eq_false (by omega)] at b44
          have HQ := Lib.hid (show (0 : Int) = q from by rw [← hq, if_neg (by omega), if_neg (by omega)]; rfl)
          clear hq h0 h1 h4
          go_enter Tryz.func36, Tryz.ntmps36
          go_wp2_with fail
          go_ret
          exact ⟨ret_i64 HQ.out, rfl⟩
      · rw [decide_eq_false (by omega)] at a44
        have HQ := Lib.hid (show (0 : Int) = q from by rw [← hq, if_neg (by omega), if_neg (by omega)]; rfl)
        clear hq h0 h4
        go_enter Tryz.func36, Tryz.ntmps36
        go_wp2_with fail
        go_ret
        exact ⟨ret_i64 HQ.out, rfl⟩
  | [s0, s1, s2], hR, hA, hq =>
    obtain ⟨b, off, rfl, c0⟩ := hA.cell 0 (by simp)
    obtain ⟨b', off', e, c1⟩ := hA.cell 1 (by simp)
    injection e with e; injection e with e1 e2 e3; subst e1; subst e2
    obtain ⟨b', off', e, c2⟩ := hA.cell 2 (by simp)
    injection e with e; injection e with e1 e2 e3; subst e1; subst e2
    simp only [List.getElem_cons_zero, List.getElem_cons_succ, Nat.add_zero] at c0 c1 c2
    rw [shape_three] at hq
    have ei : ∀ (n : Nat) (m : Int), ((n : Int) == m) = decide ((n : Int) = m) := fun n m => by rw [Bool.eq_iff_iff, beq_iff_eq, decide_eq_true_eq]
    have a30 := ei s0.size 30; have b30 := ei s1.size 30; have d30 := ei s2.size 30
    clear ei hA hR
    by_cases h0 : s0.size = 30
    · rw [decide_eq_true (by omega)] at a30
      by_cases h1 : s1.size = 30
      · rw [decide_eq_true (by omega)] at b30
        by_cases h2 : s2.size = 30
        · rw [decide_eq_true (by omega)] at d30
          have HQ := Lib.hid (show (1 : Int) = q from by rw [← hq, if_pos (by omega)]; rfl)
          clear hq h0 h1 h2
          go_enter Tryz.func36, Tryz.ntmps36
          go_wp2_with fail
          go_ret
          exact ⟨ret_i64 HQ.out, rfl⟩
        · rw [decide_eq_false (by omega)] at d30
          have HQ := Lib.hid (show (0 : Int) = q from by rw [← hq, if_neg (by omega)]; rfl)
          clear hq h0 h1 h2
          go_enter Tryz.func36, Tryz.ntmps36
          go_wp2_with fail
          go_ret
          exact ⟨ret_i64 HQ.out, rfl⟩
      · rw [decide_eq_false (by omega)] at b30
        have HQ := Lib.hid (show (0 : Int) = q from by rw [← hq, if_neg (by omega)]; rfl)
        clear hq h0 h1
        go_enter Tryz.func36, Tryz.ntmps36
        go_wp2_with fail
        go_ret
        exact ⟨ret_i64 HQ.out, rfl⟩
    · rw [decide_eq_false (by omega)] at a30
      have HQ := Lib.hid (show (0 : Int) = q from by rw [← hq, if_neg (by omega)]; rfl)
      clear hq h0
      go_enter Tryz.func36, Tryz.ntmps36
      go_wp2_with fail
      go_ret
      exact ⟨ret_i64 HQ.out, rfl⟩
  | s0 :: s1 :: s2 :: s3 :: r, hR, hA, hq =>
    have HQ := Lib.hid (show (0 : Int) = q from by rw [← hq, shape_else _ (by simp) (by simp)]; rfl)
    have e2 : (((s0 :: s1 :: s2 :: s3 :: r).length : Int) == 2) = false := by rw [beq_eq_false_iff_ne]; simp only [List.length_cons]; omega
    have e3 : (((s0 :: s1 :: s2 :: s3 :: r).length : Int) == 3) = false := by rw [beq_eq_false_iff_ne]; simp only [List.length_cons]; omega
    clear hq hA
    generalize (s0 :: s1 :: s2 :: s3 :: r).length = n at *
    go_enter Tryz.func36, Tryz.ntmps36
    go_wp2_with fail
    go_ret
    exact ⟨ret_i64 HQ.out, rfl⟩
end Go.Proofs.YtelngghecmkipaaGreatDoor
