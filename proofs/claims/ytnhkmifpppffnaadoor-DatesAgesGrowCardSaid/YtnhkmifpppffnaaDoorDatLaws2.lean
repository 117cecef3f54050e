/- The walks of chapter 3's statements on days, dates that follow, windows, months that are added, and ages that grow. -/
import Derived.Test.YtnhkmifpppffnaaDoorDatLaws
import Derived.Test.YtnhkmifpppffnaaDoorDatPlain2
import Derived.BigQuiet
import Derived.Deep.QuietTactic
namespace Go.Proofs.YtnhkmifpppffnaaDoor
open Go.RowKit Go.ChangeShapes Go.WideShapes


set_option maxHeartbeats 1000000 in
theorem walkDatesDays {H : Type} {enc : TypeId × Value → H} {base b0 : Nat} {sp : Nat → Bool} {held : Bool} {p : List MemPlace} {r : Reach} (w : World) (n : Int) (_w0 : (Lit.int .i64 n).wf = true) (v1 : Value) (d1 : DataW H)
    (hv : Value.okWide Tryd.prog w r b0 22 v1) (h : DataW.Trod enc Tryd.prog w base sp held 22 v1 d1 p) (hL : laidMetH Tryd.prog Rows.datesDaysRow.laid w) :
    Calls Tryd.prog 3 #[.int .i64 n, v1] w fun e w' => e = .returned (.bool true) ∧ Below w.heap.size w w' := by
  obtain ⟨x, y, z, rfl, wx, wy, wz⟩ := open_arr3 hv h
  have hw := Dat.at_of hL
  have hb1 : Below w.heap.size w (w.alloc (.cells #[.int .i64 x, .int .i64 y, .int .i64 z] 22)).drew := ((Below.refl _ _).alloc (Nat.le_refl _) _).drew
  have hw1 := hw.below hb1
  clear hL hv h
  by_cases hn : Dat.inR n
  all_goals
    have Hn := Lib.hid hn; clear hn
    go_enter Tryd.func3, Tryd.ntmps3
    go_wp2_with fail
    go_region
    go_wp2_with fail
    refine (dof_any _ _ _ _ hw1).mono ?_; rintro e w' ⟨rfl, rfl⟩
    go_wp2_with fail
    refine (rof_any _ _ _ _).mono ?_; rintro e w' ⟨rfl, rfl⟩
    go_wp2_with fail
    refine (dparts_any _ _ hw1).mono ?_; rintro e w' ⟨rfl, rfl⟩
    go_wp2_with fail
    refine (rparts_any _ _).mono ?_; rintro e w' ⟨rfl, rfl⟩
    go_wp2_with fail
    refine (awake_any _ hw1).mono ?_; rintro e w2 ⟨rfl, hb2⟩
    have hb3 := hb1.trans (hb2.mono hb1.size)
    go_wp2_with fail
    first | (refine (dvalid_yes _ _ Hn.out.1 Hn.out.2).mono ?_; rintro e w' ⟨rfl, rfl⟩) | (refine (dvalid_no _ _ Hn.out).mono ?_; rintro e w' ⟨rfl, rfl⟩)
    go_wp2_with fail
    first | (refine (rvalid_yes _ _ Hn.out.1 Hn.out.2).mono ?_; rintro e w' ⟨rfl, rfl⟩) | (refine (rvalid_no _ _ Hn.out).mono ?_; rintro e w' ⟨rfl, rfl⟩)
    go_wp2_with fail
    go_ret
    exact ⟨rfl, hb3⟩

set_option maxHeartbeats 1000000 in
theorem walkDatesFollow (w : World) (n : Int) (w0 : (Lit.int .i64 n).wf = true) (hL : laidMetH Tryd.prog Rows.datesFollowRow.laid w) :
    Calls Tryd.prog 4 #[.int .i64 n] w fun e w' => e = .returned (.bool true) ∧ Below w.heap.size w w' := by
  have hw := Dat.at_of hL
  clear hL
  have bn := bounds_i64 w0

  have b1 : 0 ≤ Dat.md n 73048 ∧ Dat.md n 73048 ≤ 73047 := by unfold Dat.md; omega
  obtain ⟨D, hD⟩ : ∃ D, Dat.md n 73048 = D := ⟨_, rfl⟩
  rw [hD] at b1
  have HD := Lib.hid hD; clear hD
  obtain ⟨hv, hnum⟩ := Dat.parts_ok D b1.1 (by omega)
  have ev : Dat.ofV (Dat.yOf D) (Dat.mOf D) (Dat.dOf D) = D := by unfold Dat.ofV; rw [if_pos hv, hnum]
  have ee : Dat.ofE (Dat.yOf D) (Dat.mOf D) (Dat.dOf D) = 0 := by unfold Dat.ofE; rw [if_pos hv]
  have EV := Lib.hid ev; have EE := Lib.hid ee; clear ev ee hnum
  have hd := Dat.dim_bd (Dat.yOf D) (Dat.mOf D)
  obtain ⟨h1, h2, h3, h4, h5, h6⟩ := hv
  rcases Dat.follow D b1.1 b1.2 with ⟨g0, gy, gm, gd⟩ | ⟨g0, g1, gy, gm, gd⟩ | ⟨g0, g1, gy, gm, gd⟩
  · have t1 : ((Dat.dOf D + 1) == 1) = false := by simp; omega
    have t2 : ((Dat.dOf D + 1) == (Dat.dOf D + 1)) = true := by simp
    have GY := Lib.hid gy; have GM := Lib.hid gm; have GD := Lib.hid gd; clear gy gm gd
    go_enter Tryd.func4, Tryd.ntmps4
    go_wp2_with fail
    refine (mod_any _ _ _ bn.1 bn.2 (by omega) (by omega)).mono ?_; rintro e w' ⟨rfl, rfl⟩; rw [HD.out]
    go_wp2_with fail
    refine (dparts_yes _ _ hw b1.1 (by omega)).mono ?_; rintro e w' ⟨rfl, rfl⟩
    go_wp2_with fail
    refine (dparts_yes _ _ hw (by omega) (by omega)).mono ?_; rintro e w' ⟨rfl, rfl⟩; rw [GY.out, GM.out, GD.out]
    go_wp2_with fail
    refine (dof_any _ _ _ _ hw).mono ?_; rintro e w' ⟨rfl, rfl⟩; rw [EV.out, EE.out]
    go_wp2_with fail
    refine (awake_any _ hw).mono ?_; rintro e w2 ⟨rfl, hb2⟩
    go_wp2_with fail
    go_ret
    exact ⟨rfl, hb2⟩
  · have t1 : ((Dat.mOf D + 1) == (Dat.mOf D + 1)) = true := by simp
    have GY := Lib.hid gy; have GM := Lib.hid gm; have GD := Lib.hid gd; clear gy gm gd
    go_enter Tryd.func4, Tryd.ntmps4
    go_wp2_with fail
    refine (mod_any _ _ _ bn.1 bn.2 (by omega) (by omega)).mono ?_; rintro e w' ⟨rfl, rfl⟩; rw [HD.out]
    go_wp2_with fail
    refine (dparts_yes _ _ hw b1.1 (by omega)).mono ?_; rintro e w' ⟨rfl, rfl⟩
    go_wp2_with fail
    refine (dparts_yes _ _ hw (by omega) (by omega)).mono ?_; rintro e w' ⟨rfl, rfl⟩; rw [GY.out, GM.out, GD.out]
    go_wp2_with fail
    refine (dof_any _ _ _ _ hw).mono ?_; rintro e w' ⟨rfl, rfl⟩; rw [EV.out, EE.out]
    go_wp2_with fail
    refine (awake_any _ hw).mono ?_; rintro e w2 ⟨rfl, hb2⟩
    go_wp2_with fail
    go_ret
    exact ⟨rfl, hb2⟩
  · have t1 : ((1 : Int) == Dat.mOf D + 1) = false := by simp; omega
    have t2 : (Dat.mOf D == 12) = true := by simp [g1]
    have G1 := Lib.hid g1; clear g1
    have GY := Lib.hid gy; have GM := Lib.hid gm; have GD := Lib.hid gd; clear gy gm gd
    go_enter Tryd.func4, Tryd.ntmps4
    go_wp2_with fail
    refine (mod_any _ _ _ bn.1 bn.2 (by omega) (by omega)).mono ?_; rintro e w' ⟨rfl, rfl⟩; rw [HD.out]
    go_wp2_with fail
    refine (dparts_yes _ _ hw b1.1 (by omega)).mono ?_; rintro e w' ⟨rfl, rfl⟩
    go_wp2_with fail
    refine (dparts_yes _ _ hw (by omega) (by omega)).mono ?_; rintro e w' ⟨rfl, rfl⟩; rw [GY.out, GM.out, GD.out]
    go_wp2_with fail
    refine (dof_any _ _ _ _ hw).mono ?_; rintro e w' ⟨rfl, rfl⟩; rw [EV.out, EE.out]
    go_wp2_with fail
    refine (awake_any _ hw).mono ?_; rintro e w2 ⟨rfl, hb2⟩
    go_wp2_with fail
    go_ret
    exact ⟨rfl, hb2⟩

set_option maxHeartbeats 1000000 in
theorem walkDatesAgesGrow (w : World) (n : Int) (w0 : (Lit.int .i64 n).wf = true) (k : Int) (w1 : (Lit.int .i64 k).wf = true) (hL : laidMetH Tryd.prog Rows.datesAgesGrowRow.laid w) :
    Calls Tryd.prog 8 #[.int .i64 n, .int .i64 k] w fun e w' => e = .returned (.bool true) ∧ Below w.heap.size w w' := by
  have hw := Dat.at_of hL
  clear hL
  have bn := bounds_i64 w0
  have bk := bounds_i64 w1

  have b1 : 0 ≤ Dat.md n 72248 ∧ Dat.md n 72248 ≤ 72247 := by unfold Dat.md; omega
  obtain ⟨B, hB⟩ : ∃ B, Dat.md n 72248 = B := ⟨_, rfl⟩
  rw [hB] at b1
  have HB := Lib.hid hB; clear hB
  have b2 : 0 ≤ Dat.md k (73048 - B - 370) ∧ Dat.md k (73048 - B - 370) < 73048 - B - 370 := by
    unfold Dat.md; exact ⟨Int.emod_nonneg _ (by omega), Int.emod_lt_of_pos _ (by omega)⟩
  obtain ⟨M, hM⟩ : ∃ M, Dat.md k (73048 - B - 370) = M := ⟨_, rfl⟩
  rw [hM] at b2
  have HM := Lib.hid hM; clear hM
  obtain ⟨e1, e2, e3, g1, g2, g3⟩ := Dat.ages_grow B (B + M) ⟨by omega, by omega⟩ (by omega) (by omega)
  have E1 := Lib.hid e1; have E2 := Lib.hid e2; have E3 := Lib.hid e3; clear e1 e2 e3
  have b3 : Dat.agV B (B + M) ≤ 73048 := by
    obtain ⟨_, h2, h3, _⟩ := Dat.age_is B (B + M) ⟨by omega, by omega⟩ ⟨by omega, by omega⟩ (by omega)
    have := Dat.Bd_le B ⟨by omega, by omega⟩ 0 _ (by omega) h2
    have h4 := Dat.place_bd (Dat.parts_ok B (by omega) (by omega)).1 (Dat.yOf B)
    have h5 := Dat.bef_bd (Dat.yOf B) (Dat.yOf_ok B (by omega) (by omega)).1 (by have := (Dat.yOf_ok B (by omega) (by omega)).2.1; omega)
    have h6 : Dat.Bd B 0 = Dat.bef (Dat.yOf B) + Dat.cum (Dat.yOf B) (Dat.mOf B) + Dat.dOf B - 1 := by unfold Dat.Bd Dat.num; rw [Int.add_zero]
    omega
  generalize hx : Dat.agV B (B + M) = x at *
  generalize hy : Dat.agV B (B + M + 1) = y at *
  generalize hz : Dat.agV B (B + M + 366) = z at *
  have HX := Lib.hid hx; have HY := Lib.hid hy; have HZ := Lib.hid hz; clear hx hy hz
  have t : (y == x) = true ∨ ((y == x) = false ∧ (y == x + 1) = true) := by simp only [beq_iff_eq, beq_eq_false_iff_ne]; omega
  have t' : (z == x + 1) = true ∨ ((z == x + 1) = false ∧ (z == x + 2) = true) := by simp only [beq_iff_eq, beq_eq_false_iff_ne]; omega
  clear g2 g3
  rcases t with t1 | ⟨t1, t2⟩ <;> rcases t' with t3 | ⟨t3, t4⟩
  all_goals
    go_enter Tryd.func8, Tryd.ntmps8
    go_wp2_with fail
    refine (mod_any _ _ _ bn.1 bn.2 (by omega) (by omega)).mono ?_; rintro e w' ⟨rfl, rfl⟩; rw [HB.out]
    go_wp2_with fail
    refine (mod_any _ _ _ bk.1 bk.2 (by omega) (by omega)).mono ?_; rintro e w' ⟨rfl, rfl⟩; rw [HM.out]
    go_wp2_with fail
    refine (dage_any _ _ _ hw).mono ?_; rintro e w' ⟨rfl, rfl⟩; rw [HX.out, E1.out]
    go_wp2_with fail
    refine (dage_any _ _ _ hw).mono ?_; rintro e w' ⟨rfl, rfl⟩; rw [HY.out, E2.out]
    go_wp2_with fail
    refine (dage_any _ _ _ hw).mono ?_; rintro e w' ⟨rfl, rfl⟩; rw [HZ.out, E3.out]
    go_wp2_with fail
    refine (awake_any _ hw).mono ?_; rintro e w2 ⟨rfl, hb2⟩
    go_wp2_with fail
    go_ret
    exact ⟨rfl, hb2⟩
end Go.Proofs.YtnhkmifpppffnaaDoor
