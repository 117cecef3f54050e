/- The walks of chapter 3's statements on windows and on months that are added. -/
import Derived.Test.YtnhkmifpppffnaaDoorDatLaws
import Derived.Test.YtnhkmifpppffnaaDoorDatPlain2
namespace Go.Proofs.YtnhkmifpppffnaaDoor
open Go.RowKit Go.ChangeShapes Go.WideShapes

set_option maxHeartbeats 1000000 in
theorem walkDatesWindow (w : World) (n : Int) (w0 : (Lit.int .i64 n).wf = true) (k : Int) (w1 : (Lit.int .i64 k).wf = true) (hL : laidMetH Tryd.prog Rows.datesWindowRow.laid w) :
    Calls Tryd.prog 10 #[.int .i64 n, .int .i64 k] w fun e w' => e = .returned (.bool true) ∧ Below w.heap.size w w' := by
  have hw := Dat.at_of hL
  clear hL
  have bn := bounds_i64 w0
  have bk := bounds_i64 w1

  have b1 : 0 ≤ Dat.md n 73049 ∧ Dat.md n 73049 ≤ 73048 := by unfold Dat.md; omega
  obtain ⟨D, hD⟩ : ∃ D, Dat.md n 73049 = D := ⟨_, rfl⟩
  rw [hD] at b1
  have HD := Lib.hid hD; clear hD
  have b2 : 0 ≤ Dat.md k 101 ∧ Dat.md k 101 ≤ 100 := by unfold Dat.md; omega
  obtain ⟨M, hM⟩ : ∃ M, Dat.md k 101 = M := ⟨_, rfl⟩
  rw [hM] at b2
  have HM := Lib.hid hM; clear hM
  obtain ⟨f1, f2⟩ := Dat.window D (1900 + M) b1 (by omega) (by omega)
  obtain ⟨y1, y2, _, _⟩ := Dat.yOf_ok D b1.1 b1.2
  have cs : (1900 + M ≤ Dat.yOf D ∧ Dat.yOf D < 1900 + M + 100 ∧ Dat.prV (Dat.fmt D) (1900 + M) = D ∧ Dat.prE (Dat.fmt D) (1900 + M) = 0) ∨
      (Dat.yOf D < 1900 + M ∨ (1900 + M ≤ Dat.yOf D ∧ 1900 + M + 100 ≤ Dat.yOf D)) ∧ ((Dat.prE (Dat.fmt D) (1900 + M) == 0) = false ∨ (Dat.prE (Dat.fmt D) (1900 + M) == 0) = true ∧ (Dat.prV (Dat.fmt D) (1900 + M) == D) = false) := by
    by_cases c : 1900 + M ≤ Dat.yOf D ∧ Dat.yOf D < 1900 + M + 100
    · exact .inl ⟨c.1, c.2, f1 c⟩
    · refine .inr ⟨by omega, ?_⟩
      have := f2 c
      simp only [beq_iff_eq, beq_eq_false_iff_ne]
      omega
  clear f1 f2
  obtain ⟨v, hv⟩ : ∃ v, Dat.prV (Dat.fmt D) (1900 + M) = v := ⟨_, rfl⟩
  obtain ⟨g, hg⟩ : ∃ g, Dat.prE (Dat.fmt D) (1900 + M) = g := ⟨_, rfl⟩
  rw [hv, hg] at cs
  have HV := Lib.hid hv; have HG := Lib.hid hg; clear hv hg
  rcases cs with ⟨c1, c2, rfl, rfl⟩ | ⟨c1 | ⟨c1, c2⟩, c3 | ⟨c3, c4⟩⟩
  all_goals
    try have c3' : (g != 0) = !(g == 0) := rfl
    try rw [c3] at c3'
    try have c4' : (v != D) = !(v == D) := rfl
    try rw [c4] at c4'
    go_enter Tryd.func10, Tryd.ntmps10
    go_wp2_with fail
    refine (mod_any _ _ _ bn.1 bn.2 (by omega) (by omega)).mono ?_; rintro e w' ⟨rfl, rfl⟩; rw [HD.out]
    go_wp2_with fail
    refine (mod_any _ _ _ bk.1 bk.2 (by omega) (by omega)).mono ?_; rintro e w' ⟨rfl, rfl⟩; rw [HM.out]
    go_wp2_with fail
    refine (dparts_yes _ _ hw b1.1 (by omega)).mono ?_; rintro e w' ⟨rfl, rfl⟩
    go_wp2_with fail
    refine (dformat_yes _ _ hw b1.1 (by omega)).mono ?_; rintro e w1 ⟨rfl, hb1⟩
    go_wp2_with fail
    refine (dparse_any _ _ _ (hw.below hb1)).mono ?_; rintro e w2 ⟨rfl, hb2⟩; rw [HV.out, HG.out]
    replace hb2 := hb1.trans (hb2.mono hb1.size)
    go_wp2_with fail
    refine (awake_any _ (hw.below hb2)).mono ?_; rintro e w3 ⟨rfl, hb3⟩
    replace hb3 := hb2.trans (hb3.mono hb2.size)
    go_wp2_with fail
    go_ret
    exact ⟨rfl, hb3⟩

set_option maxHeartbeats 1000000 in
theorem walkDatesMonthsAdd (w : World) (n : Int) (w0 : (Lit.int .i64 n).wf = true) (k : Int) (w1 : (Lit.int .i64 k).wf = true) (hL : laidMetH Tryd.prog Rows.datesMonthsAddRow.laid w) :
    Calls Tryd.prog 7 #[.int .i64 n, .int .i64 k] w fun e w' => e = .returned (.bool true) ∧ Below w.heap.size w w' := by
  have hw := Dat.at_of hL
  clear hL
  have bn := bounds_i64 w0
  have bk := bounds_i64 w1

  have b1 : 0 ≤ Dat.md n 73049 ∧ Dat.md n 73049 ≤ 73048 := by unfold Dat.md; omega
  obtain ⟨D, hD⟩ : ∃ D, Dat.md n 73049 = D := ⟨_, rfl⟩
  rw [hD] at b1
  have HD := Lib.hid hD; clear hD
  have b2 : 0 ≤ Dat.md k 200 ∧ Dat.md k 200 ≤ 199 := by unfold Dat.md; omega
  obtain ⟨M, hM⟩ : ∃ M, Dat.md k 200 = M := ⟨_, rfl⟩
  rw [hM] at b2
  have HM := Lib.hid hM; clear hM
  by_cases hE : Dat.moE D M = 8
  · have HE := Lib.hid hE; clear hE
    go_enter Tryd.func7, Tryd.ntmps7
    go_wp2_with fail
    refine (mod_any _ _ _ bn.1 bn.2 (by omega) (by omega)).mono ?_; rintro e w' ⟨rfl, rfl⟩; rw [HD.out]
    go_wp2_with fail
    refine (mod_any _ _ _ bk.1 bk.2 (by omega) (by omega)).mono ?_; rintro e w' ⟨rfl, rfl⟩; rw [HM.out]
    go_wp2_with fail
    refine (dmonths_any _ _ _ hw).mono ?_; rintro e w' ⟨rfl, rfl⟩; rw [HE.out]
    go_wp2_with fail
    refine (awake_any _ hw).mono ?_; rintro e w3 ⟨rfl, hb3⟩
    go_wp2_with fail
    go_ret
    exact ⟨rfl, hb3⟩
  · obtain ⟨e0, e1, r1, e2, e3, e4, e5, e6, e7⟩ := Dat.months_add D M b1 b2.1 b2.2 hE
    clear hE
    obtain ⟨x, hx⟩ : ∃ x, Dat.moV D M = x := ⟨_, rfl⟩
    rw [hx] at e1 r1 e2 e3 e4 e5 e6 e7
    obtain ⟨y, hy⟩ : ∃ y, Dat.moV x (-M) = y := ⟨_, rfl⟩
    rw [hy] at r1 e2 e3 e4 e5
    have hd : Dat.dOf D ≤ 28 ∧ (Dat.dOf y != Dat.dOf D) = false ∨ 28 < Dat.dOf D := by
      by_cases c : Dat.dOf D ≤ 28
      · exact .inl ⟨c, by simp [e5 c]⟩
      · exact .inr (by omega)
    have E0 := Lib.hid e0; have E1 := Lib.hid e1; have R1 := Lib.hid r1; have E2 := Lib.hid e2; have E3 := Lib.hid e3; have HX := Lib.hid hx; have HY := Lib.hid hy
    clear e0 e1 r1 e2 e3 e5 hx hy
    obtain ⟨⟨_, _, _, _, h5, h6⟩, _⟩ := Dat.parts_ok D b1.1 b1.2
    have hdd := Dat.dim_bd (Dat.yOf D) (Dat.mOf D)
    rcases hd with ⟨c1, c2⟩ | c1
    all_goals
      go_enter Tryd.func7, Tryd.ntmps7
      go_wp2_with fail
      refine (mod_any _ _ _ bn.1 bn.2 (by omega) (by omega)).mono ?_; rintro e w' ⟨rfl, rfl⟩; rw [HD.out]
      go_wp2_with fail
      refine (mod_any _ _ _ bk.1 bk.2 (by omega) (by omega)).mono ?_; rintro e w' ⟨rfl, rfl⟩; rw [HM.out]
      go_wp2_with fail
      refine (dmonths_any _ _ _ hw).mono ?_; rintro e w' ⟨rfl, rfl⟩; rw [HX.out, E0.out]
      go_wp2_with fail
      refine (dmonths_any _ _ _ hw).mono ?_; rintro e w' ⟨rfl, rfl⟩; rw [HY.out, E1.out]
      go_wp2_with fail
      refine (dparts_yes _ _ hw b1.1 (by omega)).mono ?_; rintro e w' ⟨rfl, rfl⟩
      go_wp2_with fail
      refine (dparts_yes _ _ hw R1.out.1 R1.out.2).mono ?_; rintro e w' ⟨rfl, rfl⟩; rw [E2.out, E3.out]
      go_wp2_with fail
      refine (awake_any _ hw).mono ?_; rintro e w3 ⟨rfl, hb3⟩
      go_wp2_with fail
      go_ret
      exact ⟨rfl, hb3⟩
end Go.Proofs.YtnhkmifpppffnaaDoor
