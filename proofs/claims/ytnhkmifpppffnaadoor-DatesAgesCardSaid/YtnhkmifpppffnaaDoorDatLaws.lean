/- The walks of chapter 3's eight statements, and the plain laws on which they rest. -/
import Derived.Test.YtnhkmifpppffnaaDoorDatParse
import Derived.Test.YtnhkmifpppffnaaDoorDatAges
import Derived.Lib.LaidTab
import Derived.MakeChecks
import Derived.ProofKit
import Derived.OpenShut
namespace Go.Proofs.YtnhkmifpppffnaaDoor
open Go.RowKit Go.ChangeShapes Go.WideShapes

/-- What the row's condition says of the table. -/
theorem Dat.at_of {W : World} (h : laidMetH Tryd.prog Rows.datesDaysRow.laid W) : Dat.At W := by
  rw [MakeChecks.laidMetH_plain _ _ _ (by kernel_rfl)] at h
  have hg : Tryd.prog.globalNamed "traveldoc/dates.lengths" = some 0 := by kernel_rfl
  have h1 := Lib.tabIs_of_head (P := Tryd.prog) (name := "traveldoc/dates.lengths") (k := .i64) (zs := [31, 28, 31, 30, 31, 30, 31, 31, 30, 31, 30, 31]) (rest := []) hg (t := 41) (by kernel_rfl) Tryd.underlying41 Tryd.underlying3 (by kernel_rfl) (by kernel_rfl) h
  intro i hi
  exact h1.cell hg i hi

set_option maxHeartbeats 800000 in
theorem awake_any (w : World) (hw : Dat.At w) : Calls Tryd.prog 15 #[] w fun e w' => e = .returned (.bool true) ∧ Below w.heap.size w w' := by
  have hn : Dat.num 2000 3 1 = 36584 := by decide
  have hf : Dat.fmt 36584 = ⟨#[48, 48, 48, 51, 48, 49]⟩ := by kernel_rfl
  have Hn := Lib.hid hn; have Hf := Lib.hid hf; clear hn hf
  go_enter Tryd.func15, Tryd.ntmps15
  go_wp2_with fail
  refine (dof_yes _ _ _ _ hw (by unfold Dat.vld; decide)).mono ?_; rintro e w' ⟨rfl, rfl⟩
  rw [Hn.out]
  go_wp2_with fail
  refine (dformat_yes _ _ hw (by decide) (by decide)).mono ?_; rintro e w1 ⟨rfl, hb1⟩
  rw [Hf.out]
  go_wp2_with fail
  go_ret
  exact ⟨rfl, hb1⟩

/-- An array of three integers, opened. -/
theorem open_arr3 {H : Type} {enc : TypeId × Value → H} {w : World} {base b0 : Nat} {sp : Nat → Bool} {held : Bool} {v : Value} {d : DataW H} {p : List MemPlace} {r : Reach}
    (hv : Value.okWide Tryd.prog w r b0 22 v) (h : DataW.Trod enc Tryd.prog w base sp held 22 v d p) :
    ∃ x y z : Int, v = .agg #[.int .i64 x, .int .i64 y, .int .i64 z] ∧ (Lit.int .i64 x).wf = true ∧ (Lit.int .i64 y).wf = true ∧ (Lit.int .i64 z).wf = true := by
  have hv' : ∃ cs, v = .agg cs ∧ cs.size = Tryd.prog.cellsOf 22 := by
    simp only [Value.okWide, Tryd.underlying22] at hv
    obtain ⟨cs, h1, h2, _⟩ := hv
    exact ⟨cs, h1, h2⟩
  obtain ⟨cs, rfl, hsz⟩ := hv'
  have c3 : Tryd.prog.cellsOf 3 = 1 := by kernel_rfl
  have c22 : Tryd.prog.cellsOf 22 = 3 := by kernel_rfl
  obtain ⟨fuel, hf⟩ := h
  obtain ⟨xs, m, rfl, hx, hlen, hn, hel⟩ := DataW.trod_array Tryd.underlying22 hf
  rw [c22] at hsz
  obtain ⟨l⟩ := cs
  match l, hsz, xs, hn with
  | [a, b, c], _, [xa, xb, xc], _ =>
    simp only [c3] at hel
    obtain ⟨x, e1, _, w1⟩ := DataW.trod_int Tryd.underlying3 (hel 0 (by omega))
    obtain ⟨y, e2, _, w2⟩ := DataW.trod_int Tryd.underlying3 (hel 1 (by omega))
    obtain ⟨z, e3, _, w3⟩ := DataW.trod_int Tryd.underlying3 (hel 2 (by omega))
    simp [Value.cells] at e1 e2 e3
    subst e1 e2 e3
    exact ⟨x, y, z, rfl, w1, w2, w3⟩

set_option maxHeartbeats 1000000 in
theorem walkDatesMonths (w : World) (n : Int) (_w0 : (Lit.int .i64 n).wf = true) (k : Int) (_w1 : (Lit.int .i64 k).wf = true) (hL : laidMetH Tryd.prog Rows.datesMonthsRow.laid w) :
    Calls Tryd.prog 5 #[.int .i64 n, .int .i64 k] w fun e w' => e = .returned (.bool true) ∧ Below w.heap.size w w' := by
  have hw := Dat.at_of hL
  clear hL
  go_enter Tryd.func5, Tryd.ntmps5
  go_wp2_with fail
  refine (dmonths_any _ _ _ hw).mono ?_; rintro e w' ⟨rfl, rfl⟩
  go_wp2_with fail
  refine (rmonths_any _ _ _).mono ?_; rintro e w' ⟨rfl, rfl⟩
  go_wp2_with fail
  refine (awake_any _ hw).mono ?_; rintro e w1 ⟨rfl, hb1⟩
  go_wp2_with fail
  go_ret
  exact ⟨rfl, hb1⟩

set_option maxHeartbeats 1000000 in
theorem walkDatesAges (w : World) (n : Int) (_w0 : (Lit.int .i64 n).wf = true) (k : Int) (_w1 : (Lit.int .i64 k).wf = true) (hL : laidMetH Tryd.prog Rows.datesAgesRow.laid w) :
    Calls Tryd.prog 6 #[.int .i64 n, .int .i64 k] w fun e w' => e = .returned (.bool true) ∧ Below w.heap.size w w' := by
  have hw := Dat.at_of hL
  clear hL
  go_enter Tryd.func6, Tryd.ntmps6
  go_wp2_with fail
  refine (dage_any _ _ _ hw).mono ?_; rintro e w' ⟨rfl, rfl⟩
  go_wp2_with fail
  refine (rage_any _ _ _).mono ?_; rintro e w' ⟨rfl, rfl⟩
  go_wp2_with fail
  refine (awake_any _ hw).mono ?_; rintro e w1 ⟨rfl, hb1⟩
  go_wp2_with fail
  go_ret
  exact ⟨rfl, hb1⟩

set_option maxHeartbeats 1000000 in
theorem walkDatesTexts (w : World) (n : Int) (_w0 : (Lit.int .i64 n).wf = true) (f : Int) (_w1 : (Lit.int .i64 f).wf = true) (s : ByteArray) (_w2 : s.size ≤ maxLen) (hL : laidMetH Tryd.prog Rows.datesTextsRow.laid w) :
    Calls Tryd.prog 9 #[.int .i64 n, .int .i64 f, .string s] w fun e w' => e = .returned (.bool true) ∧ Below w.heap.size w w' := by
  have hw := Dat.at_of hL
  clear hL
  go_enter Tryd.func9, Tryd.ntmps9
  go_wp2_with fail
  refine (dformat_any _ _ hw).mono ?_; rintro e w1 ⟨rfl, hb1⟩
  go_wp2_with fail
  refine (rformat_any _ _).mono ?_; rintro e w2 ⟨rfl, hb2⟩
  replace hb2 := hb1.trans (hb2.mono hb1.size)
  go_wp2_with fail
  refine (dparse_any _ _ _ (hw.below hb2)).mono ?_; rintro e w3 ⟨rfl, hb3⟩
  replace hb3 := hb2.trans (hb3.mono hb2.size)
  go_wp2_with fail
  refine (rparse_any _ _ _).mono ?_; rintro e w4 ⟨rfl, hb4⟩
  replace hb4 := hb3.trans (hb4.mono hb3.size)
  go_wp2_with fail
  refine (awake_any _ (hw.below hb4)).mono ?_; rintro e w5 ⟨rfl, hb5⟩
  replace hb5 := hb4.trans (hb5.mono hb4.size)
  go_wp2_with fail
  go_ret
  exact ⟨rfl, hb5⟩
end Go.Proofs.YtnhkmifpppffnaaDoor
