/- Chapter 40: the walks of the laws on any text and on any terms. -/
import Derived.Test.YtlecmcfmaneejaaTermAwake
import Derived.Test.YtlecmcfmaneejaaTermSame
import Derived.Test.YtlecmcfmaneejaaTermCmpP
import Derived.Test.YtlecmcfmaneejaaTermAnti
import Derived.Test.YtlecmcfmaneejaaTermWrite2
import Derived.Deep.RegionHeld3
namespace Go.Proofs.Ytlecmcfmaneejaa
open Go.RowKit Go.ChangeShapes Go.WideShapes

theorem T.parse_bulk (s : ByteArray) : (T.parse s).1.bulk ≤ 1048576 := by
  by_cases h : 1024 < s.size
  · unfold T.parse; rw [if_pos h]; exact of_decide_eq_true (by kernel_rfl)
  · cases hr : T.pterm s.data.toList (2 * s.size + 1) 0 with
    | none => exact absurd hr ((T.p_some s.data.toList _).1 0 (Nat.zero_le _) (by rw [T.size_len]; omega))
    | some r =>
      rw [T.parse_end s h r hr]
      rcases r with e | ⟨t, j⟩
      · exact of_decide_eq_true (by kernel_rfl)
      · have h1 := (T.p_ok s.data.toList _).1 _ _ _ hr
        have h2 := T.size_len s
        dsimp only [T.parseEnd]
        split
        · exact of_decide_eq_true (by kernel_rfl)
        · split
          · show t.bulk ≤ _; omega
          · exact of_decide_eq_true (by kernel_rfl)
theorem same_self (t : T) (v v' : Value) (w : World) (ht : TermAt w v t) (ht' : TermAt w v' t) (hb : t.bulk ≤ 1048576) :
    Calls Try.prog 14 #[v, v'] w fun e w' => e = .returned (.bool true) ∧ Below w.heap.size w w' := by
  have := rsame t t v v' w ht ht' hb hb
  rw [T.cmp_self] at this; exact this

set_option maxRecDepth 100000 in
set_option maxHeartbeats 4000000 in
theorem walkTermsParses {X Y Z : Prop} (w : World) (s : ByteArray) (hs : s.size ≤ 140737488351232) (_hsz : X) (_hL : Y) (_hsh : Z) :
    Calls Try.prog 5 #[.string s] w fun e w' => e = .returned (.bool true) ∧ Below w.heap.size w w' := by
  go_enter Try.func5, Try.ntmps5
  go_upto_region 1 with fail
  by_cases hbig : 1100 < s.size
  · have h1 : (1100 : Int) < (s.size : Int) := by omega
    go_wp2_with fail
    refine (awake _).mono ?_; rintro e w1 ⟨rfl, hb⟩
    have HB := Lib.hid hb
    clear hb
    go_wp2_with fail
    go_ret
    exact ⟨rfl, HB.out⟩
  have h1 : (s.size : Int) ≤ 1100 := by omega
  have HO := Lib.hid (fun W => oparse s W); have HR := Lib.hid (fun W => rparse s W); have HK := Lib.hid (T.parse_bulk s)
  generalize T.parse s = p at HO HR HK
  obtain ⟨t, i, c⟩ := p
  go_upto_region 3 with fail
  go_wp2_with fail
  refine (HO.out _).mono ?_; rintro e w1 ⟨A1, c1, rfl, ht1, hb1⟩
  go_upto_region 4 with fail
  have HX2 := Lib.hid (Box.new w1 (.int .i64 t.kind) (.string t.name) (.slice A1 t.kids.length c1))
  have hw := below_alloc1 w1 (.cells #[.int .i64 t.kind, .string t.name, .slice A1 t.kids.length c1] 24)
  have HB2 := Lib.hid (hb1.trans (hw.mono hb1.size)); have HT2 := Lib.hid (ht1.at.later hw)
  clear ht1 hb1 hw
  try dsimp only at HX2 HB2 HT2 ⊢
  generalize w1.alloc (.cells #[.int .i64 t.kind, .string t.name, .slice A1 t.kids.length c1] 24) = w2 at HX2 HB2 HT2 ⊢
  go_wp2_with fail
  refine (HR.out _).mono ?_; rintro e w3 ⟨A3, c3, rfl, ht3, hb3⟩
  go_upto_region 5 with fail
  have HX4 := Lib.hid (Box.new w3 (.int .i64 t.kind) (.string t.name) (.slice A3 t.kids.length c3))
  have hw := below_alloc1 w3 (.cells #[.int .i64 t.kind, .string t.name, .slice A3 t.kids.length c3] 24)
  have hb4 : Below w2.heap.size w2 _ := hb3.trans (hw.mono hb3.size)
  have HB4 := Lib.hid (HB2.out.trans (hb4.mono HB2.out.size)); have HT4 := Lib.hid (HT2.out.later hb4); have HX3 := Lib.hid (HX2.out.later hb4); have HU4 := Lib.hid (ht3.at.later hw)
  clear ht3 hb3 hw hb4
  try dsimp only at HX4 HB4 HT4 HX3 HU4 ⊢
  generalize w3.alloc (.cells #[.int .i64 t.kind, .string t.name, .slice A3 t.kids.length c3] 24) = w4 at HX4 HB4 HT4 HX3 HU4 ⊢
  go_wp2_with fail
  refine (awake _).mono ?_; rintro e w5 ⟨rfl, hb5⟩
  have HX5 := Lib.hid (HX3.out.later hb5); have HY5 := Lib.hid (HX4.out.later hb5); have HB5 := Lib.hid (HB4.out.trans (hb5.mono HB4.out.size)); have HT5 := Lib.hid (HT4.out.later hb5); have HU5 := Lib.hid (HU4.out.later hb5)
  clear hb5
  obtain ⟨x0, x1, x2⟩ := HX5.out.cells
  obtain ⟨y0, y1, y2⟩ := HY5.out.cells
  go_wp2_with fail
  refine (same_self t _ _ _ HT5.out HU5.out HK.out).mono ?_; rintro e w6 ⟨rfl, hb6⟩
  have HB := Lib.hid (HB5.out.trans (hb6.mono HB5.out.size))
  clear hb6
  go_wp2_with fail
  go_ret
  exact ⟨rfl, HB.out⟩
end Go.Proofs.Ytlecmcfmaneejaa
