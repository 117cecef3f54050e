/- Chapter 40: the law's own two small functions. -/
import Derived.Test.YtlecmcfmaneejaaTermRParse
import Derived.Test.YtlecmcfmaneejaaTermNrm
namespace Go.Proofs.Ytlecmcfmaneejaa
open Go.RowKit

def sA : ByteArray := ⟨#[115, 105, 103, 110, 40, 115, 116, 97, 116, 101, 44, 32, 60, 100, 97, 116, 97, 44, 32, 112, 111, 119, 101, 114, 40, 121, 44, 32, 120, 41, 62, 41]⟩
def sB : ByteArray := ⟨#[115, 105, 103, 110, 40, 115, 116, 97, 116, 101, 44, 32, 60, 100, 97, 116, 97, 44, 32, 112, 111, 119, 101, 114, 40, 120, 44, 32, 121, 41, 62, 41]⟩
def tA : T := .mk 6 ⟨#[]⟩ [.mk 1 ⟨#[115, 116, 97, 116, 101]⟩ [], .mk 3 ⟨#[]⟩ [.mk 1 ⟨#[100, 97, 116, 97]⟩ [], .mk 7 ⟨#[]⟩ [.mk 1 ⟨#[121]⟩ [], .mk 1 ⟨#[120]⟩ []]]]
def tB : T := .mk 6 ⟨#[]⟩ [.mk 1 ⟨#[115, 116, 97, 116, 101]⟩ [], .mk 3 ⟨#[]⟩ [.mk 1 ⟨#[100, 97, 116, 97]⟩ [], .mk 7 ⟨#[]⟩ [.mk 1 ⟨#[120]⟩ [], .mk 1 ⟨#[121]⟩ []]]]
set_option maxRecDepth 100000 in
theorem parse_sA : T.parse sA = (tA, 0, 0) := by kernel_rfl
set_option maxRecDepth 100000 in
theorem parse_sC : T.parse ⟨#[60, 97, 44, 98, 62]⟩ = (.mk 0 ⟨#[]⟩ [], 3, 71) := by kernel_rfl
theorem tA_valid : tA.valid = true := by kernel_rfl
theorem tA_norm : tA.norm = tB := by kernel_rfl
theorem tB_ground : tB.ground = true := by kernel_rfl
theorem tB_valid : tB.valid = true := by kernel_rfl
theorem tB_text : strOf tB.text = sB := by kernel_rfl
theorem tA_size : tA.size = 7 := by kernel_rfl
theorem tA_bulk : tA.bulk ≤ 1048576 := of_decide_eq_true (by kernel_rfl)
theorem tB_bulk : tB.bulk ≤ 1048576 := of_decide_eq_true (by kernel_rfl)

theorem awake_parse (w : World) : Calls Try.prog 23 #[.string ⟨#[115, 105, 103, 110, 40, 115, 116, 97, 116, 101, 44, 32, 60, 100, 97, 116, 97, 44, 32, 112, 111, 119, 101, 114, 40, 121, 44, 32, 120, 41, 62, 41]⟩] w fun e w' =>
    ∃ A cap, e = .returned (.tuple #[.agg #[.int .i64 6, .string ⟨#[]⟩, .slice A 2 cap], .int .i64 0, .int .i64 0]) ∧ TermAt w' (.agg #[.int .i64 6, .string ⟨#[]⟩, .slice A 2 cap]) tA ∧ Below w.heap.size w w' := by
  refine (oparse sA w).mono ?_
  rw [parse_sA]
  rintro e w' ⟨A, cap, h1, h2, h3⟩
  exact ⟨A, cap, h1, h2.at, h3⟩
theorem awake_fails (w : World) : Calls Try.prog 23 #[.string ⟨#[60, 97, 44, 98, 62]⟩] w fun e w' =>
    ∃ A cap, e = .returned (.tuple #[.agg #[.int .i64 0, .string ⟨#[]⟩, .slice A 0 cap], .int .i64 3, .int .i64 71]) ∧ Below w.heap.size w w' := by
  refine (oparse ⟨#[60, 97, 44, 98, 62]⟩ w).mono ?_
  rw [parse_sC]
  rintro e w' ⟨A, cap, h1, _, h3⟩
  exact ⟨A, cap, h1, h3⟩
theorem awake_normal (v : Value) (w : World) (h : TermAt w v tA) : Calls Try.prog 15 #[v] w fun e w' =>
    ∃ A cap, e = .returned (.agg #[.int .i64 6, .string ⟨#[]⟩, .slice A 2 cap]) ∧ TermAt w' (.agg #[.int .i64 6, .string ⟨#[]⟩, .slice A 2 cap]) tB ∧ Below w.heap.size w w' := by
  refine (onormal tA v w h tA_bulk).mono ?_
  rw [if_pos tA_valid, tA_norm]
  rintro e w' ⟨A, cap, h1, h2, h3⟩
  exact ⟨A, cap, h1, h2.at, h3⟩
theorem awake_valid (v : Value) (w : World) (h : TermAt w v tA) : Calls Try.prog 10 #[v] w fun e w' => e = .returned (.int .i64 0) ∧ Below w.heap.size w w' :=
  ovalid tA v w h tA_bulk true 0 tA_valid (.inl ⟨rfl, rfl⟩)
theorem awake_size (v : Value) (w : World) (h : TermAt w v tA) : Calls Try.prog 12 #[v] w fun e w' => e = .returned (.int .i64 7) ∧ Below w.heap.size w w' := by
  have := osize (tA.bulk + 1) tA v w (by omega) h tA_bulk
  rw [tA_size] at this; exact this
theorem awake_ground (v : Value) (w : World) (h : TermAt w v tB) : Calls Try.prog 17 #[v] w fun e w' => e = .returned (.bool true) ∧ Below w.heap.size w w' := by
  have := oground tB v w h tB_bulk
  rw [tB_ground] at this; exact this
theorem awake_format (v : Value) (w : World) (h : TermAt w v tB) : Calls Try.prog 19 #[v] w fun e w' => e = .returned (.string ⟨#[115, 105, 103, 110, 40, 115, 116, 97, 116, 101, 44, 32, 60, 100, 97, 116, 97, 44, 32, 112, 111, 119, 101, 114, 40, 120, 44, 32, 121, 41, 62, 41]⟩) ∧ Below w.heap.size w w' := by
  have := oformat tB v w h tB_bulk
  rw [if_pos tB_valid, tB_text] at this; exact this

set_option maxRecDepth 100000 in
set_option maxHeartbeats 4000000 in
theorem awake (w : World) : Calls Try.prog 9 #[] w fun e w' => e = .returned (.bool true) ∧ Below w.heap.size w w' := by
  go_enter Try.func9, Try.ntmps9
  go_wp2_with fail
  refine (awake_parse _).mono ?_; rintro e w1 ⟨A1, c1, rfl, ht1, hb1⟩
  go_upto_region 2 with fail
  have bx := Box.new w1 (.int .i64 6) (.string ⟨#[]⟩) (.slice A1 2 c1)
  have hb2 := hb1.trans ((below_alloc1 w1 (.cells #[.int .i64 6, .string ⟨#[]⟩, .slice A1 2 c1] 24)).mono hb1.size)
  have ht2 := ht1.later (below_alloc1 w1 (.cells #[.int .i64 6, .string ⟨#[]⟩, .slice A1 2 c1] 24))
  generalize w1.alloc (.cells #[.int .i64 6, .string ⟨#[]⟩, .slice A1 2 c1] 24) = w2 at bx hb2 ht2 ⊢
  obtain ⟨x0, x1, x2⟩ := bx.cells
  have HB2 := Lib.hid hb2; have HT2 := Lib.hid ht2; have BX := Lib.hid bx
  clear hb1 ht1 bx hb2 ht2
  go_wp2_with fail
  refine (awake_normal _ _ HT2.out).mono ?_; rintro e w3 ⟨A3, c3, rfl, ht3, hb3⟩
  clear x0 x1 x2
  go_upto_region 3 with fail
  have bn := Box.new w3 (.int .i64 6) (.string ⟨#[]⟩) (.slice A3 2 c3)
  have hw := below_alloc1 w3 (.cells #[.int .i64 6, .string ⟨#[]⟩, .slice A3 2 c3] 24)
  have hb4 : Below w2.heap.size w2 _ := hb3.trans (hw.mono hb3.size)
  have HB4 := Lib.hid (HB2.out.trans (hb4.mono HB2.out.size)); have BX4 := Lib.hid (BX.out.later hb4); have HT4 := Lib.hid (HT2.out.later hb4); have HN4 := Lib.hid (ht3.later hw); have BN4 := Lib.hid bn
  clear hb3 ht3 bn hw hb4
  generalize w3.alloc (.cells #[.int .i64 6, .string ⟨#[]⟩, .slice A3 2 c3] 24) = w4 at HB4 BX4 HT4 HN4 BN4 ⊢
  go_wp2_with fail
  refine (awake_fails _).mono ?_; rintro e w5 ⟨A5, c5, rfl, hb5⟩
  go_upto_region 4 with fail
  have hw := below_alloc1 w5 (.cells #[.int .i64 0, .string ⟨#[]⟩, .slice A5 0 c5] 24)
  have hb6 : Below w4.heap.size w4 _ := hb5.trans (hw.mono hb5.size)
  have HB6 := Lib.hid (HB4.out.trans (hb6.mono HB4.out.size)); have BX6 := Lib.hid (BX4.out.later hb6); have HT6 := Lib.hid (HT4.out.later hb6); have HN6 := Lib.hid (HN4.out.later hb6); have BN6 := Lib.hid (BN4.out.later hb6)
  clear hb5 hw hb6
  generalize w5.alloc (.cells #[.int .i64 0, .string ⟨#[]⟩, .slice A5 0 c5] 24) = w6 at HB6 BX6 HT6 HN6 BN6 ⊢
  obtain ⟨x0, x1, x2⟩ := BX6.out.cells
  go_wp2_with fail
  refine (awake_valid _ _ HT6.out).mono ?_; rintro e w7 ⟨rfl, hb7⟩
  have HB7 := Lib.hid (HB6.out.trans (hb7.mono HB6.out.size)); have BX7 := Lib.hid (BX6.out.later hb7); have HT7 := Lib.hid (HT6.out.later hb7); have HN7 := Lib.hid (HN6.out.later hb7); have BN7 := Lib.hid (BN6.out.later hb7)
  clear hb7 x0 x1 x2
  obtain ⟨x0, x1, x2⟩ := BX7.out.cells
  go_wp2_with fail
  refine (awake_size _ _ HT7.out).mono ?_; rintro e w8 ⟨rfl, hb8⟩
  have HB8 := Lib.hid (HB7.out.trans (hb8.mono HB7.out.size)); have HN8 := Lib.hid (HN7.out.later hb8); have BN8 := Lib.hid (BN7.out.later hb8)
  clear hb8 x0 x1 x2
  obtain ⟨x0, x1, x2⟩ := BN8.out.cells
  go_wp2_with fail
  refine (awake_format _ _ HN8.out).mono ?_; rintro e w9 ⟨rfl, hb9⟩
  have HB9 := Lib.hid (HB8.out.trans (hb9.mono HB8.out.size)); have HN9 := Lib.hid (HN8.out.later hb9); have BN9 := Lib.hid (BN8.out.later hb9)
  clear hb9 x0 x1 x2
  obtain ⟨x0, x1, x2⟩ := BN9.out.cells
  go_wp2_with fail
  refine (awake_ground _ _ HN9.out).mono ?_; rintro e w10 ⟨rfl, hb10⟩
  have HB := Lib.hid (HB9.out.trans (hb10.mono HB9.out.size))
  clear hb10
  go_wp2_with fail
  go_ret
  exact ⟨rfl, HB.out⟩

/-- Is a term small enough. -/
theorem light (t : T) (v : Value) (w : World) (ht : TermAt w v t) (hbk : t.bulk ≤ 1048576) :
    Calls Try.prog 8 #[v] w fun e w' => e = .returned (.bool (decide (t.size ≤ 200))) ∧ Below w.heap.size w w' := by
  have HZ := Lib.hid (fun W hW => rsize (t.bulk + 1) t v W (by omega) hW hbk)
  have hb := t.size_le
  clear hbk
  generalize t.size = n at *
  have hd : decide ((n : Int) ≤ 200) = decide (n ≤ 200) := by rw [decide_eq_decide]; omega
  cases ht with
  | mk k s A cap ks U h1 h2 h3 h4 hA hU =>
  have ht := TermAt.mk k s A cap ks U h1 h2 h3 h4 hA hU
  go_enter Try.func8, Try.ntmps8
  go_upto_region 1 with fail
  have bx := Box.new w (.int .i64 k) (.string s) (.slice A ks.length cap)
  have hw := below_alloc1 w (.cells #[.int .i64 k, .string s, .slice A ks.length cap] 24)
  have HT := Lib.hid (ht.later hw); have HW := Lib.hid hw
  clear ht hA hU hw
  generalize w.alloc (.cells #[.int .i64 k, .string s, .slice A ks.length cap] 24) = w1 at bx HT HW ⊢
  obtain ⟨x0, x1, x2⟩ := bx.cells
  go_wp2_with fail
  refine (HZ.out _ HT.out).mono ?_; rintro e w2 ⟨rfl, hb2⟩
  have HB := Lib.hid (HW.out.trans (hb2.mono HW.out.size))
  clear hb2
  go_wp2_with fail
  go_ret
  exact ⟨by rw [← hd]; rfl, HB.out⟩
end Go.Proofs.Ytlecmcfmaneejaa
