/- Chapter 40: the walks of Valid and Ground of both. -/
import Derived.Test.YtihbmgkbipeakaaGreatTermVars
namespace Go.Proofs.YtihbmgkbipeakaaGreat
open Go.RowKit

set_option maxRecDepth 100000 in
set_option maxHeartbeats 2000000 in
theorem ovalid (t : T) (v : Value) (w : World) (ht : TermAt w v t) (hbk : t.bulk ≤ 1048576) (r : Bool) (c : Int) (hr : t.valid = r) (hc : r = true ∧ c = 0 ∨ r = false ∧ c = 76) :
    Calls Tryz.prog 74 #[v] w fun e w' => e = .returned (.int .i64 c) ∧ Below w.heap.size w w' := by
  have HZ := Lib.hid (fun W hW => osize (t.bulk + 1) t v W (by omega) hW hbk)
  have HS := Lib.hid (fun W hW => oshape (t.bulk + 1) t v W (by omega) hW hbk)
  have hb := t.size_le
  have hr' : (decide (t.size ≤ 40) && t.shape) = r := hr
  clear hr hbk
  generalize t.size = n at *
  generalize t.shape = q at *
  cases ht with
  | mk k s A cap ks U h1 h2 h3 h4 hA hU =>
    have HT := Lib.hid (TermAt.mk k s A cap ks U h1 h2 h3 h4 hA hU)
    have hbx := boxed_new w (.int .i64 k) (.string s) (.slice A ks.length cap) 29
    have hb1 := below_alloc1 w (.cells #[.int .i64 k, .string s, .slice A ks.length cap] 29)
    clear hA hU hb
    go_enter Tryz.func74, Tryz.ntmps74
    go_upto_region 1 with fail
    generalize w.alloc (.cells #[.int .i64 k, .string s, .slice A ks.length cap] 29) = w1 at hbx hb1 ⊢
    obtain ⟨x0, x1, x2⟩ := hbx
    have HT1 := Lib.hid (HT.out.later hb1)
    go_wp2_with fail
    refine (HZ.out _ HT1.out).mono ?_; rintro e w2 ⟨rfl, hb2⟩
    have y0 := cell_later hb2 x0; have y1 := cell_later hb2 x1; have y2 := cell_later hb2 x2
    have HT2 := Lib.hid (HT1.out.later hb2)
    replace hb2 := hb1.trans (hb2.mono hb1.size)
    clear x0 x1 x2
    by_cases h40 : n ≤ 40
    · have g : (n : Int) ≤ 40 := by omega
      have HR := Lib.hid (show q = r by rw [← hr', decide_eq_true h40, Bool.true_and])
      clear hr' h40
      go_wp2_with fail
      refine (HS.out _ HT2.out).mono ?_; rintro e w3 ⟨rfl, hb3⟩
      replace hb3 := hb2.trans (hb3.mono hb2.size)
      rcases hc with ⟨hq, rfl⟩ | ⟨hq, rfl⟩
      all_goals
        have hq' := HR.out.trans hq
        subst hq'
        clear HR hq
        go_wp2_with fail
        go_ret
        exact ⟨rfl, hb3⟩
    · have g : 40 < (n : Int) := by omega
      have HR := Lib.hid (show false = r by rw [← hr', decide_eq_false h40]; rfl)
      have hc' : c = 76 := by
        have := HR.out
        rcases hc with ⟨hq, _⟩ | ⟨_, hq⟩
        · rw [hq] at this; cases this
        · exact hq
      subst hc'
      clear hr' h40 hc
      go_wp2_with fail
      go_ret
      exact ⟨rfl, hb2⟩

set_option maxRecDepth 100000 in
set_option maxHeartbeats 2000000 in
theorem rvalid (t : T) (v : Value) (w : World) (ht : TermAt w v t) (hbk : t.bulk ≤ 1048576) (r : Bool) (c : Int) (hr : t.valid = r) (hc : r = true ∧ c = 0 ∨ r = false ∧ c = 76) :
    Calls Tryz.prog 94 #[v] w fun e w' => e = .returned (.int .i64 c) ∧ Below w.heap.size w w' := by
  have HZ := Lib.hid (fun W hW => rsize (t.bulk + 1) t v W (by omega) hW hbk)
  have HS := Lib.hid (fun W hW => rshaped (t.bulk + 1) t v W (by omega) hW hbk)
  have hb := t.size_le
  have hr' : (decide (t.size ≤ 40) && t.shape) = r := hr
  clear hr hbk
  generalize t.size = n at *
  generalize t.shape = q at *
  cases ht with
  | mk k s A cap ks U h1 h2 h3 h4 hA hU =>
    have HT := Lib.hid (TermAt.mk k s A cap ks U h1 h2 h3 h4 hA hU)
    have hbx := boxed_new w (.int .i64 k) (.string s) (.slice A ks.length cap) 29
    have hb1 := below_alloc1 w (.cells #[.int .i64 k, .string s, .slice A ks.length cap] 29)
    clear hA hU hb
    go_enter Tryz.func94, Tryz.ntmps94
    go_upto_region 1 with fail
    generalize w.alloc (.cells #[.int .i64 k, .string s, .slice A ks.length cap] 29) = w1 at hbx hb1 ⊢
    obtain ⟨x0, x1, x2⟩ := hbx
    have HT1 := Lib.hid (HT.out.later hb1)
    go_wp2_with fail
    refine (HS.out _ HT1.out).mono ?_; rintro e w2 ⟨rfl, hb2⟩
    have y0 := cell_later hb2 x0; have y1 := cell_later hb2 x1; have y2 := cell_later hb2 x2
    have HT2 := Lib.hid (HT1.out.later hb2)
    replace hb2 := hb1.trans (hb2.mono hb1.size)
    clear x0 x1 x2
    cases q
    · have HR := Lib.hid (show false = r by rw [← hr', Bool.and_false])
      have hc' : c = 76 := by
        have := HR.out
        rcases hc with ⟨hq, _⟩ | ⟨_, hq⟩
        · rw [hq] at this; cases this
        · exact hq
      subst hc'
      clear hr' hc
      go_wp2_with fail
      go_ret
      exact ⟨rfl, hb2⟩
    · have HR := Lib.hid (show decide (n ≤ 40) = r by rw [← hr', Bool.and_true])
      clear hr'
      go_wp2_with fail
      refine (HZ.out _ HT2.out).mono ?_; rintro e w3 ⟨rfl, hb3⟩
      replace hb3 := hb2.trans (hb3.mono hb2.size)
      rcases hc with ⟨hq, rfl⟩ | ⟨hq, rfl⟩
      · have g : (n : Int) ≤ 40 := by have := HR.out.trans hq; simp at this; omega
        go_wp2_with fail
        go_ret
        exact ⟨rfl, hb3⟩
      · have g : 40 < (n : Int) := by have := HR.out.trans hq; simp at this; omega
        go_wp2_with fail
        go_ret
        exact ⟨rfl, hb3⟩

set_option maxRecDepth 100000 in
set_option maxHeartbeats 2000000 in
theorem oground (t : T) (v : Value) (w : World) (ht : TermAt w v t) (hbk : t.bulk ≤ 1048576) :
    Calls Tryz.prog 77 #[v] w fun e w' => e = .returned (.bool t.ground) ∧ Below w.heap.size w w' := by
  have HZ := Lib.hid (fun W hW r c hr hc => ovalid t v W hW hbk r c hr hc)
  have HS := Lib.hid (fun W hW => ovar (t.bulk + 1) t v W (by omega) hW hbk)
  obtain ⟨q, hq⟩ : ∃ q, t.valid = q := ⟨_, rfl⟩
  have hr : t.ground = (q && !t.hasVar) := by rw [← hq]; rfl
  rw [hr]
  rw [hq] at HZ
  clear hr hbk hq
  generalize t.hasVar = p at *
  cases ht with
  | mk k s A cap ks U h1 h2 h3 h4 hA hU =>
    have HT := Lib.hid (TermAt.mk k s A cap ks U h1 h2 h3 h4 hA hU)
    have hbx := boxed_new w (.int .i64 k) (.string s) (.slice A ks.length cap) 29
    have hb1 := below_alloc1 w (.cells #[.int .i64 k, .string s, .slice A ks.length cap] 29)
    clear hA hU
    go_enter Tryz.func77, Tryz.ntmps77
    go_upto_region 1 with fail
    generalize w.alloc (.cells #[.int .i64 k, .string s, .slice A ks.length cap] 29) = w1 at hbx hb1 ⊢
    obtain ⟨x0, x1, x2⟩ := hbx
    have HT1 := Lib.hid (HT.out.later hb1)
    cases q
    · go_wp2_with fail
      refine (HZ.out _ HT1.out false 76 rfl (.inr ⟨rfl, rfl⟩)).mono ?_; rintro e w2 ⟨rfl, hb2⟩
      replace hb2 := hb1.trans (hb2.mono hb1.size)
      clear x0 x1 x2
      go_wp2_with fail
      go_ret
      exact ⟨rfl, hb2⟩
    · go_wp2_with fail
      refine (HZ.out _ HT1.out true 0 rfl (.inl ⟨rfl, rfl⟩)).mono ?_; rintro e w2 ⟨rfl, hb2⟩
      have y0 := cell_later hb2 x0; have y1 := cell_later hb2 x1; have y2 := cell_later hb2 x2
      have HT2 := Lib.hid (HT1.out.later hb2)
      replace hb2 := hb1.trans (hb2.mono hb1.size)
      clear x0 x1 x2
      go_wp2_with fail
      refine (HS.out _ HT2.out).mono ?_; rintro e w3 ⟨rfl, hb3⟩
      replace hb3 := hb2.trans (hb3.mono hb2.size)
      go_wp2_with fail
      go_ret
      exact ⟨ret_bool (by simp), hb3⟩

set_option maxRecDepth 100000 in
set_option maxHeartbeats 2000000 in
theorem rground (t : T) (v : Value) (w : World) (ht : TermAt w v t) (hbk : t.bulk ≤ 1048576) :
    Calls Tryz.prog 89 #[v] w fun e w' => e = .returned (.bool t.ground) ∧ Below w.heap.size w w' := by
  have HZ := Lib.hid (fun W hW r c hr hc => rvalid t v W hW hbk r c hr hc)
  have HS := Lib.hid (fun W hW => rclosed (t.bulk + 1) t v W (by omega) hW hbk)
  obtain ⟨q, hq⟩ : ∃ q, t.valid = q := ⟨_, rfl⟩
  have hr : t.ground = (q && !t.hasVar) := by rw [← hq]; rfl
  rw [hr]
  rw [hq] at HZ
  clear hr hbk hq
  generalize t.hasVar = p at *
  cases ht with
  | mk k s A cap ks U h1 h2 h3 h4 hA hU =>
    have HT := Lib.hid (TermAt.mk k s A cap ks U h1 h2 h3 h4 hA hU)
    have hbx := boxed_new w (.int .i64 k) (.string s) (.slice A ks.length cap) 29
    have hb1 := below_alloc1 w (.cells #[.int .i64 k, .string s, .slice A ks.length cap] 29)
    clear hA hU
    go_enter Tryz.func89, Tryz.ntmps89
    go_upto_region 1 with fail
    generalize w.alloc (.cells #[.int .i64 k, .string s, .slice A ks.length cap] 29) = w1 at hbx hb1 ⊢
    obtain ⟨x0, x1, x2⟩ := hbx
    have HT1 := Lib.hid (HT.out.later hb1)
    cases q
    · go_wp2_with fail
      refine (HZ.out _ HT1.out false 76 rfl (.inr ⟨rfl, rfl⟩)).mono ?_; rintro e w2 ⟨rfl, hb2⟩
      replace hb2 := hb1.trans (hb2.mono hb1.size)
      clear x0 x1 x2
      go_wp2_with fail
      go_ret
      exact ⟨rfl, hb2⟩
    · go_wp2_with fail
      refine (HZ.out _ HT1.out true 0 rfl (.inl ⟨rfl, rfl⟩)).mono ?_; rintro e w2 ⟨rfl, hb2⟩
      have y0 := cell_later hb2 x0; have y1 := cell_later hb2 x1; have y2 := cell_later hb2 x2
      have HT2 := Lib.hid (HT1.out.later hb2)
      replace hb2 := hb1.trans (hb2.mono hb1.size)
      clear x0 x1 x2
      go_wp2_with fail
      refine (HS.out _ HT2.out).mono ?_; rintro e w3 ⟨rfl, hb3⟩
      replace hb3 := hb2.trans (hb3.mono hb2.size)
      go_wp2_with fail
      go_ret
      exact ⟨ret_bool (by simp), hb3⟩
end Go.Proofs.YtihbmgkbipeakaaGreat
