/- Chapter 40: the walks of the reference's text, and of Format of both. -/
import Derived.Test.YtlecmcfmaneejaaTermWrite
namespace Go.Proofs.Ytlecmcfmaneejaa
open Go.RowKit

theorem strOf_add (a b : List UInt8) : strOf a ++ strOf b = strOf (a ++ b) := str_add a b
set_option maxRecDepth 100000 in
set_option maxHeartbeats 1000000 in
theorem rtext : ∀ (N : Nat) (t : T) (v : Value) (w : World), t.bulk < N → TermAt w v t → t.bulk ≤ 1048576 →
    Calls Try.prog 37 #[v] w fun e w' => e = .returned (.string (strOf t.text)) ∧ Below w.heap.size w w' := by
  intro N
  induction N with
  | zero => intro t v w h; omega
  | succ N ih =>
    intro t v w hN ht hbk
    cases ht with
    | mk k s A cap ks U h1 h2 h3 h4 hA hU =>
      simp only [T.bulk] at hN hbk
      have hkn : ks.length ≤ 262144 := by have := T.len_le ks; omega
      have htl := T.textAll_len ks
      have hss : s.size ≤ 1048576 := by omega
      have hbx := boxed_new w (.int .i64 k) (.string s) (.slice A ks.length cap) 24
      have hb1 := below_alloc1 w (.cells #[.int .i64 k, .string s, .slice A ks.length cap] 24)
      obtain ⟨R, hR⟩ : ∃ R, strOf (T.mk k s ks).text = R := ⟨_, rfl⟩
      rw [hR]
      go_enter Try.func37, Try.ntmps37
      go_wp2_with fail
      generalize w.alloc (.cells #[.int .i64 k, .string s, .slice A ks.length cap] 24) = w1 at hbx hb1 ⊢
      obtain ⟨x0, x1, x2⟩ := hbx
      have IH := Lib.hid ih
      have BA := Lib.hid hA; have BU := Lib.hid hU
      have HR2 := Lib.hid hR
      have HTL := Lib.hid htl; have HSS := Lib.hid hss; have HBK := Lib.hid hbk
      clear ih hA hU hR htl hss
      go_loopw [3, 4] (fun v3 i wr => ∃ (j : Nat) (J : ByteArray), j ≤ ks.length ∧ i = .int .i64 j ∧ J = strOf (T.textAll (ks.take j)) ∧ v3 = .string J ∧ Below w1.heap.size w1 wr) (fun _ i _ => ks.length - (intOf i).toNat)
      case atStart => exact ⟨0, _, Nat.zero_le _, rfl, rfl, rfl, Below.refl _ _⟩
      case round =>
        obtain ⟨j, J, hj, rfl, hJ, rfl, hbl⟩ := hrel
        have hbw := hb1.trans (hbl.mono hb1.size)
        have HJ := Lib.hid hJ
        have z0 := cell_later hbl x0; have z1 := cell_later hbl x1; have z2 := cell_later hbl x2
        have hJs : J.size ≤ 3145728 := by
          rw [hJ, strOf_size]; have := T.textAll_len (ks.take j); have := T.bulkAll_take ks j; have := HBK.out; omega
        clear hJ
        by_cases hlt : j < ks.length
        · obtain ⟨b, off, B1, C1, rfl, d0, d1, d2, hu⟩ := TermAt.cells hlt BA.out BU.out
          have e0 := cell_later hbw d0; have e1 := cell_later hbw d1; have e2 := cell_later hbw d2
          have hi : (j : Int) < (ks.length : Int) := by omega
          have HU := Lib.hid (hu.later hbw); have HLT := Lib.hid hlt
          have HB2 := Lib.hid (show ks[j].bulk < N ∧ ks[j].bulk ≤ 1048576 by have := T.bulk_at ks j hlt; omega)
          have HBL := Lib.hid hbl
          have hks : (strOf ks[j].text).size ≤ 3145728 := by rw [strOf_size]; have := T.text_len ks[j]; have := HB2.out.2; omega
          have HTK := Lib.hid (T.textAll_take ks j hlt)
          obtain ⟨K, hK⟩ : ∃ K, strOf ks[j].text = K := ⟨_, rfl⟩
          rw [hK] at hks
          have HK := Lib.hid hK
          have hih := fun (W : World) (hW : TermAt W (.agg #[.int .i64 ks[j].kind, .string ks[j].name, .slice B1 ks[j].kids.length C1]) ks[j]) => IH.out _ _ W HB2.out.1 hW HB2.out.2
          simp only [hK] at hih
          have HIH := Lib.hid hih
          clear d0 d1 d2 hu hj hbw hbl hK hih
          by_cases j0 : j = 0
          · have hjp : (j : Int) ≤ 0 := by omega
            have hjp' : decide ((0 : Int) < (j : Int)) = false := decide_eq_false (by omega)
            have hjp'' : decide (0 < j) = false := decide_eq_false (by omega)
            have HJ0 := Lib.hid j0
            clear j0
            go_wp2_with fail
            refine (HIH.out _ HU.out).mono ?_; rintro e w2 ⟨rfl, hb4⟩
            have HB4 := Lib.hid (HBL.out.trans (hb4.mono HBL.out.size))
            clear hb4 e0 e1 e2 z0 z1 z2
            go_wp2_with fail
            go_roundw
            case rel => exact ⟨j + 1, _, HLT.out, by go_num, by
              have h1 := HTK.out
              rw [if_pos HJ0.out] at h1
              rw [h1]
              refine Eq.trans ?_ HK.out.symm
              rw [HJ.out, HJ0.out]
              exact str_eq (by simp [T.textAll, strOf]), rfl, HB4.out⟩
            case measure => have := HLT.out; simp [intOf]; omega
          · have hjp : (0 : Int) < (j : Int) := by omega
            have hjp' : decide ((0 : Int) < (j : Int)) = true := decide_eq_true (by omega)
            have hjp'' : decide (0 < j) = true := decide_eq_true (by omega)
            have HJ0 := Lib.hid j0
            clear j0
            go_wp2_with fail
            refine (HIH.out _ HU.out).mono ?_; rintro e w2 ⟨rfl, hb4⟩
            have HB4 := Lib.hid (HBL.out.trans (hb4.mono HBL.out.size))
            clear hb4 e0 e1 e2 z0 z1 z2
            go_wp2_with fail
            go_roundw
            case rel => exact ⟨j + 1, _, HLT.out, by go_num, by
              have h1 := HTK.out
              rw [if_neg HJ0.out] at h1
              rw [h1, ← strOf_add, ← strOf_add]
              have h2 := HK.out
              exact (congrArg (fun q => _ ++ _ ++ q) h2.symm).trans (by rw [HJ.out]; rfl), rfl, HB4.out⟩
            case measure => have := HLT.out; simp [intOf]; omega
        · obtain rfl : j = ks.length := by omega
          have HJ2 := Lib.hid (show J = strOf (T.textAll ks) by rw [HJ.out, List.take_length])
          have HB := Lib.hid hbw
          have hss := HSS.out
          clear hlt hbl hbw
          by_cases k1 : k = 1
          · subst k1
            have HR := Lib.hid (show s = R by rw [← HR2.out]; simp only [T.text, if_true]; exact str_of s)
            go_wp2_with fail
            go_ret
            exact ⟨ret_str HR.out, HB.out⟩
          by_cases k2 : k = 2
          · subst k2
            have HR := Lib.hid (show (⟨#[63]⟩ : ByteArray) ++ s = R by
              rw [← HR2.out]; simp only [T.text]
              have := str_add [63] s.data.toList
              rw [← str_of s] at this
              exact this)
            clear k1
            go_wp2_with fail
            go_ret
            exact ⟨ret_str HR.out, HB.out⟩
          have k1' : (k == 1) = false := by rw [beq_eq_false_iff_ne]; exact k1
          have k2' : (k == 2) = false := by rw [beq_eq_false_iff_ne]; exact k2
          by_cases k3 : k = 3
          · subst k3
            have HR := Lib.hid (show (⟨#[60]⟩ : ByteArray) ++ J ++ ⟨#[62]⟩ = R by
              rw [← HR2.out, HJ2.out]; simp only [T.text]
              show (⟨[60].toArray⟩ : ByteArray) ++ ⟨(T.textAll ks).toArray⟩ ++ ⟨[62].toArray⟩ = _
              rw [str_add, str_add]; rfl)
            clear k1 k2 k1' k2'
            go_wp2_with fail
            go_ret
            exact ⟨ret_str HR.out, HB.out⟩
          have k3' : (k == 3) = false := by rw [beq_eq_false_iff_ne]; exact k3
          have hgen : strOf (T.headS k ++ [40] ++ T.textAll ks ++ [41]) = R := by rw [← HR2.out]; simp only [T.text, if_neg k1, if_neg k2, if_neg k3]
          have HG := Lib.hid hgen
          clear hgen k1 k2 k3
          by_cases k4 : k = 4
          · subst k4
            have HR := Lib.hid (show (⟨#[104, 97, 115, 104, 40]⟩ : ByteArray) ++ J ++ ⟨#[41]⟩ = R by
              rw [← HG.out, HJ2.out]
              show (⟨[104, 97, 115, 104, 40].toArray⟩ : ByteArray) ++ ⟨(T.textAll ks).toArray⟩ ++ ⟨[41].toArray⟩ = _
              rw [str_add, str_add]; rfl)
            clear k1' k2' k3'
            go_wp2_with fail
            go_ret
            exact ⟨ret_str HR.out, HB.out⟩
          have k4' : (k == 4) = false := by rw [beq_eq_false_iff_ne]; exact k4
          by_cases k5 : k = 5
          · subst k5
            have HR := Lib.hid (show (⟨#[115, 101, 97, 108, 40]⟩ : ByteArray) ++ J ++ ⟨#[41]⟩ = R by
              rw [← HG.out, HJ2.out]
              show (⟨[115, 101, 97, 108, 40].toArray⟩ : ByteArray) ++ ⟨(T.textAll ks).toArray⟩ ++ ⟨[41].toArray⟩ = _
              rw [str_add, str_add]; rfl)
            clear k1' k2' k3' k4' k4
            go_wp2_with fail
            go_ret
            exact ⟨ret_str HR.out, HB.out⟩
          have k5' : (k == 5) = false := by rw [beq_eq_false_iff_ne]; exact k5
          by_cases k6 : k = 6
          · subst k6
            have HR := Lib.hid (show (⟨#[115, 105, 103, 110, 40]⟩ : ByteArray) ++ J ++ ⟨#[41]⟩ = R by
              rw [← HG.out, HJ2.out]
              show (⟨[115, 105, 103, 110, 40].toArray⟩ : ByteArray) ++ ⟨(T.textAll ks).toArray⟩ ++ ⟨[41].toArray⟩ = _
              rw [str_add, str_add]; rfl)
            clear k1' k2' k3' k4' k4 k5' k5
            go_wp2_with fail
            go_ret
            exact ⟨ret_str HR.out, HB.out⟩
          have k6' : (k == 6) = false := by rw [beq_eq_false_iff_ne]; exact k6
          have HR := Lib.hid (show (⟨#[112, 111, 119, 101, 114, 40]⟩ : ByteArray) ++ J ++ ⟨#[41]⟩ = R by
            rw [← HG.out, HJ2.out]; unfold T.headS; rw [if_neg k4, if_neg k5, if_neg k6]
            show (⟨[112, 111, 119, 101, 114, 40].toArray⟩ : ByteArray) ++ ⟨(T.textAll ks).toArray⟩ ++ ⟨[41].toArray⟩ = _
            rw [str_add, str_add]; rfl)
          clear k4 k5 k6
          go_wp2_with fail
          go_ret
          exact ⟨ret_str HR.out, HB.out⟩

set_option maxRecDepth 100000 in
set_option maxHeartbeats 2000000 in
theorem oformat (t : T) (v : Value) (w : World) (ht : TermAt w v t) (hbk : t.bulk ≤ 1048576) :
    Calls Try.prog 19 #[v] w fun e w' => e = .returned (.string (if t.valid = true then strOf t.text else ⟨#[]⟩)) ∧ Below w.heap.size w w' := by
  have HZ := Lib.hid (fun W hW r c hr hc => ovalid t v W hW hbk r c hr hc)
  have HS := Lib.hid (fun W hW => owrite (t.bulk + 1) t v W (by omega) hW hbk)
  obtain ⟨q, hq⟩ : ∃ q, t.valid = q := ⟨_, rfl⟩
  rw [hq] at HZ ⊢
  clear hbk hq
  generalize strOf t.text = p at *
  cases ht with
  | mk k s A cap ks U h1 h2 h3 h4 hA hU =>
    have HT := Lib.hid (TermAt.mk k s A cap ks U h1 h2 h3 h4 hA hU)
    have hbx := boxed_new w (.int .i64 k) (.string s) (.slice A ks.length cap) 24
    have hb1 := below_alloc1 w (.cells #[.int .i64 k, .string s, .slice A ks.length cap] 24)
    clear hA hU
    go_enter Try.func19, Try.ntmps19
    go_upto_region 1 with fail
    generalize w.alloc (.cells #[.int .i64 k, .string s, .slice A ks.length cap] 24) = w1 at hbx hb1 ⊢
    obtain ⟨x0, x1, x2⟩ := hbx
    have HT1 := Lib.hid (HT.out.later hb1)
    cases q
    · go_wp2_with fail
      refine (HZ.out _ HT1.out false 76 rfl (.inr ⟨rfl, rfl⟩)).mono ?_; rintro e w2 ⟨rfl, hb2⟩
      replace hb2 := hb1.trans (hb2.mono hb1.size)
      clear x0 x1 x2
      go_wp2_with fail
      go_ret
      exact ⟨rfl, hb2⟩
    · go_wp2_with fail
      refine (HZ.out _ HT1.out true 0 rfl (.inl ⟨rfl, rfl⟩)).mono ?_; rintro e w2 ⟨rfl, hb2⟩
      have y0 := cell_later hb2 x0; have y1 := cell_later hb2 x1; have y2 := cell_later hb2 x2
      have HT2 := Lib.hid (HT1.out.later hb2)
      replace hb2 := hb1.trans (hb2.mono hb1.size)
      clear x0 x1 x2
      go_wp2_with fail
      refine (HS.out _ HT2.out).mono ?_; rintro e w3 ⟨rfl, hb3⟩
      replace hb3 := hb2.trans (hb3.mono hb2.size)
      go_wp2_with fail
      go_ret
      exact ⟨rfl, hb3⟩

set_option maxRecDepth 100000 in
set_option maxHeartbeats 2000000 in
theorem rformat (t : T) (v : Value) (w : World) (ht : TermAt w v t) (hbk : t.bulk ≤ 1048576) :
    Calls Try.prog 20 #[v] w fun e w' => e = .returned (.string (if t.valid = true then strOf t.text else ⟨#[]⟩)) ∧ Below w.heap.size w w' := by
  have HZ := Lib.hid (fun W hW r c hr hc => rvalid t v W hW hbk r c hr hc)
  have HS := Lib.hid (fun W hW => rtext (t.bulk + 1) t v W (by omega) hW hbk)
  obtain ⟨q, hq⟩ : ∃ q, t.valid = q := ⟨_, rfl⟩
  rw [hq] at HZ ⊢
  clear hbk hq
  generalize strOf t.text = p at *
  cases ht with
  | mk k s A cap ks U h1 h2 h3 h4 hA hU =>
    have HT := Lib.hid (TermAt.mk k s A cap ks U h1 h2 h3 h4 hA hU)
    have hbx := boxed_new w (.int .i64 k) (.string s) (.slice A ks.length cap) 24
    have hb1 := below_alloc1 w (.cells #[.int .i64 k, .string s, .slice A ks.length cap] 24)
    clear hA hU
    go_enter Try.func20, Try.ntmps20
    go_upto_region 1 with fail
    generalize w.alloc (.cells #[.int .i64 k, .string s, .slice A ks.length cap] 24) = w1 at hbx hb1 ⊢
    obtain ⟨x0, x1, x2⟩ := hbx
    have HT1 := Lib.hid (HT.out.later hb1)
    cases q
    · go_wp2_with fail
      refine (HZ.out _ HT1.out false 76 rfl (.inr ⟨rfl, rfl⟩)).mono ?_; rintro e w2 ⟨rfl, hb2⟩
      replace hb2 := hb1.trans (hb2.mono hb1.size)
      clear x0 x1 x2
      go_wp2_with fail
      go_ret
      exact ⟨rfl, hb2⟩
    · go_wp2_with fail
      refine (HZ.out _ HT1.out true 0 rfl (.inl ⟨rfl, rfl⟩)).mono ?_; rintro e w2 ⟨rfl, hb2⟩
      have y0 := cell_later hb2 x0; have y1 := cell_later hb2 x1; have y2 := cell_later hb2 x2
      have HT2 := Lib.hid (HT1.out.later hb2)
      replace hb2 := hb1.trans (hb2.mono hb1.size)
      clear x0 x1 x2
      go_wp2_with fail
      refine (HS.out _ HT2.out).mono ?_; rintro e w3 ⟨rfl, hb3⟩
      replace hb3 := hb2.trans (hb3.mono hb2.size)
      go_wp2_with fail
      go_ret
      exact ⟨rfl, hb3⟩

end Go.Proofs.Ytlecmcfmaneejaa
