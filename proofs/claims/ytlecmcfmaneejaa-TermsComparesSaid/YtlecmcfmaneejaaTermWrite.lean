/- Chapter 40: the walks of write and text. -/
import Derived.Test.YtlecmcfmaneejaaTermText
namespace Go.Proofs.Ytlecmcfmaneejaa
open Go.RowKit

theorem Try.infoS : (Try.prog.info? 9).map (fun i => (i.zero, i.size, i.bytes)) = some (some (.string ByteArray.empty), 1, 16) := by kernel_rfl
/-- A text as a string. -/
def strOf (l : List UInt8) : ByteArray := ⟨l.toArray⟩
theorem strOf_size (l : List UInt8) : (strOf l).size = l.length := str_size l
theorem strOf_data (l : List UInt8) : (strOf l).data.toList = l := by simp [strOf]

theorem join_texts (ks : List T) (sv : Value) (base : Nat) (wr : World) (hown : wr.ownsRow base 9 1 sv ks.length (ks.map fun t => .string (strOf t.text))) (hkn : ks.length ≤ 262144) (htl : (T.textAll ks).length ≤ 3145728) :
    Calls Try.prog 54 #[sv, .string ⟨#[44, 32]⟩] wr fun e w' => e = .returned (.string (strOf (T.textAll ks))) ∧ Below wr.heap.size wr w' := by
  rcases hown.2 with ⟨rfl, h0⟩ | ⟨g, c, cur, rfl, h5, h6, h7, h8, h9, h10⟩
  · have : ks = [] := List.eq_nil_of_length_eq_zero h0
    subst this
    refine (Try.strings_Join_none none 0 ⟨#[44, 32]⟩ wr).mono ?_
    rintro e w' ⟨rfl, rfl⟩
    exact ⟨rfl, Below.refl _ _⟩
  · have e1 : (List.map (fun x : ByteArray => x.data.toList) (ks.map fun t => strOf t.text)) = ks.map T.text := by
      rw [List.map_map]; exact List.map_congr_left fun t _ => strOf_data t.text
    have e2 : (Lib.join (ks.map T.text) (ByteArray.mk #[44, 32]).data.toList) = T.textAll ks := (T.textAll_join ks).symm
    have hc : ∀ (i : Nat) x, (ks.map fun t => strOf t.text)[i]? = some x → wr.cell? ⟨g, 0 + i, none⟩ = some (.string x) := fun i x hx => by
      have := hown.cells (g := g) rfl i (.string x) (by
        rw [List.getElem?_map] at hx ⊢
        obtain ⟨t, ht, rfl⟩ := Option.map_eq_some_iff.1 hx
        rw [ht]; rfl)
      rw [Go.WideShapes.add_plain] at this
      exact this
    have hj := Try.strings_Join g 0 c (ks.map fun t => strOf t.text) ⟨#[44, 32]⟩ wr hc (Array.getElem?_eq_some_iff.1 h6).1 (by rw [List.length_map]; omega) (by rw [List.length_map]; exact h7) (by rw [e1, e2]; omega)
    rw [e1, e2, List.length_map] at hj
    exact hj

set_option maxRecDepth 100000 in
set_option maxHeartbeats 600000 in
theorem owrite : ∀ (N : Nat) (t : T) (v : Value) (w : World), t.bulk < N → TermAt w v t → t.bulk ≤ 1048576 →
    Calls Try.prog 36 #[v] w fun e w' => e = .returned (.string (strOf t.text)) ∧ Below w.heap.size w w' := by
  intro N
  induction N with
  | zero => intro t v w h; omega
  | succ N ih =>
    intro t v w hN ht hbk
    cases ht with
    | mk k s A cap ks U h1 h2 h3 h4 hA hU =>
      simp only [T.bulk] at hN hbk
      have hkn : ks.length ≤ 262144 := by have := T.len_le ks; omega
      have htl := T.textAll_len ks
      have hss : s.size ≤ 1048576 := by omega
      obtain ⟨i0, hi0, hz0, hz1, hz2⟩ := info_parts Try.infoS
      have hbx := boxed_new w (.int .i64 k) (.string s) (.slice A ks.length cap) 24
      have hb1 := below_alloc1 w (.cells #[.int .i64 k, .string s, .slice A ks.length cap] 24)
      have hsz := size_alloc1 w (.cells #[.int .i64 k, .string s, .slice A ks.length cap] 24)
      obtain ⟨R, hR⟩ : ∃ R, strOf (T.mk k s ks).text = R := ⟨_, rfl⟩
      rw [hR]
      go_enter Try.func36, Try.ntmps36
      go_upto_region 1 with fail
      generalize w.alloc (.cells #[.int .i64 k, .string s, .slice A ks.length cap] 24) = w1 at hbx hb1 hsz ⊢
      obtain ⟨x0, x1, x2⟩ := hbx
      have IH := Lib.hid ih
      have BA := Lib.hid hA; have BU := Lib.hid hU
      clear ih hA hU
      by_cases k1 : k = 1
      · subst k1
        have HR := Lib.hid (show s = R by rw [← hR]; simp only [T.text, if_true]; exact str_of s)
        clear hR
        go_wp2_with fail
        go_ret
        exact ⟨ret_str HR.out, hb1⟩
      by_cases k2 : k = 2
      · subst k2
        have HR := Lib.hid (show (⟨#[63]⟩ : ByteArray) ++ s = R by
          rw [← hR]; simp only [T.text]
          have := str_add [63] s.data.toList
          rw [← str_of s] at this
          exact this)
        clear hR k1
        go_wp2_with fail
        go_ret
        exact ⟨ret_str HR.out, hb1⟩
      have k1' : (k == 1) = false := by rw [beq_eq_false_iff_ne]; exact k1
      have k2' : (k == 2) = false := by rw [beq_eq_false_iff_ne]; exact k2
      have hR2 : strOf (if k = 3 then [60] ++ T.textAll ks ++ [62] else T.headS k ++ [40] ++ T.textAll ks ++ [41]) = R := by rw [← hR]; simp only [T.text, if_neg k1, if_neg k2]
      have HR2 := Lib.hid hR2
      clear hR hR2 k1 k2
      have HHD := T.headS_len k
      go_wp2_with fail
      go_loopw [3, 21] (fun v3 i wr => ∃ (j : Nat) (sv : Value), j ≤ ks.length ∧ i = .int .i64 j ∧ sv = v3 ∧ wr.ownsRow (w.heap.size + 1) 9 1 sv j ((ks.take j).map fun t => .string (strOf t.text)) ∧ Below w1.heap.size w1 wr) (fun _ i _ => ks.length - (intOf i).toNat)
      case atStart => exact ⟨0, _, Nat.zero_le _, rfl, rfl, World.ownsRow_nil _ _ _ _, Below.refl _ _⟩
      case round =>
        obtain ⟨j, sv, hj, rfl, rfl, hown, hbl⟩ := hrel
        have hbw := hb1.trans (hbl.mono hb1.size)
        by_cases hlt : j < ks.length
        · obtain ⟨b, off, B1, C1, rfl, d0, d1, d2, hu⟩ := TermAt.cells hlt BA.out BU.out
          have e0 := cell_later hbw d0; have e1 := cell_later hbw d1; have e2 := cell_later hbw d2
          have hi : (j : Int) < (ks.length : Int) := by omega
          have HU := Lib.hid (hu.later hbw); have HLT := Lib.hid hlt
          have HB2 := Lib.hid (show ks[j].bulk < N ∧ ks[j].bulk ≤ 1048576 by have := T.bulk_at ks j hlt; omega)
          have HOWN := Lib.hid hown; have HBL := Lib.hid hbl; have HSZ := Lib.hid hsz
          have HTK := Lib.hid (show (ks.take j).map (fun t => Value.string (strOf t.text)) ++ [.string (strOf ks[j].text)] = (ks.take (j + 1)).map (fun t => Value.string (strOf t.text)) by rw [List.take_succ_eq_append_getElem hlt, List.map_append]; rfl)
          have HKN := Lib.hid hkn
          clear d0 d1 d2 hu hj hbw hown hbl htl hss
          go_wp2_with fail
          refine (IH.out _ _ _ HB2.out.1 (HU.out.later (below_alloc1 _ _)) HB2.out.2).mono ?_; rintro e w2 ⟨rfl, hb4⟩
          replace hb4 := (below_alloc1 wr (.cells #[.int .i64 ks[j].kind, .string ks[j].name, .slice B1 ks[j].kids.length C1] 24)).trans (hb4.mono (below_alloc1 _ _).size)
          have HB4 := Lib.hid hb4
          have HOWN4 := Lib.hid ((own_later HOWN.out hb4).alloc (.cells #[.string (strOf ks[j].text)] 9))
          have HMS := Lib.hid (show w.heap.size + 1 ≤ (w2.alloc (.cells #[.string (strOf ks[j].text)] 9)).heap.size by rw [size_alloc1]; have := hb4.size; have := HBL.out.size; have := HSZ.out; omega)
          clear hb4 e0 e1 e2
          go_wp2_with (at_builtin; refine wpList_append_lies _ rfl _ _ 61 rfl (w.heap.size + 1) 9 i0 _ 1 16 Try.underlying61 hi0 hz0 hz1 hz2 rfl (by omega) _ j _ rfl HOWN4.out ⟨w2.heap.size, 0, none⟩ 1 1 [.string (strOf ks[j].text)] rfl rfl (cell_one_new _ _ _) (by simp [Value.oneCell']) (by omega) (by have := HLT.out; have := HKN.out; unfold maxLen; omega) (by have := HLT.out; have := HKN.out; omega) HMS.out _ rfl ?_; intro g cap' w5 hown5 hg5 hat5 hlt5)
          rw [HTK.out] at hown5
          have HO5 := Lib.hid hown5
          have HB5 := Lib.hid ((HBL.out.trans ((HB4.out.trans ((below_alloc1 w2 (.cells #[.string (strOf ks[j].text)] 9)).mono HB4.out.size)).mono HBL.out.size)).grown hg5 (by have := HMS.out; have := HSZ.out; omega) (fun q hq => by have := (HOWN.out.lt q hq).1; have := HSZ.out; omega))
          clear hown5 hg5 hat5 hlt5
          go_wp2_with fail
          go_roundw
          case rel => exact ⟨j + 1, _, HLT.out, by go_num, rfl, HO5.out, HB5.out⟩
          case measure => have := HLT.out; simp [intOf]; omega
        · obtain rfl : j = ks.length := by omega
          rw [List.take_length] at hown
          have hj := join_texts ks sv (w.heap.size + 1) wr hown hkn (by omega)
          have HJ := Lib.hid hj
          obtain ⟨J, hJ⟩ : ∃ J, T.textAll ks = J := ⟨_, rfl⟩
          rw [hJ] at HJ HR2 htl
          have HB := Lib.hid hbw; have HBL := Lib.hid hbl
          have z0 := cell_later hbl x0
          have hJs : (strOf J).size ≤ 3145728 := by rw [strOf_size]; omega
          clear hj hown hbw hbl hlt hJ x0 x1 x2 htl
          go_wp2_with fail
          refine HJ.out.mono ?_; rintro e w2 ⟨rfl, hb2⟩
          have y0 := cell_later hb2 z0
          have HB2 := Lib.hid (HB.out.trans (hb2.mono HB.out.size))
          clear hb2 z0
          by_cases k3 : k = 3
          · subst k3
            have HR := Lib.hid (show (⟨#[60]⟩ : ByteArray) ++ strOf J ++ ⟨#[62]⟩ = R by
              have := HR2.out
              simp only [if_true] at this
              rw [← this]
              show (⟨[60].toArray⟩ : ByteArray) ++ ⟨J.toArray⟩ ++ ⟨[62].toArray⟩ = _
              rw [str_add, str_add]; rfl)
            have s1 : (1 : Nat) + (strOf J).size ≤ 9223372036854775807 := by omega
            clear k1' k2'
            go_wp2_with fail
            go_ret
            exact ⟨ret_str HR.out, HB2.out⟩
          · have k3' : (k == 3) = false := by rw [beq_eq_false_iff_ne]; exact k3
            have HR := Lib.hid (show (⟨(T.headS k).toArray⟩ : ByteArray) ++ ⟨#[40]⟩ ++ strOf J ++ ⟨#[41]⟩ = R by
              have := HR2.out
              rw [if_neg k3] at this
              rw [← this]
              show (⟨(T.headS k).toArray⟩ : ByteArray) ++ ⟨[40].toArray⟩ ++ ⟨J.toArray⟩ ++ ⟨[41].toArray⟩ = _
              rw [str_add, str_add, str_add]; rfl)
            have hH : (⟨(T.headS k).toArray⟩ : ByteArray).size ≤ 5 := by rw [str_size]; exact HHD
            have HH := Lib.hid (fun W => ohead k W)
            clear k3
            generalize (⟨(T.headS k).toArray⟩ : ByteArray) = hd at HR hH HH
            go_wp2_with (go_at_call 55; refine (HH.out _).mono ?_; rintro e w' ⟨rfl, rfl⟩)
            go_ret
            exact ⟨ret_str HR.out, HB2.out⟩
end Go.Proofs.Ytlecmcfmaneejaa
