/- Several texts in one: WebRn, WebRo, WebRp, WebRq. -/
import Derived.Test.YtihbmgkbipeakaaGreatWebG25
import Derived.Test.YtihbmgkbipeakaaGreatWebG24
import Derived.Test.YtihbmgkbipeakaaGreatWebG0
namespace Go.Proofs.YtihbmgkbipeakaaGreat
open Go.RowKit

theorem rbuild_kids {n : Nat} {L : List T} {t : T} (hh : hasL L t = false) (hk : t.kind = 3 ∨ t.kind = 5 ∨ t.kind = 6 ∨ t.kind = 4) : rbuild (n + 1) L t = t.kids.all (rbuild n L) := by
  simp only [rbuild, hh, Bool.false_or, if_pos hk]
theorem rbuild_seven {n : Nat} {L : List T} {t : T} (hh : hasL L t = false) (hk : t.kind = 7) : rbuild (n + 1) L t = rpowL L t := by
  simp only [rbuild, hh, Bool.false_or]
  rw [if_neg (by omega), if_pos hk]
theorem rbuild_else {n : Nat} {L : List T} {t : T} (hh : hasL L t = false) (h3 : t.kind ≠ 3) (h5 : t.kind ≠ 5) (h6 : t.kind ≠ 6) (h4 : t.kind ≠ 4) (h7 : t.kind ≠ 7) : rbuild (n + 1) L t = false := by
  simp only [rbuild, hh, Bool.false_or]
  rw [if_neg (by omega), if_neg h7]

set_option maxRecDepth 100000 in
set_option maxHeartbeats 8000000 in
theorem rbuildT {L : List T} {A : Option Addr} {cap : Nat} (hb : ∀ x ∈ L, x.bulk ≤ 1048576) (hlen : L.length ≤ 1073741824) : ∀ (n : Nat) (t : T) (v : Value) (w : World), t.bulk < n → KnownAt w A cap L → TermAt w v t → t.bulk ≤ 1048576 →
    Calls Tryz.prog 46 #[.slice A L.length cap, v] w fun e w' => e = .returned (.bool (rbuild n L t)) ∧ Below w.heap.size w w' := by
  intro n
  induction n with
  | zero => intro t v w h; omega
  | succ n ih =>
    intro t v w hN h hT hbt
    obtain ⟨At, ct, rfl⟩ := hT.inAll.view
    have hw := below_alloc1 w (.cells #[.int .i64 t.kind, .string t.name, .slice At t.kids.length ct] 29)
    have bx := Box.new w (.int .i64 t.kind) (.string t.name) (.slice At t.kids.length ct)
    have HK := Lib.hid (h.later hw); have HT := Lib.hid (hT.later hw); have HW := Lib.hid hw
    have HIH := Lib.hid (fun (x : T) v' W (hx : x ∈ t.kids) (h1 : KnownAt W A cap L) (h2 : TermAt W v' x) => ih x v' W (by
      obtain ⟨i, hi, rfl⟩ := List.getElem_of_mem hx
      have := T.bulk_at t.kids i hi; have := t.bulk_eq; omega) h1 h2 (kids_bulk hbt x hx))
    have hkl := kids_len hbt
    have hcap := h.cap_le
    unfold maxLen at hcap
    have HHAS := Lib.hid (fun W v' (h1 : KnownAt W A cap L) (h2 : TermAt W v' t) => rhasT W h1 h2 hb hbt)
    have HPOW := Lib.hid (fun W v' (h1 : KnownAt W A cap L) (h2 : TermAt W v' t) => rpower W h1 h2 hb hbt hlen)
    have HR3 := Lib.hid (fun (hh : hasL L t = false) hk => rbuild_kids (n := n) hh hk); have HR7 := Lib.hid (fun (hh : hasL L t = false) hk => rbuild_seven (n := n) hh hk)
    have HRE := Lib.hid (fun (hh : hasL L t = false) h3 h5 h6 h4 h7 => rbuild_else (n := n) hh h3 h5 h6 h4 h7)
    have HRT := Lib.hid (show hasL L t = true → rbuild (n + 1) L t = true from fun h => by simp only [rbuild, h, Bool.true_or])
    obtain ⟨R, hR⟩ : ∃ R, rbuild (n + 1) L t = R := ⟨_, rfl⟩
    rw [hR] at HR3 HR7 HRE HRT ⊢
    clear h hT hw ih hR hN
    go_enter Tryz.func46, Tryz.ntmps46
    go_upto_region 1 with fail
    generalize w.alloc (.cells #[.int .i64 t.kind, .string t.name, .slice At t.kids.length ct] 29) = w1 at bx HK HT HW ⊢
    obtain ⟨x0, x1, x2⟩ := bx.cells
    have BX := Lib.hid bx
    clear bx
    go_wp2_with fail
    refine (HHAS.out _ _ HK.out HT.out).mono ?_; rintro e w2 ⟨he, hb2⟩
    have HB2 := Lib.hid hb2
    clear hb2 x0 x1 x2 HHAS
    cases hq : hasL L t with
    | true =>
      rw [hq] at he; subst he
      replace HRT := Lib.hid (HRT.out hq)
      clear hq
      go_wp2_with fail
      go_ret
      exact ⟨ret_bool HRT.out.symm, HW.out.trans (HB2.out.mono HW.out.size)⟩
    | false =>
      rw [hq] at he; subst he
      replace HR3 := Lib.hid (HR3.out hq); replace HR7 := Lib.hid (HR7.out hq); replace HRE := Lib.hid (HRE.out hq)
      clear hq HRT
      have bx2 := BX.out.later HB2.out
      obtain ⟨x0, x1, x2⟩ := bx2.cells
      have BX2 := Lib.hid bx2
      obtain ⟨k, hk⟩ : ∃ k, t.kind = k := ⟨_, rfl⟩
      obtain ⟨nk, hnk⟩ : ∃ nk, t.kids.length = nk := ⟨_, rfl⟩
      have HNK := Lib.hid hnk; have HKK := Lib.hid hk
      rw [hk] at x0 HR3 HR7 HRE
      rw [hnk] at x2 hkl
      have HKD := Lib.hid (HT.out.kids_known.later HB2.out); have HK2 := Lib.hid (HK.out.later HB2.out)
      clear bx2 hk hnk x1
      by_cases h3 : k = 3
      · subst h3
        have HRK := Lib.hid (HR3.out (.inl rfl))
        clear HR3 HR7 HRE
        go_upto_region 9 with fail
        go_loopw [5] (fun s5 wr => ∃ j : Nat, j ≤ nk ∧ s5 = .int .i64 j ∧ (t.kids.take j).all (rbuild n L) = true ∧ Below w2.heap.size w2 wr) (fun s5 _ => nk - (intOf s5).toNat)
        case atStart => exact ⟨0, Nat.zero_le _, rfl, rfl, Below.refl _ _⟩
        case round =>
          obtain ⟨j, hj, rfl, hz, hbw⟩ := hrel
          have HZ := Lib.hid hz; have HBW := Lib.hid hbw
          obtain ⟨_, _, x2⟩ := (BX2.out.later hbw).cells
          rw [HNK.out] at x2
          clear hz
          by_cases hlt : j < nk
          · have hji : (0 : Int) ≤ (j : Int) ∧ (j : Int) < (nk : Int) := by omega
            obtain ⟨hji1, hji2⟩ := hji
            have hjl : j < t.kids.length := by have := HNK.out; omega
            obtain ⟨b2, off2, A2, c2, rfl, e0, e1, e2, hu2⟩ := (HKD.out.later hbw).get hjl
            have hat := all_take (p := rbuild n L) hjl
            rw [HZ.out, Bool.true_and] at hat
            have hym := List.getElem_mem hjl
            generalize t.kids[j]'(hjl) = y at e0 e1 e2 hu2 hat hym
            have HAT := Lib.hid hat; have HU2 := Lib.hid hu2; have HLT := Lib.hid hlt
            have HYM := Lib.hid hym
            have HKw := Lib.hid (HK2.out.later hbw)
            clear hat hu2 hlt hjl hbw hym
            go_wp2_with fail
            refine (HIH.out y _ _ HYM.out HKw.out HU2.out).mono ?_; rintro e w5 ⟨he, hb5⟩
            have HB5 := Lib.hid (HBW.out.trans (hb5.mono HBW.out.size))
            clear hb5 e0 e1 e2 x2
            cases hq : rbuild n L y with
            | true =>
              rw [hq] at he HAT; subst he
              clear hq
              go_wp2_with fail
              go_roundw
              case rel => exact ⟨j + 1, HLT.out, by go_num, HAT.out, HB5.out⟩
              case measure => have := HLT.out; simp [intOf]; omega
            | false =>
              rw [hq] at he HAT; subst he
              clear hq
              have HNO := Lib.hid (show R = false from HRK.out.trans (all_false HAT.out))
              go_wp2_with fail
              go_ret
              exact ⟨ret_bool HNO.out.symm, HW.out.trans ((HB2.out.trans (HB5.out.mono HB2.out.size)).mono HW.out.size)⟩
          · obtain rfl : j = nk := by omega
            have HYES := Lib.hid (show R = true by
              have := HZ.out
              rw [← HNK.out, List.take_length] at this
              exact HRK.out.trans this)
            clear hlt
            go_wp2_with fail
            go_ret
            exact ⟨ret_bool HYES.out.symm, HW.out.trans ((HB2.out.trans (HBW.out.mono HB2.out.size)).mono HW.out.size)⟩
      · by_cases h5 : k = 5
        · subst h5
          have HRK := Lib.hid (HR3.out (.inr (.inl rfl)))
          clear HR3 HR7 HRE h3
          go_upto_region 9 with fail
          go_loopw [5] (fun s5 wr => ∃ j : Nat, j ≤ nk ∧ s5 = .int .i64 j ∧ (t.kids.take j).all (rbuild n L) = true ∧ Below w2.heap.size w2 wr) (fun s5 _ => nk - (intOf s5).toNat)
          case atStart => exact ⟨0, Nat.zero_le _, rfl, rfl, Below.refl _ _⟩
          case round =>
            obtain ⟨j, hj, rfl, hz, hbw⟩ := hrel
            have HZ := Lib.hid hz; have HBW := Lib.hid hbw
            obtain ⟨_, _, x2⟩ := (BX2.out.later hbw).cells
            rw [HNK.out] at x2
            clear hz
            by_cases hlt : j < nk
            · have hji : (0 : Int) ≤ (j : Int) ∧ (j : Int) < (nk : Int) := by omega
              obtain ⟨hji1, hji2⟩ := hji
              have hjl : j < t.kids.length := by have := HNK.out; omega
              obtain ⟨b2, off2, A2, c2, rfl, e0, e1, e2, hu2⟩ := (HKD.out.later hbw).get hjl
              have hat := all_take (p := rbuild n L) hjl
              rw [HZ.out, Bool.true_and] at hat
              have hym := List.getElem_mem hjl
              generalize t.kids[j]'(hjl) = y at e0 e1 e2 hu2 hat hym
              have HAT := Lib.hid hat; have HU2 := Lib.hid hu2; have HLT := Lib.hid hlt
              have HYM := Lib.hid hym
              have HKw := Lib.hid (HK2.out.later hbw)
              clear hat hu2 hlt hjl hbw hym
              go_wp2_with fail
              refine (HIH.out y _ _ HYM.out HKw.out HU2.out).mono ?_; rintro e w5 ⟨he, hb5⟩
              have HB5 := Lib.hid (HBW.out.trans (hb5.mono HBW.out.size))
              clear hb5 e0 e1 e2 x2
              cases hq : rbuild n L y with
              | true =>
                rw [hq] at he HAT; subst he
                clear hq
                go_wp2_with fail
                go_roundw
                case rel => exact ⟨j + 1, HLT.out, by go_num, HAT.out, HB5.out⟩
                case measure => have := HLT.out; simp [intOf]; omega
              | false =>
                rw [hq] at he HAT; subst he
                clear hq
                have HNO := Lib.hid (show R = false from HRK.out.trans (all_false HAT.out))
                go_wp2_with fail
                go_ret
                exact ⟨ret_bool HNO.out.symm, HW.out.trans ((HB2.out.trans (HB5.out.mono HB2.out.size)).mono HW.out.size)⟩
            · obtain rfl : j = nk := by omega
              have HYES := Lib.hid (show R = true by
                have := HZ.out
                rw [← HNK.out, List.take_length] at this
                exact HRK.out.trans this)
              clear hlt
              go_wp2_with fail
              go_ret
              exact ⟨ret_bool HYES.out.symm, HW.out.trans ((HB2.out.trans (HBW.out.mono HB2.out.size)).mono HW.out.size)⟩
        · by_cases h6 : k = 6
          · subst h6
            have HRK := Lib.hid (HR3.out (.inr (.inr (.inl rfl))))
            clear HR3 HR7 HRE h3 h5
            go_upto_region 9 with fail
            go_loopw [5] (fun s5 wr => ∃ j : Nat, j ≤ nk ∧ s5 = .int .i64 j ∧ (t.kids.take j).all (rbuild n L) = true ∧ Below w2.heap.size w2 wr) (fun s5 _ => nk - (intOf s5).toNat)
            case atStart => exact ⟨0, Nat.zero_le _, rfl, rfl, Below.refl _ _⟩
            case round =>
              obtain ⟨j, hj, rfl, hz, hbw⟩ := hrel
              have HZ := Lib.hid hz; have HBW := Lib.hid hbw
              obtain ⟨_, _, x2⟩ := (BX2.out.later hbw).cells
              rw [HNK.out] at x2
              clear hz
              by_cases hlt : j < nk
              · have hji : (0 : Int) ≤ (j : Int) ∧ (j : Int) < (nk : Int) := by omega
                obtain ⟨hji1, hji2⟩ := hji
                have hjl : j < t.kids.length := by have := HNK.out; omega
                obtain ⟨b2, off2, A2, c2, rfl, e0, e1, e2, hu2⟩ := (HKD.out.later hbw).get hjl
                have hat := all_take (p := rbuild n L) hjl
                rw [HZ.out, Bool.true_and] at hat
                have hym := List.getElem_mem hjl
                generalize t.kids[j]'(hjl) = y at e0 e1 e2 hu2 hat hym
                have HAT := Lib.hid hat; have HU2 := Lib.hid hu2; have HLT := Lib.hid hlt
                have HYM := Lib.hid hym
                have HKw := Lib.hid (HK2.out.later hbw)
                clear hat hu2 hlt hjl hbw hym
                go_wp2_with fail
                refine (HIH.out y _ _ HYM.out HKw.out HU2.out).mono ?_; rintro e w5 ⟨he, hb5⟩
                have HB5 := Lib.hid (HBW.out.trans (hb5.mono HBW.out.size))
                clear hb5 e0 e1 e2 x2
                cases hq : rbuild n L y with
                | true =>
                  rw [hq] at he HAT; subst he
                  clear hq
                  go_wp2_with fail
                  go_roundw
                  case rel => exact ⟨j + 1, HLT.out, by go_num, HAT.out, HB5.out⟩
                  case measure => have := HLT.out; simp [intOf]; omega
                | false =>
                  rw [hq] at he HAT; subst he
                  clear hq
                  have HNO := Lib.hid (show R = false from HRK.out.trans (all_false HAT.out))
                  go_wp2_with fail
                  go_ret
                  exact ⟨ret_bool HNO.out.symm, HW.out.trans ((HB2.out.trans (HB5.out.mono HB2.out.size)).mono HW.out.size)⟩
              · obtain rfl : j = nk := by omega
                have HYES := Lib.hid (show R = true by
                  have := HZ.out
                  rw [← HNK.out, List.take_length] at this
                  exact HRK.out.trans this)
                clear hlt
                go_wp2_with fail
                go_ret
                exact ⟨ret_bool HYES.out.symm, HW.out.trans ((HB2.out.trans (HBW.out.mono HB2.out.size)).mono HW.out.size)⟩
          · by_cases h4 : k = 4
            · subst h4
              have HRK := Lib.hid (HR3.out (.inr (.inr (.inr rfl))))
              clear HR3 HR7 HRE h3 h5 h6
              go_upto_region 9 with fail
              go_loopw [5] (fun s5 wr => ∃ j : Nat, j ≤ nk ∧ s5 = .int .i64 j ∧ (t.kids.take j).all (rbuild n L) = true ∧ Below w2.heap.size w2 wr) (fun s5 _ => nk - (intOf s5).toNat)
              case atStart => exact ⟨0, Nat.zero_le _, rfl, rfl, Below.refl _ _⟩
              case round =>
                obtain ⟨j, hj, rfl, hz, hbw⟩ := hrel
                have HZ := Lib.hid hz; have HBW := Lib.hid hbw
                obtain ⟨_, _, x2⟩ := (BX2.out.later hbw).cells
                rw [HNK.out] at x2
                clear hz
                by_cases hlt : j < nk
                · have hji : (0 : Int) ≤ (j : Int) ∧ (j : Int) < (nk : Int) := by omega
                  obtain ⟨hji1, hji2⟩ := hji
                  have hjl : j < t.kids.length := by have := HNK.out; omega
                  obtain ⟨b2, off2, A2, c2, rfl, e0, e1, e2, hu2⟩ := (HKD.out.later hbw).get hjl
                  have hat := all_take (p := rbuild n L) hjl
                  rw [HZ.out, Bool.true_and] at hat
                  have hym := List.getElem_mem hjl
                  generalize t.kids[j]'(hjl) = y at e0 e1 e2 hu2 hat hym
                  have HAT := Lib.hid hat; have HU2 := Lib.hid hu2; have HLT := Lib.hid hlt
                  have HYM := Lib.hid hym
                  have HKw := Lib.hid (HK2.out.later hbw)
                  clear hat hu2 hlt hjl hbw hym
                  go_wp2_with fail
                  refine (HIH.out y _ _ HYM.out HKw.out HU2.out).mono ?_; rintro e w5 ⟨he, hb5⟩
                  have HB5 := Lib.hid (HBW.out.trans (hb5.mono HBW.out.size))
                  clear hb5 e0 e1 e2 x2
                  cases hq : rbuild n L y with
                  | true =>
                    rw [hq] at he HAT; subst he
                    clear hq
                    go_wp2_with fail
                    go_roundw
                    case rel => exact ⟨j + 1, HLT.out, by go_num, HAT.out, HB5.out⟩
                    case measure => have := HLT.out; simp [intOf]; omega
                  | false =>
                    rw [hq] at he HAT; subst he
                    clear hq
                    have HNO := Lib.hid (show R = false from HRK.out.trans (all_false HAT.out))
                    go_wp2_with fail
                    go_ret
                    exact ⟨ret_bool HNO.out.symm, HW.out.trans ((HB2.out.trans (HB5.out.mono HB2.out.size)).mono HW.out.size)⟩
                · obtain rfl : j = nk := by omega
                  have HYES := Lib.hid (show R = true by
                    have := HZ.out
                    rw [← HNK.out, List.take_length] at this
                    exact HRK.out.trans this)
                  clear hlt
                  go_wp2_with fail
                  go_ret
                  exact ⟨ret_bool HYES.out.symm, HW.out.trans ((HB2.out.trans (HBW.out.mono HB2.out.size)).mono HW.out.size)⟩
            · have g3 : (k == 3) = false := beq_eq_false_iff_ne.2 h3
              have g4 : (k == 4) = false := beq_eq_false_iff_ne.2 h4
              have g5 : (k == 5) = false := beq_eq_false_iff_ne.2 h5
              have g6 : (k == 6) = false := beq_eq_false_iff_ne.2 h6
              by_cases h7 : k = 7
              · subst h7
                have HRK := Lib.hid (HR7.out rfl)
                have HTT := Lib.hid (HT.out.later HB2.out)
                obtain ⟨_, x1, _⟩ := BX2.out.cells
                rw [HKK.out, HNK.out] at HTT
                clear HR3 HR7 HRE h3 h4 h5 h6 g3 g4 g5 g6
                go_wp2_with fail
                refine (HPOW.out _ _ HK2.out HTT.out).mono ?_; rintro e w5 ⟨rfl, hb5⟩
                have HB5 := Lib.hid (HB2.out.trans (hb5.mono HB2.out.size))
                clear hb5 x0 x1 x2
                go_wp2_with fail
                go_ret
                exact ⟨ret_bool HRK.out.symm, HW.out.trans (HB5.out.mono HW.out.size)⟩
              · have g7 : (k == 7) = false := beq_eq_false_iff_ne.2 h7
                have HRK := Lib.hid (HRE.out h3 h5 h6 h4 h7)
                clear HR3 HR7 HRE h3 h4 h5 h6 h7
                go_wp2_with fail
                go_ret
                exact ⟨ret_bool HRK.out.symm, HW.out.trans (HB2.out.mono HW.out.size)⟩
end Go.Proofs.YtihbmgkbipeakaaGreat

namespace Go.Proofs.YtihbmgkbipeakaaGreat
open Go.RowKit

theorem putL_len (l : List T) (t : T) : (putL l t).length ≤ l.length + 1 := by
  unfold putL
  cases scanL l t l.length with
  | none => exact Nat.le_succ _
  | some q => show ((l.take q ++ [t]) ++ l.drop q).length ≤ _; simp; omega
theorem foldl_put_len : ∀ (K l : List T), (K.foldl putL l).length ≤ l.length + K.length
  | [], l => by simp
  | t :: r, l => by
    have h1 := foldl_put_len r (putL l t)
    have h2 := putL_len l t
    simp only [List.foldl_cons, List.length_cons]; omega
theorem rfirst_len (K : List T) : (rfirst K).length ≤ K.length := by have := foldl_put_len K []; simpa [rfirst] using this
theorem rfirst_mem {K : List T} {x : T} : x ∈ rfirst K ↔ x ∈ K := by
  have := (first_facts K [] List.Pairwise.nil).2 x
  exact this.trans ⟨fun h => by rcases h with h | h; cases h; exact h, .inr⟩
theorem rfirst_snoc (K : List T) (t : T) : rfirst (K ++ [t]) = putL (rfirst K) t := by unfold rfirst; rw [List.foldl_append]; rfl

set_option maxRecDepth 100000 in
set_option maxHeartbeats 8000000 in
theorem rfirstT {L : List T} {A : Option Addr} {cap : Nat} (w : World) (h : KnownAt w A cap L) (hb : ∀ x ∈ L, x.bulk ≤ 1048576) :
    Calls Tryz.prog 44 #[.slice A L.length cap] w (PutT (rfirst (cnt L)) w) := by
  have hcap := h.cap_le
  unfold maxLen at hcap
  have HK := Lib.hid h; have HBK := Lib.hid hb
  have HST := Lib.hid (show KnownAt w none 0 (rfirst ((L.take 0).filter T.use)) from TermAt.mk 0 ⟨#[]⟩ none 0 [] (fun _ => (undef, undef, undef)) (by decide) (by decide) (Nat.le_refl _) (Nat.zero_le _) (.inl rfl) (fun i h => by simp at h))
  clear h hb
  go_enter Tryz.func44, Tryz.ntmps44
  go_upto_region 3 with fail
  go_loopw [4, 3] (fun s4 s3 wr => ∃ (j n : Nat) (Lo : List T) (A3 : Option Addr) (c3 : Nat), j ≤ L.length ∧ j ≤ 64 ∧ s4 = .int .i64 j ∧ s3 = .slice A3 n c3 ∧ n = Lo.length ∧ Lo = rfirst ((L.take j).filter T.use) ∧ KnownAt wr A3 c3 Lo ∧ Below w.heap.size w wr) (fun s4 _ _ => 64 - (intOf s4).toNat)
  case atStart => exact ⟨0, 0, _, none, 0, Nat.zero_le _, by omega, rfl, rfl, rfl, rfl, HST.out, Below.refl _ _⟩
  case round =>
    obtain ⟨j, n, Lo, A3, c3, hj, hj64, rfl, rfl, hn, hLo, hkn, hbw⟩ := hrel
    have HN := Lib.hid hn; have HLO := Lib.hid hLo; have HKN := Lib.hid hkn; have HBW := Lib.hid hbw
    by_cases hlt : j < L.length
    · have hji : (0 : Int) ≤ (j : Int) ∧ (j : Int) < (L.length : Int) := by omega
      obtain ⟨hji1, hji2⟩ := hji
      by_cases h64 : j < 64
      · have h64' : (j : Int) < 64 := by omega
        obtain ⟨b, off, A1, c1, rfl, d0, d1, d2, hu⟩ := (HK.out.later hbw).get hlt
        have hsc := cnt_succ L j hlt
        have hbx := HBK.out (L[j]'(hlt)) (List.getElem_mem hlt)
        have hlo : Lo.length ≤ 64 := by
          rw [hLo]
          exact Nat.le_trans (rfirst_len _) (Nat.le_trans (List.length_filter_le _ _) (by rw [List.length_take]; omega))
        have HOB := Lib.hid (show ∀ x ∈ Lo, x.bulk ≤ 1048576 from fun x hx => by
          rw [hLo, rfirst_mem] at hx
          exact HBK.out x (List.mem_of_mem_take (List.mem_filter.1 hx).1))
        generalize L[j]'(hlt) = y at d0 d1 d2 hu hbx hsc
        have HU := Lib.hid hu; have HSC := Lib.hid hsc
        have HLT := Lib.hid hlt; have H64 := Lib.hid h64
        have HLL := Lib.hid hlo
        clear hn hLo hkn hbw hsc hu hlt h64 hlo
        go_wp2_with fail
        refine (rfit y _ _ HU.out hbx).mono ?_; rintro e w5 ⟨he, hb5⟩
        have HB5 := Lib.hid (HBW.out.trans (hb5.mono HBW.out.size)); have HU5 := Lib.hid (HU.out.later hb5); have HK5 := Lib.hid (HKN.out.later hb5)
        have d0' := cell_later hb5 d0; have d1' := cell_later hb5 d1; have d2' := cell_later hb5 d2
        clear hb5 d0 d1 d2
        cases hq : y.use with
        | false =>
          rw [hq] at he; subst he
          have HE := Lib.hid (show (L.take (j + 1)).filter T.use = (L.take j).filter T.use by rw [HSC.out, hq]; rfl)
          clear hq
          go_wp2_with fail
          go_roundw
          case rel => exact ⟨j + 1, n, Lo, A3, c3, HLT.out, H64.out, by go_num, rfl, HN.out, by rw [HE.out]; exact HLO.out, HK5.out, HB5.out⟩
          case measure => have := H64.out; simp [intOf]; omega
        | true =>
          rw [hq] at he; subst he
          have HE := Lib.hid (show putL Lo y = rfirst ((L.take (j + 1)).filter T.use) by rw [HSC.out, hq, if_pos rfl, rfirst_snoc, ← HLO.out])
          have HPT := Lib.hid (rputT _ HK5.out HU5.out HOB.out hbx (Nat.le_trans HLL.out (by omega)))
          rw [← HN.out] at HPT
          clear hq
          go_wp2_with fail
          refine HPT.out.mono ?_; rintro e w6 ⟨A6, c6, rfl, hk6, hb6⟩
          have HK6 := Lib.hid hk6; have HB6 := Lib.hid (HB5.out.trans (hb6.mono HB5.out.size))
          clear hk6 hb6 d0' d1' d2'
          go_wp2_with fail
          go_roundw
          case rel => exact ⟨j + 1, _, _, A6, c6, HLT.out, H64.out, by go_num, rfl, rfl, HE.out, HK6.out, HB6.out⟩
          case measure => have := H64.out; simp [intOf]; omega
      · have h64' : ¬ (j : Int) < 64 := by omega
        have HE := Lib.hid (show Lo = rfirst (cnt L) by rw [hLo, show j = 64 by omega]; rfl)
        clear hn hLo hkn hbw h64
        go_wp2_with fail
        go_ret
        exact ⟨A3, c3, by rw [← HE.out, HN.out]; rfl, by rw [← HE.out]; exact HKN.out, HBW.out⟩
    · obtain rfl : j = L.length := by omega
      have HE := Lib.hid (show Lo = rfirst (cnt L) by rw [hLo, List.take_length]; unfold cnt; rw [List.take_of_length_le hj64])
      clear hn hLo hkn hbw
      go_wp2_with fail
      go_ret
      exact ⟨A3, c3, by rw [← HE.out, HN.out]; rfl, by rw [← HE.out]; exact HKN.out, HBW.out⟩
end Go.Proofs.YtihbmgkbipeakaaGreat

namespace Go.Proofs.YtihbmgkbipeakaaGreat
open Go.RowKit

def lenOfS : Value → Nat
  | .slice _ n _ => n
  | _ => 0
theorem rput1_3 {l next : List T} {t : T} (h : t.kind = 3) : rput1 l next t = putL (putL next (t.kid 0)) (t.kid 1) := by unfold rput1; rw [if_pos h]
theorem rput1_6 {l next : List T} {t : T} (h : t.kind = 6) : rput1 l next t = putL next (t.kid 1) := by unfold rput1; rw [if_neg (by omega), if_pos h]
theorem rput1_5 {l next : List T} {t : T} (h : t.kind = 5) : rput1 l next t = if rbuild ((t.kid 0).bulk + 1) l (t.kid 0) = true then putL next (t.kid 1) else next := by unfold rput1; rw [if_neg (by omega), if_neg (by omega), if_pos h]
theorem rput1_no {l next : List T} {t : T} (h3 : t.kind ≠ 3) (h6 : t.kind ≠ 6) (h5 : t.kind ≠ 5) : rput1 l next t = next := by unfold rput1; rw [if_neg h3, if_neg h6, if_neg h5]
open Classical in
theorem rfold_ok {U l : List T} {K : T → Prop} (h : RInv U K l) (hU : Uni U) (j : Nat) : (∀ x ∈ (l.take j).foldl (rput1 l) l, x ∈ U) ∧ ((l.take j).foldl (rput1 l) l).length ≤ U.length := by
  obtain ⟨a1, a2, a3⟩ := rfold_facts l (l.take j) l h.asc
  have hm : ∀ x ∈ (l.take j).foldl (rput1 l) l, x ∈ U := fun x hx => by
    rcases (a3 x).1 hx with hx | ⟨t, ht, hr⟩
    · exact h.mem x hx
    · exact (rule_an h hU (List.mem_of_mem_take ht) hr).2.1
  exact ⟨hm, nodup_le (List.Pairwise.imp (fun h e => by subst e; exact cmp_irr _ h) a1) hm⟩
theorem rfold_succ (l : List T) (j : Nat) (h : j < l.length) : (l.take (j + 1)).foldl (rput1 l) l = rput1 l ((l.take j).foldl (rput1 l) l) l[j] := by
  rw [List.take_succ_eq_append_getElem h, List.foldl_append]; rfl
theorem rfirst_inv {U K : List T} (hK : ∀ t ∈ K, t ∈ U) (hu : ∀ t ∈ K, t.use = true) : RInv U (· ∈ K) (rfirst K) :=
  ⟨(first_facts K [] List.Pairwise.nil).1, fun x hx => hu x (rfirst_mem.1 hx), fun x hx => hK x (rfirst_mem.1 hx), fun _ hx => An.known (rfirst_mem.1 hx)⟩
theorem kids_two {t : T} (hu : t.use = true) (hk : t.kind = 3 ∨ t.kind = 5 ∨ t.kind = 6) : t.kids.length = 2 := by
  have hk' := T.shapeK (Bool.and_eq_true_iff.1 (T.use_valid hu)).2
  omega
theorem kid_in_bulk {t : T} {i : Nat} (hi : i < t.kids.length) (hb : t.bulk ≤ 1048576) : (t.kid i).bulk ≤ 1048576 := by have := T.kid_bulk hi; omega

set_option maxRecDepth 100000 in
set_option maxHeartbeats 16000000 in
theorem rcloseT {U : List T} (hU : Uni U) (hbU : ∀ t ∈ U, t.bulk ≤ 1048576) (L : List T) (A : Option Addr) (cap : Nat) (w : World) (h : KnownAt w A cap L) (hb : ∀ t ∈ L, t.bulk ≤ 1048576) (hK : ∀ t ∈ cnt L, t ∈ U) :
    Calls Tryz.prog 16 #[.slice A L.length cap] w (PutT (rrun (U.length + 1) (rfirst (cnt L))) w) := by
  have hUs := hU.size
  have HU := Lib.hid hU; have HBU := Lib.hid hbU
  have HIN := Lib.hid (rfirst_inv hK (fun t ht => use_of t ht))
  have HF := Lib.hid (rfirstT w h hb)
  obtain ⟨R, hR⟩ : ∃ R, rrun (U.length + 1) (rfirst (cnt L)) = R := ⟨_, rfl⟩
  have HR := Lib.hid hR
  rw [hR]
  generalize rfirst (cnt L) = L0 at HIN HF HR
  clear hR h hb hK hU hbU
  go_enter Tryz.func16, Tryz.ntmps16
  go_wp2_with fail
  refine HF.out.mono ?_; rintro e w2 ⟨A2, c2, rfl, hk2, hb2⟩
  have HK2 := Lib.hid hk2; have HB2 := Lib.hid hb2
  clear hk2 hb2 HF
  go_upto_region 2 with fail
  go_loopw [3] (fun s3 wr => ∃ (f n : Nat) (Lc : List T) (A3 : Option Addr) (c3 : Nat), s3 = .slice A3 n c3 ∧ n = Lc.length ∧ KnownAt wr A3 c3 Lc ∧ RInv U (· ∈ cnt L) Lc ∧ U.length < f + Lc.length ∧ rrun f Lc = R ∧ Below w2.heap.size w2 wr) (fun s3 _ => U.length - lenOfS s3)
  case atStart => exact ⟨U.length + 1, _, L0, A2, c2, rfl, rfl, HK2.out, HIN.out, by omega, HR.out, Below.refl _ _⟩
  case round =>
    obtain ⟨f, n, Lc, A3, c3, rfl, hn, hkn, hin, hf, hrun, hbw⟩ := hrel
    obtain ⟨wo, rfl⟩ : ∃ wo : World, wo = wr := ⟨_, rfl⟩
    have HKN := Lib.hid hkn; have HINC := Lib.hid hin; have HFF := Lib.hid hf; have HRUN := Lib.hid hrun; have HBW := Lib.hid hbw; have HN := Lib.hid hn
    have hnU := hin.len
    have HNU := Lib.hid hnU
    have HBC := Lib.hid (show ∀ x ∈ Lc, x.bulk ≤ 1048576 from fun x hx => HBU.out x (hin.mem x hx))
    have hnb : n ≤ 1048576 := by omega
    clear hkn hin hf hrun hbw hn hnU
    go_upto_region 4 with fail
    go_loopw [5, 4] (fun s5 s4 wr => ∃ (j m : Nat) (Ln : List T) (A4 : Option Addr) (c4 : Nat), j ≤ n ∧ s5 = .int .i64 j ∧ s4 = .slice A4 m c4 ∧ m = Ln.length ∧ Ln = (Lc.take j).foldl (rput1 Lc) Lc ∧ KnownAt wr A4 c4 Ln ∧ Below wo.heap.size wo wr) (fun s5 _ _ => n - (intOf s5).toNat)
    case atStart => exact ⟨0, n, Lc, A3, c3, Nat.zero_le _, rfl, rfl, HN.out, rfl, HKN.out, Below.refl _ _⟩
    case round =>
      obtain ⟨j, m, Ln, A4, c4, hj, rfl, rfl, hm, hLn, hk4, hbr⟩ := hrel
      have HM := Lib.hid hm; have HLN := Lib.hid hLn; have HK4 := Lib.hid hk4; have HBR := Lib.hid hbr
      by_cases hlt : j < n
      · have hji : (0 : Int) ≤ (j : Int) ∧ (j : Int) < (n : Int) := by omega
        obtain ⟨hji1, hji2⟩ := hji
        have hjl : j < Lc.length := by have := HN.out; omega
        obtain ⟨b, off, A1, c1, rfl, d0, d1, d2, hu⟩ := (HKN.out.later hbr).get hjl
        have hsu := rfold_succ Lc j hjl
        have hok := rfold_ok HINC.out HU.out j
        have hmem := List.getElem_mem hjl
        rw [← hLn] at hsu hok
        generalize Lc[j]'(hjl) = y at d0 d1 d2 hu hsu hmem
        have hyu := HINC.out.use y hmem
        have hyb := HBC.out y hmem
        have HSU := Lib.hid hsu; have HLT := Lib.hid hlt; have HUY := Lib.hid hu
        have HLB := Lib.hid (show ∀ x ∈ Ln, x.bulk ≤ 1048576 from fun x hx => HBU.out x (hok.1 x hx))
        have hml : Ln.length ≤ 1048576 := Nat.le_trans hok.2 hUs
        have HML := Lib.hid hml
        clear hlt hjl hsu hok hmem hm hLn hk4
        by_cases h2 : y.kind = 3 ∨ y.kind = 5 ∨ y.kind = 6
        · have hy2 := kids_two hyu h2
          have hz := hu.inAll
          have hz0 := hz.kid0 (by omega); have hz1 := hz.kid1 (by omega)
          obtain ⟨bk, ok, Ax, cx, hA1, _, e0, e1, e2, hux⟩ := hz0
          obtain ⟨bk', ok', Ay, cy, hA1', _, f0, f1, f2, huy⟩ := hz1
          have hAA := hA1.symm.trans hA1'
          injection hAA with hAA
          injection hAA with hb' ho'
          subst hb'; subst ho'; subst hA1
          rw [hy2] at d2
          have HX := Lib.hid hux.at; have HY := Lib.hid huy.at
          have hbx := kid_in_bulk (t := y) (i := 0) (by omega) hyb
          have hby := kid_in_bulk (t := y) (i := 1) (by omega) hyb
          have HR3 := Lib.hid (fun h => rput1_3 (l := Lc) (next := Ln) (t := y) h); have HR5 := Lib.hid (fun h => rput1_5 (l := Lc) (next := Ln) (t := y) h); have HR6 := Lib.hid (fun h => rput1_6 (l := Lc) (next := Ln) (t := y) h)
          obtain ⟨X, hX⟩ : ∃ X, y.kid 0 = X := ⟨_, rfl⟩
          obtain ⟨Y, hY⟩ : ∃ Y, y.kid 1 = Y := ⟨_, rfl⟩
          rw [hX] at e0 e1 e2 hbx HX HR3 HR5
          rw [hY] at f0 f1 f2 hby HY HR3 HR5 HR6
          have hplus : (putL Ln X).length ≤ 1073741824 := Nat.le_trans (putL_len _ _) (by omega)
          have HXB := Lib.hid (show ∀ x ∈ putL Ln X, x.bulk ≤ 1048576 from fun x hx => by
            unfold putL at hx
            cases hq : scanL Ln X Ln.length with
            | none => rw [hq] at hx; exact HLB.out x hx
            | some q =>
              rw [hq] at hx
              have hx' : x ∈ (Ln.take q ++ [X]) ++ Ln.drop q := hx
              rcases List.mem_append.1 hx' with hx' | hx'
              · rcases List.mem_append.1 hx' with hx' | hx'
                · exact HLB.out x (List.mem_of_mem_take hx')
                · rw [List.mem_singleton] at hx'; rw [hx']; exact hbx
              · exact HLB.out x (List.mem_of_mem_drop hx'))
          have HP1 := Lib.hid (fun W v' (h1 : KnownAt W A4 c4 Ln) (h2 : TermAt W v' X) => rputT W h1 h2 HLB.out hbx (Nat.le_trans hml (by omega)))
          have HP2 := Lib.hid (fun W v' A' c' (h1 : KnownAt W A' c' (putL Ln X)) (h2 : TermAt W v' Y) => rputT W h1 h2 HXB.out hby hplus)
          have HP3 := Lib.hid (fun W v' (h1 : KnownAt W A4 c4 Ln) (h2 : TermAt W v' Y) => rputT W h1 h2 HLB.out hby (Nat.le_trans hml (by omega)))
          have HBD := Lib.hid (fun W v' (h1 : KnownAt W (some ⟨b, off, none⟩) c3 Lc) (h2 : TermAt W v' X) => rbuildT HBC.out (by have := HN.out; omega) (X.bulk + 1) X v' W (Nat.lt_succ_self _) h1 h2 hbx)
          rw [← HM.out] at HP1 HP3
          rw [← HN.out] at HBD
          obtain ⟨k, hk⟩ : ∃ k, y.kind = k := ⟨_, rfl⟩
          rw [hk] at h2 d0 HR3 HR5 HR6
          clear hz hu hux huy hA1' hX hY hyu hyb hk d1
          have HKC := Lib.hid (HKN.out.later hbr)
          rcases h2 with rfl | rfl | rfl
          · replace HR3 := Lib.hid (HSU.out.trans (HR3.out rfl))
            clear HR5 HR6 HSU HBD HP3
            go_upto_region 8 with fail
            (refine wp_region_held_drew (S := (fun Wq => Wq.cell? ⟨b, off + j * 3 + 2, none⟩ = some (.slice (some ⟨bk, ok, none⟩) 2 c1) ∧ Wq.cell? ⟨bk, ok, none⟩ = some (.int .i64 X.kind) ∧ Wq.cell? ⟨bk, ok + 1, none⟩ = some (.string X.name) ∧ Wq.cell? ⟨bk, ok + 2, none⟩ = some (.slice Ax X.kids.length cx) ∧ Wq.cell? ⟨bk, ok + 3, none⟩ = some (.int .i64 Y.kind) ∧ Wq.cell? ⟨bk, ok + 3 + 1, none⟩ = some (.string Y.name) ∧ Wq.cell? ⟨bk, ok + 3 + 2, none⟩ = some (.slice Ay Y.kids.length cy) ∧ Below wr.heap.size wr Wq)) (by kernel_rfl) (show _ ∧ _ ∧ _ ∧ _ ∧ _ ∧ _ ∧ _ ∧ _ from ⟨d2, e0, e1, e2, f0, f1, f2, (Below.refl _ wr).drew⟩) (fun hHeld => ?_))
            (refine tkJ 0 _ (h := ?_))
            (refine tkJ 1 _ (h := ?_))
            (refine tkJ 2 _ (h := ?_))
            (refine tkJ 3 _ (h := ?_))
            (refine tkJ 4 _ (h := ?_))
            (refine tkJ 5 _ (h := ?_))
            (refine tkJ 6 _ (h := ?_))
            (refine tkJ 7 _ (h := ?_))
            (refine tkJ 9 _ (h := ?_))
            (refine tkJ 10 _ (h := ?_))
            (refine tkJ 11 _ (h := ?_))
            (refine tkJ 12 _ (h := ?_))
            (refine tkJ 13 _ (h := ?_))
            (refine tkJ 14 _ (h := ?_))
            (refine tkJ 15 _ (h := ?_))
            (refine rdJ 8 (h := fun K hK => ?_); go_simp; go_at_call 45; refine (HP1.out _ _ (HK4.out.later hHeld.2.2.2.2.2.2.2) (HX.out.later hHeld.2.2.2.2.2.2.2)).mono ?_; rintro e wz ⟨A6, c6, rfl, hk6, hb4⟩; refine shK hK (held7 hHeld hb4) (h := fun hHeld => ?_); clear hK K)
            (refine rdJ 16 (h := fun K hK => ?_); go_simp; go_at_call 45; refine (HP2.out _ _ _ _ hk6 (HY.out.later hHeld.2.2.2.2.2.2.2)).mono ?_; rintro e wz2 ⟨A7, c7, rfl, hk7, hb4⟩; refine shK hK (held7 hHeld hb4) (h := fun hHeld => ?_); clear hK K)
            (refine tkJ 17 _ (h := ?_))
            (refine wpAnyH_done (by kernel_rfl) ?_ _)
            have HB9 := Lib.hid (HBR.out.trans (hHeld.2.2.2.2.2.2.2.mono HBR.out.size)); have HK9 := Lib.hid hk7
            clear hk7 hk6
            go_wp2_with fail
            go_roundw
            case rel => exact ⟨j + 1, _, _, A7, c7, HLT.out, by go_num, rfl, rfl, HR3.out.symm, HK9.out, HB9.out⟩
            case measure => have := HLT.out; simp [intOf]; omega
          · replace HR5 := Lib.hid (HSU.out.trans (HR5.out rfl))
            clear HR3 HR6 HSU HP1 HP2
            go_wp2_with fail
            refine (HBD.out _ _ HKC.out HX.out).mono ?_; rintro e wz ⟨he, hb4⟩
            have HB4 := Lib.hid (HBR.out.trans (hb4.mono HBR.out.size)); have HK5 := Lib.hid (HK4.out.later hb4); have HY5 := Lib.hid (HY.out.later hb4)
            have d2' := cell_later hb4 d2; have f0' := cell_later hb4 f0; have f2' := cell_later hb4 f2; have f1' := cell_later hb4 f1
            clear hb4 d0 d2 e0 e1 e2 f0 f1 f2
            cases hq : rbuild (X.bulk + 1) Lc X with
            | false =>
              rw [hq] at he HR5; subst he
              rw [if_neg (by decide)] at HR5
              clear hq
              go_wp2_with fail
              go_roundw
              case rel => exact ⟨j + 1, m, Ln, A4, c4, HLT.out, by go_num, rfl, HM.out, HR5.out.symm, HK5.out, HB4.out⟩
              case measure => have := HLT.out; simp [intOf]; omega
            | true =>
              rw [hq] at he HR5; subst he
              rw [if_pos rfl] at HR5
              clear hq
              go_wp2_with fail
              refine (HP3.out _ _ HK5.out HY5.out).mono ?_; rintro e wz2 ⟨A7, c7, rfl, hk7, hb7⟩
              have HB9 := Lib.hid (HB4.out.trans (hb7.mono HB4.out.size)); have HK9 := Lib.hid hk7
              clear hk7 hb7 d2' f0' f1' f2'
              go_wp2_with fail
              go_roundw
              case rel => exact ⟨j + 1, _, _, A7, c7, HLT.out, by go_num, rfl, rfl, HR5.out.symm, HK9.out, HB9.out⟩
              case measure => have := HLT.out; simp [intOf]; omega
          · replace HR6 := Lib.hid (HSU.out.trans (HR6.out rfl))
            clear HR3 HR5 HSU HP1 HP2 HBD
            go_wp2_with fail
            refine (HP3.out _ _ HK4.out HY.out).mono ?_; rintro e wz2 ⟨A7, c7, rfl, hk7, hb7⟩
            have HB9 := Lib.hid (HBR.out.trans (hb7.mono HBR.out.size)); have HK9 := Lib.hid hk7
            clear hk7 hb7 d0 d2 e0 e1 e2 f0 f1 f2
            go_wp2_with fail
            go_roundw
            case rel => exact ⟨j + 1, _, _, A7, c7, HLT.out, by go_num, rfl, rfl, HR6.out.symm, HK9.out, HB9.out⟩
            case measure => have := HLT.out; simp [intOf]; omega
        · have h3 : y.kind ≠ 3 := fun e => h2 (.inl e)
          have h5 : y.kind ≠ 5 := fun e => h2 (.inr (.inl e))
          have h6 : y.kind ≠ 6 := fun e => h2 (.inr (.inr e))
          have HE := Lib.hid (HSU.out.trans (rput1_no h3 h6 h5))
          have g3 : (y.kind == 3) = false := beq_eq_false_iff_ne.2 h3
          have g5 : (y.kind == 5) = false := beq_eq_false_iff_ne.2 h5
          have g6 : (y.kind == 6) = false := beq_eq_false_iff_ne.2 h6
          clear h2 h3 h5 h6 hu hyu
          go_wp2_with fail
          go_roundw
          case rel => exact ⟨j + 1, m, Ln, A4, c4, HLT.out, by go_num, rfl, HM.out, HE.out.symm, HK4.out, HBR.out⟩
          case measure => have := HLT.out; simp [intOf]; omega
      · obtain rfl : j = n := by omega
        have HE := Lib.hid (show Ln = rround Lc by rw [hLn, HN.out, List.take_length]; rfl)
        clear hm hLn hk4 hbr hlt
        obtain ⟨f', hf'⟩ : ∃ f', f = f' + 1 := ⟨f - 1, by have := HFF.out; have := HNU.out; omega⟩
        subst hf'
        have HRR := Lib.hid (show (if (rround Lc).length = Lc.length then Lc else rrun f' (rround Lc)) = R from HRUN.out)
        have HRD := Lib.hid (HINC.out.round HU.out)
        rw [← HE.out] at HRR HRD
        by_cases hee : m = j
        · have hee' : ((m : Int) == (j : Int)) = true := by rw [beq_iff_eq]; omega
          have HL := Lib.hid (show R = Lc by have := HRR.out; rw [if_pos (by have := HM.out; have := HN.out; omega)] at this; exact this.symm)
          subst hee
          go_wp2_with fail
          go_ret
          rw [HL.out]
          exact ⟨A3, c3, by rw [HN.out]; rfl, HKN.out.later HBR.out, HB2.out.trans ((HBW.out.trans (HBR.out.mono HBW.out.size)).mono HB2.out.size)⟩
        · have hee' : ((m : Int) == (j : Int)) = false := by rw [beq_eq_false_iff_ne]; omega
          have hee2 : ¬ ((m : Int) = (j : Int)) := by omega
          have HL := Lib.hid (show rrun f' Ln = R by have := HRR.out; rw [if_neg (by have := HM.out; have := HN.out; omega)] at this; exact this)
          have HGT := Lib.hid (show j < m by have := HRD.out.2.1; have := HM.out; have := HN.out; omega)
          have HLE := Lib.hid (show m ≤ U.length by have := HRD.out.1.len; have := HM.out; omega)
          go_wp2_with fail
          go_roundw
          case rel => exact ⟨f', m, Ln, A4, c4, rfl, HM.out, HK4.out, HRD.out.1, by have := HFF.out; have := HGT.out; have := HM.out; have := HN.out; omega, HL.out, HBW.out.trans (HBR.out.mono HBW.out.size)⟩
          case measure => have := HGT.out; have := HLE.out; simp [lenOfS]; omega
end Go.Proofs.YtihbmgkbipeakaaGreat

namespace Go.Proofs.YtihbmgkbipeakaaGreat
open Go.RowKit

theorem rclose_ok {U L : List T} (hU : Uni U) (hK : ∀ t ∈ cnt L, t ∈ U) : RInv U (· ∈ cnt L) (rrun (U.length + 1) (rfirst (cnt L))) :=
  (rrun_facts hU _ _ (rfirst_inv hK (fun t ht => use_of t ht)) (by omega)).1

set_option maxRecDepth 100000 in
set_option maxHeartbeats 4000000 in
theorem rlightT {L : List T} {A : Option Addr} {cap : Nat} (w : World) (h : KnownAt w A cap L) (hb : ∀ x ∈ L, x.bulk ≤ 1048576) :
    Calls Tryz.prog 12 #[.slice A L.length cap] w fun e w' => (∃ q : Bool, e = .returned (.bool q)) ∧ Below w.heap.size w w' := by
  have HK := Lib.hid h; have HBK := Lib.hid hb
  have hcap := h.cap_le
  unfold maxLen at hcap
  clear h hb
  go_enter Tryz.func12, Tryz.ntmps12
  go_upto_region 3 with fail
  go_loopw [4, 3] (fun s4 s3 wr => ∃ (j : Nat) (z : Int), j ≤ L.length ∧ s4 = .int .i64 j ∧ s3 = .int .i64 z ∧ Below w.heap.size w wr) (fun s4 _ _ => L.length - (intOf s4).toNat)
  case atStart => exact ⟨0, _, Nat.zero_le _, rfl, rfl, Below.refl _ _⟩
  case round =>
    obtain ⟨j, z, hj, rfl, rfl, hbw⟩ := hrel
    have HBW := Lib.hid hbw
    by_cases hlt : j < L.length
    · have hji : (0 : Int) ≤ (j : Int) ∧ (j : Int) < (L.length : Int) := by omega
      obtain ⟨hji1, hji2⟩ := hji
      obtain ⟨b, off, A1, c1, rfl, d0, d1, d2, hu⟩ := (HK.out.later hbw).get hlt
      have hbx := HBK.out (L[j]'(hlt)) (List.getElem_mem hlt)
      generalize L[j]'(hlt) = y at d0 d1 d2 hu hbx
      have HU := Lib.hid hu; have HLT := Lib.hid hlt
      clear hu hlt hbw
      go_wp2_with fail
      refine (rsize (y.bulk + 1) y _ _ (Nat.lt_succ_self _) HU.out hbx).mono ?_; rintro e w5 ⟨rfl, hb5⟩
      have HB5 := Lib.hid (HBW.out.trans (hb5.mono HBW.out.size))
      clear hb5 d0 d1 d2
      go_wp2_with fail
      go_roundw
      case rel => exact ⟨j + 1, _, HLT.out, by go_num, rfl, HB5.out⟩
      case measure => have := HLT.out; simp [intOf]; omega
    · go_wp2_with fail
      go_ret
      exact ⟨⟨_, rfl⟩, HBW.out⟩
end Go.Proofs.YtihbmgkbipeakaaGreat
