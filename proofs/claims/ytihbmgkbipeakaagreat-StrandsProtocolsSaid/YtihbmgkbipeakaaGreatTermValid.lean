/- Chapter 40: the walks of shaped, Valid of both. -/
import Derived.Test.YtihbmgkbipeakaaGreatTermShape2
namespace Go.Proofs.YtihbmgkbipeakaaGreat
open Go.RowKit

namespace T
theorem headOk_kinds (k : Int) (ks : List T) : (headOk k ks = false ∧ (((k = 3 ∨ k = 5 ∨ k = 6) ∧ ks.length ≠ 2) ∨ (k = 4 ∧ ks.length ≠ 1) ∨ (k = 7 ∧ (ks.length = 0 ∨ 4 < ks.length)) ∨ (k ≠ 3 ∧ k ≠ 4 ∧ k ≠ 5 ∧ k ≠ 6 ∧ k ≠ 7))) ∨
    (((k = 3 ∨ k = 5 ∨ k = 6) ∧ ks.length = 2) ∨ (k = 4 ∧ ks.length = 1) ∨ (k = 7 ∧ (ks.length = 1 ∨ ks.length = 2 ∨ ks.length = 3 ∨ ks.length = 4))) := by
  by_cases h3 : k = 3 ∨ k = 5
  · by_cases l : ks.length = 2
    · right; left; exact ⟨by omega, l⟩
    · left; exact ⟨by unfold headOk; rw [if_pos h3]; exact beq_eq_false_iff_ne.2 l, .inl ⟨by omega, l⟩⟩
  by_cases h6 : k = 6
  · by_cases l : ks.length = 2
    · right; left; exact ⟨by omega, l⟩
    · left; exact ⟨by unfold headOk; rw [if_neg h3, if_pos h6]; simp [l], .inl ⟨by omega, l⟩⟩
  by_cases h4 : k = 4
  · by_cases l : ks.length = 1
    · right; right; left; exact ⟨h4, l⟩
    · left; exact ⟨by unfold headOk; rw [if_neg h3, if_neg h6, if_pos h4]; exact beq_eq_false_iff_ne.2 l, .inr (.inl ⟨h4, l⟩)⟩
  by_cases h7 : k = 7
  · by_cases l : 1 ≤ ks.length ∧ ks.length ≤ 4
    · right; right; right; exact ⟨h7, by omega⟩
    · left
      refine ⟨?_, .inr (.inr (.inl ⟨h7, by omega⟩))⟩
      unfold headOk; rw [if_neg h3, if_neg h6, if_neg h4, if_pos h7]
      have : (decide (1 ≤ ks.length) && decide (ks.length ≤ 4)) = false := by rw [← Bool.decide_and]; exact decide_eq_false l
      rw [this]; rfl
  · left; exact ⟨by unfold headOk; rw [if_neg h3, if_neg h6, if_neg h4, if_neg h7], .inr (.inr (.inr ⟨by omega, h4, by omega, h6, h7⟩))⟩
theorem any_at (p : T → Bool) (l : List T) (j : Nat) (h : j < l.length) (hp : p l[j] = true) : l.any p = true := List.any_eq_true.2 ⟨l[j], List.getElem_mem h, hp⟩
theorem any_none (p : T → Bool) (l : List T) (h : ∀ j (g : j < l.length), p l[j] = false) : l.any p = false := by
  rw [List.any_eq_false]; intro x hx
  obtain ⟨j, hj, rfl⟩ := List.getElem_of_mem hx
  rw [h j hj]; decide
end T
set_option maxRecDepth 100000 in
set_option maxHeartbeats 8000000 in
theorem rshaped : ∀ (N : Nat) (t : T) (v : Value) (w : World), t.bulk < N → TermAt w v t → t.bulk ≤ 1048576 →
    Calls Tryz.prog 128 #[v] w fun e w' => e = .returned (.bool t.shape) ∧ Below w.heap.size w w' := by
  intro N
  induction N with
  | zero => intro t v w h; omega
  | succ N ih =>
    intro t v w hN ht hbk
    cases ht with
    | mk k s A cap ks U h1 h2 h3 h4 hA hU =>
      simp only [T.bulk] at hN hbk
      have hkn : ks.length ≤ 1048576 := by have := T.len_le ks; omega
      have hbx := boxed_new w (.int .i64 k) (.string s) (.slice A ks.length cap) 29
      have hb1 := below_alloc1 w (.cells #[.int .i64 k, .string s, .slice A ks.length cap] 29)
      obtain ⟨R, hR⟩ : ∃ R, (T.mk k s ks).shape = R := ⟨_, rfl⟩
      rw [hR]
      go_enter Tryz.func128, Tryz.ntmps128
      go_upto_region 2 with fail
      generalize w.alloc (.cells #[.int .i64 k, .string s, .slice A ks.length cap] 29) = w1 at hbx hb1 ⊢
      obtain ⟨x0, x1, x2⟩ := hbx
      have BA := Lib.hid hA; have BU := Lib.hid hU
      have HS2 := Lib.hid h2
      have IH := Lib.hid ih
      clear hA hU h2 ih
      by_cases k12 : k = 1 ∨ k = 2
      · rw [T.shape_atom k s ks k12] at hR
        rcases Bool.eq_false_or_eq_true (T.isName s) with hn | hn
        · by_cases l0 : ks.length = 0
          · have HR := Lib.hid (show true = R by rw [← hR, hn, l0]; rfl)
            have g : ((ks.length : Int) == 0) = true := by rw [l0]; rfl
            have HL := Lib.hid l0
            clear hR l0
            rcases k12 with rfl | rfl
            all_goals
              go_wp2_with (go_at_call 64; refine (rname _ _ HS2.out).mono ?_; rintro e w' ⟨rfl, rfl⟩)
              go_ret
              exact ⟨ret_bool HR.out, hb1⟩
          · have HR := Lib.hid (show false = R by rw [← hR, hn, Bool.true_and]; exact (beq_eq_false_iff_ne.2 l0).symm)
            have g : ((ks.length : Int) == 0) = false := by rw [beq_eq_false_iff_ne]; omega
            clear hR l0
            rcases k12 with rfl | rfl
            all_goals
              go_wp2_with (go_at_call 64; refine (rname _ _ HS2.out).mono ?_; rintro e w' ⟨rfl, rfl⟩)
              go_ret
              exact ⟨ret_bool HR.out, hb1⟩
        · have HR := Lib.hid (show false = R by rw [← hR, hn]; rfl)
          clear hR
          rcases k12 with rfl | rfl
          all_goals
            go_wp2_with (go_at_call 64; refine (rname _ _ HS2.out).mono ?_; rintro e w' ⟨rfl, rfl⟩)
            go_ret
            exact ⟨ret_bool HR.out, hb1⟩
      have k1 : k ≠ 1 := fun h => k12 (.inl h)
      have k2 : k ≠ 2 := fun h => k12 (.inr h)
      rw [T.shape_head k s ks k1 k2] at hR
      rcases T.headOk_kinds k ks with ⟨hd, hc⟩ | hc
      · have HR := Lib.hid (show false = R by rw [← hR, hd]; rfl)
        clear hR hd k12
        have hs : s.toList.isEmpty = true ∨ s.toList.isEmpty = false := Bool.eq_false_or_eq_true _
        rcases hc with ⟨hk, hl⟩ | ⟨rfl, hl⟩ | ⟨rfl, hl⟩ | ⟨g3, g4, g5, g6, g7⟩
        · have g : ((ks.length : Int) != 2) = true := by rw [bne_iff_ne]; omega
          clear hl k1 k2
          rcases hk with rfl | rfl | rfl
          all_goals
            rcases hs with hs | hs
            all_goals
              go_wp2_with fail
              go_ret
              exact ⟨ret_bool HR.out, hb1⟩
        · have g : ((ks.length : Int) != 1) = true := by rw [bne_iff_ne]; omega
          clear hl k1 k2
          rcases hs with hs | hs
          all_goals
            go_wp2_with fail
            go_ret
            exact ⟨ret_bool HR.out, hb1⟩
        · clear k1 k2
          rcases hl with hl | hl
          · rcases hs with hs | hs
            all_goals
              go_wp2_with fail
              go_ret
              exact ⟨ret_bool HR.out, hb1⟩
          · have g : (4 : Int) < (ks.length : Int) := by omega
            have g1 : (1 : Int) ≤ (ks.length : Int) := by omega
            have g2 : ((ks.length : Int) != 4) = true := by rw [bne_iff_ne]; omega
            rcases hs with hs | hs
            all_goals
              go_wp2_with fail
              go_ret
              exact ⟨ret_bool HR.out, hb1⟩
        · have k1' : (k == 1) = false := by rw [beq_eq_false_iff_ne]; exact k1
          have k2' : (k == 2) = false := by rw [beq_eq_false_iff_ne]; exact k2
          have k3' : (k == 3) = false := by rw [beq_eq_false_iff_ne]; exact g3
          have k4' : (k == 4) = false := by rw [beq_eq_false_iff_ne]; exact g4
          have k5' : (k == 5) = false := by rw [beq_eq_false_iff_ne]; exact g5
          have k6' : (k == 6) = false := by rw [beq_eq_false_iff_ne]; exact g6
          have k7' : (k == 7) = false := by rw [beq_eq_false_iff_ne]; exact g7
          clear k1 k2 g3 g4 g5 g6 g7
          go_wp2_with fail
          go_ret
          exact ⟨ret_bool HR.out, hb1⟩
      · have hk17 : (k = 3 ∨ k = 5 ∨ k = 6) ∨ k = 4 ∨ k = 7 := by omega
        have hc2 : ∃ n, ks.length = n ∧ 1 ≤ n ∧ n ≤ 4 ∧ ((k = 3 ∧ n = 2 ∨ k = 5 ∧ n = 2 ∨ k = 4 ∧ n = 1) ∨ (k = 6 ∧ n = 2) ∨ (k = 7 ∧ n = 1 ∨ k = 7 ∧ n = 2 ∨ k = 7 ∧ n = 3 ∨ k = 7 ∧ n = 4)) := ⟨ks.length, rfl, by omega, by omega, by omega⟩
        obtain ⟨n, hL, n1, n4, hc2⟩ := hc2
        clear hk17 hc k12
        rcases Bool.eq_false_or_eq_true s.toList.isEmpty with hs | hs
        rotate_left
        · have HR := Lib.hid (show false = R by rw [← hR, hs, Bool.and_false]; rfl)
          clear hR k1 k2 n1 n4
          rcases hc2 with (⟨rfl, rfl⟩ | ⟨rfl, rfl⟩ | ⟨rfl, rfl⟩) | ⟨rfl, rfl⟩ | (⟨rfl, rfl⟩ | ⟨rfl, rfl⟩ | ⟨rfl, rfl⟩ | ⟨rfl, rfl⟩)
          all_goals
            go_wp2_with fail
            go_ret
            exact ⟨ret_bool HR.out, hb1⟩
        have hR0 : (T.headOk k ks && !ks.any fun t => !t.shape) = R := by rw [← hR, hs, Bool.and_true]
        have HBad := Lib.hid (fun j (h : j < ks.length) (hp : ks[j].shape = false) => show false = R by rw [← hR0, T.any_at (fun t => !t.shape) ks j h (by simp only [hp]; rfl)]; simp)
        have HBad7 := Lib.hid (fun j (h : j < ks.length) (hk : k = 7) (hp : ks[j].atom = false) => show false = R by
          rw [← hR0]; subst hk; unfold T.headOk
          have := T.any_at (fun t => !t.atom) ks j h (by simp only [hp]; rfl)
          simp [this])
        have HGood := Lib.hid (fun (hp : ∀ j (g : j < ks.length), ks[j].shape = true) (hq : k = 7 → ∀ j (g : j < ks.length), ks[j].atom = true) (h6 : k ≠ 6) => show true = R by
          rw [← hR0, T.any_none (fun t => !t.shape) ks (fun j g => by simp only [hp j g]; rfl), Bool.not_false, Bool.and_true]
          unfold T.headOk
          by_cases h7 : k = 7
          · have := T.any_none (fun t => !t.atom) ks (fun j g => by simp only [hq h7 j g]; rfl)
            simp [h7, this, hL]; omega
          · rcases hc2 with (⟨rfl, rfl⟩ | ⟨rfl, rfl⟩ | ⟨rfl, rfl⟩) | ⟨rfl, rfl⟩ | (⟨rfl, rfl⟩ | ⟨rfl, rfl⟩ | ⟨rfl, rfl⟩ | ⟨rfl, rfl⟩)
            all_goals first | (simp [hL]; done) | exact absurd rfl h6 | exact absurd rfl h7)
        have HGood6 := Lib.hid (fun (hp : ∀ j (g : j < ks.length), ks[j].shape = true) (h6 : k = 6) (h0 : 0 < ks.length) => show ks[0].atom = R by
          rw [← hR0, T.any_none (fun t => !t.shape) ks (fun j g => by simp only [hp j g]; rfl), Bool.not_false, Bool.and_true]
          have h2 : ks.length = 2 := by omega
          unfold T.headOk; subst h6; simp [h2])
        have hrd : ∀ j, j < n → ∀ W, Below w.heap.size w W → ∃ b off B1 C1, A = some ⟨b, off, none⟩ ∧ ∃ h : j < ks.length, (W.cell? ⟨b, off + j * 3, none⟩ = some (.int .i64 ks[j].kind) ∧ W.cell? ⟨b, off + j * 3 + 1, none⟩ = some (.string ks[j].name) ∧ W.cell? ⟨b, off + j * 3 + 2, none⟩ = some (.slice B1 ks[j].kids.length C1)) ∧
            TermAt W (.agg #[.int .i64 ks[j].kind, .string ks[j].name, .slice B1 ks[j].kids.length C1]) ks[j] ∧ ks[j].bulk < N ∧ ks[j].bulk ≤ 1048576 := fun j hj W hW => by
          have hj' : j < ks.length := by omega
          obtain ⟨b, off, B1, C1, rfl, d0, d1, d2, hu⟩ := TermAt.cells hj' BA.out BU.out
          have := T.bulk_at ks j hj'
          exact ⟨b, off, B1, C1, rfl, hj', ⟨cell_later hW d0, cell_later hW d1, cell_later hW d2⟩, hu.later hW, by omega, by omega⟩
        have HRD := Lib.hid hrd
        have HK2 := Lib.hid hc2
        have HL := Lib.hid hL
        clear hrd hR hR0 k1 k2 BA BU
        rcases hc2 with hc2 | ⟨rfl, rfl⟩ | hc2
        · rcases hc2 with ⟨rfl, rfl⟩ | ⟨rfl, rfl⟩ | ⟨rfl, rfl⟩
          all_goals
            go_wp2_with fail
            go_loopw [4] (fun i wr => ∃ j : Nat, j ≤ ks.length ∧ i = .int .i64 j ∧ (∀ m (_ : m < j) (h1 : m < ks.length), ks[m].shape = true) ∧ Below w1.heap.size w1 wr) (fun i _ => 4 - (intOf i).toNat)
            case atStart => exact ⟨0, Nat.zero_le _, rfl, fun m h => absurd h (by omega), Below.refl _ _⟩
            case round =>
              obtain ⟨j, hj, rfl, hz, hbl⟩ := hrel
              have HZ := Lib.hid hz; clear hz
              have z0 := cell_later hbl x0; have z1 := cell_later hbl x1; have z2 := cell_later hbl x2
              have hbw := hb1.trans (hbl.mono hb1.size)
              by_cases hlt : j < ks.length
              · obtain ⟨b, off, B1, C1, rfl, hj', ⟨e0, e1, e2⟩, hu, hb2, hb3⟩ := HRD.out j (by have := HL.out; omega) wr hbw
                have hi : (j : Int) < (ks.length : Int) := by omega
                rw [hL] at hi
                push_cast at hi
                have HU := Lib.hid hu; have HLT := Lib.hid hlt; have HB2 := Lib.hid hb2; have HB3 := Lib.hid hb3; have HBW := Lib.hid hbw; have HBL := Lib.hid hbl
                obtain ⟨q, hq⟩ : ∃ q, ks[j].shape = q := ⟨_, rfl⟩
                have HQ := Lib.hid hq
                clear hu hb2 hb3 hq hbw hj hbl
                go_wp2_with fail
                refine (IH.out _ _ _ HB2.out HU.out HB3.out).mono ?_; rintro e w2 ⟨he, hb4⟩
                have he' : e = .returned (.bool q) := he.trans (ret_bool HQ.out)
                clear he; subst he'
                have f0 := cell_later hb4 e0; have f1 := cell_later hb4 e1; have f2 := cell_later hb4 e2
                have y0 := cell_later hb4 z0; have y1 := cell_later hb4 z1; have y2 := cell_later hb4 z2
                have HU2 := Lib.hid (HU.out.later hb4)
                replace hb4 := HBL.out.trans (hb4.mono HBL.out.size)
                clear e0 e1 e2 z0 z1 z2 x0 x1 x2
                cases q
                · have HR := Lib.hid (HBad.out j HLT.out HQ.out)
                  go_wp2_with fail
                  go_ret
                  exact ⟨ret_bool HR.out, hb1.trans (hb4.mono hb1.size)⟩
                · go_wp2_with fail
                  go_roundw
                  case rel =>
                    refine ⟨j + 1, HLT.out, by go_num, fun m h g1 => ?_, hb4⟩
                    rcases Nat.lt_or_ge m j with g | g
                    · exact HZ.out m g g1
                    · obtain rfl : m = j := by omega
                      exact HQ.out
                  case measure => have := HLT.out; have := HL.out; simp [intOf]; omega
              · have hge : (ks.length : Int) ≤ (j : Int) := by omega
                rw [hL] at hge
                push_cast at hge
                have HP := Lib.hid (fun m (g : m < ks.length) => HZ.out m (by omega) g)
                have HBW := Lib.hid hbw
                clear hlt hj
                have HR := Lib.hid (HGood.out (fun m g => HP.out m g) (fun h => absurd h (by decide)) (by decide))
                go_wp2_with fail
                go_ret
                exact ⟨ret_bool HR.out, HBW.out⟩
        · skip
          go_wp2_with fail
          go_loopw [4] (fun i wr => ∃ j : Nat, j ≤ ks.length ∧ i = .int .i64 j ∧ (∀ m (_ : m < j) (h1 : m < ks.length), ks[m].shape = true) ∧ Below w1.heap.size w1 wr) (fun i _ => 4 - (intOf i).toNat)
          case atStart => exact ⟨0, Nat.zero_le _, rfl, fun m h => absurd h (by omega), Below.refl _ _⟩
          case round =>
            obtain ⟨j, hj, rfl, hz, hbl⟩ := hrel
            have HZ := Lib.hid hz; clear hz
            have z0 := cell_later hbl x0; have z1 := cell_later hbl x1; have z2 := cell_later hbl x2
            have hbw := hb1.trans (hbl.mono hb1.size)
            by_cases hlt : j < ks.length
            · obtain ⟨b, off, B1, C1, rfl, hj', ⟨e0, e1, e2⟩, hu, hb2, hb3⟩ := HRD.out j (by have := HL.out; omega) wr hbw
              have hi : (j : Int) < (ks.length : Int) := by omega
              rw [hL] at hi
              push_cast at hi
              have HU := Lib.hid hu; have HLT := Lib.hid hlt; have HB2 := Lib.hid hb2; have HB3 := Lib.hid hb3; have HBW := Lib.hid hbw; have HBL := Lib.hid hbl
              obtain ⟨q, hq⟩ : ∃ q, ks[j].shape = q := ⟨_, rfl⟩
              have HQ := Lib.hid hq
              clear hu hb2 hb3 hq hbw hj hbl
              go_wp2_with fail
              refine (IH.out _ _ _ HB2.out HU.out HB3.out).mono ?_; rintro e w2 ⟨he, hb4⟩
              have he' : e = .returned (.bool q) := he.trans (ret_bool HQ.out)
              clear he; subst he'
              have f0 := cell_later hb4 e0; have f1 := cell_later hb4 e1; have f2 := cell_later hb4 e2
              have y0 := cell_later hb4 z0; have y1 := cell_later hb4 z1; have y2 := cell_later hb4 z2
              have HU2 := Lib.hid (HU.out.later hb4)
              replace hb4 := HBL.out.trans (hb4.mono HBL.out.size)
              clear e0 e1 e2 z0 z1 z2 x0 x1 x2
              cases q
              · have HR := Lib.hid (HBad.out j HLT.out HQ.out)
                go_wp2_with fail
                go_ret
                exact ⟨ret_bool HR.out, hb1.trans (hb4.mono hb1.size)⟩
              · go_wp2_with fail
                go_roundw
                case rel =>
                  refine ⟨j + 1, HLT.out, by go_num, fun m h g1 => ?_, hb4⟩
                  rcases Nat.lt_or_ge m j with g | g
                  · exact HZ.out m g g1
                  · obtain rfl : m = j := by omega
                    exact HQ.out
                case measure => have := HLT.out; have := HL.out; simp [intOf]; omega
            · have hge : (ks.length : Int) ≤ (j : Int) := by omega
              rw [hL] at hge
              push_cast at hge
              have HP := Lib.hid (fun m (g : m < ks.length) => HZ.out m (by omega) g)
              have HBW := Lib.hid hbw
              clear hlt hj
              have hl0 : 0 < ks.length := by have := HL.out; omega
              obtain ⟨b, off, B1, C1, rfl, hj', ⟨e0, e1, e2⟩, hu, hb2, hb3⟩ := HRD.out 0 (by omega) wr hbw
              simp only [Nat.zero_mul, Nat.add_zero] at e0 e1 e2
              have HU := Lib.hid hu
              have HR := Lib.hid (HGood6.out (fun m g => HP.out m g) (by decide) (by have := HL.out; omega))
              clear hu hb2 hb3 hbw
              go_wp2_with (go_at_call 154; refine (ratom _ _ _ HU.out _ HR.out).mono ?_; rintro e w2 ⟨rfl, hb4⟩)
              go_ret
              exact ⟨rfl, HBW.out.trans (hb4.mono HBW.out.size)⟩
        · rcases hc2 with ⟨rfl, rfl⟩ | ⟨rfl, rfl⟩ | ⟨rfl, rfl⟩ | ⟨rfl, rfl⟩
          all_goals
            go_wp2_with fail
            go_loopw [4] (fun i wr => ∃ j : Nat, j ≤ ks.length ∧ i = .int .i64 j ∧ (∀ m (_ : m < j) (h1 : m < ks.length), ks[m].shape = true ∧ ks[m].atom = true) ∧ Below w1.heap.size w1 wr) (fun i _ => 4 - (intOf i).toNat)
            case atStart => exact ⟨0, Nat.zero_le _, rfl, fun m h => absurd h (by omega), Below.refl _ _⟩
            case round =>
              obtain ⟨j, hj, rfl, hz, hbl⟩ := hrel
              have HZ := Lib.hid hz; clear hz
              have z0 := cell_later hbl x0; have z1 := cell_later hbl x1; have z2 := cell_later hbl x2
              have hbw := hb1.trans (hbl.mono hb1.size)
              by_cases hlt : j < ks.length
              · obtain ⟨b, off, B1, C1, rfl, hj', ⟨e0, e1, e2⟩, hu, hb2, hb3⟩ := HRD.out j (by have := HL.out; omega) wr hbw
                have hi : (j : Int) < (ks.length : Int) := by omega
                rw [hL] at hi
                push_cast at hi
                have HU := Lib.hid hu; have HLT := Lib.hid hlt; have HB2 := Lib.hid hb2; have HB3 := Lib.hid hb3; have HBW := Lib.hid hbw; have HBL := Lib.hid hbl
                obtain ⟨q, hq⟩ : ∃ q, ks[j].shape = q := ⟨_, rfl⟩
                have HQ := Lib.hid hq
                clear hu hb2 hb3 hq hbw hj hbl
                go_wp2_with fail
                refine (IH.out _ _ _ HB2.out HU.out HB3.out).mono ?_; rintro e w2 ⟨he, hb4⟩
                have he' : e = .returned (.bool q) := he.trans (ret_bool HQ.out)
                clear he; subst he'
                have f0 := cell_later hb4 e0; have f1 := cell_later hb4 e1; have f2 := cell_later hb4 e2
                have y0 := cell_later hb4 z0; have y1 := cell_later hb4 z1; have y2 := cell_later hb4 z2
                have HU2 := Lib.hid (HU.out.later hb4)
                replace hb4 := HBL.out.trans (hb4.mono HBL.out.size)
                clear e0 e1 e2 z0 z1 z2 x0 x1 x2
                cases q
                · have HR := Lib.hid (HBad.out j HLT.out HQ.out)
                  go_wp2_with fail
                  go_ret
                  exact ⟨ret_bool HR.out, hb1.trans (hb4.mono hb1.size)⟩
                · obtain ⟨q, hq⟩ : ∃ q, ks[j].atom = q := ⟨_, rfl⟩
                  have HQ2 := Lib.hid hq
                  clear hq
                  go_wp2_with fail
                  refine (ratom _ _ _ HU2.out q HQ2.out).mono ?_; rintro e w3 ⟨rfl, hb5⟩
                  replace hb5 := hb4.trans (hb5.mono hb4.size)
                  clear y0 y1 y2 f0 f1 f2
                  cases q
                  · have HR := Lib.hid (HBad7.out j HLT.out (by decide) HQ2.out)
                    go_wp2_with fail
                    go_ret
                    exact ⟨ret_bool HR.out, hb1.trans (hb5.mono hb1.size)⟩
                  go_wp2_with fail
                  go_roundw
                  case rel =>
                    refine ⟨j + 1, HLT.out, by go_num, fun m h g1 => ?_, hb5⟩
                    rcases Nat.lt_or_ge m j with g | g
                    · exact HZ.out m g g1
                    · obtain rfl : m = j := by omega
                      exact ⟨HQ.out, HQ2.out⟩
                  case measure => have := HLT.out; have := HL.out; simp [intOf]; omega
              · have hge : (ks.length : Int) ≤ (j : Int) := by omega
                rw [hL] at hge
                push_cast at hge
                have HP := Lib.hid (fun m (g : m < ks.length) => HZ.out m (by omega) g)
                have HBW := Lib.hid hbw
                clear hlt hj
                have HR := Lib.hid (HGood.out (fun m g => (HP.out m g).1) (fun _ m g => (HP.out m g).2) (by decide))
                go_wp2_with fail
                go_ret
                exact ⟨ret_bool HR.out, HBW.out⟩
end Go.Proofs.YtihbmgkbipeakaaGreat
