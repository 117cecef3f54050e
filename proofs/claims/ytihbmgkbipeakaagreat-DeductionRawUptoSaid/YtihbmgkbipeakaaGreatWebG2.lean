/- Several texts in one: TermValid, TermVars, TermVal, TermOwn, TermNorm. -/
import Derived.Test.YtihbmgkbipeakaaGreatWebG1
import Derived.Deep.AppendLies
namespace Go.Proofs.YtihbmgkbipeakaaGreat
open Go.RowKit

namespace T
theorem headOk_kinds (k : Int) (ks : List T) : (headOk k ks = false ∧ (((k = 3 ∨ k = 5 ∨ k = 6) ∧ ks.length ≠ 2) ∨ (k = 4 ∧ ks.length ≠ 1) ∨ (k = 7 ∧ (ks.length = 0 ∨ 4 < ks.length)) ∨ (k ≠ 3 ∧ k ≠ 4 ∧ k ≠ 5 ∧ k ≠ 6 ∧ k ≠ 7))) ∨
    (((k = 3 ∨ k = 5 ∨ k = 6) ∧ ks.length = 2) ∨ (k = 4 ∧ ks.length = 1) ∨ (k = 7 ∧ (ks.length = 1 ∨ ks.length = 2 ∨ ks.length = 3 ∨ ks.length = 4))) := by
  by_cases h3 : k = 3 ∨ k = 5
  · by_cases l : ks.length = 2
    · right; left; exact ⟨by omega, l⟩
    · left; exact ⟨by unfold headOk; rw [if_pos h3]; exact beq_eq_false_iff_ne.2 l, .inl ⟨by omega, l⟩⟩
  by_cases h6 : k = 6
  · by_cases l : ks.length = 2
    · right; left; exact ⟨by omega, l⟩
    · left; exact ⟨by unfold headOk; rw [if_neg h3, if_pos h6]; simp [l], .inl ⟨by omega, l⟩⟩
  by_cases h4 : k = 4
  · by_cases l : ks.length = 1
    · right; right; left; exact ⟨h4, l⟩
    · left; exact ⟨by unfold headOk; rw [if_neg h3, if_neg h6, if_pos h4]; exact beq_eq_false_iff_ne.2 l, .inr (.inl ⟨h4, l⟩)⟩
  by_cases h7 : k = 7
  · by_cases l : 1 ≤ ks.length ∧ ks.length ≤ 4
    · right; right; right; exact ⟨h7, by omega⟩
    · left
      refine ⟨?_, .inr (.inr (.inl ⟨h7, by omega⟩))⟩
      unfold headOk; rw [if_neg h3, if_neg h6, if_neg h4, if_pos h7]
      have : (decide (1 ≤ ks.length) && decide (ks.length ≤ 4)) = false := by rw [← Bool.decide_and]; exact decide_eq_false l
      rw [this]; rfl
  · left; exact ⟨by unfold headOk; rw [if_neg h3, if_neg h6, if_neg h4, if_neg h7], .inr (.inr (.inr ⟨by omega, h4, by omega, h6, h7⟩))⟩
theorem any_at (p : T → Bool) (l : List T) (j : Nat) (h : j < l.length) (hp : p l[j] = true) : l.any p = true := List.any_eq_true.2 ⟨l[j], List.getElem_mem h, hp⟩
theorem any_none (p : T → Bool) (l : List T) (h : ∀ j (g : j < l.length), p l[j] = false) : l.any p = false := by
  rw [List.any_eq_false]; intro x hx
  obtain ⟨j, hj, rfl⟩ := List.getElem_of_mem hx
  rw [h j hj]; decide
end T
set_option maxRecDepth 100000 in
set_option maxHeartbeats 8000000 in
theorem rshaped : ∀ (N : Nat) (t : T) (v : Value) (w : World), t.bulk < N → TermAt w v t → t.bulk ≤ 1048576 →
    Calls Tryz.prog 128 #[v] w fun e w' => e = .returned (.bool t.shape) ∧ Below w.heap.size w w' := by
  intro N
  induction N with
  | zero => intro t v w h; omega
  | succ N ih =>
    intro t v w hN ht hbk
    cases ht with
    | mk k s A cap ks U h1 h2 h3 h4 hA hU =>
      simp only [T.bulk] at hN hbk
      have hkn : ks.length ≤ 1048576 := by have := T.len_le ks; omega
      have hbx := boxed_new w (.int .i64 k) (.string s) (.slice A ks.length cap) 29
      have hb1 := below_alloc1 w (.cells #[.int .i64 k, .string s, .slice A ks.length cap] 29)
      obtain ⟨R, hR⟩ : ∃ R, (T.mk k s ks).shape = R := ⟨_, rfl⟩
      rw [hR]
      go_enter Tryz.func128, Tryz.ntmps128
      go_upto_region 2 with fail
      generalize w.alloc (.cells #[.int .i64 k, .string s, .slice A ks.length cap] 29) = w1 at hbx hb1 ⊢
      obtain ⟨x0, x1, x2⟩ := hbx
      have BA := Lib.hid hA; have BU := Lib.hid hU
      have HS2 := Lib.hid h2
      have IH := Lib.hid ih
      clear hA hU h2 ih
      by_cases k12 : k = 1 ∨ k = 2
      · rw [T.shape_atom k s ks k12] at hR
        rcases Bool.eq_false_or_eq_true (T.isName s) with hn | hn
        · by_cases l0 : ks.length = 0
          · have HR := Lib.hid (show true = R by rw [← hR, hn, l0]; rfl)
            have g : ((ks.length : Int) == 0) = true := by rw [l0]; rfl
            have HL := Lib.hid l0
            clear hR l0
            rcases k12 with rfl | rfl
            all_goals
              go_wp2_with (go_at_call 64; refine (rname _ _ HS2.out).mono ?_; rintro e w' ⟨rfl, rfl⟩)
              go_ret
              exact ⟨ret_bool HR.out, hb1⟩
          · have HR := Lib.hid (show false = R by rw [← hR, hn, Bool.true_and]; exact (beq_eq_false_iff_ne.2 l0).symm)
            have g : ((ks.length : Int) == 0) = false := by rw [beq_eq_false_iff_ne]; omega
            clear hR l0
            rcases k12 with rfl | rfl
            all_goals
              go_wp2_with (go_at_call 64; refine (rname _ _ HS2.out).mono ?_; rintro e w' ⟨rfl, rfl⟩)
              go_ret
              exact ⟨ret_bool HR.out, hb1⟩
        · have HR := Lib.hid (show false = R by rw [← hR, hn]; rfl)
          clear hR
          rcases k12 with rfl | rfl
          all_goals
            go_wp2_with (go_at_call 64; refine (rname _ _ HS2.out).mono ?_; rintro e w' ⟨rfl, rfl⟩)
            go_ret
            exact ⟨ret_bool HR.out, hb1⟩
      have k1 : k ≠ 1 := fun h => k12 (.inl h)
      have k2 : k ≠ 2 := fun h => k12 (.inr h)
      rw [T.shape_head k s ks k1 k2] at hR
      rcases T.headOk_kinds k ks with ⟨hd, hc⟩ | hc
      · have HR := Lib.hid (show false = R by rw [← hR, hd]; rfl)
        clear hR hd k12
        have hs : s.toList.isEmpty = true ∨ s.toList.isEmpty = false := Bool.eq_false_or_eq_true _
        rcases hc with ⟨hk, hl⟩ | ⟨rfl, hl⟩ | ⟨rfl, hl⟩ | ⟨g3, g4, g5, g6, g7⟩
        · have g : ((ks.length : Int) != 2) = true := by rw [bne_iff_ne]; omega
          clear hl k1 k2
          rcases hk with rfl | rfl | rfl
          all_goals
            rcases hs with hs | hs
            all_goals
              go_wp2_with fail
              go_ret
              exact ⟨ret_bool HR.out, hb1⟩
        · have g : ((ks.length : Int) != 1) = true := by rw [bne_iff_ne]; omega
          clear hl k1 k2
          rcases hs with hs | hs
          all_goals
            go_wp2_with fail
            go_ret
            exact ⟨ret_bool HR.out, hb1⟩
        · clear k1 k2
          rcases hl with hl | hl
          · rcases hs with hs | hs
            all_goals
              go_wp2_with fail
              go_ret
              exact ⟨ret_bool HR.out, hb1⟩
          · have g : (4 : Int) < (ks.length : Int) := by omega
            have g1 : (1 : Int) ≤ (ks.length : Int) := by omega
            have g2 : ((ks.length : Int) != 4) = true := by rw [bne_iff_ne]; omega
            rcases hs with hs | hs
            all_goals
              go_wp2_with fail
              go_ret
              exact ⟨ret_bool HR.out, hb1⟩
        · have k1' : (k == 1) = false := by rw [beq_eq_false_iff_ne]; exact k1
          have k2' : (k == 2) = false := by rw [beq_eq_false_iff_ne]; exact k2
          have k3' : (k == 3) = false := by rw [beq_eq_false_iff_ne]; exact g3
          have k4' : (k == 4) = false := by rw [beq_eq_false_iff_ne]; exact g4
          have k5' : (k == 5) = false := by rw [beq_eq_false_iff_ne]; exact g5
          have k6' : (k == 6) = false := by rw [beq_eq_false_iff_ne]; exact g6
          have k7' : (k == 7) = false := by rw [beq_eq_false_iff_ne]; exact g7
          clear k1 k2 g3 g4 g5 g6 g7
          go_wp2_with fail
          go_ret
          exact ⟨ret_bool HR.out, hb1⟩
      · have hk17 : (k = 3 ∨ k = 5 ∨ k = 6) ∨ k = 4 ∨ k = 7 := by omega
        have hc2 : ∃ n, ks.length = n ∧ 1 ≤ n ∧ n ≤ 4 ∧ ((k = 3 ∧ n = 2 ∨ k = 5 ∧ n = 2 ∨ k = 4 ∧ n = 1) ∨ (k = 6 ∧ n = 2) ∨ (k = 7 ∧ n = 1 ∨ k = 7 ∧ n = 2 ∨ k = 7 ∧ n = 3 ∨ k = 7 ∧ n = 4)) := ⟨ks.length, rfl, by omega, by omega, by omega⟩
        obtain ⟨n, hL, n1, n4, hc2⟩ := hc2
        clear hk17 hc k12
        rcases Bool.eq_false_or_eq_true s.toList.isEmpty with hs | hs
        rotate_left
        · have HR := Lib.hid (show false = R by rw [← hR, hs, Bool.and_false]; rfl)
          clear hR k1 k2 n1 n4
          rcases hc2 with (⟨rfl, rfl⟩ | ⟨rfl, rfl⟩ | ⟨rfl, rfl⟩) | ⟨rfl, rfl⟩ | (⟨rfl, rfl⟩ | ⟨rfl, rfl⟩ | ⟨rfl, rfl⟩ | ⟨rfl, rfl⟩)
          all_goals
            go_wp2_with fail
            go_ret
            exact ⟨ret_bool HR.out, hb1⟩
        have hR0 : (T.headOk k ks && !ks.any fun t => !t.shape) = R := by rw [← hR, hs, Bool.and_true]
        have HBad := Lib.hid (fun j (h : j < ks.length) (hp : ks[j].shape = false) => show false = R by rw [← hR0, T.any_at (fun t => !t.shape) ks j h (by simp only [hp]; rfl)]; simp)
        have HBad7 := Lib.hid (fun j (h : j < ks.length) (hk : k = 7) (hp : ks[j].atom = false) => show false = R by
          rw [← hR0]; subst hk; unfold T.headOk
          have := T.any_at (fun t => !t.atom) ks j h (by simp only [hp]; rfl)
          simp [this])
        have HGood := Lib.hid (fun (hp : ∀ j (g : j < ks.length), ks[j].shape = true) (hq : k = 7 → ∀ j (g : j < ks.length), ks[j].atom = true) (h6 : k ≠ 6) => show true = R by
          rw [← hR0, T.any_none (fun t => !t.shape) ks (fun j g => by simp only [hp j g]; rfl), Bool.not_false, Bool.and_true]
          unfold T.headOk
          by_cases h7 : k = 7
          · have := T.any_none (fun t => !t.atom) ks (fun j g => by simp only [hq h7 j g]; rfl)
            simp [h7, this, hL]; omega
          · rcases hc2 with (⟨rfl, rfl⟩ | ⟨rfl, rfl⟩ | ⟨rfl, rfl⟩) | ⟨rfl, rfl⟩ | (⟨rfl, rfl⟩ | ⟨rfl, rfl⟩ | ⟨rfl, rfl⟩ | ⟨rfl, rfl⟩)
            all_goals first | (simp [hL]; done) | exact absurd rfl h6 | exact absurd rfl h7)
        have HGood6 := Lib.hid (fun (hp : ∀ j (g : j < ks.length), ks[j].shape = true) (h6 : k = 6) (h0 : 0 < ks.length) => show ks[0].atom = R by
          rw [← hR0, T.any_none (fun t => !t.shape) ks (fun j g => by simp only [hp j g]; rfl), Bool.not_false, Bool.and_true]
          have h2 : ks.length = 2 := by omega
          unfold T.headOk; subst h6; simp [h2])
        have hrd : ∀ j, j < n → ∀ W, Below w.heap.size w W → ∃ b off B1 C1, A = some ⟨b, off, none⟩ ∧ ∃ h : j < ks.length, (W.cell? ⟨b, off + j * 3, none⟩ = some (.int .i64 ks[j].kind) ∧ W.cell? ⟨b, off + j * 3 + 1, none⟩ = some (.string ks[j].name) ∧ W.cell? ⟨b, off + j * 3 + 2, none⟩ = some (.slice B1 ks[j].kids.length C1)) ∧
            TermAt W (.agg #[.int .i64 ks[j].kind, .string ks[j].name, .slice B1 ks[j].kids.length C1]) ks[j] ∧ ks[j].bulk < N ∧ ks[j].bulk ≤ 1048576 := fun j hj W hW => by
          have hj' : j < ks.length := by omega
          obtain ⟨b, off, B1, C1, rfl, d0, d1, d2, hu⟩ := TermAt.cells hj' BA.out BU.out
          have := T.bulk_at ks j hj'
          exact ⟨b, off, B1, C1, rfl, hj', ⟨cell_later hW d0, cell_later hW d1, cell_later hW d2⟩, hu.later hW, by omega, by omega⟩
        have HRD := Lib.hid hrd
        have HK2 := Lib.hid hc2
        have HL := Lib.hid hL
        clear hrd hR hR0 k1 k2 BA BU
        rcases hc2 with hc2 | ⟨rfl, rfl⟩ | hc2
        · rcases hc2 with ⟨rfl, rfl⟩ | ⟨rfl, rfl⟩ | ⟨rfl, rfl⟩
          all_goals
            go_wp2_with fail
            go_loopw [4] (fun i wr => ∃ j : Nat, j ≤ ks.length ∧ i = .int .i64 j ∧ (∀ m (_ : m < j) (h1 : m < ks.length), ks[m].shape = true) ∧ Below w1.heap.size w1 wr) (fun i _ => 4 - (intOf i).toNat)
            case atStart => exact ⟨0, Nat.zero_le _, rfl, fun m h => absurd h (by omega), Below.refl _ _⟩
            case round =>
              obtain ⟨j, hj, rfl, hz, hbl⟩ := hrel
              have HZ := Lib.hid hz; clear hz
              have z0 := cell_later hbl x0; have z1 := cell_later hbl x1; have z2 := cell_later hbl x2
              have hbw := hb1.trans (hbl.mono hb1.size)
              by_cases hlt : j < ks.length
              · obtain ⟨b, off, B1, C1, rfl, hj', ⟨e0, e1, e2⟩, hu, hb2, hb3⟩ := HRD.out j (by have := HL.out; omega) wr hbw
                have hi : (j : Int) < (ks.length : Int) := by omega
                rw [hL] at hi
                push_cast at hi
                have HU := Lib.hid hu; have HLT := Lib.hid hlt; have HB2 := Lib.hid hb2; have HB3 := Lib.hid hb3; have HBW := Lib.hid hbw; have HBL := Lib.hid hbl
                obtain ⟨q, hq⟩ : ∃ q, ks[j].shape = q := ⟨_, rfl⟩
                have HQ := Lib.hid hq
                clear hu hb2 hb3 hq hbw hj hbl
                go_wp2_with fail
                refine (IH.out _ _ _ HB2.out HU.out HB3.out).mono ?_; rintro e w2 ⟨he, hb4⟩
                have he' : e = .returned (.bool q) := he.trans (ret_bool HQ.out)
                clear he; subst he'
                have f0 := cell_later hb4 e0; have f1 := cell_later hb4 e1; have f2 := cell_later hb4 e2
                have y0 := cell_later hb4 z0; have y1 := cell_later hb4 z1; have y2 := cell_later hb4 z2
                have HU2 := Lib.hid (HU.out.later hb4)
                replace hb4 := HBL.out.trans (hb4.mono HBL.out.size)
                clear e0 e1 e2 z0 z1 z2 x0 x1 x2
                cases q
                · have HR := Lib.hid (HBad.out j HLT.out HQ.out)
                  go_wp2_with fail
                  go_ret
                  exact ⟨ret_bool HR.out, hb1.trans (hb4.mono hb1.size)⟩
                · go_wp2_with fail
                  go_roundw
                  case rel =>
                    refine ⟨j + 1, HLT.out, by go_num, fun m h g1 => ?_, hb4⟩
                    rcases Nat.lt_or_ge m j with g | g
                    · exact HZ.out m g g1
                    · obtain rfl : m = j := by omega
                      exact HQ.out
                  case measure => have := HLT.out; have := HL.out; simp [intOf]; omega
              · have hge : (ks.length : Int) ≤ (j : Int) := by omega
                rw [hL] at hge
                push_cast at hge
                have HP := Lib.hid (fun m (g : m < ks.length) => HZ.out m (by omega) g)
                have HBW := Lib.hid hbw
                clear hlt hj
                have HR := Lib.hid (HGood.out (fun m g => HP.out m g) (fun h => absurd h (by decide)) (by decide))
                go_wp2_with fail
                go_ret
                exact ⟨ret_bool HR.out, HBW.out⟩
        · skip
          go_wp2_with fail
          go_loopw [4] (fun i wr => ∃ j : Nat, j ≤ ks.length ∧ i = .int .i64 j ∧ (∀ m (_ : m < j) (h1 : m < ks.length), ks[m].shape = true) ∧ Below w1.heap.size w1 wr) (fun i _ => 4 - (intOf i).toNat)
          case atStart => exact ⟨0, Nat.zero_le _, rfl, fun m h => absurd h (by omega), Below.refl _ _⟩
          case round =>
            obtain ⟨j, hj, rfl, hz, hbl⟩ := hrel
            have HZ := Lib.hid hz; clear hz
            have z0 := cell_later hbl x0; have z1 := cell_later hbl x1; have z2 := cell_later hbl x2
            have hbw := hb1.trans (hbl.mono hb1.size)
            by_cases hlt : j < ks.length
            · obtain ⟨b, off, B1, C1, rfl, hj', ⟨e0, e1, e2⟩, hu, hb2, hb3⟩ := HRD.out j (by have := HL.out; omega) wr hbw
              have hi : (j : Int) < (ks.length : Int) := by omega
              rw [hL] at hi
              push_cast at hi
              have HU := Lib.hid hu; have HLT := Lib.hid hlt; have HB2 := Lib.hid hb2; have HB3 := Lib.hid hb3; have HBW := Lib.hid hbw; have HBL := Lib.hid hbl
              obtain ⟨q, hq⟩ : ∃ q, ks[j].shape = q := ⟨_, rfl⟩
              have HQ := Lib.hid hq
              clear hu hb2 hb3 hq hbw hj hbl
              go_wp2_with fail
              refine (IH.out _ _ _ HB2.out HU.out HB3.out).mono ?_; rintro e w2 ⟨he, hb4⟩
              have he' : e = .returned (.bool q) := he.trans (ret_bool HQ.out)
              clear he; subst he'
              have f0 := cell_later hb4 e0; have f1 := cell_later hb4 e1; have f2 := cell_later hb4 e2
              have y0 := cell_later hb4 z0; have y1 := cell_later hb4 z1; have y2 := cell_later hb4 z2
              have HU2 := Lib.hid (HU.out.later hb4)
              replace hb4 := HBL.out.trans (hb4.mono HBL.out.size)
              clear e0 e1 e2 z0 z1 z2 x0 x1 x2
              cases q
              · have HR := Lib.hid (HBad.out j HLT.out HQ.out)
                go_wp2_with fail
                go_ret
                exact ⟨ret_bool HR.out, hb1.trans (hb4.mono hb1.size)⟩
              · go_wp2_with fail
                go_roundw
                case rel =>
                  refine ⟨j + 1, HLT.out, by go_num, fun m h g1 => ?_, hb4⟩
                  rcases Nat.lt_or_ge m j with g | g
                  · exact HZ.out m g g1
                  · obtain rfl : m = j := by omega
                    exact HQ.out
                case measure => have := HLT.out; have := HL.out; simp [intOf]; omega
            · have hge : (ks.length : Int) ≤ (j : Int) := by omega
              rw [hL] at hge
              push_cast at hge
              have HP := Lib.hid (fun m (g : m < ks.length) => HZ.out m (by omega) g)
              have HBW := Lib.hid hbw
              clear hlt hj
              have hl0 : 0 < ks.length := by have := HL.out; omega
              obtain ⟨b, off, B1, C1, rfl, hj', ⟨e0, e1, e2⟩, hu, hb2, hb3⟩ := HRD.out 0 (by omega) wr hbw
              simp only [Nat.zero_mul, Nat.add_zero] at e0 e1 e2
              have HU := Lib.hid hu
              have HR := Lib.hid (HGood6.out (fun m g => HP.out m g) (by decide) (by have := HL.out; omega))
              clear hu hb2 hb3 hbw
              go_wp2_with (go_at_call 154; refine (ratom _ _ _ HU.out _ HR.out).mono ?_; rintro e w2 ⟨rfl, hb4⟩)
              go_ret
              exact ⟨rfl, HBW.out.trans (hb4.mono HBW.out.size)⟩
        · rcases hc2 with ⟨rfl, rfl⟩ | ⟨rfl, rfl⟩ | ⟨rfl, rfl⟩ | ⟨rfl, rfl⟩
          all_goals
            go_wp2_with fail
            go_loopw [4] (fun i wr => ∃ j : Nat, j ≤ ks.length ∧ i = .int .i64 j ∧ (∀ m (_ : m < j) (h1 : m < ks.length), ks[m].shape = true ∧ ks[m].atom = true) ∧ Below w1.heap.size w1 wr) (fun i _ => 4 - (intOf i).toNat)
            case atStart => exact ⟨0, Nat.zero_le _, rfl, fun m h => absurd h (by omega), Below.refl _ _⟩
            case round =>
              obtain ⟨j, hj, rfl, hz, hbl⟩ := hrel
              have HZ := Lib.hid hz; clear hz
              have z0 := cell_later hbl x0; have z1 := cell_later hbl x1; have z2 := cell_later hbl x2
              have hbw := hb1.trans (hbl.mono hb1.size)
              by_cases hlt : j < ks.length
              · obtain ⟨b, off, B1, C1, rfl, hj', ⟨e0, e1, e2⟩, hu, hb2, hb3⟩ := HRD.out j (by have := HL.out; omega) wr hbw
                have hi : (j : Int) < (ks.length : Int) := by omega
                rw [hL] at hi
                push_cast at hi
                have HU := Lib.hid hu; have HLT := Lib.hid hlt; have HB2 := Lib.hid hb2; have HB3 := Lib.hid hb3; have HBW := Lib.hid hbw; have HBL := Lib.hid hbl
                obtain ⟨q, hq⟩ : ∃ q, ks[j].shape = q := ⟨_, rfl⟩
                have HQ := Lib.hid hq
                clear hu hb2 hb3 hq hbw hj hbl
                go_wp2_with fail
                refine (IH.out _ _ _ HB2.out HU.out HB3.out).mono ?_; rintro e w2 ⟨he, hb4⟩
                have he' : e = .returned (.bool q) := he.trans (ret_bool HQ.out)
                clear he; subst he'
                have f0 := cell_later hb4 e0; have f1 := cell_later hb4 e1; have f2 := cell_later hb4 e2
                have y0 := cell_later hb4 z0; have y1 := cell_later hb4 z1; have y2 := cell_later hb4 z2
                have HU2 := Lib.hid (HU.out.later hb4)
                replace hb4 := HBL.out.trans (hb4.mono HBL.out.size)
                clear e0 e1 e2 z0 z1 z2 x0 x1 x2
                cases q
                · have HR := Lib.hid (HBad.out j HLT.out HQ.out)
                  go_wp2_with fail
                  go_ret
                  exact ⟨ret_bool HR.out, hb1.trans (hb4.mono hb1.size)⟩
                · obtain ⟨q, hq⟩ : ∃ q, ks[j].atom = q := ⟨_, rfl⟩
                  have HQ2 := Lib.hid hq
                  clear hq
                  go_wp2_with fail
                  refine (ratom _ _ _ HU2.out q HQ2.out).mono ?_; rintro e w3 ⟨rfl, hb5⟩
                  replace hb5 := hb4.trans (hb5.mono hb4.size)
                  clear y0 y1 y2 f0 f1 f2
                  cases q
                  · have HR := Lib.hid (HBad7.out j HLT.out (by decide) HQ2.out)
                    go_wp2_with fail
                    go_ret
                    exact ⟨ret_bool HR.out, hb1.trans (hb5.mono hb1.size)⟩
                  go_wp2_with fail
                  go_roundw
                  case rel =>
                    refine ⟨j + 1, HLT.out, by go_num, fun m h g1 => ?_, hb5⟩
                    rcases Nat.lt_or_ge m j with g | g
                    · exact HZ.out m g g1
                    · obtain rfl : m = j := by omega
                      exact ⟨HQ.out, HQ2.out⟩
                  case measure => have := HLT.out; have := HL.out; simp [intOf]; omega
              · have hge : (ks.length : Int) ≤ (j : Int) := by omega
                rw [hL] at hge
                push_cast at hge
                have HP := Lib.hid (fun m (g : m < ks.length) => HZ.out m (by omega) g)
                have HBW := Lib.hid hbw
                clear hlt hj
                have HR := Lib.hid (HGood.out (fun m g => (HP.out m g).1) (fun _ m g => (HP.out m g).2) (by decide))
                go_wp2_with fail
                go_ret
                exact ⟨ret_bool HR.out, HBW.out⟩
end Go.Proofs.YtihbmgkbipeakaaGreat

namespace Go.Proofs.YtihbmgkbipeakaaGreat
open Go.RowKit

namespace T
mutual
/-- Is there a variable in a term? -/
def hasVar : T → Bool
  | .mk k _ ks => k == 2 || hasVarAll ks
def hasVarAll : List T → Bool
  | [] => false
  | t :: r => hasVar t || hasVarAll r
end
theorem hasVarAll_any : ∀ l : List T, hasVarAll l = l.any hasVar
  | [] => rfl
  | t :: r => by simp only [hasVarAll, List.any_cons, hasVarAll_any r]
def valid (t : T) : Bool := decide (t.size ≤ 40) && t.shape
def ground (t : T) : Bool := t.valid && !t.hasVar
end T
set_option maxRecDepth 100000 in
set_option maxHeartbeats 2000000 in
theorem ovar : ∀ (N : Nat) (t : T) (v : Value) (w : World), t.bulk < N → TermAt w v t → t.bulk ≤ 1048576 →
    Calls Tryz.prog 118 #[v] w fun e w' => e = .returned (.bool t.hasVar) ∧ Below w.heap.size w w' := by
  intro N
  induction N with
  | zero => intro t v w h; omega
  | succ N ih =>
    intro t v w hN ht hbk
    cases ht with
    | mk k s A cap ks U h1 h2 h3 h4 hA hU =>
      simp only [T.bulk] at hN hbk
      have hkn : ks.length ≤ 1048576 := by have := T.len_le ks; omega
      have hb1 := below_alloc1 w (.cells #[.int .i64 k, .string s, .slice A ks.length cap] 29)
      obtain ⟨R, hR⟩ : ∃ R, (T.mk k s ks).hasVar = R := ⟨_, rfl⟩
      rw [hR]
      simp only [T.hasVar, T.hasVarAll_any] at hR
      have hkids : ∀ r, (ks.any T.hasVar) = r → Calls Tryz.prog 84 #[.slice A ks.length cap, .func (.func 118) #[] #[]] (w.alloc (.cells #[.int .i64 k, .string s, .slice A ks.length cap] 29)) fun e w' => e = .returned (.bool r) ∧ Below (w.alloc (.cells #[.int .i64 k, .string s, .slice A ks.length cap] 29)).heap.size (w.alloc (.cells #[.int .i64 k, .string s, .slice A ks.length cap] 29)) w' := fun r hr => by
        refine contains_var T.hasVar A cap ks U _ hkn ?_ (fun i h => (hU i h).later hb1) ?_ r hr
        · rcases hA with h | ⟨b, off, e, hc⟩
          · exact .inl h
          · exact .inr ⟨b, off, e, fun i hi => by obtain ⟨c0, c1, c2⟩ := hc i hi; exact ⟨cell_later hb1 c0, cell_later hb1 c1, cell_later hb1 c2⟩⟩
        · intro j h v' W' hv
          have := T.bulk_at ks j h
          exact ih _ _ _ (by omega) hv (by omega)
      have HK := Lib.hid hkids
      have HB1 := Lib.hid hb1
      clear hkids hA hU ih hb1
      by_cases k2 : k = 2
      · subst k2
        have HR := Lib.hid (show true = R by rw [← hR]; rfl)
        clear hR
        go_enter Tryz.func118, Tryz.ntmps118
        go_wp2_with fail
        go_ret
        exact ⟨ret_bool HR.out, HB1.out⟩
      · have k2' : (k == 2) = false := by rw [beq_eq_false_iff_ne]; exact k2
        have HR := Lib.hid (show (ks.any T.hasVar) = R by rw [← hR, k2']; rfl)
        clear hR k2
        go_enter Tryz.func118, Tryz.ntmps118
        go_wp2_with (go_at_call 84; refine (HK.out _ HR.out).mono ?_; rintro e w2 ⟨rfl, hb2⟩)
        go_ret
        exact ⟨rfl, HB1.out.trans (hb2.mono HB1.out.size)⟩
set_option maxRecDepth 100000 in
set_option maxHeartbeats 2000000 in
theorem rclosed : ∀ (N : Nat) (t : T) (v : Value) (w : World), t.bulk < N → TermAt w v t → t.bulk ≤ 1048576 →
    Calls Tryz.prog 126 #[v] w fun e w' => e = .returned (.bool (!t.hasVar)) ∧ Below w.heap.size w w' := by
  intro N
  induction N with
  | zero => intro t v w h; omega
  | succ N ih =>
    intro t v w hN ht hbk
    cases ht with
    | mk k s A cap ks U h1 h2 h3 h4 hA hU =>
      simp only [T.bulk] at hN hbk
      have hkn : ks.length ≤ 1048576 := by have := T.len_le ks; omega
      have hbx := boxed_new w (.int .i64 k) (.string s) (.slice A ks.length cap) 29
      have hb1 := below_alloc1 w (.cells #[.int .i64 k, .string s, .slice A ks.length cap] 29)
      obtain ⟨R, hR⟩ : ∃ R, (T.mk k s ks).hasVar = R := ⟨_, rfl⟩
      rw [hR]
      simp only [T.hasVar, T.hasVarAll_any] at hR
      have HBad := Lib.hid (fun j (h : j < ks.length) (hp : ks[j].hasVar = true) => show false = !R by rw [← hR, T.any_at T.hasVar ks j h hp]; simp)
      have HGood := Lib.hid (fun (hp : ∀ j (g : j < ks.length), ks[j].hasVar = false) => show (k != 2) = !R by rw [← hR, T.any_none T.hasVar ks hp, Bool.or_false]; rfl)
      go_enter Tryz.func126, Tryz.ntmps126
      go_wp2_with fail
      generalize w.alloc (.cells #[.int .i64 k, .string s, .slice A ks.length cap] 29) = w1 at hbx hb1 ⊢
      obtain ⟨x0, x1, x2⟩ := hbx
      have BA := Lib.hid hA; have BU := Lib.hid hU
      have IH := Lib.hid ih
      clear hA hU ih hR
      go_loopw [3] (fun i wr => ∃ j : Nat, j ≤ ks.length ∧ i = .int .i64 j ∧ (∀ m (_ : m < j) (h1 : m < ks.length), ks[m].hasVar = false) ∧ Below w1.heap.size w1 wr) (fun i _ => ks.length - (intOf i).toNat)
      case atStart => exact ⟨0, Nat.zero_le _, rfl, fun m h => absurd h (by omega), Below.refl _ _⟩
      case round =>
        obtain ⟨j, hj, rfl, hz, hbl⟩ := hrel
        have HZ := Lib.hid hz; clear hz
        have z0 := cell_later hbl x0; have z1 := cell_later hbl x1; have z2 := cell_later hbl x2
        have hbw := hb1.trans (hbl.mono hb1.size)
        by_cases hlt : j < ks.length
        · obtain ⟨b, off, B1, C1, rfl, d0, d1, d2, hu⟩ := TermAt.cells hlt BA.out BU.out
          have e0 := cell_later hbw d0; have e1 := cell_later hbw d1; have e2 := cell_later hbw d2
          have hi : (j : Int) < (ks.length : Int) := by omega
          have HU := Lib.hid (hu.later hbw); have HLT := Lib.hid hlt; have HBL := Lib.hid hbl
          have HB2 := Lib.hid (show ks[j].bulk < N ∧ ks[j].bulk ≤ 1048576 by have := T.bulk_at ks j hlt; omega)
          obtain ⟨q, hq⟩ : ∃ q, ks[j].hasVar = q := ⟨_, rfl⟩
          have HQ := Lib.hid hq
          clear hu hq hbw hj hbl d0 d1 d2
          go_wp2_with fail
          refine (IH.out _ _ _ HB2.out.1 HU.out HB2.out.2).mono ?_; rintro e w2 ⟨he, hb4⟩
          have he' : e = .returned (.bool (!q)) := he.trans (ret_bool (by rw [HQ.out]))
          clear he; subst he'
          replace hb4 := HBL.out.trans (hb4.mono HBL.out.size)
          clear e0 e1 e2 z0 z1 z2 x0 x1 x2
          cases q
          · go_wp2_with fail
            go_roundw
            case rel =>
              refine ⟨j + 1, HLT.out, by go_num, fun m h g1 => ?_, hb4⟩
              rcases Nat.lt_or_ge m j with g | g
              · exact HZ.out m g g1
              · obtain rfl : m = j := by omega
                exact HQ.out
            case measure => have := HLT.out; simp [intOf]; omega
          · have HR := Lib.hid (HBad.out j HLT.out HQ.out)
            go_wp2_with fail
            go_ret
            exact ⟨ret_bool HR.out, hb1.trans (hb4.mono hb1.size)⟩
        · have hge : (ks.length : Int) ≤ (j : Int) := by omega
          have HR := Lib.hid (HGood.out (fun m g => HZ.out m (by omega) g))
          have HBW := Lib.hid hbw
          clear hlt hj
          go_wp2_with fail
          go_ret
          exact ⟨ret_bool HR.out, HBW.out⟩
end Go.Proofs.YtihbmgkbipeakaaGreat

namespace Go.Proofs.YtihbmgkbipeakaaGreat
open Go.RowKit

set_option maxRecDepth 100000 in
set_option maxHeartbeats 2000000 in
theorem ovalid (t : T) (v : Value) (w : World) (ht : TermAt w v t) (hbk : t.bulk ≤ 1048576) (r : Bool) (c : Int) (hr : t.valid = r) (hc : r = true ∧ c = 0 ∨ r = false ∧ c = 76) :
    Calls Tryz.prog 74 #[v] w fun e w' => e = .returned (.int .i64 c) ∧ Below w.heap.size w w' := by
  have HZ := Lib.hid (fun W hW => osize (t.bulk + 1) t v W (by omega) hW hbk)
  have HS := Lib.hid (fun W hW => oshape (t.bulk + 1) t v W (by omega) hW hbk)
  have hb := t.size_le
  have hr' : (decide (t.size ≤ 40) && t.shape) = r := hr
  clear hr hbk
  generalize t.size = n at *
  generalize t.shape = q at *
  cases ht with
  | mk k s A cap ks U h1 h2 h3 h4 hA hU =>
    have HT := Lib.hid (TermAt.mk k s A cap ks U h1 h2 h3 h4 hA hU)
    have hbx := boxed_new w (.int .i64 k) (.string s) (.slice A ks.length cap) 29
    have hb1 := below_alloc1 w (.cells #[.int .i64 k, .string s, .slice A ks.length cap] 29)
    clear hA hU hb
    go_enter Tryz.func74, Tryz.ntmps74
    go_upto_region 1 with fail
    generalize w.alloc (.cells #[.int .i64 k, .string s, .slice A ks.length cap] 29) = w1 at hbx hb1 ⊢
    obtain ⟨x0, x1, x2⟩ := hbx
    have HT1 := Lib.hid (HT.out.later hb1)
    go_wp2_with fail
    refine (HZ.out _ HT1.out).mono ?_; rintro e w2 ⟨rfl, hb2⟩
    have y0 := cell_later hb2 x0; have y1 := cell_later hb2 x1; have y2 := cell_later hb2 x2
    have HT2 := Lib.hid (HT1.out.later hb2)
    replace hb2 := hb1.trans (hb2.mono hb1.size)
    clear x0 x1 x2
    by_cases h40 : n ≤ 40
    · have g : (n : Int) ≤ 40 := by omega
      have HR := Lib.hid (show q = r by rw [← hr', decide_eq_true h40, Bool.true_and])
      clear hr' h40
      go_wp2_with fail
      refine (HS.out _ HT2.out).mono ?_; rintro e w3 ⟨rfl, hb3⟩
      replace hb3 := hb2.trans (hb3.mono hb2.size)
      rcases hc with ⟨hq, rfl⟩ | ⟨hq, rfl⟩
      all_goals
        have hq' := HR.out.trans hq
        subst hq'
        clear HR hq
        go_wp2_with fail
        go_ret
        exact ⟨rfl, hb3⟩
    · have g : 40 < (n : Int) := by omega
      have HR := Lib.hid (show false = r by rw [← hr', decide_eq_false h40]; rfl)
      have hc' : c = 76 := by
        have := HR.out
        rcases hc with ⟨hq, _⟩ | ⟨_, hq⟩
        · rw [hq] at this; cases this
        · exact hq
      subst hc'
      clear hr' h40 hc
      go_wp2_with fail
      go_ret
      exact ⟨rfl, hb2⟩

set_option maxRecDepth 100000 in
set_option maxHeartbeats 2000000 in
theorem rvalid (t : T) (v : Value) (w : World) (ht : TermAt w v t) (hbk : t.bulk ≤ 1048576) (r : Bool) (c : Int) (hr : t.valid = r) (hc : r = true ∧ c = 0 ∨ r = false ∧ c = 76) :
    Calls Tryz.prog 94 #[v] w fun e w' => e = .returned (.int .i64 c) ∧ Below w.heap.size w w' := by
  have HZ := Lib.hid (fun W hW => rsize (t.bulk + 1) t v W (by omega) hW hbk)
  have HS := Lib.hid (fun W hW => rshaped (t.bulk + 1) t v W (by omega) hW hbk)
  have hb := t.size_le
  have hr' : (decide (t.size ≤ 40) && t.shape) = r := hr
  clear hr hbk
  generalize t.size = n at *
  generalize t.shape = q at *
  cases ht with
  | mk k s A cap ks U h1 h2 h3 h4 hA hU =>
    have HT := Lib.hid (TermAt.mk k s A cap ks U h1 h2 h3 h4 hA hU)
    have hbx := boxed_new w (.int .i64 k) (.string s) (.slice A ks.length cap) 29
    have hb1 := below_alloc1 w (.cells #[.int .i64 k, .string s, .slice A ks.length cap] 29)
    clear hA hU hb
    go_enter Tryz.func94, Tryz.ntmps94
    go_upto_region 1 with fail
    generalize w.alloc (.cells #[.int .i64 k, .string s, .slice A ks.length cap] 29) = w1 at hbx hb1 ⊢
    obtain ⟨x0, x1, x2⟩ := hbx
    have HT1 := Lib.hid (HT.out.later hb1)
    go_wp2_with fail
    refine (HS.out _ HT1.out).mono ?_; rintro e w2 ⟨rfl, hb2⟩
    have y0 := cell_later hb2 x0; have y1 := cell_later hb2 x1; have y2 := cell_later hb2 x2
    have HT2 := Lib.hid (HT1.out.later hb2)
    replace hb2 := hb1.trans (hb2.mono hb1.size)
    clear x0 x1 x2
    cases q
    · have HR := Lib.hid (show false = r by rw [← hr', Bool.and_false])
      have hc' : c = 76 := by
        have := HR.out
        rcases hc with ⟨hq, _⟩ | ⟨_, hq⟩
        · rw [hq] at this; cases this
        · exact hq
      subst hc'
      clear hr' hc
      go_wp2_with fail
      go_ret
      exact ⟨rfl, hb2⟩
    · have HR := Lib.hid (show decide (n ≤ 40) = r by rw [← hr', Bool.and_true])
      clear hr'
      go_wp2_with fail
      refine (HZ.out _ HT2.out).mono ?_; rintro e w3 ⟨rfl, hb3⟩
      replace hb3 := hb2.trans (hb3.mono hb2.size)
      rcases hc with ⟨hq, rfl⟩ | ⟨hq, rfl⟩
      · have g : (n : Int) ≤ 40 := by have := HR.out.trans hq; simp at this; omega
        go_wp2_with fail
        go_ret
        exact ⟨rfl, hb3⟩
      · have g : 40 < (n : Int) := by have := HR.out.trans hq; simp at this; omega
        go_wp2_with fail
        go_ret
        exact ⟨rfl, hb3⟩

set_option maxRecDepth 100000 in
set_option maxHeartbeats 2000000 in
theorem oground (t : T) (v : Value) (w : World) (ht : TermAt w v t) (hbk : t.bulk ≤ 1048576) :
    Calls Tryz.prog 77 #[v] w fun e w' => e = .returned (.bool t.ground) ∧ Below w.heap.size w w' := by
  have HZ := Lib.hid (fun W hW r c hr hc => ovalid t v W hW hbk r c hr hc)
  have HS := Lib.hid (fun W hW => ovar (t.bulk + 1) t v W (by omega) hW hbk)
  obtain ⟨q, hq⟩ : ∃ q, t.valid = q := ⟨_, rfl⟩
  have hr : t.ground = (q && !t.hasVar) := by rw [← hq]; rfl
  rw [hr]
  rw [hq] at HZ
  clear hr hbk hq
  generalize t.hasVar = p at *
  cases ht with
  | mk k s A cap ks U h1 h2 h3 h4 hA hU =>
    have HT := Lib.hid (TermAt.mk k s A cap ks U h1 h2 h3 h4 hA hU)
    have hbx := boxed_new w (.int .i64 k) (.string s) (.slice A ks.length cap) 29
    have hb1 := below_alloc1 w (.cells #[.int .i64 k, .string s, .slice A ks.length cap] 29)
    clear hA hU
    go_enter Tryz.func77, Tryz.ntmps77
    go_upto_region 1 with fail
    generalize w.alloc (.cells #[.int .i64 k, .string s, .slice A ks.length cap] 29) = w1 at hbx hb1 ⊢
    obtain ⟨x0, x1, x2⟩ := hbx
    have HT1 := Lib.hid (HT.out.later hb1)
    cases q
    · go_wp2_with fail
      refine (HZ.out _ HT1.out false 76 rfl (.inr ⟨rfl, rfl⟩)).mono ?_; rintro e w2 ⟨rfl, hb2⟩
      replace hb2 := hb1.trans (hb2.mono hb1.size)
      clear x0 x1 x2
      go_wp2_with fail
      go_ret
      exact ⟨rfl, hb2⟩
    · go_wp2_with fail
      refine (HZ.out _ HT1.out true 0 rfl (.inl ⟨rfl, rfl⟩)).mono ?_; rintro e w2 ⟨rfl, hb2⟩
      have y0 := cell_later hb2 x0; have y1 := cell_later hb2 x1; have y2 := cell_later hb2 x2
      have HT2 := Lib.hid (HT1.out.later hb2)
      replace hb2 := hb1.trans (hb2.mono hb1.size)
      clear x0 x1 x2
      go_wp2_with fail
      refine (HS.out _ HT2.out).mono ?_; rintro e w3 ⟨rfl, hb3⟩
      replace hb3 := hb2.trans (hb3.mono hb2.size)
      go_wp2_with fail
      go_ret
      exact ⟨ret_bool (by simp), hb3⟩

set_option maxRecDepth 100000 in
set_option maxHeartbeats 2000000 in
theorem rground (t : T) (v : Value) (w : World) (ht : TermAt w v t) (hbk : t.bulk ≤ 1048576) :
    Calls Tryz.prog 89 #[v] w fun e w' => e = .returned (.bool t.ground) ∧ Below w.heap.size w w' := by
  have HZ := Lib.hid (fun W hW r c hr hc => rvalid t v W hW hbk r c hr hc)
  have HS := Lib.hid (fun W hW => rclosed (t.bulk + 1) t v W (by omega) hW hbk)
  obtain ⟨q, hq⟩ : ∃ q, t.valid = q := ⟨_, rfl⟩
  have hr : t.ground = (q && !t.hasVar) := by rw [← hq]; rfl
  rw [hr]
  rw [hq] at HZ
  clear hr hbk hq
  generalize t.hasVar = p at *
  cases ht with
  | mk k s A cap ks U h1 h2 h3 h4 hA hU =>
    have HT := Lib.hid (TermAt.mk k s A cap ks U h1 h2 h3 h4 hA hU)
    have hbx := boxed_new w (.int .i64 k) (.string s) (.slice A ks.length cap) 29
    have hb1 := below_alloc1 w (.cells #[.int .i64 k, .string s, .slice A ks.length cap] 29)
    clear hA hU
    go_enter Tryz.func89, Tryz.ntmps89
    go_upto_region 1 with fail
    generalize w.alloc (.cells #[.int .i64 k, .string s, .slice A ks.length cap] 29) = w1 at hbx hb1 ⊢
    obtain ⟨x0, x1, x2⟩ := hbx
    have HT1 := Lib.hid (HT.out.later hb1)
    cases q
    · go_wp2_with fail
      refine (HZ.out _ HT1.out false 76 rfl (.inr ⟨rfl, rfl⟩)).mono ?_; rintro e w2 ⟨rfl, hb2⟩
      replace hb2 := hb1.trans (hb2.mono hb1.size)
      clear x0 x1 x2
      go_wp2_with fail
      go_ret
      exact ⟨rfl, hb2⟩
    · go_wp2_with fail
      refine (HZ.out _ HT1.out true 0 rfl (.inl ⟨rfl, rfl⟩)).mono ?_; rintro e w2 ⟨rfl, hb2⟩
      have y0 := cell_later hb2 x0; have y1 := cell_later hb2 x1; have y2 := cell_later hb2 x2
      have HT2 := Lib.hid (HT1.out.later hb2)
      replace hb2 := hb1.trans (hb2.mono hb1.size)
      clear x0 x1 x2
      go_wp2_with fail
      refine (HS.out _ HT2.out).mono ?_; rintro e w3 ⟨rfl, hb3⟩
      replace hb3 := hb2.trans (hb3.mono hb2.size)
      go_wp2_with fail
      go_ret
      exact ⟨ret_bool (by simp), hb3⟩
end Go.Proofs.YtihbmgkbipeakaaGreat

namespace Go.Proofs.YtihbmgkbipeakaaGreat
open Go.RowKit

/-- A world of which only certain blocks are seen. -/
def only (w : World) (S : Nat → Bool) : World := { w with heap := w.heap.mapIdx fun i o => if S i = true then o else .cells #[] 0 (0, 0) }
theorem cell_only (w : World) (S : Nat → Bool) (p : Addr) : (only w S).cell? p = if S p.block = true then w.cell? p else none := by
  unfold World.cell? only
  simp only [Array.getElem?_mapIdx]
  cases h : w.heap[p.block]? with
  | none => simp
  | some o =>
    by_cases hS : S p.block = true
    · simp [hS]
    · simp [hS]
/-- A term all of whose memory lies in certain blocks. -/
def TermIn (S : Nat → Bool) (w : World) (v : Value) (t : T) : Prop := TermAt (only w S) v t
theorem TermIn.at {S : Nat → Bool} {w : World} {v : Value} {t : T} (h : TermIn S w v t) : TermAt w v t :=
  TermAt.keep h fun p hp => by
    rw [cell_only] at hp ⊢
    split at hp
    · rename_i hS; rw [if_pos hS]
    · cases hp
theorem TermIn.keep {S S' : Nat → Bool} {w w' : World} {v : Value} {t : T} (h : TermIn S w v t) (hk : ∀ b, S b = true → b < w.heap.size → S' b = true ∧ w'.heap[b]? = w.heap[b]?) : TermIn S' w' v t :=
  TermAt.keep h fun p hp => by
    rw [cell_only] at hp
    rw [cell_only, cell_only]
    split at hp
    · rename_i hS
      obtain ⟨v, hv⟩ := Option.isSome_iff_exists.1 hp
      obtain ⟨h1, h2⟩ := hk _ hS (World.block_lt_of_cell? w p hv)
      rw [if_pos hS, if_pos h1]; exact World.cell?_of_block h2
    · cases hp
theorem TermAt.inAll {w : World} {v : Value} {t : T} (h : TermAt w v t) : TermIn (fun b => decide (b < w.heap.size)) w v t :=
  TermAt.keep h fun p hp => by
    obtain ⟨v, hv⟩ := Option.isSome_iff_exists.1 hp
    rw [cell_only, if_pos (decide_eq_true (World.block_lt_of_cell? w p hv))]
/-- Blocks from B on. -/
def from_ (B : Nat) : Nat → Bool := fun b => decide (B ≤ b)
/-- Blocks from B on but g. -/
def but (B : Nat) (g : Option Nat) : Nat → Bool := fun b => decide (B ≤ b) && !(g == some b)
theorem but_iff {B : Nat} {g : Option Nat} {b : Nat} : but B g b = true ↔ B ≤ b ∧ g ≠ some b := by
  unfold but
  rw [Bool.and_eq_true, decide_eq_true_eq, Bool.not_eq_true', beq_eq_false_iff_ne]

/-- Block g is a row of cap terms, of which the first ones are these; they lie outside that block, from base on. -/
def RowT (w : World) (base g cap : Nat) (L : List T) : Prop :=
  ∃ cur : Array Value, w.heap[g]? = some (.cells cur 29 (0, 0)) ∧ cur.size = cap * 3 ∧ L.length ≤ cap ∧ cap ≤ maxLen ∧ base ≤ g ∧
    ∀ i (h : i < L.length), ∃ u0 u1 u2, cur[i * 3]? = some u0 ∧ cur[i * 3 + 1]? = some u1 ∧ cur[i * 3 + 2]? = some u2 ∧ TermIn (but base (some g)) w (.agg #[u0, u1, u2]) L[i]
def TermsRow (w : World) (base : Nat) (v : Value) (L : List T) : Prop :=
  (v = .slice none 0 0 ∧ L = []) ∨ ∃ g cap, v = .slice (some ⟨g, 0, none⟩) L.length cap ∧ RowT w base g cap L
theorem TermsRow.nil (w : World) (base : Nat) : TermsRow w base (.slice none 0 0) [] := .inl ⟨rfl, rfl⟩
theorem RowT.keep {w w' : World} {base g cap : Nat} {L : List T} (h : RowT w base g cap L) (hk : ∀ b, base ≤ b → b < w.heap.size → w'.heap[b]? = w.heap[b]?) : RowT w' base g cap L := by
  obtain ⟨cur, h1, h2, h3, h4, h5, h6⟩ := h
  refine ⟨cur, ?_, h2, h3, h4, h5, fun i hi => ?_⟩
  · rw [hk g h5 (Array.getElem?_eq_some_iff.1 h1).1]; exact h1
  · obtain ⟨u0, u1, u2, a, b, c, d⟩ := h6 i hi
    exact ⟨u0, u1, u2, a, b, c, d.keep fun b hb hl => ⟨hb, hk b (but_iff.1 hb).1 hl⟩⟩
theorem TermsRow.keep {w w' : World} {base : Nat} {v : Value} {L : List T} (h : TermsRow w base v L) (hk : ∀ b, base ≤ b → b < w.heap.size → w'.heap[b]? = w.heap[b]?) : TermsRow w' base v L := by
  rcases h with h | ⟨g, cap, rfl, h⟩
  · exact .inl h
  · exact .inr ⟨g, cap, rfl, h.keep hk⟩
theorem TermsRow.later {w w' : World} {base : Nat} {v : Value} {L : List T} (h : TermsRow w base v L) (hb : Below w.heap.size w w') : TermsRow w' base v L := h.keep fun b _ hl => hb.block b hl
theorem TermsRow.shape {w : World} {base : Nat} {v : Value} {L : List T} (h : TermsRow w base v L) : ∃ A cap, v = .slice A L.length cap ∧ L.length ≤ cap ∧ cap ≤ maxLen := by
  rcases h with ⟨rfl, rfl⟩ | ⟨g, cap, rfl, cur, _, _, h3, h4, _⟩
  · exact ⟨none, 0, rfl, Nat.le_refl _, Nat.zero_le _⟩
  · exact ⟨_, cap, rfl, h3, h4⟩
theorem TermsRow.block {w : World} {base : Nat} {v : Value} {L : List T} (h : TermsRow w base v L) : ∀ k, v.ownBlock = some k → base ≤ k ∧ k < w.heap.size := by
  intro k hk
  rcases h with ⟨rfl, rfl⟩ | ⟨g, cap, rfl, cur, h1, _, _, _, h5, _⟩
  · cases hk
  · injection hk with hk
    subst hk
    exact ⟨h5, (Array.getElem?_eq_some_iff.1 h1).1⟩
/-- The row as the kids of a term. -/
theorem TermsRow.term {w : World} {base : Nat} {v : Value} {L : List T} (h : TermsRow w base v L) (k : Int) (s : ByteArray) (hk : -9223372036854775808 ≤ k ∧ k ≤ 9223372036854775807) (hs : s.size ≤ maxLen) :
    TermIn (from_ base) w (.agg #[.int .i64 k, .string s, v]) (.mk k s L) := by
  rcases h with ⟨rfl, rfl⟩ | ⟨g, cap, rfl, cur, h1, h2, h3, h4, h5, h6⟩
  · exact TermAt.mk k s none 0 [] (fun _ => (undef, undef, undef)) hk hs (Nat.le_refl _) (Nat.zero_le _) (.inl rfl) (fun i h => by simp at h)
  · have hc : ∀ j u, cur[j]? = some u → (only w (from_ base)).cell? ⟨g, j, none⟩ = some u := fun j u hu => by
      rw [cell_only, if_pos (by unfold from_; exact decide_eq_true h5)]
      simp [World.cell?, h1, hu]
    refine TermAt.mk k s (some ⟨g, 0, none⟩) cap L (fun i => (cur.getD (i * 3) undef, cur.getD (i * 3 + 1) undef, cur.getD (i * 3 + 2) undef)) hk hs h3 h4 (.inr ⟨g, 0, rfl, fun i hi => ?_⟩) (fun i hi => ?_)
    · obtain ⟨u0, u1, u2, a, b, c, d⟩ := h6 i hi
      rw [Nat.zero_add]
      refine ⟨(hc _ _ a).trans ?_, (hc _ _ b).trans ?_, (hc _ _ c).trans ?_⟩
      · simp [Array.getD_eq_getD_getElem?, a]
      · simp [Array.getD_eq_getD_getElem?, b]
      · simp [Array.getD_eq_getD_getElem?, c]
    · obtain ⟨u0, u1, u2, a, b, c, d⟩ := h6 i hi
      have e : (Value.agg #[cur.getD (i * 3) undef, cur.getD (i * 3 + 1) undef, cur.getD (i * 3 + 2) undef]) = .agg #[u0, u1, u2] := by
        simp [Array.getD_eq_getD_getElem?, a, b, c]
      show TermAt _ (Value.agg #[cur.getD (i * 3) undef, cur.getD (i * 3 + 1) undef, cur.getD (i * 3 + 2) undef]) _
      rw [e]
      exact d.keep (S' := from_ base) fun b hb _ => ⟨decide_eq_true (but_iff.1 hb).1, rfl⟩
/-- What the library's laws on append want of it. -/
theorem TermsRow.owns {w : World} {base : Nat} {v : Value} {L : List T} (h : TermsRow w base v L) : ∃ xs, w.ownsRow base 29 3 v L.length xs ∧
    (∀ i (h : i < L.length), ∃ u0 u1 u2, xs[i * 3]? = some u0 ∧ xs[i * 3 + 1]? = some u1 ∧ xs[i * 3 + 2]? = some u2 ∧ TermIn (but base v.ownBlock) w (.agg #[u0, u1, u2]) L[i]) := by
  rcases h with ⟨rfl, rfl⟩ | ⟨g, cap, rfl, cur, h1, h2, h3, h4, h5, h6⟩
  · exact ⟨[], World.ownsRow_nil _ _ _ _, fun i h => by simp at h⟩
  · refine ⟨cur.toList.take (L.length * 3), ⟨?_, .inr ⟨g, cap, cur, rfl, h5, h1, h3, h4, h2, rfl⟩⟩, fun i hi => ?_⟩
    · have hsz : cur.toList.length = cap * 3 := by simpa using h2
      rw [List.length_take]; exact Nat.min_eq_left (by omega)
    · obtain ⟨u0, u1, u2, a, b, c, d⟩ := h6 i hi
      refine ⟨u0, u1, u2, ?_, ?_, ?_, d⟩
      all_goals rw [List.getElem?_take, if_pos (by omega)]; simpa
/-- Behind an append of one term. -/
theorem TermsRow.snoc {w w' : World} {base g cap H : Nat} {v : Value} {L : List T} {xs : List Value} {u0 u1 u2 : Value} {t : T}
    (hx : ∀ i (h : i < L.length), ∃ u0 u1 u2, xs[i * 3]? = some u0 ∧ xs[i * 3 + 1]? = some u1 ∧ xs[i * 3 + 2]? = some u2 ∧ TermIn (but base v.ownBlock) w (.agg #[u0, u1, u2]) L[i]) (hl : xs.length = L.length * 3)
    (ht : TermIn (but base v.ownBlock) w (.agg #[u0, u1, u2]) t)
    (hown : w'.ownsRow base 29 3 (.slice (some ⟨g, 0, none⟩) (L.length + 1) cap) (L.length + 1) (xs ++ [u0, u1, u2])) (hgrow : w.grownBy w' v.ownBlock) (hat : v.ownBlock = some g ∨ g = H) (hH : w.heap.size = H) :
    TermsRow w' base (.slice (some ⟨g, 0, none⟩) (L.length + 1) cap) (L ++ [t]) := by
  have hgf : ∀ b, but base v.ownBlock b = true → b < w.heap.size → but base (some g) b = true ∧ w'.heap[b]? = w.heap[b]? := fun b hb hbl => by
    obtain ⟨h1, h2⟩ := but_iff.1 hb
    refine ⟨but_iff.2 ⟨h1, fun e => ?_⟩, hgrow.block b hbl (fun e => h2 e.symm)⟩
    injection e with e; subst e
    rcases hat with h | h
    · exact h2 h
    · omega
  obtain ⟨hlen, hc⟩ := hown
  rcases hc with ⟨h, _⟩ | ⟨g', cap', cur, hv', h5, h1, h3, h4, h2, htake⟩
  · cases h
  · simp only [Value.slice.injEq, Option.some.injEq, Addr.mk.injEq, and_true, true_and] at hv'
    obtain ⟨rfl, rfl⟩ := hv'
    have hcur : ∀ j u, (xs ++ [u0, u1, u2])[j]? = some u → cur[j]? = some u := fun j u hu => by
      rw [← htake, List.getElem?_take] at hu
      split at hu
      · simpa using hu
      · cases hu
    refine .inr ⟨g, cap, by rw [List.length_append]; rfl, cur, h1, h2, by rw [List.length_append]; exact h3, h4, h5, fun i hi => ?_⟩
    rcases Nat.lt_or_ge i L.length with g1 | g1
    · obtain ⟨a0, a1, a2, b0, b1, b2, b3⟩ := hx i g1
      refine ⟨a0, a1, a2, hcur _ _ ?_, hcur _ _ ?_, hcur _ _ ?_, ?_⟩
      · rw [List.getElem?_append_left (by omega)]; exact b0
      · rw [List.getElem?_append_left (by omega)]; exact b1
      · rw [List.getElem?_append_left (by omega)]; exact b2
      · rw [List.getElem_append_left g1]; exact b3.keep hgf
    · have hi' : i = L.length := by simp at hi; omega
      subst hi'
      refine ⟨u0, u1, u2, hcur _ _ ?_, hcur _ _ ?_, hcur _ _ ?_, ?_⟩
      · rw [List.getElem?_append_right (by omega), hl]; simp
      · rw [List.getElem?_append_right (by omega), hl]; simp
      · rw [List.getElem?_append_right (by omega), hl]; simp
      · rw [List.getElem_append_right (Nat.le_refl _)]
        simpa using ht.keep hgf
theorem TermIn.one {S : Nat → Bool} {w : World} {a b c : Value} {t : T} (h : TermIn S w (.agg #[a, b, c]) t) : ∀ u ∈ [a, b, c], u.oneCell' = true := by
  obtain ⟨rfl, rfl, A, cap, rfl⟩ := TermAt.view h
  intro u hu
  simp at hu
  rcases hu with rfl | rfl | rfl <;> rfl
theorem TermIn.view {S : Nat → Bool} {w : World} {v : Value} {t : T} (h : TermIn S w v t) : ∃ A cap, v = .agg #[.int .i64 t.kind, .string t.name, .slice A t.kids.length cap] := by
  cases h
  exact ⟨_, _, rfl⟩
theorem Tryz.infoT : (Tryz.prog.info? 29).map (fun i => (i.zero, i.size, i.bytes)) = some (some (.agg #[.int .i64 0, .string ByteArray.empty, .slice none 0 0]), 3, 48) := by kernel_rfl
end Go.Proofs.YtihbmgkbipeakaaGreat

namespace Go.Proofs.YtihbmgkbipeakaaGreat
open Go.RowKit

namespace T
/-- Insertion into a list that lies in reverse. -/
def insR (x : T) : List T → List T
  | [] => [x]
  | y :: r => if cmp x y < 0 then y :: insR x r else x :: y :: r
def isort (l : List T) : List T := (l.foldl (fun acc x => insR x acc) []).reverse
mutual
def norm : T → T
  | .mk k s ks => .mk k s (if k = 7 then isort (normAll ks) else normAll ks)
def normAll : List T → List T
  | [] => []
  | t :: r => norm t :: normAll r
end
theorem normAll_map : ∀ l : List T, normAll l = l.map norm
  | [] => rfl
  | t :: r => by simp only [normAll, List.map_cons, normAll_map r]
theorem bulkAll_append : ∀ l m : List T, bulkAll (l ++ m) = bulkAll l + bulkAll m
  | [], m => by simp [bulkAll]
  | t :: r, m => by simp only [List.cons_append, bulkAll, bulkAll_append r m]; omega
theorem bulkAll_reverse (l : List T) : bulkAll l.reverse = bulkAll l := by
  induction l with
  | nil => rfl
  | cons t r ih => rw [List.reverse_cons, bulkAll_append, ih]; simp only [bulkAll]; omega
theorem bulkAll_insR (x : T) (l : List T) : bulkAll (insR x l) = x.bulk + bulkAll l := by
  induction l with
  | nil => rfl
  | cons t r ih =>
    simp only [insR]
    split
    · simp only [bulkAll, ih]; omega
    · simp only [bulkAll]
theorem length_insR (x : T) (l : List T) : (insR x l).length = l.length + 1 := by
  induction l with
  | nil => rfl
  | cons t r ih =>
    simp only [insR]
    split
    · simp only [List.length_cons, ih]
    · rfl
theorem bulkAll_fold (l : List T) : ∀ acc, bulkAll (l.foldl (fun acc x => insR x acc) acc) = bulkAll acc + bulkAll l := by
  induction l with
  | nil => intro acc; simp [bulkAll]
  | cons t r ih => intro acc; rw [List.foldl_cons, ih, bulkAll_insR]; simp only [bulkAll]; omega
theorem length_fold (l : List T) : ∀ acc : List T, (l.foldl (fun acc x => insR x acc) acc).length = acc.length + l.length := by
  induction l with
  | nil => intro acc; simp
  | cons t r ih => intro acc; rw [List.foldl_cons, ih, length_insR]; simp only [List.length_cons]; omega
theorem bulkAll_isort (l : List T) : bulkAll (isort l) = bulkAll l := by
  unfold isort; rw [bulkAll_reverse, bulkAll_fold]; simp [bulkAll]
theorem length_isort (l : List T) : (isort l).length = l.length := by
  unfold isort; rw [List.length_reverse, length_fold]; simp
mutual
theorem bulk_norm : ∀ t : T, t.norm.bulk = t.bulk
  | .mk k s ks => by
    simp only [norm, bulk]
    split
    · rw [bulkAll_isort, bulk_normAll ks]
    · rw [bulk_normAll ks]
theorem bulk_normAll : ∀ l : List T, bulkAll (normAll l) = bulkAll l
  | [] => rfl
  | t :: r => by simp only [normAll, bulkAll, bulk_norm t, bulk_normAll r]
end
theorem shape_kids {k : Int} {s : ByteArray} {ks : List T} (h : (T.mk k s ks).shape = true) : ∀ i (g : i < ks.length), ks[i].shape = true := by
  intro i g
  by_cases h12 : k = 1 ∨ k = 2
  · rw [shape_atom k s ks h12, Bool.and_eq_true] at h
    have := beq_iff_eq.1 h.2; omega
  · rw [shape_head k s ks (fun e => h12 (.inl e)) (fun e => h12 (.inr e)), Bool.and_eq_true, Bool.not_eq_true'] at h
    have := List.any_eq_false.1 h.2 ks[i] (List.getElem_mem g)
    simpa using this
theorem shape_seven {s : ByteArray} {ks : List T} (h : (T.mk 7 s ks).shape = true) : 1 ≤ ks.length ∧ ks.length ≤ 4 := by
  rw [shape_head 7 s ks (by decide) (by decide), Bool.and_eq_true, Bool.and_eq_true] at h
  rcases headOk_kinds 7 ks with ⟨g, _⟩ | g
  · rw [g] at h; simp at h
  · omega
end T
/-- A block of the three cells of a term, known whole. -/
def Box (w : World) (g : Nat) (a b c : Value) : Prop := w.heap[g]? = some (.cells #[a, b, c] 29 (0, 0))
theorem Box.cells {w : World} {g : Nat} {a b c : Value} (h : Box w g a b c) : w.cell? ⟨g, 0, none⟩ = some a ∧ w.cell? ⟨g, 1, none⟩ = some b ∧ w.cell? ⟨g, 2, none⟩ = some c := by
  unfold Box at h
  refine ⟨?_, ?_, ?_⟩ <;> simp [World.cell?, h]
theorem Box.free {w : World} {g : Nat} {a b c : Value} (h : Box w g a b c) : w.frozen? ⟨g, 0, none⟩ = false ∧ w.frozen? ⟨g, 1, none⟩ = false ∧ w.frozen? ⟨g, 2, none⟩ = false := by
  unfold Box at h
  refine ⟨?_, ?_, ?_⟩ <;> simp [World.frozen?, h]
theorem Box.lt {w : World} {g : Nat} {a b c : Value} (h : Box w g a b c) : g < w.heap.size := (Array.getElem?_eq_some_iff.1 h).1
theorem Box.set2 {w : World} {g : Nat} {a b c : Value} (h : Box w g a b c) (v : Value) : Box (w.setCell ⟨g, 2, none⟩ v) g a b v := by
  unfold Box at *
  simp [World.setCell, Array.getElem?_modify, h]
theorem Box.setOther {w : World} {g : Nat} {a b c : Value} (h : Box w g a b c) {p : Addr} (hp : g ≠ p.block) (v : Value) : Box (w.setCell p v) g a b c := by
  unfold Box at *
  rw [Below.heap_setCell _ _ _ _ hp]; exact h
theorem Box.later {w w' : World} {g : Nat} {a b c : Value} (h : Box w g a b c) (hb : Below w.heap.size w w') : Box w' g a b c := (hb.block g h.lt).trans h
theorem Box.grown {w w' : World} {g : Nat} {a b c : Value} {row : Option Nat} (h : Box w g a b c) (hg : w.grownBy w' row) (hr : row ≠ some g) : Box w' g a b c := (hg.block g h.lt (fun e => hr e.symm)).trans h
theorem Box.new (w : World) (a b c : Value) : Box (w.alloc (.cells #[a, b, c] 29)) w.heap.size a b c := heap_alloc_new w _
theorem box_two (w : World) (a b c a' b' c' : Value) : Box ((w.alloc (.cells #[a, b, c] 29)).alloc (.cells #[a', b', c'] 29)) w.heap.size a b c ∧ Box ((w.alloc (.cells #[a, b, c] 29)).alloc (.cells #[a', b', c'] 29)) (w.heap.size + 1) a' b' c' ∧
    Below w.heap.size w ((w.alloc (.cells #[a, b, c] 29)).alloc (.cells #[a', b', c'] 29)) ∧ ((w.alloc (.cells #[a, b, c] 29)).alloc (.cells #[a', b', c'] 29)).heap.size = w.heap.size + 2 := by
  have hs := size_alloc1 w (.cells #[a, b, c] 29)
  have h2 := Box.new (w.alloc (.cells #[a, b, c] 29)) a' b' c'
  rw [hs] at h2
  exact ⟨(Box.new w a b c).later (below_alloc1 _ _), h2, (below_alloc1 _ _).trans ((below_alloc1 _ _).mono (by rw [hs]; omega)), by rw [size_alloc1, hs]⟩
theorem own_later {w w' : World} {base : Nat} {e : TypeId} {size n : Nat} {v : Value} {xs : List Value} (h : w.ownsRow base e size v n xs) (hb : Below w.heap.size w w') : w'.ownsRow base e size v n xs :=
  h.kept (row := none) ⟨hb.os, hb.tape, hb.output, hb.size, fun k hk _ => hb.block k hk⟩ (by cases v.ownBlock <;> simp)
theorem below_undrew {w w' : World} (h : Below w.drew.heap.size w.drew w') : Below w.heap.size w w' := ⟨h.os, h.tape, h.output, h.size, h.block⟩
/-- A term is returned that lies in new memory. -/
def RetT (t : T) (w : World) (e : Ending) (w' : World) : Prop := ∃ A cap, e = .returned (.agg #[.int .i64 t.kind, .string t.name, .slice A t.kids.length cap]) ∧
  TermIn (from_ w.heap.size) w' (.agg #[.int .i64 t.kind, .string t.name, .slice A t.kids.length cap]) t ∧ Below w.heap.size w w'
/-- Three stores into the block of a result. -/
theorem box_set3 {w : World} {g : Nat} {a b c : Value} (h : Box w g a b c) (x y z : Value) : Box (((w.setCell ⟨g, 0, none⟩ x).setCell ⟨g, 1, none⟩ y).setCell ⟨g, 2, none⟩ z) g x y z := by
  unfold Box at *
  simp [World.setCell, Array.getElem?_modify, h]
theorem set3_other (w : World) (g : Nat) (x y z : Value) (k : Nat) (hk : k ≠ g) : (((w.setCell ⟨g, 0, none⟩ x).setCell ⟨g, 1, none⟩ y).setCell ⟨g, 2, none⟩ z).heap[k]? = w.heap[k]? := by
  rw [Below.heap_setCell _ _ _ _ hk, Below.heap_setCell _ _ _ _ hk, Below.heap_setCell _ _ _ _ hk]
theorem ret_set3 {t : T} {w wr : World} {A : Option Addr} {cap g : Nat} (x y z : Value) (hbw : Below w.heap.size w wr) (hg : w.heap.size ≤ g)
    (hx : x = .int .i64 t.kind) (hy : y = .string t.name) (hz : z = .slice A t.kids.length cap) (h : TermIn (from_ (g + 1)) wr (.agg #[x, y, z]) t) :
    RetT t w (.returned (.agg #[x, y, z])) (((wr.setCell ⟨g, 0, none⟩ x).setCell ⟨g, 1, none⟩ y).setCell ⟨g, 2, none⟩ z) := by
  subst hx; subst hy; subst hz
  refine ⟨A, cap, rfl, h.keep fun b hb _ => ?_, ((hbw.setCell hg _).setCell hg _).setCell hg _⟩
  have := of_decide_eq_true hb
  exact ⟨decide_eq_true (by omega), set3_other _ _ _ _ _ _ (by omega)⟩
theorem grownBy_trans {w w' w'' : World} {row : Option Nat} (h : w.grownBy w' row) (k : w'.grownBy w'' row) : w.grownBy w'' row :=
  ⟨k.os.trans h.os, k.tape.trans h.tape, k.output.trans h.output, Nat.le_trans h.size k.size, fun i hi hn => (k.block i (Nat.lt_of_lt_of_le hi h.size) hn).trans (h.block i hi hn)⟩
theorem grownBy_of_below {w w' : World} (row : Option Nat) (h : Below w.heap.size w w') : w.grownBy w' row := ⟨h.os, h.tape, h.output, h.size, fun k hk _ => h.block k hk⟩
end Go.Proofs.YtihbmgkbipeakaaGreat
