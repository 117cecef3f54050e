/- Chapter 40: the order of terms of any size: the walks of Size, of both Compares and of the law, without a bound on the terms. -/
import Derived.Test.YtlecmcfmaneejaaTermAwake
import Derived.Test.YtlecmcfmaneejaaTermCmpP
import Derived.Test.YtlecmcfmaneejaaTermAnti
import Derived.Deep.RegionHeld3
namespace Go.Proofs.Ytlecmcfmaneejaa
open Go.RowKit Go.ChangeShapes Go.WideShapes

set_option maxRecDepth 100000 in
set_option maxHeartbeats 1000000 in
theorem rsize_any : ∀ (N : Nat) (t : T) (v : Value) (w : World), t.bulk < N → TermAt w v t →
    Calls Try.prog 13 #[v] w fun e w' => (∃ z : Int, e = .returned (.int .i64 z)) ∧ Below w.heap.size w w' := by
  intro N
  induction N with
  | zero => intro t v w h; omega
  | succ N ih =>
    intro t v w hN ht
    cases ht with
    | mk k s A cap ks U h1 h2 h3 h4 hA hU =>
      simp only [T.bulk] at hN
      have hbx := boxed_new w (.int .i64 k) (.string s) (.slice A ks.length cap) 24
      have hb1 := (Below.refl w.heap.size w).alloc (Nat.le_refl _) (.cells #[.int .i64 k, .string s, .slice A ks.length cap] 24)
      go_enter Try.func13, Try.ntmps13
      go_wp2_with fail
      have hsz : w.heap.size < (w.alloc (.cells #[.int .i64 k, .string s, .slice A ks.length cap] 24)).heap.size := by show _ < (w.heap.push _).size; rw [Array.size_push]; omega
      generalize w.alloc (.cells #[.int .i64 k, .string s, .slice A ks.length cap] 24) = w1 at hbx hb1 hsz ⊢
      have hkn : ks.length ≤ 9223372036854775807 := by have := Nat.le_trans h3 h4; unfold maxLen at this; omega
      go_loopw [3, 4] (fun sm i wr => ∃ j : Nat, j ≤ ks.length ∧ i = .int .i64 j ∧ (∃ z : Int, sm = .int .i64 z) ∧ Below w1.heap.size w1 wr) (fun _ i _ => ks.length - (intOf i).toNat)
      case atStart => exact ⟨0, Nat.zero_le _, rfl, ⟨_, rfl⟩, Below.refl _ _⟩
      case round =>
        obtain ⟨j, hj, rfl, ⟨z, rfl⟩, hbl⟩ := hrel
        obtain ⟨x0, x1, x2⟩ := hbx.later hbl
        by_cases hlt : j < ks.length
        · rcases hA with hA | ⟨b, off, rfl, hcell⟩
          · omega
          obtain ⟨d0, d1, d2⟩ := hcell j hlt
          have hu := hU j hlt
          have hbw := hb1.trans (hbl.mono hb1.size)
          have e0 := cell_later hbw d0; have e1 := cell_later hbw d1; have e2 := cell_later hbw d2
          clear d0 d1 d2
          generalize (U j).1 = u0 at *
          generalize (U j).2.1 = u1 at *
          generalize (U j).2.2 = u2 at *
          have hlt' : (j : Int) < (ks.length : Int) := by omega
          have hkb := T.bulk_at ks j hlt
          have hb2 : ks[j].bulk < N := by omega
          have hu' := hu.later hbw
          have HLT := Lib.hid hlt
          clear hkb
          go_wp2_with fail
          refine (ih _ _ _ hb2 hu').mono ?_; rintro e w2 ⟨⟨z', rfl⟩, hb4⟩
          go_wp2_with fail
          go_roundw
          case rel => exact ⟨j + 1, HLT.out, by go_num, ⟨_, rfl⟩, hbl.trans (hb4.mono hbl.size)⟩
          case measure => have := HLT.out; simp [intOf]; omega
        · obtain rfl : j = ks.length := by omega
          go_wp2_with fail
          go_ret
          exact ⟨⟨_, rfl⟩, hb1.trans (hbl.mono hb1.size)⟩
set_option maxRecDepth 100000 in
set_option maxHeartbeats 2000000 in
theorem rcmp_any : ∀ (N : Nat) (t t' : T) (v v' : Value) (w : World), t.bulk < N → TermAt w v t → TermAt w v' t' →
    Calls Try.prog 22 #[v, v'] w fun e w' => e = .returned (.int .i64 (t.cmp t')) ∧ Below w.heap.size w w' := by
  intro N
  induction N with
  | zero => intro t t' v v' w h; omega
  | succ N ih =>
    intro t t' v v' w hN ht ht'
    cases ht with
    | mk k s A cap ks U h1 h2 h3 h4 hA hU =>
    cases ht' with
    | mk k' s' A' cap' ks' U' h1' h2' h3' h4' hA' hU' =>
      simp only [T.bulk] at hN
      have hkn : ks.length ≤ 9223372036854775807 := by have := Nat.le_trans h3 h4; unfold maxLen at this; omega
      have hkn' : ks'.length ≤ 9223372036854775807 := by have := Nat.le_trans h3' h4'; unfold maxLen at this; omega
      have hcmp : (T.mk k s ks).cmp (.mk k' s' ks') = if k < k' then -1 else if k' < k then 1 else if T.less s s' = true then -1 else if (s.toList == s'.toList) = false then 1 else T.cmpAll ks ks' := rfl
      obtain ⟨R, hR⟩ : ∃ R, (T.mk k s ks).cmp (.mk k' s' ks') = R := ⟨_, rfl⟩
      rw [hR] at hcmp ⊢
      clear hR
      obtain ⟨hbx, hbx', hb1⟩ := boxed_two w (.int .i64 k) (.string s) (.slice A ks.length cap) (.int .i64 k') (.string s') (.slice A' ks'.length cap') 24
      go_enter Try.func22, Try.ntmps22
      go_upto_region 1 with fail
      generalize (w.alloc (.cells #[.int .i64 k, .string s, .slice A ks.length cap] 24)).alloc (.cells #[.int .i64 k', .string s', .slice A' ks'.length cap'] 24) = w1 at hbx hbx' hb1 ⊢
      obtain ⟨x0, x1, x2⟩ := hbx
      obtain ⟨y0, y1, y2⟩ := hbx'
      by_cases g1 : k < k'
      · rw [if_pos g1] at hcmp; subst hcmp
        go_wp2_with fail
        go_ret
        exact ⟨rfl, hb1⟩
      rw [if_neg g1] at hcmp
      by_cases g2 : k' < k
      · rw [if_pos g2] at hcmp; subst hcmp
        go_wp2_with fail
        go_ret
        exact ⟨rfl, hb1⟩
      rw [if_neg g2] at hcmp
      rcases Bool.eq_false_or_eq_true (T.less s s') with g3 | g3
      · rw [if_pos g3] at hcmp; subst hcmp
        unfold T.less at g3
        go_wp2_with fail
        go_ret
        exact ⟨rfl, hb1⟩
      rw [if_neg (by rw [g3]; decide)] at hcmp
      rcases Bool.eq_false_or_eq_true (s.toList == s'.toList) with g4 | g4
      rotate_left
      · rw [if_pos g4] at hcmp; subst hcmp
        unfold T.less at g3
        go_wp2_with fail
        go_ret
        exact ⟨rfl, hb1⟩
      rw [if_neg (by rw [g4]; decide)] at hcmp
      unfold T.less at g3
      subst hcmp
      go_wp2_with fail
      clear g1 g2 g3 g4
      go_loopw [5] (fun i wr => ∃ j : Nat, j ≤ ks.length ∧ j ≤ ks'.length ∧ i = .int .i64 j ∧ (∀ m (h : m < j) (h1 : m < ks.length) (h2 : m < ks'.length), T.cmp ks[m] ks'[m] = 0) ∧ Below w1.heap.size w1 wr) (fun i _ => ks.length - (intOf i).toNat)
      case atStart => exact ⟨0, Nat.zero_le _, Nat.zero_le _, rfl, fun m h => absurd h (by omega), Below.refl _ _⟩
      case round =>
        obtain ⟨j, hj, hj', rfl, hz, hbl⟩ := hrel
        have HZ := Lib.hid hz; clear hz
        have z2 := cell_later hbl x2
        have v2 := cell_later hbl y2
        by_cases hlt : j < ks.length
        · by_cases hlt' : j < ks'.length
          · have hbw := hb1.trans (hbl.mono hb1.size)
            obtain ⟨b, off, B1, C1, rfl, d0, d1, d2, hu⟩ := TermAt.cells hlt hA hU
            obtain ⟨b', off', B1', C1', rfl, d0', d1', d2', hu'⟩ := TermAt.cells hlt' hA' hU'
            have e0 := cell_later hbw d0; have e1 := cell_later hbw d1; have e2 := cell_later hbw d2
            have e0' := cell_later hbw d0'; have e1' := cell_later hbw d1'; have e2' := cell_later hbw d2'
            clear d0 d1 d2 d0' d1' d2'
            have hi : (j : Int) < (ks.length : Int) := by omega
            have hi' : (j : Int) < (ks'.length : Int) := by omega
            have hb2 : ks[j].bulk < N := by have := T.bulk_at ks j hlt; omega
            have HU := Lib.hid (hu.later hbw); have HU' := Lib.hid (hu'.later hbw)
            have HLT := Lib.hid hlt; have HLT' := Lib.hid hlt'
            have hvals := T.cmp_vals ks[j] ks'[j]
            have hat := fun hn => T.cmpAll_at ks ks' j hlt hlt' (fun m g => HZ.out m g (by omega) (by omega)) hn
            have HAT := Lib.hid hat; clear hat hu hu'
            have hc := ih ks[j] ks'[j] (.agg #[.int .i64 ks[j].kind, .string ks[j].name, .slice B1 ks[j].kids.length C1]) (.agg #[.int .i64 ks'[j].kind, .string ks'[j].name, .slice B1' ks'[j].kids.length C1'])
            have HC := Lib.hid hc; clear hc
            obtain ⟨c, hcv⟩ : ∃ c, T.cmp ks[j] ks'[j] = c := ⟨_, rfl⟩
            rw [hcv] at hvals
            have HCV := Lib.hid hcv; clear hcv
            go_wp2_with fail
            have hbq := hbl.drew
            have huq := TermAt.drew HU.out
            have huq' := TermAt.drew HU'.out
            go_still_tail 10, (by kernel_rfl)
            change wpList _ _ _ _ _ wr.drew
            generalize wr.drew = wq at hbq huq huq' ⊢
            have HUQ := Lib.hid huq; have HUQ' := Lib.hid huq'
            clear huq huq' HU HU' e0 e1 e2 e0' e1' e2' z2 v2 hbl
            go_wp2_with fail
            refine (HC.out _ hb2 HUQ.out HUQ'.out).mono ?_; rintro e w2 ⟨rfl, hb4⟩
            rw [HCV.out]
            replace hb4 := hbq.trans (hb4.mono hbq.size)
            by_cases hc0 : c = 0
            · subst hc0
              go_wp2_with fail
              go_roundw
              case rel =>
                refine ⟨j + 1, HLT.out, HLT'.out, by go_num, fun m h g1 g2 => ?_, hb4⟩
                rcases Nat.lt_or_ge m j with g | g
                · exact HZ.out m g g1 g2
                · obtain rfl : m = j := by omega
                  exact HCV.out
              case measure => have := HLT.out; simp [intOf]; omega
            · have hne : (c != 0) = true := by rw [bne_iff_ne]; exact hc0
              have HR := Lib.hid (HAT.out (fun h => hc0 (HCV.out.symm.trans h)))
              go_wp2_with fail
              go_ret
              exact ⟨ret_i64 (HCV.out.symm.trans HR.out.symm), hb1.trans (hb4.mono hb1.size)⟩
          · have hi : (j : Int) < (ks.length : Int) := by omega
            have hi' : (ks'.length : Int) ≤ (j : Int) := by omega
            have hl : T.cmpAll ks ks' = 1 := by rw [T.cmpAll_len ks ks' (fun m g1 g2 => HZ.out m (by omega) g1 g2), if_neg (by omega), if_pos (by omega)]
            have HL := Lib.hid hl; clear hl
            have q1 : (ks'.length : Int) < (ks.length : Int) := by omega
            go_wp2_with fail
            go_ret
            exact ⟨ret_i64 HL.out.symm, hb1.trans (hbl.mono hb1.size)⟩
        · have hi : (ks.length : Int) ≤ (j : Int) := by omega
          have hl := T.cmpAll_len ks ks' (fun m g1 g2 => HZ.out m (by omega) g1 g2)
          by_cases g1 : ks.length < ks'.length
          · rw [if_pos g1] at hl
            have HL := Lib.hid hl; clear hl
            have q1 : (ks.length : Int) < (ks'.length : Int) := by omega
            go_wp2_with fail
            go_ret
            exact ⟨ret_i64 HL.out.symm, hb1.trans (hbl.mono hb1.size)⟩
          · rw [if_neg g1, if_neg (by omega)] at hl
            have HL := Lib.hid hl; clear hl
            have q1 : (ks'.length : Int) ≤ (ks.length : Int) := by omega
            have q2 : (ks.length : Int) ≤ (ks'.length : Int) := by omega
            go_wp2_with fail
            go_ret
            exact ⟨ret_i64 HL.out.symm, hb1.trans (hbl.mono hb1.size)⟩
set_option maxRecDepth 100000 in
set_option maxHeartbeats 2000000 in
/-- slices.CompareFunc over two lists of kids, given what Compare says of each pair. -/
theorem cmp_func_any (A A' : Option Addr) (cap cap' : Nat) (ks ks' : List T) (U U' : Nat → Value × Value × Value) (w : World) (hkn : ks.length ≤ 9223372036854775807) (_hkn' : ks'.length ≤ 9223372036854775807)
    (hA : ks.length = 0 ∨ ∃ b off, A = some ⟨b, off, none⟩ ∧ ∀ i, i < ks.length → w.cell? ⟨b, off + i * 3, none⟩ = some (U i).1 ∧ w.cell? ⟨b, off + i * 3 + 1, none⟩ = some (U i).2.1 ∧ w.cell? ⟨b, off + i * 3 + 2, none⟩ = some (U i).2.2)
    (hU : ∀ i (h : i < ks.length), TermAt w (.agg #[(U i).1, (U i).2.1, (U i).2.2]) ks[i])
    (hA' : ks'.length = 0 ∨ ∃ b off, A' = some ⟨b, off, none⟩ ∧ ∀ i, i < ks'.length → w.cell? ⟨b, off + i * 3, none⟩ = some (U' i).1 ∧ w.cell? ⟨b, off + i * 3 + 1, none⟩ = some (U' i).2.1 ∧ w.cell? ⟨b, off + i * 3 + 2, none⟩ = some (U' i).2.2)
    (hU' : ∀ i (h : i < ks'.length), TermAt w (.agg #[(U' i).1, (U' i).2.1, (U' i).2.2]) ks'[i])
    (hC : ∀ j (h : j < ks.length) (h' : j < ks'.length) (v v' : Value) (W : World), TermAt W v ks[j] → TermAt W v' ks'[j] → Calls Try.prog 21 #[v, v'] W fun e w' => e = .returned (.int .i64 (T.cmp ks[j] ks'[j])) ∧ Below W.heap.size W w') :
    Calls Try.prog 41 #[.slice A ks.length cap, .slice A' ks'.length cap', .func (.func 21) #[] #[]] w fun e w' =>
      e = .returned (.int .i64 (T.cmpAll ks ks')) ∧ Below w.heap.size w w' := by
  have HC := Lib.hid hC; clear hC
  go_enter Try.func41, Try.ntmps41
  go_wp2_with fail
  go_loopw [13] (fun i wr => ∃ j : Nat, j ≤ ks.length ∧ j ≤ ks'.length ∧ i = .int .i64 j ∧ (∀ m (h : m < j) (h1 : m < ks.length) (h2 : m < ks'.length), T.cmp ks[m] ks'[m] = 0) ∧ Below w.heap.size w wr) (fun i _ => ks.length - (intOf i).toNat)
  case atStart => exact ⟨0, Nat.zero_le _, Nat.zero_le _, rfl, fun m h => absurd h (by omega), Below.refl _ _⟩
  case round =>
    obtain ⟨j, hj, hj', rfl, hz, hbl⟩ := hrel
    have HZ := Lib.hid hz; clear hz
    by_cases hlt : j < ks.length
    · obtain ⟨b, off, B1, C1, rfl, d0, d1, d2, hu⟩ := TermAt.cells hlt hA hU
      have e0 := cell_later hbl d0; have e1 := cell_later hbl d1; have e2 := cell_later hbl d2
      have hi : (j : Int) < (ks.length : Int) := by omega
      clear d0 d1 d2
      by_cases hlt' : j < ks'.length
      · obtain ⟨b', off', B1', C1', rfl, d0', d1', d2', hu'⟩ := TermAt.cells hlt' hA' hU'
        have e0' := cell_later hbl d0'; have e1' := cell_later hbl d1'; have e2' := cell_later hbl d2'
        clear d0' d1' d2'
        have hi' : (j : Int) < (ks'.length : Int) := by omega
        have f0 := cell_later ((Below.refl wr.heap.size wr).alloc (Nat.le_refl _) (.cells #[.int .i64 ks[j].kind, .string ks[j].name, .slice B1 ks[j].kids.length C1] 24)) e0'
        have f1 := cell_later ((Below.refl wr.heap.size wr).alloc (Nat.le_refl _) (.cells #[.int .i64 ks[j].kind, .string ks[j].name, .slice B1 ks[j].kids.length C1] 24)) e1'
        have f2 := cell_later ((Below.refl wr.heap.size wr).alloc (Nat.le_refl _) (.cells #[.int .i64 ks[j].kind, .string ks[j].name, .slice B1 ks[j].kids.length C1] 24)) e2'
        have hb2 := (boxed_two wr (.int .i64 ks[j].kind) (.string ks[j].name) (.slice B1 ks[j].kids.length C1) (.int .i64 ks'[j].kind) (.string ks'[j].name) (.slice B1' ks'[j].kids.length C1') 24).2.2
        have HU := Lib.hid ((hu.later hbl).later hb2); have HU' := Lib.hid ((hu'.later hbl).later hb2)
        have HLT := Lib.hid hlt; have HLT' := Lib.hid hlt'
        have HAT := Lib.hid (fun hn => T.cmpAll_at ks ks' j hlt hlt' (fun m g => HZ.out m g (by omega) (by omega)) hn)
        obtain ⟨c, hcv⟩ : ∃ c, T.cmp ks[j] ks'[j] = c := ⟨_, rfl⟩
        have HCV := Lib.hid hcv
        have hc := HC.out j hlt hlt'
        have HC' := Lib.hid hc
        clear hcv hc hu hu'
        go_wp2_with fail
        refine (HC'.out _ _ _ HU.out HU'.out).mono ?_; rintro e w2 ⟨he, hb4⟩
        have he' : e = .returned (.int .i64 c) := he.trans (ret_i64 HCV.out)
        clear he; subst he'
        replace hb4 := hbl.trans ((hb2.trans (hb4.mono hb2.size)).mono hbl.size)
        clear f0 f1 f2 e0 e1 e2 e0' e1' e2'
        by_cases hc0 : c = 0
        · subst hc0
          go_wp2_with fail
          go_roundw
          case rel =>
            refine ⟨j + 1, HLT.out, HLT'.out, by go_num, fun m h g1 g2 => ?_, hb4⟩
            rcases Nat.lt_or_ge m j with g | g
            · exact HZ.out m g g1 g2
            · obtain rfl : m = j := by omega
              exact HCV.out
          case measure => have := HLT.out; simp [intOf]; omega
        · have hne : (c != 0) = true := by rw [bne_iff_ne]; exact hc0
          have HR := Lib.hid (HAT.out (fun h => hc0 (HCV.out.symm.trans h)))
          go_wp2_with fail
          go_ret
          exact ⟨ret_i64 (HCV.out.symm.trans HR.out.symm), hb4⟩
      · have hi' : (ks'.length : Int) ≤ (j : Int) := by omega
        have HL := Lib.hid (show T.cmpAll ks ks' = 1 by rw [T.cmpAll_len ks ks' (fun m g1 g2 => HZ.out m (by omega) g1 g2), if_neg (by omega), if_pos (by omega)])
        have hu1 := Lib.hid hu
        clear hu
        go_wp2_with fail
        go_ret
        exact ⟨ret_i64 HL.out.symm, hbl.alloc hbl.size _⟩
    · have hi : (ks.length : Int) ≤ (j : Int) := by omega
      have hl := T.cmpAll_len ks ks' (fun m g1 g2 => HZ.out m (by omega) g1 g2)
      by_cases g1 : ks.length < ks'.length
      · rw [if_pos g1] at hl
        have HL := Lib.hid hl; clear hl
        have q1 : (ks.length : Int) < (ks'.length : Int) := by omega
        go_wp2_with fail
        go_ret
        exact ⟨ret_i64 HL.out.symm, hbl⟩
      · rw [if_neg g1, if_neg (by omega)] at hl
        have HL := Lib.hid hl; clear hl
        have q1 : (ks'.length : Int) ≤ (ks.length : Int) := by omega
        go_wp2_with fail
        go_ret
        exact ⟨ret_i64 HL.out.symm, hbl⟩
set_option maxRecDepth 100000 in
set_option maxHeartbeats 4000000 in
theorem ocmp_any : ∀ (N : Nat) (t t' : T) (v v' : Value) (w : World), t.bulk < N → TermAt w v t → TermAt w v' t' →
    Calls Try.prog 21 #[v, v'] w fun e w' => e = .returned (.int .i64 (t.cmp t')) ∧ Below w.heap.size w w' := by
  intro N
  induction N with
  | zero => intro t t' v v' w h; omega
  | succ N ih =>
    intro t t' v v' w hN ht ht'
    cases ht with
    | mk k s A cap ks U h1 h2 h3 h4 hA hU =>
    cases ht' with
    | mk k' s' A' cap' ks' U' h1' h2' h3' h4' hA' hU' =>
      simp only [T.bulk] at hN
      have hkn : ks.length ≤ 9223372036854775807 := by have := Nat.le_trans h3 h4; unfold maxLen at this; omega
      have hkn' : ks'.length ≤ 9223372036854775807 := by have := Nat.le_trans h3' h4'; unfold maxLen at this; omega
      rw [T.cmp_or3]
      obtain ⟨hbx, hbx', hb1⟩ := boxed_two w (.int .i64 k) (.string s) (.slice A ks.length cap) (.int .i64 k') (.string s') (.slice A' ks'.length cap') 24
      have ht := TermAt.mk k s A cap ks U h1 h2 h3 h4 hA hU
      go_enter Try.func21, Try.ntmps21
      go_upto_region 1 with fail
      generalize (w.alloc (.cells #[.int .i64 k, .string s, .slice A ks.length cap] 24)).alloc (.cells #[.int .i64 k', .string s', .slice A' ks'.length cap'] 24) = w1 at hbx hbx' hb1 ⊢
      obtain ⟨x0, x1, x2⟩ := hbx
      obtain ⟨y0, y1, y2⟩ := hbx'
      have bA := Lib.hid hA; have bU := Lib.hid hU; have bA' := Lib.hid hA'; have bU' := Lib.hid hU'
      have hF : ∀ W, Below w1.heap.size w1 W → Calls Try.prog 41 #[.slice A ks.length cap, .slice A' ks'.length cap', .func (.func 21) #[] #[]] W fun e w' =>
          e = .returned (.int .i64 (T.cmpAll ks ks')) ∧ Below W.heap.size W w' := fun W hW => by
        have hWw := hb1.trans (hW.mono hb1.size)
        refine cmp_func_any A A' cap cap' ks ks' U U' W hkn hkn' ?_ (fun i h => (hU i h).later hWw) ?_ (fun i h => (hU' i h).later hWw) ?_
        · rcases hA with h | ⟨b, off, e, hc⟩
          · exact .inl h
          · exact .inr ⟨b, off, e, fun i hi => by obtain ⟨c0, c1, c2⟩ := hc i hi; exact ⟨cell_later hWw c0, cell_later hWw c1, cell_later hWw c2⟩⟩
        · rcases hA' with h | ⟨b, off, e, hc⟩
          · exact .inl h
          · exact .inr ⟨b, off, e, fun i hi => by obtain ⟨c0, c1, c2⟩ := hc i hi; exact ⟨cell_later hWw c0, cell_later hWw c1, cell_later hWw c2⟩⟩
        · intro j h h' v v' W' hv hv'
          have := T.bulk_at ks j h
          exact ih _ _ _ _ _ (by omega) hv hv'
      have HF := Lib.hid hF
      clear hA hU hA' hU' ht hF
      go_region_held3 (fun W => W.cell? ⟨w.heap.size, 0, none⟩ = some (.int .i64 k) ∧ W.cell? ⟨w.heap.size, 1, none⟩ = some (.string s) ∧ W.cell? ⟨w.heap.size, 2, none⟩ = some (.slice A ks.length cap) ∧ W.cell? ⟨w.heap.size + 1, 0, none⟩ = some (.int .i64 k') ∧ W.cell? ⟨w.heap.size + 1, 1, none⟩ = some (.string s') ∧ W.cell? ⟨w.heap.size + 1, 2, none⟩ = some (.slice A' ks'.length cap') ∧ Below w1.heap.size w1 W)
        (first | exact ⟨x0, x1, x2, y0, y1, y2, Below.refl _ _⟩ | exact ⟨x0, x1, x2, y0, y1, y2, (Below.refl _ _).drew⟩ | exact six_later (by assumption) hb4 | exact six_later (by assumption) ((Below.refl _ _).alloc (Nat.le_refl _) _) | go_keep)
        (first | (go_at_call 39; refine (cmp_int _ _ _).mono ?_; rintro e w' ⟨rfl, rfl⟩) | (go_at_call 40; refine (cmp_str _ _ _).mono ?_; rintro e w' ⟨rfl, rfl⟩) | (go_at_call 41; refine (HF.out _ (by first | assumption | exact Below.refl _ _ | exact (Below.refl _ _).drew)).mono ?_; rintro e w2 ⟨rfl, hb4⟩) | (go_at_call 38; refine (cmp_or _ _ _ _ _ _ (boxed_new _ _ _ _ _).1 (boxed_new _ _ _ _ _).2.1 (boxed_new _ _ _ _ _).2.2).mono ?_; rintro e w' ⟨rfl, rfl⟩))
      all_goals
        rename_i hS
        have hb5 := hS.2.2.2.2.2.2
        clear hS x0 x1 x2 y0 y1 y2
        go_wp2_with fail
        go_ret
        exact ⟨rfl, hb1.trans (hb5.mono hb1.size)⟩
/-- Is a term small enough. -/
theorem light_any (t : T) (v : Value) (w : World) (ht : TermAt w v t) :
    Calls Try.prog 8 #[v] w fun e w' => (∃ q, e = .returned (.bool q)) ∧ Below w.heap.size w w' := by
  have HZ := Lib.hid (fun W hW => rsize_any (t.bulk + 1) t v W (by omega) hW)
  cases ht with
  | mk k s A cap ks U h1 h2 h3 h4 hA hU =>
  have ht := TermAt.mk k s A cap ks U h1 h2 h3 h4 hA hU
  go_enter Try.func8, Try.ntmps8
  go_upto_region 1 with fail
  have bx := Box.new w (.int .i64 k) (.string s) (.slice A ks.length cap)
  have hw := below_alloc1 w (.cells #[.int .i64 k, .string s, .slice A ks.length cap] 24)
  have HT := Lib.hid (ht.later hw); have HW := Lib.hid hw
  clear ht hA hU hw
  generalize w.alloc (.cells #[.int .i64 k, .string s, .slice A ks.length cap] 24) = w1 at bx HT HW ⊢
  obtain ⟨x0, x1, x2⟩ := bx.cells
  go_wp2_with fail
  refine (HZ.out _ HT.out).mono ?_; rintro e w2 ⟨⟨z, rfl⟩, hb2⟩
  have HB := Lib.hid (HW.out.trans (hb2.mono HW.out.size))
  clear hb2
  go_wp2_with fail
  go_ret
  exact ⟨⟨_, rfl⟩, HB.out⟩
theorem open_term {H : Type} {enc : TypeId × Value → H} {w : World} {b0 : Nat} {v : Value} {d : DataW H} {p : List MemPlace} {r : Reach}
    (hv : Value.okWide Try.prog w r b0 24 v) (h : DataW.Trod enc Try.prog w 0 (fun _ => true) true 24 v d p) : ∃ t, TermAt w v t ∧ t.bulk ≤ Rows.uptoBulk d := by
  obtain ⟨cs, rfl, _⟩ := okWide_struct Try.underlying24 hv
  obtain ⟨fuel, hf⟩ := h
  have := open_cells _ fuel cs.toList d p (Nat.lt_succ_self _) (by simpa [Value.cells] using hf)
  simpa using this
theorem compares_later {w1 W W2 : World} {p0 p1 p2 p3 p4 p5 : Addr} {v0 v1 v2 v3 v4 v5 : Value} {a b : Value} {ta tb : T} (h : W.cell? p0 = some v0 ∧ W.cell? p1 = some v1 ∧ W.cell? p2 = some v2 ∧ W.cell? p3 = some v3 ∧ W.cell? p4 = some v4 ∧ W.cell? p5 = some v5 ∧ TermAt W a ta ∧ TermAt W b tb ∧ Below w1.heap.size w1 W)
    (hb : Below W.heap.size W W2) : W2.cell? p0 = some v0 ∧ W2.cell? p1 = some v1 ∧ W2.cell? p2 = some v2 ∧ W2.cell? p3 = some v3 ∧ W2.cell? p4 = some v4 ∧ W2.cell? p5 = some v5 ∧ TermAt W2 a ta ∧ TermAt W2 b tb ∧ Below w1.heap.size w1 W2 := by
  obtain ⟨h0, h1, h2, h3, h4, h5, h6, h7, h8⟩ := h
  exact ⟨cell_later hb h0, cell_later hb h1, cell_later hb h2, cell_later hb h3, cell_later hb h4, cell_later hb h5, h6.later hb, h7.later hb, h8.trans (hb.mono h8.size)⟩

set_option maxRecDepth 100000 in
set_option maxHeartbeats 8000000 in
theorem terms_compares (t t' : T) (v v' : Value) (w : World) (ht : TermAt w v t) (ht' : TermAt w v' t') :
    Calls Try.prog 4 #[v, v'] w fun e w' => e = .returned (.bool true) ∧ Below w.heap.size w w' := by
  have HL := Lib.hid (fun W hW => light_any t v W hW); have HL' := Lib.hid (fun W hW => light_any t' v' W hW)
  have HC := Lib.hid (fun (x y : T) (vx vy : Value) (W : World) (hx : TermAt W vx x) (hy : TermAt W vy y) => ocmp_any (x.bulk + 1) x y vx vy W (by omega) hx hy)
  have HR := Lib.hid (fun (x y : T) (vx vy : Value) (W : World) (hx : TermAt W vx x) (hy : TermAt W vy y) => rcmp_any (x.bulk + 1) x y vx vy W (by omega) hx hy)
  have hrg : -1 ≤ T.cmp t t' ∧ T.cmp t t' ≤ 1 := by rcases T.cmp_vals t t' with h | h | h <;> omega
  have n3 : T.cmp t' t = -T.cmp t t' := T.cmp_anti t t'
  generalize T.cmp = C at HC HR hrg n3
  cases ht with
  | mk k s A cap ks U h1 h2 h3 h4 hA hU =>
  cases ht' with
  | mk k' s' A' cap' ks' U' h1' h2' h3' h4' hA' hU' =>
  obtain ⟨hbx, hbx', hb1⟩ := boxed_two w (.int .i64 k) (.string s) (.slice A ks.length cap) (.int .i64 k') (.string s') (.slice A' ks'.length cap') 24
  have HT := Lib.hid ((TermAt.mk k s A cap ks U h1 h2 h3 h4 hA hU).later hb1)
  have HT' := Lib.hid ((TermAt.mk k' s' A' cap' ks' U' h1' h2' h3' h4' hA' hU').later hb1)
  clear hA hU hA' hU'
  go_enter Try.func4, Try.ntmps4
  go_upto_region 1 with fail
  generalize (w.alloc (.cells #[.int .i64 k, .string s, .slice A ks.length cap] 24)).alloc (.cells #[.int .i64 k', .string s', .slice A' ks'.length cap'] 24) = w1 at hbx hbx' hb1 HT HT' ⊢
  have HA0 := Lib.hid hbx; have HB0 := Lib.hid hbx'; have HW := Lib.hid hb1
  clear hbx hbx' hb1
  obtain ⟨x0, x1, x2⟩ := HA0.out
  go_wp2_with fail
  refine (HL.out _ HT.out).mono ?_; rintro e w2 ⟨⟨q, rfl⟩, hb2⟩
  have HA2 := Lib.hid (HA0.out.later hb2); have HB2 := Lib.hid (HB0.out.later hb2); have HT2 := Lib.hid (HT.out.later hb2); have HT2' := Lib.hid (HT'.out.later hb2); have HW2 := Lib.hid (HW.out.trans (hb2.mono HW.out.size))
  clear hb2 x0 x1 x2
  cases q
  · go_wp2_with fail
    refine (awake _).mono ?_; rintro e w3 ⟨rfl, hb⟩
    have HB := Lib.hid (HW2.out.trans (hb.mono HW2.out.size))
    clear hb
    go_wp2_with fail
    go_ret
    exact ⟨rfl, HB.out⟩
  obtain ⟨y0, y1, y2⟩ := HB2.out
  go_wp2_with fail
  refine (HL'.out _ HT2'.out).mono ?_; rintro e w3 ⟨⟨q', rfl⟩, hb3⟩
  have HA3 := Lib.hid (HA2.out.later hb3); have HB3 := Lib.hid (HB2.out.later hb3); have HT3 := Lib.hid (HT2.out.later hb3); have HT3' := Lib.hid (HT2'.out.later hb3); have HW3 := Lib.hid (HW2.out.trans (hb3.mono HW2.out.size))
  clear hb3 y0 y1 y2
  cases q'
  · go_wp2_with fail
    refine (awake _).mono ?_; rintro e w4 ⟨rfl, hb⟩
    have HB := Lib.hid (HW3.out.trans (hb.mono HW3.out.size))
    clear hb
    go_wp2_with fail
    go_ret
    exact ⟨rfl, HB.out⟩
  clear HA0 HB0 HT HT' HW HA2 HB2 HT2 HT2' HW2 HL HL'
  go_upto_region 3 with fail
  obtain ⟨x0, x1, x2⟩ := HA3.out
  obtain ⟨y0, y1, y2⟩ := HB3.out
  have n1 : IntKind.i64.wrap (-C (.mk k s ks) (.mk k' s' ks')) = -C (.mk k s ks) (.mk k' s' ks') := IntWalk.i64_in _ (by omega)
  have n2 : IntKind.i64.wrap (0 - C (.mk k s ks) (.mk k' s' ks')) = -C (.mk k s ks) (.mk k' s' ks') := by rw [Int.zero_sub]; exact n1
  have ta := HT3.out; have tb := HT3'.out
  clear hrg
  go_region_held3 (fun W => W.cell? ⟨w.heap.size, 0, none⟩ = some (.int .i64 k) ∧ W.cell? ⟨w.heap.size, 1, none⟩ = some (.string s) ∧ W.cell? ⟨w.heap.size, 2, none⟩ = some (.slice A ks.length cap) ∧ W.cell? ⟨w.heap.size + 1, 0, none⟩ = some (.int .i64 k') ∧ W.cell? ⟨w.heap.size + 1, 1, none⟩ = some (.string s') ∧ W.cell? ⟨w.heap.size + 1, 2, none⟩ = some (.slice A' ks'.length cap') ∧ TermAt W (.agg #[.int .i64 k, .string s, .slice A ks.length cap]) (.mk k s ks) ∧ TermAt W (.agg #[.int .i64 k', .string s', .slice A' ks'.length cap']) (.mk k' s' ks') ∧ Below w3.heap.size w3 W)
    (first | exact ⟨x0, x1, x2, y0, y1, y2, ta, tb, Below.refl _ _⟩ | exact ⟨x0, x1, x2, y0, y1, y2, ta.drew, tb.drew, (Below.refl _ _).drew⟩ | exact compares_later (by assumption) hb4 | go_keep)
    (first | (go_at_call 9; refine (awake _).mono ?_; rintro e w' ⟨rfl, hb4⟩) | (go_at_call 22; have hS' := (by assumption : _ ∧ _ ∧ _ ∧ _ ∧ _ ∧ _ ∧ TermAt _ _ _ ∧ TermAt _ _ _ ∧ Below _ _ _); have ta' := hS'.2.2.2.2.2.2.1; have tb' := hS'.2.2.2.2.2.2.2.1; clear hS'; refine (HR.out _ _ _ _ _ (by assumption) (by assumption)).mono ?_; rintro e w' ⟨rfl, hb4⟩; clear ta' tb') | (go_at_call 21; have hS' := (by assumption : _ ∧ _ ∧ _ ∧ _ ∧ _ ∧ _ ∧ TermAt _ _ _ ∧ TermAt _ _ _ ∧ Below _ _ _); have ta' := hS'.2.2.2.2.2.2.1; have tb' := hS'.2.2.2.2.2.2.2.1; clear hS'; refine (HC.out _ _ _ _ _ (by assumption) (by assumption)).mono ?_; rintro e w' ⟨rfl, hb4⟩; clear ta' tb'))
  all_goals
    rename_i hS
    have HB5 := Lib.hid (HW3.out.trans (hS.2.2.2.2.2.2.2.2.mono HW3.out.size))
    clear hS x0 x1 x2 y0 y1 y2 ta tb
    go_wp2_with fail
    go_ret
    exact ⟨rfl, HB5.out⟩
theorem walkTermsCompares {H : Type} {enc : TypeId × Value → H} {X Y Z : Prop} (w : World) (v : Value) (d : DataW H) {b0 : Nat} {p : List MemPlace} {r : Reach} (hv : Value.okWide Try.prog w r b0 24 v) (hd : DataW.Trod enc Try.prog w 0 (fun _ => true) true 24 v d p)
    (v' : Value) (d' : DataW H) {b0' : Nat} {p' : List MemPlace} {r' : Reach} (hv' : Value.okWide Try.prog w r' b0' 24 v') (hd' : DataW.Trod enc Try.prog w 0 (fun _ => true) true 24 v' d' p')
    (_hsz : X) (_hL : Y) (_hsh : Z) :
    Calls Try.prog 4 #[v, v'] w fun e w' => e = .returned (.bool true) ∧ Below w.heap.size w w' := by
  obtain ⟨t, ht, _⟩ := open_term hv hd
  obtain ⟨t', ht', _⟩ := open_term hv' hd'
  exact terms_compares t t' v v' w ht ht'
end Go.Proofs.Ytlecmcfmaneejaa
