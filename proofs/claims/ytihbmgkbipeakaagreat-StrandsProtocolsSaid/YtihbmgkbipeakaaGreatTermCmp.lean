/- Chapter 40: the order of terms, and the walk of the reference's Compare. -/
import Derived.Test.YtihbmgkbipeakaaGreatTermName
import Derived.Deep.RegionWith
import Derived.Deep.Cut
import Derived.StillTailTactics
namespace Go.Proofs.YtihbmgkbipeakaaGreat
open Go.RowKit

namespace T
def less (a b : ByteArray) : Bool := Op.bytesLess a.toList b.toList
mutual
/-- The order of terms: below 0, 0, above 0. -/
def cmp : T → T → Int
  | .mk k s ks, .mk k' s' ks' => if k < k' then -1 else if k' < k then 1 else if less s s' = true then -1 else if (s.toList == s'.toList) = false then 1 else cmpAll ks ks'
def cmpAll : List T → List T → Int
  | [], [] => 0
  | [], _ :: _ => -1
  | _ :: _, [] => 1
  | a :: r, b :: r' => if cmp a b = 0 then cmpAll r r' else cmp a b
end
mutual
theorem cmp_vals : ∀ a b : T, cmp a b = -1 ∨ cmp a b = 0 ∨ cmp a b = 1
  | .mk k s ks, .mk k' s' ks' => by
    simp only [cmp]
    repeat' split
    all_goals first | simp | exact cmpAll_vals ks ks'
theorem cmpAll_vals : ∀ a b : List T, cmpAll a b = -1 ∨ cmpAll a b = 0 ∨ cmpAll a b = 1
  | [], [] => by simp [cmpAll]
  | [], _ :: _ => by simp [cmpAll]
  | _ :: _, [] => by simp [cmpAll]
  | a :: r, b :: r' => by
    simp only [cmpAll]
    split
    · exact cmpAll_vals r r'
    · exact cmp_vals a b
end
theorem cmpAll_at : ∀ (l m : List T) (i : Nat) (h : i < l.length) (h' : i < m.length), (∀ j (g : j < i), cmp l[j] m[j] = 0) → cmp l[i] m[i] ≠ 0 → cmpAll l m = cmp l[i] m[i] := by
  intro l
  induction l with
  | nil => intro m i h; simp at h
  | cons a r ih =>
    intro m i h h' hz hn
    cases m with
    | nil => simp at h'
    | cons b r' =>
      cases i with
      | zero => simp only [List.getElem_cons_zero] at hn ⊢; simp only [cmpAll]; rw [if_neg hn]
      | succ i =>
        have h0 := hz 0 (by omega)
        simp only [List.getElem_cons_zero] at h0
        simp only [cmpAll, List.getElem_cons_succ] at hn ⊢
        rw [if_pos h0]
        exact ih r' i (by simpa using h) (by simpa using h') (fun j g => by have := hz (j + 1) (by omega); simpa using this) hn
theorem cmpAll_len : ∀ (l m : List T), (∀ j (h : j < l.length) (h' : j < m.length), cmp l[j] m[j] = 0) → cmpAll l m = if l.length < m.length then -1 else if m.length < l.length then 1 else 0 := by
  intro l
  induction l with
  | nil => intro m _; cases m <;> simp [cmpAll]
  | cons a r ih =>
    intro m hz
    cases m with
    | nil => simp [cmpAll]
    | cons b r' =>
      have h0 := hz 0 (by simp) (by simp)
      simp only [List.getElem_cons_zero] at h0
      simp only [cmpAll, List.length_cons]
      rw [if_pos h0, ih r' (fun j h h' => by have := hz (j + 1) (by simpa using h) (by simpa using h'); simpa using this)]
      simp only [Nat.add_lt_add_iff_right]
end T

theorem TermAt.drew {w : World} {v : Value} {t : T} (h : TermAt w v t) : TermAt w.drew v t := h.keep fun _ _ => rfl
theorem TermAt.cells {w : World} {A : Option Addr} {ks : List T} {U : Nat → Value × Value × Value} {i : Nat} (h : i < ks.length)
    (hA : ks.length = 0 ∨ ∃ b off, A = some ⟨b, off, none⟩ ∧ ∀ i, i < ks.length → w.cell? ⟨b, off + i * 3, none⟩ = some (U i).1 ∧ w.cell? ⟨b, off + i * 3 + 1, none⟩ = some (U i).2.1 ∧ w.cell? ⟨b, off + i * 3 + 2, none⟩ = some (U i).2.2)
    (hU : ∀ i (h : i < ks.length), TermAt w (.agg #[(U i).1, (U i).2.1, (U i).2.2]) ks[i]) :
    ∃ b off A' cap', A = some ⟨b, off, none⟩ ∧ w.cell? ⟨b, off + i * 3, none⟩ = some (.int .i64 ks[i].kind) ∧ w.cell? ⟨b, off + i * 3 + 1, none⟩ = some (.string ks[i].name) ∧
      w.cell? ⟨b, off + i * 3 + 2, none⟩ = some (.slice A' ks[i].kids.length cap') ∧ TermAt w (.agg #[.int .i64 ks[i].kind, .string ks[i].name, .slice A' ks[i].kids.length cap']) ks[i] := by
  rcases hA with hA | ⟨b, off, rfl, hc⟩
  · omega
  · obtain ⟨c0, c1, c2⟩ := hc i h
    have hu := hU i h
    obtain ⟨e0, e1, A', cap', e2⟩ := hu.view
    rw [e0, e1, e2] at hu
    exact ⟨b, off, A', cap', rfl, by rw [c0, e0], by rw [c1, e1], by rw [c2, e2], hu⟩
theorem boxed_two (w : World) (a b c a' b' c' : Value) (t : TypeId) : Boxed ((w.alloc (.cells #[a, b, c] t)).alloc (.cells #[a', b', c'] t)) w.heap.size a b c ∧ Boxed ((w.alloc (.cells #[a, b, c] t)).alloc (.cells #[a', b', c'] t)) (w.heap.size + 1) a' b' c' ∧
    Below w.heap.size w ((w.alloc (.cells #[a, b, c] t)).alloc (.cells #[a', b', c'] t)) := by
  have hs : (w.alloc (.cells #[a, b, c] t)).heap.size = w.heap.size + 1 := by show (w.heap.push _).size = _; rw [Array.size_push]
  have h2 := boxed_new (w.alloc (.cells #[a, b, c] t)) a' b' c' t
  rw [hs] at h2
  exact ⟨(boxed_new w a b c t).later ((Below.refl _ _).alloc (Nat.le_refl _) _), h2, ((Below.refl _ _).alloc (Nat.le_refl _) _).alloc (by rw [hs]; omega) _⟩

set_option maxRecDepth 100000 in
set_option maxHeartbeats 2000000 in
theorem rcmp : ∀ (N : Nat) (t t' : T) (v v' : Value) (w : World), t.bulk < N → TermAt w v t → TermAt w v' t' → t.bulk ≤ 1048576 → t'.bulk ≤ 1048576 →
    Calls Tryz.prog 56 #[v, v'] w fun e w' => e = .returned (.int .i64 (t.cmp t')) ∧ Below w.heap.size w w' := by
  intro N
  induction N with
  | zero => intro t t' v v' w h; omega
  | succ N ih =>
    intro t t' v v' w hN ht ht' hbk hbk'
    cases ht with
    | mk k s A cap ks U h1 h2 h3 h4 hA hU =>
    cases ht' with
    | mk k' s' A' cap' ks' U' h1' h2' h3' h4' hA' hU' =>
      simp only [T.bulk] at hN hbk hbk'
      have hkn : ks.length ≤ 1048576 := by have := T.len_le ks; omega
      have hkn' : ks'.length ≤ 1048576 := by have := T.len_le ks'; omega
      have hcmp : (T.mk k s ks).cmp (.mk k' s' ks') = if k < k' then -1 else if k' < k then 1 else if T.less s s' = true then -1 else if (s.toList == s'.toList) = false then 1 else T.cmpAll ks ks' := rfl
      obtain ⟨R, hR⟩ : ∃ R, (T.mk k s ks).cmp (.mk k' s' ks') = R := ⟨_, rfl⟩
      rw [hR] at hcmp ⊢
      clear hR
      obtain ⟨hbx, hbx', hb1⟩ := boxed_two w (.int .i64 k) (.string s) (.slice A ks.length cap) (.int .i64 k') (.string s') (.slice A' ks'.length cap') 29
      go_enter Tryz.func56, Tryz.ntmps56
      go_upto_region 1 with fail
      generalize (w.alloc (.cells #[.int .i64 k, .string s, .slice A ks.length cap] 29)).alloc (.cells #[.int .i64 k', .string s', .slice A' ks'.length cap'] 29) = w1 at hbx hbx' hb1 ⊢
      obtain ⟨x0, x1, x2⟩ := hbx
      obtain ⟨y0, y1, y2⟩ := hbx'
      by_cases g1 : k < k'
      · rw [if_pos g1] at hcmp; subst hcmp
        go_wp2_with fail
        go_ret
        exact ⟨rfl, hb1⟩
      rw [if_neg g1] at hcmp
      by_cases g2 : k' < k
      · rw [if_pos g2] at hcmp; subst hcmp
        go_wp2_with fail
        go_ret
        exact ⟨rfl, hb1⟩
      rw [if_neg g2] at hcmp
      rcases Bool.eq_false_or_eq_true (T.less s s') with g3 | g3
      · rw [if_pos g3] at hcmp; subst hcmp
        unfold T.less at g3
        go_wp2_with fail
        go_ret
        exact ⟨rfl, hb1⟩
      rw [if_neg (by rw [g3]; decide)] at hcmp
      rcases Bool.eq_false_or_eq_true (s.toList == s'.toList) with g4 | g4
      rotate_left
      · rw [if_pos g4] at hcmp; subst hcmp
        unfold T.less at g3
        go_wp2_with fail
        go_ret
        exact ⟨rfl, hb1⟩
      rw [if_neg (by rw [g4]; decide)] at hcmp
      unfold T.less at g3
      subst hcmp
      go_wp2_with fail
      clear g1 g2 g3 g4
      go_loopw [5] (fun i wr => ∃ j : Nat, j ≤ ks.length ∧ j ≤ ks'.length ∧ i = .int .i64 j ∧ (∀ m (h : m < j) (h1 : m < ks.length) (h2 : m < ks'.length), T.cmp ks[m] ks'[m] = 0) ∧ Below w1.heap.size w1 wr) (fun i _ => ks.length - (intOf i).toNat)
      case atStart => exact ⟨0, Nat.zero_le _, Nat.zero_le _, rfl, fun m h => absurd h (by omega), Below.refl _ _⟩
      case round =>
        obtain ⟨j, hj, hj', rfl, hz, hbl⟩ := hrel
        have HZ := Lib.hid hz; clear hz
        have z2 := cell_later hbl x2
        have v2 := cell_later hbl y2
        by_cases hlt : j < ks.length
        · by_cases hlt' : j < ks'.length
          · have hbw := hb1.trans (hbl.mono hb1.size)
            obtain ⟨b, off, B1, C1, rfl, d0, d1, d2, hu⟩ := TermAt.cells hlt hA hU
            obtain ⟨b', off', B1', C1', rfl, d0', d1', d2', hu'⟩ := TermAt.cells hlt' hA' hU'
            have e0 := cell_later hbw d0; have e1 := cell_later hbw d1; have e2 := cell_later hbw d2
            have e0' := cell_later hbw d0'; have e1' := cell_later hbw d1'; have e2' := cell_later hbw d2'
            clear d0 d1 d2 d0' d1' d2'
            have hi : (j : Int) < (ks.length : Int) := by omega
            have hi' : (j : Int) < (ks'.length : Int) := by omega
            have hb2 : ks[j].bulk < N := by have := T.bulk_at ks j hlt; omega
            have hb3 : ks[j].bulk ≤ 1048576 := by have := T.bulk_at ks j hlt; omega
            have hb3' : ks'[j].bulk ≤ 1048576 := by have := T.bulk_at ks' j hlt'; omega
            have HU := Lib.hid (hu.later hbw); have HU' := Lib.hid (hu'.later hbw)
            have HLT := Lib.hid hlt; have HLT' := Lib.hid hlt'
            have hvals := T.cmp_vals ks[j] ks'[j]
            have hat := fun hn => T.cmpAll_at ks ks' j hlt hlt' (fun m g => HZ.out m g (by omega) (by omega)) hn
            have HAT := Lib.hid hat; clear hat hu hu'
            have hc := ih ks[j] ks'[j] (.agg #[.int .i64 ks[j].kind, .string ks[j].name, .slice B1 ks[j].kids.length C1]) (.agg #[.int .i64 ks'[j].kind, .string ks'[j].name, .slice B1' ks'[j].kids.length C1'])
            have HC := Lib.hid hc; clear hc
            obtain ⟨c, hcv⟩ : ∃ c, T.cmp ks[j] ks'[j] = c := ⟨_, rfl⟩
            rw [hcv] at hvals
            have HCV := Lib.hid hcv; clear hcv
            go_wp2_with fail
            have hbq := hbl.drew
            have huq := TermAt.drew HU.out
            have huq' := TermAt.drew HU'.out
            go_still_tail 10, (by kernel_rfl)
            change wpList _ _ _ _ _ wr.drew
            generalize wr.drew = wq at hbq huq huq' ⊢
            have HUQ := Lib.hid huq; have HUQ' := Lib.hid huq'
            clear huq huq' HU HU' e0 e1 e2 e0' e1' e2' z2 v2 hbl
            go_wp2_with fail
            refine (HC.out _ hb2 HUQ.out HUQ'.out hb3 hb3').mono ?_; rintro e w2 ⟨rfl, hb4⟩
            rw [HCV.out]
            replace hb4 := hbq.trans (hb4.mono hbq.size)
            by_cases hc0 : c = 0
            · subst hc0
              go_wp2_with fail
              go_roundw
              case rel =>
                refine ⟨j + 1, HLT.out, HLT'.out, by go_num, fun m h g1 g2 => ?_, hb4⟩
                rcases Nat.lt_or_ge m j with g | g
                · exact HZ.out m g g1 g2
                · obtain rfl : m = j := by omega
                  exact HCV.out
              case measure => have := HLT.out; simp [intOf]; omega
            · have hne : (c != 0) = true := by rw [bne_iff_ne]; exact hc0
              have HR := Lib.hid (HAT.out (fun h => hc0 (HCV.out.symm.trans h)))
              go_wp2_with fail
              go_ret
              exact ⟨ret_i64 (HCV.out.symm.trans HR.out.symm), hb1.trans (hb4.mono hb1.size)⟩
          · have hi : (j : Int) < (ks.length : Int) := by omega
            have hi' : (ks'.length : Int) ≤ (j : Int) := by omega
            have hl : T.cmpAll ks ks' = 1 := by rw [T.cmpAll_len ks ks' (fun m g1 g2 => HZ.out m (by omega) g1 g2), if_neg (by omega), if_pos (by omega)]
            have HL := Lib.hid hl; clear hl
            have q1 : (ks'.length : Int) < (ks.length : Int) := by omega
            go_wp2_with fail
            go_ret
            exact ⟨ret_i64 HL.out.symm, hb1.trans (hbl.mono hb1.size)⟩
        · have hi : (ks.length : Int) ≤ (j : Int) := by omega
          have hl := T.cmpAll_len ks ks' (fun m g1 g2 => HZ.out m (by omega) g1 g2)
          by_cases g1 : ks.length < ks'.length
          · rw [if_pos g1] at hl
            have HL := Lib.hid hl; clear hl
            have q1 : (ks.length : Int) < (ks'.length : Int) := by omega
            go_wp2_with fail
            go_ret
            exact ⟨ret_i64 HL.out.symm, hb1.trans (hbl.mono hb1.size)⟩
          · rw [if_neg g1, if_neg (by omega)] at hl
            have HL := Lib.hid hl; clear hl
            have q1 : (ks'.length : Int) ≤ (ks.length : Int) := by omega
            have q2 : (ks.length : Int) ≤ (ks'.length : Int) := by omega
            go_wp2_with fail
            go_ret
            exact ⟨ret_i64 HL.out.symm, hb1.trans (hbl.mono hb1.size)⟩
end Go.Proofs.YtihbmgkbipeakaaGreat
