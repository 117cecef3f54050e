/- Several texts in one: TermRTerm, TermRParse, StrTerm, StrBind, StrBind2. -/
import Derived.Test.YtihbmgkbipeakaaGreatWebG12
import Derived.Test.YtihbmgkbipeakaaGreatWebG11
import Derived.Test.YtihbmgkbipeakaaGreatWebG4
namespace Go.Proofs.YtihbmgkbipeakaaGreat
open Go.RowKit

theorem TermPost.val {ty : TypeId} {w W w5 : World} {g j : Nat} {b : Bool} {s : ByteArray} {r : Except Nat (T × Nat)} {e : Ending} (h : TermPost ty g s W r e w5) (hst : PSt ty w g s W j b) (hgl : g < w.heap.size) :
    ∃ (k0 : Int) (nm : ByteArray) (A3 : Option Addr) (n3 c3 j5 : Nat) (b5 : Bool), e = .returned (.agg #[.int .i64 k0, .string nm, .slice A3 n3 c3]) ∧ PSt ty w g s w5 j5 b5 ∧ TermVal ty w g s w5 (.int .i64 k0) (.string nm) (.slice A3 n3 c3) r := by
  obtain ⟨hg, hr⟩ := h
  rcases r with e4 | ⟨t, j4⟩
  · obtain ⟨hp, k0, nm, A3, n3, c3, he⟩ := hr
    exact ⟨k0, nm, A3, n3, c3, e4, true, he, hst.step hgl hg hp, hp, _, _, _, _, _, rfl, rfl, rfl⟩
  · obtain ⟨hp, A3, c3, he, hti⟩ := hr
    exact ⟨_, _, _, _, _, j4, false, he, hst.step hgl hg hp, hp, A3, c3, rfl, rfl, rfl, hti.keep fun b hb _ => ⟨by have := of_decide_eq_true hb; have := hst.2.2.2; exact decide_eq_true (by omega), rfl⟩⟩
theorem PSt.set1 {ty : TypeId} {w W : World} {g j : Nat} {b : Bool} {s : ByteArray} (h : PSt ty w g s W j b) (hgl : g < w.heap.size) (v : Int) (hv : v = ((j + 1 : Nat) : Int)) : PSt ty w g s (W.setCell ⟨g, 1, none⟩ (.int .i64 v)) (j + 1) b :=
  h.step hgl (grown_set (grown_refl _ _) 1 _) (h.1.set1 (j + 1) v hv)

set_option maxRecDepth 100000 in
set_option maxHeartbeats 8000000 in
theorem rterm : ∀ (f : Nat), f ≤ 8998 → ∀ (g i : Nat) (s : ByteArray) (w : World) (r : Except Nat (T × Nat)), PBox 133 w g s i false → i ≤ s.size → s.size ≤ 4096 → T.pterm s.data.toList f i = some r →
      Calls Tryz.prog 121 #[.pointer (some ⟨g, 0, none⟩)] w (TermPost 133 g s w r) := by
  intro f
  induction f using Nat.strongRecOn with
  | _ f ih =>
  intro hf g i s w r hp hi hs hr
  cases f with
  | zero => cases hr
  | succ f =>
  have hst1 := PSt.start hp
  have HGL := Lib.hid hp.lt
  have HIH := Lib.hid (fun f' (h : f' < f + 1) => ih f' h (by omega))
  clear hp ih
  simp only [T.pterm] at hr
  have i0 : (0 : Int) ≤ (i : Int) := by omega
  go_enter Tryz.func121, Tryz.ntmps121
  go_upto_region 1 with fail
  generalize w.alloc (.cells #[.int .i64 0, .string ⟨#[]⟩, .slice none 0 0] 29) = w1 at hst1 ⊢
  obtain ⟨x0, x1, x2⟩ := hst1.1.cells
  have HST1 := Lib.hid hst1
  clear hst1
  rcases Nat.lt_or_ge i s.size with hlt | hge
  rotate_left
  · have hr' : r = .error i := by
      rw [if_neg (by rw [T.now_past s i hge]; decide), if_neg (by rw [T.now_past s i hge]; decide)] at hr
      have hne : T.nameEnd s.data.toList i = i := by unfold T.nameEnd T.nameRun; rw [if_neg (by rw [T.size_len]; omega)]
      rw [if_pos hne] at hr
      simpa using hr.symm
    subst hr'
    have a1 : (s.size : Int) ≤ (i : Int) := by omega
    have a2 : decide ((s.size : Int) ≤ (i : Int)) = true := decide_eq_true (by omega)
    have a3 : decide (s.size ≤ i) = true := decide_eq_true (by omega)
    clear hr
    go_quiet (fail)
    have HST2 := Lib.hid (HST1.out.drewN nq)
    generalize w1.drewN nq = w2 at HST2 ⊢
    obtain ⟨y0, y1, y2⟩ := HST2.out.1.cells
    obtain ⟨f0, f1, f2⟩ := HST2.out.1.free
    have hp3 := HST2.out.1.set2 true
    have HST3 := Lib.hid (HST2.out.step HGL.out (grown_set (grown_refl _ _) 2 (.bool true)) hp3)
    clear x0 x1 x2 hp3
    go_upto_region 3 with fail
    generalize w2.setCell ⟨g, 2, none⟩ (.bool true) = w3 at HST3 ⊢
    obtain ⟨z0, z1, z2⟩ := HST3.out.2.1.cells
    obtain ⟨k0, k1, k2⟩ := HST3.out.2.1.free
    clear y0 y1 y2 f0 f1 f2
    go_wp2_with fail
    obtain ⟨d0, d1, d2⟩ := (box_set3 HST3.out.2.1 (.int .i64 0) (.string ⟨#[]⟩) (.slice none 0 0)).cells
    refine bodyPost_ret (v := .agg #[.int .i64 0, .string ⟨#[]⟩, .slice none 0 0]) (by simp [results, Tryz.results121, go_sem, d0, d1, d2]) rfl ?_
    exact HST3.out.ends HGL.out ⟨HST3.out.1, _, _, _, _, _, rfl, rfl, rfl⟩
  have a1 : (i : Int) < (s.size : Int) := by omega
  have a2 : decide ((s.size : Int) ≤ (i : Int)) = false := decide_eq_false (by omega)
  have a3 : decide (s.size ≤ i) = false := decide_eq_false (by omega)
  rw [T.now_at s i hlt, T.now_at s i hlt] at hr
  go_quiet (fail)
  have HST2 := Lib.hid (HST1.out.drewN nq)
  generalize w1.drewN nq = w2 at HST2 ⊢
  clear x0 x1 x2
  obtain ⟨x0, x1, x2⟩ := HST2.out.1.cells
  go_upto_region 4 with fail
  go_quiet (fail)
  have HST3 := Lib.hid (HST2.out.drewN nq)
  generalize w2.drewN nq = w3 at HST3 ⊢
  clear x0 x1 x2
  obtain ⟨x0, x1, x2⟩ := HST3.out.1.cells
  obtain ⟨f0, f1, f2⟩ := HST3.out.1.free
  have HR := Lib.hid hr
  clear hr
  rcases Bool.eq_false_or_eq_true (s[i]'hlt == 60) with h60 | h60
  · have hr2 : T.close s.data.toList 3 62 (T.pkids s.data.toList f 2 0 (i + 1)) = some r := by have h := HR.out; rw [if_pos h60] at h; exact h
    have h60' := beq_iff_eq.1 h60
    have e1 : (((s[i]'hlt).toNat : Int) == 63) = false := by rw [h60']; rfl
    have e2 : (((s[i]'hlt).toNat : Int) == 60) = true := by rw [h60']; rfl
    obtain ⟨f', hf', hr3⟩ : ∃ f', f = f' + 1 ∧ T.close s.data.toList 3 62 (T.pkids s.data.toList (f' + 1) 2 0 (i + 1)) = some r := by
      cases f with
      | zero => simp [T.pkids, T.close] at hr2
      | succ f' => exact ⟨f', rfl, hr2⟩
    subst hf'
    have HR3 := Lib.hid hr3
    have HST4 := Lib.hid (HST3.out.set1 HGL.out ((i : Int) + 1) (by push_cast; rfl))
    have HILT := Lib.hid (show i + 1 ≤ s.size from hlt)
    clear hr2 hr3 h60 h60'
    go_wp2_with fail
    generalize w3.setCell ⟨g, 1, none⟩ (.int .i64 ((i : Int) + 1)) = w4 at HST4 ⊢
    refine (rparts f' (by omega) (fun f'' hf'' => HIH.out f'' (by omega)) g (i + 1) 2 3 62 ⟨#[62]⟩ rfl s w4 r HST4.out.1 HILT.out hs (by decide) HR3.out).mono ?_; rintro e w5 hpost
    obtain ⟨k0, nm, A3, n3, c3, j5, b5, rfl, hst5, hval⟩ := hpost.val HST4.out HGL.out
    obtain ⟨z0, z1, z2⟩ := hst5.2.1.cells
    obtain ⟨k0', k1', k2'⟩ := hst5.2.1.free
    have HST5 := Lib.hid hst5; have HVAL := Lib.hid hval
    clear hpost hst5 hval x0 x1 x2 f0 f1 f2
    go_wp2_with fail
    obtain ⟨d0, d1, d2⟩ := (box_set3 HST5.out.2.1 (.int .i64 k0) (.string nm) (.slice A3 n3 c3)).cells
    refine bodyPost_ret (v := .agg #[.int .i64 k0, .string nm, .slice A3 n3 c3]) (by simp [results, Tryz.results121, go_sem, d0, d1, d2]) rfl ?_
    exact HST5.out.ends HGL.out HVAL.out
  obtain ⟨e60, _⟩ := u8_ne h60
  have e60' : (((s[i]'hlt).toNat : Int) == 60) = false := e60
  rcases Bool.eq_false_or_eq_true (s[i]'hlt == 63) with h63 | h63
  · have hr2 : (if T.nameEnd s.data.toList (i + 1) = i + 1 then some (.error (i + 1)) else some (.ok (.mk 2 (T.nameStr s.data.toList (i + 1) (T.nameEnd s.data.toList (i + 1))) [], T.nameEnd s.data.toList (i + 1)))) = some r := by
      have h := HR.out; rw [if_neg (by rw [h60]; decide), if_pos h63] at h; exact h
    obtain ⟨e63, _⟩ := u8_eq h63
    have e63' : (((s[i]'hlt).toNat : Int) == 63) = true := e63
    have HR2 := Lib.hid hr2
    have HST4 := Lib.hid (HST3.out.set1 HGL.out ((i : Int) + 1) (by push_cast; rfl))
    have HILT := Lib.hid (show i + 1 ≤ s.size from hlt)
    clear hr2 h60 h63 e60 e63
    go_wp2_with fail
    generalize w3.setCell ⟨g, 1, none⟩ (.int .i64 ((i : Int) + 1)) = w4 at HST4 ⊢
    refine (rpname g (i + 1) s _ HST4.out.1 HILT.out hs).mono ?_; rintro e w5 ⟨hg5, hnm⟩
    clear x0 x1 x2 f0 f1 f2
    rcases hnm with ⟨hne, rfl, hp5⟩ | ⟨hne, rfl, hp5⟩
    · have hr' : r = .error (i + 1) := by have h := HR2.out; rw [if_pos hne] at h; simpa using h.symm
      subst hr'
      have HST5 := Lib.hid (HST4.out.step HGL.out hg5 hp5)
      obtain ⟨z0, z1, z2⟩ := HST5.out.2.1.cells
      obtain ⟨k0, k1, k2⟩ := HST5.out.2.1.free
      clear hg5 hp5 hne
      go_wp2_with fail
      obtain ⟨d0, d1, d2⟩ := (box_set3 HST5.out.2.1 (.int .i64 2) (.string ⟨#[]⟩) (.slice none 0 0)).cells
      refine bodyPost_ret (v := .agg #[.int .i64 2, .string ⟨#[]⟩, .slice none 0 0]) (by simp [results, Tryz.results121, go_sem, d0, d1, d2]) rfl ?_
      exact HST5.out.ends HGL.out ⟨HST5.out.1, _, _, _, _, _, rfl, rfl, rfl⟩
    · have hr' : r = .ok (.mk 2 (T.nameStr s.data.toList (i + 1) (T.nameEnd s.data.toList (i + 1))) [], T.nameEnd s.data.toList (i + 1)) := by have h := HR2.out; rw [if_neg hne] at h; simpa using h.symm
      have HST5 := Lib.hid (HST4.out.step HGL.out hg5 hp5)
      obtain ⟨z0, z1, z2⟩ := HST5.out.2.1.cells
      obtain ⟨k0, k1, k2⟩ := HST5.out.2.1.free
      have HNL := Lib.hid (T.nameStr_le s.data.toList (i + 1))
      clear hg5 hp5 hne HR HR2
      generalize T.nameStr s.data.toList (i + 1) (T.nameEnd s.data.toList (i + 1)) = nm at HNL hr' ⊢
      subst hr'
      go_wp2_with fail
      obtain ⟨d0, d1, d2⟩ := (box_set3 HST5.out.2.1 (.int .i64 2) (.string nm) (.slice none 0 0)).cells
      refine bodyPost_ret (v := .agg #[.int .i64 2, .string nm, .slice none 0 0]) (by simp [results, Tryz.results121, go_sem, d0, d1, d2]) rfl ?_
      exact HST5.out.ends HGL.out ⟨HST5.out.1, none, 0, rfl, rfl, rfl, atom_in _ _ 2 nm (by decide) (by have := HNL.out; unfold maxLen; omega)⟩
  obtain ⟨e63, _⟩ := u8_ne h63
  have e63' : (((s[i]'hlt).toNat : Int) == 63) = false := e63
  have hr2 := HR.out
  rw [if_neg (by rw [h60]; decide), if_neg (by rw [h63]; decide)] at hr2
  have HR2 := Lib.hid hr2
  clear hr2 h60 h63 e60 e63
  go_wp2_with fail
  refine (rpname g i s _ HST3.out.1 hi hs).mono ?_; rintro e w5 ⟨hg5, hnm⟩
  clear x0 x1 x2 f0 f1 f2
  rcases hnm with ⟨hne, rfl, hp5⟩ | ⟨hne, rfl, hp5⟩
  · have hr' : r = .error i := by have h := HR2.out; rw [if_pos hne] at h; simpa using h.symm
    subst hr'
    have HST5 := Lib.hid (HST3.out.step HGL.out hg5 hp5)
    obtain ⟨x0, x1, x2⟩ := HST5.out.1.cells
    clear hg5 hp5 hne
    go_wp2_with fail
    refine (rfn ⟨#[]⟩ _).mono ?_; rintro e w6 ⟨rfl, rfl⟩
    rw [show T.fnKind ⟨#[]⟩ = 0 by decide, show T.fnKids ⟨#[]⟩ = 0 by decide]
    go_upto_region 13 with fail
    go_quiet (fail)
    have HST6 := Lib.hid (HST5.out.drewN nq)
    generalize w5.drewN nq = w6 at HST6 ⊢
    obtain ⟨z0, z1, z2⟩ := HST6.out.2.1.cells
    obtain ⟨k0, k1, k2⟩ := HST6.out.2.1.free
    go_wp2_with fail
    obtain ⟨d0, d1, d2⟩ := (box_set3 HST6.out.2.1 (.int .i64 1) (.string ⟨#[]⟩) (.slice none 0 0)).cells
    refine bodyPost_ret (v := .agg #[.int .i64 1, .string ⟨#[]⟩, .slice none 0 0]) (by simp [results, Tryz.results121, go_sem, d0, d1, d2]) rfl ?_
    exact HST6.out.ends HGL.out ⟨HST6.out.1, _, _, _, _, _, rfl, rfl, rfl⟩
  have HST5 := Lib.hid (HST3.out.step HGL.out hg5 hp5)
  have HNL := Lib.hid (T.nameStr_le s.data.toList i)
  have hr2 := HR2.out
  rw [if_neg hne] at hr2
  have HEL := Lib.hid (show T.nameEnd s.data.toList i ≤ s.size by have h := T.nameEnd_lt hne; have h2 := T.size_len s; omega)
  clear hg5 hp5 hne HR HR2
  generalize T.nameStr s.data.toList i (T.nameEnd s.data.toList i) = nm at HNL hr2 ⊢
  generalize T.nameEnd s.data.toList i = je at HST5 HEL hr2 ⊢
  obtain ⟨x0, x1, x2⟩ := HST5.out.1.cells
  have HKR := Lib.hid (T.fnKind_range nm)
  have j0 : (0 : Int) ≤ (je : Int) := by omega
  go_wp2_with fail
  refine (rfn nm _).mono ?_; rintro e w6 ⟨rfl, rfl⟩
  generalize T.fnKind nm = kk at HKR hr2 ⊢
  generalize T.fnKids nm = kn at hr2 ⊢
  have hstop : (kk = 0 ∨ (kk ≠ 0 ∧ s.size ≤ je) ∨ (kk ≠ 0 ∧ ∃ h : je < s.size, (s[je] == 40) = false)) ∧ r = .ok (.mk 1 nm [], je) ∨ (kk ≠ 0 ∧ ∃ h : je < s.size, (s[je] == 40) = true) ∧ T.close s.data.toList kk 41 (T.pkids s.data.toList f kn 0 (je + 1)) = some r := by
    by_cases hk0 : kk = 0
    · left; exact ⟨.inl hk0, by rw [if_pos (.inl hk0)] at hr2; simpa using hr2.symm⟩
    · rcases Nat.lt_or_ge je s.size with g1 | g1
      · rw [T.now_at s je g1] at hr2
        rcases Bool.eq_false_or_eq_true (s[je] == 40) with h | h
        · right; rw [if_neg (by rintro (h' | h'); exact hk0 h'; rw [h] at h'; cases h')] at hr2; exact ⟨⟨hk0, g1, h⟩, hr2⟩
        · left; rw [if_pos (.inr h)] at hr2; exact ⟨.inr (.inr ⟨hk0, g1, h⟩), by simpa using hr2.symm⟩
      · left; rw [if_pos (.inr (T.now_past s je g1 40))] at hr2; exact ⟨.inr (.inl ⟨hk0, g1⟩), by simpa using hr2.symm⟩
  clear hr2
  rcases hstop with ⟨hcs, hr'⟩ | ⟨⟨hk0, g1, h40⟩, hr3⟩
  · subst hr'
    rcases hcs with hk0 | ⟨hk0, g1⟩ | ⟨hk0, g1, h40⟩
    · have b1 : (kk == 0) = true := by rw [beq_iff_eq]; exact hk0
      clear hk0
      go_upto_region 13 with fail
      go_quiet (fail)
      have HST6 := Lib.hid (HST5.out.drewN nq)
      generalize w5.drewN nq = w6 at HST6 ⊢
      obtain ⟨z0, z1, z2⟩ := HST6.out.2.1.cells
      obtain ⟨k0, k1, k2⟩ := HST6.out.2.1.free
      go_wp2_with fail
      obtain ⟨d0, d1, d2⟩ := (box_set3 HST6.out.2.1 (.int .i64 1) (.string nm) (.slice none 0 0)).cells
      refine bodyPost_ret (v := .agg #[.int .i64 1, .string nm, .slice none 0 0]) (by simp [results, Tryz.results121, go_sem, d0, d1, d2]) rfl ?_
      exact HST6.out.ends HGL.out ⟨HST6.out.1, none, 0, rfl, rfl, rfl, atom_in _ _ 1 nm (by decide) (by have := HNL.out; unfold maxLen; omega)⟩
    · have b1 : (kk == 0) = false := by rw [beq_eq_false_iff_ne]; exact hk0
      have b2 : (s.size : Int) ≤ (je : Int) := by omega
      have b3 : decide ((s.size : Int) ≤ (je : Int)) = true := decide_eq_true (by omega)
      have b4 : decide (s.size ≤ je) = true := decide_eq_true (by omega)
      clear hk0
      go_upto_region 13 with fail
      go_quiet (fail)
      have HST6 := Lib.hid (HST5.out.drewN nq)
      generalize w5.drewN nq = w6 at HST6 ⊢
      obtain ⟨z0, z1, z2⟩ := HST6.out.2.1.cells
      obtain ⟨k0, k1, k2⟩ := HST6.out.2.1.free
      go_wp2_with fail
      obtain ⟨d0, d1, d2⟩ := (box_set3 HST6.out.2.1 (.int .i64 1) (.string nm) (.slice none 0 0)).cells
      refine bodyPost_ret (v := .agg #[.int .i64 1, .string nm, .slice none 0 0]) (by simp [results, Tryz.results121, go_sem, d0, d1, d2]) rfl ?_
      exact HST6.out.ends HGL.out ⟨HST6.out.1, none, 0, rfl, rfl, rfl, atom_in _ _ 1 nm (by decide) (by have := HNL.out; unfold maxLen; omega)⟩
    · have b1 : (kk == 0) = false := by rw [beq_eq_false_iff_ne]; exact hk0
      have b2 : (je : Int) < (s.size : Int) := by omega
      have b3 : decide ((s.size : Int) ≤ (je : Int)) = false := decide_eq_false (by omega)
      have b4 : decide (s.size ≤ je) = false := decide_eq_false (by omega)
      obtain ⟨_, b5⟩ := u8_ne h40
      have b6 : ((s[je].toNat : Int) != 40) = true := b5
      clear hk0 h40 b5
      go_upto_region 13 with fail
      go_quiet (fail)
      have HST6 := Lib.hid (HST5.out.drewN nq)
      generalize w5.drewN nq = w6 at HST6 ⊢
      obtain ⟨z0, z1, z2⟩ := HST6.out.2.1.cells
      obtain ⟨k0, k1, k2⟩ := HST6.out.2.1.free
      go_wp2_with fail
      obtain ⟨d0, d1, d2⟩ := (box_set3 HST6.out.2.1 (.int .i64 1) (.string nm) (.slice none 0 0)).cells
      refine bodyPost_ret (v := .agg #[.int .i64 1, .string nm, .slice none 0 0]) (by simp [results, Tryz.results121, go_sem, d0, d1, d2]) rfl ?_
      exact HST6.out.ends HGL.out ⟨HST6.out.1, none, 0, rfl, rfl, rfl, atom_in _ _ 1 nm (by decide) (by have := HNL.out; unfold maxLen; omega)⟩
  · have b1 : (kk == 0) = false := by rw [beq_eq_false_iff_ne]; exact hk0
    have b2 : (je : Int) < (s.size : Int) := by omega
    have b3 : decide ((s.size : Int) ≤ (je : Int)) = false := decide_eq_false (by omega)
    have b4 : decide (s.size ≤ je) = false := decide_eq_false (by omega)
    obtain ⟨_, b5⟩ := u8_eq h40
    have b6 : ((s[je].toNat : Int) != 40) = false := b5
    obtain ⟨f', hf', hr4⟩ : ∃ f', f = f' + 1 ∧ T.close s.data.toList kk 41 (T.pkids s.data.toList (f' + 1) kn 0 (je + 1)) = some r := by
      cases f with
      | zero => simp [T.pkids, T.close] at hr3
      | succ f' => exact ⟨f', rfl, hr3⟩
    subst hf'
    have HR4 := Lib.hid hr4; have HG1 := Lib.hid g1
    clear hr3 hr4 hk0 h40 b5
    go_upto_region 13 with fail
    go_quiet (fail)
    have HST6 := Lib.hid (HST5.out.drewN nq)
    generalize w5.drewN nq = w6 at HST6 ⊢
    clear x0 x1 x2
    obtain ⟨x0, x1, x2⟩ := HST6.out.1.cells
    obtain ⟨f0, f1, f2⟩ := HST6.out.1.free
    have HST7 := Lib.hid (HST6.out.set1 HGL.out ((je : Int) + 1) (by push_cast; rfl))
    go_wp2_with fail
    generalize w6.setCell ⟨g, 1, none⟩ (.int .i64 ((je : Int) + 1)) = w7 at HST7 ⊢
    refine (rparts f' (by omega) (fun f'' hf'' => HIH.out f'' (by omega)) g (je + 1) kn kk 41 ⟨#[41]⟩ rfl s w7 r HST7.out.1 HG1.out hs (by have := HKR.out; omega) HR4.out).mono ?_; rintro e w8 hpost
    obtain ⟨k0, nm', A3, n3, c3, j5, b9, rfl, hst8, hval⟩ := hpost.val HST7.out HGL.out
    obtain ⟨z0, z1, z2⟩ := hst8.2.1.cells
    obtain ⟨k0', k1', k2'⟩ := hst8.2.1.free
    have HST8 := Lib.hid hst8; have HVAL := Lib.hid hval
    clear hpost hst8 hval x0 x1 x2 f0 f1 f2
    go_wp2_with fail
    obtain ⟨d0, d1, d2⟩ := (box_set3 HST8.out.2.1 (.int .i64 k0) (.string nm') (.slice A3 n3 c3)).cells
    refine bodyPost_ret (v := .agg #[.int .i64 k0, .string nm', .slice A3 n3 c3]) (by simp [results, Tryz.results121, go_sem, d0, d1, d2]) rfl ?_
    exact HST8.out.ends HGL.out HVAL.out
end Go.Proofs.YtihbmgkbipeakaaGreat

namespace Go.Proofs.YtihbmgkbipeakaaGreat
open Go.RowKit

set_option maxRecDepth 100000 in
set_option maxHeartbeats 4000000 in
theorem rparse (s : ByteArray) (w : World) :
    Calls Tryz.prog 81 #[.string s] w (ParsePost (T.parse s) w) := by
  have hst1 := Box.new w (.int .i64 0) (.string ⟨#[]⟩) (.slice none 0 0)
  have hb1 := below_alloc1 w (.cells #[.int .i64 0, .string ⟨#[]⟩, .slice none 0 0] 29)
  have hz1' := size_alloc1 w (.cells #[.int .i64 0, .string ⟨#[]⟩, .slice none 0 0] 29)
  obtain ⟨p, hpar⟩ : ∃ p, T.parse s = p := ⟨_, rfl⟩
  rw [hpar]
  go_enter Tryz.func81, Tryz.ntmps81
  go_upto_region 1 with fail
  generalize w.alloc (.cells #[.int .i64 0, .string ⟨#[]⟩, .slice none 0 0] 29) = w1 at hst1 hb1 hz1' ⊢
  obtain ⟨x0, x1, x2⟩ := hst1.cells
  obtain ⟨f0, f1, f2⟩ := hst1.free
  have HBX := Lib.hid hst1; have HB := Lib.hid hb1; have HZ1 := Lib.hid hz1'
  clear hst1 hb1 hz1'
  have hzt : ∀ W, TermIn (from_ (w.heap.size + 1)) W (.agg #[.int .i64 0, .string ⟨#[]⟩, .slice none 0 0]) (.mk 0 ⟨#[]⟩ []) := fun W => atom_in _ _ 0 ⟨#[]⟩ (by decide) (by decide)
  have HZT := Lib.hid hzt; clear hzt
  by_cases hbig : 1024 < s.size
  · have hp : p = (.mk 0 ⟨#[]⟩ [], 0, 72) := by rw [← hpar]; unfold T.parse; rw [if_pos hbig]
    subst hp
    have h1 : (1024 : Int) < (s.size : Int) := by omega
    clear hpar
    go_wp2_with fail
    obtain ⟨d0, d1, d2⟩ := (box_set3 HBX.out (.int .i64 0) (.string ⟨#[]⟩) (.slice none 0 0)).cells
    refine bodyPost_ret (v := .tuple #[.agg #[.int .i64 0, .string ⟨#[]⟩, .slice none 0 0], .int .i64 0, .int .i64 72]) (by simp [results, Tryz.results81, go_sem, d0, d1, d2]) rfl ?_
    exact parse_ends HB.out (HZT.out _) rfl
  have h1 : (s.size : Int) ≤ 1024 := by omega
  obtain ⟨r, hr⟩ : ∃ r, T.pterm s.data.toList (2 * s.size + 1) 0 = some r := by
    cases h : T.pterm s.data.toList (2 * s.size + 1) 0 with
    | none => exact absurd h ((T.p_some s.data.toList _).1 0 (Nat.zero_le _) (by rw [T.size_len]; omega))
    | some r => exact ⟨r, rfl⟩
  have hpar2 : T.parseEnd s.size r = p := by rw [← hpar]; exact (T.parse_end s hbig r hr).symm
  have HR := Lib.hid hr; have HP := Lib.hid hpar2; have HS := Lib.hid (show s.size ≤ 1024 by omega)
  clear hr hpar hpar2 hbig
  go_wp2_with fail
  have hpb : PBox 133 (w1.alloc (.cells #[.string s, .int .i64 0, .bool false] 133)) w1.heap.size s 0 false := heap_alloc_new w1 _
  have hb2 := below_alloc1 w1 (.cells #[.string s, .int .i64 0, .bool false] 133)
  have hz2 := size_alloc1 w1 (.cells #[.string s, .int .i64 0, .bool false] 133)
  generalize w1.alloc (.cells #[.string s, .int .i64 0, .bool false] 133) = w2 at hpb hb2 hz2 ⊢
  have HPB := Lib.hid hpb; have HB2 := Lib.hid hb2; have HZ2 := Lib.hid hz2
  clear hpb hb2 hz2
  refine (rterm (2 * s.size + 1) (by have := HS.out; omega) w1.heap.size 0 s w2 r HPB.out (Nat.zero_le _) (by have := HS.out; omega) HR.out).mono ?_
  rintro e w3 ⟨hg3, hres⟩
  have HG3 := Lib.hid hg3
  have hbx3 := (HBX.out.later HB2.out).grown hg3 (fun e => by have e' := Option.some.inj e; have := HZ1.out; omega)
  have hb3 : Below w.heap.size w w3 := (HB.out.trans (HB2.out.mono HB.out.size)).grown hg3 (by have := HZ1.out; have := HZ2.out; omega) (fun k hk => by have e' := Option.some.inj hk; have := HZ1.out; omega)
  have HBX3 := Lib.hid hbx3; have HB3 := Lib.hid hb3
  clear hg3 hbx3 hb3 x0 x1 x2 f0 f1 f2
  rcases r with e4 | ⟨t, j⟩
  · obtain ⟨hp3, k0, nm, A3, n3, c3, rfl⟩ := hres
    have hp : p = (.mk 0 ⟨#[]⟩ [], e4, 71) := HP.out.symm
    subst hp
    have hp4 := hp3.later (below_alloc1 w3 (.cells #[.int .i64 k0, .string nm, .slice A3 n3 c3] 29))
    have hbx4 := HBX3.out.later (below_alloc1 w3 (.cells #[.int .i64 k0, .string nm, .slice A3 n3 c3] 29))
    have hb4 := HB3.out.trans ((below_alloc1 w3 (.cells #[.int .i64 k0, .string nm, .slice A3 n3 c3] 29)).mono HB3.out.size)
    clear hp3
    go_upto_region 5 with fail
    generalize w3.alloc (.cells #[.int .i64 k0, .string nm, .slice A3 n3 c3] 29) = w4 at hp4 hbx4 hb4 ⊢
    obtain ⟨x0, x1, x2⟩ := hp4.cells
    obtain ⟨z0, z1, z2⟩ := hbx4.cells
    obtain ⟨k0', k1', k2'⟩ := hbx4.free
    have HBX4 := Lib.hid hbx4; have HB4 := Lib.hid hb4
    clear hp4 hbx4 hb4
    have hne : w.heap.size ≠ w1.heap.size := by have := HZ1.out; omega
    have hne' : w1.heap.size ≠ w.heap.size := by have := HZ1.out; omega
    go_wp2_with fail
    go_region
    go_wp2_with fail
    obtain ⟨d0, d1, d2⟩ := (box_set3 HBX4.out (.int .i64 0) (.string ⟨#[]⟩) (.slice none 0 0)).cells
    refine bodyPost_ret (v := .tuple #[.agg #[.int .i64 0, .string ⟨#[]⟩, .slice none 0 0], .int .i64 e4, .int .i64 71]) (by simp [results, Tryz.results81, go_sem, d0, d1, d2]) rfl ?_
    exact (parse_ends HB4.out (HZT.out _) rfl).drew
  · obtain ⟨hp3, A3, c3, rfl, hti⟩ := hres
    have hjl := ((T.p_ok s.data.toList _).1 _ _ _ HR.out).2
    have HJL := Lib.hid (show j ≤ s.size ∧ t.bulk ≤ 1048576 by have h2 := T.size_len s; have := HS.out; omega)
    have hp4 := hp3.later (below_alloc1 w3 (.cells #[.int .i64 t.kind, .string t.name, .slice A3 t.kids.length c3] 29))
    have hbx4 := HBX3.out.later (below_alloc1 w3 (.cells #[.int .i64 t.kind, .string t.name, .slice A3 t.kids.length c3] 29))
    have hb4 := HB3.out.trans ((below_alloc1 w3 (.cells #[.int .i64 t.kind, .string t.name, .slice A3 t.kids.length c3] 29)).mono HB3.out.size)
    have hq4 := Box.new w3 (.int .i64 t.kind) (.string t.name) (.slice A3 t.kids.length c3)
    have hti4 := hti.keep (S' := from_ (w.heap.size + 1)) (w' := w3.alloc (.cells #[.int .i64 t.kind, .string t.name, .slice A3 t.kids.length c3] 29)) fun b hb hl => ⟨by have := of_decide_eq_true hb; have := HZ1.out; have := HZ2.out; exact decide_eq_true (by omega), Below.heap_alloc _ _ b hl⟩
    clear hp3 hti hjl
    go_upto_region 5 with fail
    generalize w3.alloc (.cells #[.int .i64 t.kind, .string t.name, .slice A3 t.kids.length c3] 29) = w4 at hp4 hbx4 hb4 hq4 hti4 ⊢
    obtain ⟨x0, x1, x2⟩ := hp4.cells
    obtain ⟨z0, z1, z2⟩ := hbx4.cells
    obtain ⟨k0', k1', k2'⟩ := hbx4.free
    obtain ⟨q0, q1, q2⟩ := hq4.cells
    have HBX4 := Lib.hid hbx4; have HB4 := Lib.hid hb4; have HQ4 := Lib.hid hq4; have HTI4 := Lib.hid hti4
    clear hp4 hbx4 hb4 hq4 hti4
    by_cases hjs : j < s.size
    · have hp : p = (.mk 0 ⟨#[]⟩ [], j, 71) := by have := HP.out; dsimp only [T.parseEnd] at this; rw [if_pos hjs] at this; exact this.symm
      subst hp
      have h2 : (j : Int) < (s.size : Int) := by omega
      have hne : w.heap.size ≠ w1.heap.size := by have := HZ1.out; omega
      have hne' : w1.heap.size ≠ w.heap.size := by have := HZ1.out; omega
      go_wp2_with fail
      go_region
      go_wp2_with fail
      obtain ⟨d0, d1, d2⟩ := (box_set3 HBX4.out (.int .i64 0) (.string ⟨#[]⟩) (.slice none 0 0)).cells
      refine bodyPost_ret (v := .tuple #[.agg #[.int .i64 0, .string ⟨#[]⟩, .slice none 0 0], .int .i64 j, .int .i64 71]) (by simp [results, Tryz.results81, go_sem, d0, d1, d2]) rfl ?_
      exact (parse_ends HB4.out (HZT.out _) rfl).drew
    have h2 : (s.size : Int) ≤ (j : Int) := by omega
    have hpv : (if t.valid = true then ((t, 0, 0) : T × Nat × Int) else (.mk 0 ⟨#[]⟩ [], 0, 76)) = p := by have := HP.out; dsimp only [T.parseEnd] at this; rw [if_neg hjs] at this; exact this
    have HPV := Lib.hid hpv
    obtain ⟨q, hq⟩ : ∃ q, t.valid = q := ⟨_, rfl⟩
    have HQ := Lib.hid hq
    clear hpv hq hjs
    cases q
    · have hp : p = (.mk 0 ⟨#[]⟩ [], 0, 76) := by have := HPV.out; rw [if_neg (by rw [HQ.out]; decide)] at this; exact this.symm
      subst hp
      go_wp2_with fail
      refine (rvalid t _ _ HTI4.out.at HJL.out.2 false 76 HQ.out (.inr ⟨rfl, rfl⟩)).mono ?_; rintro e w5 ⟨rfl, hb5⟩
      have hbx5 := HBX4.out.later hb5
      have HB5 := Lib.hid (HB4.out.trans (hb5.mono HB4.out.size)); have HBX5 := Lib.hid hbx5
      clear z0 z1 z2 k0' k1' k2' q0 q1 q2 x0 x1 x2 hb5
      obtain ⟨z0, z1, z2⟩ := hbx5.cells
      obtain ⟨k0', k1', k2'⟩ := hbx5.free
      clear hbx5
      go_wp2_with fail
      obtain ⟨d0, d1, d2⟩ := (box_set3 HBX5.out (.int .i64 0) (.string ⟨#[]⟩) (.slice none 0 0)).cells
      refine bodyPost_ret (v := .tuple #[.agg #[.int .i64 0, .string ⟨#[]⟩, .slice none 0 0], .int .i64 0, .int .i64 76]) (by simp [results, Tryz.results81, go_sem, d0, d1, d2]) rfl ?_
      exact parse_ends HB5.out (HZT.out _) rfl
    · have hp : p = (t, 0, 0) := by have := HPV.out; rw [if_pos HQ.out] at this; exact this.symm
      subst hp
      go_wp2_with fail
      refine (rvalid t _ _ HTI4.out.at HJL.out.2 true 0 HQ.out (.inl ⟨rfl, rfl⟩)).mono ?_; rintro e w5 ⟨rfl, hb5⟩
      have hbx5 := HBX4.out.later hb5
      have hq5 := HQ4.out.later hb5
      have HTI5 := Lib.hid (HTI4.out.keep (w' := w5) (S' := from_ (w.heap.size + 1)) fun b hb hl => ⟨hb, hb5.block b hl⟩)
      have HB5 := Lib.hid (HB4.out.trans (hb5.mono HB4.out.size)); have HBX5 := Lib.hid hbx5
      clear z0 z1 z2 k0' k1' k2' q0 q1 q2 x0 x1 x2 hb5
      obtain ⟨z0, z1, z2⟩ := hbx5.cells
      obtain ⟨k0', k1', k2'⟩ := hbx5.free
      obtain ⟨q0, q1, q2⟩ := hq5.cells
      clear hbx5 hq5
      go_wp2_with fail
      obtain ⟨d0, d1, d2⟩ := (box_set3 HBX5.out (.int .i64 t.kind) (.string t.name) (.slice A3 t.kids.length c3)).cells
      refine bodyPost_ret (v := .tuple #[.agg #[.int .i64 t.kind, .string t.name, .slice A3 t.kids.length c3], .int .i64 0, .int .i64 0]) (by simp [results, Tryz.results81, go_sem, d0, d1, d2]) rfl ?_
      exact parse_ends HB5.out HTI5.out rfl
end Go.Proofs.YtihbmgkbipeakaaGreat

namespace Go.Proofs.YtihbmgkbipeakaaGreat
open Go.RowKit

set_option maxRecDepth 100000 in
set_option maxHeartbeats 4000000 in
theorem law_term (s : ByteArray) (w : World) : Calls Tryz.prog 57 #[.string s] w (RetT (T.parse s).1 w) := by
  have hb0 := Box.new w (.int .i64 0) (.string ⟨#[]⟩) (.slice none 0 0)
  have hw := below_alloc1 w (.cells #[.int .i64 0, .string ⟨#[]⟩, .slice none 0 0] 29)
  have hz := size_alloc1 w (.cells #[.int .i64 0, .string ⟨#[]⟩, .slice none 0 0] 29)
  have HP := Lib.hid (fun W => rparse s W)
  obtain ⟨p, hp⟩ : ∃ p, T.parse s = p := ⟨_, rfl⟩
  rw [hp] at HP ⊢
  clear hp
  obtain ⟨t, i, c⟩ := p
  go_enter Tryz.func57, Tryz.ntmps57
  go_upto_region 1 with fail
  generalize w.alloc (.cells #[.int .i64 0, .string ⟨#[]⟩, .slice none 0 0] 29) = w1 at hb0 hw hz ⊢
  have HB0 := Lib.hid hb0; have HW := Lib.hid hw; have HZ := Lib.hid hz
  clear hb0 hw hz
  go_wp2_with fail
  refine (HP.out _).mono ?_; rintro e w2 ⟨A2, C2, rfl, ht2, hb2⟩
  dsimp only at ht2 ⊢
  have HT2 := Lib.hid (ht2.keep (w' := w2) (S' := from_ (w.heap.size + 1)) fun b hb _ => ⟨decide_eq_true (by have := of_decide_eq_true hb; have := HZ.out; omega), rfl⟩)
  have HB2 := Lib.hid (HB0.out.later hb2); have HW2 := Lib.hid (HW.out.trans (hb2.mono HW.out.size))
  clear ht2 hb2
  go_upto_region 2 with fail
  have hx := Box.new w2 (.int .i64 t.kind) (.string t.name) (.slice A2 t.kids.length C2)
  have hw3 := below_alloc1 w2 (.cells #[.int .i64 t.kind, .string t.name, .slice A2 t.kids.length C2] 29)
  have HB3 := Lib.hid (HB2.out.later hw3); have HW3 := Lib.hid (HW2.out.trans (hw3.mono HW2.out.size))
  have HT3 := Lib.hid (HT2.out.keep (S' := from_ (w.heap.size + 1)) fun b hb hl => ⟨hb, hw3.block b hl⟩)
  generalize w2.alloc (.cells #[.int .i64 t.kind, .string t.name, .slice A2 t.kids.length C2] 29) = w3 at hx HB3 HW3 HT3 ⊢
  obtain ⟨x0, x1, x2⟩ := hx.cells
  obtain ⟨y0, y1, y2⟩ := HB3.out.cells
  obtain ⟨f0, f1, f2⟩ := HB3.out.free
  clear hx hw3
  go_wp2_with fail
  obtain ⟨d0, d1, d2⟩ := (box_set3 HB3.out (.int .i64 t.kind) (.string t.name) (.slice A2 t.kids.length C2)).cells
  refine bodyPost_ret (v := .agg #[.int .i64 t.kind, .string t.name, .slice A2 t.kids.length C2]) (by simp [results, Tryz.results57, go_sem, d0, d1, d2]) rfl ?_
  exact ret_set3 (t := t) _ _ _ HW3.out (Nat.le_refl _) rfl rfl rfl HT3.out
end Go.Proofs.YtihbmgkbipeakaaGreat

namespace Go.Proofs.YtihbmgkbipeakaaGreat
open Go.RowKit

set_option maxRecDepth 100000 in
set_option maxHeartbeats 4000000 in
theorem proper_nil (w : World) : Calls Tryz.prog 78 #[.slice none 0 0] w fun e w' => e = .returned (.bool true) ∧ w = w' := by
  go_enter Tryz.func78, Tryz.ntmps78
  go_wp2_with fail
  go_loopw [7] (fun i wr => i = .int .i64 0 ∧ w = wr) (fun _ _ => 0)
  case atStart => exact ⟨rfl, rfl⟩
  case round =>
    obtain ⟨rfl, rfl⟩ := hrel
    go_wp2_with fail
    go_ret
    exact ⟨rfl, rfl⟩

set_option maxRecDepth 100000 in
set_option maxHeartbeats 4000000 in
theorem value_nil (s : ByteArray) (w : World) : Calls Tryz.prog 117 #[.slice none 0 0, .string s] w fun e w' => e = .returned (.tuple #[.agg #[.int .i64 0, .string ⟨#[]⟩, .slice none 0 0], .bool false]) ∧ Below w.heap.size w w' := by
  have hb0 := Box.new w (.int .i64 0) (.string ⟨#[]⟩) (.slice none 0 0)
  have hw := below_alloc1 w (.cells #[.int .i64 0, .string ⟨#[]⟩, .slice none 0 0] 29)
  go_enter Tryz.func117, Tryz.ntmps117
  go_upto_region 1 with fail
  generalize w.alloc (.cells #[.int .i64 0, .string ⟨#[]⟩, .slice none 0 0] 29) = w1 at hb0 hw ⊢
  have HB := Lib.hid hb0; have HW := Lib.hid hw
  clear hb0 hw
  go_wp2_with fail
  go_loopw [10] (fun i wr => i = .int .i64 0 ∧ w1 = wr) (fun _ _ => 0)
  case atStart => exact ⟨rfl, rfl⟩
  case round =>
    obtain ⟨rfl, rfl⟩ := hrel
    obtain ⟨y0, y1, y2⟩ := HB.out.cells
    obtain ⟨f0, f1, f2⟩ := HB.out.free
    go_wp2_with fail
    obtain ⟨d0, d1, d2⟩ := (box_set3 HB.out (.int .i64 0) (.string ⟨#[]⟩) (.slice none 0 0)).cells
    refine bodyPost_ret (v := .tuple #[.agg #[.int .i64 0, .string ⟨#[]⟩, .slice none 0 0], .bool false]) (by simp [results, Tryz.results117, go_sem, d0, d1, d2]) rfl ?_
    exact ⟨rfl, ((HW.out.setCell (Nat.le_refl _) _).setCell (Nat.le_refl _) _).setCell (Nat.le_refl _) _⟩

set_option maxRecDepth 100000 in
set_option maxHeartbeats 4000000 in
theorem search_nil (s : ByteArray) (f : Value) (w : World) : Calls Tryz.prog 145 #[.slice none 0 0, .string s, f] w fun e w' => e = .returned (.tuple #[.int .i64 0, .bool false]) ∧ w = w' := by
  go_enter Tryz.func145, Tryz.ntmps145
  go_wp2_with fail
  go_loopw [9, 10] (fun i j wr => i = .int .i64 0 ∧ j = .int .i64 0 ∧ w = wr) (fun _ _ _ => 0)
  case atStart => exact ⟨rfl, rfl, rfl⟩
  case round =>
    obtain ⟨rfl, rfl, rfl⟩ := hrel
    go_wp2_with fail
    refine bodyPost_ret (v := .tuple #[.int .i64 0, .bool false]) (by simp [results, Tryz.results145, go_sem]) rfl ?_
    exact ⟨rfl, rfl⟩

set_option maxRecDepth 100000 in
theorem clone_nil (w : World) : Calls Tryz.prog 149 #[.slice none 0 0] w fun e w' => e = .returned (.slice none 0 0) ∧ w = w' := by
  have hc : ∀ W, Sem.run Tryz.prog (binOp BinOp.eql 62 (Value.slice none 0 0) (Value.slice none 0 0)) W = .ok (.bool true) W := fun W => by
    rfl
  go_enter Tryz.func149, Tryz.ntmps149
  go_wp2_with fail
  go_ret
  exact ⟨rfl, rfl⟩
end Go.Proofs.YtihbmgkbipeakaaGreat

namespace Go.Proofs.YtihbmgkbipeakaaGreat
open Go.RowKit

attribute [local go_sem ↓] Go.wp_at_zero Go.wp_at_succ

/-- A list of one binding. -/
def BindAt (w : World) (v : Value) (s : ByteArray) (t : T) : Prop := ∃ (b off cap : Nat) (A : Option Addr) (c : Nat), v = .slice (some ⟨b, off, none⟩) 1 cap ∧ w.cell? ⟨b, off, none⟩ = some (.string s) ∧ w.cell? ⟨b, off + 1, none⟩ = some (.int .i64 t.kind) ∧
  w.cell? ⟨b, off + 2, none⟩ = some (.string t.name) ∧ w.cell? ⟨b, off + 3, none⟩ = some (.slice A t.kids.length c) ∧ TermAt w (.agg #[.int .i64 t.kind, .string t.name, .slice A t.kids.length c]) t
theorem BindAt.later {w w' : World} {v : Value} {s : ByteArray} {t : T} (h : BindAt w v s t) (hb : Below w.heap.size w w') : BindAt w' v s t := by
  obtain ⟨b, off, cap, A, c, e, h0, h1, h2, h3, h4⟩ := h
  exact ⟨b, off, cap, A, c, e, cell_later hb h0, cell_later hb h1, cell_later hb h2, cell_later hb h3, h4.later hb⟩
theorem Tryz.infoB : (Tryz.prog.info? 66).map (fun i => (i.zero, i.size, i.bytes)) = some (some (.agg #[.string ByteArray.empty, .int .i64 0, .string ByteArray.empty, .slice none 0 0]), 4, 64) := by kernel_rfl
theorem own_bind {w : World} {base g cap : Nat} {s : ByteArray} {t : T} {A : Option Addr} {c : Nat} (h : w.ownsRow base 66 4 (.slice (some ⟨g, 0, none⟩) 1 cap) 1 ([] ++ [.string s, .int .i64 t.kind, .string t.name, .slice A t.kids.length c]))
    (ht : TermAt w (.agg #[.int .i64 t.kind, .string t.name, .slice A t.kids.length c]) t) : BindAt w (.slice (some ⟨g, 0, none⟩) 1 cap) s t := by
  have hc : ∀ j u, ([] ++ [Value.string s, .int .i64 t.kind, .string t.name, .slice A t.kids.length c])[j]? = some u → w.cell? ⟨g, j, none⟩ = some u := fun j u hu => by
    have := h.cells (g := g) rfl j u hu
    rw [Go.WideShapes.add_plain] at this; simpa using this
  exact ⟨g, 0, cap, A, c, rfl, hc 0 _ rfl, hc 1 _ rfl, hc 2 _ rfl, hc 3 _ rfl, ht⟩
theorem bind_one (s : ByteArray) (t : T) (A : Option Addr) (c : Nat) : ∀ u ∈ [Value.string s, .int .i64 t.kind, .string t.name, .slice A t.kids.length c], u.oneCell' = true := by
  intro u hu
  simp only [List.mem_cons, List.not_mem_nil, or_false] at hu
  rcases hu with rfl | rfl | rfl | rfl <;> rfl

set_option maxRecDepth 100000 in
set_option maxHeartbeats 4000000 in
theorem insert_nil (s : ByteArray) (t : T) (A : Option Addr) (c : Nat) (g : Nat) (w : World) (hg : w.heap[g]? = some (.cells #[.string s, .int .i64 t.kind, .string t.name, .slice A t.kids.length c] 66 (0, 0)))
    (ht : TermAt w (.agg #[.int .i64 t.kind, .string t.name, .slice A t.kids.length c]) t) :
    Calls Tryz.prog 148 #[.slice none 0 0, .int .i64 0, .slice (some ⟨g, 0, none⟩) 1 1] w fun e w' => ∃ v, e = .returned v ∧ BindAt w' v s t ∧ Below w.heap.size w w' := by
  obtain ⟨i0, hi0, hz0, hz1, hz2⟩ := info_parts Tryz.infoB
  have HONE := Lib.hid (bind_one s t A c)
  have HOWN := Lib.hid (World.ownsRow_nil w w.heap.size 66 4)
  have HG := Lib.hid hg; have HT := Lib.hid ht
  clear hg ht
  go_enter Tryz.func148, Tryz.ntmps148
  go_wp2_with (at_builtin; refine wpList_append_lies _ rfl _ _ 62 rfl w.heap.size 66 i0 _ 4 64 Tryz.underlying62 hi0 hz0 hz1 hz2 rfl (by omega) _ 0 _ rfl HOWN.out ⟨g, 0, none⟩ 1 1 _ rfl rfl (World.news_of_block HG.out) HONE.out (by omega) (by unfold maxLen; omega) (by omega) (Nat.le_refl _) _ rfl ?_; intro g4 cap4 w4 hown4 hg4 hat4 hlt4)
  go_ret
  have hbw : Below w.heap.size w w4 := (Below.refl _ _).grown hg4 (Nat.le_refl _) (fun k hk => by cases hk)
  exact ⟨_, rfl, own_bind hown4 (HT.out.later hbw), hbw⟩

set_option maxRecDepth 100000 in
set_option maxHeartbeats 8000000 in
theorem bind_nil (s : ByteArray) (t : T) (v : Value) (w : World) (ht : TermAt w v t) :
    Calls Tryz.prog 119 #[.slice none 0 0, .string s, v] w fun e w' => ∃ v', e = .returned v' ∧ BindAt w' v' s t ∧ Below w.heap.size w w' := by
  obtain ⟨A, cap, rfl⟩ := TermIn.view ht.inAll
  have bx := Box.new w (.int .i64 t.kind) (.string t.name) (.slice A t.kids.length cap)
  have hw := below_alloc1 w (.cells #[.int .i64 t.kind, .string t.name, .slice A t.kids.length cap] 29)
  have ht1 := ht.later hw
  clear ht
  go_enter Tryz.func119, Tryz.ntmps119
  go_upto_region 1 with fail
  generalize w.alloc (.cells #[.int .i64 t.kind, .string t.name, .slice A t.kids.length cap] 29) = w1 at bx hw ht1 ⊢
  obtain ⟨x0, x1, x2⟩ := bx.cells
  have HW := Lib.hid hw
  have HINS := Lib.hid (fun (W : World) (hW : W = w1.drew.alloc (.cells #[.string s, .int .i64 t.kind, .string t.name, .slice A t.kids.length cap] 66)) =>
    show Calls Tryz.prog 148 #[.slice none 0 0, .int .i64 0, .slice (some ⟨w1.heap.size, 0, none⟩) 1 1] W fun e w' => ∃ v, e = .returned v ∧ BindAt w' v s t ∧ Below w.heap.size w w' by
      subst hW
      refine (insert_nil s t A cap w1.heap.size _ (heap_alloc_new w1.drew _) ((TermAt.drew ht1).later (below_alloc1 w1.drew _))).mono ?_
      rintro e w' ⟨v, h1, h2, h3⟩
      have hd := hw.drew
      exact ⟨v, h1, h2, (hd.trans ((below_alloc1 w1.drew _).mono hd.size)).trans (h3.mono (by rw [size_alloc1]; have := hd.size; omega))⟩)
  clear bx hw ht1
  go_wp2_with fail
  refine (search_nil s _ _).mono ?_; rintro e w2 ⟨rfl, rfl⟩
  go_upto_region 2 with fail
  refine wp_region_any (by kernel_rfl) ?_
  (try (change wpAny _ _ _ _ _ _ _ (World.drew _)))
  (refine wpAny_take (i := 0) (v := ?_) (by simp only [List.getElem?_toArray, List.getElem?_cons_zero]; rfl) (by kernel_rfl) (by kernel_rfl) (by kernel_rfl) (by exact fun _ _ _ h => h) (Or.inl ⟨by rfl, ?_⟩) ?_; rotate_left 1; · (intro w; go_simp; (try with_reducible rfl)))
  (refine wpAny_take (i := 2) (v := ?_) (by simp only [List.getElem?_toArray, List.getElem?_cons_succ, List.getElem?_cons_zero]; rfl) (by kernel_rfl) (by kernel_rfl) (by kernel_rfl) (by exact fun _ _ _ h => h) (Or.inl ⟨by rfl, ?_⟩) ?_; rotate_left 1; · (intro w; go_simp; (try with_reducible rfl)))
  (refine wpAny_take (i := 3) (v := ?_) (by simp only [List.getElem?_toArray, List.getElem?_cons_succ, List.getElem?_cons_zero]; rfl) (by kernel_rfl) (by kernel_rfl) (by kernel_rfl) (by exact fun _ _ _ h => h) (Or.inl ⟨by rfl, ?_⟩) ?_; rotate_left 1; · (intro w; go_simp; (try with_reducible rfl)))
  refine wpAny_ready (rs := [1, 4]) (by kernel_rfl) (by simp) ?_
  refine AllReady.cons (by simp only [List.getElem?_toArray, List.getElem?_cons_succ, List.getElem?_cons_zero]; rfl) (fun K hK => ?_) ?_
  · (go_simp; go_at_call 149; refine (clone_nil _).mono ?_; rintro e w' ⟨rfl, rfl⟩)
    (first | (refine hK _ _ ?_; clear hK K) | skip)
    refine wpAny_ready (rs := [4]) (by kernel_rfl) (by simp) ?_
    refine AllReady.cons (by simp only [List.getElem?_toArray, List.getElem?_cons_succ, List.getElem?_cons_zero]; rfl) (fun K hK => ?_) ?_
    · go_simp
      (first | (refine hK _ _ ?_; clear hK K) | skip)
      (refine wpAny_take (i := 5) (v := ?_) (by simp only [List.getElem?_toArray, List.getElem?_cons_succ, List.getElem?_cons_zero]; rfl) (by kernel_rfl) (by kernel_rfl) (by kernel_rfl) (by exact fun _ _ _ h => h) (Or.inl ⟨by rfl, ?_⟩) ?_; rotate_left 1; · (intro w; go_simp; (try with_reducible rfl)))
      refine wpAny_ready (rs := [6]) (by kernel_rfl) (by simp) ?_
      refine AllReady.cons (by simp only [List.getElem?_toArray, List.getElem?_cons_succ, List.getElem?_cons_zero]; rfl) (fun K hK => ?_) ?_
      · go_simp
        (first | (refine hK _ _ ?_; clear hK K) | skip)
        refine wpAny_ready (rs := [7]) (by kernel_rfl) (by simp) ?_
        refine AllReady.cons (by simp only [List.getElem?_toArray, List.getElem?_cons_succ, List.getElem?_cons_zero]; rfl) (fun K hK => ?_) ?_
        · (go_simp; go_at_call 148; refine (HINS.out _ rfl).mono ?_; rintro e w9 ⟨v9, rfl, hv9, hb9⟩)
          (first | (refine hK _ _ ?_; clear hK K) | skip)
          (refine wpAny_take (i := 8) (v := ?_) (by simp only [List.getElem?_toArray, List.getElem?_cons_succ, List.getElem?_cons_zero]; rfl) (by kernel_rfl) (by kernel_rfl) (by kernel_rfl) (by exact fun _ _ _ h => h) (Or.inl ⟨by rfl, ?_⟩) ?_; rotate_left 1; · (intro w; go_simp; (try with_reducible rfl)))
          refine wpAny_done (by kernel_rfl) ?_ _
          have HV9 := Lib.hid hv9; have HB9 := Lib.hid hb9
          clear hv9 hb9
          go_wp2_with fail
          go_ret
          exact ⟨_, rfl, HV9.out, HB9.out⟩
        exact AllReady.nil
      exact AllReady.nil
    exact AllReady.nil
  refine AllReady.cons (by simp only [List.getElem?_toArray, List.getElem?_cons_succ, List.getElem?_cons_zero]; rfl) (fun K hK => ?_) ?_
  · go_simp
    (first | (refine hK _ _ ?_; clear hK K) | skip)
    (refine wpAny_take (i := 5) (v := ?_) (by simp only [List.getElem?_toArray, List.getElem?_cons_succ, List.getElem?_cons_zero]; rfl) (by kernel_rfl) (by kernel_rfl) (by kernel_rfl) (by exact fun _ _ _ h => h) (Or.inl ⟨by rfl, ?_⟩) ?_; rotate_left 1; · (intro w; go_simp; (try with_reducible rfl)))
    refine wpAny_ready (rs := [1, 6]) (by kernel_rfl) (by simp) ?_
    refine AllReady.cons (by simp only [List.getElem?_toArray, List.getElem?_cons_succ, List.getElem?_cons_zero]; rfl) (fun K hK => ?_) ?_
    · (go_simp; go_at_call 149; refine (clone_nil _).mono ?_; rintro e w' ⟨rfl, rfl⟩)
      (first | (refine hK _ _ ?_; clear hK K) | skip)
      refine wpAny_ready (rs := [6]) (by kernel_rfl) (by simp) ?_
      refine AllReady.cons (by simp only [List.getElem?_toArray, List.getElem?_cons_succ, List.getElem?_cons_zero]; rfl) (fun K hK => ?_) ?_
      · go_simp
        (first | (refine hK _ _ ?_; clear hK K) | skip)
        refine wpAny_ready (rs := [7]) (by kernel_rfl) (by simp) ?_
        refine AllReady.cons (by simp only [List.getElem?_toArray, List.getElem?_cons_succ, List.getElem?_cons_zero]; rfl) (fun K hK => ?_) ?_
        · (go_simp; go_at_call 148; refine (HINS.out _ rfl).mono ?_; rintro e w9 ⟨v9, rfl, hv9, hb9⟩)
          (first | (refine hK _ _ ?_; clear hK K) | skip)
          (refine wpAny_take (i := 8) (v := ?_) (by simp only [List.getElem?_toArray, List.getElem?_cons_succ, List.getElem?_cons_zero]; rfl) (by kernel_rfl) (by kernel_rfl) (by kernel_rfl) (by exact fun _ _ _ h => h) (Or.inl ⟨by rfl, ?_⟩) ?_; rotate_left 1; · (intro w; go_simp; (try with_reducible rfl)))
          refine wpAny_done (by kernel_rfl) ?_ _
          have HV9 := Lib.hid hv9; have HB9 := Lib.hid hb9
          clear hv9 hb9
          go_wp2_with fail
          go_ret
          exact ⟨_, rfl, HV9.out, HB9.out⟩
        exact AllReady.nil
      exact AllReady.nil
    refine AllReady.cons (by simp only [List.getElem?_toArray, List.getElem?_cons_succ, List.getElem?_cons_zero]; rfl) (fun K hK => ?_) ?_
    · go_simp
      (first | (refine hK _ _ ?_; clear hK K) | skip)
      refine wpAny_ready (rs := [1]) (by kernel_rfl) (by simp) ?_
      refine AllReady.cons (by simp only [List.getElem?_toArray, List.getElem?_cons_succ, List.getElem?_cons_zero]; rfl) (fun K hK => ?_) ?_
      · (go_simp; go_at_call 149; refine (clone_nil _).mono ?_; rintro e w' ⟨rfl, rfl⟩)
        (first | (refine hK _ _ ?_; clear hK K) | skip)
        refine wpAny_ready (rs := [7]) (by kernel_rfl) (by simp) ?_
        refine AllReady.cons (by simp only [List.getElem?_toArray, List.getElem?_cons_succ, List.getElem?_cons_zero]; rfl) (fun K hK => ?_) ?_
        · (go_simp; go_at_call 148; refine (HINS.out _ rfl).mono ?_; rintro e w9 ⟨v9, rfl, hv9, hb9⟩)
          (first | (refine hK _ _ ?_; clear hK K) | skip)
          (refine wpAny_take (i := 8) (v := ?_) (by simp only [List.getElem?_toArray, List.getElem?_cons_succ, List.getElem?_cons_zero]; rfl) (by kernel_rfl) (by kernel_rfl) (by kernel_rfl) (by exact fun _ _ _ h => h) (Or.inl ⟨by rfl, ?_⟩) ?_; rotate_left 1; · (intro w; go_simp; (try with_reducible rfl)))
          refine wpAny_done (by kernel_rfl) ?_ _
          have HV9 := Lib.hid hv9; have HB9 := Lib.hid hb9
          clear hv9 hb9
          go_wp2_with fail
          go_ret
          exact ⟨_, rfl, HV9.out, HB9.out⟩
        exact AllReady.nil
      exact AllReady.nil
    exact AllReady.nil
  exact AllReady.nil

set_option maxRecDepth 100000 in
set_option maxHeartbeats 4000000 in
theorem value_one (s : ByteArray) (t : T) (v : Value) (w : World) (hv : BindAt w v s t) :
    Calls Tryz.prog 117 #[v, .string s] w fun e w' => ∃ A c, e = .returned (.tuple #[.agg #[.int .i64 t.kind, .string t.name, .slice A t.kids.length c], .bool true]) ∧ TermAt w' (.agg #[.int .i64 t.kind, .string t.name, .slice A t.kids.length c]) t ∧ Below w.heap.size w w' := by
  have hb0 := Box.new w (.int .i64 0) (.string ⟨#[]⟩) (.slice none 0 0)
  have hw := below_alloc1 w (.cells #[.int .i64 0, .string ⟨#[]⟩, .slice none 0 0] 29)
  obtain ⟨b, off, cap, A, c, rfl, d0', d1', d2', d3', ht⟩ := hv
  have d0 := cell_later hw d0'; have d1 := cell_later hw d1'; have d2 := cell_later hw d2'; have d3 := cell_later hw d3'
  have HT := Lib.hid ht
  clear d0' d1' d2' d3' ht
  go_enter Tryz.func117, Tryz.ntmps117
  go_upto_region 1 with fail
  generalize w.alloc (.cells #[.int .i64 0, .string ⟨#[]⟩, .slice none 0 0] 29) = w1 at hb0 hw d0 d1 d2 d3 ⊢
  have HW := Lib.hid hw
  have hx := below_alloc1 w1 (.cells #[.string s, .int .i64 t.kind, .string t.name, .slice A t.kids.length c] 66)
  have HB := Lib.hid (hb0.later hx)
  have HX := Lib.hid (hw.trans (hx.mono hw.size))
  have hnw := heap_alloc_new w1 (.cells #[.string s, .int .i64 t.kind, .string t.name, .slice A t.kids.length c] 66)
  have HN := Lib.hid hnw
  clear hb0 hw hx hnw
  go_wp2_with fail
  go_loopw [10] (fun i wr => i = .int .i64 0 ∧ w1 = wr) (fun _ _ => 0)
  case atStart => exact ⟨rfl, rfl⟩
  case round =>
    obtain ⟨rfl, rfl⟩ := hrel
    go_upto_region 4 with fail
    obtain ⟨g5, hg5⟩ : ∃ g5, w1.heap.size = g5 := ⟨_, rfl⟩
    have hnw := HN.out
    rw [hg5] at hnw ⊢
    generalize w1.alloc (.cells #[.string s, .int .i64 t.kind, .string t.name, .slice A t.kids.length c] 66) = w2 at hnw HB HX HN ⊢
    have y0 : w2.cell? ⟨g5, 0, none⟩ = some (.string s) := by unfold World.cell?; rw [hnw]; rfl
    have y1 : w2.cell? ⟨g5, 1, none⟩ = some (.int .i64 t.kind) := by unfold World.cell?; rw [hnw]; rfl
    have y2 : w2.cell? ⟨g5, 2, none⟩ = some (.string t.name) := by unfold World.cell?; rw [hnw]; rfl
    have y3 : w2.cell? ⟨g5, 3, none⟩ = some (.slice A t.kids.length c) := by unfold World.cell?; rw [hnw]; rfl
    obtain ⟨q0, q1, q2⟩ := HB.out.cells
    obtain ⟨f0, f1, f2⟩ := HB.out.free
    clear hnw hg5 d0 d1 d2 d3
    go_wp2_with fail
    obtain ⟨d0, d1, d2⟩ := (box_set3 HB.out (.int .i64 t.kind) (.string t.name) (.slice A t.kids.length c)).cells
    refine bodyPost_ret (v := .tuple #[.agg #[.int .i64 t.kind, .string t.name, .slice A t.kids.length c], .bool true]) (by simp [results, Tryz.results117, go_sem, d0, d1, d2]) rfl ?_
    have hbf := ((HX.out.setCell (p := ⟨w.heap.size, 0, none⟩) (Nat.le_refl _) (.int .i64 t.kind)).setCell (p := ⟨w.heap.size, 1, none⟩) (Nat.le_refl _) (.string t.name)).setCell (p := ⟨w.heap.size, 2, none⟩) (Nat.le_refl _) (.slice A t.kids.length c)
    exact ⟨A, c, rfl, HT.out.later hbf, hbf⟩
end Go.Proofs.YtihbmgkbipeakaaGreat
