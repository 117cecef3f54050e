/- Chapter 40: the walk of the reference's term. -/
import Derived.Test.YtihbmgkbipeakaaGreatTermRParts
namespace Go.Proofs.YtihbmgkbipeakaaGreat
open Go.RowKit

theorem TermPost.val {ty : TypeId} {w W w5 : World} {g j : Nat} {b : Bool} {s : ByteArray} {r : Except Nat (T × Nat)} {e : Ending} (h : TermPost ty g s W r e w5) (hst : PSt ty w g s W j b) (hgl : g < w.heap.size) :
    ∃ (k0 : Int) (nm : ByteArray) (A3 : Option Addr) (n3 c3 j5 : Nat) (b5 : Bool), e = .returned (.agg #[.int .i64 k0, .string nm, .slice A3 n3 c3]) ∧ PSt ty w g s w5 j5 b5 ∧ TermVal ty w g s w5 (.int .i64 k0) (.string nm) (.slice A3 n3 c3) r := by
  obtain ⟨hg, hr⟩ := h
  rcases r with e4 | ⟨t, j4⟩
  · obtain ⟨hp, k0, nm, A3, n3, c3, he⟩ := hr
    exact ⟨k0, nm, A3, n3, c3, e4, true, he, hst.step hgl hg hp, hp, _, _, _, _, _, rfl, rfl, rfl⟩
  · obtain ⟨hp, A3, c3, he, hti⟩ := hr
    exact ⟨_, _, _, _, _, j4, false, he, hst.step hgl hg hp, hp, A3, c3, rfl, rfl, rfl, hti.keep fun b hb _ => ⟨by have := of_decide_eq_true hb; have := hst.2.2.2; exact decide_eq_true (by omega), rfl⟩⟩
theorem PSt.set1 {ty : TypeId} {w W : World} {g j : Nat} {b : Bool} {s : ByteArray} (h : PSt ty w g s W j b) (hgl : g < w.heap.size) (v : Int) (hv : v = ((j + 1 : Nat) : Int)) : PSt ty w g s (W.setCell ⟨g, 1, none⟩ (.int .i64 v)) (j + 1) b :=
  h.step hgl (grown_set (grown_refl _ _) 1 _) (h.1.set1 (j + 1) v hv)

set_option maxRecDepth 100000 in
set_option maxHeartbeats 8000000 in
theorem rterm : ∀ (f : Nat), f ≤ 8998 → ∀ (g i : Nat) (s : ByteArray) (w : World) (r : Except Nat (T × Nat)), PBox 133 w g s i false → i ≤ s.size → s.size ≤ 4096 → T.pterm s.data.toList f i = some r →
      Calls Tryz.prog 121 #[.pointer (some ⟨g, 0, none⟩)] w (TermPost 133 g s w r) := by
  intro f
  induction f using Nat.strongRecOn with
  | _ f ih =>
  intro hf g i s w r hp hi hs hr
  cases f with
  | zero => cases hr
  | succ f =>
  have hst1 := PSt.start hp
  have HGL := Lib.hid hp.lt
  have HIH := Lib.hid (fun f' (h : f' < f + 1) => ih f' h (by omega))
  clear hp ih
  simp only [T.pterm] at hr
  have i0 : (0 : Int) ≤ (i : Int) := by omega
  go_enter Tryz.func121, Tryz.ntmps121
  go_upto_region 1 with fail
  generalize w.alloc (.cells #[.int .i64 0, .string ⟨#[]⟩, .slice none 0 0] 29) = w1 at hst1 ⊢
  obtain ⟨x0, x1, x2⟩ := hst1.1.cells
  have HST1 := Lib.hid hst1
  clear hst1
  rcases Nat.lt_or_ge i s.size with hlt | hge
  rotate_left
  · have hr' : r = .error i := by
      rw [if_neg (by rw [T.now_past s i hge]; decide), if_neg (by rw [T.now_past s i hge]; decide)] at hr
      have hne : T.nameEnd s.data.toList i = i := by unfold T.nameEnd T.nameRun; rw [if_neg (by rw [T.size_len]; omega)]
      rw [if_pos hne] at hr
      simpa using hr.symm
    subst hr'
    have a1 : (s.size : Int) ≤ (i : Int) := by omega
    have a2 : decide ((s.size : Int) ≤ (i : Int)) = true := decide_eq_true (by omega)
    have a3 : decide (s.size ≤ i) = true := decide_eq_true (by omega)
    clear hr
    go_quiet (fail)
    have HST2 := Lib.hid (HST1.out.drewN nq)
    generalize w1.drewN nq = w2 at HST2 ⊢
    obtain ⟨y0, y1, y2⟩ := HST2.out.1.cells
    obtain ⟨f0, f1, f2⟩ := HST2.out.1.free
    have hp3 := HST2.out.1.set2 true
    have HST3 := Lib.hid (HST2.out.step HGL.out (grown_set (grown_refl _ _) 2 (.bool true)) hp3)
    clear x0 x1 x2 hp3
    go_upto_region 3 with fail
    generalize w2.setCell ⟨g, 2, none⟩ (.bool true) = w3 at HST3 ⊢
    obtain ⟨z0, z1, z2⟩ := HST3.out.2.1.cells
    obtain ⟨k0, k1, k2⟩ := HST3.out.2.1.free
    clear y0 y1 y2 f0 f1 f2
    go_wp2_with fail
    obtain ⟨d0, d1, d2⟩ := (box_set3 HST3.out.2.1 (.int .i64 0) (.string ⟨#[]⟩) (.slice none 0 0)).cells
    refine bodyPost_ret (v := .agg #[.int .i64 0, .string ⟨#[]⟩, .slice none 0 0]) (by simp [results, Tryz.results121, go_sem, d0, d1, d2]) rfl ?_
    exact HST3.out.ends HGL.out ⟨HST3.out.1, _, _, _, _, _, rfl, rfl, rfl⟩
  have a1 : (i : Int) < (s.size : Int) := by omega
  have a2 : decide ((s.size : Int) ≤ (i : Int)) = false := decide_eq_false (by omega)
  have a3 : decide (s.size ≤ i) = false := decide_eq_false (by omega)
  rw [T.now_at s i hlt, T.now_at s i hlt] at hr
  go_quiet (fail)
  have HST2 := Lib.hid (HST1.out.drewN nq)
  generalize w1.drewN nq = w2 at HST2 ⊢
  clear x0 x1 x2
  obtain ⟨x0, x1, x2⟩ := HST2.out.1.cells
  go_upto_region 4 with fail
  go_quiet (fail)
  have HST3 := Lib.hid (HST2.out.drewN nq)
  generalize w2.drewN nq = w3 at HST3 ⊢
  clear x0 x1 x2
  obtain ⟨x0, x1, x2⟩ := HST3.out.1.cells
  obtain ⟨f0, f1, f2⟩ := HST3.out.1.free
  have HR := Lib.hid hr
  clear hr
  rcases Bool.eq_false_or_eq_true (s[i]'hlt == 60) with h60 | h60
  · have hr2 : T.close s.data.toList 3 62 (T.pkids s.data.toList f 2 0 (i + 1)) = some r := by have h := HR.out; rw [if_pos h60] at h; exact h
    have h60' := beq_iff_eq.1 h60
    have e1 : (((s[i]'hlt).toNat : Int) == 63) = false := by rw [h60']; rfl
    have e2 : (((s[i]'hlt).toNat : Int) == 60) = true := by rw [h60']; rfl
    obtain ⟨f', hf', hr3⟩ : ∃ f', f = f' + 1 ∧ T.close s.data.toList 3 62 (T.pkids s.data.toList (f' + 1) 2 0 (i + 1)) = some r := by
      cases f with
      | zero => simp [T.pkids, T.close] at hr2
      | succ f' => exact ⟨f', rfl, hr2⟩
    subst hf'
    have HR3 := Lib.hid hr3
    have HST4 := Lib.hid (HST3.out.set1 HGL.out ((i : Int) + 1) (by push_cast; rfl))
    have HILT := Lib.hid (show i + 1 ≤ s.size from hlt)
    clear hr2 hr3 h60 h60'
    go_wp2_with fail
    generalize w3.setCell ⟨g, 1, none⟩ (.int .i64 ((i : Int) + 1)) = w4 at HST4 ⊢
    refine (rparts f' (by omega) (fun f'' hf'' => HIH.out f'' (by omega)) g (i + 1) 2 3 62 ⟨#[62]⟩ rfl s w4 r HST4.out.1 HILT.out hs (by decide) HR3.out).mono ?_; rintro e w5 hpost
    obtain ⟨k0, nm, A3, n3, c3, j5, b5, rfl, hst5, hval⟩ := hpost.val HST4.out HGL.out
    obtain ⟨z0, z1, z2⟩ := hst5.2.1.cells
    obtain ⟨k0', k1', k2'⟩ := hst5.2.1.free
    have HST5 := Lib.hid hst5; have HVAL := Lib.hid hval
    clear hpost hst5 hval x0 x1 x2 f0 f1 f2
    go_wp2_with fail
    obtain ⟨d0, d1, d2⟩ := (box_set3 HST5.out.2.1 (.int .i64 k0) (.string nm) (.slice A3 n3 c3)).cells
    refine bodyPost_ret (v := .agg #[.int .i64 k0, .string nm, .slice A3 n3 c3]) (by simp [results, Tryz.results121, go_sem, d0, d1, d2]) rfl ?_
    exact HST5.out.ends HGL.out HVAL.out
  obtain ⟨e60, _⟩ := u8_ne h60
  have e60' : (((s[i]'hlt).toNat : Int) == 60) = false := e60
  rcases Bool.eq_false_or_eq_true (s[i]'hlt == 63) with h63 | h63
  · have hr2 : (if T.nameEnd s.data.toList (i + 1) = i + 1 then some (.error (i + 1)) else some (.ok (.mk 2 (T.nameStr s.data.toList (i + 1) (T.nameEnd s.data.toList (i + 1))) [], T.nameEnd s.data.toList (i + 1)))) = some r := by
      have h := HR.out; rw [if_neg (by rw [h60]; decide), if_pos h63] at h; exact h
    obtain ⟨e63, _⟩ := u8_eq h63
    have e63' : (((s[i]'hlt).toNat : Int) == 63) = true := e63
    have HR2 := Lib.hid hr2
    have HST4 := Lib.hid (HST3.out.set1 HGL.out ((i : Int) + 1) (by push_cast; rfl))
    have HILT := Lib.hid (show i + 1 ≤ s.size from hlt)
    clear hr2 h60 h63 e60 e63
    go_wp2_with fail
    generalize w3.setCell ⟨g, 1, none⟩ (.int .i64 ((i : Int) + 1)) = w4 at HST4 ⊢
    refine (rpname g (i + 1) s _ HST4.out.1 HILT.out hs).mono ?_; rintro e w5 ⟨hg5, hnm⟩
    clear x0 x1 x2 f0 f1 f2
    rcases hnm with ⟨hne, rfl, hp5⟩ | ⟨hne, rfl, hp5⟩
    · have hr' : r = .error (i + 1) := by have h := HR2.out; rw [if_pos hne] at h; simpa using h.symm
      subst hr'
      have HST5 := Lib.hid (HST4.out.step HGL.out hg5 hp5)
      obtain ⟨z0, z1, z2⟩ := HST5.out.2.1.cells
      obtain ⟨k0, k1, k2⟩ := HST5.out.2.1.free
      clear hg5 hp5 hne
      go_wp2_with fail
      obtain ⟨d0, d1, d2⟩ := (box_set3 HST5.out.2.1 (.int .i64 2) (.string ⟨#[]⟩) (.slice none 0 0)).cells
      refine bodyPost_ret (v := .agg #[.int .i64 2, .string ⟨#[]⟩, .slice none 0 0]) (by simp [results, Tryz.results121, go_sem, d0, d1, d2]) rfl ?_
      exact HST5.out.ends HGL.out ⟨HST5.out.1, _, _, _, _, _, rfl, rfl, rfl⟩
    · have hr' : r = .ok (.mk 2 (T.nameStr s.data.toList (i + 1) (T.nameEnd s.data.toList (i + 1))) [], T.nameEnd s.data.toList (i + 1)) := by have h := HR2.out; rw [if_neg hne] at h; simpa using h.symm
      have HST5 := Lib.hid (HST4.out.step HGL.out hg5 hp5)
      obtain ⟨z0, z1, z2⟩ := HST5.out.2.1.cells
      obtain ⟨k0, k1, k2⟩ := HST5.out.2.1.free
      have HNL := Lib.hid (T.nameStr_le s.data.toList (i + 1))
      clear hg5 hp5 hne HR HR2
      generalize T.nameStr s.data.toList (i + 1) (T.nameEnd s.data.toList (i + 1)) = nm at HNL hr' ⊢
      subst hr'
      go_wp2_with fail
      obtain ⟨d0, d1, d2⟩ := (box_set3 HST5.out.2.1 (.int .i64 2) (.string nm) (.slice none 0 0)).cells
      refine bodyPost_ret (v := .agg #[.int .i64 2, .string nm, .slice none 0 0]) (by simp [results, Tryz.results121, go_sem, d0, d1, d2]) rfl ?_
      exact HST5.out.ends HGL.out ⟨HST5.out.1, none, 0, rfl, rfl, rfl, atom_in _ _ 2 nm (by decide) (by have := HNL.out; unfold maxLen; omega)⟩
  obtain ⟨e63, _⟩ := u8_ne h63
  have e63' : (((s[i]'hlt).toNat : Int) == 63) = false := e63
  have hr2 := HR.out
  rw [if_neg (by rw [h60]; decide), if_neg (by rw [h63]; decide)] at hr2
  have HR2 := Lib.hid hr2
  clear hr2 h60 h63 e60 e63
  go_wp2_with fail
  refine (rpname g i s _ HST3.out.1 hi hs).mono ?_; rintro e w5 ⟨hg5, hnm⟩
  clear x0 x1 x2 f0 f1 f2
  rcases hnm with ⟨hne, rfl, hp5⟩ | ⟨hne, rfl, hp5⟩
  · have hr' : r = .error i := by have h := HR2.out; rw [if_pos hne] at h; simpa using h.symm
    subst hr'
    have HST5 := Lib.hid (HST3.out.step HGL.out hg5 hp5)
    obtain ⟨x0, x1, x2⟩ := HST5.out.1.cells
    clear hg5 hp5 hne
    go_wp2_with fail
    refine (rfn ⟨#[]⟩ _).mono ?_; rintro e w6 ⟨rfl, rfl⟩
    rw [show T.fnKind ⟨#[]⟩ = 0 by decide, show T.fnKids ⟨#[]⟩ = 0 by decide]
    go_upto_region 13 with fail
    go_quiet (fail)
    have HST6 := Lib.hid (HST5.out.drewN nq)
    generalize w5.drewN nq = w6 at HST6 ⊢
    obtain ⟨z0, z1, z2⟩ := HST6.out.2.1.cells
    obtain ⟨k0, k1, k2⟩ := HST6.out.2.1.free
    go_wp2_with fail
    obtain ⟨d0, d1, d2⟩ := (box_set3 HST6.out.2.1 (.int .i64 1) (.string ⟨#[]⟩) (.slice none 0 0)).cells
    refine bodyPost_ret (v := .agg #[.int .i64 1, .string ⟨#[]⟩, .slice none 0 0]) (by simp [results, Tryz.results121, go_sem, d0, d1, d2]) rfl ?_
    exact HST6.out.ends HGL.out ⟨HST6.out.1, _, _, _, _, _, rfl, rfl, rfl⟩
  have HST5 := Lib.hid (HST3.out.step HGL.out hg5 hp5)
  have HNL := Lib.hid (T.nameStr_le s.data.toList i)
  have hr2 := HR2.out
  rw [if_neg hne] at hr2
  have HEL := Lib.hid (show T.nameEnd s.data.toList i ≤ s.size by have h := T.nameEnd_lt hne; have h2 := T.size_len s; omega)
  clear hg5 hp5 hne HR HR2
  generalize T.nameStr s.data.toList i (T.nameEnd s.data.toList i) = nm at HNL hr2 ⊢
  generalize T.nameEnd s.data.toList i = je at HST5 HEL hr2 ⊢
  obtain ⟨x0, x1, x2⟩ := HST5.out.1.cells
  have HKR := Lib.hid (T.fnKind_range nm)
  have j0 : (0 : Int) ≤ (je : Int) := by omega
  go_wp2_with fail
  refine (rfn nm _).mono ?_; rintro e w6 ⟨rfl, rfl⟩
  generalize T.fnKind nm = kk at HKR hr2 ⊢
  generalize T.fnKids nm = kn at hr2 ⊢
  have hstop : (kk = 0 ∨ (kk ≠ 0 ∧ s.size ≤ je) ∨ (kk ≠ 0 ∧ ∃ h : je < s.size, (s[je] == 40) = false)) ∧ r = .ok (.mk 1 nm [], je) ∨ (kk ≠ 0 ∧ ∃ h : je < s.size, (s[je] == 40) = true) ∧ T.close s.data.toList kk 41 (T.pkids s.data.toList f kn 0 (je + 1)) = some r := by
    by_cases hk0 : kk = 0
    · left; exact ⟨.inl hk0, by rw [if_pos (.inl hk0)] at hr2; simpa using hr2.symm⟩
    · rcases Nat.lt_or_ge je s.size with g1 | g1
      · rw [T.now_at s je g1] at hr2
        rcases Bool.eq_false_or_eq_true (s[je] == 40) with h | h
        · right; rw [if_neg (by rintro (h' | h'); exact hk0 h'; rw [h] at h'; cases h')] at hr2; exact ⟨⟨hk0, g1, h⟩, hr2⟩
        · left; rw [if_pos (.inr h)] at hr2; exact ⟨.inr (.inr ⟨hk0, g1, h⟩), by simpa using hr2.symm⟩
      · left; rw [if_pos (.inr (T.now_past s je g1 40))] at hr2; exact ⟨.inr (.inl ⟨hk0, g1⟩), by simpa using hr2.symm⟩
  clear hr2
  rcases hstop with ⟨hcs, hr'⟩ | ⟨⟨hk0, g1, h40⟩, hr3⟩
  · subst hr'
    rcases hcs with hk0 | ⟨hk0, g1⟩ | ⟨hk0, g1, h40⟩
    · have b1 : (kk == 0) = true := by rw [beq_iff_eq]; exact hk0
      clear hk0
      go_upto_region 13 with fail
      go_quiet (fail)
      have HST6 := Lib.hid (HST5.out.drewN nq)
      generalize w5.drewN nq = w6 at HST6 ⊢
      obtain ⟨z0, z1, z2⟩ := HST6.out.2.1.cells
      obtain ⟨k0, k1, k2⟩ := HST6.out.2.1.free
      go_wp2_with fail
      obtain ⟨d0, d1, d2⟩ := (box_set3 HST6.out.2.1 (.int .i64 1) (.string nm) (.slice none 0 0)).cells
      refine bodyPost_ret (v := .agg #[.int .i64 1, .string nm, .slice none 0 0]) (by simp [results, Tryz.results121, go_sem, d0, d1, d2]) rfl ?_
      exact HST6.out.ends HGL.out ⟨HST6.out.1, none, 0, rfl, rfl, rfl, atom_in _ _ 1 nm (by decide) (by have := HNL.out; unfold maxLen; omega)⟩
    · have b1 : (kk == 0) = false := by rw [beq_eq_false_iff_ne]; exact hk0
      have b2 : (s.size : Int) ≤ (je : Int) := by omega
      have b3 : decide ((s.size : Int) ≤ (je : Int)) = true := decide_eq_true (by omega)
      have b4 : decide (s.size ≤ je) = true := decide_eq_true (by omega)
      clear hk0
      go_upto_region 13 with fail
      go_quiet (fail)
      have HST6 := Lib.hid (HST5.out.drewN nq)
      generalize w5.drewN nq = w6 at HST6 ⊢
      obtain ⟨z0, z1, z2⟩ := HST6.out.2.1.cells
      obtain ⟨k0, k1, k2⟩ := HST6.out.2.1.free
      go_wp2_with fail
      obtain ⟨d0, d1, d2⟩ := (box_set3 HST6.out.2.1 (.int .i64 1) (.string nm) (.slice none 0 0)).cells
      refine bodyPost_ret (v := .agg #[.int .i64 1, .string nm, .slice none 0 0]) (by simp [results, Tryz.results121, go_sem, d0, d1, d2]) rfl ?_
      exact HST6.out.ends HGL.out ⟨HST6.out.1, none, 0, rfl, rfl, rfl, atom_in _ _ 1 nm (by decide) (by have := HNL.out; unfold maxLen; omega)⟩
    · have b1 : (kk == 0) = false := by rw [beq_eq_false_iff_ne]; exact hk0
      have b2 : (je : Int) < (s.size : Int) := by omega
      have b3 : decide ((s.size : Int) ≤ (je : Int)) = false := decide_eq_false (by omega)
      have b4 : decide (s.size ≤ je) = false := decide_eq_false (by omega)
      obtain ⟨_, b5⟩ := u8_ne h40
      have b6 : ((s[je].toNat : Int) != 40) = true := b5
      clear hk0 h40 b5
      go_upto_region 13 with fail
      go_quiet (fail)
      have HST6 := Lib.hid (HST5.out.drewN nq)
      generalize w5.drewN nq = w6 at HST6 ⊢
      obtain ⟨z0, z1, z2⟩ := HST6.out.2.1.cells
      obtain ⟨k0, k1, k2⟩ := HST6.out.2.1.free
      go_wp2_with fail
      obtain ⟨d0, d1, d2⟩ := (box_set3 HST6.out.2.1 (.int .i64 1) (.string nm) (.slice none 0 0)).cells
      refine bodyPost_ret (v := .agg #[.int .i64 1, .string nm, .slice none 0 0]) (by simp [results, Tryz.results121, go_sem, d0, d1, d2]) rfl ?_
      exact HST6.out.ends HGL.out ⟨HST6.out.1, none, 0, rfl, rfl, rfl, atom_in _ _ 1 nm (by decide) (by have := HNL.out; unfold maxLen; omega)⟩
  · have b1 : (kk == 0) = false := by rw [beq_eq_false_iff_ne]; exact hk0
    have b2 : (je : Int) < (s.size : Int) := by omega
    have b3 : decide ((s.size : Int) ≤ (je : Int)) = false := decide_eq_false (by omega)
    have b4 : decide (s.size ≤ je) = false := decide_eq_false (by omega)
    obtain ⟨_, b5⟩ := u8_eq h40
    have b6 : ((s[je].toNat : Int) != 40) = false := b5
    obtain ⟨f', hf', hr4⟩ : ∃ f', f = f' + 1 ∧ T.close s.data.toList kk 41 (T.pkids s.data.toList (f' + 1) kn 0 (je + 1)) = some r := by
      cases f with
      | zero => simp [T.pkids, T.close] at hr3
      | succ f' => exact ⟨f', rfl, hr3⟩
    subst hf'
    have HR4 := Lib.hid hr4; have HG1 := Lib.hid g1
    clear hr3 hr4 hk0 h40 b5
    go_upto_region 13 with fail
    go_quiet (fail)
    have HST6 := Lib.hid (HST5.out.drewN nq)
    generalize w5.drewN nq = w6 at HST6 ⊢
    clear x0 x1 x2
    obtain ⟨x0, x1, x2⟩ := HST6.out.1.cells
    obtain ⟨f0, f1, f2⟩ := HST6.out.1.free
    have HST7 := Lib.hid (HST6.out.set1 HGL.out ((je : Int) + 1) (by push_cast; rfl))
    go_wp2_with fail
    generalize w6.setCell ⟨g, 1, none⟩ (.int .i64 ((je : Int) + 1)) = w7 at HST7 ⊢
    refine (rparts f' (by omega) (fun f'' hf'' => HIH.out f'' (by omega)) g (je + 1) kn kk 41 ⟨#[41]⟩ rfl s w7 r HST7.out.1 HG1.out hs (by have := HKR.out; omega) HR4.out).mono ?_; rintro e w8 hpost
    obtain ⟨k0, nm', A3, n3, c3, j5, b9, rfl, hst8, hval⟩ := hpost.val HST7.out HGL.out
    obtain ⟨z0, z1, z2⟩ := hst8.2.1.cells
    obtain ⟨k0', k1', k2'⟩ := hst8.2.1.free
    have HST8 := Lib.hid hst8; have HVAL := Lib.hid hval
    clear hpost hst8 hval x0 x1 x2 f0 f1 f2
    go_wp2_with fail
    obtain ⟨d0, d1, d2⟩ := (box_set3 HST8.out.2.1 (.int .i64 k0) (.string nm') (.slice A3 n3 c3)).cells
    refine bodyPost_ret (v := .agg #[.int .i64 k0, .string nm', .slice A3 n3 c3]) (by simp [results, Tryz.results121, go_sem, d0, d1, d2]) rfl ?_
    exact HST8.out.ends HGL.out HVAL.out
end Go.Proofs.YtihbmgkbipeakaaGreat
