/- Several texts in one: TermRTerm, TermPParse, TermRParse, WebTm, WebAk, TermTerm. -/
import Derived.Test.YtihbmgkbipeakaaGreatWebG20
import Derived.Test.YtihbmgkbipeakaaGreatWebG10
import Derived.BigRegion
import Derived.Test.YtihbmgkbipeakaaGreatWebG18
namespace Go.Proofs.YtihbmgkbipeakaaGreat
open Go.RowKit

theorem TermPost.val {ty : TypeId} {w W w5 : World} {g j : Nat} {b : Bool} {s : ByteArray} {r : Except Nat (T × Nat)} {e : Ending} (h : TermPost ty g s W r e w5) (hst : PSt ty w g s W j b) (hgl : g < w.heap.size) :
    ∃ (k0 : Int) (nm : ByteArray) (A3 : Option Addr) (n3 c3 j5 : Nat) (b5 : Bool), e = .returned (.agg #[.int .i64 k0, .string nm, .slice A3 n3 c3]) ∧ PSt ty w g s w5 j5 b5 ∧ TermVal ty w g s w5 (.int .i64 k0) (.string nm) (.slice A3 n3 c3) r := by
  obtain ⟨hg, hr⟩ := h
  rcases r with e4 | ⟨t, j4⟩
  · obtain ⟨hp, k0, nm, A3, n3, c3, he⟩ := hr
    exact ⟨k0, nm, A3, n3, c3, e4, true, he, hst.step hgl hg hp, hp, _, _, _, _, _, rfl, rfl, rfl⟩
  · obtain ⟨hp, A3, c3, he, hti⟩ := hr
    exact ⟨_, _, _, _, _, j4, false, he, hst.step hgl hg hp, hp, A3, c3, rfl, rfl, rfl, hti.keep fun b hb _ => ⟨by have := of_decide_eq_true hb; have := hst.2.2.2; exact decide_eq_true (by omega), rfl⟩⟩
theorem PSt.set1 {ty : TypeId} {w W : World} {g j : Nat} {b : Bool} {s : ByteArray} (h : PSt ty w g s W j b) (hgl : g < w.heap.size) (v : Int) (hv : v = ((j + 1 : Nat) : Int)) : PSt ty w g s (W.setCell ⟨g, 1, none⟩ (.int .i64 v)) (j + 1) b :=
  h.step hgl (grown_set (grown_refl _ _) 1 _) (h.1.set1 (j + 1) v hv)

set_option maxRecDepth 100000 in
set_option maxHeartbeats 8000000 in
theorem rterm : ∀ (f : Nat), f ≤ 8998 → ∀ (g i : Nat) (s : ByteArray) (w : World) (r : Except Nat (T × Nat)), PBox 133 w g s i false → i ≤ s.size → s.size ≤ 4096 → T.pterm s.data.toList f i = some r →
      Calls Tryz.prog 121 #[.pointer (some ⟨g, 0, none⟩)] w (TermPost 133 g s w r) := by
  intro f
  induction f using Nat.strongRecOn with
  | _ f ih =>
  intro hf g i s w r hp hi hs hr
  cases f with
  | zero => cases hr
  | succ f =>
  have hst1 := PSt.start hp
  have HGL := Lib.hid hp.lt
  have HIH := Lib.hid (fun f' (h : f' < f + 1) => ih f' h (by omega))
  clear hp ih
  simp only [T.pterm] at hr
  have i0 : (0 : Int) ≤ (i : Int) := by omega
  go_enter Tryz.func121, Tryz.ntmps121
  go_upto_region 1 with fail
  generalize w.alloc (.cells #[.int .i64 0, .string ⟨#[]⟩, .slice none 0 0] 29) = w1 at hst1 ⊢
  obtain ⟨x0, x1, x2⟩ := hst1.1.cells
  have HST1 := Lib.hid hst1
  clear hst1
  rcases Nat.lt_or_ge i s.size with hlt | hge
  rotate_left
  · have hr' : r = .error i := by
      rw [if_neg (by rw [T.now_past s i hge]; decide), if_neg (by rw [T.now_past s i hge]; decide)] at hr
      have hne : T.nameEnd s.data.toList i = i := by unfold T.nameEnd T.nameRun; rw [if_neg (by rw [T.size_len]; omega)]
      rw [if_pos hne] at hr
      simpa using hr.symm
    subst hr'
    have a1 : (s.size : Int) ≤ (i : Int) := by omega
    have a2 : decide ((s.size : Int) ≤ (i : Int)) = true := decide_eq_true (by omega)
    have a3 : decide (s.size ≤ i) = true := decide_eq_true (by omega)
    clear hr
    go_quiet (fail)
    have HST2 := Lib.hid (HST1.out.drewN nq)
    generalize w1.drewN nq = w2 at HST2 ⊢
    obtain ⟨y0, y1, y2⟩ := HST2.out.1.cells
    obtain ⟨f0, f1, f2⟩ := HST2.out.1.free
    have hp3 := HST2.out.1.set2 true
    have HST3 := Lib.hid (HST2.out.step HGL.out (grown_set (grown_refl _ _) 2 (.bool true)) hp3)
    clear x0 x1 x2 hp3
    go_upto_region 3 with fail
    generalize w2.setCell ⟨g, 2, none⟩ (.bool true) = w3 at HST3 ⊢
    obtain ⟨z0, z1, z2⟩ := HST3.out.2.1.cells
    obtain ⟨k0, k1, k2⟩ := HST3.out.2.1.free
    clear y0 y1 y2 f0 f1 f2
    go_wp2_with fail
    obtain ⟨d0, d1, d2⟩ := (box_set3 HST3.out.2.1 (.int .i64 0) (.string ⟨#[]⟩) (.slice none 0 0)).cells
    refine bodyPost_ret (v := .agg #[.int .i64 0, .string ⟨#[]⟩, .slice none 0 0]) (by simp [results, Tryz.results121, go_sem, d0, d1, d2]) rfl ?_
    exact HST3.out.ends HGL.out ⟨HST3.out.1, _, _, _, _, _, rfl, rfl, rfl⟩
  have a1 : (i : Int) < (s.size : Int) := by omega
  have a2 : decide ((s.size : Int) ≤ (i : Int)) = false := decide_eq_false (by omega)
  have a3 : decide (s.size ≤ i) = false := decide_eq_false (by omega)
  rw [T.now_at s i hlt, T.now_at s i hlt] at hr
  go_quiet (fail)
  have HST2 := Lib.hid (HST1.out.drewN nq)
  generalize w1.drewN nq = w2 at HST2 ⊢
  clear x0 x1 x2
  obtain ⟨x0, x1, x2⟩ := HST2.out.1.cells
  go_upto_region 4 with fail
  go_quiet (fail)
  have HST3 := Lib.hid (HST2.out.drewN nq)
  generalize w2.drewN nq = w3 at HST3 ⊢
  clear x0 x1 x2
  obtain ⟨x0, x1, x2⟩ := HST3.out.1.cells
  obtain ⟨f0, f1, f2⟩ := HST3.out.1.free
  have HR := Lib.hid hr
  clear hr
  rcases Bool.eq_false_or_eq_true (s[i]'hlt == 60) with h60 | h60
  · have hr2 : T.close s.data.toList 3 62 (T.pkids s.data.toList f 2 0 (i + 1)) = some r := by have h := HR.out; rw [if_pos h60] at h; exact h
    have h60' := beq_iff_eq.1 h60
    have e1 : (((s[i]'hlt).toNat : Int) == 63) = false := by rw [h60']; rfl
    have e2 : (((s[i]'hlt).toNat : Int) == 60) = true := by rw [h60']; rfl
    obtain ⟨f', hf', hr3⟩ : ∃ f', f = f' + 1 ∧ T.close s.data.toList 3 62 (T.pkids s.data.toList (f' + 1) 2 0 (i + 1)) = some r := by
      cases f with
      | zero => simp [T.pkids, T.close] at hr2
      | succ f' => exact ⟨f', rfl, hr2⟩
    subst hf'
    have HR3 := Lib.hid hr3
    have HST4 := Lib.hid (HST3.out.set1 HGL.out ((i : Int) + 1) (by push_cast; rfl))
    have HILT := Lib.hid (show i + 1 ≤ s.size from hlt)
    clear hr2 hr3 h60 h60'
    go_wp2_with fail
    generalize w3.setCell ⟨g, 1, none⟩ (.int .i64 ((i : Int) + 1)) = w4 at HST4 ⊢
    refine (rparts f' (by omega) (fun f'' hf'' => HIH.out f'' (by omega)) g (i + 1) 2 3 62 ⟨#[62]⟩ rfl s w4 r HST4.out.1 HILT.out hs (by decide) HR3.out).mono ?_; rintro e w5 hpost
    obtain ⟨k0, nm, A3, n3, c3, j5, b5, rfl, hst5, hval⟩ := hpost.val HST4.out HGL.out
    obtain ⟨z0, z1, z2⟩ := hst5.2.1.cells
    obtain ⟨k0', k1', k2'⟩ := hst5.2.1.free
    have HST5 := Lib.hid hst5; have HVAL := Lib.hid hval
    clear hpost hst5 hval x0 x1 x2 f0 f1 f2
    go_wp2_with fail
    obtain ⟨d0, d1, d2⟩ := (box_set3 HST5.out.2.1 (.int .i64 k0) (.string nm) (.slice A3 n3 c3)).cells
    refine bodyPost_ret (v := .agg #[.int .i64 k0, .string nm, .slice A3 n3 c3]) (by simp [results, Tryz.results121, go_sem, d0, d1, d2]) rfl ?_
    exact HST5.out.ends HGL.out HVAL.out
  obtain ⟨e60, _⟩ := u8_ne h60
  have e60' : (((s[i]'hlt).toNat : Int) == 60) = false := e60
  rcases Bool.eq_false_or_eq_true (s[i]'hlt == 63) with h63 | h63
  · have hr2 : (if T.nameEnd s.data.toList (i + 1) = i + 1 then some (.error (i + 1)) else some (.ok (.mk 2 (T.nameStr s.data.toList (i + 1) (T.nameEnd s.data.toList (i + 1))) [], T.nameEnd s.data.toList (i + 1)))) = some r := by
      have h := HR.out; rw [if_neg (by rw [h60]; decide), if_pos h63] at h; exact h
    obtain ⟨e63, _⟩ := u8_eq h63
    have e63' : (((s[i]'hlt).toNat : Int) == 63) = true := e63
    have HR2 := Lib.hid hr2
    have HST4 := Lib.hid (HST3.out.set1 HGL.out ((i : Int) + 1) (by push_cast; rfl))
    have HILT := Lib.hid (show i + 1 ≤ s.size from hlt)
    clear hr2 h60 h63 e60 e63
    go_wp2_with fail
    generalize w3.setCell ⟨g, 1, none⟩ (.int .i64 ((i : Int) + 1)) = w4 at HST4 ⊢
    refine (rpname g (i + 1) s _ HST4.out.1 HILT.out hs).mono ?_; rintro e w5 ⟨hg5, hnm⟩
    clear x0 x1 x2 f0 f1 f2
    rcases hnm with ⟨hne, rfl, hp5⟩ | ⟨hne, rfl, hp5⟩
    · have hr' : r = .error (i + 1) := by have h := HR2.out; rw [if_pos hne] at h; simpa using h.symm
      subst hr'
      have HST5 := Lib.hid (HST4.out.step HGL.out hg5 hp5)
      obtain ⟨z0, z1, z2⟩ := HST5.out.2.1.cells
      obtain ⟨k0, k1, k2⟩ := HST5.out.2.1.free
      clear hg5 hp5 hne
      go_wp2_with fail
      obtain ⟨d0, d1, d2⟩ := (box_set3 HST5.out.2.1 (.int .i64 2) (.string ⟨#[]⟩) (.slice none 0 0)).cells
      refine bodyPost_ret (v := .agg #[.int .i64 2, .string ⟨#[]⟩, .slice none 0 0]) (by simp [results, Tryz.results121, go_sem, d0, d1, d2]) rfl ?_
      exact HST5.out.ends HGL.out ⟨HST5.out.1, _, _, _, _, _, rfl, rfl, rfl⟩
    · have hr' : r = .ok (.mk 2 (T.nameStr s.data.toList (i + 1) (T.nameEnd s.data.toList (i + 1))) [], T.nameEnd s.data.toList (i + 1)) := by have h := HR2.out; rw [if_neg hne] at h; simpa using h.symm
      have HST5 := Lib.hid (HST4.out.step HGL.out hg5 hp5)
      obtain ⟨z0, z1, z2⟩ := HST5.out.2.1.cells
      obtain ⟨k0, k1, k2⟩ := HST5.out.2.1.free
      have HNL := Lib.hid (T.nameStr_le s.data.toList (i + 1))
      clear hg5 hp5 hne HR HR2
      generalize T.nameStr s.data.toList (i + 1) (T.nameEnd s.data.toList (i + 1)) = nm at HNL hr' ⊢
      subst hr'
      go_wp2_with fail
      obtain ⟨d0, d1, d2⟩ := (box_set3 HST5.out.2.1 (.int .i64 2) (.string nm) (.slice none 0 0)).cells
      refine bodyPost_ret (v := .agg #[.int .i64 2, .string nm, .slice none 0 0]) (by simp [results, Tryz.results121, go_sem, d0, d1, d2]) rfl ?_
      exact HST5.out.ends HGL.out ⟨HST5.out.1, none, 0, rfl, rfl, rfl, atom_in _ _ 2 nm (by decide) (by have := HNL.out; unfold maxLen; omega)⟩
  obtain ⟨e63, _⟩ := u8_ne h63
  have e63' : (((s[i]'hlt).toNat : Int) == 63) = false := e63
  have hr2 := HR.out
  rw [if_neg (by rw [h60]; decide), if_neg (by rw [h63]; decide)] at hr2
  have HR2 := Lib.hid hr2
  clear hr2 h60 h63 e60 e63
  go_wp2_with fail
  refine (rpname g i s _ HST3.out.1 hi hs).mono ?_; rintro e w5 ⟨hg5, hnm⟩
  clear x0 x1 x2 f0 f1 f2
  rcases hnm with ⟨hne, rfl, hp5⟩ | ⟨hne, rfl, hp5⟩
  · have hr' : r = .error i := by have h := HR2.out; rw [if_pos hne] at h; simpa using h.symm
    subst hr'
    have HST5 := Lib.hid (HST3.out.step HGL.out hg5 hp5)
    obtain ⟨x0, x1, x2⟩ := HST5.out.1.cells
    clear hg5 hp5 hne
    go_wp2_with fail
    refine (rfn ⟨#[]⟩ _).mono ?_; rintro e w6 ⟨rfl, rfl⟩
    rw [show T.fnKind ⟨#[]⟩ = 0 by decide, show T.fnKids ⟨#[]⟩ = 0 by decide]
    go_upto_region 13 with fail
    go_quiet (fail)
    have HST6 := Lib.hid (HST5.out.drewN nq)
    generalize w5.drewN nq = w6 at HST6 ⊢
    obtain ⟨z0, z1, z2⟩ := HST6.out.2.1.cells
    obtain ⟨k0, k1, k2⟩ := HST6.out.2.1.free
    go_wp2_with fail
    obtain ⟨d0, d1, d2⟩ := (box_set3 HST6.out.2.1 (.int .i64 1) (.string ⟨#[]⟩) (.slice none 0 0)).cells
    refine bodyPost_ret (v := .agg #[.int .i64 1, .string ⟨#[]⟩, .slice none 0 0]) (by simp [results, Tryz.results121, go_sem, d0, d1, d2]) rfl ?_
    exact HST6.out.ends HGL.out ⟨HST6.out.1, _, _, _, _, _, rfl, rfl, rfl⟩
  have HST5 := Lib.hid (HST3.out.step HGL.out hg5 hp5)
  have HNL := Lib.hid (T.nameStr_le s.data.toList i)
  have hr2 := HR2.out
  rw [if_neg hne] at hr2
  have HEL := Lib.hid (show T.nameEnd s.data.toList i ≤ s.size by have h := T.nameEnd_lt hne; have h2 := T.size_len s; omega)
  clear hg5 hp5 hne HR HR2
  generalize T.nameStr s.data.toList i (T.nameEnd s.data.toList i) = nm at HNL hr2 ⊢
  generalize T.nameEnd s.data.toList i = je at HST5 HEL hr2 ⊢
  obtain ⟨x0, x1, x2⟩ := HST5.out.1.cells
  have HKR := Lib.hid (T.fnKind_range nm)
  have j0 : (0 : Int) ≤ (je : Int) := by omega
  go_wp2_with fail
  refine (rfn nm _).mono ?_; rintro e w6 ⟨rfl, rfl⟩
  generalize T.fnKind nm = kk at HKR hr2 ⊢
  generalize T.fnKids nm = kn at hr2 ⊢
  have hstop : (kk = 0 ∨ (kk ≠ 0 ∧ s.size ≤ je) ∨ (kk ≠ 0 ∧ ∃ h : je < s.size, (s[je] == 40) = false)) ∧ r = .ok (.mk 1 nm [], je) ∨ (kk ≠ 0 ∧ ∃ h : je < s.size, (s[je] == 40) = true) ∧ T.close s.data.toList kk 41 (T.pkids s.data.toList f kn 0 (je + 1)) = some r := by
    by_cases hk0 : kk = 0
    · left; exact ⟨.inl hk0, by rw [if_pos (.inl hk0)] at hr2; simpa using hr2.symm⟩
    · rcases Nat.lt_or_ge je s.size with g1 | g1
      · rw [T.now_at s je g1] at hr2
        rcases Bool.eq_false_or_eq_true (s[je] == 40) with h | h
        · right; rw [if_neg (by rintro (h' | h'); exact hk0 h'; rw [h] at h'; cases h')] at hr2; exact ⟨⟨hk0, g1, h⟩, hr2⟩
        · left; rw [if_pos (.inr h)] at hr2; exact ⟨.inr (.inr ⟨hk0, g1, h⟩), by simpa using hr2.symm⟩
      · left; rw [if_pos (.inr (T.now_past s je g1 40))] at hr2; exact ⟨.inr (.inl ⟨hk0, g1⟩), by simpa using hr2.symm⟩
  clear hr2
  rcases hstop with ⟨hcs, hr'⟩ | ⟨⟨hk0, g1, h40⟩, hr3⟩
  · subst hr'
    rcases hcs with hk0 | ⟨hk0, g1⟩ | ⟨hk0, g1, h40⟩
    · have b1 : (kk == 0) = true := by rw [beq_iff_eq]; exact hk0
      clear hk0
      go_upto_region 13 with fail
      go_quiet (fail)
      have HST6 := Lib.hid (HST5.out.drewN nq)
      generalize w5.drewN nq = w6 at HST6 ⊢
      obtain ⟨z0, z1, z2⟩ := HST6.out.2.1.cells
      obtain ⟨k0, k1, k2⟩ := HST6.out.2.1.free
      go_wp2_with fail
      obtain ⟨d0, d1, d2⟩ := (box_set3 HST6.out.2.1 (.int .i64 1) (.string nm) (.slice none 0 0)).cells
      refine bodyPost_ret (v := .agg #[.int .i64 1, .string nm, .slice none 0 0]) (by simp [results, Tryz.results121, go_sem, d0, d1, d2]) rfl ?_
      exact HST6.out.ends HGL.out ⟨HST6.out.1, none, 0, rfl, rfl, rfl, atom_in _ _ 1 nm (by decide) (by have := HNL.out; unfold maxLen; omega)⟩
    · have b1 : (kk == 0) = false := by rw [beq_eq_false_iff_ne]; exact hk0
      have b2 : (s.size : Int) ≤ (je : Int) := by omega
      have b3 : decide ((s.size : Int) ≤ (je : Int)) = true := decide_eq_true (by omega)
      have b4 : decide (s.size ≤ je) = true := decide_eq_true (by omega)
      clear hk0
      go_upto_region 13 with fail
      go_quiet (fail)
      have HST6 := Lib.hid (HST5.out.drewN nq)
      generalize w5.drewN nq = w6 at HST6 ⊢
      obtain ⟨z0, z1, z2⟩ := HST6.out.2.1.cells
      obtain ⟨k0, k1, k2⟩ := HST6.out.2.1.free
      go_wp2_with fail
      obtain ⟨d0, d1, d2⟩ := (box_set3 HST6.out.2.1 (.int .i64 1) (.string nm) (.slice none 0 0)).cells
      refine bodyPost_ret (v := .agg #[.int .i64 1, .string nm, .slice none 0 0]) (by simp [results, Tryz.results121, go_sem, d0, d1, d2]) rfl ?_
      exact HST6.out.ends HGL.out ⟨HST6.out.1, none, 0, rfl, rfl, rfl, atom_in _ _ 1 nm (by decide) (by have := HNL.out; unfold maxLen; omega)⟩
    · have b1 : (kk == 0) = false := by rw [beq_eq_false_iff_ne]; exact hk0
      have b2 : (je : Int) < (s.size : Int) := by omega
      have b3 : decide ((s.size : Int) ≤ (je : Int)) = false := decide_eq_false (by omega)
      have b4 : decide (s.size ≤ je) = false := decide_eq_false (by omega)
      obtain ⟨_, b5⟩ := u8_ne h40
      have b6 : ((s[je].toNat : Int) != 40) = true := b5
      clear hk0 h40 b5
      go_upto_region 13 with fail
      go_quiet (fail)
      have HST6 := Lib.hid (HST5.out.drewN nq)
      generalize w5.drewN nq = w6 at HST6 ⊢
      obtain ⟨z0, z1, z2⟩ := HST6.out.2.1.cells
      obtain ⟨k0, k1, k2⟩ := HST6.out.2.1.free
      go_wp2_with fail
      obtain ⟨d0, d1, d2⟩ := (box_set3 HST6.out.2.1 (.int .i64 1) (.string nm) (.slice none 0 0)).cells
      refine bodyPost_ret (v := .agg #[.int .i64 1, .string nm, .slice none 0 0]) (by simp [results, Tryz.results121, go_sem, d0, d1, d2]) rfl ?_
      exact HST6.out.ends HGL.out ⟨HST6.out.1, none, 0, rfl, rfl, rfl, atom_in _ _ 1 nm (by decide) (by have := HNL.out; unfold maxLen; omega)⟩
  · have b1 : (kk == 0) = false := by rw [beq_eq_false_iff_ne]; exact hk0
    have b2 : (je : Int) < (s.size : Int) := by omega
    have b3 : decide ((s.size : Int) ≤ (je : Int)) = false := decide_eq_false (by omega)
    have b4 : decide (s.size ≤ je) = false := decide_eq_false (by omega)
    obtain ⟨_, b5⟩ := u8_eq h40
    have b6 : ((s[je].toNat : Int) != 40) = false := b5
    obtain ⟨f', hf', hr4⟩ : ∃ f', f = f' + 1 ∧ T.close s.data.toList kk 41 (T.pkids s.data.toList (f' + 1) kn 0 (je + 1)) = some r := by
      cases f with
      | zero => simp [T.pkids, T.close] at hr3
      | succ f' => exact ⟨f', rfl, hr3⟩
    subst hf'
    have HR4 := Lib.hid hr4; have HG1 := Lib.hid g1
    clear hr3 hr4 hk0 h40 b5
    go_upto_region 13 with fail
    go_quiet (fail)
    have HST6 := Lib.hid (HST5.out.drewN nq)
    generalize w5.drewN nq = w6 at HST6 ⊢
    clear x0 x1 x2
    obtain ⟨x0, x1, x2⟩ := HST6.out.1.cells
    obtain ⟨f0, f1, f2⟩ := HST6.out.1.free
    have HST7 := Lib.hid (HST6.out.set1 HGL.out ((je : Int) + 1) (by push_cast; rfl))
    go_wp2_with fail
    generalize w6.setCell ⟨g, 1, none⟩ (.int .i64 ((je : Int) + 1)) = w7 at HST7 ⊢
    refine (rparts f' (by omega) (fun f'' hf'' => HIH.out f'' (by omega)) g (je + 1) kn kk 41 ⟨#[41]⟩ rfl s w7 r HST7.out.1 HG1.out hs (by have := HKR.out; omega) HR4.out).mono ?_; rintro e w8 hpost
    obtain ⟨k0, nm', A3, n3, c3, j5, b9, rfl, hst8, hval⟩ := hpost.val HST7.out HGL.out
    obtain ⟨z0, z1, z2⟩ := hst8.2.1.cells
    obtain ⟨k0', k1', k2'⟩ := hst8.2.1.free
    have HST8 := Lib.hid hst8; have HVAL := Lib.hid hval
    clear hpost hst8 hval x0 x1 x2 f0 f1 f2
    go_wp2_with fail
    obtain ⟨d0, d1, d2⟩ := (box_set3 HST8.out.2.1 (.int .i64 k0) (.string nm') (.slice A3 n3 c3)).cells
    refine bodyPost_ret (v := .agg #[.int .i64 k0, .string nm', .slice A3 n3 c3]) (by simp [results, Tryz.results121, go_sem, d0, d1, d2]) rfl ?_
    exact HST8.out.ends HGL.out HVAL.out
end Go.Proofs.YtihbmgkbipeakaaGreat

namespace Go.Proofs.YtihbmgkbipeakaaGreat
open Go.RowKit

/-- What Parse makes of what term has read. -/
def T.parseEnd (n : Nat) : Except Nat (T × Nat) → T × Nat × Int
  | .error e => (.mk 0 ⟨#[]⟩ [], e, 71)
  | .ok (t, j) => if j < n then (.mk 0 ⟨#[]⟩ [], j, 71) else if t.valid = true then (t, 0, 0) else (.mk 0 ⟨#[]⟩ [], 0, 76)
theorem T.parse_end (s : ByteArray) (h : ¬ 1024 < s.size) (r : Except Nat (T × Nat)) (hr : T.pterm s.data.toList (2 * s.size + 1) 0 = some r) : T.parse s = T.parseEnd s.size r := by
  unfold T.parse; rw [if_neg h, hr]; rcases r with e | ⟨t, j⟩ <;> rfl
/-- What Parse leaves. -/
def ParsePost (p : T × Nat × Int) (w : World) (e : Ending) (w' : World) : Prop :=
  ∃ A cap, e = .returned (.tuple #[.agg #[.int .i64 p.1.kind, .string p.1.name, .slice A p.1.kids.length cap], .int .i64 p.2.1, .int .i64 p.2.2]) ∧
    TermIn (from_ w.heap.size) w' (.agg #[.int .i64 p.1.kind, .string p.1.name, .slice A p.1.kids.length cap]) p.1 ∧ Below w.heap.size w w'
theorem ParsePost.drew {p : T × Nat × Int} {w : World} {e : Ending} {w' : World} (h : ParsePost p w e w') : ParsePost p w e w'.drew := by
  obtain ⟨A, cap, h1, h2, h3⟩ := h
  exact ⟨A, cap, h1, h2.keep fun b hb _ => ⟨hb, rfl⟩, h3.drew⟩
theorem parse_ends {w W : World} {t : T} {i : Nat} {c : Int} {A : Option Addr} {cap : Nat} (hb : Below w.heap.size w W) (h : TermIn (from_ (w.heap.size + 1)) W (.agg #[.int .i64 t.kind, .string t.name, .slice A t.kids.length cap]) t) {e : Ending}
    (he : e = .returned (.tuple #[.agg #[.int .i64 t.kind, .string t.name, .slice A t.kids.length cap], .int .i64 i, .int .i64 c])) :
    ParsePost (t, i, c) w e (((W.setCell ⟨w.heap.size, 0, none⟩ (.int .i64 t.kind)).setCell ⟨w.heap.size, 1, none⟩ (.string t.name)).setCell ⟨w.heap.size, 2, none⟩ (.slice A t.kids.length cap)) := by
  refine ⟨A, cap, he, h.keep fun b hb' _ => ?_, hb.trans (below_set3 _ _ _ _ _)⟩
  have := of_decide_eq_true hb'
  exact ⟨decide_eq_true (by omega), set3_other _ _ _ _ _ _ (by omega)⟩

end Go.Proofs.YtihbmgkbipeakaaGreat

namespace Go.Proofs.YtihbmgkbipeakaaGreat
open Go.RowKit

set_option maxRecDepth 100000 in
set_option maxHeartbeats 4000000 in
theorem rparse (s : ByteArray) (w : World) :
    Calls Tryz.prog 81 #[.string s] w (ParsePost (T.parse s) w) := by
  have hst1 := Box.new w (.int .i64 0) (.string ⟨#[]⟩) (.slice none 0 0)
  have hb1 := below_alloc1 w (.cells #[.int .i64 0, .string ⟨#[]⟩, .slice none 0 0] 29)
  have hz1' := size_alloc1 w (.cells #[.int .i64 0, .string ⟨#[]⟩, .slice none 0 0] 29)
  obtain ⟨p, hpar⟩ : ∃ p, T.parse s = p := ⟨_, rfl⟩
  rw [hpar]
  go_enter Tryz.func81, Tryz.ntmps81
  go_upto_region 1 with fail
  generalize w.alloc (.cells #[.int .i64 0, .string ⟨#[]⟩, .slice none 0 0] 29) = w1 at hst1 hb1 hz1' ⊢
  obtain ⟨x0, x1, x2⟩ := hst1.cells
  obtain ⟨f0, f1, f2⟩ := hst1.free
  have HBX := Lib.hid hst1; have HB := Lib.hid hb1; have HZ1 := Lib.hid hz1'
  clear hst1 hb1 hz1'
  have hzt : ∀ W, TermIn (from_ (w.heap.size + 1)) W (.agg #[.int .i64 0, .string ⟨#[]⟩, .slice none 0 0]) (.mk 0 ⟨#[]⟩ []) := fun W => atom_in _ _ 0 ⟨#[]⟩ (by decide) (by decide)
  have HZT := Lib.hid hzt; clear hzt
  by_cases hbig : 1024 < s.size
  · have hp : p = (.mk 0 ⟨#[]⟩ [], 0, 72) := by rw [← hpar]; unfold T.parse; rw [if_pos hbig]
    subst hp
    have h1 : (1024 : Int) < (s.size : Int) := by omega
    clear hpar
    go_wp2_with fail
    obtain ⟨d0, d1, d2⟩ := (box_set3 HBX.out (.int .i64 0) (.string ⟨#[]⟩) (.slice none 0 0)).cells
    refine bodyPost_ret (v := .tuple #[.agg #[.int .i64 0, .string ⟨#[]⟩, .slice none 0 0], .int .i64 0, .int .i64 72]) (by simp [results, Tryz.results81, go_sem, d0, d1, d2]) rfl ?_
    exact parse_ends HB.out (HZT.out _) rfl
  have h1 : (s.size : Int) ≤ 1024 := by omega
  obtain ⟨r, hr⟩ : ∃ r, T.pterm s.data.toList (2 * s.size + 1) 0 = some r := by
    cases h : T.pterm s.data.toList (2 * s.size + 1) 0 with
    | none => exact absurd h ((T.p_some s.data.toList _).1 0 (Nat.zero_le _) (by rw [T.size_len]; omega))
    | some r => exact ⟨r, rfl⟩
  have hpar2 : T.parseEnd s.size r = p := by rw [← hpar]; exact (T.parse_end s hbig r hr).symm
  have HR := Lib.hid hr; have HP := Lib.hid hpar2; have HS := Lib.hid (show s.size ≤ 1024 by omega)
  clear hr hpar hpar2 hbig
  go_wp2_with fail
  have hpb : PBox 133 (w1.alloc (.cells #[.string s, .int .i64 0, .bool false] 133)) w1.heap.size s 0 false := heap_alloc_new w1 _
  have hb2 := below_alloc1 w1 (.cells #[.string s, .int .i64 0, .bool false] 133)
  have hz2 := size_alloc1 w1 (.cells #[.string s, .int .i64 0, .bool false] 133)
  generalize w1.alloc (.cells #[.string s, .int .i64 0, .bool false] 133) = w2 at hpb hb2 hz2 ⊢
  have HPB := Lib.hid hpb; have HB2 := Lib.hid hb2; have HZ2 := Lib.hid hz2
  clear hpb hb2 hz2
  refine (rterm (2 * s.size + 1) (by have := HS.out; omega) w1.heap.size 0 s w2 r HPB.out (Nat.zero_le _) (by have := HS.out; omega) HR.out).mono ?_
  rintro e w3 ⟨hg3, hres⟩
  have HG3 := Lib.hid hg3
  have hbx3 := (HBX.out.later HB2.out).grown hg3 (fun e => by have e' := Option.some.inj e; have := HZ1.out; omega)
  have hb3 : Below w.heap.size w w3 := (HB.out.trans (HB2.out.mono HB.out.size)).grown hg3 (by have := HZ1.out; have := HZ2.out; omega) (fun k hk => by have e' := Option.some.inj hk; have := HZ1.out; omega)
  have HBX3 := Lib.hid hbx3; have HB3 := Lib.hid hb3
  clear hg3 hbx3 hb3 x0 x1 x2 f0 f1 f2
  rcases r with e4 | ⟨t, j⟩
  · obtain ⟨hp3, k0, nm, A3, n3, c3, rfl⟩ := hres
    have hp : p = (.mk 0 ⟨#[]⟩ [], e4, 71) := HP.out.symm
    subst hp
    have hp4 := hp3.later (below_alloc1 w3 (.cells #[.int .i64 k0, .string nm, .slice A3 n3 c3] 29))
    have hbx4 := HBX3.out.later (below_alloc1 w3 (.cells #[.int .i64 k0, .string nm, .slice A3 n3 c3] 29))
    have hb4 := HB3.out.trans ((below_alloc1 w3 (.cells #[.int .i64 k0, .string nm, .slice A3 n3 c3] 29)).mono HB3.out.size)
    clear hp3
    go_upto_region 5 with fail
    generalize w3.alloc (.cells #[.int .i64 k0, .string nm, .slice A3 n3 c3] 29) = w4 at hp4 hbx4 hb4 ⊢
    obtain ⟨x0, x1, x2⟩ := hp4.cells
    obtain ⟨z0, z1, z2⟩ := hbx4.cells
    obtain ⟨k0', k1', k2'⟩ := hbx4.free
    have HBX4 := Lib.hid hbx4; have HB4 := Lib.hid hb4
    clear hp4 hbx4 hb4
    have hne : w.heap.size ≠ w1.heap.size := by have := HZ1.out; omega
    have hne' : w1.heap.size ≠ w.heap.size := by have := HZ1.out; omega
    go_wp2_with fail
    go_region
    go_wp2_with fail
    obtain ⟨d0, d1, d2⟩ := (box_set3 HBX4.out (.int .i64 0) (.string ⟨#[]⟩) (.slice none 0 0)).cells
    refine bodyPost_ret (v := .tuple #[.agg #[.int .i64 0, .string ⟨#[]⟩, .slice none 0 0], .int .i64 e4, .int .i64 71]) (by simp [results, Tryz.results81, go_sem, d0, d1, d2]) rfl ?_
    exact (parse_ends HB4.out (HZT.out _) rfl).drew
  · obtain ⟨hp3, A3, c3, rfl, hti⟩ := hres
    have hjl := ((T.p_ok s.data.toList _).1 _ _ _ HR.out).2
    have HJL := Lib.hid (show j ≤ s.size ∧ t.bulk ≤ 1048576 by have h2 := T.size_len s; have := HS.out; omega)
    have hp4 := hp3.later (below_alloc1 w3 (.cells #[.int .i64 t.kind, .string t.name, .slice A3 t.kids.length c3] 29))
    have hbx4 := HBX3.out.later (below_alloc1 w3 (.cells #[.int .i64 t.kind, .string t.name, .slice A3 t.kids.length c3] 29))
    have hb4 := HB3.out.trans ((below_alloc1 w3 (.cells #[.int .i64 t.kind, .string t.name, .slice A3 t.kids.length c3] 29)).mono HB3.out.size)
    have hq4 := Box.new w3 (.int .i64 t.kind) (.string t.name) (.slice A3 t.kids.length c3)
    have hti4 := hti.keep (S' := from_ (w.heap.size + 1)) (w' := w3.alloc (.cells #[.int .i64 t.kind, .string t.name, .slice A3 t.kids.length c3] 29)) fun b hb hl => ⟨by have := of_decide_eq_true hb; have := HZ1.out; have := HZ2.out; exact decide_eq_true (by omega), Below.heap_alloc _ _ b hl⟩
    clear hp3 hti hjl
    go_upto_region 5 with fail
    generalize w3.alloc (.cells #[.int .i64 t.kind, .string t.name, .slice A3 t.kids.length c3] 29) = w4 at hp4 hbx4 hb4 hq4 hti4 ⊢
    obtain ⟨x0, x1, x2⟩ := hp4.cells
    obtain ⟨z0, z1, z2⟩ := hbx4.cells
    obtain ⟨k0', k1', k2'⟩ := hbx4.free
    obtain ⟨q0, q1, q2⟩ := hq4.cells
    have HBX4 := Lib.hid hbx4; have HB4 := Lib.hid hb4; have HQ4 := Lib.hid hq4; have HTI4 := Lib.hid hti4
    clear hp4 hbx4 hb4 hq4 hti4
    by_cases hjs : j < s.size
    · have hp : p = (.mk 0 ⟨#[]⟩ [], j, 71) := by have := HP.out; dsimp only [T.parseEnd] at this; rw [if_pos hjs] at this; exact this.symm
      subst hp
      have h2 : (j : Int) < (s.size : Int) := by omega
      have hne : w.heap.size ≠ w1.heap.size := by have := HZ1.out; omega
      have hne' : w1.heap.size ≠ w.heap.size := by have := HZ1.out; omega
      go_wp2_with fail
      go_region
      go_wp2_with fail
      obtain ⟨d0, d1, d2⟩ := (box_set3 HBX4.out (.int .i64 0) (.string ⟨#[]⟩) (.slice none 0 0)).cells
      refine bodyPost_ret (v := .tuple #[.agg #[.int .i64 0, .string ⟨#[]⟩, .slice none 0 0], .int .i64 j, .int .i64 71]) (by simp [results, Tryz.results81, go_sem, d0, d1, d2]) rfl ?_
      exact (parse_ends HB4.out (HZT.out _) rfl).drew
    have h2 : (s.size : Int) ≤ (j : Int) := by omega
    have hpv : (if t.valid = true then ((t, 0, 0) : T × Nat × Int) else (.mk 0 ⟨#[]⟩ [], 0, 76)) = p := by have := HP.out; dsimp only [T.parseEnd] at this; rw [if_neg hjs] at this; exact this
    have HPV := Lib.hid hpv
    obtain ⟨q, hq⟩ : ∃ q, t.valid = q := ⟨_, rfl⟩
    have HQ := Lib.hid hq
    clear hpv hq hjs
    cases q
    · have hp : p = (.mk 0 ⟨#[]⟩ [], 0, 76) := by have := HPV.out; rw [if_neg (by rw [HQ.out]; decide)] at this; exact this.symm
      subst hp
      go_wp2_with fail
      refine (rvalid t _ _ HTI4.out.at HJL.out.2 false 76 HQ.out (.inr ⟨rfl, rfl⟩)).mono ?_; rintro e w5 ⟨rfl, hb5⟩
      have hbx5 := HBX4.out.later hb5
      have HB5 := Lib.hid (HB4.out.trans (hb5.mono HB4.out.size)); have HBX5 := Lib.hid hbx5
      clear z0 z1 z2 k0' k1' k2' q0 q1 q2 x0 x1 x2 hb5
      obtain ⟨z0, z1, z2⟩ := hbx5.cells
      obtain ⟨k0', k1', k2'⟩ := hbx5.free
      clear hbx5
      go_wp2_with fail
      obtain ⟨d0, d1, d2⟩ := (box_set3 HBX5.out (.int .i64 0) (.string ⟨#[]⟩) (.slice none 0 0)).cells
      refine bodyPost_ret (v := .tuple #[.agg #[.int .i64 0, .string ⟨#[]⟩, .slice none 0 0], .int .i64 0, .int .i64 76]) (by simp [results, Tryz.results81, go_sem, d0, d1, d2]) rfl ?_
      exact parse_ends HB5.out (HZT.out _) rfl
    · have hp : p = (t, 0, 0) := by have := HPV.out; rw [if_pos HQ.out] at this; exact this.symm
      subst hp
      go_wp2_with fail
      refine (rvalid t _ _ HTI4.out.at HJL.out.2 true 0 HQ.out (.inl ⟨rfl, rfl⟩)).mono ?_; rintro e w5 ⟨rfl, hb5⟩
      have hbx5 := HBX4.out.later hb5
      have hq5 := HQ4.out.later hb5
      have HTI5 := Lib.hid (HTI4.out.keep (w' := w5) (S' := from_ (w.heap.size + 1)) fun b hb hl => ⟨hb, hb5.block b hl⟩)
      have HB5 := Lib.hid (HB4.out.trans (hb5.mono HB4.out.size)); have HBX5 := Lib.hid hbx5
      clear z0 z1 z2 k0' k1' k2' q0 q1 q2 x0 x1 x2 hb5
      obtain ⟨z0, z1, z2⟩ := hbx5.cells
      obtain ⟨k0', k1', k2'⟩ := hbx5.free
      obtain ⟨q0, q1, q2⟩ := hq5.cells
      clear hbx5 hq5
      go_wp2_with fail
      obtain ⟨d0, d1, d2⟩ := (box_set3 HBX5.out (.int .i64 t.kind) (.string t.name) (.slice A3 t.kids.length c3)).cells
      refine bodyPost_ret (v := .tuple #[.agg #[.int .i64 t.kind, .string t.name, .slice A3 t.kids.length c3], .int .i64 0, .int .i64 0]) (by simp [results, Tryz.results81, go_sem, d0, d1, d2]) rfl ?_
      exact parse_ends HB5.out HTI5.out rfl
end Go.Proofs.YtihbmgkbipeakaaGreat

namespace Go.Proofs.YtihbmgkbipeakaaGreat
open Go.RowKit

set_option maxRecDepth 100000 in
set_option maxHeartbeats 4000000 in
theorem term41 (s : ByteArray) (w : World) : Calls Tryz.prog 37 #[.string s] w (RetT (T.parse s).1 w) := by
  have hb0 := Box.new w (.int .i64 0) (.string ⟨#[]⟩) (.slice none 0 0)
  have hw := below_alloc1 w (.cells #[.int .i64 0, .string ⟨#[]⟩, .slice none 0 0] 29)
  have hz := size_alloc1 w (.cells #[.int .i64 0, .string ⟨#[]⟩, .slice none 0 0] 29)
  have HP := Lib.hid (fun W => rparse s W)
  obtain ⟨p, hp⟩ : ∃ p, T.parse s = p := ⟨_, rfl⟩
  rw [hp] at HP ⊢
  clear hp
  obtain ⟨t, i, c⟩ := p
  go_enter Tryz.func37, Tryz.ntmps37
  go_upto_region 1 with fail
  generalize w.alloc (.cells #[.int .i64 0, .string ⟨#[]⟩, .slice none 0 0] 29) = w1 at hb0 hw hz ⊢
  have HB0 := Lib.hid hb0; have HW := Lib.hid hw; have HZ := Lib.hid hz
  clear hb0 hw hz
  go_wp2_with fail
  refine (HP.out _).mono ?_; rintro e w2 ⟨A2, C2, rfl, ht2, hb2⟩
  dsimp only at ht2 ⊢
  have HT2 := Lib.hid (ht2.keep (w' := w2) (S' := from_ (w.heap.size + 1)) fun b hb _ => ⟨decide_eq_true (by have := of_decide_eq_true hb; have := HZ.out; omega), rfl⟩)
  have HB2 := Lib.hid (HB0.out.later hb2); have HW2 := Lib.hid (HW.out.trans (hb2.mono HW.out.size))
  clear ht2 hb2
  go_upto_region 2 with fail
  have hx := Box.new w2 (.int .i64 t.kind) (.string t.name) (.slice A2 t.kids.length C2)
  have hw3 := below_alloc1 w2 (.cells #[.int .i64 t.kind, .string t.name, .slice A2 t.kids.length C2] 29)
  have HB3 := Lib.hid (HB2.out.later hw3); have HW3 := Lib.hid (HW2.out.trans (hw3.mono HW2.out.size))
  have HT3 := Lib.hid (HT2.out.keep (S' := from_ (w.heap.size + 1)) fun b hb hl => ⟨hb, hw3.block b hl⟩)
  generalize w2.alloc (.cells #[.int .i64 t.kind, .string t.name, .slice A2 t.kids.length C2] 29) = w3 at hx HB3 HW3 HT3 ⊢
  obtain ⟨x0, x1, x2⟩ := hx.cells
  obtain ⟨y0, y1, y2⟩ := HB3.out.cells
  obtain ⟨f0, f1, f2⟩ := HB3.out.free
  clear hx hw3
  go_wp2_with fail
  obtain ⟨d0, d1, d2⟩ := (box_set3 HB3.out (.int .i64 t.kind) (.string t.name) (.slice A2 t.kids.length C2)).cells
  refine bodyPost_ret (v := .agg #[.int .i64 t.kind, .string t.name, .slice A2 t.kids.length C2]) (by simp [results, Tryz.results37, go_sem, d0, d1, d2]) rfl ?_
  exact ret_set3 (t := t) _ _ _ HW3.out (Nat.le_refl _) rfl rfl rfl HT3.out
theorem term41_is {s : ByteArray} {t : T} (h : (T.parse s).1 = t) (w : World) : Calls Tryz.prog 37 #[.string s] w (RetT t w) := by
  have := term41 s w; rw [h] at this; exact this
end Go.Proofs.YtihbmgkbipeakaaGreat

namespace Go.Proofs.YtihbmgkbipeakaaGreat
open Go.RowKit

def s_seal : ByteArray := ⟨#[115, 101, 97, 108, 40, 107, 44, 32, 109, 41]⟩
def s_px : ByteArray := ⟨#[112, 111, 119, 101, 114, 40, 120, 41]⟩
def s_py : ByteArray := ⟨#[112, 111, 119, 101, 114, 40, 121, 41]⟩
def s_pxy : ByteArray := ⟨#[112, 111, 119, 101, 114, 40, 120, 44, 32, 121, 41]⟩
set_option maxRecDepth 100000 in
theorem p_seal : (T.parse s_seal).1 = w_seal := by kernel_rfl
set_option maxRecDepth 100000 in
theorem p_k : (T.parse ⟨#[107]⟩).1 = w_k := by kernel_rfl
set_option maxRecDepth 100000 in
theorem p_m : (T.parse ⟨#[109]⟩).1 = w_m := by kernel_rfl
set_option maxRecDepth 100000 in
theorem p_y : (T.parse ⟨#[121]⟩).1 = w_y := by kernel_rfl
set_option maxRecDepth 100000 in
theorem p_px : (T.parse s_px).1 = w_px := by kernel_rfl
set_option maxRecDepth 100000 in
theorem p_py : (T.parse s_py).1 = w_py := by kernel_rfl
set_option maxRecDepth 100000 in
theorem p_pxy : (T.parse s_pxy).1 = w_pxy := by kernel_rfl
theorem KnownAt.two {w : World} {a0 a1 a2 b0 b1 b2 : Value} {t t' : T} (h : TermAt w (.agg #[a0, a1, a2]) t) (h' : TermAt w (.agg #[b0, b1, b2]) t') : KnownAt (w.alloc (.cells #[a0, a1, a2, b0, b1, b2] 29)) (some ⟨w.heap.size, 0, none⟩) 2 [t, t'] := by
  have hb := below_alloc1 w (.cells #[a0, a1, a2, b0, b1, b2] 29)
  have hn := heap_alloc_new w (.cells #[a0, a1, a2, b0, b1, b2] 29)
  have hc : ∀ i u, (#[a0, a1, a2, b0, b1, b2] : Array Value)[i]? = some u → (w.alloc (.cells #[a0, a1, a2, b0, b1, b2] 29)).cell? ⟨w.heap.size, i, none⟩ = some u := fun i u hu => by
    unfold World.cell?; rw [hn]; exact hu
  refine TermAt.mk 0 ⟨#[]⟩ _ 2 [t, t'] (fun i => if i = 0 then (a0, a1, a2) else (b0, b1, b2)) (by decide) (by decide) (Nat.le_refl _) (by decide) (.inr ⟨_, 0, rfl, fun i hi => ?_⟩) (fun i hi => ?_)
  · match i, hi with
    | 0, _ => exact ⟨hc 0 a0 rfl, hc 1 a1 rfl, hc 2 a2 rfl⟩
    | 1, _ => exact ⟨hc 3 b0 rfl, hc 4 b1 rfl, hc 5 b2 rfl⟩
  · match i, hi with
    | 0, _ => exact h.later hb
    | 1, _ => exact h'.later hb
theorem all2 {P : T → Prop} {a b : T} (h : P a) (h' : P b) : ∀ t ∈ [a, b], P t := fun t ht => by
  simp only [List.mem_cons, List.not_mem_nil, or_false] at ht
  rcases ht with rfl | rfl
  · exact h
  · exact h'
theorem aw_der (A : Option Addr) (v : Value) (w : World) (h : KnownAt w A 2 [w_seal, w_k]) (hT : TermAt w v w_m) : Calls Tryz.prog 21 #[.slice A 2 2, v] w fun e w' => ∃ A' c', e = .returned (.tuple #[.slice A' 3 c', .bool true]) ∧ DedAt w' A' w_L1 ∧ Below w.heap.size w w' := by
  have := oderive w_uni1 w_bulk1 [w_seal, w_k] A 2 w_m v w h (all2 (by decide) (by decide)) (by rw [w_cnt1]; exact all2 (in_subs (by simp)) (in_subs (by simp))) hT (by decide) (fun _ => in_subs (by simp))
  rw [w_der1] at this
  refine this.mono ?_
  rintro e w' ⟨hb, A', c', rfl, hd⟩
  exact ⟨A', c', rfl, hd, hb⟩
theorem aw_can1 (A : Option Addr) (v : Value) (w : World) (h : KnownAt w A 2 [w_seal, w_k]) (hT : TermAt w v w_m) : Calls Tryz.prog 19 #[.slice A 2 2, v] w fun e w' => e = .returned (.bool true) ∧ Below w.heap.size w w' := by
  have := ocan w_uni1 w_bulk1 [w_seal, w_k] A 2 w_m v w h (all2 (by decide) (by decide)) (by rw [w_cnt1]; exact all2 (in_subs (by simp)) (in_subs (by simp))) hT (by decide) (fun _ => in_subs (by simp))
  rw [w_can1] at this
  exact this
theorem aw_can2 (A : Option Addr) (v : Value) (w : World) (h : KnownAt w A 2 [w_px, w_y]) (hT : TermAt w v w_pxy) : Calls Tryz.prog 19 #[.slice A 2 2, v] w fun e w' => e = .returned (.bool true) ∧ Below w.heap.size w w' := by
  have := ocan w_uni2 w_bulk2 [w_px, w_y] A 2 w_pxy v w h (all2 (by decide) (by decide)) (by rw [w_cnt2]; exact all2 (in_subs (by simp)) (in_subs (by simp))) hT (by decide) (fun _ => in_subs (by simp))
  rw [w_can2] at this
  exact this
theorem aw_can3 (A : Option Addr) (v : Value) (w : World) (h : KnownAt w A 2 [w_px, w_py]) (hT : TermAt w v w_pxy) : Calls Tryz.prog 19 #[.slice A 2 2, v] w fun e w' => e = .returned (.bool false) ∧ Below w.heap.size w w' := by
  have := ocan w_uni3 w_bulk3 [w_px, w_py] A 2 w_pxy v w h (all2 (by decide) (by decide)) (by rw [w_cnt3]; exact all2 (in_subs (by simp)) (in_subs (by simp))) hT (by decide) (fun _ => in_subs (by simp))
  rw [w_can3] at this
  exact this
theorem aw_chk (A A' : Option Addr) (c : Nat) (w : World) (h : KnownAt w A 2 [w_seal, w_k]) (hd : DedAt w A' w_L1) : Calls Tryz.prog 14 #[.slice A 2 2, .slice A' 3 c] w fun e w' => e = .returned (.bool true) ∧ Below w.heap.size w w' := by
  have := ocheck (oneF := noOne) (pairF := onlyOpen) (c := c) w h (by rw [w_cnt1]; decide) (all2 (by decide) (by decide)) hd (fun s hs => by
      have h := List.all_eq_true.1 (show (w_L1.all fun s => decide (s.t.bulk ≤ 1048576) && decide (s.frm.length ≤ 1048576)) = true by kernel_rfl) s hs
      rw [Bool.and_eq_true, decide_eq_true_eq, decide_eq_true_eq] at h
      exact h)
    (fun i hi _ _ x hx _ => by
      match i, hi with
      | 0, _ => cases hx
      | 1, _ => cases hx
      | 2, _ => cases hx)
    (fun i hi _ _ x y hx _ _ => by
      match i, hi with
      | 0, _ => cases hx
      | 1, _ => cases hx
      | 2, _ =>
        injection hx with h1 h2; injection h2 with h2 _
        subst h1; subst h2
        exact fun v va vb W hv ha hb => opair4 w_m w_seal w_k v va vb W hv ha hb (by decide) (by decide) (by decide) (fun _ => rfl))
  rw [w_chk1] at this
  exact this

set_option maxRecDepth 100000 in
set_option maxHeartbeats 8000000 in
theorem awake (w : World) : Calls Tryz.prog 11 #[] w fun e w' => e = .returned (.bool true) ∧ Below w.heap.size w w' := by
  go_enter Tryz.func11, Tryz.ntmps11
  go_wp2_with fail
  refine (term41_is p_seal _).mono ?_; rintro e w1 ⟨A1, c1, rfl, ht1, hb1⟩
  have HB1 := Lib.hid hb1; have HT1 := Lib.hid ht1.at
  clear hb1 ht1
  go_wp2_with fail
  refine (term41_is p_k _).mono ?_; rintro e w2 ⟨A2, c2, rfl, ht2, hb2⟩
  have HB2 := Lib.hid (HB1.out.trans (hb2.mono HB1.out.size)); have HT2 := Lib.hid ht2.at; have HT1 := Lib.hid (HT1.out.later hb2)
  clear hb2 ht2
  go_upto_region 2 with fail
  have HK := Lib.hid (KnownAt.two HT1.out HT2.out)
  have hwk := below_alloc1 w2 (.cells #[.int .i64 w_seal.kind, .string w_seal.name, .slice A1 w_seal.kids.length c1, .int .i64 w_k.kind, .string w_k.name, .slice A2 w_k.kids.length c2] 29)
  have HBK := Lib.hid (HB2.out.trans (hwk.mono HB2.out.size))
  clear hwk HT1 HT2 HB1 HB2
  generalize w2.alloc (.cells #[.int .i64 w_seal.kind, .string w_seal.name, .slice A1 w_seal.kids.length c1, .int .i64 w_k.kind, .string w_k.name, .slice A2 w_k.kids.length c2] 29) = w3 at HK HBK ⊢
  go_wp2_with fail
  refine (term41_is p_m _).mono ?_; rintro e w4 ⟨A4, c4, rfl, ht4, hb4⟩
  have HB4 := Lib.hid (HBK.out.trans (hb4.mono HBK.out.size)); have HT4 := Lib.hid ht4.at; have HK4 := Lib.hid (HK.out.later hb4)
  clear hb4 ht4 HBK HK
  go_wp2_with fail
  refine (aw_der _ _ _ HK4.out HT4.out).mono ?_; rintro e w5 ⟨A5, c5, rfl, hd5, hb5⟩
  have HB5 := Lib.hid (HB4.out.trans (hb5.mono HB4.out.size)); have HD5 := Lib.hid hd5; have HK5 := Lib.hid (HK4.out.later hb5)
  clear hb5 hd5 HT4 HB4 HK4
  go_upto_region 3 with fail
  go_wp2_with fail
  refine (term41_is p_m _).mono ?_; rintro e w6 ⟨A6, c6, rfl, ht6, hb6⟩
  have HB6 := Lib.hid (HB5.out.trans (hb6.mono HB5.out.size)); have HT6 := Lib.hid ht6.at; have HK6 := Lib.hid (HK5.out.later hb6); have HD6 := Lib.hid (HD5.out.later hb6)
  clear hb6 ht6 HB5 HK5 HD5
  go_wp2_with fail
  refine (aw_can1 _ _ _ HK6.out HT6.out).mono ?_; rintro e w7 ⟨rfl, hb7⟩
  have HB7 := Lib.hid (HB6.out.trans (hb7.mono HB6.out.size)); have HK7 := Lib.hid (HK6.out.later hb7); have HD7 := Lib.hid (HD6.out.later hb7)
  clear hb7 HB6 HK6 HD6 HT6
  go_wp2_with fail
  refine (aw_chk _ _ _ _ HK7.out HD7.out).mono ?_; rintro e w8 ⟨rfl, hb8⟩
  have HB8 := Lib.hid (HB7.out.trans (hb8.mono HB7.out.size))
  clear hb8 HB7 HK7 HD7
  go_wp2_with fail
  refine (term41_is p_px _).mono ?_; rintro e w9 ⟨A9, c9, rfl, ht9, hb9⟩
  have HB9 := Lib.hid (HB8.out.trans (hb9.mono HB8.out.size)); have HT9 := Lib.hid ht9.at
  clear hb9 ht9 HB8
  go_wp2_with fail
  refine (term41_is p_y _).mono ?_; rintro e w10 ⟨A10, c10, rfl, ht10, hb10⟩
  have HB10 := Lib.hid (HB9.out.trans (hb10.mono HB9.out.size)); have HT10 := Lib.hid ht10.at; have HT9' := Lib.hid (HT9.out.later hb10)
  have HK := Lib.hid (KnownAt.two HT9'.out HT10.out)
  have hwk := below_alloc1 w10 (.cells #[.int .i64 w_px.kind, .string w_px.name, .slice A9 w_px.kids.length c9, .int .i64 w_y.kind, .string w_y.name, .slice A10 w_y.kids.length c10] 29)
  have HBK := Lib.hid (HB10.out.trans (hwk.mono HB10.out.size))
  clear hb10 ht10 HB9 HT9 hwk HT9' HT10 HB10
  go_wp2_with fail
  refine (term41_is p_pxy _).mono ?_; rintro e w11 ⟨A11, c11, rfl, ht11, hb11⟩
  have HB11 := Lib.hid (HBK.out.trans (hb11.mono HBK.out.size)); have HT11 := Lib.hid ht11.at; have HK11 := Lib.hid (HK.out.later hb11)
  clear hb11 ht11 HBK HK
  go_wp2_with fail
  refine (aw_can2 _ _ _ HK11.out HT11.out).mono ?_; rintro e w12 ⟨rfl, hb12⟩
  have HB12 := Lib.hid (HB11.out.trans (hb12.mono HB11.out.size))
  clear hb12 HB11 HK11 HT11
  go_wp2_with fail
  refine (term41_is p_px _).mono ?_; rintro e w13 ⟨A13, c13, rfl, ht13, hb13⟩
  have HB13 := Lib.hid (HB12.out.trans (hb13.mono HB12.out.size)); have HT13 := Lib.hid ht13.at
  clear hb13 ht13 HB12
  go_wp2_with fail
  refine (term41_is p_py _).mono ?_; rintro e w14 ⟨A14, c14, rfl, ht14, hb14⟩
  have HB14 := Lib.hid (HB13.out.trans (hb14.mono HB13.out.size)); have HT14 := Lib.hid ht14.at; have HT13' := Lib.hid (HT13.out.later hb14)
  have HK := Lib.hid (KnownAt.two HT13'.out HT14.out)
  have hwk := below_alloc1 w14 (.cells #[.int .i64 w_px.kind, .string w_px.name, .slice A13 w_px.kids.length c13, .int .i64 w_py.kind, .string w_py.name, .slice A14 w_py.kids.length c14] 29)
  have HBK := Lib.hid (HB14.out.trans (hwk.mono HB14.out.size))
  clear hb14 ht14 HB13 HT13 hwk HT13' HT14 HB14
  go_wp2_with fail
  refine (term41_is p_pxy _).mono ?_; rintro e w15 ⟨A15, c15, rfl, ht15, hb15⟩
  have HB15 := Lib.hid (HBK.out.trans (hb15.mono HBK.out.size)); have HT15 := Lib.hid ht15.at; have HK15 := Lib.hid (HK.out.later hb15)
  clear hb15 ht15 HBK HK
  go_wp2_with fail
  refine (aw_can3 _ _ _ HK15.out HT15.out).mono ?_; rintro e w16 ⟨rfl, hb16⟩
  have HB16 := Lib.hid (HB15.out.trans (hb16.mono HB15.out.size))
  clear hb16 HB15 HK15 HT15
  go_wp2_with fail
  go_ret
  exact ⟨rfl, HB16.out⟩
end Go.Proofs.YtihbmgkbipeakaaGreat

namespace Go.Proofs.YtihbmgkbipeakaaGreat
open Go.RowKit

/-- What the maker of terms leaves. -/
def MadePost (vars : Int) (D B g : Nat) (w : World) (e : Ending) (w' : World) : Prop := ∃ t A cap, T.MadeN vars D t ∧ e = .returned (.agg #[.int .i64 t.kind, .string t.name, .slice A t.kids.length cap]) ∧
  TermIn (from_ w.heap.size) w' (.agg #[.int .i64 t.kind, .string t.name, .slice A t.kids.length cap]) t ∧ DiceAt B g w' ∧ w.grownBy w' (some g)
/-- The result's three stores at the end. -/
theorem made_ends {vars : Int} {D B g : Nat} {w W : World} {t : T} {A : Option Addr} {cap : Nat} (hg : w.grownBy W (some g)) (hgl : g < w.heap.size) (hd : DiceAt B g W) (hm : T.MadeN vars D t)
    (ht : TermIn (from_ (w.heap.size + 1)) W (.agg #[.int .i64 t.kind, .string t.name, .slice A t.kids.length cap]) t) (v0 v1 v2 : Value) :
    MadePost vars D B g w (.returned (.agg #[.int .i64 t.kind, .string t.name, .slice A t.kids.length cap])) (((W.setCell ⟨w.heap.size, 0, none⟩ v0).setCell ⟨w.heap.size, 1, none⟩ v1).setCell ⟨w.heap.size, 2, none⟩ v2) := by
  refine ⟨t, A, cap, hm, rfl, ht.keep fun b hb _ => ?_, hd.other (by omega) (by have := hd.1; omega) _ _ _, ?_⟩
  · have := of_decide_eq_true hb
    exact ⟨decide_eq_true (by omega), set3_other _ _ _ _ _ _ (by omega)⟩
  · have h := below_set3 W w.heap.size v0 v1 v2
    exact ⟨h.os.trans hg.os, h.tape.trans hg.tape, h.output.trans hg.output, Nat.le_trans hg.size h.size, fun i hi hn => (h.block i hi).trans (hg.block i hi hn)⟩

set_option maxRecDepth 100000 in
set_option maxHeartbeats 4000000 in
/-- The first arm at depth 1. (Under way: to be taken into the induction on D; the arm of a small throw ends alike.) -/
theorem made_term_low (D B g : Nat) (vars : Int) (w : World) (hd : DiceAt B g w) (hD1 : D = 1) :
    Calls Tryz.prog 17 #[.pointer (some ⟨g, 0, none⟩), .int .i64 (D : Int), .int .i64 vars] w (MadePost vars D B g w) := by
  have hgl := hd.lt
  have bx := Box.new w (.int .i64 0) (.string ⟨#[]⟩) (.slice none 0 0)
  have hw := below_alloc1 w (.cells #[.int .i64 0, .string ⟨#[]⟩, .slice none 0 0] 29)
  have hz := size_alloc1 w (.cells #[.int .i64 0, .string ⟨#[]⟩, .slice none 0 0] 29)
  have HD := Lib.hid (hd.below hw hgl); have HGL := Lib.hid hgl
  clear hd hgl
  go_enter Tryz.func17, Tryz.ntmps17
  go_upto_region 1 with fail
  generalize w.alloc (.cells #[.int .i64 0, .string ⟨#[]⟩, .slice none 0 0] 29) = w1 at bx hw hz HD ⊢
  have HB := Lib.hid bx; have HW := Lib.hid hw; have HZ := Lib.hid hz
  clear bx hw hz
  go_wp2_with fail
  refine (made_next B g 8 _ HD.out (by omega) (by omega)).mono ?_; rintro e w2 ⟨v, hv0, hv1, rfl, hd2, hg2⟩
  have HB2 := Lib.hid (HB.out.grown hg2 (fun e => by have e' := Option.some.inj e; have := HGL.out; omega))
  have HG2 := Lib.hid (grownBy_trans (grownBy_of_below (some g) HW.out) hg2); have HD2 := Lib.hid hd2
  have HZ2 := Lib.hid (show w.heap.size + 1 ≤ w2.heap.size by have := hg2.size; have := HZ.out; omega)
  clear hd2 hg2
  have h1 : (D : Int) ≤ 1 := by omega
  go_upto_region 3 with fail
  go_wp2_with fail
  refine (made_atom B g _ _ HD2.out).mono ?_; rintro e w3 ⟨k, s, hk, rfl, hd3, hg3⟩
  have HB3 := Lib.hid (HB2.out.grown hg3 (fun e => by have e' := Option.some.inj e; have := HGL.out; omega))
  have HG3 := Lib.hid (grownBy_trans HG2.out hg3); have HD3 := Lib.hid hd3
  have HK := Lib.hid hk
  obtain ⟨x0, x1, x2⟩ := HB3.out.cells
  obtain ⟨f0, f1, f2⟩ := HB3.out.free
  clear hd3 hg3 hk
  go_wp2_with fail
  obtain ⟨d0, d1, d2⟩ := (box_set3 HB3.out (.int .i64 k) (.string s) (.slice none 0 0)).cells
  refine bodyPost_ret (v := .agg #[.int .i64 k, .string s, .slice none 0 0]) (by simp [results, Tryz.results17, go_sem, d0, d1, d2]) rfl ?_
  exact made_ends (t := .mk k s []) (A := none) (cap := 0) HG3.out HGL.out HD3.out (T.maden_of_atom HK.out D) (atom_in _ _ k s (by have := (T.made0_facts HK.out).1; omega) (by have := (T.made0_facts HK.out).2.2; unfold maxLen; omega)) _ _ _
end Go.Proofs.YtihbmgkbipeakaaGreat
