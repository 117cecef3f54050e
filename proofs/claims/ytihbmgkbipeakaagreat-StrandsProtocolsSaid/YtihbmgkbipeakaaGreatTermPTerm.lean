/- Chapter 40: the walk of the program's term. -/
import Derived.Test.YtihbmgkbipeakaaGreatTermPFn
namespace Go.Proofs.YtihbmgkbipeakaaGreat
open Go.RowKit

theorem below_set3 (W : World) (g : Nat) (x y z : Value) : Below g W (((W.setCell ⟨g, 0, none⟩ x).setCell ⟨g, 1, none⟩ y).setCell ⟨g, 2, none⟩ z) :=
  (((Below.refl g W).setCell (p := ⟨g, 0, none⟩) (Nat.le_refl _) _).setCell (p := ⟨g, 1, none⟩) (Nat.le_refl _) _).setCell (p := ⟨g, 2, none⟩) (Nat.le_refl _) _
/-- A reader beside the zero block of a result. -/
def PSt (ty : TypeId) (w : World) (g : Nat) (s : ByteArray) (W : World) (j : Nat) (b : Bool) : Prop :=
  PBox ty W g s j b ∧ Box W w.heap.size (.int .i64 0) (.string ⟨#[]⟩) (.slice none 0 0) ∧ w.grownBy W (some g) ∧ w.heap.size + 1 ≤ W.heap.size
section
variable {ty : TypeId} {w W W' : World} {g j j' : Nat} {s : ByteArray} {b b' : Bool}
theorem PSt.step (h : PSt ty w g s W j b) (hg : g < w.heap.size) (k : W.grownBy W' (some g)) (hp : PBox ty W' g s j' b') : PSt ty w g s W' j' b' :=
  ⟨hp, h.2.1.grown k (fun e => by injection e; omega), grownBy_trans h.2.2.1 k, Nat.le_trans h.2.2.2 k.size⟩
theorem PSt.later (h : PSt ty w g s W j b) (k : Below W.heap.size W W') : PSt ty w g s W' j b :=
  ⟨h.1.later k, h.2.1.later k, grown_below2 h.2.2.1 k, Nat.le_trans h.2.2.2 k.size⟩
theorem PSt.drewN (h : PSt ty w g s W j b) (n : Nat) : PSt ty w g s (W.drewN n) j b := ⟨h.1.drewN n, h.2.1, grown_drewN h.2.2.1 n, h.2.2.2⟩
theorem PSt.start (h : PBox ty w g s j b) : PSt ty w g s (w.alloc (.cells #[.int .i64 0, .string ⟨#[]⟩, .slice none 0 0] 29)) j b :=
  ⟨h.later (below_alloc1 _ _), Box.new _ _ _ _, grown_below2 (grown_refl _ _) (below_alloc1 _ _), by rw [size_alloc1]; omega⟩
/-- What is known of the value that is to be returned. -/
def TermVal (ty : TypeId) (w : World) (g : Nat) (s : ByteArray) (W : World) (x y z : Value) : Except Nat (T × Nat) → Prop
  | .ok (t, j) => PBox ty W g s j false ∧ ∃ A cap, x = .int .i64 t.kind ∧ y = .string t.name ∧ z = .slice A t.kids.length cap ∧ TermIn (from_ (w.heap.size + 1)) W (.agg #[x, y, z]) t
  | .error j => PBox ty W g s j true ∧ ∃ (k : Int) (nm : ByteArray) (A : Option Addr) (n cap : Nat), x = .int .i64 k ∧ y = .string nm ∧ z = .slice A n cap
theorem PSt.ends {x y z : Value} {r : Except Nat (T × Nat)} (h : PSt ty w g s W j b) (hg : g < w.heap.size) (hv : TermVal ty w g s W x y z r) :
    TermPost ty g s w r (.returned (.agg #[x, y, z])) (((W.setCell ⟨w.heap.size, 0, none⟩ x).setCell ⟨w.heap.size, 1, none⟩ y).setCell ⟨w.heap.size, 2, none⟩ z) := by
  have hp : ∀ {j b}, PBox ty W g s j b → PBox ty (((W.setCell ⟨w.heap.size, 0, none⟩ x).setCell ⟨w.heap.size, 1, none⟩ y).setCell ⟨w.heap.size, 2, none⟩ z) g s j b := fun hp => (set3_other _ _ _ _ _ _ (by omega)).trans hp
  have hb := below_set3 W w.heap.size x y z
  refine ⟨⟨hb.os.trans h.2.2.1.os, hb.tape.trans h.2.2.1.tape, hb.output.trans h.2.2.1.output, Nat.le_trans h.2.2.1.size hb.size, fun k hk hn => (hb.block k hk).trans (h.2.2.1.block k hk hn)⟩, ?_⟩
  rcases r with e | ⟨t, j'⟩
  · obtain ⟨h1, k, nm, A, n, cap, rfl, rfl, rfl⟩ := hv
    exact ⟨hp h1, k, nm, A, n, cap, rfl⟩
  · obtain ⟨h1, A, cap, rfl, rfl, rfl, h2⟩ := hv
    refine ⟨hp h1, A, cap, rfl, h2.keep fun b hb _ => ?_⟩
    have := of_decide_eq_true hb
    exact ⟨decide_eq_true (by omega), set3_other _ _ _ _ _ _ (by omega)⟩
end
theorem atom_in (S : Nat → Bool) (W : World) (k : Int) (nm : ByteArray) (hk : -9223372036854775808 ≤ k ∧ k ≤ 9223372036854775807) (hs : nm.size ≤ maxLen) : TermIn S W (.agg #[.int .i64 k, .string nm, .slice none 0 0]) (.mk k nm []) :=
  TermAt.mk k nm none 0 [] (fun _ => (undef, undef, undef)) hk hs (Nat.le_refl _) (Nat.zero_le _) (.inl rfl) (fun i h => by simp at h)
theorem T.nameStr_le (l : List UInt8) (i : Nat) : (T.nameStr l i (T.nameEnd l i)).size ≤ 16 := by
  have := (T.nameEnd_le l i).2.1
  unfold T.nameStr; rw [strOf_size, List.length_take]; omega
theorem T.need_now {l : List UInt8} {i : Nat} {c : UInt8} (h : T.now l i c = true) : T.need l [c] i = .ok (i + 1) := by simp [T.need, h]
theorem T.fnKind_range (s : ByteArray) : 0 ≤ T.fnKind s ∧ T.fnKind s ≤ 7 := by
  unfold T.fnKind; repeat' split
  all_goals omega
theorem T.fnKids_range (s : ByteArray) : T.fnKids s ≤ 2 := by
  unfold T.fnKids; repeat' split
  all_goals omega

set_option maxRecDepth 100000 in
set_option maxHeartbeats 4000000 in
theorem oterm : ∀ (f : Nat), f ≤ 8999 → ∀ (g i : Nat) (s : ByteArray) (w : World) (r : Except Nat (T × Nat)), PBox 152 w g s i false → i ≤ s.size → s.size ≤ 4096 → T.pterm s.data.toList f i = some r →
      Calls Tryz.prog 141 #[.pointer (some ⟨g, 0, none⟩)] w (TermPost 152 g s w r) := by
  intro f
  induction f using Nat.strongRecOn with
  | _ f ih =>
  intro hf g i s w r hp hi hs hr
  cases f with
  | zero => cases hr
  | succ f =>
  have hst1 := PSt.start hp
  have HGL := Lib.hid hp.lt
  have HIH := Lib.hid (fun f' (h : f' < f + 1) => ih f' h (by omega))
  clear hp ih
  simp only [T.pterm] at hr
  go_enter Tryz.func141, Tryz.ntmps141
  go_upto_region 1 with fail
  generalize w.alloc (.cells #[.int .i64 0, .string ⟨#[]⟩, .slice none 0 0] 29) = w1 at hst1 ⊢
  obtain ⟨x0, x1, x2⟩ := hst1.1.cells
  have HST1 := Lib.hid hst1
  clear hst1
  rcases Bool.eq_false_or_eq_true (T.now s.data.toList i 60) with h60 | h60
  · rw [if_pos h60] at hr
    have H60 := Lib.hid h60
    have HR := Lib.hid hr
    clear h60 hr
    go_wp2_with fail
    refine (onow_lit 60 60 (by decide) g i s _ HST1.out.1 (by omega) _ H60.out).mono ?_; rintro e w2 ⟨rfl, nq, rfl⟩
    go_wp2_with fail
    refine (oneed g i s ⟨#[60]⟩ _ (HST1.out.1.drewN nq) (by omega) hs (by decide)).mono ?_; rintro e w3 ⟨rfl, hg3, hs3⟩
    have hst3 := (HST1.out.drewN nq).step HGL.out hg3 (j' := i + 1) (b' := false) (by have h := hs3; rw [show (⟨#[60]⟩ : ByteArray).data.toList = [60] from rfl, T.need_now H60.out] at h; exact h)
    have HST3 := Lib.hid hst3
    clear hg3 hs3 hst3 x0 x1 x2
    have HIL := Lib.hid (show i + 1 ≤ s.size by have h := T.now_lt H60.out; have h2 := T.size_len s; omega)
    obtain ⟨f', hf', rk, hrk⟩ : ∃ f', f = f' + 1 ∧ ∃ rk, T.pkids s.data.toList (f' + 1) 2 0 (i + 1) = some rk := by
      have h := HR.out
      cases f with
      | zero => simp [T.pkids, T.close] at h
      | succ f' =>
        cases h2 : T.pkids s.data.toList (f' + 1) 2 0 (i + 1) with
        | none => rw [h2] at h; simp [T.close] at h
        | some rk => exact ⟨f', rfl, rk, h2⟩
    subst hf'
    have HRK := Lib.hid hrk
    have hreq : some r = T.close s.data.toList 3 62 (some rk) := by have h := HR.out; rw [hrk] at h; exact h.symm
    have HREQ := Lib.hid hreq
    clear hrk hreq
    go_wp2_with fail
    refine (okids f' (by omega) (fun f'' hf'' => HIH.out f'' (by omega)) g (i + 1) 2 s _ rk HST3.out.1 HIL.out hs (by decide) HRK.out).mono ?_; rintro e w4 ⟨hg4, hk4⟩
    rcases rk with e4 | ⟨ks, j4⟩
    · obtain ⟨hp4, A4, n4, c4, rfl⟩ := hk4
      have hr' : r = .error e4 := by have := HREQ.out; simpa [T.close] using this
      subst hr'
      have hst5 := (HST3.out.step HGL.out hg4 hp4).later (below_alloc1 w4 (.cells #[.int .i64 3, .string ⟨#[]⟩, .slice A4 n4 c4] 29))
      have hbx5 := Box.new w4 (.int .i64 3) (.string ⟨#[]⟩) (.slice A4 n4 c4)
      have HST5 := Lib.hid hst5; have HBX5 := Lib.hid hbx5
      clear hg4 hp4 hst5 hbx5
      go_wp2_with fail
      refine (oneed_wrong g e4 s 62 [] _ HST5.out.1).mono ?_; rintro e w6 ⟨rfl, rfl⟩
      obtain ⟨y0, y1, y2⟩ := HBX5.out.cells
      obtain ⟨z0, z1, z2⟩ := HST5.out.2.1.cells
      obtain ⟨k0, k1, k2⟩ := HST5.out.2.1.free
      generalize w4.alloc (.cells #[.int .i64 3, .string ⟨#[]⟩, .slice A4 n4 c4] 29) = w5 at HST5 HBX5 y0 y1 y2 z0 z1 z2 k0 k1 k2 ⊢
      go_wp2_with fail
      obtain ⟨d0, d1, d2⟩ := (box_set3 HST5.out.2.1 (.int .i64 3) (.string ⟨#[]⟩) (.slice A4 n4 c4)).cells
      refine bodyPost_ret (v := .agg #[.int .i64 3, .string ⟨#[]⟩, .slice A4 n4 c4]) (by simp [results, Tryz.results141, go_sem, d0, d1, d2]) rfl ?_
      exact HST5.out.ends HGL.out ⟨HST5.out.1, _, _, _, _, _, rfl, rfl, rfl⟩
    · obtain ⟨hp4, v4, rfl, hrow4⟩ := hk4
      obtain ⟨A4, c4, hv4, _, _⟩ := hrow4.shape
      subst hv4
      have hj4 := ((T.p_ok s.data.toList (f' + 1)).2 _ _ _ _ _ HRK.out).2.1
      have HJ4 := Lib.hid (show j4 ≤ s.size by have h2 := T.size_len s; omega)
      have htm := hrow4.term 3 ⟨#[]⟩ (by decide) (by decide)
      have HTM := Lib.hid htm
      have hst5 := (HST3.out.step HGL.out hg4 hp4).later (below_alloc1 w4 (.cells #[.int .i64 3, .string ⟨#[]⟩, .slice A4 ks.length c4] 29))
      have hbx5 := Box.new w4 (.int .i64 3) (.string ⟨#[]⟩) (.slice A4 ks.length c4)
      have HST5 := Lib.hid hst5; have HBX5 := Lib.hid hbx5; have HG4 := Lib.hid hg4
      have HT5 := Lib.hid (fun (b : Nat) (h : b < w4.heap.size) => Below.heap_alloc w4 (.cells #[.int .i64 3, .string ⟨#[]⟩, .slice A4 ks.length c4] 29) b h)
      have HZ5 := Lib.hid (size_alloc1 w4 (.cells #[.int .i64 3, .string ⟨#[]⟩, .slice A4 ks.length c4] 29))
      clear hg4 hp4 hst5 hbx5 hrow4 htm hj4
      go_wp2_with fail
      refine (oneed g j4 s ⟨#[62]⟩ _ HST5.out.1 (by have := HJ4.out; omega) hs (by decide)).mono ?_; rintro e w6 ⟨rfl, hg6, hs6⟩
      generalize w4.alloc (.cells #[.int .i64 3, .string ⟨#[]⟩, .slice A4 ks.length c4] 29) = w5 at HST5 HBX5 HT5 HZ5 hg6 ⊢
      have hne5 : some g ≠ some w4.heap.size := fun e => by have e' := Option.some.inj e; have := HGL.out; have := HG4.out.size; have := HST3.out.2.2.2; omega
      have hbx6 := HBX5.out.grown hg6 hne5
      obtain ⟨y0, y1, y2⟩ := hbx6.cells
      obtain ⟨j6, b6, hst6, hval⟩ : ∃ j6 b6, PSt 152 w g s w6 j6 b6 ∧ TermVal 152 w g s w6 (.int .i64 3) (.string ⟨#[]⟩) (.slice A4 ks.length c4) r := by
        have hq := HREQ.out
        rw [show (⟨#[62]⟩ : ByteArray).data.toList = [62] from rfl] at hs6
        simp only [T.close] at hq
        cases hn : T.need s.data.toList [62] j4 with
        | error e6 =>
          rw [hn] at hq hs6
          have hr' : r = .error e6 := by simpa using hq
          subst hr'
          exact ⟨e6, true, HST5.out.step HGL.out hg6 hs6, hs6, _, _, _, _, _, rfl, rfl, rfl⟩
        | ok j6 =>
          rw [hn] at hq hs6
          have hr' : r = .ok (.mk 3 ⟨#[]⟩ ks, j6) := by simpa using hq
          subst hr'
          refine ⟨j6, false, HST5.out.step HGL.out hg6 hs6, hs6, A4, c4, rfl, rfl, rfl, HTM.out.keep fun b hb hl => ⟨?_, ?_⟩⟩
          · have := of_decide_eq_true hb; have := HST3.out.2.2.2; exact decide_eq_true (by omega)
          · have h1 := of_decide_eq_true hb; have h2 := HST3.out.2.2.2
            rw [hg6.block b (by rw [HZ5.out]; omega) (fun e => by have e' := Option.some.inj e; have := HGL.out; omega)]
            exact HT5.out b hl
      obtain ⟨z0, z1, z2⟩ := hst6.2.1.cells
      obtain ⟨k0, k1, k2⟩ := hst6.2.1.free
      have HST6 := Lib.hid hst6; have HVAL := Lib.hid hval
      clear hg6 hs6 hbx6 hst6 hval hne5
      go_wp2_with fail
      obtain ⟨d0, d1, d2⟩ := (box_set3 HST6.out.2.1 (.int .i64 3) (.string ⟨#[]⟩) (.slice A4 ks.length c4)).cells
      refine bodyPost_ret (v := .agg #[.int .i64 3, .string ⟨#[]⟩, .slice A4 ks.length c4]) (by simp [results, Tryz.results141, go_sem, d0, d1, d2]) rfl ?_
      exact HST6.out.ends HGL.out HVAL.out
  rw [if_neg (by rw [h60]; decide)] at hr
  have H60 := Lib.hid h60
  clear h60
  go_wp2_with fail
  refine (onow_lit 60 60 (by decide) g i s _ HST1.out.1 (by omega) _ H60.out).mono ?_; rintro e w2 ⟨rfl, nq, rfl⟩
  have HST2 := Lib.hid (HST1.out.drewN nq)
  generalize w1.drewN nq = w2 at HST2 ⊢
  clear x0 x1 x2
  rcases Bool.eq_false_or_eq_true (T.now s.data.toList i 63) with h63 | h63
  · rw [if_pos h63] at hr
    have H63 := Lib.hid h63
    have HR := Lib.hid hr
    clear h63 hr
    go_wp2_with fail
    refine (onow_lit 63 63 (by decide) g i s _ HST2.out.1 (by omega) _ H63.out).mono ?_; rintro e w3 ⟨rfl, nq, rfl⟩
    go_wp2_with fail
    refine (oneed g i s ⟨#[63]⟩ _ (HST2.out.1.drewN nq) (by omega) hs (by decide)).mono ?_; rintro e w4 ⟨rfl, hg3, hs3⟩
    have hst3 := (HST2.out.drewN nq).step HGL.out hg3 (j' := i + 1) (b' := false) (by have h := hs3; rw [show (⟨#[63]⟩ : ByteArray).data.toList = [63] from rfl, T.need_now H63.out] at h; exact h)
    have HST3 := Lib.hid hst3
    have HIL := Lib.hid (show i + 1 ≤ s.size by have h := T.now_lt H63.out; have h2 := T.size_len s; omega)
    clear hg3 hs3 hst3
    go_wp2_with fail
    refine (opname g (i + 1) s _ HST3.out.1 HIL.out hs).mono ?_; rintro e w5 ⟨hg5, hnm⟩
    rcases hnm with ⟨hne, rfl, hp5⟩ | ⟨hne, rfl, hp5⟩
    · have hr' : r = .error (i + 1) := by have h := HR.out; rw [if_pos hne] at h; simpa using h.symm
      subst hr'
      have HST5 := Lib.hid (HST3.out.step HGL.out hg5 hp5)
      obtain ⟨z0, z1, z2⟩ := HST5.out.2.1.cells
      obtain ⟨k0, k1, k2⟩ := HST5.out.2.1.free
      clear hg5 hp5 hne
      go_wp2_with fail
      obtain ⟨d0, d1, d2⟩ := (box_set3 HST5.out.2.1 (.int .i64 2) (.string ⟨#[]⟩) (.slice none 0 0)).cells
      refine bodyPost_ret (v := .agg #[.int .i64 2, .string ⟨#[]⟩, .slice none 0 0]) (by simp [results, Tryz.results141, go_sem, d0, d1, d2]) rfl ?_
      exact HST5.out.ends HGL.out ⟨HST5.out.1, _, _, _, _, _, rfl, rfl, rfl⟩
    · have hr' : r = .ok (.mk 2 (T.nameStr s.data.toList (i + 1) (T.nameEnd s.data.toList (i + 1))) [], T.nameEnd s.data.toList (i + 1)) := by have h := HR.out; rw [if_neg hne] at h; simpa using h.symm
      have HST5 := Lib.hid (HST3.out.step HGL.out hg5 hp5)
      obtain ⟨z0, z1, z2⟩ := HST5.out.2.1.cells
      obtain ⟨k0, k1, k2⟩ := HST5.out.2.1.free
      have HNL := Lib.hid (T.nameStr_le s.data.toList (i + 1))
      clear hg5 hp5 hne HR
      generalize T.nameStr s.data.toList (i + 1) (T.nameEnd s.data.toList (i + 1)) = nm at HNL hr' ⊢
      subst hr'
      go_wp2_with fail
      obtain ⟨d0, d1, d2⟩ := (box_set3 HST5.out.2.1 (.int .i64 2) (.string nm) (.slice none 0 0)).cells
      refine bodyPost_ret (v := .agg #[.int .i64 2, .string nm, .slice none 0 0]) (by simp [results, Tryz.results141, go_sem, d0, d1, d2]) rfl ?_
      exact HST5.out.ends HGL.out ⟨HST5.out.1, none, 0, rfl, rfl, rfl, atom_in _ _ 2 nm (by decide) (by have := HNL.out; unfold maxLen; omega)⟩
  rw [if_neg (by rw [h63]; decide)] at hr
  have H63 := Lib.hid h63
  have HR := Lib.hid hr
  clear h63 hr
  go_wp2_with fail
  refine (onow_lit 63 63 (by decide) g i s _ HST2.out.1 (by omega) _ H63.out).mono ?_; rintro e w3 ⟨rfl, nq, rfl⟩
  have HST4 := Lib.hid (HST2.out.drewN nq)
  generalize w2.drewN nq = w4 at HST4 ⊢
  go_wp2_with fail
  refine (opname g i s _ HST4.out.1 hi hs).mono ?_; rintro e w5 ⟨hg5, hnm⟩
  rcases hnm with ⟨hne, rfl, hp5⟩ | ⟨hne, rfl, hp5⟩
  · have hr' : r = .error i := by have h := HR.out; rw [if_pos hne] at h; simpa using h.symm
    subst hr'
    have HST5 := Lib.hid (HST4.out.step HGL.out hg5 hp5)
    obtain ⟨z0, z1, z2⟩ := HST5.out.2.1.cells
    obtain ⟨k0, k1, k2⟩ := HST5.out.2.1.free
    clear hg5 hp5 hne
    go_wp2_with fail
    refine (ofn ⟨#[]⟩ _).mono ?_; rintro e w6 ⟨rfl, rfl⟩
    rw [show T.fnKind ⟨#[]⟩ = 0 by decide, show T.fnKids ⟨#[]⟩ = 0 by decide]
    go_wp2_with fail
    obtain ⟨d0, d1, d2⟩ := (box_set3 HST5.out.2.1 (.int .i64 1) (.string ⟨#[]⟩) (.slice none 0 0)).cells
    refine bodyPost_ret (v := .agg #[.int .i64 1, .string ⟨#[]⟩, .slice none 0 0]) (by simp [results, Tryz.results141, go_sem, d0, d1, d2]) rfl ?_
    exact HST5.out.ends HGL.out ⟨HST5.out.1, _, _, _, _, _, rfl, rfl, rfl⟩
  have HST5 := Lib.hid (HST4.out.step HGL.out hg5 hp5)
  obtain ⟨z0, z1, z2⟩ := HST5.out.2.1.cells
  obtain ⟨k0, k1, k2⟩ := HST5.out.2.1.free
  have HNL := Lib.hid (T.nameStr_le s.data.toList i)
  have hr2 := HR.out
  rw [if_neg hne] at hr2
  have HEL := Lib.hid (show T.nameEnd s.data.toList i ≤ s.size by have h := T.nameEnd_lt hne; have h2 := T.size_len s; omega)
  clear hg5 hp5 hne HR
  generalize T.nameStr s.data.toList i (T.nameEnd s.data.toList i) = nm at HNL hr2 ⊢
  generalize T.nameEnd s.data.toList i = je at HST5 HEL hr2 ⊢
  have HKR := Lib.hid (T.fnKind_range nm); have HNR := Lib.hid (T.fnKids_range nm)
  go_wp2_with fail
  refine (ofn nm _).mono ?_; rintro e w6 ⟨rfl, rfl⟩
  generalize T.fnKind nm = kk at HKR hr2 ⊢
  generalize T.fnKids nm = kn at HNR hr2 ⊢
  by_cases hk0 : kk = 0
  · have hr' : r = .ok (.mk 1 nm [], je) := by rw [if_pos (.inl hk0)] at hr2; simpa using hr2.symm
    subst hr'; subst hk0
    clear hr2
    go_wp2_with fail
    obtain ⟨d0, d1, d2⟩ := (box_set3 HST5.out.2.1 (.int .i64 1) (.string nm) (.slice none 0 0)).cells
    refine bodyPost_ret (v := .agg #[.int .i64 1, .string nm, .slice none 0 0]) (by simp [results, Tryz.results141, go_sem, d0, d1, d2]) rfl ?_
    exact HST5.out.ends HGL.out ⟨HST5.out.1, none, 0, rfl, rfl, rfl, atom_in _ _ 1 nm (by decide) (by have := HNL.out; unfold maxLen; omega)⟩
  have hk0' : (kk == 0) = false := by rw [beq_eq_false_iff_ne]; exact hk0
  rcases Bool.eq_false_or_eq_true (T.now s.data.toList je 40) with h40 | h40
  rotate_left
  · have hr' : r = .ok (.mk 1 nm [], je) := by rw [if_pos (.inr h40)] at hr2; simpa using hr2.symm
    subst hr'
    have H40 := Lib.hid h40
    clear hr2 h40 hk0
    go_wp2_with fail
    refine (onow_lit 40 40 (by decide) g je s _ HST5.out.1 (by have := HEL.out; omega) _ H40.out).mono ?_; rintro e w7 ⟨rfl, nq, rfl⟩
    have HST7 := Lib.hid (HST5.out.drewN nq)
    generalize w5.drewN nq = w7 at HST7 ⊢
    obtain ⟨z0, z1, z2⟩ := HST7.out.2.1.cells
    obtain ⟨k0, k1, k2⟩ := HST7.out.2.1.free
    go_wp2_with fail
    obtain ⟨d0, d1, d2⟩ := (box_set3 HST7.out.2.1 (.int .i64 1) (.string nm) (.slice none 0 0)).cells
    refine bodyPost_ret (v := .agg #[.int .i64 1, .string nm, .slice none 0 0]) (by simp [results, Tryz.results141, go_sem, d0, d1, d2]) rfl ?_
    exact HST7.out.ends HGL.out ⟨HST7.out.1, none, 0, rfl, rfl, rfl, atom_in _ _ 1 nm (by decide) (by have := HNL.out; unfold maxLen; omega)⟩
  rw [if_neg (by rintro (h | h); exact hk0 h; rw [h40] at h; cases h)] at hr2
  have H40 := Lib.hid h40
  have HR := Lib.hid hr2
  clear hr2 h40 hk0 z0 z1 z2 k0 k1 k2
  go_wp2_with fail
  refine (onow_lit 40 40 (by decide) g je s _ HST5.out.1 (by have := HEL.out; omega) _ H40.out).mono ?_; rintro e w7 ⟨rfl, nq, rfl⟩
  go_wp2_with fail
  refine (oneed g je s ⟨#[40]⟩ _ (HST5.out.1.drewN nq) (by have := HEL.out; omega) hs (by decide)).mono ?_; rintro e w8 ⟨rfl, hg3, hs3⟩
  have hst3 := (HST5.out.drewN nq).step HGL.out hg3 (j' := je + 1) (b' := false) (by have h := hs3; rw [show (⟨#[40]⟩ : ByteArray).data.toList = [40] from rfl, T.need_now H40.out] at h; exact h)
  have HST3 := Lib.hid hst3
  clear hg3 hs3 hst3
  have HIL := Lib.hid (show je + 1 ≤ s.size by have h := T.now_lt H40.out; have h2 := T.size_len s; omega)
  obtain ⟨f', hf', rk, hrk⟩ : ∃ f', f = f' + 1 ∧ ∃ rk, T.pkids s.data.toList (f' + 1) kn 0 (je + 1) = some rk := by
    have h := HR.out
    cases f with
    | zero => simp [T.pkids, T.close] at h
    | succ f' =>
      cases h2 : T.pkids s.data.toList (f' + 1) kn 0 (je + 1) with
      | none => rw [h2] at h; simp [T.close] at h
      | some rk => exact ⟨f', rfl, rk, h2⟩
  subst hf'
  have HRK := Lib.hid hrk
  have hreq : some r = T.close s.data.toList kk 41 (some rk) := by have h := HR.out; rw [hrk] at h; exact h.symm
  have HREQ := Lib.hid hreq
  clear hrk hreq
  go_wp2_with fail
  refine (okids f' (by omega) (fun f'' hf'' => HIH.out f'' (by omega)) g (je + 1) kn s _ rk HST3.out.1 HIL.out hs (HNR.out) HRK.out).mono ?_; rintro e w4 ⟨hg4, hk4⟩
  rcases rk with e4 | ⟨ks, j4⟩
  · obtain ⟨hp4, A4, n4, c4, rfl⟩ := hk4
    have hr' : r = .error e4 := by have := HREQ.out; simpa [T.close] using this
    subst hr'
    have hst5 := (HST3.out.step HGL.out hg4 hp4).later (below_alloc1 w4 (.cells #[.int .i64 kk, .string ⟨#[]⟩, .slice A4 n4 c4] 29))
    have hbx5 := Box.new w4 (.int .i64 kk) (.string ⟨#[]⟩) (.slice A4 n4 c4)
    have HST5 := Lib.hid hst5; have HBX5 := Lib.hid hbx5
    clear hg4 hp4 hst5 hbx5
    go_wp2_with fail
    refine (oneed_wrong g e4 s 41 [] _ HST5.out.1).mono ?_; rintro e w6 ⟨rfl, rfl⟩
    obtain ⟨y0, y1, y2⟩ := HBX5.out.cells
    obtain ⟨z0, z1, z2⟩ := HST5.out.2.1.cells
    obtain ⟨k0, k1, k2⟩ := HST5.out.2.1.free
    generalize w4.alloc (.cells #[.int .i64 kk, .string ⟨#[]⟩, .slice A4 n4 c4] 29) = w5 at HST5 HBX5 y0 y1 y2 z0 z1 z2 k0 k1 k2 ⊢
    go_wp2_with fail
    obtain ⟨d0, d1, d2⟩ := (box_set3 HST5.out.2.1 (.int .i64 kk) (.string ⟨#[]⟩) (.slice A4 n4 c4)).cells
    refine bodyPost_ret (v := .agg #[.int .i64 kk, .string ⟨#[]⟩, .slice A4 n4 c4]) (by simp [results, Tryz.results141, go_sem, d0, d1, d2]) rfl ?_
    exact HST5.out.ends HGL.out ⟨HST5.out.1, _, _, _, _, _, rfl, rfl, rfl⟩
  · obtain ⟨hp4, v4, rfl, hrow4⟩ := hk4
    obtain ⟨A4, c4, hv4, _, _⟩ := hrow4.shape
    subst hv4
    have hj4 := ((T.p_ok s.data.toList (f' + 1)).2 _ _ _ _ _ HRK.out).2.1
    have HJ4 := Lib.hid (show j4 ≤ s.size by have h2 := T.size_len s; omega)
    have htm := hrow4.term kk ⟨#[]⟩ (by have := HKR.out; omega) (by decide)
    have HTM := Lib.hid htm
    have hst5 := (HST3.out.step HGL.out hg4 hp4).later (below_alloc1 w4 (.cells #[.int .i64 kk, .string ⟨#[]⟩, .slice A4 ks.length c4] 29))
    have hbx5 := Box.new w4 (.int .i64 kk) (.string ⟨#[]⟩) (.slice A4 ks.length c4)
    have HST5 := Lib.hid hst5; have HBX5 := Lib.hid hbx5; have HG4 := Lib.hid hg4
    have HT5 := Lib.hid (fun (b : Nat) (h : b < w4.heap.size) => Below.heap_alloc w4 (.cells #[.int .i64 kk, .string ⟨#[]⟩, .slice A4 ks.length c4] 29) b h)
    have HZ5 := Lib.hid (size_alloc1 w4 (.cells #[.int .i64 kk, .string ⟨#[]⟩, .slice A4 ks.length c4] 29))
    clear hg4 hp4 hst5 hbx5 hrow4 htm hj4
    go_wp2_with fail
    refine (oneed g j4 s ⟨#[41]⟩ _ HST5.out.1 (by have := HJ4.out; omega) hs (by decide)).mono ?_; rintro e w6 ⟨rfl, hg6, hs6⟩
    generalize w4.alloc (.cells #[.int .i64 kk, .string ⟨#[]⟩, .slice A4 ks.length c4] 29) = w5 at HST5 HBX5 HT5 HZ5 hg6 ⊢
    have hne5 : some g ≠ some w4.heap.size := fun e => by have e' := Option.some.inj e; have := HGL.out; have := HG4.out.size; have := HST3.out.2.2.2; omega
    have hbx6 := HBX5.out.grown hg6 hne5
    obtain ⟨y0, y1, y2⟩ := hbx6.cells
    obtain ⟨j6, b6, hst6, hval⟩ : ∃ j6 b6, PSt 152 w g s w6 j6 b6 ∧ TermVal 152 w g s w6 (.int .i64 kk) (.string ⟨#[]⟩) (.slice A4 ks.length c4) r := by
      have hq := HREQ.out
      rw [show (⟨#[41]⟩ : ByteArray).data.toList = [41] from rfl] at hs6
      simp only [T.close] at hq
      cases hn : T.need s.data.toList [41] j4 with
      | error e6 =>
        rw [hn] at hq hs6
        have hr' : r = .error e6 := by simpa using hq
        subst hr'
        exact ⟨e6, true, HST5.out.step HGL.out hg6 hs6, hs6, _, _, _, _, _, rfl, rfl, rfl⟩
      | ok j6 =>
        rw [hn] at hq hs6
        have hr' : r = .ok (.mk kk ⟨#[]⟩ ks, j6) := by simpa using hq
        subst hr'
        refine ⟨j6, false, HST5.out.step HGL.out hg6 hs6, hs6, A4, c4, rfl, rfl, rfl, HTM.out.keep fun b hb hl => ⟨?_, ?_⟩⟩
        · have := of_decide_eq_true hb; have := HST3.out.2.2.2; exact decide_eq_true (by omega)
        · have h1 := of_decide_eq_true hb; have h2 := HST3.out.2.2.2
          rw [hg6.block b (by rw [HZ5.out]; omega) (fun e => by have e' := Option.some.inj e; have := HGL.out; omega)]
          exact HT5.out b hl
    obtain ⟨z0, z1, z2⟩ := hst6.2.1.cells
    obtain ⟨k0, k1, k2⟩ := hst6.2.1.free
    have HST6 := Lib.hid hst6; have HVAL := Lib.hid hval
    clear hg6 hs6 hbx6 hst6 hval hne5
    go_wp2_with fail
    obtain ⟨d0, d1, d2⟩ := (box_set3 HST6.out.2.1 (.int .i64 kk) (.string ⟨#[]⟩) (.slice A4 ks.length c4)).cells
    refine bodyPost_ret (v := .agg #[.int .i64 kk, .string ⟨#[]⟩, .slice A4 ks.length c4]) (by simp [results, Tryz.results141, go_sem, d0, d1, d2]) rfl ?_
    exact HST6.out.ends HGL.out HVAL.out
end Go.Proofs.YtihbmgkbipeakaaGreat
