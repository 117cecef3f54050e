/- Chapter 40: the walks of simple, atom and shape. -/
import Derived.Test.YtihbmgkbipeakaaGreatTermShape
namespace Go.Proofs.YtihbmgkbipeakaaGreat
open Go.RowKit

namespace T
theorem atom_cases (k : Int) (s : ByteArray) (ks : List T) : (k = 1 ∧ (T.mk k s ks).atom = true) ∨ ((k == 1) = false ∧ k = 2 ∧ (T.mk k s ks).atom = true) ∨ ((k == 1) = false ∧ (k == 2) = false ∧ (T.mk k s ks).atom = false) := by
  unfold atom
  by_cases h : k = 1
  · left; subst h; exact ⟨rfl, rfl⟩
  · by_cases h' : k = 2
    · right; left; subst h'; exact ⟨rfl, rfl, rfl⟩
    · right; right; have a : (k == 1) = false := by rw [beq_eq_false_iff_ne]; exact h
      have b : (k == 2) = false := by rw [beq_eq_false_iff_ne]; exact h'
      exact ⟨a, b, by simp only [a, b]; rfl⟩
end T
theorem size_alloc1 (w : World) (o : Obj) : (w.alloc o).heap.size = w.heap.size + 1 := by show (w.heap.push _).size = _; rw [Array.size_push]
theorem below_alloc1 (w : World) (o : Obj) : Below w.heap.size w (w.alloc o) := (Below.refl _ _).alloc (Nat.le_refl _) _

theorem osimple (t : T) (v : Value) (w : World) (ht : TermAt w v t) (r : Bool) (hr : t.atom = r) :
    Calls Tryz.prog 142 #[v] w fun e w' => e = .returned (.bool r) ∧ Below w.heap.size w w' := by
  cases ht with
  | mk k s A cap ks U h1 h2 h3 h4 hA hU =>
    clear hA hU
    rcases T.atom_cases k s ks with ⟨rfl, e⟩ | ⟨g, rfl, e⟩ | ⟨g, g', e⟩
    all_goals
      have E := Lib.hid (e.symm.trans hr); clear e hr
      go_enter Tryz.func142, Tryz.ntmps142
      go_wp2
      go_ret
      exact ⟨ret_bool E.out, below_alloc1 _ _⟩
theorem ratom (t : T) (v : Value) (w : World) (ht : TermAt w v t) (r : Bool) (hr : t.atom = r) :
    Calls Tryz.prog 154 #[v] w fun e w' => e = .returned (.bool r) ∧ Below w.heap.size w w' := by
  cases ht with
  | mk k s A cap ks U h1 h2 h3 h4 hA hU =>
    clear hA hU
    rcases T.atom_cases k s ks with ⟨rfl, e⟩ | ⟨g, rfl, e⟩ | ⟨g, g', e⟩
    all_goals
      have E := Lib.hid (e.symm.trans hr); clear e hr
      go_enter Tryz.func154, Tryz.ntmps154
      go_wp2
      go_ret
      exact ⟨ret_bool E.out, below_alloc1 _ _⟩
theorem shape1 (t : T) (v : Value) (w : World) (ht : TermAt w v t) :
    Calls Tryz.prog 143 #[v] w fun e w' => e = .returned (.bool (!t.atom)) ∧ Below w.heap.size w w' := by
  have h := fun W hW => osimple t v W hW t.atom rfl
  have H := Lib.hid h; clear h
  generalize t.atom = q at *
  cases ht with
  | mk k s A cap ks U h1 h2 h3 h4 hA hU =>
    have HT := Lib.hid (TermAt.mk k s A cap ks U h1 h2 h3 h4 hA hU)
    clear hA hU
    go_enter Tryz.func143, Tryz.ntmps143
    go_wp2_with fail
    refine (H.out _ (HT.out.later (below_alloc1 _ _))).mono ?_; rintro e w2 ⟨rfl, hb⟩
    replace hb := (below_alloc1 _ _).trans (hb.mono (below_alloc1 _ _).size)
    go_wp2_with fail
    go_ret
    exact ⟨rfl, hb⟩
theorem shape2 (t : T) (v : Value) (w : World) (ht : TermAt w v t) (h : ∀ W, TermAt W v t → Calls Tryz.prog 116 #[v] W fun e w' => e = .returned (.bool t.shape) ∧ Below W.heap.size W w') :
    Calls Tryz.prog 144 #[v] w fun e w' => e = .returned (.bool (!t.shape)) ∧ Below w.heap.size w w' := by
  have H := Lib.hid h; clear h
  generalize t.shape = q at *
  cases ht with
  | mk k s A cap ks U h1 h2 h3 h4 hA hU =>
    have HT := Lib.hid (TermAt.mk k s A cap ks U h1 h2 h3 h4 hA hU)
    clear hA hU
    go_enter Tryz.func144, Tryz.ntmps144
    go_wp2_with fail
    refine (H.out _ (HT.out.later (below_alloc1 _ _))).mono ?_; rintro e w2 ⟨rfl, hb⟩
    replace hb := (below_alloc1 _ _).trans (hb.mono (below_alloc1 _ _).size)
    go_wp2_with fail
    go_ret
    exact ⟨rfl, hb⟩

namespace T
theorem shape_head (k : Int) (s : ByteArray) (ks : List T) (h : k ≠ 1) (h' : k ≠ 2) : (T.mk k s ks).shape = ((headOk k ks && s.toList.isEmpty) && !ks.any fun t => !t.shape) := by
  simp only [shape, h, h', or_self, if_false, shapeAll_any]
theorem shape_atom (k : Int) (s : ByteArray) (ks : List T) (h : k = 1 ∨ k = 2) : (T.mk k s ks).shape = (isName s && ks.length == 0) := by
  simp only [shape, h, if_true]
end T
set_option maxRecDepth 100000 in
set_option maxHeartbeats 4000000 in
theorem oshape : ∀ (N : Nat) (t : T) (v : Value) (w : World), t.bulk < N → TermAt w v t → t.bulk ≤ 1048576 →
    Calls Tryz.prog 116 #[v] w fun e w' => e = .returned (.bool t.shape) ∧ Below w.heap.size w w' := by
  intro N
  induction N with
  | zero => intro t v w h; omega
  | succ N ih =>
    intro t v w hN ht hbk
    cases ht with
    | mk k s A cap ks U h1 h2 h3 h4 hA hU =>
      simp only [T.bulk] at hN hbk
      have hkn : ks.length ≤ 1048576 := by have := T.len_le ks; omega
      have hbx := boxed_new w (.int .i64 k) (.string s) (.slice A ks.length cap) 29
      have hb1 := below_alloc1 w (.cells #[.int .i64 k, .string s, .slice A ks.length cap] 29)
      obtain ⟨R, hR⟩ : ∃ R, (T.mk k s ks).shape = R := ⟨_, rfl⟩
      rw [hR]
      go_enter Tryz.func116, Tryz.ntmps116
      go_upto_region 1 with fail
      generalize w.alloc (.cells #[.int .i64 k, .string s, .slice A ks.length cap] 29) = w1 at hbx hb1 ⊢
      obtain ⟨x0, x1, x2⟩ := hbx
      have hkids : ∀ W, Below w1.heap.size w1 W → ∀ r, (ks.any fun t => !t.shape) = r → Calls Tryz.prog 84 #[.slice A ks.length cap, .func (.func 144) #[] #[]] W fun e w' => e = .returned (.bool r) ∧ Below W.heap.size W w' := fun W hW r hr => by
        have hWw := hb1.trans (hW.mono hb1.size)
        refine contains_shape (fun t => !t.shape) A cap ks U W hkn ?_ (fun i h => (hU i h).later hWw) ?_ r hr
        · rcases hA with h | ⟨b, off, e, hc⟩
          · exact .inl h
          · exact .inr ⟨b, off, e, fun i hi => by obtain ⟨c0, c1, c2⟩ := hc i hi; exact ⟨cell_later hWw c0, cell_later hWw c1, cell_later hWw c2⟩⟩
        · intro j h v' W' hv
          have := T.bulk_at ks j h
          exact shape2 _ _ _ hv fun W'' hW'' => ih _ _ _ (by omega) hW'' (by omega)
      have hatoms : ∀ W, Below w1.heap.size w1 W → ∀ r, (ks.any fun t => !t.atom) = r → Calls Tryz.prog 84 #[.slice A ks.length cap, .func (.func 143) #[] #[]] W fun e w' => e = .returned (.bool r) ∧ Below W.heap.size W w' := fun W hW r hr => by
        have hWw := hb1.trans (hW.mono hb1.size)
        refine contains_simple (fun t => !t.atom) A cap ks U W hkn ?_ (fun i h => (hU i h).later hWw) ?_ r hr
        · rcases hA with h | ⟨b, off, e, hc⟩
          · exact .inl h
          · exact .inr ⟨b, off, e, fun i hi => by obtain ⟨c0, c1, c2⟩ := hc i hi; exact ⟨cell_later hWw c0, cell_later hWw c1, cell_later hWw c2⟩⟩
        · intro j h v' W' hv
          exact shape1 _ _ _ hv
      have HK := Lib.hid hkids; have HAT := Lib.hid hatoms
      have BA := Lib.hid hA; have BU := Lib.hid hU
      have HS2 := Lib.hid h2
      clear hkids hatoms hA hU h2 ih
      by_cases k12 : k = 1 ∨ k = 2
      · rw [T.shape_atom k s ks k12] at hR
        rcases Bool.eq_false_or_eq_true (T.isName s) with hn | hn
        · by_cases l0 : ks.length = 0
          · have HR := Lib.hid (show true = R by rw [← hR, hn, l0]; rfl)
            have g : ((ks.length : Int) == 0) = true := by rw [l0]; rfl
            have HL := Lib.hid l0
            clear hR l0
            rcases k12 with rfl | rfl
            all_goals
              go_wp2_with (go_at_call 58; refine (oname _ _ HS2.out).mono ?_; rintro e w' ⟨rfl, rfl⟩)
              go_ret
              exact ⟨ret_bool HR.out, hb1⟩
          · have HR := Lib.hid (show false = R by rw [← hR, hn, Bool.true_and]; exact (beq_eq_false_iff_ne.2 l0).symm)
            have g : ((ks.length : Int) == 0) = false := by rw [beq_eq_false_iff_ne]; omega
            clear hR l0
            rcases k12 with rfl | rfl
            all_goals
              go_wp2_with (go_at_call 58; refine (oname _ _ HS2.out).mono ?_; rintro e w' ⟨rfl, rfl⟩)
              go_ret
              exact ⟨ret_bool HR.out, hb1⟩
        · have HR := Lib.hid (show false = R by rw [← hR, hn]; rfl)
          clear hR
          rcases k12 with rfl | rfl
          all_goals
            go_wp2_with (go_at_call 58; refine (oname _ _ HS2.out).mono ?_; rintro e w' ⟨rfl, rfl⟩)
            go_ret
            exact ⟨ret_bool HR.out, hb1⟩
      · have k1 : k ≠ 1 := fun h => k12 (.inl h)
        have k2 : k ≠ 2 := fun h => k12 (.inr h)
        rw [T.shape_head k s ks k1 k2] at hR
        have k1' : (k == 1) = false := by rw [beq_eq_false_iff_ne]; exact k1
        have k2' : (k == 2) = false := by rw [beq_eq_false_iff_ne]; exact k2
        clear k12
        by_cases k35 : k = 3 ∨ k = 5
        · by_cases l2 : ks.length = 2
          · have hd : T.headOk k ks = true := by unfold T.headOk; rw [if_pos k35, l2]; rfl
            have g : ((ks.length : Int) != 2) = false := by rw [l2]; rfl
            have HL := Lib.hid l2
            clear l2 k1 k2 k1' k2'
            rcases k35 with rfl | rfl
            all_goals
              rcases Bool.eq_false_or_eq_true s.toList.isEmpty with hs0 | hs0
              · have HR := Lib.hid (show (!ks.any fun t => !t.shape) = R by rw [← hR, hd, hs0]; rfl)
                obtain ⟨q, hq⟩ : ∃ q, (ks.any fun t => !t.shape) = q := ⟨_, rfl⟩
                have HQ := Lib.hid hq
                clear hR hd hq
                skip
                go_wp2_with ((go_at_call 84; refine (HK.out _ (by first | assumption | exact Below.refl _ _) q HQ.out).mono ?_; rintro e w3 ⟨rfl, hb3⟩))
                go_ret
                exact ⟨ret_bool (by rw [← HR.out, HQ.out]), hb1.trans (hb3.mono hb1.size)⟩
              · have HR := Lib.hid (show false = R by rw [← hR, hd, hs0]; rfl)
                clear hR hd
                skip
                go_wp2_with (fail)
                go_ret
                exact ⟨ret_bool HR.out, hb1⟩
          have hd : T.headOk k ks = false := by unfold T.headOk; rw [if_pos k35]; exact beq_eq_false_iff_ne.2 l2
          have HR := Lib.hid (show false = R by rw [← hR, hd]; rfl)
          have g : ((ks.length : Int) != 2) = true := by rw [bne_iff_ne]; omega
          clear l2 k1 k2 k1' k2' hd hR
          rcases k35 with rfl | rfl
          all_goals
            go_wp2_with fail
            go_ret
            exact ⟨ret_bool HR.out, hb1⟩
        have k3 : (k == 3) = false := by rw [beq_eq_false_iff_ne]; omega
        have k5 : (k == 5) = false := by rw [beq_eq_false_iff_ne]; omega
        by_cases k6 : k = 6
        · subst k6
          by_cases l2 : ks.length = 2
          · have l0 : 0 < ks.length := by omega
            obtain ⟨b, off, B1, C1, rfl, d0, d1, d2, hu⟩ := TermAt.cells l0 BA.out BU.out
            have e0 := cell_later hb1 d0; have e1 := cell_later hb1 d1; have e2 := cell_later hb1 d2
            simp only [Nat.zero_mul, Nat.add_zero] at e0 e1 e2
            have HU := Lib.hid (hu.later hb1)
            have g : ((ks.length : Int) != 2) = false := by rw [l2]; rfl
            have l0' : (0 : Int) < (ks.length : Int) := by omega
            have hhd : T.headOk 6 ks = ks[0].atom := by unfold T.headOk; simp [l2]
            obtain ⟨q0, hq0⟩ : ∃ q, ks[0].atom = q := ⟨_, rfl⟩
            have HQ0 := Lib.hid hq0
            have hd := hhd.trans hq0
            have HL := Lib.hid l2
            clear d0 d1 d2 hhd hq0 hu l2 k1 k2 k1' k2' k3 k5 k35
            cases q0
            · have HR := Lib.hid (show false = R by rw [← hR, hd]; rfl)
              clear hR hd
              go_wp2_with (go_at_call 142; refine (osimple _ _ _ HU.out _ HQ0.out).mono ?_; rintro e w2 ⟨rfl, hb2⟩; have y0 := cell_later hb2 x0; have y1 := cell_later hb2 x1; have y2 := cell_later hb2 x2)
              go_ret
              exact ⟨ret_bool HR.out, hb1.trans (hb2.mono hb1.size)⟩
            · rcases Bool.eq_false_or_eq_true s.toList.isEmpty with hs0 | hs0
              · have HR := Lib.hid (show (!ks.any fun t => !t.shape) = R by rw [← hR, hd, hs0]; rfl)
                obtain ⟨q, hq⟩ : ∃ q, (ks.any fun t => !t.shape) = q := ⟨_, rfl⟩
                have HQ := Lib.hid hq
                clear hR hd hq
                skip
                go_wp2_with (first | (go_at_call 142; refine (osimple _ _ _ HU.out _ HQ0.out).mono ?_; rintro e w2 ⟨rfl, hb2⟩; have y0 := cell_later hb2 x0; have y1 := cell_later hb2 x1; have y2 := cell_later hb2 x2) | (go_at_call 84; refine (HK.out _ (by first | assumption | exact Below.refl _ _) q HQ.out).mono ?_; rintro e w3 ⟨rfl, hb3⟩))
                go_ret
                exact ⟨ret_bool (by rw [← HR.out, HQ.out]), hb1.trans ((hb2.trans (hb3.mono hb2.size)).mono hb1.size)⟩
              · have HR := Lib.hid (show false = R by rw [← hR, hd, hs0]; rfl)
                clear hR hd
                skip
                go_wp2_with (first | (go_at_call 142; refine (osimple _ _ _ HU.out _ HQ0.out).mono ?_; rintro e w2 ⟨rfl, hb2⟩; have y0 := cell_later hb2 x0; have y1 := cell_later hb2 x1; have y2 := cell_later hb2 x2) | fail)
                go_ret
                exact ⟨ret_bool HR.out, hb1.trans (hb2.mono hb1.size)⟩
          have hd : T.headOk 6 ks = false := by unfold T.headOk; simp [l2]
          have HR := Lib.hid (show false = R by rw [← hR, hd]; rfl)
          have g : ((ks.length : Int) != 2) = true := by rw [bne_iff_ne]; omega
          clear l2 k1 k2 k1' k2' k3 k5 k35 hd hR
          go_wp2_with fail
          go_ret
          exact ⟨ret_bool HR.out, hb1⟩
        have k6' : (k == 6) = false := by rw [beq_eq_false_iff_ne]; exact k6
        by_cases k4 : k = 4
        · subst k4
          by_cases l2 : ks.length = 1
          · have hd : T.headOk 4 ks = true := by unfold T.headOk; simp [l2]
            have g : ((ks.length : Int) != 1) = false := by rw [l2]; rfl
            have HL := Lib.hid l2
            clear l2 k1 k2 k1' k2' k3 k5 k35 k6 k6'
            rcases Bool.eq_false_or_eq_true s.toList.isEmpty with hs0 | hs0
            · have HR := Lib.hid (show (!ks.any fun t => !t.shape) = R by rw [← hR, hd, hs0]; rfl)
              obtain ⟨q, hq⟩ : ∃ q, (ks.any fun t => !t.shape) = q := ⟨_, rfl⟩
              have HQ := Lib.hid hq
              clear hR hd hq
              skip
              go_wp2_with ((go_at_call 84; refine (HK.out _ (by first | assumption | exact Below.refl _ _) q HQ.out).mono ?_; rintro e w3 ⟨rfl, hb3⟩))
              go_ret
              exact ⟨ret_bool (by rw [← HR.out, HQ.out]), hb1.trans (hb3.mono hb1.size)⟩
            · have HR := Lib.hid (show false = R by rw [← hR, hd, hs0]; rfl)
              clear hR hd
              skip
              go_wp2_with (fail)
              go_ret
              exact ⟨ret_bool HR.out, hb1⟩
          have hd : T.headOk 4 ks = false := by unfold T.headOk; simp [l2]
          have HR := Lib.hid (show false = R by rw [← hR, hd]; rfl)
          have g : ((ks.length : Int) != 1) = true := by rw [bne_iff_ne]; omega
          clear l2 k1 k2 k1' k2' k3 k5 k35 k6 k6' hd hR
          go_wp2_with fail
          go_ret
          exact ⟨ret_bool HR.out, hb1⟩
        have k4' : (k == 4) = false := by rw [beq_eq_false_iff_ne]; exact k4
        by_cases k7 : k = 7
        · subst k7
          have hhd : T.headOk 7 ks = ((decide (1 ≤ ks.length) && decide (ks.length ≤ 4)) && !ks.any (fun t => !t.atom)) := by unfold T.headOk; simp
          by_cases l1 : ks.length < 1
          · have hd : T.headOk 7 ks = false := by rw [hhd, decide_eq_false (by omega)]; rfl
            have HR := Lib.hid (show false = R by rw [← hR, hd]; rfl)
            have g : (ks.length : Int) < 1 := by omega
            clear l1 k1 k2 k1' k2' k3 k5 k35 k6 k6' k4 k4' hd hR hhd
            go_wp2_with fail
            go_ret
            exact ⟨ret_bool HR.out, hb1⟩
          by_cases l4 : 4 < ks.length
          · have hd : T.headOk 7 ks = false := by rw [hhd, decide_eq_false (show ¬ ks.length ≤ 4 by omega), Bool.and_false]; rfl
            have HR := Lib.hid (show false = R by rw [← hR, hd]; rfl)
            have g : (1 : Int) ≤ (ks.length : Int) := by omega
            have g' : (4 : Int) < (ks.length : Int) := by omega
            clear l1 l4 k1 k2 k1' k2' k3 k5 k35 k6 k6' k4 k4' hd hR hhd
            go_wp2_with fail
            go_ret
            exact ⟨ret_bool HR.out, hb1⟩
          obtain ⟨q0, hq0⟩ : ∃ q, (ks.any fun t => !t.atom) = q := ⟨_, rfl⟩
          have HQ0 := Lib.hid hq0
          have hd : T.headOk 7 ks = !q0 := by rw [hhd, decide_eq_true (by omega), decide_eq_true (by omega), hq0]; rfl
          have g : (1 : Int) ≤ (ks.length : Int) := by omega
          have g' : (ks.length : Int) ≤ 4 := by omega
          clear l1 l4 k1 k2 k1' k2' k3 k5 k35 k6 k6' k4 k4' hhd hq0
          cases q0
          rotate_left
          · have HR := Lib.hid (show false = R by rw [← hR, hd]; rfl)
            clear hR hd
            go_wp2_with (go_at_call 84; refine (HAT.out _ (Below.refl _ _) _ HQ0.out).mono ?_; rintro e w2 ⟨rfl, hb2⟩; have y0 := cell_later hb2 x0; have y1 := cell_later hb2 x1; have y2 := cell_later hb2 x2)
            go_ret
            exact ⟨ret_bool HR.out, hb1.trans (hb2.mono hb1.size)⟩
          rw [Bool.not_false] at hd
          go_wp2_with fail
          refine (HAT.out _ (Below.refl _ _) _ HQ0.out).mono ?_; rintro e w2 ⟨rfl, hb2⟩; have y0 := cell_later hb2 x0; have y1 := cell_later hb2 x1; have y2 := cell_later hb2 x2
          clear x0 x1 x2
          rcases Bool.eq_false_or_eq_true s.toList.isEmpty with hs0 | hs0
          · have HR := Lib.hid (show (!ks.any fun t => !t.shape) = R by rw [← hR, hd, hs0]; rfl)
            obtain ⟨q, hq⟩ : ∃ q, (ks.any fun t => !t.shape) = q := ⟨_, rfl⟩
            have HQ := Lib.hid hq
            clear hR hd hq
            skip
            go_wp2_with ((go_at_call 84; refine (HK.out _ (by first | assumption | exact Below.refl _ _) q HQ.out).mono ?_; rintro e w3 ⟨rfl, hb3⟩))
            go_ret
            exact ⟨ret_bool (by rw [← HR.out, HQ.out]), hb1.trans ((hb2.trans (hb3.mono hb2.size)).mono hb1.size)⟩
          · have HR := Lib.hid (show false = R by rw [← hR, hd, hs0]; rfl)
            clear hR hd
            skip
            go_wp2_with (fail)
            go_ret
            exact ⟨ret_bool HR.out, hb1.trans (hb2.mono hb1.size)⟩
        have k7' : (k == 7) = false := by rw [beq_eq_false_iff_ne]; exact k7
        have hd : T.headOk k ks = false := by unfold T.headOk; rw [if_neg k35, if_neg k6, if_neg k4, if_neg k7]
        have HR := Lib.hid (show false = R by rw [← hR, hd]; rfl)
        clear hd hR k35 k6 k4 k7 k1 k2
        go_wp2_with fail
        go_ret
        exact ⟨ret_bool HR.out, hb1⟩
end Go.Proofs.YtihbmgkbipeakaaGreat
