/- Several texts in one: TermShape2, TermValid, TermVars, TermVal. -/
import Derived.Test.YtihbmgkbipeakaaGreatWebG1
namespace Go.Proofs.YtihbmgkbipeakaaGreat
open Go.RowKit

namespace T
theorem atom_cases (k : Int) (s : ByteArray) (ks : List T) : (k = 1 ∧ (T.mk k s ks).atom = true) ∨ ((k == 1) = false ∧ k = 2 ∧ (T.mk k s ks).atom = true) ∨ ((k == 1) = false ∧ (k == 2) = false ∧ (T.mk k s ks).atom = false) := by
  unfold atom
  by_cases h : k = 1
  · left; subst h; exact ⟨rfl, rfl⟩
  · by_cases h' : k = 2
    · right; left; subst h'; exact ⟨rfl, rfl, rfl⟩
    · right; right; have a : (k == 1) = false := by rw [beq_eq_false_iff_ne]; exact h
      have b : (k == 2) = false := by rw [beq_eq_false_iff_ne]; exact h'
      exact ⟨a, b, by simp only [a, b]; rfl⟩
end T
theorem size_alloc1 (w : World) (o : Obj) : (w.alloc o).heap.size = w.heap.size + 1 := by show (w.heap.push _).size = _; rw [Array.size_push]
theorem below_alloc1 (w : World) (o : Obj) : Below w.heap.size w (w.alloc o) := (Below.refl _ _).alloc (Nat.le_refl _) _

theorem osimple (t : T) (v : Value) (w : World) (ht : TermAt w v t) (r : Bool) (hr : t.atom = r) :
    Calls Tryz.prog 142 #[v] w fun e w' => e = .returned (.bool r) ∧ Below w.heap.size w w' := by
  cases ht with
  | mk k s A cap ks U h1 h2 h3 h4 hA hU =>
    clear hA hU
    rcases T.atom_cases k s ks with ⟨rfl, e⟩ | ⟨g, rfl, e⟩ | ⟨g, g', e⟩
    all_goals
      have E := Lib.hid (e.symm.trans hr); clear e hr
      go_enter Tryz.func142, Tryz.ntmps142
      go_wp2
      go_ret
      exact ⟨ret_bool E.out, below_alloc1 _ _⟩
theorem ratom (t : T) (v : Value) (w : World) (ht : TermAt w v t) (r : Bool) (hr : t.atom = r) :
    Calls Tryz.prog 154 #[v] w fun e w' => e = .returned (.bool r) ∧ Below w.heap.size w w' := by
  cases ht with
  | mk k s A cap ks U h1 h2 h3 h4 hA hU =>
    clear hA hU
    rcases T.atom_cases k s ks with ⟨rfl, e⟩ | ⟨g, rfl, e⟩ | ⟨g, g', e⟩
    all_goals
      have E := Lib.hid (e.symm.trans hr); clear e hr
      go_enter Tryz.func154, Tryz.ntmps154
      go_wp2
      go_ret
      exact ⟨ret_bool E.out, below_alloc1 _ _⟩
theorem shape1 (t : T) (v : Value) (w : World) (ht : TermAt w v t) :
    Calls Tryz.prog 143 #[v] w fun e w' => e = .returned (.bool (!t.atom)) ∧ Below w.heap.size w w' := by
  have h := fun W hW => osimple t v W hW t.atom rfl
  have H := Lib.hid h; clear h
  generalize t.atom = q at *
  cases ht with
  | mk k s A cap ks U h1 h2 h3 h4 hA hU =>
    have HT := Lib.hid (TermAt.mk k s A cap ks U h1 h2 h3 h4 hA hU)
    clear hA hU
    go_enter Tryz.func143, Tryz.ntmps143
    go_wp2_with fail
    refine (H.out _ (HT.out.later (below_alloc1 _ _))).mono ?_; rintro e w2 ⟨rfl, hb⟩
    replace hb := (below_alloc1 _ _).trans (hb.mono (below_alloc1 _ _).size)
    go_wp2_with fail
    go_ret
    exact ⟨rfl, hb⟩
theorem shape2 (t : T) (v : Value) (w : World) (ht : TermAt w v t) (h : ∀ W, TermAt W v t → Calls Tryz.prog 116 #[v] W fun e w' => e = .returned (.bool t.shape) ∧ Below W.heap.size W w') :
    Calls Tryz.prog 144 #[v] w fun e w' => e = .returned (.bool (!t.shape)) ∧ Below w.heap.size w w' := by
  have H := Lib.hid h; clear h
  generalize t.shape = q at *
  cases ht with
  | mk k s A cap ks U h1 h2 h3 h4 hA hU =>
    have HT := Lib.hid (TermAt.mk k s A cap ks U h1 h2 h3 h4 hA hU)
    clear hA hU
    go_enter Tryz.func144, Tryz.ntmps144
    go_wp2_with fail
    refine (H.out _ (HT.out.later (below_alloc1 _ _))).mono ?_; rintro e w2 ⟨rfl, hb⟩
    replace hb := (below_alloc1 _ _).trans (hb.mono (below_alloc1 _ _).size)
    go_wp2_with fail
    go_ret
    exact ⟨rfl, hb⟩

namespace T
theorem shape_head (k : Int) (s : ByteArray) (ks : List T) (h : k ≠ 1) (h' : k ≠ 2) : (T.mk k s ks).shape = ((headOk k ks && s.toList.isEmpty) && !ks.any fun t => !t.shape) := by
  simp only [shape, h, h', or_self, if_false, shapeAll_any]
theorem shape_atom (k : Int) (s : ByteArray) (ks : List T) (h : k = 1 ∨ k = 2) : (T.mk k s ks).shape = (isName s && ks.length == 0) := by
  simp only [shape, h, if_true]
end T
set_option maxRecDepth 100000 in
set_option maxHeartbeats 4000000 in
theorem oshape : ∀ (N : Nat) (t : T) (v : Value) (w : World), t.bulk < N → TermAt w v t → t.bulk ≤ 1048576 →
    Calls Tryz.prog 116 #[v] w fun e w' => e = .returned (.bool t.shape) ∧ Below w.heap.size w w' := by
  intro N
  induction N with
  | zero => intro t v w h; omega
  | succ N ih =>
    intro t v w hN ht hbk
    cases ht with
    | mk k s A cap ks U h1 h2 h3 h4 hA hU =>
      simp only [T.bulk] at hN hbk
      have hkn : ks.length ≤ 1048576 := by have := T.len_le ks; omega
      have hbx := boxed_new w (.int .i64 k) (.string s) (.slice A ks.length cap) 29
      have hb1 := below_alloc1 w (.cells #[.int .i64 k, .string s, .slice A ks.length cap] 29)
      obtain ⟨R, hR⟩ : ∃ R, (T.mk k s ks).shape = R := ⟨_, rfl⟩
      rw [hR]
      go_enter Tryz.func116, Tryz.ntmps116
      go_upto_region 1 with fail
      generalize w.alloc (.cells #[.int .i64 k, .string s, .slice A ks.length cap] 29) = w1 at hbx hb1 ⊢
      obtain ⟨x0, x1, x2⟩ := hbx
      have hkids : ∀ W, Below w1.heap.size w1 W → ∀ r, (ks.any fun t => !t.shape) = r → Calls Tryz.prog 84 #[.slice A ks.length cap, .func (.func 144) #[] #[]] W fun e w' => e = .returned (.bool r) ∧ Below W.heap.size W w' := fun W hW r hr => by
        have hWw := hb1.trans (hW.mono hb1.size)
        refine contains_shape (fun t => !t.shape) A cap ks U W hkn ?_ (fun i h => (hU i h).later hWw) ?_ r hr
        · rcases hA with h | ⟨b, off, e, hc⟩
          · exact .inl h
          · exact .inr ⟨b, off, e, fun i hi => by obtain ⟨c0, c1, c2⟩ := hc i hi; exact ⟨cell_later hWw c0, cell_later hWw c1, cell_later hWw c2⟩⟩
        · intro j h v' W' hv
          have := T.bulk_at ks j h
          exact shape2 _ _ _ hv fun W'' hW'' => ih _ _ _ (by omega) hW'' (by omega)
      have hatoms : ∀ W, Below w1.heap.size w1 W → ∀ r, (ks.any fun t => !t.atom) = r → Calls Tryz.prog 84 #[.slice A ks.length cap, .func (.func 143) #[] #[]] W fun e w' => e = .returned (.bool r) ∧ Below W.heap.size W w' := fun W hW r hr => by
        have hWw := hb1.trans (hW.mono hb1.size)
        refine contains_simple (fun t => !t.atom) A cap ks U W hkn ?_ (fun i h => (hU i h).later hWw) ?_ r hr
        · rcases hA with h | ⟨b, off, e, hc⟩
          · exact .inl h
          · exact .inr ⟨b, off, e, fun i hi => by obtain ⟨c0, c1, c2⟩ := hc i hi; exact ⟨cell_later hWw c0, cell_later hWw c1, cell_later hWw c2⟩⟩
        · intro j h v' W' hv
          exact shape1 _ _ _ hv
      have HK := Lib.hid hkids; have HAT := Lib.hid hatoms
      have BA := Lib.hid hA; have BU := Lib.hid hU
      have HS2 := Lib.hid h2
      clear hkids hatoms hA hU h2 ih
      by_cases k12 : k = 1 ∨ k = 2
      · rw [T.shape_atom k s ks k12] at hR
        rcases Bool.eq_false_or_eq_true (T.isName s) with hn | hn
        · by_cases l0 : ks.length = 0
          · have HR := Lib.hid (show true = R by rw [← hR, hn, l0]; rfl)
            have g : ((ks.length : Int) == 0) = true := by rw [l0]; rfl
            have HL := Lib.hid l0
            clear hR l0
            rcases k12 with rfl | rfl
            all_goals
              go_wp2_with (go_at_call 58; refine (oname _ _ HS2.out).mono ?_; rintro e w' ⟨rfl, rfl⟩)
              go_ret
              exact ⟨ret_bool HR.out, hb1⟩
          · have HR := Lib.hid (show false = R by rw [← hR, hn, Bool.true_and]; exact (beq_eq_false_iff_ne.2 l0).symm)
            have g : ((ks.length : Int) == 0) = false := by rw [beq_eq_false_iff_ne]; omega
            clear hR l0
            rcases k12 with rfl | rfl
            all_goals
              go_wp2_with (go_at_call 58; refine (oname _ _ HS2.out).mono ?_; rintro e w' ⟨rfl, rfl⟩)
              go_ret
              exact ⟨ret_bool HR.out, hb1⟩
        · have HR := Lib.hid (show false = R by rw [← hR, hn]; rfl)
          clear hR
          rcases k12 with rfl | rfl
          all_goals
            go_wp2_with (go_at_call 58; refine (oname _ _ HS2.out).mono ?_; rintro e w' ⟨rfl, rfl⟩)
            go_ret
            exact ⟨ret_bool HR.out, hb1⟩
      · have k1 : k ≠ 1 := fun h => k12 (.inl h)
        have k2 : k ≠ 2 := fun h => k12 (.inr h)
        rw [T.shape_head k s ks k1 k2] at hR
        have k1' : (k == 1) = false := by rw [beq_eq_false_iff_ne]; exact k1
        have k2' : (k == 2) = false := by rw [beq_eq_false_iff_ne]; exact k2
        clear k12
        by_cases k35 : k = 3 ∨ k = 5
        · by_cases l2 : ks.length = 2
          · have hd : T.headOk k ks = true := by unfold T.headOk; rw [if_pos k35, l2]; rfl
            have g : ((ks.length : Int) != 2) = false := by rw [l2]; rfl
            have HL := Lib.hid l2
            clear l2 k1 k2 k1' k2'
            rcases k35 with rfl | rfl
            all_goals
              rcases Bool.eq_false_or_eq_true s.toList.isEmpty with hs0 | hs0
              · have HR := Lib.hid (show (!ks.any fun t => !t.shape) = R by rw [← hR, hd, hs0]; rfl)
                obtain ⟨q, hq⟩ : ∃ q, (ks.any fun t => !t.shape) = q := ⟨_, rfl⟩
                have HQ := Lib.hid hq
                clear hR hd hq
                skip
                go_wp2_with ((go_at_call 84; refine (HK.out _ (by first | assumption | exact Below.refl _ _) q HQ.out).mono ?_; rintro e w3 ⟨rfl, hb3⟩))
                go_ret
                exact ⟨ret_bool (by rw [← HR.out, HQ.out]), hb1.trans (hb3.mono hb1.size)⟩
              · have HR := Lib.hid (show false = R by rw [← hR, hd, hs0]; rfl)
                clear hR hd
                skip
                go_wp2_with (fail)
                go_ret
                exact ⟨ret_bool HR.out, hb1⟩
          have hd : T.headOk k ks = false := by unfold T.headOk; rw [if_pos k35]; exact beq_eq_false_iff_ne.2 l2
          have HR := Lib.hid (show false = R by rw [← hR, hd]; rfl)
          have g : ((ks.length : Int) != 2) = true := by rw [bne_iff_ne]; omega
          clear l2 k1 k2 k1' k2' hd hR
          rcases k35 with rfl | rfl
          all_goals
            go_wp2_with fail
            go_ret
            exact ⟨ret_bool HR.out, hb1⟩
        have k3 : (k == 3) = false := by rw [beq_eq_false_iff_ne]; omega
        have k5 : (k == 5) = false := by rw [beq_eq_false_iff_ne]; omega
        by_cases k6 : k = 6
        · subst k6
          by_cases l2 : ks.length = 2
          · have l0 : 0 < ks.length := by omega
            obtain ⟨b, off, B1, C1, rfl, d0, d1, d2, hu⟩ := TermAt.cells l0 BA.out BU.out
            have e0 := cell_later hb1 d0; have e1 := cell_later hb1 d1; have e2 := cell_later hb1 d2
            simp only [Nat.zero_mul, Nat.add_zero] at e0 e1 e2
            have HU := Lib.hid (hu.later hb1)
            have g : ((ks.length : Int) != 2) = false := by rw [l2]; rfl
            have l0' : (0 : Int) < (ks.length : Int) := by omega
            have hhd : T.headOk 6 ks = ks[0].atom := by unfold T.headOk; simp [l2]
            obtain ⟨q0, hq0⟩ : ∃ q, ks[0].atom = q := ⟨_, rfl⟩
            have HQ0 := Lib.hid hq0
            have hd := hhd.trans hq0
            have HL := Lib.hid l2
            clear d0 d1 d2 hhd hq0 hu l2 k1 k2 k1' k2' k3 k5 k35
            cases q0
            · have HR := Lib.hid (show false = R by rw [← hR, hd]; rfl)
              clear hR hd
              go_wp2_with (go_at_call 142; refine (osimple _ _ _ HU.out _ HQ0.out).mono ?_; rintro e w2 ⟨rfl, hb2⟩; have y0 := cell_later hb2 x0; have y1 := cell_later hb2 x1; have y2 := cell_later hb2 x2)
              go_ret
              exact ⟨ret_bool HR.out, hb1.trans (hb2.mono hb1.size)⟩
            · rcases Bool.eq_false_or_eq_true s.toList.isEmpty with hs0 | hs0
              · have HR := Lib.hid (show (!ks.any fun t => !t.shape) = R by rw [← hR, hd, hs0]; rfl)
                obtain ⟨q, hq⟩ : ∃ q, (ks.any fun t => !t.shape) = q := ⟨_, rfl⟩
                have HQ := Lib.hid hq
                clear hR hd hq
                skip
                go_wp2_with (first | (go_at_call 142; refine (osimple _ _ _ HU.out _ HQ0.out).mono ?_; rintro e w2 ⟨rfl, hb2⟩; have y0 := cell_later hb2 x0; have y1 := cell_later hb2 x1; have y2 := cell_later hb2 x2) | (go_at_call 84; refine (HK.out _ (by first | assumption | exact Below.refl _ _) q HQ.out).mono ?_; rintro e w3 ⟨rfl, hb3⟩))
                go_ret
                exact ⟨ret_bool (by rw [← HR.out, HQ.out]), hb1.trans ((hb2.trans (hb3.mono hb2.size)).mono hb1.size)⟩
              · have HR := Lib.hid (show false = R by rw [← hR, hd, hs0]; rfl)
                clear hR hd
                skip
                go_wp2_with (first | (go_at_call 142; refine (osimple _ _ _ HU.out _ HQ0.out).mono ?_; rintro e w2 ⟨rfl, hb2⟩; have y0 := cell_later hb2 x0; have y1 := cell_later hb2 x1; have y2 := cell_later hb2 x2) | fail)
                go_ret
                exact ⟨ret_bool HR.out, hb1.trans (hb2.mono hb1.size)⟩
          have hd : T.headOk 6 ks = false := by unfold T.headOk; simp [l2]
          have HR := Lib.hid (show false = R by rw [← hR, hd]; rfl)
          have g : ((ks.length : Int) != 2) = true := by rw [bne_iff_ne]; omega
          clear l2 k1 k2 k1' k2' k3 k5 k35 hd hR
          go_wp2_with fail
          go_ret
          exact ⟨ret_bool HR.out, hb1⟩
        have k6' : (k == 6) = false := by rw [beq_eq_false_iff_ne]; exact k6
        by_cases k4 : k = 4
        · subst k4
          by_cases l2 : ks.length = 1
          · have hd : T.headOk 4 ks = true := by unfold T.headOk; simp [l2]
            have g : ((ks.length : Int) != 1) = false := by rw [l2]; rfl
            have HL := Lib.hid l2
            clear l2 k1 k2 k1' k2' k3 k5 k35 k6 k6'
            rcases Bool.eq_false_or_eq_true s.toList.isEmpty with hs0 | hs0
            · have HR := Lib.hid (show (!ks.any fun t => !t.shape) = R by rw [← hR, hd, hs0]; rfl)
              obtain ⟨q, hq⟩ : ∃ q, (ks.any fun t => !t.shape) = q := ⟨_, rfl⟩
              have HQ := Lib.hid hq
              clear hR hd hq
              skip
              go_wp2_with ((go_at_call 84; refine (HK.out _ (by first | assumption | exact Below.refl _ _) q HQ.out).mono ?_; rintro e w3 ⟨rfl, hb3⟩))
              go_ret
              exact ⟨ret_bool (by rw [← HR.out, HQ.out]), hb1.trans (hb3.mono hb1.size)⟩
            · have HR := Lib.hid (show false = R by rw [← hR, hd, hs0]; rfl)
              clear hR hd
              skip
              go_wp2_with (fail)
              go_ret
              exact ⟨ret_bool HR.out, hb1⟩
          have hd : T.headOk 4 ks = false := by unfold T.headOk; simp [l2]
          have HR := Lib.hid (show false = R by rw [← hR, hd]; rfl)
          have g : ((ks.length : Int) != 1) = true := by rw [bne_iff_ne]; omega
          clear l2 k1 k2 k1' k2' k3 k5 k35 k6 k6' hd hR
          go_wp2_with fail
          go_ret
          exact ⟨ret_bool HR.out, hb1⟩
        have k4' : (k == 4) = false := by rw [beq_eq_false_iff_ne]; exact k4
        by_cases k7 : k = 7
        · subst k7
          have hhd : T.headOk 7 ks = ((decide (1 ≤ ks.length) && decide (ks.length ≤ 4)) && !ks.any (fun t => !t.atom)) := by unfold T.headOk; simp
          by_cases l1 : ks.length < 1
          · have hd : T.headOk 7 ks = false := by rw [hhd, decide_eq_false (by omega)]; rfl
            have HR := Lib.hid (show false = R by rw [← hR, hd]; rfl)
            have g : (ks.length : Int) < 1 := by omega
            clear l1 k1 k2 k1' k2' k3 k5 k35 k6 k6' k4 k4' hd hR hhd
            go_wp2_with fail
            go_ret
            exact ⟨ret_bool HR.out, hb1⟩
          by_cases l4 : 4 < ks.length
          · have hd : T.headOk 7 ks = false := by rw [hhd, decide_eq_false (show ¬ ks.length ≤ 4 by omega), Bool.and_false]; rfl
            have HR := Lib.hid (show false = R by rw [← hR, hd]; rfl)
            have g : (1 : Int) ≤ (ks.length : Int) := by omega
            have g' : (4 : Int) < (ks.length : Int) := by omega
            clear l1 l4 k1 k2 k1' k2' k3 k5 k35 k6 k6' k4 k4' hd hR hhd
            go_wp2_with fail
            go_ret
            exact ⟨ret_bool HR.out, hb1⟩
          obtain ⟨q0, hq0⟩ : ∃ q, (ks.any fun t => !t.atom) = q := ⟨_, rfl⟩
          have HQ0 := Lib.hid hq0
          have hd : T.headOk 7 ks = !q0 := by rw [hhd, decide_eq_true (by omega), decide_eq_true (by omega), hq0]; rfl
          have g : (1 : Int) ≤ (ks.length : Int) := by omega
          have g' : (ks.length : Int) ≤ 4 := by omega
          clear l1 l4 k1 k2 k1' k2' k3 k5 k35 k6 k6' k4 k4' hhd hq0
          cases q0
          rotate_left
          · have HR := Lib.hid (show false = R by rw [← hR, hd]; rfl)
            clear hR hd
            go_wp2_with (go_at_call 84; refine (HAT.out _ (Below.refl _ _) _ HQ0.out).mono ?_; rintro e w2 ⟨rfl, hb2⟩; have y0 := cell_later hb2 x0; have y1 := cell_later hb2 x1; have y2 := cell_later hb2 x2)
            go_ret
            exact ⟨ret_bool HR.out, hb1.trans (hb2.mono hb1.size)⟩
          rw [Bool.not_false] at hd
          go_wp2_with fail
          refine (HAT.out _ (Below.refl _ _) _ HQ0.out).mono ?_; rintro e w2 ⟨rfl, hb2⟩; have y0 := cell_later hb2 x0; have y1 := cell_later hb2 x1; have y2 := cell_later hb2 x2
          clear x0 x1 x2
          rcases Bool.eq_false_or_eq_true s.toList.isEmpty with hs0 | hs0
          · have HR := Lib.hid (show (!ks.any fun t => !t.shape) = R by rw [← hR, hd, hs0]; rfl)
            obtain ⟨q, hq⟩ : ∃ q, (ks.any fun t => !t.shape) = q := ⟨_, rfl⟩
            have HQ := Lib.hid hq
            clear hR hd hq
            skip
            go_wp2_with ((go_at_call 84; refine (HK.out _ (by first | assumption | exact Below.refl _ _) q HQ.out).mono ?_; rintro e w3 ⟨rfl, hb3⟩))
            go_ret
            exact ⟨ret_bool (by rw [← HR.out, HQ.out]), hb1.trans ((hb2.trans (hb3.mono hb2.size)).mono hb1.size)⟩
          · have HR := Lib.hid (show false = R by rw [← hR, hd, hs0]; rfl)
            clear hR hd
            skip
            go_wp2_with (fail)
            go_ret
            exact ⟨ret_bool HR.out, hb1.trans (hb2.mono hb1.size)⟩
        have k7' : (k == 7) = false := by rw [beq_eq_false_iff_ne]; exact k7
        have hd : T.headOk k ks = false := by unfold T.headOk; rw [if_neg k35, if_neg k6, if_neg k4, if_neg k7]
        have HR := Lib.hid (show false = R by rw [← hR, hd]; rfl)
        clear hd hR k35 k6 k4 k7 k1 k2
        go_wp2_with fail
        go_ret
        exact ⟨ret_bool HR.out, hb1⟩
end Go.Proofs.YtihbmgkbipeakaaGreat

namespace Go.Proofs.YtihbmgkbipeakaaGreat
open Go.RowKit

namespace T
theorem headOk_kinds (k : Int) (ks : List T) : (headOk k ks = false ∧ (((k = 3 ∨ k = 5 ∨ k = 6) ∧ ks.length ≠ 2) ∨ (k = 4 ∧ ks.length ≠ 1) ∨ (k = 7 ∧ (ks.length = 0 ∨ 4 < ks.length)) ∨ (k ≠ 3 ∧ k ≠ 4 ∧ k ≠ 5 ∧ k ≠ 6 ∧ k ≠ 7))) ∨
    (((k = 3 ∨ k = 5 ∨ k = 6) ∧ ks.length = 2) ∨ (k = 4 ∧ ks.length = 1) ∨ (k = 7 ∧ (ks.length = 1 ∨ ks.length = 2 ∨ ks.length = 3 ∨ ks.length = 4))) := by
  by_cases h3 : k = 3 ∨ k = 5
  · by_cases l : ks.length = 2
    · right; left; exact ⟨by omega, l⟩
    · left; exact ⟨by unfold headOk; rw [if_pos h3]; exact beq_eq_false_iff_ne.2 l, .inl ⟨by omega, l⟩⟩
  by_cases h6 : k = 6
  · by_cases l : ks.length = 2
    · right; left; exact ⟨by omega, l⟩
    · left; exact ⟨by unfold headOk; rw [if_neg h3, if_pos h6]; simp [l], .inl ⟨by omega, l⟩⟩
  by_cases h4 : k = 4
  · by_cases l : ks.length = 1
    · right; right; left; exact ⟨h4, l⟩
    · left; exact ⟨by unfold headOk; rw [if_neg h3, if_neg h6, if_pos h4]; exact beq_eq_false_iff_ne.2 l, .inr (.inl ⟨h4, l⟩)⟩
  by_cases h7 : k = 7
  · by_cases l : 1 ≤ ks.length ∧ ks.length ≤ 4
    · right; right; right; exact ⟨h7, by omega⟩
    · left
      refine ⟨?_, .inr (.inr (.inl ⟨h7, by omega⟩))⟩
      unfold headOk; rw [if_neg h3, if_neg h6, if_neg h4, if_pos h7]
      have : (decide (1 ≤ ks.length) && decide (ks.length ≤ 4)) = false := by rw [← Bool.decide_and]; exact decide_eq_false l
      rw [this]; rfl
  · left; exact ⟨by unfold headOk; rw [if_neg h3, if_neg h6, if_neg h4, if_neg h7], .inr (.inr (.inr ⟨by omega, h4, by omega, h6, h7⟩))⟩
theorem any_at (p : T → Bool) (l : List T) (j : Nat) (h : j < l.length) (hp : p l[j] = true) : l.any p = true := List.any_eq_true.2 ⟨l[j], List.getElem_mem h, hp⟩
theorem any_none (p : T → Bool) (l : List T) (h : ∀ j (g : j < l.length), p l[j] = false) : l.any p = false := by
  rw [List.any_eq_false]; intro x hx
  obtain ⟨j, hj, rfl⟩ := List.getElem_of_mem hx
  rw [h j hj]; decide
end T
set_option maxRecDepth 100000 in
set_option maxHeartbeats 8000000 in
theorem rshaped : ∀ (N : Nat) (t : T) (v : Value) (w : World), t.bulk < N → TermAt w v t → t.bulk ≤ 1048576 →
    Calls Tryz.prog 128 #[v] w fun e w' => e = .returned (.bool t.shape) ∧ Below w.heap.size w w' := by
  intro N
  induction N with
  | zero => intro t v w h; omega
  | succ N ih =>
    intro t v w hN ht hbk
    cases ht with
    | mk k s A cap ks U h1 h2 h3 h4 hA hU =>
      simp only [T.bulk] at hN hbk
      have hkn : ks.length ≤ 1048576 := by have := T.len_le ks; omega
      have hbx := boxed_new w (.int .i64 k) (.string s) (.slice A ks.length cap) 29
      have hb1 := below_alloc1 w (.cells #[.int .i64 k, .string s, .slice A ks.length cap] 29)
      obtain ⟨R, hR⟩ : ∃ R, (T.mk k s ks).shape = R := ⟨_, rfl⟩
      rw [hR]
      go_enter Tryz.func128, Tryz.ntmps128
      go_upto_region 2 with fail
      generalize w.alloc (.cells #[.int .i64 k, .string s, .slice A ks.length cap] 29) = w1 at hbx hb1 ⊢
      obtain ⟨x0, x1, x2⟩ := hbx
      have BA := Lib.hid hA; have BU := Lib.hid hU
      have HS2 := Lib.hid h2
      have IH := Lib.hid ih
      clear hA hU h2 ih
      by_cases k12 : k = 1 ∨ k = 2
      · rw [T.shape_atom k s ks k12] at hR
        rcases Bool.eq_false_or_eq_true (T.isName s) with hn | hn
        · by_cases l0 : ks.length = 0
          · have HR := Lib.hid (show true = R by rw [← hR, hn, l0]; rfl)
            have g : ((ks.length : Int) == 0) = true := by rw [l0]; rfl
            have HL := Lib.hid l0
            clear hR l0
            rcases k12 with rfl | rfl
            all_goals
              go_wp2_with (go_at_call 64; refine (rname _ _ HS2.out).mono ?_; rintro e w' ⟨rfl, rfl⟩)
              go_ret
              exact ⟨ret_bool HR.out, hb1⟩
          · have HR := Lib.hid (show false = R by rw [← hR, hn, Bool.true_and]; exact (beq_eq_false_iff_ne.2 l0).symm)
            have g : ((ks.length : Int) == 0) = false := by rw [beq_eq_false_iff_ne]; omega
            clear hR l0
            rcases k12 with rfl | rfl
            all_goals
              go_wp2_with (go_at_call 64; refine (rname _ _ HS2.out).mono ?_; rintro e w' ⟨rfl, rfl⟩)
              go_ret
              exact ⟨ret_bool HR.out, hb1⟩
        · have HR := Lib.hid (show false = R by rw [← hR, hn]; rfl)
          clear hR
          rcases k12 with rfl | rfl
          all_goals
            go_wp2_with (go_at_call 64; refine (rname _ _ HS2.out).mono ?_; rintro e w' ⟨rfl, rfl⟩)
            go_ret
            exact ⟨ret_bool HR.out, hb1⟩
      have k1 : k ≠ 1 := fun h => k12 (.inl h)
      have k2 : k ≠ 2 := fun h => k12 (.inr h)
      rw [T.shape_head k s ks k1 k2] at hR
      rcases T.headOk_kinds k ks with ⟨hd, hc⟩ | hc
      · have HR := Lib.hid (show false = R by rw [← hR, hd]; rfl)
        clear hR hd k12
        have hs : s.toList.isEmpty = true ∨ s.toList.isEmpty = false := Bool.eq_false_or_eq_true _
        rcases hc with ⟨hk, hl⟩ | ⟨rfl, hl⟩ | ⟨rfl, hl⟩ | ⟨g3, g4, g5, g6, g7⟩
        · have g : ((ks.length : Int) != 2) = true := by rw [bne_iff_ne]; omega
          clear hl k1 k2
          rcases hk with rfl | rfl | rfl
          all_goals
            rcases hs with hs | hs
            all_goals
              go_wp2_with fail
              go_ret
              exact ⟨ret_bool HR.out, hb1⟩
        · have g : ((ks.length : Int) != 1) = true := by rw [bne_iff_ne]; omega
          clear hl k1 k2
          rcases hs with hs | hs
          all_goals
            go_wp2_with fail
            go_ret
            exact ⟨ret_bool HR.out, hb1⟩
        · clear k1 k2
          rcases hl with hl | hl
          · rcases hs with hs | hs
            all_goals
              go_wp2_with fail
              go_ret
              exact ⟨ret_bool HR.out, hb1⟩
          · have g : (4 : Int) < (ks.length : Int) := by omega
            have g1 : (1 : Int) ≤ (ks.length : Int) := by omega
            have g2 : ((ks.length : Int) != 4) = true := by rw [bne_iff_ne]; omega
            rcases hs with hs | hs
            all_goals
              go_wp2_with fail
              go_ret
              exact ⟨ret_bool HR.out, hb1⟩
        · have k1' : (k == 1) = false := by rw [beq_eq_false_iff_ne]; exact k1
          have k2' : (k == 2) = false := by rw [beq_eq_false_iff_ne]; exact k2
          have k3' : (k == 3) = false := by rw [beq_eq_false_iff_ne]; exact g3
          have k4' : (k == 4) = false := by rw [beq_eq_false_iff_ne]; exact g4
          have k5' : (k == 5) = false := by rw [beq_eq_false_iff_ne]; exact g5
          have k6' : (k == 6) = false := by rw [beq_eq_false_iff_ne]; exact g6
          have k7' : (k == 7) = false := by rw [beq_eq_false_iff_ne]; exact g7
          clear k1 k2 g3 g4 g5 g6 g7
          go_wp2_with fail
          go_ret
          exact ⟨ret_bool HR.out, hb1⟩
      · have hk17 : (k = 3 ∨ k = 5 ∨ k = 6) ∨ k = 4 ∨ k = 7 := by omega
        have hc2 : ∃ n, ks.length = n ∧ 1 ≤ n ∧ n ≤ 4 ∧ ((k = 3 ∧ n = 2 ∨ k = 5 ∧ n = 2 ∨ k = 4 ∧ n = 1) ∨ (k = 6 ∧ n = 2) ∨ (k = 7 ∧ n = 1 ∨ k = 7 ∧ n = 2 ∨ k = 7 ∧ n = 3 ∨ k = 7 ∧ n = 4)) := ⟨ks.length, rfl, by omega, by omega, by omega⟩
        obtain ⟨n, hL, n1, n4, hc2⟩ := hc2
        clear hk17 hc k12
        rcases Bool.eq_false_or_eq_true s.toList.isEmpty with hs | hs
        rotate_left
        · have HR := Lib.hid (show false = R by rw [← hR, hs, Bool.and_false]; rfl)
          clear hR k1 k2 n1 n4
          rcases hc2 with (⟨rfl, rfl⟩ | ⟨rfl, rfl⟩ | ⟨rfl, rfl⟩) | ⟨rfl, rfl⟩ | (⟨rfl, rfl⟩ | ⟨rfl, rfl⟩ | ⟨rfl, rfl⟩ | ⟨rfl, rfl⟩)
          all_goals
            go_wp2_with fail
            go_ret
            exact ⟨ret_bool HR.out, hb1⟩
        have hR0 : (T.headOk k ks && !ks.any fun t => !t.shape) = R := by rw [← hR, hs, Bool.and_true]
        have HBad := Lib.hid (fun j (h : j < ks.length) (hp : ks[j].shape = false) => show false = R by rw [← hR0, T.any_at (fun t => !t.shape) ks j h (by simp only [hp]; rfl)]; simp)
        have HBad7 := Lib.hid (fun j (h : j < ks.length) (hk : k = 7) (hp : ks[j].atom = false) => show false = R by
          rw [← hR0]; subst hk; unfold T.headOk
          have := T.any_at (fun t => !t.atom) ks j h (by simp only [hp]; rfl)
          simp [this])
        have HGood := Lib.hid (fun (hp : ∀ j (g : j < ks.length), ks[j].shape = true) (hq : k = 7 → ∀ j (g : j < ks.length), ks[j].atom = true) (h6 : k ≠ 6) => show true = R by
          rw [← hR0, T.any_none (fun t => !t.shape) ks (fun j g => by simp only [hp j g]; rfl), Bool.not_false, Bool.and_true]
          unfold T.headOk
          by_cases h7 : k = 7
          · have := T.any_none (fun t => !t.atom) ks (fun j g => by simp only [hq h7 j g]; rfl)
            simp [h7, this, hL]; omega
          · rcases hc2 with (⟨rfl, rfl⟩ | ⟨rfl, rfl⟩ | ⟨rfl, rfl⟩) | ⟨rfl, rfl⟩ | (⟨rfl, rfl⟩ | ⟨rfl, rfl⟩ | ⟨rfl, rfl⟩ | ⟨rfl, rfl⟩)
            all_goals first | (simp [hL]; done) | exact absurd rfl h6 | exact absurd rfl h7)
        have HGood6 := Lib.hid (fun (hp : ∀ j (g : j < ks.length), ks[j].shape = true) (h6 : k = 6) (h0 : 0 < ks.length) => show ks[0].atom = R by
          rw [← hR0, T.any_none (fun t => !t.shape) ks (fun j g => by simp only [hp j g]; rfl), Bool.not_false, Bool.and_true]
          have h2 : ks.length = 2 := by omega
          unfold T.headOk; subst h6; simp [h2])
        have hrd : ∀ j, j < n → ∀ W, Below w.heap.size w W → ∃ b off B1 C1, A = some ⟨b, off, none⟩ ∧ ∃ h : j < ks.length, (W.cell? ⟨b, off + j * 3, none⟩ = some (.int .i64 ks[j].kind) ∧ W.cell? ⟨b, off + j * 3 + 1, none⟩ = some (.string ks[j].name) ∧ W.cell? ⟨b, off + j * 3 + 2, none⟩ = some (.slice B1 ks[j].kids.length C1)) ∧
            TermAt W (.agg #[.int .i64 ks[j].kind, .string ks[j].name, .slice B1 ks[j].kids.length C1]) ks[j] ∧ ks[j].bulk < N ∧ ks[j].bulk ≤ 1048576 := fun j hj W hW => by
          have hj' : j < ks.length := by omega
          obtain ⟨b, off, B1, C1, rfl, d0, d1, d2, hu⟩ := TermAt.cells hj' BA.out BU.out
          have := T.bulk_at ks j hj'
          exact ⟨b, off, B1, C1, rfl, hj', ⟨cell_later hW d0, cell_later hW d1, cell_later hW d2⟩, hu.later hW, by omega, by omega⟩
        have HRD := Lib.hid hrd
        have HK2 := Lib.hid hc2
        have HL := Lib.hid hL
        clear hrd hR hR0 k1 k2 BA BU
        rcases hc2 with hc2 | ⟨rfl, rfl⟩ | hc2
        · rcases hc2 with ⟨rfl, rfl⟩ | ⟨rfl, rfl⟩ | ⟨rfl, rfl⟩
          all_goals
            go_wp2_with fail
            go_loopw [4] (fun i wr => ∃ j : Nat, j ≤ ks.length ∧ i = .int .i64 j ∧ (∀ m (_ : m < j) (h1 : m < ks.length), ks[m].shape = true) ∧ Below w1.heap.size w1 wr) (fun i _ => 4 - (intOf i).toNat)
            case atStart => exact ⟨0, Nat.zero_le _, rfl, fun m h => absurd h (by omega), Below.refl _ _⟩
            case round =>
              obtain ⟨j, hj, rfl, hz, hbl⟩ := hrel
              have HZ := Lib.hid hz; clear hz
              have z0 := cell_later hbl x0; have z1 := cell_later hbl x1; have z2 := cell_later hbl x2
              have hbw := hb1.trans (hbl.mono hb1.size)
              by_cases hlt : j < ks.length
              · obtain ⟨b, off, B1, C1, rfl, hj', ⟨e0, e1, e2⟩, hu, hb2, hb3⟩ := HRD.out j (by have := HL.out; omega) wr hbw
                have hi : (j : Int) < (ks.length : Int) := by omega
                rw [hL] at hi
                push_cast at hi
                have HU := Lib.hid hu; have HLT := Lib.hid hlt; have HB2 := Lib.hid hb2; have HB3 := Lib.hid hb3; have HBW := Lib.hid hbw; have HBL := Lib.hid hbl
                obtain ⟨q, hq⟩ : ∃ q, ks[j].shape = q := ⟨_, rfl⟩
                have HQ := Lib.hid hq
                clear hu hb2 hb3 hq hbw hj hbl
                go_wp2_with fail
                refine (IH.out _ _ _ HB2.out HU.out HB3.out).mono ?_; rintro e w2 ⟨he, hb4⟩
                have he' : e = .returned (.bool q) := he.trans (ret_bool HQ.out)
                clear he; subst he'
                have f0 := cell_later hb4 e0; have f1 := cell_later hb4 e1; have f2 := cell_later hb4 e2
                have y0 := cell_later hb4 z0; have y1 := cell_later hb4 z1; have y2 := cell_later hb4 z2
                have HU2 := Lib.hid (HU.out.later hb4)
                replace hb4 := HBL.out.trans (hb4.mono HBL.out.size)
                clear e0 e1 e2 z0 z1 z2 x0 x1 x2
                cases q
                · have HR := Lib.hid (HBad.out j HLT.out HQ.out)
                  go_wp2_with fail
                  go_ret
                  exact ⟨ret_bool HR.out, hb1.trans (hb4.mono hb1.size)⟩
                · go_wp2_with fail
                  go_roundw
                  case rel =>
                    refine ⟨j + 1, HLT.out, by go_num, fun m h g1 => ?_, hb4⟩
                    rcases Nat.lt_or_ge m j with g | g
                    · exact HZ.out m g g1
                    · obtain rfl : m = j := by omega
                      exact HQ.out
                  case measure => have := HLT.out; have := HL.out; simp [intOf]; omega
              · have hge : (ks.length : Int) ≤ (j : Int) := by omega
                rw [hL] at hge
                push_cast at hge
                have HP := Lib.hid (fun m (g : m < ks.length) => HZ.out m (by omega) g)
                have HBW := Lib.hid hbw
                clear hlt hj
                have HR := Lib.hid (HGood.out (fun m g => HP.out m g) (fun h => absurd h (by decide)) (by decide))
                go_wp2_with fail
                go_ret
                exact ⟨ret_bool HR.out, HBW.out⟩
        · skip
          go_wp2_with fail
          go_loopw [4] (fun i wr => ∃ j : Nat, j ≤ ks.length ∧ i = .int .i64 j ∧ (∀ m (_ : m < j) (h1 : m < ks.length), ks[m].shape = true) ∧ Below w1.heap.size w1 wr) (fun i _ => 4 - (intOf i).toNat)
          case atStart => exact ⟨0, Nat.zero_le _, rfl, fun m h => absurd h (by omega), Below.refl _ _⟩
          case round =>
            obtain ⟨j, hj, rfl, hz, hbl⟩ := hrel
            have HZ := Lib.hid hz; clear hz
            have z0 := cell_later hbl x0; have z1 := cell_later hbl x1; have z2 := cell_later hbl x2
            have hbw := hb1.trans (hbl.mono hb1.size)
            by_cases hlt : j < ks.length
            · obtain ⟨b, off, B1, C1, rfl, hj', ⟨e0, e1, e2⟩, hu, hb2, hb3⟩ := HRD.out j (by have := HL.out; omega) wr hbw
              have hi : (j : Int) < (ks.length : Int) := by omega
              rw [hL] at hi
              push_cast at hi
              have HU := Lib.hid hu; have HLT := Lib.hid hlt; have HB2 := Lib.hid hb2; have HB3 := Lib.hid hb3; have HBW := Lib.hid hbw; have HBL := Lib.hid hbl
              obtain ⟨q, hq⟩ : ∃ q, ks[j].shape = q := ⟨_, rfl⟩
              have HQ := Lib.hid hq
              clear hu hb2 hb3 hq hbw hj hbl
              go_wp2_with fail
              refine (IH.out _ _ _ HB2.out HU.out HB3.out).mono ?_; rintro e w2 ⟨he, hb4⟩
              have he' : e = .returned (.bool q) := he.trans (ret_bool HQ.out)
              clear he; subst he'
              have f0 := cell_later hb4 e0; have f1 := cell_later hb4 e1; have f2 := cell_later hb4 e2
              have y0 := cell_later hb4 z0; have y1 := cell_later hb4 z1; have y2 := cell_later hb4 z2
              have HU2 := Lib.hid (HU.out.later hb4)
              replace hb4 := HBL.out.trans (hb4.mono HBL.out.size)
              clear e0 e1 e2 z0 z1 z2 x0 x1 x2
              cases q
              · have HR := Lib.hid (HBad.out j HLT.out HQ.out)
                go_wp2_with fail
                go_ret
                exact ⟨ret_bool HR.out, hb1.trans (hb4.mono hb1.size)⟩
              · go_wp2_with fail
                go_roundw
                case rel =>
                  refine ⟨j + 1, HLT.out, by go_num, fun m h g1 => ?_, hb4⟩
                  rcases Nat.lt_or_ge m j with g | g
                  · exact HZ.out m g g1
                  · obtain rfl : m = j := by omega
                    exact HQ.out
                case measure => have := HLT.out; have := HL.out; simp [intOf]; omega
            · have hge : (ks.length : Int) ≤ (j : Int) := by omega
              rw [hL] at hge
              push_cast at hge
              have HP := Lib.hid (fun m (g : m < ks.length) => HZ.out m (by omega) g)
              have HBW := Lib.hid hbw
              clear hlt hj
              have hl0 : 0 < ks.length := by have := HL.out; omega
              obtain ⟨b, off, B1, C1, rfl, hj', ⟨e0, e1, e2⟩, hu, hb2, hb3⟩ := HRD.out 0 (by omega) wr hbw
              simp only [Nat.zero_mul, Nat.add_zero] at e0 e1 e2
              have HU := Lib.hid hu
              have HR := Lib.hid (HGood6.out (fun m g => HP.out m g) (by decide) (by have := HL.out; omega))
              clear hu hb2 hb3 hbw
              go_wp2_with (go_at_call 154; refine (ratom _ _ _ HU.out _ HR.out).mono ?_; rintro e w2 ⟨rfl, hb4⟩)
              go_ret
              exact ⟨rfl, HBW.out.trans (hb4.mono HBW.out.size)⟩
        · rcases hc2 with ⟨rfl, rfl⟩ | ⟨rfl, rfl⟩ | ⟨rfl, rfl⟩ | ⟨rfl, rfl⟩
          all_goals
            go_wp2_with fail
            go_loopw [4] (fun i wr => ∃ j : Nat, j ≤ ks.length ∧ i = .int .i64 j ∧ (∀ m (_ : m < j) (h1 : m < ks.length), ks[m].shape = true ∧ ks[m].atom = true) ∧ Below w1.heap.size w1 wr) (fun i _ => 4 - (intOf i).toNat)
            case atStart => exact ⟨0, Nat.zero_le _, rfl, fun m h => absurd h (by omega), Below.refl _ _⟩
            case round =>
              obtain ⟨j, hj, rfl, hz, hbl⟩ := hrel
              have HZ := Lib.hid hz; clear hz
              have z0 := cell_later hbl x0; have z1 := cell_later hbl x1; have z2 := cell_later hbl x2
              have hbw := hb1.trans (hbl.mono hb1.size)
              by_cases hlt : j < ks.length
              · obtain ⟨b, off, B1, C1, rfl, hj', ⟨e0, e1, e2⟩, hu, hb2, hb3⟩ := HRD.out j (by have := HL.out; omega) wr hbw
                have hi : (j : Int) < (ks.length : Int) := by omega
                rw [hL] at hi
                push_cast at hi
                have HU := Lib.hid hu; have HLT := Lib.hid hlt; have HB2 := Lib.hid hb2; have HB3 := Lib.hid hb3; have HBW := Lib.hid hbw; have HBL := Lib.hid hbl
                obtain ⟨q, hq⟩ : ∃ q, ks[j].shape = q := ⟨_, rfl⟩
                have HQ := Lib.hid hq
                clear hu hb2 hb3 hq hbw hj hbl
                go_wp2_with fail
                refine (IH.out _ _ _ HB2.out HU.out HB3.out).mono ?_; rintro e w2 ⟨he, hb4⟩
                have he' : e = .returned (.bool q) := he.trans (ret_bool HQ.out)
                clear he; subst he'
                have f0 := cell_later hb4 e0; have f1 := cell_later hb4 e1; have f2 := cell_later hb4 e2
                have y0 := cell_later hb4 z0; have y1 := cell_later hb4 z1; have y2 := cell_later hb4 z2
                have HU2 := Lib.hid (HU.out.later hb4)
                replace hb4 := HBL.out.trans (hb4.mono HBL.out.size)
                clear e0 e1 e2 z0 z1 z2 x0 x1 x2
                cases q
                · have HR := Lib.hid (HBad.out j HLT.out HQ.out)
                  go_wp2_with fail
                  go_ret
                  exact ⟨ret_bool HR.out, hb1.trans (hb4.mono hb1.size)⟩
                · obtain ⟨q, hq⟩ : ∃ q, ks[j].atom = q := ⟨_, rfl⟩
                  have HQ2 := Lib.hid hq
                  clear hq
                  go_wp2_with fail
                  refine (ratom _ _ _ HU2.out q HQ2.out).mono ?_; rintro e w3 ⟨rfl, hb5⟩
                  replace hb5 := hb4.trans (hb5.mono hb4.size)
                  clear y0 y1 y2 f0 f1 f2
                  cases q
                  · have HR := Lib.hid (HBad7.out j HLT.out (by decide) HQ2.out)
                    go_wp2_with fail
                    go_ret
                    exact ⟨ret_bool HR.out, hb1.trans (hb5.mono hb1.size)⟩
                  go_wp2_with fail
                  go_roundw
                  case rel =>
                    refine ⟨j + 1, HLT.out, by go_num, fun m h g1 => ?_, hb5⟩
                    rcases Nat.lt_or_ge m j with g | g
                    · exact HZ.out m g g1
                    · obtain rfl : m = j := by omega
                      exact ⟨HQ.out, HQ2.out⟩
                  case measure => have := HLT.out; have := HL.out; simp [intOf]; omega
              · have hge : (ks.length : Int) ≤ (j : Int) := by omega
                rw [hL] at hge
                push_cast at hge
                have HP := Lib.hid (fun m (g : m < ks.length) => HZ.out m (by omega) g)
                have HBW := Lib.hid hbw
                clear hlt hj
                have HR := Lib.hid (HGood.out (fun m g => (HP.out m g).1) (fun _ m g => (HP.out m g).2) (by decide))
                go_wp2_with fail
                go_ret
                exact ⟨ret_bool HR.out, HBW.out⟩
end Go.Proofs.YtihbmgkbipeakaaGreat

namespace Go.Proofs.YtihbmgkbipeakaaGreat
open Go.RowKit

namespace T
mutual
/-- Is there a variable in a term? -/
def hasVar : T → Bool
  | .mk k _ ks => k == 2 || hasVarAll ks
def hasVarAll : List T → Bool
  | [] => false
  | t :: r => hasVar t || hasVarAll r
end
theorem hasVarAll_any : ∀ l : List T, hasVarAll l = l.any hasVar
  | [] => rfl
  | t :: r => by simp only [hasVarAll, List.any_cons, hasVarAll_any r]
def valid (t : T) : Bool := decide (t.size ≤ 40) && t.shape
def ground (t : T) : Bool := t.valid && !t.hasVar
end T
set_option maxRecDepth 100000 in
set_option maxHeartbeats 2000000 in
theorem ovar : ∀ (N : Nat) (t : T) (v : Value) (w : World), t.bulk < N → TermAt w v t → t.bulk ≤ 1048576 →
    Calls Tryz.prog 118 #[v] w fun e w' => e = .returned (.bool t.hasVar) ∧ Below w.heap.size w w' := by
  intro N
  induction N with
  | zero => intro t v w h; omega
  | succ N ih =>
    intro t v w hN ht hbk
    cases ht with
    | mk k s A cap ks U h1 h2 h3 h4 hA hU =>
      simp only [T.bulk] at hN hbk
      have hkn : ks.length ≤ 1048576 := by have := T.len_le ks; omega
      have hb1 := below_alloc1 w (.cells #[.int .i64 k, .string s, .slice A ks.length cap] 29)
      obtain ⟨R, hR⟩ : ∃ R, (T.mk k s ks).hasVar = R := ⟨_, rfl⟩
      rw [hR]
      simp only [T.hasVar, T.hasVarAll_any] at hR
      have hkids : ∀ r, (ks.any T.hasVar) = r → Calls Tryz.prog 84 #[.slice A ks.length cap, .func (.func 118) #[] #[]] (w.alloc (.cells #[.int .i64 k, .string s, .slice A ks.length cap] 29)) fun e w' => e = .returned (.bool r) ∧ Below (w.alloc (.cells #[.int .i64 k, .string s, .slice A ks.length cap] 29)).heap.size (w.alloc (.cells #[.int .i64 k, .string s, .slice A ks.length cap] 29)) w' := fun r hr => by
        refine contains_var T.hasVar A cap ks U _ hkn ?_ (fun i h => (hU i h).later hb1) ?_ r hr
        · rcases hA with h | ⟨b, off, e, hc⟩
          · exact .inl h
          · exact .inr ⟨b, off, e, fun i hi => by obtain ⟨c0, c1, c2⟩ := hc i hi; exact ⟨cell_later hb1 c0, cell_later hb1 c1, cell_later hb1 c2⟩⟩
        · intro j h v' W' hv
          have := T.bulk_at ks j h
          exact ih _ _ _ (by omega) hv (by omega)
      have HK := Lib.hid hkids
      have HB1 := Lib.hid hb1
      clear hkids hA hU ih hb1
      by_cases k2 : k = 2
      · subst k2
        have HR := Lib.hid (show true = R by rw [← hR]; rfl)
        clear hR
        go_enter Tryz.func118, Tryz.ntmps118
        go_wp2_with fail
        go_ret
        exact ⟨ret_bool HR.out, HB1.out⟩
      · have k2' : (k == 2) = false := by rw [beq_eq_false_iff_ne]; exact k2
        have HR := Lib.hid (show (ks.any T.hasVar) = R by rw [← hR, k2']; rfl)
        clear hR k2
        go_enter Tryz.func118, Tryz.ntmps118
        go_wp2_with (go_at_call 84; refine (HK.out _ HR.out).mono ?_; rintro e w2 ⟨rfl, hb2⟩)
        go_ret
        exact ⟨rfl, HB1.out.trans (hb2.mono HB1.out.size)⟩
end Go.Proofs.YtihbmgkbipeakaaGreat

namespace Go.Proofs.YtihbmgkbipeakaaGreat
open Go.RowKit

set_option maxRecDepth 100000 in
set_option maxHeartbeats 2000000 in
theorem ovalid (t : T) (v : Value) (w : World) (ht : TermAt w v t) (hbk : t.bulk ≤ 1048576) (r : Bool) (c : Int) (hr : t.valid = r) (hc : r = true ∧ c = 0 ∨ r = false ∧ c = 76) :
    Calls Tryz.prog 74 #[v] w fun e w' => e = .returned (.int .i64 c) ∧ Below w.heap.size w w' := by
  have HZ := Lib.hid (fun W hW => osize (t.bulk + 1) t v W (by omega) hW hbk)
  have HS := Lib.hid (fun W hW => oshape (t.bulk + 1) t v W (by omega) hW hbk)
  have hb := t.size_le
  have hr' : (decide (t.size ≤ 40) && t.shape) = r := hr
  clear hr hbk
  generalize t.size = n at *
  generalize t.shape = q at *
  cases ht with
  | mk k s A cap ks U h1 h2 h3 h4 hA hU =>
    have HT := Lib.hid (TermAt.mk k s A cap ks U h1 h2 h3 h4 hA hU)
    have hbx := boxed_new w (.int .i64 k) (.string s) (.slice A ks.length cap) 29
    have hb1 := below_alloc1 w (.cells #[.int .i64 k, .string s, .slice A ks.length cap] 29)
    clear hA hU hb
    go_enter Tryz.func74, Tryz.ntmps74
    go_upto_region 1 with fail
    generalize w.alloc (.cells #[.int .i64 k, .string s, .slice A ks.length cap] 29) = w1 at hbx hb1 ⊢
    obtain ⟨x0, x1, x2⟩ := hbx
    have HT1 := Lib.hid (HT.out.later hb1)
    go_wp2_with fail
    refine (HZ.out _ HT1.out).mono ?_; rintro e w2 ⟨rfl, hb2⟩
    have y0 := cell_later hb2 x0; have y1 := cell_later hb2 x1; have y2 := cell_later hb2 x2
    have HT2 := Lib.hid (HT1.out.later hb2)
    replace hb2 := hb1.trans (hb2.mono hb1.size)
    clear x0 x1 x2
    by_cases h40 : n ≤ 40
    · have g : (n : Int) ≤ 40 := by omega
      have HR := Lib.hid (show q = r by rw [← hr', decide_eq_true h40, Bool.true_and])
      clear hr' h40
      go_wp2_with fail
      refine (HS.out _ HT2.out).mono ?_; rintro e w3 ⟨rfl, hb3⟩
      replace hb3 := hb2.trans (hb3.mono hb2.size)
      rcases hc with ⟨hq, rfl⟩ | ⟨hq, rfl⟩
      all_goals
        have hq' := HR.out.trans hq
        subst hq'
        clear HR hq
        go_wp2_with fail
        go_ret
        exact ⟨rfl, hb3⟩
    · have g : 40 < (n : Int) := by omega
      have HR := Lib.hid (show false = r by rw [← hr', decide_eq_false h40]; rfl)
      have hc' : c = 76 := by
        have := HR.out
        rcases hc with ⟨hq, _⟩ | ⟨_, hq⟩
        · rw [hq] at this; cases this
        · exact hq
      subst hc'
      clear hr' h40 hc
      go_wp2_with fail
      go_ret
      exact ⟨rfl, hb2⟩

set_option maxRecDepth 100000 in
set_option maxHeartbeats 2000000 in
theorem rvalid (t : T) (v : Value) (w : World) (ht : TermAt w v t) (hbk : t.bulk ≤ 1048576) (r : Bool) (c : Int) (hr : t.valid = r) (hc : r = true ∧ c = 0 ∨ r = false ∧ c = 76) :
    Calls Tryz.prog 94 #[v] w fun e w' => e = .returned (.int .i64 c) ∧ Below w.heap.size w w' := by
  have HZ := Lib.hid (fun W hW => rsize (t.bulk + 1) t v W (by omega) hW hbk)
  have HS := Lib.hid (fun W hW => rshaped (t.bulk + 1) t v W (by omega) hW hbk)
  have hb := t.size_le
  have hr' : (decide (t.size ≤ 40) && t.shape) = r := hr
  clear hr hbk
  generalize t.size = n at *
  generalize t.shape = q at *
  cases ht with
  | mk k s A cap ks U h1 h2 h3 h4 hA hU =>
    have HT := Lib.hid (TermAt.mk k s A cap ks U h1 h2 h3 h4 hA hU)
    have hbx := boxed_new w (.int .i64 k) (.string s) (.slice A ks.length cap) 29
    have hb1 := below_alloc1 w (.cells #[.int .i64 k, .string s, .slice A ks.length cap] 29)
    clear hA hU hb
    go_enter Tryz.func94, Tryz.ntmps94
    go_upto_region 1 with fail
    generalize w.alloc (.cells #[.int .i64 k, .string s, .slice A ks.length cap] 29) = w1 at hbx hb1 ⊢
    obtain ⟨x0, x1, x2⟩ := hbx
    have HT1 := Lib.hid (HT.out.later hb1)
    go_wp2_with fail
    refine (HS.out _ HT1.out).mono ?_; rintro e w2 ⟨rfl, hb2⟩
    have y0 := cell_later hb2 x0; have y1 := cell_later hb2 x1; have y2 := cell_later hb2 x2
    have HT2 := Lib.hid (HT1.out.later hb2)
    replace hb2 := hb1.trans (hb2.mono hb1.size)
    clear x0 x1 x2
    cases q
    · have HR := Lib.hid (show false = r by rw [← hr', Bool.and_false])
      have hc' : c = 76 := by
        have := HR.out
        rcases hc with ⟨hq, _⟩ | ⟨_, hq⟩
        · rw [hq] at this; cases this
        · exact hq
      subst hc'
      clear hr' hc
      go_wp2_with fail
      go_ret
      exact ⟨rfl, hb2⟩
    · have HR := Lib.hid (show decide (n ≤ 40) = r by rw [← hr', Bool.and_true])
      clear hr'
      go_wp2_with fail
      refine (HZ.out _ HT2.out).mono ?_; rintro e w3 ⟨rfl, hb3⟩
      replace hb3 := hb2.trans (hb3.mono hb2.size)
      rcases hc with ⟨hq, rfl⟩ | ⟨hq, rfl⟩
      · have g : (n : Int) ≤ 40 := by have := HR.out.trans hq; simp at this; omega
        go_wp2_with fail
        go_ret
        exact ⟨rfl, hb3⟩
      · have g : 40 < (n : Int) := by have := HR.out.trans hq; simp at this; omega
        go_wp2_with fail
        go_ret
        exact ⟨rfl, hb3⟩

set_option maxRecDepth 100000 in
set_option maxHeartbeats 2000000 in
theorem oground (t : T) (v : Value) (w : World) (ht : TermAt w v t) (hbk : t.bulk ≤ 1048576) :
    Calls Tryz.prog 77 #[v] w fun e w' => e = .returned (.bool t.ground) ∧ Below w.heap.size w w' := by
  have HZ := Lib.hid (fun W hW r c hr hc => ovalid t v W hW hbk r c hr hc)
  have HS := Lib.hid (fun W hW => ovar (t.bulk + 1) t v W (by omega) hW hbk)
  obtain ⟨q, hq⟩ : ∃ q, t.valid = q := ⟨_, rfl⟩
  have hr : t.ground = (q && !t.hasVar) := by rw [← hq]; rfl
  rw [hr]
  rw [hq] at HZ
  clear hr hbk hq
  generalize t.hasVar = p at *
  cases ht with
  | mk k s A cap ks U h1 h2 h3 h4 hA hU =>
    have HT := Lib.hid (TermAt.mk k s A cap ks U h1 h2 h3 h4 hA hU)
    have hbx := boxed_new w (.int .i64 k) (.string s) (.slice A ks.length cap) 29
    have hb1 := below_alloc1 w (.cells #[.int .i64 k, .string s, .slice A ks.length cap] 29)
    clear hA hU
    go_enter Tryz.func77, Tryz.ntmps77
    go_upto_region 1 with fail
    generalize w.alloc (.cells #[.int .i64 k, .string s, .slice A ks.length cap] 29) = w1 at hbx hb1 ⊢
    obtain ⟨x0, x1, x2⟩ := hbx
    have HT1 := Lib.hid (HT.out.later hb1)
    cases q
    · go_wp2_with fail
      refine (HZ.out _ HT1.out false 76 rfl (.inr ⟨rfl, rfl⟩)).mono ?_; rintro e w2 ⟨rfl, hb2⟩
      replace hb2 := hb1.trans (hb2.mono hb1.size)
      clear x0 x1 x2
      go_wp2_with fail
      go_ret
      exact ⟨rfl, hb2⟩
    · go_wp2_with fail
      refine (HZ.out _ HT1.out true 0 rfl (.inl ⟨rfl, rfl⟩)).mono ?_; rintro e w2 ⟨rfl, hb2⟩
      have y0 := cell_later hb2 x0; have y1 := cell_later hb2 x1; have y2 := cell_later hb2 x2
      have HT2 := Lib.hid (HT1.out.later hb2)
      replace hb2 := hb1.trans (hb2.mono hb1.size)
      clear x0 x1 x2
      go_wp2_with fail
      refine (HS.out _ HT2.out).mono ?_; rintro e w3 ⟨rfl, hb3⟩
      replace hb3 := hb2.trans (hb3.mono hb2.size)
      go_wp2_with fail
      go_ret
      exact ⟨ret_bool (by simp), hb3⟩

end Go.Proofs.YtihbmgkbipeakaaGreat
