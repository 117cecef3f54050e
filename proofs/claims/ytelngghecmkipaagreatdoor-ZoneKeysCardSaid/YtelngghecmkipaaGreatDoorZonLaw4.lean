/- Chapter 11: the walk of the law on keys. -/
import Derived.Test.YtelngghecmkipaaGreatDoorTake
import Derived.Test.YtelngghecmkipaaGreatDoorZonGL
import Derived.Test.YtelngghecmkipaaGreatDoorZonKeysP
import Derived.Deep.CutRange
namespace Go.Proofs.YtelngghecmkipaaGreatDoor
open Go.RowKit Go.ChangeShapes Go.WideShapes

theorem below_dice {w w1 w2 : World} {g : Nat} (hb : Below w.heap.size w w1) (hg : w1.grownBy w2 (some g)) (h : w.heap.size ≤ g) : Below w.heap.size w w2 :=
  hb.grown hg hb.size (fun k hk => by injection hk with hk; omega)
theorem fits_le {z : Zn.Z} {a b : Nat} (h : z.fits a) (hab : a ≤ b) : z.fits b := by unfold Zn.Z.fits at *; omega
theorem fits_good {z : Zn.Z} (h : Zn.Good z ∧ z.sur.size ≤ 33 ∧ z.giv.size ≤ 33) : z.fits 100 := by
  obtain ⟨h, h1, h2⟩ := h
  have a1 := Zn.letters_le h.kind; have a2 := Zn.letters_le h.state; have a3 := Zn.letters_le h.nat; have a4 := h.numLe20; have a5 := Zn.birth_size h.birth; have a6 := Zn.sex_le h.sex; have a7 := Zn.prE_size h.exp; have a8 := h.optLe; have a9 := h.secLe
  unfold Zn.Z.fits; omega
theorem three_set {W : World} {g4 : Nat} {a b c : Value} (h : W.cell? ⟨g4, 5, none⟩ = some a ∧ W.cell? ⟨g4, 7, none⟩ = some b ∧ W.cell? ⟨g4, 9, none⟩ = some c) {g5 : Nat} (hne : g4 ≠ g5) (i : Nat) (v : Value) :
    (W.setCell ⟨g5, i, none⟩ v).cell? ⟨g4, 5, none⟩ = some a ∧ (W.setCell ⟨g5, i, none⟩ v).cell? ⟨g4, 7, none⟩ = some b ∧ (W.setCell ⟨g5, i, none⟩ v).cell? ⟨g4, 9, none⟩ = some c :=
  have e : ∀ j, (W.setCell ⟨g5, i, none⟩ v).cell? ⟨g4, j, none⟩ = W.cell? ⟨g4, j, none⟩ := fun j => World.cell?_of_block (a := ⟨g4, j, none⟩) (Below.heap_setCell _ _ _ _ hne)
  ⟨(e 5).trans h.1, (e 7).trans h.2.1, (e 9).trans h.2.2⟩
/-- Two zones in blocks, and what is below. -/
def Z2 (w : World) (g4 g5 : Nat) (z x : Zn.Z) (W : World) : Prop := ZBox W g4 z ∧ ZBox W g5 x ∧ Below w.heap.size w W ∧ g4 ≠ g5 ∧ w.heap.size ≤ g5
theorem Z2.later {w W W' : World} {g4 g5 : Nat} {z x : Zn.Z} (h : Z2 w g4 g5 z x W) (hb : Below W.heap.size W W') : Z2 w g4 g5 z x W' :=
  ⟨h.1.later hb, h.2.1.later hb, h.2.2.1.trans (hb.mono h.2.2.1.size), h.2.2.2⟩
theorem Z2.drew {w W : World} {g4 g5 : Nat} {z x : Zn.Z} (h : Z2 w g4 g5 z x W) : Z2 w g4 g5 z x W.drew := h.later (Below.refl _ _).drew
theorem Z2.frees {w W : World} {g4 g5 : Nat} {z x : Zn.Z} (h : Z2 w g4 g5 z x W) : W.frozen? ⟨g5, 0, none⟩ = false ∧ W.frozen? ⟨g5, 1, none⟩ = false ∧ W.frozen? ⟨g5, 2, none⟩ = false ∧ W.frozen? ⟨g5, 3, none⟩ = false ∧ W.frozen? ⟨g5, 4, none⟩ = false ∧ W.frozen? ⟨g5, 5, none⟩ = false ∧ W.frozen? ⟨g5, 6, none⟩ = false ∧ W.frozen? ⟨g5, 7, none⟩ = false ∧ W.frozen? ⟨g5, 8, none⟩ = false ∧ W.frozen? ⟨g5, 9, none⟩ = false ∧ W.frozen? ⟨g5, 10, none⟩ = false ∧ W.frozen? ⟨g5, 11, none⟩ = false :=
  ⟨frozen_of_row W g5 0 _ _ h.2.1, frozen_of_row W g5 1 _ _ h.2.1, frozen_of_row W g5 2 _ _ h.2.1, frozen_of_row W g5 3 _ _ h.2.1, frozen_of_row W g5 4 _ _ h.2.1, frozen_of_row W g5 5 _ _ h.2.1, frozen_of_row W g5 6 _ _ h.2.1, frozen_of_row W g5 7 _ _ h.2.1, frozen_of_row W g5 8 _ _ h.2.1, frozen_of_row W g5 9 _ _ h.2.1, frozen_of_row W g5 10 _ _ h.2.1, frozen_of_row W g5 11 _ _ h.2.1⟩
theorem Z2.put {w W : World} {g4 g5 : Nat} {z x : Zn.Z} (h : Z2 w g4 g5 z x W) (a b c d : ByteArray) :
    Z2 w g4 g5 z { x with num := a, birth := b, exp := c, opt := d } ((((W.setCell ⟨g5, 5, none⟩ (.string a)).setCell ⟨g5, 7, none⟩ (.string b)).setCell ⟨g5, 9, none⟩ (.string c)).setCell ⟨g5, 10, none⟩ (.string d)) := by
  obtain ⟨h1, h2, h3, h4, h5⟩ := h
  have s1 := h2.set (z' := { x with num := a }) 5 (.string a) rfl
  have s2 := s1.set (z' := { x with num := a, birth := b }) 7 (.string b) rfl
  have s3 := s2.set (z' := { x with num := a, birth := b, exp := c }) 9 (.string c) rfl
  have s4 := s3.set (z' := { x with num := a, birth := b, exp := c, opt := d }) 10 (.string d) rfl
  exact ⟨(((h1.setOther (p := ⟨g5, 5, none⟩) h4 _).setOther (p := ⟨g5, 7, none⟩) h4 _).setOther (p := ⟨g5, 9, none⟩) h4 _).setOther (p := ⟨g5, 10, none⟩) h4 _, s4, ((((h3.setCell (p := ⟨g5, 5, none⟩) h5 _).setCell (p := ⟨g5, 7, none⟩) h5 _).setCell (p := ⟨g5, 9, none⟩) h5 _).setCell (p := ⟨g5, 10, none⟩) h5 _), h4, h5⟩
theorem keyS_le {z : Zn.Z} (h : Zn.Good z) : (Zn.keyS z).size ≤ 100 := by
  unfold Zn.keyS
  rw [if_pos h.vld, ByteArray.size_append, ByteArray.size_append, h.db_size, h.de_size]
  have h1 := Zn.ckS_le (Zn.wS z.num 9); have h2 := Zn.wS_le z.num 9; have h3 := h.numLe20
  omega
set_option maxRecDepth 100000 in
set_option maxHeartbeats 8000000 in
theorem walkZoneKeys {H : Type} {enc : TypeId × Value → H} {X : Prop} (w : World) (v : Value) (d : DataW H) {b0 : Nat} {p : List MemPlace} {r : Reach} (hv : Value.okWide Tryz.prog w r b0 30 v) (hd : DataW.Trod enc Tryz.prog w 0 (fun _ => true) true 30 v d p)
    (_hsz : X) (hL : laidMetH Tryz.prog Rows.zoneParsesRow.laid w) (hsh : w.ShapedOpen Tryz.prog) :
    Calls Tryz.prog 9 #[v] w fun e w' => e = .returned (.bool true) ∧ Below w.heap.size w w' := by
  obtain ⟨A, n, c, rfl, hnc, hcm, hl⟩ := open_list hv hd
  have hnm := Nat.le_trans hnc hcm
  have HDX := Lib.hid (And.intro (Dat.at_of hL) (Opt.lax_of hsh))
  clear hcm hL hsh hv hd
  go_enter Tryz.func9, Tryz.ntmps9
  go_wp2_with fail
  refine (made_light _ _ _ _ hnm).mono ?_; rintro e w' ⟨rfl, rfl⟩
  by_cases hn : n ≤ 400
  · have e1 : decide (n ≤ 400) = true := decide_eq_true hn
    rw [e1]
    have HRL := Lib.hid (made_roll A n c w hn hnc hl)
    clear e1 hn hnc hl hnm
    go_wp2_with fail
    refine HRL.out.mono ?_; rintro e w1 ⟨rfl, hd1, hb1⟩
    have HB1 := Lib.hid hb1
    obtain ⟨g, hg⟩ : ∃ q, w.heap.size = q := ⟨_, rfl⟩
    rw [hg] at hd1 ⊢
    have HG := Lib.hid hg
    clear hb1 hg HRL
    go_wp2_with fail
    refine (made_zone g g w1 hd1).mono ?_; rintro e w2 ⟨z, rfl, hz, hd2, hg2⟩
    have HB2 := Lib.hid (below_dice HB1.out hg2 (Nat.le_of_eq HG.out))
    clear hg2
    go_wp2_with fail
    refine (made_zone g g w2 hd2).mono ?_; rintro e w3 ⟨x, rfl, hx, hd3, hg3⟩
    have HB3 := Lib.hid (below_dice HB2.out hg3 (Nat.le_of_eq HG.out))
    have HZ := Lib.hid hz; have HX := Lib.hid hx
    clear hg3 hd1 hd2 hd3 hz hx
    unfold Zn.Z.val
    go_upto_region 5 with fail
    have ha := below_alloc1 w3 (.cells #[.int .i64 z.fmt, .string z.kind, .string z.state, .string z.sur, .string z.giv, .string z.num, .string z.nat, .string z.birth, .string z.sex, .string z.exp, .string z.opt, .string z.sec] 24)
    have hb := below_alloc1 (w3.alloc (.cells #[.int .i64 z.fmt, .string z.kind, .string z.state, .string z.sur, .string z.giv, .string z.num, .string z.nat, .string z.birth, .string z.sex, .string z.exp, .string z.opt, .string z.sec] 24)) (.cells #[.int .i64 x.fmt, .string x.kind, .string x.state, .string x.sur, .string x.giv, .string x.num, .string x.nat, .string x.birth, .string x.sex, .string x.exp, .string x.opt, .string x.sec] 24)
    have hb3 := HB3.out.trans (ha.mono HB3.out.size)
    have h2 : Z2 w w3.heap.size (w3.alloc (.cells #[.int .i64 z.fmt, .string z.kind, .string z.state, .string z.sur, .string z.giv, .string z.num, .string z.nat, .string z.birth, .string z.sex, .string z.exp, .string z.opt, .string z.sec] 24)).heap.size z x ((w3.alloc (.cells #[.int .i64 z.fmt, .string z.kind, .string z.state, .string z.sur, .string z.giv, .string z.num, .string z.nat, .string z.birth, .string z.sex, .string z.exp, .string z.opt, .string z.sec] 24)).alloc (.cells #[.int .i64 x.fmt, .string x.kind, .string x.state, .string x.sur, .string x.giv, .string x.num, .string x.nat, .string x.birth, .string x.sex, .string x.exp, .string x.opt, .string x.sec] 24)) :=
      ⟨ZBox.later (ZBox.new w3 z) hb, ZBox.new _ x, hb3.trans (hb.mono hb3.size), by rw [size_alloc1]; omega, hb3.size⟩
    clear ha hb hb3
    rw [size_alloc1] at h2
    generalize (w3.alloc (.cells #[.int .i64 z.fmt, .string z.kind, .string z.state, .string z.sur, .string z.giv, .string z.num, .string z.nat, .string z.birth, .string z.sex, .string z.exp, .string z.opt, .string z.sec] 24)).alloc (.cells #[.int .i64 x.fmt, .string x.kind, .string x.state, .string x.sur, .string x.giv, .string x.num, .string x.nat, .string x.birth, .string x.sex, .string x.exp, .string x.opt, .string x.sec] 24) = W3 at h2 ⊢
    obtain ⟨g5, hg5⟩ : ∃ q, w3.heap.size + 1 = q := ⟨_, rfl⟩
    rw [hg5] at h2 ⊢
    obtain ⟨g4, hg4⟩ : ∃ q, w3.heap.size = q := ⟨_, rfl⟩
    rw [hg4] at h2 ⊢
    clear hg4 hg5
    have HFI := Lib.hid (fits_le (fits_good HZ.out) (show 100 ≤ 140737488355328 by decide))
    have HVE := Lib.hid HZ.out.1.vld
    obtain ⟨KY, hKY⟩ : ∃ q, Zn.keyS z = q := ⟨_, rfl⟩
    have HKY := Lib.hid hKY
    clear hKY
    obtain ⟨x0, x1, x2, x3, x4, x5, x6, x7, x8, x9, x10, x11⟩ := h2.1.cells
    go_wp2_with fail
    refine (zbuild z _ HFI.out (HDX.out.1.below h2.2.2.1) (HDX.out.2.below h2.2.2.1) (by have h1 := HZ.out.2.1; have h2 := HZ.out.2.2; omega)).mono ?_; rintro e W4 ⟨lv, rfl, _, hown, hb4⟩
    replace h2 := h2.later hb4
    rw [HVE.out]
    obtain ⟨BO, hBO⟩ : ∃ q, W3.heap.size = q := ⟨_, rfl⟩
    rw [hBO] at hown
    have HOWN := Lib.hid (hown HVE.out)
    clear hBO
    clear hown hb4 x0 x1 x2 x3 x4 x5 x6 x7 x8 x9 x10 x11
    obtain ⟨x0, x1, x2, x3, x4, x5, x6, x7, x8, x9, x10, x11⟩ := h2.1.cells
    go_wp2_with fail
    refine (zkey z _ HFI.out (HDX.out.1.below h2.2.2.1)).mono ?_; rintro e W5 ⟨rfl, hb5⟩
    replace h2 := h2.later hb5
    replace HOWN := Lib.hid (ownsRow_later HOWN.out hb5)
    rw [HVE.out, HKY.out]
    clear hb5 x0 x1 x2 x3 x4 x5 x6 x7 x8 x9 x10 x11
    go_wp2_with fail
    refine (zawake _ (HDX.out.1.below h2.2.2.1) (HDX.out.2.below h2.2.2.1)).mono ?_; rintro e W6 ⟨rfl, hb6⟩
    replace h2 := h2.later hb6
    replace HOWN := Lib.hid (ownsRow_later HOWN.out hb6)
    clear hb6
    obtain ⟨x0, x1, x2, x3, x4, x5, x6, x7, x8, x9, x10, x11⟩ := h2.1.cells
    go_upto_region 9 with fail
    go_cut [50] from 42 to 49 (fun q W' => ∃ b : Bool, q = .bool b ∧ (b = true → z.fmt ≠ 1 ∧ z.num.size ≤ 9) ∧ Z2 w g4 g5 z x W' ∧ W'.ownsRow BO 9 1 lv (Zn.bldK z).length ((Zn.bldK z).map .string))
    case first =>
      by_cases h1 : z.fmt = 1
      · have e1 : (z.fmt != 1) = false := by rw [bne_eq_false_iff_eq]; exact h1
        clear h1
        go_wp2_with fail
        go_meet
        exact ⟨false, rfl, fun h => (by cases h), h2, HOWN.out⟩
      · have e1 : (z.fmt != 1) = true := by rw [bne_iff_ne]; exact h1
        have H1 := Lib.hid h1
        clear h1
        by_cases h9 : z.num.size ≤ 9
        · have e2 : decide ((z.num.size : Int) ≤ 9) = true := decide_eq_true (by omega)
          have e3 : (z.num.size : Int) ≤ 9 := by omega
          have H9 := Lib.hid h9
          clear h9
          go_wp2_with fail
          go_meet
          exact ⟨true, rfl, fun _ => ⟨H1.out, H9.out⟩, h2, HOWN.out⟩
        · have e2 : decide ((z.num.size : Int) ≤ 9) = false := decide_eq_false (by omega)
          have e3 : ¬ ((z.num.size : Int) ≤ 9) := by omega
          clear h9
          go_wp2_with fail
          go_meet
          exact ⟨false, rfl, fun h => (by cases h), h2, HOWN.out⟩
    case rest =>
    clear h2 HOWN x0 x1 x2 x3 x4 x5 x6 x7 x8 x9 x10 x11
    obtain ⟨b, rfl, hb, h2, hown⟩ := hcut
    have HBF := Lib.hid hb
    have HOWN := Lib.hid hown
    clear hb hown
    go_upto_if 50 with fail
    go_cut [2] from 50 to 78 (fun q W' => q = .bool false ∧ Z2 w g4 g5 z x W')
    case first =>
      cases b
      · go_wp2_with fail
        go_meet
        exact ⟨rfl, h2⟩
      · obtain ⟨hf1, hn9⟩ := HBF.out (by trivial)
        obtain ⟨L0, L1, hbk, h28, hkey⟩ := Zn.key_parts HZ.out.1 hf1 hn9
        have ho := HOWN.out
        rw [hbk] at ho
        obtain ⟨lb, lc, rfl, hl0, hl1⟩ := own_two ho
        have k28 : ¬ ((L1.size : Int) < 28) := by omega
        have i10 : (10 : Int) ≤ (L1.size : Int) := by omega
        have i20 : (20 : Int) ≤ (L1.size : Int) := by omega
        have i28 : (28 : Int) ≤ (L1.size : Int) := by omega
        obtain ⟨P0, hP0⟩ : ∃ q, L1.extract 0 10 = q := ⟨_, rfl⟩
        obtain ⟨P1, hP1⟩ : ∃ q, L1.extract 13 20 = q := ⟨_, rfl⟩
        obtain ⟨P2, hP2⟩ : ∃ q, L1.extract 21 28 = q := ⟨_, rfl⟩
        have z0 : P0.size ≤ 10 := by rw [← hP0, ByteArray.size_extract]; omega
        have z1 : P1.size ≤ 7 := by rw [← hP1, ByteArray.size_extract]; omega
        have z2 : P2.size ≤ 7 := by rw [← hP2, ByteArray.size_extract]; omega
        have s1 : ¬ (9223372036854775807 < P0.size + P1.size) := by omega
        have s2 : ¬ (9223372036854775807 < P0.size + P1.size + P2.size) := by omega
        have hk : KY = P0 ++ P1 ++ P2 := by rw [← HKY.out, hkey, hP0, hP1, hP2]
        clear HKY HBF HOWN ho hbk hkey hf1 hn9 h28 hl0
        subst hk
        go_upto_region 10 with fail
        (refine wp_region_held_drew (S := (fun W => W.cell? ⟨lb, 1, none⟩ = some (.string L1))) (by kernel_rfl) (hl1) (fun hHeld => ?_))
        ((refine tkI 0 ?_ (hy := ?_) (h := ?_); rotate_left 1; · (intro w hSw; (try dsimp only at hSw); go_simp; (try with_reducible rfl))); (try simp only [Act.put, List.setIfInBounds_toArray, List.set_cons_zero, List.set_cons_succ]))
        ((refine tkI 1 ?_ (hy := ?_) (h := ?_); rotate_left 1; · (intro w hSw; (try dsimp only at hSw); go_simp; (try with_reducible rfl))); (try simp only [Act.put, List.setIfInBounds_toArray, List.set_cons_zero, List.set_cons_succ]))
        ((refine tkI 2 ?_ (hy := ?_) (h := ?_); rotate_left 1; · (intro w hSw; (try dsimp only at hSw); go_simp; (try with_reducible rfl))); (try simp only [Act.put, List.setIfInBounds_toArray, List.set_cons_zero, List.set_cons_succ]))
        ((refine tkI 3 ?_ (hy := ?_) (h := ?_); rotate_left 1; · (intro w hSw; (try dsimp only at hSw); go_simp; (try with_reducible rfl))); (try simp only [Act.put, List.setIfInBounds_toArray, List.set_cons_zero, List.set_cons_succ]))
        ((refine tkI 4 ?_ (hy := ?_) (h := ?_); rotate_left 1; · (intro w hSw; (try dsimp only at hSw); go_simp; (try with_reducible rfl))); (try simp only [Act.put, List.setIfInBounds_toArray, List.set_cons_zero, List.set_cons_succ]))
        ((refine tkI 5 ?_ (hy := ?_) (h := ?_); rotate_left 1; · (intro w hSw; (try dsimp only at hSw); go_simp; (try with_reducible rfl))); (try simp only [Act.put, List.setIfInBounds_toArray, List.set_cons_zero, List.set_cons_succ]))
        ((refine tkI 6 ?_ (hy := ?_) (h := ?_); rotate_left 1; · (intro w hSw; (try dsimp only at hSw); go_simp; (try with_reducible rfl))); (try simp only [Act.put, List.setIfInBounds_toArray, List.set_cons_zero, List.set_cons_succ]))
        ((refine tkI 7 ?_ (hy := ?_) (h := ?_); rotate_left 1; · (intro w hSw; (try dsimp only at hSw); go_simp; (try with_reducible rfl))); (try simp only [Act.put, List.setIfInBounds_toArray, List.set_cons_zero, List.set_cons_succ]))
        ((refine tkI 8 ?_ (hy := ?_) (h := ?_); rotate_left 1; · (intro w hSw; (try dsimp only at hSw); go_simp; (try with_reducible rfl))); (try simp only [Act.put, List.setIfInBounds_toArray, List.set_cons_zero, List.set_cons_succ]))
        ((refine tkI 9 ?_ (hy := ?_) (h := ?_); rotate_left 1; · (intro w hSw; (try dsimp only at hSw); go_simp; (try with_reducible rfl))); (try simp only [Act.put, List.setIfInBounds_toArray, List.set_cons_zero, List.set_cons_succ]))
        ((refine tkI 10 ?_ (hy := ?_) (h := ?_); rotate_left 1; · (intro w hSw; (try dsimp only at hSw); go_simp; (try with_reducible rfl))); (try simp only [Act.put, List.setIfInBounds_toArray, List.set_cons_zero, List.set_cons_succ]))
        ((refine tkI 11 ?_ (hy := ?_) (h := ?_); rotate_left 1; · (intro w hSw; (try dsimp only at hSw); go_simp; (try with_reducible rfl))); (try simp only [Act.put, List.setIfInBounds_toArray, List.set_cons_zero, List.set_cons_succ]))
        ((refine tkI 12 ?_ (hy := ?_) (h := ?_); rotate_left 1; · (intro w hSw; (try dsimp only at hSw); go_simp; (try with_reducible rfl))); (try simp only [Act.put, List.setIfInBounds_toArray, List.set_cons_zero, List.set_cons_succ]))
        ((refine tkI 13 ?_ (hy := ?_) (h := ?_); rotate_left 1; · (intro w hSw; (try dsimp only at hSw); go_simp; (try with_reducible rfl))); (try simp only [Act.put, List.setIfInBounds_toArray, List.set_cons_zero, List.set_cons_succ]))
        ((refine tkI 14 ?_ (hy := ?_) (h := ?_); rotate_left 1; · (intro w hSw; (try dsimp only at hSw); go_simp; (try with_reducible rfl))); (try simp only [Act.put, List.setIfInBounds_toArray, List.set_cons_zero, List.set_cons_succ]))
        ((refine tkI 15 ?_ (hy := ?_) (h := ?_); rotate_left 1; · (intro w hSw; (try dsimp only at hSw); go_simp; (try with_reducible rfl))); (try simp only [Act.put, List.setIfInBounds_toArray, List.set_cons_zero, List.set_cons_succ]))
        ((refine tkI 16 ?_ (hy := ?_) (h := ?_); rotate_left 1; · (intro w hSw; (try dsimp only at hSw); go_simp; (try with_reducible rfl))); (try simp only [Act.put, List.setIfInBounds_toArray, List.set_cons_zero, List.set_cons_succ]))
        ((refine tkI 17 ?_ (hy := ?_) (h := ?_); rotate_left 1; · (intro w hSw; (try dsimp only at hSw); go_simp; (try with_reducible rfl))); (try simp only [Act.put, List.setIfInBounds_toArray, List.set_cons_zero, List.set_cons_succ]))
        ((refine tkI 18 ?_ (hy := ?_) (h := ?_); rotate_left 1; · (intro w hSw; (try dsimp only at hSw); go_simp; (try with_reducible rfl))); (try simp only [Act.put, List.setIfInBounds_toArray, List.set_cons_zero, List.set_cons_succ]))
        ((refine tkI 19 ?_ (hy := ?_) (h := ?_); rotate_left 1; · (intro w hSw; (try dsimp only at hSw); go_simp; (try with_reducible rfl))); (try simp only [Act.put, List.setIfInBounds_toArray, List.set_cons_zero, List.set_cons_succ]))
        ((refine tkI 20 ?_ (hy := ?_) (h := ?_); rotate_left 1; · (intro w hSw; (try dsimp only at hSw); go_simp; (try with_reducible rfl))); (try simp only [Act.put, List.setIfInBounds_toArray, List.set_cons_zero, List.set_cons_succ]))
        ((refine tkI 21 ?_ (hy := ?_) (h := ?_); rotate_left 1; · (intro w hSw; (try dsimp only at hSw); go_simp; (try with_reducible rfl))); (try simp only [Act.put, List.setIfInBounds_toArray, List.set_cons_zero, List.set_cons_succ]))
        ((refine tkI 22 ?_ (hy := ?_) (h := ?_); rotate_left 1; · (intro w hSw; (try dsimp only at hSw); go_simp; (try with_reducible rfl))); (try simp only [Act.put, List.setIfInBounds_toArray, List.set_cons_zero, List.set_cons_succ]))
        ((refine tkI 23 ?_ (hy := ?_) (h := ?_); rotate_left 1; · (intro w hSw; (try dsimp only at hSw); go_simp; (try with_reducible rfl))); (try simp only [Act.put, List.setIfInBounds_toArray, List.set_cons_zero, List.set_cons_succ]))
        ((refine tkI 24 ?_ (hy := ?_) (h := ?_); rotate_left 1; · (intro w hSw; (try dsimp only at hSw); go_simp; (try with_reducible rfl))); (try simp only [Act.put, List.setIfInBounds_toArray, List.set_cons_zero, List.set_cons_succ]))
        ((refine tkI 25 ?_ (hy := ?_) (h := ?_); rotate_left 1; · (intro w hSw; (try dsimp only at hSw); go_simp; (try with_reducible rfl))); (try simp only [Act.put, List.setIfInBounds_toArray, List.set_cons_zero, List.set_cons_succ]))
        ((refine tkI 26 ?_ (hy := ?_) (h := ?_); rotate_left 1; · (intro w hSw; (try dsimp only at hSw); go_simp; (try with_reducible rfl))); (try simp only [Act.put, List.setIfInBounds_toArray, List.set_cons_zero, List.set_cons_succ]))
        ((refine tkI 27 ?_ (hy := ?_) (h := ?_); rotate_left 1; · (intro w hSw; (try dsimp only at hSw); go_simp; (try with_reducible rfl))); (try simp only [Act.put, List.setIfInBounds_toArray, List.set_cons_zero, List.set_cons_succ]))
        (refine wpAnyH_done (by kernel_rfl) ?_ _)
        go_wp2_with fail
        go_meet
        exact ⟨rfl, h2.drew⟩
    case rest =>
    clear h2 HBF HOWN
    obtain ⟨rfl, h2⟩ := hcut
    obtain ⟨x0, x1, x2, x3, x4, x5, x6, x7, x8, x9, x10, x11⟩ := h2.1.cells
    obtain ⟨y0, y1, y2, y3, y4, y5, y6, y7, y8, y9, y10, y11⟩ := h2.2.1.cells
    go_upto_region 12 with fail
    go_cut [87] from 79 to 86 (fun q W' => ∃ b : Bool, q = .bool b ∧ (b = false → ¬ (9 < z.num.size ∧ x.fmt ≠ 1)) ∧ Z2 w g4 g5 z x W')
    case first =>
      by_cases h9 : 9 < z.num.size
      · have e1 : (9 : Int) < (z.num.size : Int) := by omega
        have e1b : decide ((9 : Int) < (z.num.size : Int)) = true := decide_eq_true e1
        clear h9
        by_cases h1 : x.fmt = 1
        · have e2 : (x.fmt != 1) = false := by rw [bne_eq_false_iff_eq]; exact h1
          have H1 := Lib.hid h1
          clear h1
          go_wp2_with fail
          go_meet
          exact ⟨false, rfl, fun _ h => h.2 H1.out, h2⟩
        · have e2 : (x.fmt != 1) = true := by rw [bne_iff_ne]; exact h1
          clear h1
          go_wp2_with fail
          go_meet
          exact ⟨true, rfl, fun h => (by cases h), h2⟩
      · have e1 : ¬ ((9 : Int) < (z.num.size : Int)) := by omega
        have e1b : decide ((9 : Int) < (z.num.size : Int)) = false := decide_eq_false e1
        have H9 := Lib.hid h9
        clear h9
        go_wp2_with fail
        go_meet
        exact ⟨false, rfl, fun _ h => H9.out h.1, h2⟩
    case rest =>
    clear h2 x0 x1 x2 x3 x4 x5 x6 x7 x8 x9 x10 x11 y0 y1 y2 y3 y4 y5 y6 y7 y8 y9 y10 y11
    obtain ⟨b, rfl, hb, h2⟩ := hcut
    have HBF := Lib.hid hb
    clear hb
    cases b
    · obtain ⟨hgo, hko⟩ := Zn.key_other HZ.out.1 HX.out.1 (HBF.out (by trivial))
      have HGO := Lib.hid hgo; have HKO := Lib.hid hko
      clear hgo hko HBF
      have hne := h2.2.2.2.1
      obtain ⟨x0, x1, x2, x3, x4, x5, x6, x7, x8, x9, x10, x11⟩ := h2.1.cells
      obtain ⟨y0, y1, y2, y3, y4, y5, y6, y7, y8, y9, y10, y11⟩ := h2.2.1.cells
      obtain ⟨f0, f1, f2, f3, f4, f5, f6, f7, f8, f9, f10, f11⟩ := h2.frees
      have HP2 := Lib.hid (h2.put z.num z.birth z.exp ⟨#[]⟩)
      go_upto_region 14 with fail
      (refine wp_region_held_drew (S := (fun W => W.cell? ⟨g4, 5, none⟩ = some (.string z.num) ∧ W.cell? ⟨g4, 7, none⟩ = some (.string z.birth) ∧ W.cell? ⟨g4, 9, none⟩ = some (.string z.exp))) (by kernel_rfl) (show _ ∧ _ ∧ _ from ⟨x5, x7, x9⟩) (fun hHeld => ?_))
      ((refine tkI 0 ?_ (hy := ?_) (h := ?_); rotate_left 1; · (intro w hSw; (try dsimp only at hSw); go_simp; (try with_reducible rfl))); (try simp only [Act.put, List.setIfInBounds_toArray, List.set_cons_zero, List.set_cons_succ]))
      ((refine tkI 1 ?_ (hy := ?_) (h := ?_); rotate_left 1; · (intro w hSw; (try dsimp only at hSw); go_simp; (try with_reducible rfl))); (try simp only [Act.put, List.setIfInBounds_toArray, List.set_cons_zero, List.set_cons_succ]))
      ((refine tkI 2 ?_ (hy := ?_) (h := ?_); rotate_left 1; · (intro w hSw; (try dsimp only at hSw); go_simp; (try with_reducible rfl))); (try simp only [Act.put, List.setIfInBounds_toArray, List.set_cons_zero, List.set_cons_succ]))
      ((refine tkI 3 ?_ (hy := ?_) (h := ?_); rotate_left 1; · (intro w hSw; (try dsimp only at hSw); go_simp; (try with_reducible rfl))); (try simp only [Act.put, List.setIfInBounds_toArray, List.set_cons_zero, List.set_cons_succ]))
      ((refine tkI 4 ?_ (hy := ?_) (h := ?_); rotate_left 1; · (intro w hSw; (try dsimp only at hSw); go_simp; (try with_reducible rfl))); (try simp only [Act.put, List.setIfInBounds_toArray, List.set_cons_zero, List.set_cons_succ]))
      ((refine tkI 5 ?_ (hy := ?_) (h := ?_); rotate_left 1; · (intro w hSw; (try dsimp only at hSw); go_simp; (try with_reducible rfl))); (try simp only [Act.put, List.setIfInBounds_toArray, List.set_cons_zero, List.set_cons_succ]))
      ((refine tkI 6 ?_ (hy := ?_) (h := ?_); rotate_left 1; · (intro w hSw; (try dsimp only at hSw); go_simp; (try with_reducible rfl))); (try simp only [Act.put, List.setIfInBounds_toArray, List.set_cons_zero, List.set_cons_succ]))
      refine wpAnyH_ready (rs := [7]) (by kernel_rfl) (by simp) ?_
      refine AllReadyH.cons (by simp only [List.getElem?_toArray, List.getElem?_cons_succ, List.getElem?_cons_zero]; rfl) (fun K hK => ?_) AllReadyH.nil
      go_simp
      refine hK.out _ _ (three_set hHeld hne _ _) (fun hHeld => ?_)
      clear hK K
      (try simp only [Act.put, List.setIfInBounds_toArray, List.set_cons_zero, List.set_cons_succ])
      ((refine tkI 8 ?_ (hy := ?_) (h := ?_); rotate_left 1; · (intro w hSw; (try dsimp only at hSw); go_simp; (try with_reducible rfl))); (try simp only [Act.put, List.setIfInBounds_toArray, List.set_cons_zero, List.set_cons_succ]))
      refine wpAnyH_ready (rs := [9]) (by kernel_rfl) (by simp) ?_
      refine AllReadyH.cons (by simp only [List.getElem?_toArray, List.getElem?_cons_succ, List.getElem?_cons_zero]; rfl) (fun K hK => ?_) AllReadyH.nil
      go_simp
      refine hK.out _ _ (three_set hHeld hne _ _) (fun hHeld => ?_)
      clear hK K
      (try simp only [Act.put, List.setIfInBounds_toArray, List.set_cons_zero, List.set_cons_succ])
      ((refine tkI 10 ?_ (hy := ?_) (h := ?_); rotate_left 1; · (intro w hSw; (try dsimp only at hSw); go_simp; (try with_reducible rfl))); (try simp only [Act.put, List.setIfInBounds_toArray, List.set_cons_zero, List.set_cons_succ]))
      refine wpAnyH_ready (rs := [11]) (by kernel_rfl) (by simp) ?_
      refine AllReadyH.cons (by simp only [List.getElem?_toArray, List.getElem?_cons_succ, List.getElem?_cons_zero]; rfl) (fun K hK => ?_) AllReadyH.nil
      go_simp
      refine hK.out _ _ (three_set hHeld hne _ _) (fun hHeld => ?_)
      clear hK K
      (try simp only [Act.put, List.setIfInBounds_toArray, List.set_cons_zero, List.set_cons_succ])
      ((refine tkI 12 ?_ (hy := ?_) (h := ?_); rotate_left 1; · (intro w hSw; (try dsimp only at hSw); go_simp; (try with_reducible rfl))); (try simp only [Act.put, List.setIfInBounds_toArray, List.set_cons_zero, List.set_cons_succ]))
      refine wpAnyH_ready (rs := [13]) (by kernel_rfl) (by simp) ?_
      refine AllReadyH.cons (by simp only [List.getElem?_toArray, List.getElem?_cons_succ, List.getElem?_cons_zero]; rfl) (fun K hK => ?_) AllReadyH.nil
      go_simp
      refine hK.out _ _ (three_set hHeld hne _ _) (fun hHeld => ?_)
      clear hK K
      (try simp only [Act.put, List.setIfInBounds_toArray, List.set_cons_zero, List.set_cons_succ])
      (refine wpAnyH_done (by kernel_rfl) ?_ _)
      go_upto_region 15 with fail
      have h3 := HP2.out.drew
      clear h2 HP2 hHeld x0 x1 x2 x3 x4 x5 x6 x7 x8 x9 x10 x11 y0 y1 y2 y3 y4 y5 y6 y7 y8 y9 y10 y11 f0 f1 f2 f3 f4 f5 f6 f7 f8 f9 f10 f11
      generalize ((((wc.setCell ⟨g5, 5, none⟩ (.string z.num)).setCell ⟨g5, 7, none⟩ (.string z.birth)).setCell ⟨g5, 9, none⟩ (.string z.exp)).setCell ⟨g5, 10, none⟩ (.string ⟨#[]⟩)).drew = WQ at h3 ⊢
      obtain ⟨y0, y1, y2, y3, y4, y5, y6, y7, y8, y9, y10, y11⟩ := h3.2.1.cells
      dsimp only at y0 y1 y2 y3 y4 y5 y6 y7 y8 y9 y10 y11
      have HFX := Lib.hid (fits_le (fits_good ⟨HGO.out, HX.out.2.1, HX.out.2.2⟩) (show 100 ≤ 140737488355328 by decide))
      go_wp2_with fail
      refine (zkey { x with num := z.num, birth := z.birth, exp := z.exp, opt := ⟨#[]⟩ } _ HFX.out (HDX.out.1.below h3.2.2.1)).mono ?_; rintro e W7 ⟨rfl, hb7⟩
      rw [HGO.out.vld, HKO.out, HKY.out]
      have h4 := h3.later hb7
      have HBE := Lib.hid h4.2.2.1
      have HKV := Lib.hid (show Opt.valid KY.data.toList = true by rw [← HKY.out]; exact Zn.key_valid HZ.out.1)
      have HKL := Lib.hid (show KY.size ≤ maxLen by rw [← HKY.out]; have := keyS_le HZ.out.1; unfold maxLen; omega)
      clear h3 h4 hb7 y0 y1 y2 y3 y4 y5 y6 y7 y8 y9 y10 y11
      go_wp2_with fail
      refine (rvalid10 KY _ HKL.out).mono ?_; rintro e w' ⟨rfl, rfl⟩
      rw [HKV.out]
      go_wp2_with fail
      go_ret
      exact ⟨rfl, HBE.out⟩
    · go_wp2_with fail
      go_ret
      exact ⟨rfl, h2.2.2.1⟩
  · have e1 : decide (n ≤ 400) = false := decide_eq_false hn
    rw [e1]
    clear e1 hn hnc hl hnm
    go_wp2_with fail
    refine (zawake _ HDX.out.1 HDX.out.2).mono ?_; rintro e w1 ⟨rfl, hb1⟩
    go_wp2_with fail
    go_ret
    exact ⟨rfl, hb1⟩
end Go.Proofs.YtelngghecmkipaaGreatDoor
