/- Chapter 11: the walk of the law on made zones. -/
import Derived.Test.YtelngghecmkipaaGreatDoorZonGW
import Derived.Test.YtelngghecmkipaaGreatDoorZonGD
namespace Go.Proofs.YtelngghecmkipaaGreatDoor
open Go.RowKit Go.ChangeShapes Go.WideShapes

theorem Zn.bldR_small (z : Zn.Z) : ∀ s ∈ Zn.bldR z, s.size ≤ 140737488351232 := by
  intro s hs
  unfold Zn.bldR at hs
  split at hs
  · rename_i hv
    obtain ⟨l, hl, rfl⟩ := List.mem_map.1 hs
    have hf := (Zn.good_of hv).fmt
    have hS := Zn.asm_len z.fmt.toNat (by omega) _ (Zn.bld_wide z.fmt.toNat z)
    have := hS.2 l hl
    have hw : Zn.wLine z.fmt.toNat ≤ 44 := by unfold Zn.wLine; repeat' split
                                              all_goals omega
    rw [arr_size]; omega
  · cases hs
theorem below_dice {w w1 w2 : World} {g : Nat} (hb : Below w.heap.size w w1) (hg : w1.grownBy w2 (some g)) (h : w.heap.size ≤ g) : Below w.heap.size w w2 :=
  hb.grown hg hb.size (fun k hk => by injection hk with hk; omega)
/-- A made zone in a block, and the dice. -/
def ZW (w : World) (g g4 : Nat) (z : Zn.Z) (W : World) : Prop := ZBox W g4 z ∧ DiceAt g g W ∧ Below w.heap.size w W ∧ z.fits 200 ∧ w.heap.size ≤ g ∧ g < g4
theorem ZW.frees {w W : World} {g g4 : Nat} {z : Zn.Z} (h : ZW w g g4 z W) : W.frozen? ⟨g4, 0, none⟩ = false ∧ W.frozen? ⟨g4, 1, none⟩ = false ∧ W.frozen? ⟨g4, 2, none⟩ = false ∧ W.frozen? ⟨g4, 3, none⟩ = false ∧ W.frozen? ⟨g4, 4, none⟩ = false ∧ W.frozen? ⟨g4, 5, none⟩ = false ∧ W.frozen? ⟨g4, 6, none⟩ = false ∧ W.frozen? ⟨g4, 7, none⟩ = false ∧ W.frozen? ⟨g4, 8, none⟩ = false ∧ W.frozen? ⟨g4, 9, none⟩ = false ∧ W.frozen? ⟨g4, 10, none⟩ = false ∧ W.frozen? ⟨g4, 11, none⟩ = false :=
  ⟨frozen_of_row W g4 0 _ _ h.1, frozen_of_row W g4 1 _ _ h.1, frozen_of_row W g4 2 _ _ h.1, frozen_of_row W g4 3 _ _ h.1, frozen_of_row W g4 4 _ _ h.1, frozen_of_row W g4 5 _ _ h.1, frozen_of_row W g4 6 _ _ h.1, frozen_of_row W g4 7 _ _ h.1, frozen_of_row W g4 8 _ _ h.1, frozen_of_row W g4 9 _ _ h.1, frozen_of_row W g4 10 _ _ h.1, frozen_of_row W g4 11 _ _ h.1⟩
theorem ZW.dice {w W W' : World} {g g4 : Nat} {z : Zn.Z} (h : ZW w g g4 z W) (hd : DiceAt g g W') (hg : W.grownBy W' (some g)) : ZW w g g4 z W' :=
  ⟨h.1.grown hg (by have := h.2.2.2.2.2; simp; omega), hd, below_dice h.2.2.1 hg h.2.2.2.2.1, h.2.2.2⟩
theorem ZW.later {w W W' : World} {g g4 : Nat} {z : Zn.Z} (h : ZW w g g4 z W) (hb : Below W.heap.size W W') : ZW w g g4 z W' :=
  ⟨h.1.later hb, h.2.1.below hb h.2.1.lt, h.2.2.1.trans (hb.mono h.2.2.1.size), h.2.2.2⟩
theorem ZW.zset {w W : World} {g g4 : Nat} {z z' : Zn.Z} (h : ZW w g g4 z W) (hz : z'.fits 200) : ZW w g g4 z' (zset W g4 z') := by
  obtain ⟨h1, h2, h3, h4, h5, h6⟩ := h
  have hb : Below g4 W (Go.Proofs.YtelngghecmkipaaGreatDoor.zset W g4 z') := zset_below (Below.refl _ W) (Nat.le_refl _) z'
  exact ⟨zset_box h1 z', h2.below hb h6, zset_below h3 (by omega) z', hz, h5, h6⟩
theorem fits_le {z : Zn.Z} {a b : Nat} (h : z.fits a) (hab : a ≤ b) : z.fits b := by unfold Zn.Z.fits at *; omega
theorem fits_good {z : Zn.Z} (h : Zn.Good z ∧ z.sur.size ≤ 33 ∧ z.giv.size ≤ 33) : z.fits 100 := by
  obtain ⟨h, h1, h2⟩ := h
  have a1 := Zn.letters_le h.kind; have a2 := Zn.letters_le h.state; have a3 := Zn.letters_le h.nat; have a4 := h.numLe20; have a5 := Zn.birth_size h.birth; have a6 := Zn.sex_le h.sex; have a7 := Zn.prE_size h.exp; have a8 := h.optLe; have a9 := h.secLe
  unfold Zn.Z.fits; omega
set_option maxRecDepth 100000 in
set_option maxHeartbeats 8000000 in
theorem walkZoneMade {H : Type} {enc : TypeId × Value → H} {X : Prop} (w : World) (v : Value) (d : DataW H) {b0 : Nat} {p : List MemPlace} {r : Reach} (hv : Value.okWide Tryz.prog w r b0 30 v) (hd : DataW.Trod enc Tryz.prog w 0 (fun _ => true) true 30 v d p)
    (_hsz : X) (hL : laidMetH Tryz.prog Rows.zoneParsesRow.laid w) (hsh : w.ShapedOpen Tryz.prog) :
    Calls Tryz.prog 8 #[v] w fun e w' => e = .returned (.bool true) ∧ Below w.heap.size w w' := by
  obtain ⟨A, n, c, rfl, hnc, hcm, hl⟩ := open_list hv hd
  have hnm := Nat.le_trans hnc hcm
  have HDX := Lib.hid (And.intro (Dat.at_of hL) (Opt.lax_of hsh))
  clear hcm hL hsh hv hd
  go_enter Tryz.func8, Tryz.ntmps8
  go_wp2_with fail
  refine (made_light _ _ _ _ hnm).mono ?_; rintro e w' ⟨rfl, rfl⟩
  by_cases hn : n ≤ 400
  · have e1 : decide (n ≤ 400) = true := decide_eq_true hn
    rw [e1]
    have HRL := Lib.hid (made_roll A n c w hn hnc hl)
    clear e1 hn hnc hl hnm
    go_wp2_with fail
    refine HRL.out.mono ?_; rintro e w1 ⟨rfl, hd1, hb1⟩
    have HB1 := Lib.hid hb1
    obtain ⟨g, hg⟩ : ∃ q, w.heap.size = q := ⟨_, rfl⟩
    rw [hg] at hd1 ⊢
    have HG := Lib.hid hg
    clear hb1 hg HRL
    go_wp2_with fail
    refine (made_zone g g w1 hd1).mono ?_; rintro e w2 ⟨z, rfl, hz, hd2, hg2⟩
    unfold Zn.Z.val
    go_upto_region 5 with fail
    have hba := below_alloc1 w2 (.cells #[.int .i64 z.fmt, .string z.kind, .string z.state, .string z.sur, .string z.giv, .string z.num, .string z.nat, .string z.birth, .string z.sex, .string z.exp, .string z.opt, .string z.sec] 24)
    have hW : ZW w g w2.heap.size z (w2.alloc (.cells #[.int .i64 z.fmt, .string z.kind, .string z.state, .string z.sur, .string z.giv, .string z.num, .string z.nat, .string z.birth, .string z.sex, .string z.exp, .string z.opt, .string z.sec] 24)) :=
      ⟨ZBox.new w2 z, hd2.below hba hd2.lt, (below_dice HB1.out hg2 (Nat.le_of_eq HG.out)).trans (hba.mono (below_dice HB1.out hg2 (Nat.le_of_eq HG.out)).size), fits_le (fits_good hz) (by decide), Nat.le_of_eq HG.out, hd2.lt⟩
    have HZ := Lib.hid (fits_good hz)
    clear hd1 hd2 hg2 hz hba
    generalize w2.alloc (.cells #[.int .i64 z.fmt, .string z.kind, .string z.state, .string z.sur, .string z.giv, .string z.num, .string z.nat, .string z.birth, .string z.sex, .string z.exp, .string z.opt, .string z.sec] 24) = W3 at hW ⊢
    obtain ⟨g4, hg4⟩ : ∃ q, w2.heap.size = q := ⟨_, rfl⟩
    rw [hg4] at hW ⊢
    clear hg4
    go_wp2_with fail
    refine (made_one g g 3 _ hW.2.1 (by decide) (by decide)).mono ?_; rintro e W4 ⟨b, rfl, hd4, hg4⟩
    replace hW := hW.dice hd4 hg4
    clear hd4 hg4
    go_upto_if 16 with fail
    go_cut [3] from 16 to 19 (fun q W' => q = .pointer (some ⟨g, 0, none⟩) ∧ ∃ z' : Zn.Z, ZW w g g4 z' W')
    case first =>
      cases b
      · go_wp2_with fail
        go_meet
        exact ⟨rfl, z, hW⟩
      · obtain ⟨x0, x1, x2, x3, x4, x5, x6, x7, x8, x9, x10, x11⟩ := hW.1.cells
        go_wp2_with fail
        refine (made_odd g g z _ hW.2.1 HZ.out).mono ?_; rintro e W5 ⟨z', rfl, hz', hd5, hg5⟩
        replace hW := hW.dice hd5 hg5
        clear hd5 hg5 x0 x1 x2 x3 x4 x5 x6 x7 x8 x9 x10 x11
        obtain ⟨x0, x1, x2, x3, x4, x5, x6, x7, x8, x9, x10, x11⟩ := hW.1.cells
        obtain ⟨f0, f1, f2, f3, f4, f5, f6, f7, f8, f9, f10, f11⟩ := hW.frees
        unfold Zn.Z.val
        go_wp2_with fail
        go_meet
        exact ⟨rfl, z', hW.zset hz'⟩
    case rest =>
    clear hW b HZ
    obtain ⟨rfl, y, hW⟩ := hcut
    have hz2 := hW.2.2.2.1
    have HFI := Lib.hid (fits_le hz2 (show 200 ≤ 140737488355328 by decide))
    have HAB := Lib.hid (show y.sur.size + y.giv.size ≤ 4294967000 by unfold Zn.Z.fits at hz2; omega)
    obtain ⟨x0, x1, x2, x3, x4, x5, x6, x7, x8, x9, x10, x11⟩ := hW.1.cells
    clear hz2
    go_wp2_with fail
    refine ((rbuild y _ HFI.out (by have := HAB.out; omega)).mono fun e w' h => h.texts).mono ?_; rintro e W6 ⟨A6, c6, rfl, hT, hb6⟩
    replace hW := hW.later hb6
    obtain ⟨R, hR⟩ : ∃ q, Zn.bldR y = q := ⟨_, rfl⟩
    rw [hR] at hT ⊢
    have HT := Lib.hid hT
    have HRL := Lib.hid (show R.length ≤ 8796093022208 by rw [← hR]; have := Zn.bldR_len y; omega)
    have HRS := Lib.hid (show ∀ s ∈ R, s.size ≤ 140737488351232 by rw [← hR]; exact Zn.bldR_small y)
    clear hb6 hT hR x0 x1 x2 x3 x4 x5 x6 x7 x8 x9 x10 x11
    obtain ⟨x0, x1, x2, x3, x4, x5, x6, x7, x8, x9, x10, x11⟩ := hW.1.cells
    go_wp2_with fail
    refine (zone_builds y _ HFI.out (HDX.out.1.below hW.2.2.1) (HDX.out.2.below hW.2.2.1) HAB.out).mono ?_; rintro e W7 ⟨rfl, hb7⟩
    replace hW := hW.later hb7
    have HT7 := Lib.hid (HT.out.later hb7)
    clear hb7 HT x0 x1 x2 x3 x4 x5 x6 x7 x8 x9 x10 x11
    go_wp2_with fail
    refine (zone_parses R A6 c6 _ HRL.out HRS.out HT7.out (HDX.out.1.below hW.2.2.1) (HDX.out.2.below hW.2.2.1)).mono ?_; rintro e W8 ⟨rfl, hb8⟩
    have HBE := Lib.hid (hW.2.2.1.trans (hb8.mono hW.2.2.1.size))
    clear hb8 hW
    go_wp2_with fail
    go_ret
    exact ⟨rfl, HBE.out⟩
  · have e1 : decide (n ≤ 400) = false := decide_eq_false hn
    rw [e1]
    clear e1 hn hnc hl hnm
    go_wp2_with fail
    refine (zawake _ HDX.out.1 HDX.out.2).mono ?_; rintro e w1 ⟨rfl, hb1⟩
    go_wp2_with fail
    go_ret
    exact ⟨rfl, hb1⟩
end Go.Proofs.YtelngghecmkipaaGreatDoor
