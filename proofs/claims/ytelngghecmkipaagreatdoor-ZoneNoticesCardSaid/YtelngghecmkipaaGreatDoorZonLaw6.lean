/- Chapter 11: the walk of the law that a zone is read as it was written. -/
import Derived.Test.YtelngghecmkipaaGreatDoorTake
import Derived.Test.YtelngghecmkipaaGreatDoorZonSame
import Derived.Test.YtelngghecmkipaaGreatDoorZonLaw4
import Derived.Test.YtelngghecmkipaaGreatDoorZonRetP
import Derived.Deep.CutRange
namespace Go.Proofs.YtelngghecmkipaaGreatDoor
open Go.RowKit Go.ChangeShapes Go.WideShapes

theorem two_set {W : World} {g4 : Nat} {a b : Value} (h : W.cell? ⟨g4, 3, none⟩ = some a ∧ W.cell? ⟨g4, 4, none⟩ = some b) {g5 : Nat} (hne : g4 ≠ g5) (i : Nat) (v : Value) :
    (W.setCell ⟨g5, i, none⟩ v).cell? ⟨g4, 3, none⟩ = some a ∧ (W.setCell ⟨g5, i, none⟩ v).cell? ⟨g4, 4, none⟩ = some b :=
  have e : ∀ j, (W.setCell ⟨g5, i, none⟩ v).cell? ⟨g4, j, none⟩ = W.cell? ⟨g4, j, none⟩ := fun j => World.cell?_of_block (a := ⟨g4, j, none⟩) (Below.heap_setCell _ _ _ _ hne)
  ⟨(e 3).trans h.1, (e 4).trans h.2⟩
theorem Z2.putN {w W : World} {g4 g5 : Nat} {z x : Zn.Z} (h : Z2 w g4 g5 z x W) (a b : ByteArray) : Z2 w g4 g5 z { x with sur := a, giv := b } ((W.setCell ⟨g5, 3, none⟩ (.string a)).setCell ⟨g5, 4, none⟩ (.string b)) := by
  obtain ⟨h1, h2, h3, h4, h5⟩ := h
  have s1 := h2.set (z' := { x with sur := a }) 3 (.string a) rfl
  have s2 := s1.set (z' := { x with sur := a, giv := b }) 4 (.string b) rfl
  exact ⟨(h1.setOther (p := ⟨g5, 3, none⟩) h4 _).setOther (p := ⟨g5, 4, none⟩) h4 _, s2, (h3.setCell (p := ⟨g5, 3, none⟩) h5 _).setCell (p := ⟨g5, 4, none⟩) h5 _, h4, h5⟩
/-- A zone in a block. -/
def Z1 (w : World) (g3 : Nat) (z : Zn.Z) (W : World) : Prop := ZBox W g3 z ∧ Below w.heap.size w W
theorem Z1.later {w W W' : World} {g3 : Nat} {z : Zn.Z} (h : Z1 w g3 z W) (hb : Below W.heap.size W W') : Z1 w g3 z W' := ⟨h.1.later hb, h.2.trans (hb.mono h.2.size)⟩
theorem nm_need0 {z : Zn.Z} (h : z.giv.size = 0) : ((Opt.nmL z.sur.data.toList z.giv.data.toList).length : Int) = z.sur.size := by
  have e : z.giv.data.toList = [] := List.eq_nil_of_length_eq_zero (by rw [Opt.size_len]; exact h)
  rw [Opt.nmL_length, if_pos e, Opt.size_len]; omega
theorem nm_need2 {z : Zn.Z} (h : z.giv.size ≠ 0) : ((Opt.nmL z.sur.data.toList z.giv.data.toList).length : Int) = z.sur.size + (2 + (z.giv.size : Int)) := by
  have e : z.giv.data.toList ≠ [] := fun e => h (by rw [← Opt.size_len, e]; rfl)
  rw [Opt.nmL_length, if_neg e, Opt.size_len, Opt.size_len]; omega
theorem bldK_small {z : Zn.Z} (h : Zn.Good z) : ∀ s ∈ Zn.bldK z, s.size ≤ 140737488351232 := by
  intro s hs
  obtain ⟨l, hl, rfl⟩ := List.mem_map.1 hs
  have hf := h.fmt
  have hS := Zn.asm_len z.fmt.toNat (by omega) _ (Zn.bld_wide z.fmt.toNat z)
  have h1 := hS.2 l hl
  have hw : Zn.wLine z.fmt.toNat ≤ 44 := by
    unfold Zn.wLine; repeat' split
    all_goals omega
  rw [arr_size]; omega
set_option maxRecDepth 100000 in
set_option maxHeartbeats 16000000 in
theorem walkZoneReturns {H : Type} {enc : TypeId × Value → H} {X : Prop} (w : World) (v : Value) (d : DataW H) {b0 : Nat} {p : List MemPlace} {r : Reach} (hv : Value.okWide Tryz.prog w r b0 30 v) (hd : DataW.Trod enc Tryz.prog w 0 (fun _ => true) true 30 v d p)
    (_hsz : X) (hL : laidMetH Tryz.prog Rows.zoneParsesRow.laid w) (hsh : w.ShapedOpen Tryz.prog) :
    Calls Tryz.prog 4 #[v] w fun e w' => e = .returned (.bool true) ∧ Below w.heap.size w w' := by
  obtain ⟨A, n, c, rfl, hnc, hcm, hl⟩ := open_list hv hd
  have hnm := Nat.le_trans hnc hcm
  have HDX := Lib.hid (And.intro (Dat.at_of hL) (Opt.lax_of hsh))
  clear hcm hL hsh hv hd
  go_enter Tryz.func4, Tryz.ntmps4
  go_wp2_with fail
  refine (made_light _ _ _ _ hnm).mono ?_; rintro e w' ⟨rfl, rfl⟩
  by_cases hn : n ≤ 400
  · have e1 : decide (n ≤ 400) = true := decide_eq_true hn
    rw [e1]
    have HRL := Lib.hid (made_roll A n c w hn hnc hl)
    clear e1 hn hnc hl hnm
    go_wp2_with fail
    refine HRL.out.mono ?_; rintro e w1 ⟨rfl, hd1, hb1⟩
    have HB1 := Lib.hid hb1
    obtain ⟨g, hg⟩ : ∃ q, w.heap.size = q := ⟨_, rfl⟩
    rw [hg] at hd1 ⊢
    have HG := Lib.hid hg
    clear hb1 hg HRL
    go_wp2_with fail
    refine (made_zone g g w1 hd1).mono ?_; rintro e w2 ⟨z, rfl, hz, hd2, hg2⟩
    have HB2 := Lib.hid (below_dice HB1.out hg2 (Nat.le_of_eq HG.out))
    have HZ := Lib.hid hz
    clear hg2 hd1 hd2 hz
    unfold Zn.Z.val
    go_upto_region 4 with fail
    have ha := below_alloc1 w2 (.cells #[.int .i64 z.fmt, .string z.kind, .string z.state, .string z.sur, .string z.giv, .string z.num, .string z.nat, .string z.birth, .string z.sex, .string z.exp, .string z.opt, .string z.sec] 24)
    have hW : Z1 w w2.heap.size z (w2.alloc (.cells #[.int .i64 z.fmt, .string z.kind, .string z.state, .string z.sur, .string z.giv, .string z.num, .string z.nat, .string z.birth, .string z.sex, .string z.exp, .string z.opt, .string z.sec] 24)) := ⟨ZBox.new w2 z, HB2.out.trans (ha.mono HB2.out.size)⟩
    clear ha
    generalize w2.alloc (.cells #[.int .i64 z.fmt, .string z.kind, .string z.state, .string z.sur, .string z.giv, .string z.num, .string z.nat, .string z.birth, .string z.sex, .string z.exp, .string z.opt, .string z.sec] 24) = W3 at hW ⊢
    obtain ⟨g3, hg3⟩ : ∃ q, w2.heap.size = q := ⟨_, rfl⟩
    rw [hg3] at hW ⊢
    clear hg3
    have HFI := Lib.hid (fits_le (fits_good HZ.out) (show 100 ≤ 140737488355328 by decide))
    have HVE := Lib.hid HZ.out.1.vld
    have HAB := Lib.hid (show z.sur.size + z.giv.size ≤ 4294967000 by have h1 := HZ.out.2.1; have h2 := HZ.out.2.2; omega)
    have HSG := Lib.hid (And.intro HZ.out.2.1 HZ.out.2.2)
    obtain ⟨F, hF, hF1⟩ := Zn.vld_fmt HVE.out
    obtain ⟨TL, hTL⟩ : ∃ q, Zn.bldK z = q := ⟨_, rfl⟩
    have HTL := Lib.hid (show TL.length ≤ 1099511627776 by rw [← hTL]; have := Zn.bldK_len z; omega)
    have HTS := Lib.hid (show ∀ s ∈ TL, s.size ≤ 140737488351232 by rw [← hTL]; exact bldK_small HZ.out.1)
    obtain ⟨NL, hNL⟩ : ∃ q : Int, ((Opt.nmL z.sur.data.toList z.giv.data.toList).length : Int) = q := ⟨_, rfl⟩
    obtain ⟨WD, hWD⟩ : ∃ q : Int, (Zn.wd F 2 : Int) = q := ⟨_, rfl⟩
    have hix : ∀ w, (Instr.index 37 (.agg #[.int .i64 0, .int .i64 30, .int .i64 31, .int .i64 39]) (.int .i64 z.fmt)).run Tryz.prog w = .ok (.int .i64 WD) w := by
      have h3 : F = 1 ∨ F = 2 ∨ F = 3 := by omega
      intro w
      rw [hF, ← hWD]
      rcases h3 with rfl | rfl | rfl <;> kernel_rfl
    have HF := Lib.hid (And.intro hF hF1); have HK := Lib.hid hTL; have HNL := Lib.hid hNL; have HWD := Lib.hid hWD
    clear hF hF1 hTL hNL hWD
    obtain ⟨x0, x1, x2, x3, x4, x5, x6, x7, x8, x9, x10, x11⟩ := hW.1.cells
    go_wp2_with fail
    refine (zbuild z _ HFI.out (HDX.out.1.below hW.2) (HDX.out.2.below hW.2) HAB.out).mono ?_; rintro e W4 ⟨lv, rfl, _, hown, hb4⟩
    have ho := hown HVE.out
    rw [HVE.out]
    replace hW := hW.later hb4
    rw [HK.out] at ho
    obtain ⟨A4, c4, rfl, _, hT⟩ := own_texts ho
    have HT := Lib.hid hT
    clear hb4 hown ho hT x0 x1 x2 x3 x4 x5 x6 x7 x8 x9 x10 x11
    go_upto_region 5 with fail
    by_cases hfit : (Opt.nmL z.sur.data.toList z.giv.data.toList).length ≤ Zn.wd F 2
    · have HRF := Lib.hid (Zn.ret_fit HZ.out.1 F HF.out.2 HF.out.1 hfit)
      rw [HK.out] at HRF
      have HCMP := Lib.hid (show ¬ (WD < NL) by rw [← HNL.out, ← HWD.out]; omega)
      clear hfit
      have HP := Lib.hid (show ∀ W, TextsAt W A4 TL → Dat.At w → Opt.Lax w → Below w.heap.size w W → Calls Tryz.prog 10 #[.slice A4 TL.length c4] W fun e w' => e = .returned (.tuple #[.agg #[.int .i64 z.fmt, .string z.kind, .string z.state, .string z.sur, .string z.giv, .string z.num, .string z.nat, .string z.birth, .string z.sex, .string z.exp, .string z.opt, .string z.sec], .int .i64 0]) ∧ Below W.heap.size W w' from fun W h1 h2 h3 h4 => by
        have h := zparse TL A4 c4 W (by have := HTL.out; omega) HTS.out h1 (h2.below h4) (h3.below h4)
        rw [HRF.out.1, HRF.out.2] at h
        exact h)
      go_wp2_with fail
      refine (HP.out _ HT.out HDX.out.1 HDX.out.2 hW.2).mono ?_; rintro e W5 ⟨rfl, hb5⟩
      replace hW := hW.later hb5
      have HT5 := Lib.hid (HT.out.later hb5)
      clear hb5
      go_upto_region 6 with fail
      have ha := below_alloc1 W5 (.cells #[.int .i64 z.fmt, .string z.kind, .string z.state, .string z.sur, .string z.giv, .string z.num, .string z.nat, .string z.birth, .string z.sex, .string z.exp, .string z.opt, .string z.sec] 24)
      have h2 : Z2 w g3 W5.heap.size z z (W5.alloc (.cells #[.int .i64 z.fmt, .string z.kind, .string z.state, .string z.sur, .string z.giv, .string z.num, .string z.nat, .string z.birth, .string z.sex, .string z.exp, .string z.opt, .string z.sec] 24)) := ⟨hW.1.later ha, ZBox.new W5 z, hW.2.trans (ha.mono hW.2.size), Nat.ne_of_lt hW.1.lt, hW.2.size⟩
      have HT6 := Lib.hid (HT5.out.later ha)
      clear ha hW
      generalize W5.alloc (.cells #[.int .i64 z.fmt, .string z.kind, .string z.state, .string z.sur, .string z.giv, .string z.num, .string z.nat, .string z.birth, .string z.sex, .string z.exp, .string z.opt, .string z.sec] 24) = W6 at h2 HT6 ⊢
      obtain ⟨g6, hg6⟩ : ∃ q, W5.heap.size = q := ⟨_, rfl⟩
      rw [hg6] at h2 ⊢
      clear hg6 HT5
      go_wp2_with fail
      refine (zawake _ (HDX.out.1.below h2.2.2.1) (HDX.out.2.below h2.2.2.1)).mono ?_; rintro e W7 ⟨rfl, hb7⟩
      replace h2 := h2.later hb7
      replace HT6 := Lib.hid (HT6.out.later hb7)
      clear hb7
      obtain ⟨x0, x1, x2, x3, x4, x5, x6, x7, x8, x9, x10, x11⟩ := h2.1.cells
      go_upto_if 39 with fail
      go_cut [8] from 37 to 45 (fun q W' => q = .int .i64 NL ∧ W7 = W')
      case first =>
        by_cases hs : z.giv.size = 0
        · obtain ⟨e2, e3, e4⟩ := (empty_is2 z.giv).1 hs
          rw [e3]
          have HN0 := Lib.hid (show (z.sur.size : Int) = NL by rw [← HNL.out]; exact (nm_need0 hs).symm)
          clear e2 e3 e4 hs
          go_wp2_with fail
          go_meet
          exact ⟨by rw [← HN0.out], rfl⟩
        · obtain ⟨e2, e3, e4⟩ := (empty_is2 z.giv).2 hs
          rw [e3]
          have HN0 := Lib.hid (show (z.sur.size : Int) + (2 + (z.giv.size : Int)) = NL by rw [← HNL.out]; exact (nm_need2 hs).symm)
          have b1 := HSG.out.1; have b2 := HSG.out.2
          clear e2 e3 e4 hs
          go_wp2_with fail
          go_meet
          exact ⟨by rw [← HN0.out], rfl⟩
      case rest =>
      obtain ⟨rfl, rfl⟩ := hcut
      have hcmp : ¬ (WD < NL) := by have := HCMP.out; omega
      obtain ⟨y0, y1, y2, y3, y4, y5, y6, y7, y8, y9, y10, y11⟩ := h2.2.1.cells
      go_wp2_with fail
      refine (zbuild z _ HFI.out (HDX.out.1.below h2.2.2.1) (HDX.out.2.below h2.2.2.1) HAB.out).mono ?_; rintro e W8 ⟨lv, rfl, _, hown, hb8⟩
      have ho := hown HVE.out
      rw [HVE.out]
      replace h2 := h2.later hb8
      rw [HK.out] at ho
      obtain ⟨A8, c8, rfl, _, hT8⟩ := own_texts ho
      have HT8 := Lib.hid (And.intro (HT6.out.later hb8) hT8)
      clear hb8 hown ho hT8 y0 y1 y2 y3 y4 y5 y6 y7 y8 y9 y10 y11
      obtain ⟨x0, x1, x2, x3, x4, x5, x6, x7, x8, x9, x10, x11⟩ := h2.1.cells
      obtain ⟨y0, y1, y2, y3, y4, y5, y6, y7, y8, y9, y10, y11⟩ := h2.2.1.cells
      go_wp2_with fail
      refine (rsame_same _ A4 A8 TL c4 c8 HT8.out.1 HT8.out.2 HTL.out).mono ?_; rintro e W9 ⟨rfl, hb9⟩
      have HBE := Lib.hid (h2.2.2.1.trans (hb9.mono h2.2.2.1.size))
      clear hb9 h2 x0 x1 x2 x3 x4 x5 x6 x7 x8 x9 x10 x11 y0 y1 y2 y3 y4 y5 y6 y7 y8 y9 y10 y11
      go_wp2_with fail
      go_ret
      exact ⟨rfl, HBE.out⟩
    · have HCMP := Lib.hid (show WD < NL by rw [← HNL.out, ← HWD.out]; omega)
      clear hfit
      by_cases hE : Zn.prsE (txts TL) = 0
      · obtain ⟨a, b, hab⟩ := Zn.ret_any HZ.out.1 F HF.out.2 HF.out.1 (by rw [HK.out]; exact hE)
        rw [HK.out] at hab
        have HRA := Lib.hid hab; have HRE := Lib.hid hE
        clear hab hE
        have HP := Lib.hid (show ∀ W, TextsAt W A4 TL → Dat.At w → Opt.Lax w → Below w.heap.size w W → Calls Tryz.prog 10 #[.slice A4 TL.length c4] W fun e w' => e = .returned (.tuple #[.agg #[.int .i64 z.fmt, .string z.kind, .string z.state, .string a, .string b, .string z.num, .string z.nat, .string z.birth, .string z.sex, .string z.exp, .string z.opt, .string z.sec], .int .i64 0]) ∧ Below W.heap.size W w' from fun W h1 h2 h3 h4 => by
          have h := zparse TL A4 c4 W (by have := HTL.out; omega) HTS.out h1 (h2.below h4) (h3.below h4)
          rw [HRA.out, HRE.out] at h
          exact h)
        go_wp2_with fail
        refine (HP.out _ HT.out HDX.out.1 HDX.out.2 hW.2).mono ?_; rintro e W5 ⟨rfl, hb5⟩
        replace hW := hW.later hb5
        have HT5 := Lib.hid (HT.out.later hb5)
        clear hb5
        go_upto_region 6 with fail
        have ha := below_alloc1 W5 (.cells #[.int .i64 z.fmt, .string z.kind, .string z.state, .string a, .string b, .string z.num, .string z.nat, .string z.birth, .string z.sex, .string z.exp, .string z.opt, .string z.sec] 24)
        have h2 : Z2 w g3 W5.heap.size z ({ z with sur := a, giv := b } : Zn.Z) (W5.alloc (.cells #[.int .i64 z.fmt, .string z.kind, .string z.state, .string a, .string b, .string z.num, .string z.nat, .string z.birth, .string z.sex, .string z.exp, .string z.opt, .string z.sec] 24)) := ⟨hW.1.later ha, ZBox.new W5 ({ z with sur := a, giv := b } : Zn.Z), hW.2.trans (ha.mono hW.2.size), Nat.ne_of_lt hW.1.lt, hW.2.size⟩
        have HT6 := Lib.hid (HT5.out.later ha)
        clear ha hW
        generalize W5.alloc (.cells #[.int .i64 z.fmt, .string z.kind, .string z.state, .string a, .string b, .string z.num, .string z.nat, .string z.birth, .string z.sex, .string z.exp, .string z.opt, .string z.sec] 24) = W6 at h2 HT6 ⊢
        obtain ⟨g6, hg6⟩ : ∃ q, W5.heap.size = q := ⟨_, rfl⟩
        rw [hg6] at h2 ⊢
        clear hg6 HT5
        go_wp2_with fail
        refine (zawake _ (HDX.out.1.below h2.2.2.1) (HDX.out.2.below h2.2.2.1)).mono ?_; rintro e W7 ⟨rfl, hb7⟩
        replace h2 := h2.later hb7
        replace HT6 := Lib.hid (HT6.out.later hb7)
        clear hb7
        obtain ⟨x0, x1, x2, x3, x4, x5, x6, x7, x8, x9, x10, x11⟩ := h2.1.cells
        go_upto_if 39 with fail
        go_cut [8] from 37 to 45 (fun q W' => q = .int .i64 NL ∧ W7 = W')
        case first =>
          by_cases hs : z.giv.size = 0
          · obtain ⟨e2, e3, e4⟩ := (empty_is2 z.giv).1 hs
            rw [e3]
            have HN0 := Lib.hid (show (z.sur.size : Int) = NL by rw [← HNL.out]; exact (nm_need0 hs).symm)
            clear e2 e3 e4 hs
            go_wp2_with fail
            go_meet
            exact ⟨by rw [← HN0.out], rfl⟩
          · obtain ⟨e2, e3, e4⟩ := (empty_is2 z.giv).2 hs
            rw [e3]
            have HN0 := Lib.hid (show (z.sur.size : Int) + (2 + (z.giv.size : Int)) = NL by rw [← HNL.out]; exact (nm_need2 hs).symm)
            have b1 := HSG.out.1; have b2 := HSG.out.2
            clear e2 e3 e4 hs
            go_wp2_with fail
            go_meet
            exact ⟨by rw [← HN0.out], rfl⟩
        case rest =>
        obtain ⟨rfl, rfl⟩ := hcut
        have hcmp : WD < NL := HCMP.out
        obtain ⟨y0, y1, y2, y3, y4, y5, y6, y7, y8, y9, y10, y11⟩ := h2.2.1.cells
        obtain ⟨f0, f1, f2, f3, f4, f5, f6, f7, f8, f9, f10, f11⟩ := h2.frees
        have hne := h2.2.2.2.1
        have HP2 := Lib.hid (h2.putN z.sur z.giv)
        go_upto_region 12 with fail
        (refine wp_region_held_drew (S := (fun W => W.cell? ⟨g3, 3, none⟩ = some (.string z.sur) ∧ W.cell? ⟨g3, 4, none⟩ = some (.string z.giv))) (by kernel_rfl) (show _ ∧ _ from ⟨x3, x4⟩) (fun hHeld => ?_))
        ((refine tkI 0 ?_ (hy := ?_) (h := ?_); rotate_left 1; · (intro w hSw; (try dsimp only at hSw); go_simp; (try with_reducible rfl))); (try simp only [Act.put, List.setIfInBounds_toArray, List.set_cons_zero, List.set_cons_succ]))
        ((refine tkI 1 ?_ (hy := ?_) (h := ?_); rotate_left 1; · (intro w hSw; (try dsimp only at hSw); go_simp; (try with_reducible rfl))); (try simp only [Act.put, List.setIfInBounds_toArray, List.set_cons_zero, List.set_cons_succ]))
        ((refine tkI 2 ?_ (hy := ?_) (h := ?_); rotate_left 1; · (intro w hSw; (try dsimp only at hSw); go_simp; (try with_reducible rfl))); (try simp only [Act.put, List.setIfInBounds_toArray, List.set_cons_zero, List.set_cons_succ]))
        ((refine tkI 3 ?_ (hy := ?_) (h := ?_); rotate_left 1; · (intro w hSw; (try dsimp only at hSw); go_simp; (try with_reducible rfl))); (try simp only [Act.put, List.setIfInBounds_toArray, List.set_cons_zero, List.set_cons_succ]))
        ((refine tkI 4 ?_ (hy := ?_) (h := ?_); rotate_left 1; · (intro w hSw; (try dsimp only at hSw); go_simp; (try with_reducible rfl))); (try simp only [Act.put, List.setIfInBounds_toArray, List.set_cons_zero, List.set_cons_succ]))
        refine wpAnyH_ready (rs := [5]) (by kernel_rfl) (by simp) ?_
        refine AllReadyH.cons (by simp only [List.getElem?_toArray, List.getElem?_cons_succ, List.getElem?_cons_zero]; rfl) (fun K hK => ?_) AllReadyH.nil
        go_simp
        refine hK.out _ _ (two_set hHeld hne _ _) (fun hHeld => ?_)
        clear hK K
        (try simp only [Act.put, List.setIfInBounds_toArray, List.set_cons_zero, List.set_cons_succ])
        ((refine tkI 6 ?_ (hy := ?_) (h := ?_); rotate_left 1; · (intro w hSw; (try dsimp only at hSw); go_simp; (try with_reducible rfl))); (try simp only [Act.put, List.setIfInBounds_toArray, List.set_cons_zero, List.set_cons_succ]))
        refine wpAnyH_ready (rs := [7]) (by kernel_rfl) (by simp) ?_
        refine AllReadyH.cons (by simp only [List.getElem?_toArray, List.getElem?_cons_succ, List.getElem?_cons_zero]; rfl) (fun K hK => ?_) AllReadyH.nil
        go_simp
        refine hK.out _ _ (two_set hHeld hne _ _) (fun hHeld => ?_)
        clear hK K
        (try simp only [Act.put, List.setIfInBounds_toArray, List.set_cons_zero, List.set_cons_succ])
        (refine wpAnyH_done (by kernel_rfl) ?_ _)
        go_upto_region 13 with fail
        have h3 := HP2.out
        clear h2 HP2 hHeld x0 x1 x2 x3 x4 x5 x6 x7 x8 x9 x10 x11 y0 y1 y2 y3 y4 y5 y6 y7 y8 y9 y10 y11 f0 f1 f2 f3 f4 f5 f6 f7 f8 f9 f10 f11
        generalize hWQ : ((W7.setCell ⟨g6, 3, none⟩ (.string z.sur)).setCell ⟨g6, 4, none⟩ (.string z.giv)) = WQ at h3 ⊢
        clear hWQ
        obtain ⟨x0, x1, x2, x3, x4, x5, x6, x7, x8, x9, x10, x11⟩ := h3.1.cells
        obtain ⟨y0, y1, y2, y3, y4, y5, y6, y7, y8, y9, y10, y11⟩ := h3.2.1.cells
        dsimp only at y0 y1 y2 y3 y4 y5 y6 y7 y8 y9 y10 y11
        go_wp2_with fail
        go_ret
        (first | exact ⟨rfl, h3.2.2.1⟩ | exact ⟨rfl, h3.2.2.1.drew⟩)
      · obtain ⟨V, hV⟩ : ∃ q, Zn.prsV (txts TL) = q := ⟨_, rfl⟩
        obtain ⟨E, hEE⟩ : ∃ q, Zn.prsE (txts TL) = q := ⟨_, rfl⟩
        have HRA := Lib.hid hV; have HRE := Lib.hid hEE
        have HE0 := Lib.hid (show E ≠ 0 by rw [← hEE]; exact hE)
        clear hV hEE hE
        have HP := Lib.hid (show ∀ W, TextsAt W A4 TL → Dat.At w → Opt.Lax w → Below w.heap.size w W → Calls Tryz.prog 10 #[.slice A4 TL.length c4] W fun e w' => e = .returned (.tuple #[.agg #[.int .i64 V.fmt, .string V.kind, .string V.state, .string V.sur, .string V.giv, .string V.num, .string V.nat, .string V.birth, .string V.sex, .string V.exp, .string V.opt, .string V.sec], .int .i64 E]) ∧ Below W.heap.size W w' from fun W h1 h2 h3 h4 => by
          have h := zparse TL A4 c4 W (by have := HTL.out; omega) HTS.out h1 (h2.below h4) (h3.below h4)
          rw [HRA.out, HRE.out] at h
          exact h)
        go_wp2_with fail
        refine (HP.out _ HT.out HDX.out.1 HDX.out.2 hW.2).mono ?_; rintro e W5 ⟨rfl, hb5⟩
        replace hW := hW.later hb5
        have HT5 := Lib.hid (HT.out.later hb5)
        clear hb5
        go_upto_region 6 with fail
        have ha := below_alloc1 W5 (.cells #[.int .i64 V.fmt, .string V.kind, .string V.state, .string V.sur, .string V.giv, .string V.num, .string V.nat, .string V.birth, .string V.sex, .string V.exp, .string V.opt, .string V.sec] 24)
        have h2 : Z2 w g3 W5.heap.size z V (W5.alloc (.cells #[.int .i64 V.fmt, .string V.kind, .string V.state, .string V.sur, .string V.giv, .string V.num, .string V.nat, .string V.birth, .string V.sex, .string V.exp, .string V.opt, .string V.sec] 24)) := ⟨hW.1.later ha, ZBox.new W5 V, hW.2.trans (ha.mono hW.2.size), Nat.ne_of_lt hW.1.lt, hW.2.size⟩
        have HT6 := Lib.hid (HT5.out.later ha)
        clear ha hW
        generalize W5.alloc (.cells #[.int .i64 V.fmt, .string V.kind, .string V.state, .string V.sur, .string V.giv, .string V.num, .string V.nat, .string V.birth, .string V.sex, .string V.exp, .string V.opt, .string V.sec] 24) = W6 at h2 HT6 ⊢
        obtain ⟨g6, hg6⟩ : ∃ q, W5.heap.size = q := ⟨_, rfl⟩
        rw [hg6] at h2 ⊢
        clear hg6 HT5
        go_wp2_with fail
        refine (zawake _ (HDX.out.1.below h2.2.2.1) (HDX.out.2.below h2.2.2.1)).mono ?_; rintro e W7 ⟨rfl, hb7⟩
        replace h2 := h2.later hb7
        replace HT6 := Lib.hid (HT6.out.later hb7)
        clear hb7
        obtain ⟨x0, x1, x2, x3, x4, x5, x6, x7, x8, x9, x10, x11⟩ := h2.1.cells
        go_upto_if 39 with fail
        go_cut [8] from 37 to 45 (fun q W' => q = .int .i64 NL ∧ W7 = W')
        case first =>
          by_cases hs : z.giv.size = 0
          · obtain ⟨e2, e3, e4⟩ := (empty_is2 z.giv).1 hs
            rw [e3]
            have HN0 := Lib.hid (show (z.sur.size : Int) = NL by rw [← HNL.out]; exact (nm_need0 hs).symm)
            clear e2 e3 e4 hs
            go_wp2_with fail
            go_meet
            exact ⟨by rw [← HN0.out], rfl⟩
          · obtain ⟨e2, e3, e4⟩ := (empty_is2 z.giv).2 hs
            rw [e3]
            have HN0 := Lib.hid (show (z.sur.size : Int) + (2 + (z.giv.size : Int)) = NL by rw [← HNL.out]; exact (nm_need2 hs).symm)
            have b1 := HSG.out.1; have b2 := HSG.out.2
            clear e2 e3 e4 hs
            go_wp2_with fail
            go_meet
            exact ⟨by rw [← HN0.out], rfl⟩
        case rest =>
        obtain ⟨rfl, rfl⟩ := hcut
        have hcmp : WD < NL := HCMP.out
        obtain ⟨y0, y1, y2, y3, y4, y5, y6, y7, y8, y9, y10, y11⟩ := h2.2.1.cells
        obtain ⟨f0, f1, f2, f3, f4, f5, f6, f7, f8, f9, f10, f11⟩ := h2.frees
        have hne := h2.2.2.2.1
        have HP2 := Lib.hid (h2.putN z.sur z.giv)
        go_upto_region 12 with fail
        (refine wp_region_held_drew (S := (fun W => W.cell? ⟨g3, 3, none⟩ = some (.string z.sur) ∧ W.cell? ⟨g3, 4, none⟩ = some (.string z.giv))) (by kernel_rfl) (show _ ∧ _ from ⟨x3, x4⟩) (fun hHeld => ?_))
        ((refine tkI 0 ?_ (hy := ?_) (h := ?_); rotate_left 1; · (intro w hSw; (try dsimp only at hSw); go_simp; (try with_reducible rfl))); (try simp only [Act.put, List.setIfInBounds_toArray, List.set_cons_zero, List.set_cons_succ]))
        ((refine tkI 1 ?_ (hy := ?_) (h := ?_); rotate_left 1; · (intro w hSw; (try dsimp only at hSw); go_simp; (try with_reducible rfl))); (try simp only [Act.put, List.setIfInBounds_toArray, List.set_cons_zero, List.set_cons_succ]))
        ((refine tkI 2 ?_ (hy := ?_) (h := ?_); rotate_left 1; · (intro w hSw; (try dsimp only at hSw); go_simp; (try with_reducible rfl))); (try simp only [Act.put, List.setIfInBounds_toArray, List.set_cons_zero, List.set_cons_succ]))
        ((refine tkI 3 ?_ (hy := ?_) (h := ?_); rotate_left 1; · (intro w hSw; (try dsimp only at hSw); go_simp; (try with_reducible rfl))); (try simp only [Act.put, List.setIfInBounds_toArray, List.set_cons_zero, List.set_cons_succ]))
        ((refine tkI 4 ?_ (hy := ?_) (h := ?_); rotate_left 1; · (intro w hSw; (try dsimp only at hSw); go_simp; (try with_reducible rfl))); (try simp only [Act.put, List.setIfInBounds_toArray, List.set_cons_zero, List.set_cons_succ]))
        refine wpAnyH_ready (rs := [5]) (by kernel_rfl) (by simp) ?_
        refine AllReadyH.cons (by simp only [List.getElem?_toArray, List.getElem?_cons_succ, List.getElem?_cons_zero]; rfl) (fun K hK => ?_) AllReadyH.nil
        go_simp
        refine hK.out _ _ (two_set hHeld hne _ _) (fun hHeld => ?_)
        clear hK K
        (try simp only [Act.put, List.setIfInBounds_toArray, List.set_cons_zero, List.set_cons_succ])
        ((refine tkI 6 ?_ (hy := ?_) (h := ?_); rotate_left 1; · (intro w hSw; (try dsimp only at hSw); go_simp; (try with_reducible rfl))); (try simp only [Act.put, List.setIfInBounds_toArray, List.set_cons_zero, List.set_cons_succ]))
        refine wpAnyH_ready (rs := [7]) (by kernel_rfl) (by simp) ?_
        refine AllReadyH.cons (by simp only [List.getElem?_toArray, List.getElem?_cons_succ, List.getElem?_cons_zero]; rfl) (fun K hK => ?_) AllReadyH.nil
        go_simp
        refine hK.out _ _ (two_set hHeld hne _ _) (fun hHeld => ?_)
        clear hK K
        (try simp only [Act.put, List.setIfInBounds_toArray, List.set_cons_zero, List.set_cons_succ])
        (refine wpAnyH_done (by kernel_rfl) ?_ _)
        go_upto_region 13 with fail
        have h3 := HP2.out
        clear h2 HP2 hHeld x0 x1 x2 x3 x4 x5 x6 x7 x8 x9 x10 x11 y0 y1 y2 y3 y4 y5 y6 y7 y8 y9 y10 y11 f0 f1 f2 f3 f4 f5 f6 f7 f8 f9 f10 f11
        generalize hWQ : ((W7.setCell ⟨g6, 3, none⟩ (.string z.sur)).setCell ⟨g6, 4, none⟩ (.string z.giv)) = WQ at h3 ⊢
        clear hWQ
        obtain ⟨x0, x1, x2, x3, x4, x5, x6, x7, x8, x9, x10, x11⟩ := h3.1.cells
        obtain ⟨y0, y1, y2, y3, y4, y5, y6, y7, y8, y9, y10, y11⟩ := h3.2.1.cells
        dsimp only at y0 y1 y2 y3 y4 y5 y6 y7 y8 y9 y10 y11
        have e1 : (E != 0) = true := by rw [bne_iff_ne]; exact HE0.out
        go_wp2_with fail
        go_ret
        (first | exact ⟨rfl, h3.2.2.1⟩ | exact ⟨rfl, h3.2.2.1.drew⟩)
  · have e1 : decide (n ≤ 400) = false := decide_eq_false hn
    rw [e1]
    clear e1 hn hnc hl hnm
    go_wp2_with fail
    refine (zawake _ HDX.out.1 HDX.out.2).mono ?_; rintro e w1 ⟨rfl, hb1⟩
    go_wp2_with fail
    go_ret
    exact ⟨rfl, hb1⟩
end Go.Proofs.YtelngghecmkipaaGreatDoor
