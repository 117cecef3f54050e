/- Chapter 11: the walk of Valid of the reference. -/
import Derived.Test.YtelngghecmkipaaGreatDoorTake
import Derived.Test.YtelngghecmkipaaGreatDoorZonGA
import Derived.IntWalk
import Derived.Deep.RegionHeld3
namespace Go.Proofs.YtelngghecmkipaaGreatDoor
open Go.RowKit

theorem empty_is (s : ByteArray) : (s.size = 0 → s.toList.isEmpty = true ∧ (!s.toList.isEmpty) = false) ∧ (s.size ≠ 0 → s.toList.isEmpty = false ∧ (!s.toList.isEmpty) = true) := by
  refine ⟨fun h => ?_, fun h => ?_⟩
  · have hl : s.data.toList = [] := List.eq_nil_of_length_eq_zero (by rw [Opt.size_len]; exact h)
    exact str_empty hl rfl
  · have hl : s.data.toList.isEmpty = false := by
      cases hd : s.data.toList with
      | nil => exact absurd (by have := Opt.size_len s; rw [hd] at this; exact this.symm) h
      | cons => rfl
    exact str_empty rfl hl
theorem str_is (s : ByteArray) (c : UInt8) : (s.toList == [c]) = decide (s = ⟨#[c]⟩) := by
  rw [ByteArray.toList_eq, Bool.eq_iff_iff, beq_iff_eq, decide_eq_true_eq]
  constructor
  · intro h; exact str_eq h
  · rintro rfl; rfl

set_option maxRecDepth 100000 in
set_option maxHeartbeats 8000000 in
theorem rvalidZ (z : Zn.Z) (w : World) (hz : z.fits maxLen) :
    Calls Tryz.prog 24 #[z.val] w fun e w' => e = .returned (.int .i64 (Zn.vldE z)) ∧ Below w.heap.size w w' := by
  obtain ⟨fz1, fz2, fz3, fz4, fz5, fz6, fz7, fz8, fz9, fz10, fz11⟩ := hz
  obtain ⟨R, hR⟩ : ∃ R, Zn.vldE z = R := ⟨_, rfl⟩
  rw [hR]
  unfold Zn.vldE at hR
  have HK := Lib.hid (fun W => rletters z.kind 2 W fz1)
  have HS := Lib.hid (fun W => rletters z.state 3 W fz2)
  have HU := Lib.hid (fun W => rname z.sur W fz3)
  have HG := Lib.hid (fun W => rname z.giv W fz4)
  have HP := Lib.hid (fun W => rplain z.num W fz5)
  have HN := Lib.hid (fun W => rletters z.nat 3 W fz6)
  have HB := Lib.hid (fun W => rbirth z.birth W)
  have HE := Lib.hid (fun W => rparse_any z.exp 2000 W)
  have HO := Lib.hid (fun W => rextra z.opt W fz10)
  have HC := Lib.hid (fun W => rextra z.sec W fz11)
  rw [show b8 32 = 32 from rfl] at HU HG
  obtain ⟨vK, eK⟩ : ∃ q, Zn.letters z.kind 2 = q := ⟨_, rfl⟩
  obtain ⟨vS, eS⟩ : ∃ q, Zn.letters z.state 3 = q := ⟨_, rfl⟩
  obtain ⟨vU, eU⟩ : ∃ q, Opt.words 32 z.sur.data.toList = q := ⟨_, rfl⟩
  obtain ⟨vG, eG⟩ : ∃ q, Opt.words 32 z.giv.data.toList = q := ⟨_, rfl⟩
  obtain ⟨vP, eP⟩ : ∃ q, Zn.plain z.num = q := ⟨_, rfl⟩
  obtain ⟨vN, eN⟩ : ∃ q, Zn.letters z.nat 3 = q := ⟨_, rfl⟩
  obtain ⟨vB, eB⟩ : ∃ q, Zn.birthB z.birth = q := ⟨_, rfl⟩
  obtain ⟨vE, eE⟩ : ∃ q, Dat.prE z.exp 2000 = q := ⟨_, rfl⟩
  obtain ⟨vO, eO⟩ : ∃ q, Zn.extra z.opt = q := ⟨_, rfl⟩
  obtain ⟨vC, eC⟩ : ∃ q, Zn.extra z.sec = q := ⟨_, rfl⟩
  rw [eK] at HK hR; rw [eS] at HS hR; rw [eU] at HU hR; rw [eG] at HG hR; rw [eP] at HP hR; rw [eN] at HN hR; rw [eB] at HB hR; rw [eE] at HE hR; rw [eO] at HO hR; rw [eC] at HC hR
  have HR := Lib.hid hR
  have hb1 := below_alloc1 w (.cells #[.int .i64 z.fmt, .string z.kind, .string z.state, .string z.sur, .string z.giv, .string z.num, .string z.nat, .string z.birth, .string z.sex, .string z.exp, .string z.opt, .string z.sec] 24)
  have hbx := ZBox.new w z
  have FZ5 := Lib.hid fz5; have FZ11 := Lib.hid fz11; have FZ10 := Lib.hid fz10
  clear hR eK eS eU eG eP eN eB eE eO eC fz1 fz2 fz3 fz4 fz5 fz6 fz7 fz8 fz9 fz10 fz11
  unfold Zn.Z.val
  go_enter Tryz.func24, Tryz.ntmps24
  go_upto_region 1 with fail
  generalize w.alloc (.cells #[.int .i64 z.fmt, .string z.kind, .string z.state, .string z.sur, .string z.giv, .string z.num, .string z.nat, .string z.birth, .string z.sex, .string z.exp, .string z.opt, .string z.sec] 24) = w1 at hb1 hbx ⊢
  have HB1 := Lib.hid hb1; have HX := Lib.hid hbx
  clear hb1 hbx
  obtain ⟨x0, x1, x2, x3, x4, x5, x6, x7, x8, x9, x10, x11⟩ := HX.out.cells
  by_cases hf : ¬ (1 ≤ z.fmt ∧ z.fmt ≤ 3)
  · have hr := HR.out
    rw [if_pos hf] at hr
    have HRR := Lib.hid hr
    clear HR hr
    by_cases h1 : z.fmt < 1
    · go_wp2_with fail
      go_ret
      exact ⟨ret_i64 HRR.out, HB1.out⟩
    · have h3 : 3 < z.fmt := by omega
      have h1' : 1 ≤ z.fmt := by omega
      clear hf
      go_wp2_with fail
      go_ret
      exact ⟨ret_i64 HRR.out, HB1.out⟩
  have hR := HR.out
  rw [if_neg hf] at hR
  have hf1 : 1 ≤ z.fmt := by omega
  have hf3 : z.fmt ≤ 3 := by omega
  have HR := Lib.hid hR
  clear hR hf
  go_wp2_with fail
  refine (HK.out _).mono ?_; rintro e w' ⟨rfl, rfl⟩
  cases vK
  · have hr := HR.out
    rw [if_pos (by first | rfl | assumption | omega)] at hr
    have HRR := Lib.hid hr
    clear HR hr
    go_wp2_with fail
    go_ret
    exact ⟨ret_i64 HRR.out, HB1.out⟩
  have hR := HR.out
  rw [if_neg (by first | assumption | omega | (simp; done))] at hR
  have HR := Lib.hid hR
  clear hR
  go_wp2_with fail
  refine (HS.out _).mono ?_; rintro e w' ⟨rfl, rfl⟩
  cases vS
  · have hr := HR.out
    rw [if_pos (by first | rfl | assumption | omega)] at hr
    have HRR := Lib.hid hr
    clear HR hr
    go_wp2_with fail
    go_ret
    exact ⟨ret_i64 HRR.out, HB1.out⟩
  have hR := HR.out
  rw [if_neg (by first | assumption | omega | (simp; done))] at hR
  have HR := Lib.hid hR
  clear hR
  go_wp2_with fail
  refine (HU.out _).mono ?_; rintro e w' ⟨rfl, rfl⟩
  cases vU
  · have hr := HR.out
    rw [if_pos (by first | rfl | assumption | omega)] at hr
    have HRR := Lib.hid hr
    clear HR hr
    go_wp2_with fail
    go_ret
    exact ⟨ret_i64 HRR.out, HB1.out⟩
  have hR := HR.out
  rw [if_neg (by first | assumption | omega | (simp; done))] at hR
  have HR := Lib.hid hR
  clear hR
  by_cases h0 : z.sur.size = 0
  · obtain ⟨e1, e2⟩ := (empty_is z.sur).1 h0
    have hr := HR.out
    rw [if_pos (by first | rfl | assumption | omega)] at hr
    have HRR := Lib.hid hr
    clear HR hr
    go_wp2_with fail
    go_ret
    exact ⟨ret_i64 HRR.out, HB1.out⟩
  obtain ⟨e1, e2⟩ := (empty_is z.sur).2 h0
  have hR := HR.out
  rw [if_neg (by first | assumption | omega | (simp; done))] at hR
  have HR := Lib.hid hR
  clear hR
  clear h0
  go_wp2_with fail
  refine (HG.out _).mono ?_; rintro e w' ⟨rfl, rfl⟩
  cases vG
  · have hr := HR.out
    rw [if_pos (by first | rfl | assumption | omega)] at hr
    have HRR := Lib.hid hr
    clear HR hr
    go_wp2_with fail
    go_ret
    exact ⟨ret_i64 HRR.out, HB1.out⟩
  have hR := HR.out
  rw [if_neg (by first | assumption | omega | (simp; done))] at hR
  have HR := Lib.hid hR
  clear hR
  by_cases h0 : z.num.size = 0
  · obtain ⟨e1, e2⟩ := (empty_is z.num).1 h0
    have hr := HR.out
    rw [if_pos (by first | rfl | assumption | omega)] at hr
    have HRR := Lib.hid hr
    clear HR hr
    go_wp2_with fail
    go_ret
    exact ⟨ret_i64 HRR.out, HB1.out⟩
  obtain ⟨e1, e2⟩ := (empty_is z.num).2 h0
  have hR := HR.out
  rw [if_neg (by first | assumption | omega | (simp; done))] at hR
  have HR := Lib.hid hR
  clear hR
  clear h0
  go_wp2_with fail
  refine (HP.out _).mono ?_; rintro e w' ⟨rfl, rfl⟩
  cases vP
  · have hr := HR.out
    rw [if_pos (by first | rfl | assumption | omega)] at hr
    have HRR := Lib.hid hr
    clear HR hr
    go_wp2_with fail
    go_ret
    exact ⟨ret_i64 HRR.out, HB1.out⟩
  have hR := HR.out
  rw [if_neg (by first | assumption | omega | (simp; done))] at hR
  have HR := Lib.hid hR
  clear hR
  go_wp2_with fail
  have hix : ∀ w, (Instr.index 37 (.agg #[.int .i64 0, .int .i64 20, .int .i64 14, .int .i64 9]) (.int .i64 z.fmt)).run Tryz.prog w = .ok (.int .i64 (Zn.longest z.fmt)) w := by
    have h3 : z.fmt = 1 ∨ z.fmt = 2 ∨ z.fmt = 3 := by omega
    rcases h3 with h | h | h <;> rw [h] <;> exact fun _ => by kernel_rfl
  go_quiet (fail)
  clear hix x0 x1 x2 x3 x4 x5 x6 x7 x8 x9 x10 x11
  have HB2 := Lib.hid (below_drewN HB1.out nq); have HX2 := Lib.hid (HX.out.drewN nq)
  generalize w1.drewN nq = w2 at HB2 HX2 ⊢
  obtain ⟨x0, x1, x2, x3, x4, x5, x6, x7, x8, x9, x10, x11⟩ := HX2.out.cells
  by_cases hL : Zn.longest z.fmt < z.num.size
  · have hr := HR.out
    rw [if_pos (hL)] at hr
    have HRR := Lib.hid hr
    clear HR hr
    go_wp2_with fail
    go_ret
    exact ⟨ret_i64 HRR.out, HB2.out⟩
  have hR := HR.out
  rw [if_neg (by first | assumption | omega | (simp; done))] at hR
  have HR := Lib.hid hR
  clear hR
  have hL' : ¬ Zn.longest z.fmt < z.num.size := hL
  clear hL
  go_wp2_with fail
  refine (HN.out _).mono ?_; rintro e w' ⟨rfl, rfl⟩
  cases vN
  · have hr := HR.out
    rw [if_pos (by first | rfl | assumption | omega)] at hr
    have HRR := Lib.hid hr
    clear HR hr
    go_wp2_with fail
    go_ret
    exact ⟨ret_i64 HRR.out, HB2.out⟩
  have hR := HR.out
  rw [if_neg (by first | assumption | omega | (simp; done))] at hR
  have HR := Lib.hid hR
  clear hR
  go_wp2_with fail
  refine (HB.out _).mono ?_; rintro e w' ⟨rfl, n3, rfl⟩
  clear x0 x1 x2 x3 x4 x5 x6 x7 x8 x9 x10 x11
  have HB3 := Lib.hid (below_drewN HB2.out n3); have HX3 := Lib.hid (HX2.out.drewN n3)
  generalize w2.drewN n3 = w3 at HB3 HX3 ⊢
  obtain ⟨x0, x1, x2, x3, x4, x5, x6, x7, x8, x9, x10, x11⟩ := HX3.out.cells
  cases vB
  · have hr := HR.out
    rw [if_pos (by first | rfl | assumption | omega)] at hr
    have HRR := Lib.hid hr
    clear HR hr
    go_wp2_with fail
    go_ret
    exact ⟨ret_i64 HRR.out, HB3.out⟩
  have hR := HR.out
  rw [if_neg (by first | assumption | omega | (simp; done))] at hR
  have HR := Lib.hid hR
  clear hR
  have sM := str_is z.sex 77; have sF := str_is z.sex 70; have sX := str_is z.sex 60
  by_cases hs : Zn.sexB z.sex = false
  · have hs' := hs
    unfold Zn.sexB at hs'
    rw [Bool.or_eq_false_iff, Bool.or_eq_false_iff] at hs'
    rw [hs'.1] at sM; rw [hs'.2.1] at sF; rw [hs'.2.2] at sX
    clear hs'
    have hr := HR.out
    rw [if_pos hs] at hr
    have HRR := Lib.hid hr
    clear HR hr hs
    go_wp2_with fail
    go_ret
    exact ⟨ret_i64 HRR.out, HB3.out⟩
  have hR := HR.out
  rw [if_neg hs] at hR
  have HR := Lib.hid hR
  clear hR
  have hs' : Zn.sexB z.sex = true := by simpa using hs
  have h3 : ((z.sex.toList == [77]) = true) ∨ ((z.sex.toList == [77]) = false ∧ (z.sex.toList == [70]) = true) ∨ ((z.sex.toList == [77]) = false ∧ (z.sex.toList == [70]) = false ∧ (z.sex.toList == [60]) = true) := by
    rw [sM, sF, sX]
    unfold Zn.sexB at hs'
    revert hs'
    cases decide (z.sex = ⟨#[77]⟩) <;> cases decide (z.sex = ⟨#[70]⟩) <;> cases decide (z.sex = ⟨#[60]⟩) <;> simp
  have HRM := Lib.hid (fun W => show Calls Tryz.prog 69 #[.agg #[.int .i64 z.fmt, .string z.kind, .string z.state, .string z.sur, .string z.giv, .string z.num, .string z.nat, .string z.birth, .string z.sex, .string z.exp, .string z.opt, .string z.sec]] W fun e w' => e = .returned (.int .i64 (Zn.room z)) ∧ Below W.heap.size W w' from rroom z W ⟨hf1, hf3⟩ FZ5.out)
  clear sM sF sX hs hs'
  rcases h3 with s1 | ⟨s1, s2⟩ | ⟨s1, s2, s3⟩
  all_goals
    go_wp2_with fail
    refine (HE.out _).mono ?_; rintro e w' ⟨rfl, hb⟩
    clear x0 x1 x2 x3 x4 x5 x6 x7 x8 x9 x10 x11
    have HB4 := Lib.hid (HB3.out.trans (hb.mono HB3.out.size)); have HX4 := Lib.hid (HX3.out.later hb)
    clear hb
    obtain ⟨w4, rfl⟩ : ∃ w4 : World, w4 = w' := ⟨_, rfl⟩
    obtain ⟨x0, x1, x2, x3, x4, x5, x6, x7, x8, x9, x10, x11⟩ := HX4.out.cells
    by_cases hE : vE ≠ 0
    · have hr := HR.out
      rw [if_pos hE] at hr
      have hE' : (vE != 0) = true := by rw [bne_iff_ne]; exact hE
      have HRR := Lib.hid hr
      clear HR hr hE
      go_wp2_with fail
      go_ret
      exact ⟨ret_i64 HRR.out, HB4.out⟩
    obtain rfl : vE = 0 := by omega
    have hR := HR.out
    rw [if_neg hE] at hR
    have HR := Lib.hid hR
    clear hR hE
    go_wp2_with fail
    refine (HO.out _).mono ?_; rintro e w' ⟨rfl, rfl⟩
    cases vO
    · have HRR := Lib.hid (show (14 : Int) = R from HR.out)
      clear HR
      go_wp2_with fail
      go_ret
      exact ⟨ret_i64 HRR.out, HB4.out⟩
    go_wp2_with fail
    refine (HC.out _).mono ?_; rintro e w' ⟨rfl, rfl⟩
    cases vC
    · have HRR := Lib.hid (show (14 : Int) = R from HR.out)
      clear HR
      go_wp2_with fail
      go_ret
      exact ⟨ret_i64 HRR.out, HB4.out⟩
    have HR := Lib.hid (show (if z.fmt ≠ 1 ∧ z.sec.size ≠ 0 then (14 : Int) else if Zn.wide z.fmt < Zn.need z then 2 else if (11 : Int) < z.sec.size then 2 else 0) = R from HR.out)
    by_cases h0 : z.sec.size = 0
    · obtain ⟨e1, e2⟩ := (empty_is z.sec).1 h0
      have hR := HR.out
      rw [if_neg (fun h => h.2 h0)] at hR
      have HR := Lib.hid hR
      clear hR h0
      by_cases hro : Zn.room z < (z.opt.size : Int)
      · have hd := decide_eq_true hro
        have hR := HR.out
        rw [if_pos ((Zn.room_lt z).1 hro)] at hR
        have HRR := Lib.hid hR
        clear hR HR hro
        go_upto_region 16 with fail
        (refine wp_region_held_drew (S := (fun W => W.cell? ⟨w.heap.size, 0, none⟩ = some (.int .i64 z.fmt) ∧ W.cell? ⟨w.heap.size, 1, none⟩ = some (.string z.kind) ∧ W.cell? ⟨w.heap.size, 2, none⟩ = some (.string z.state) ∧ W.cell? ⟨w.heap.size, 3, none⟩ = some (.string z.sur) ∧ W.cell? ⟨w.heap.size, 4, none⟩ = some (.string z.giv) ∧ W.cell? ⟨w.heap.size, 5, none⟩ = some (.string z.num) ∧ W.cell? ⟨w.heap.size, 6, none⟩ = some (.string z.nat) ∧ W.cell? ⟨w.heap.size, 7, none⟩ = some (.string z.birth) ∧ W.cell? ⟨w.heap.size, 8, none⟩ = some (.string z.sex) ∧ W.cell? ⟨w.heap.size, 9, none⟩ = some (.string z.exp) ∧ W.cell? ⟨w.heap.size, 10, none⟩ = some (.string z.opt) ∧ W.cell? ⟨w.heap.size, 11, none⟩ = some (.string z.sec) ∧ Below w.heap.size w W)) (by kernel_rfl) (show _ ∧ _ ∧ _ ∧ _ ∧ _ ∧ _ ∧ _ ∧ _ ∧ _ ∧ _ ∧ _ ∧ _ ∧ _ from ⟨x0, x1, x2, x3, x4, x5, x6, x7, x8, x9, x10, x11, HB4.out.drew⟩) (fun hHeld => ?_))
        ((first | (refine tkI 0 ?_ (hy := ?_) (h := ?_); rotate_left 1; · (intro w hSw; (try dsimp only at hSw); go_simp; (try with_reducible rfl))) | (refine tkN 0 (h := ?_))); (try simp only [Act.put, List.setIfInBounds_toArray, List.set_cons_zero, List.set_cons_succ]))
        ((first | (refine tkI 1 ?_ (hy := ?_) (h := ?_); rotate_left 1; · (intro w hSw; (try dsimp only at hSw); go_simp; (try with_reducible rfl))) | (refine tkN 1 (h := ?_))); (try simp only [Act.put, List.setIfInBounds_toArray, List.set_cons_zero, List.set_cons_succ]))
        ((first | (refine tkI 2 ?_ (hy := ?_) (h := ?_); rotate_left 1; · (intro w hSw; (try dsimp only at hSw); go_simp; (try with_reducible rfl))) | (refine tkN 2 (h := ?_))); (try simp only [Act.put, List.setIfInBounds_toArray, List.set_cons_zero, List.set_cons_succ]))
        ((first | (refine tkI 3 ?_ (hy := ?_) (h := ?_); rotate_left 1; · (intro w hSw; (try dsimp only at hSw); go_simp; (try with_reducible rfl))) | (refine tkN 3 (h := ?_))); (try simp only [Act.put, List.setIfInBounds_toArray, List.set_cons_zero, List.set_cons_succ]))
        (refine wpAnyH_ready (rs := [4]) (by kernel_rfl) (by simp) ?_; refine AllReadyH.cons (by simp only [List.getElem?_toArray, List.getElem?_cons_succ, List.getElem?_cons_zero]; rfl) (fun K hK => ?_) AllReadyH.nil; go_simp; go_at_call 69; refine (HRM.out _).mono ?_; rintro e w' ⟨rfl, hb4⟩; refine hK.out _ _ (⟨cell_later hb4 hHeld.1, cell_later hb4 hHeld.2.1, cell_later hb4 hHeld.2.2.1, cell_later hb4 hHeld.2.2.2.1, cell_later hb4 hHeld.2.2.2.2.1, cell_later hb4 hHeld.2.2.2.2.2.1, cell_later hb4 hHeld.2.2.2.2.2.2.1, cell_later hb4 hHeld.2.2.2.2.2.2.2.1, cell_later hb4 hHeld.2.2.2.2.2.2.2.2.1, cell_later hb4 hHeld.2.2.2.2.2.2.2.2.2.1, cell_later hb4 hHeld.2.2.2.2.2.2.2.2.2.2.1, cell_later hb4 hHeld.2.2.2.2.2.2.2.2.2.2.2.1, hHeld.2.2.2.2.2.2.2.2.2.2.2.2.trans (hb4.mono hHeld.2.2.2.2.2.2.2.2.2.2.2.2.size)⟩) (fun hHeld => ?_); clear hK K; (try simp only [Act.put, List.setIfInBounds_toArray, List.set_cons_zero, List.set_cons_succ]))
        ((first | (refine tkI 5 ?_ (hy := ?_) (h := ?_); rotate_left 1; · (intro w hSw; (try dsimp only at hSw); go_simp; (try with_reducible rfl))) | (refine tkN 5 (h := ?_))); (try simp only [Act.put, List.setIfInBounds_toArray, List.set_cons_zero, List.set_cons_succ]))
        ((first | (refine tkI 6 ?_ (hy := ?_) (h := ?_); rotate_left 1; · (intro w hSw; (try dsimp only at hSw); go_simp; (try with_reducible rfl))) | (refine tkN 6 (h := ?_))); (try simp only [Act.put, List.setIfInBounds_toArray, List.set_cons_zero, List.set_cons_succ]))
        ((first | (refine tkI 7 ?_ (hy := ?_) (h := ?_); rotate_left 1; · (intro w hSw; (try dsimp only at hSw); go_simp; (try with_reducible rfl))) | (refine tkN 7 (h := ?_))); (try simp only [Act.put, List.setIfInBounds_toArray, List.set_cons_zero, List.set_cons_succ]))
        ((first | (refine tkI 8 ?_ (hy := ?_) (h := ?_); rotate_left 1; · (intro w hSw; (try dsimp only at hSw); go_simp; (try with_reducible rfl))) | (refine tkN 8 (h := ?_))); (try simp only [Act.put, List.setIfInBounds_toArray, List.set_cons_zero, List.set_cons_succ]))
        ((first | (refine tkI 9 ?_ (hy := ?_) (h := ?_); rotate_left 1; · (intro w hSw; (try dsimp only at hSw); go_simp; (try with_reducible rfl))) | (refine tkN 9 (h := ?_))); (try simp only [Act.put, List.setIfInBounds_toArray, List.set_cons_zero, List.set_cons_succ]))
        ((first | (refine tkI 10 ?_ (hy := ?_) (h := ?_); rotate_left 1; · (intro w hSw; (try dsimp only at hSw); go_simp; (try with_reducible rfl))) | (refine tkN 10 (h := ?_))); (try simp only [Act.put, List.setIfInBounds_toArray, List.set_cons_zero, List.set_cons_succ]))
        ((first | (refine tkI 11 ?_ (hy := ?_) (h := ?_); rotate_left 1; · (intro w hSw; (try dsimp only at hSw); go_simp; (try with_reducible rfl))) | (refine tkN 11 (h := ?_))); (try simp only [Act.put, List.setIfInBounds_toArray, List.set_cons_zero, List.set_cons_succ]))
        (refine wpAnyH_done (by kernel_rfl) ?_ _)
        have HB5 := Lib.hid hHeld.2.2.2.2.2.2.2.2.2.2.2.2
        clear hHeld
        go_wp2_with fail
        go_ret
        exact ⟨ret_i64 HRR.out, HB5.out⟩
      have hd := decide_eq_false hro
      have hR := HR.out
      rw [if_neg (fun h => hro ((Zn.room_lt z).2 h))] at hR
      clear hro
      by_cases h11 : (11 : Int) < (z.sec.size : Int)
      · have hd2 := decide_eq_true h11
        rw [if_pos h11] at hR
        have HRR := Lib.hid hR
        clear hR HR h11
        go_upto_region 16 with fail
        (refine wp_region_held_drew (S := (fun W => W.cell? ⟨w.heap.size, 0, none⟩ = some (.int .i64 z.fmt) ∧ W.cell? ⟨w.heap.size, 1, none⟩ = some (.string z.kind) ∧ W.cell? ⟨w.heap.size, 2, none⟩ = some (.string z.state) ∧ W.cell? ⟨w.heap.size, 3, none⟩ = some (.string z.sur) ∧ W.cell? ⟨w.heap.size, 4, none⟩ = some (.string z.giv) ∧ W.cell? ⟨w.heap.size, 5, none⟩ = some (.string z.num) ∧ W.cell? ⟨w.heap.size, 6, none⟩ = some (.string z.nat) ∧ W.cell? ⟨w.heap.size, 7, none⟩ = some (.string z.birth) ∧ W.cell? ⟨w.heap.size, 8, none⟩ = some (.string z.sex) ∧ W.cell? ⟨w.heap.size, 9, none⟩ = some (.string z.exp) ∧ W.cell? ⟨w.heap.size, 10, none⟩ = some (.string z.opt) ∧ W.cell? ⟨w.heap.size, 11, none⟩ = some (.string z.sec) ∧ Below w.heap.size w W)) (by kernel_rfl) (show _ ∧ _ ∧ _ ∧ _ ∧ _ ∧ _ ∧ _ ∧ _ ∧ _ ∧ _ ∧ _ ∧ _ ∧ _ from ⟨x0, x1, x2, x3, x4, x5, x6, x7, x8, x9, x10, x11, HB4.out.drew⟩) (fun hHeld => ?_))
        ((first | (refine tkI 0 ?_ (hy := ?_) (h := ?_); rotate_left 1; · (intro w hSw; (try dsimp only at hSw); go_simp; (try with_reducible rfl))) | (refine tkN 0 (h := ?_))); (try simp only [Act.put, List.setIfInBounds_toArray, List.set_cons_zero, List.set_cons_succ]))
        ((first | (refine tkI 1 ?_ (hy := ?_) (h := ?_); rotate_left 1; · (intro w hSw; (try dsimp only at hSw); go_simp; (try with_reducible rfl))) | (refine tkN 1 (h := ?_))); (try simp only [Act.put, List.setIfInBounds_toArray, List.set_cons_zero, List.set_cons_succ]))
        ((first | (refine tkI 2 ?_ (hy := ?_) (h := ?_); rotate_left 1; · (intro w hSw; (try dsimp only at hSw); go_simp; (try with_reducible rfl))) | (refine tkN 2 (h := ?_))); (try simp only [Act.put, List.setIfInBounds_toArray, List.set_cons_zero, List.set_cons_succ]))
        ((first | (refine tkI 3 ?_ (hy := ?_) (h := ?_); rotate_left 1; · (intro w hSw; (try dsimp only at hSw); go_simp; (try with_reducible rfl))) | (refine tkN 3 (h := ?_))); (try simp only [Act.put, List.setIfInBounds_toArray, List.set_cons_zero, List.set_cons_succ]))
        (refine wpAnyH_ready (rs := [4]) (by kernel_rfl) (by simp) ?_; refine AllReadyH.cons (by simp only [List.getElem?_toArray, List.getElem?_cons_succ, List.getElem?_cons_zero]; rfl) (fun K hK => ?_) AllReadyH.nil; go_simp; go_at_call 69; refine (HRM.out _).mono ?_; rintro e w' ⟨rfl, hb4⟩; refine hK.out _ _ (⟨cell_later hb4 hHeld.1, cell_later hb4 hHeld.2.1, cell_later hb4 hHeld.2.2.1, cell_later hb4 hHeld.2.2.2.1, cell_later hb4 hHeld.2.2.2.2.1, cell_later hb4 hHeld.2.2.2.2.2.1, cell_later hb4 hHeld.2.2.2.2.2.2.1, cell_later hb4 hHeld.2.2.2.2.2.2.2.1, cell_later hb4 hHeld.2.2.2.2.2.2.2.2.1, cell_later hb4 hHeld.2.2.2.2.2.2.2.2.2.1, cell_later hb4 hHeld.2.2.2.2.2.2.2.2.2.2.1, cell_later hb4 hHeld.2.2.2.2.2.2.2.2.2.2.2.1, hHeld.2.2.2.2.2.2.2.2.2.2.2.2.trans (hb4.mono hHeld.2.2.2.2.2.2.2.2.2.2.2.2.size)⟩) (fun hHeld => ?_); clear hK K; (try simp only [Act.put, List.setIfInBounds_toArray, List.set_cons_zero, List.set_cons_succ]))
        ((first | (refine tkI 5 ?_ (hy := ?_) (h := ?_); rotate_left 1; · (intro w hSw; (try dsimp only at hSw); go_simp; (try with_reducible rfl))) | (refine tkN 5 (h := ?_))); (try simp only [Act.put, List.setIfInBounds_toArray, List.set_cons_zero, List.set_cons_succ]))
        ((first | (refine tkI 6 ?_ (hy := ?_) (h := ?_); rotate_left 1; · (intro w hSw; (try dsimp only at hSw); go_simp; (try with_reducible rfl))) | (refine tkN 6 (h := ?_))); (try simp only [Act.put, List.setIfInBounds_toArray, List.set_cons_zero, List.set_cons_succ]))
        ((first | (refine tkI 7 ?_ (hy := ?_) (h := ?_); rotate_left 1; · (intro w hSw; (try dsimp only at hSw); go_simp; (try with_reducible rfl))) | (refine tkN 7 (h := ?_))); (try simp only [Act.put, List.setIfInBounds_toArray, List.set_cons_zero, List.set_cons_succ]))
        ((first | (refine tkI 8 ?_ (hy := ?_) (h := ?_); rotate_left 1; · (intro w hSw; (try dsimp only at hSw); go_simp; (try with_reducible rfl))) | (refine tkN 8 (h := ?_))); (try simp only [Act.put, List.setIfInBounds_toArray, List.set_cons_zero, List.set_cons_succ]))
        ((first | (refine tkI 9 ?_ (hy := ?_) (h := ?_); rotate_left 1; · (intro w hSw; (try dsimp only at hSw); go_simp; (try with_reducible rfl))) | (refine tkN 9 (h := ?_))); (try simp only [Act.put, List.setIfInBounds_toArray, List.set_cons_zero, List.set_cons_succ]))
        ((first | (refine tkI 10 ?_ (hy := ?_) (h := ?_); rotate_left 1; · (intro w hSw; (try dsimp only at hSw); go_simp; (try with_reducible rfl))) | (refine tkN 10 (h := ?_))); (try simp only [Act.put, List.setIfInBounds_toArray, List.set_cons_zero, List.set_cons_succ]))
        ((first | (refine tkI 11 ?_ (hy := ?_) (h := ?_); rotate_left 1; · (intro w hSw; (try dsimp only at hSw); go_simp; (try with_reducible rfl))) | (refine tkN 11 (h := ?_))); (try simp only [Act.put, List.setIfInBounds_toArray, List.set_cons_zero, List.set_cons_succ]))
        (refine wpAnyH_done (by kernel_rfl) ?_ _)
        have HB5 := Lib.hid hHeld.2.2.2.2.2.2.2.2.2.2.2.2
        clear hHeld
        go_wp2_with fail
        go_ret
        exact ⟨ret_i64 HRR.out, HB5.out⟩
      · have hd2 := decide_eq_false h11
        rw [if_neg h11] at hR
        have HRR := Lib.hid hR
        clear hR HR h11
        go_upto_region 16 with fail
        (refine wp_region_held_drew (S := (fun W => W.cell? ⟨w.heap.size, 0, none⟩ = some (.int .i64 z.fmt) ∧ W.cell? ⟨w.heap.size, 1, none⟩ = some (.string z.kind) ∧ W.cell? ⟨w.heap.size, 2, none⟩ = some (.string z.state) ∧ W.cell? ⟨w.heap.size, 3, none⟩ = some (.string z.sur) ∧ W.cell? ⟨w.heap.size, 4, none⟩ = some (.string z.giv) ∧ W.cell? ⟨w.heap.size, 5, none⟩ = some (.string z.num) ∧ W.cell? ⟨w.heap.size, 6, none⟩ = some (.string z.nat) ∧ W.cell? ⟨w.heap.size, 7, none⟩ = some (.string z.birth) ∧ W.cell? ⟨w.heap.size, 8, none⟩ = some (.string z.sex) ∧ W.cell? ⟨w.heap.size, 9, none⟩ = some (.string z.exp) ∧ W.cell? ⟨w.heap.size, 10, none⟩ = some (.string z.opt) ∧ W.cell? ⟨w.heap.size, 11, none⟩ = some (.string z.sec) ∧ Below w.heap.size w W)) (by kernel_rfl) (show _ ∧ _ ∧ _ ∧ _ ∧ _ ∧ _ ∧ _ ∧ _ ∧ _ ∧ _ ∧ _ ∧ _ ∧ _ from ⟨x0, x1, x2, x3, x4, x5, x6, x7, x8, x9, x10, x11, HB4.out.drew⟩) (fun hHeld => ?_))
        ((first | (refine tkI 0 ?_ (hy := ?_) (h := ?_); rotate_left 1; · (intro w hSw; (try dsimp only at hSw); go_simp; (try with_reducible rfl))) | (refine tkN 0 (h := ?_))); (try simp only [Act.put, List.setIfInBounds_toArray, List.set_cons_zero, List.set_cons_succ]))
        ((first | (refine tkI 1 ?_ (hy := ?_) (h := ?_); rotate_left 1; · (intro w hSw; (try dsimp only at hSw); go_simp; (try with_reducible rfl))) | (refine tkN 1 (h := ?_))); (try simp only [Act.put, List.setIfInBounds_toArray, List.set_cons_zero, List.set_cons_succ]))
        ((first | (refine tkI 2 ?_ (hy := ?_) (h := ?_); rotate_left 1; · (intro w hSw; (try dsimp only at hSw); go_simp; (try with_reducible rfl))) | (refine tkN 2 (h := ?_))); (try simp only [Act.put, List.setIfInBounds_toArray, List.set_cons_zero, List.set_cons_succ]))
        ((first | (refine tkI 3 ?_ (hy := ?_) (h := ?_); rotate_left 1; · (intro w hSw; (try dsimp only at hSw); go_simp; (try with_reducible rfl))) | (refine tkN 3 (h := ?_))); (try simp only [Act.put, List.setIfInBounds_toArray, List.set_cons_zero, List.set_cons_succ]))
        (refine wpAnyH_ready (rs := [4]) (by kernel_rfl) (by simp) ?_; refine AllReadyH.cons (by simp only [List.getElem?_toArray, List.getElem?_cons_succ, List.getElem?_cons_zero]; rfl) (fun K hK => ?_) AllReadyH.nil; go_simp; go_at_call 69; refine (HRM.out _).mono ?_; rintro e w' ⟨rfl, hb4⟩; refine hK.out _ _ (⟨cell_later hb4 hHeld.1, cell_later hb4 hHeld.2.1, cell_later hb4 hHeld.2.2.1, cell_later hb4 hHeld.2.2.2.1, cell_later hb4 hHeld.2.2.2.2.1, cell_later hb4 hHeld.2.2.2.2.2.1, cell_later hb4 hHeld.2.2.2.2.2.2.1, cell_later hb4 hHeld.2.2.2.2.2.2.2.1, cell_later hb4 hHeld.2.2.2.2.2.2.2.2.1, cell_later hb4 hHeld.2.2.2.2.2.2.2.2.2.1, cell_later hb4 hHeld.2.2.2.2.2.2.2.2.2.2.1, cell_later hb4 hHeld.2.2.2.2.2.2.2.2.2.2.2.1, hHeld.2.2.2.2.2.2.2.2.2.2.2.2.trans (hb4.mono hHeld.2.2.2.2.2.2.2.2.2.2.2.2.size)⟩) (fun hHeld => ?_); clear hK K; (try simp only [Act.put, List.setIfInBounds_toArray, List.set_cons_zero, List.set_cons_succ]))
        ((first | (refine tkI 5 ?_ (hy := ?_) (h := ?_); rotate_left 1; · (intro w hSw; (try dsimp only at hSw); go_simp; (try with_reducible rfl))) | (refine tkN 5 (h := ?_))); (try simp only [Act.put, List.setIfInBounds_toArray, List.set_cons_zero, List.set_cons_succ]))
        ((first | (refine tkI 6 ?_ (hy := ?_) (h := ?_); rotate_left 1; · (intro w hSw; (try dsimp only at hSw); go_simp; (try with_reducible rfl))) | (refine tkN 6 (h := ?_))); (try simp only [Act.put, List.setIfInBounds_toArray, List.set_cons_zero, List.set_cons_succ]))
        ((first | (refine tkI 7 ?_ (hy := ?_) (h := ?_); rotate_left 1; · (intro w hSw; (try dsimp only at hSw); go_simp; (try with_reducible rfl))) | (refine tkN 7 (h := ?_))); (try simp only [Act.put, List.setIfInBounds_toArray, List.set_cons_zero, List.set_cons_succ]))
        ((first | (refine tkI 8 ?_ (hy := ?_) (h := ?_); rotate_left 1; · (intro w hSw; (try dsimp only at hSw); go_simp; (try with_reducible rfl))) | (refine tkN 8 (h := ?_))); (try simp only [Act.put, List.setIfInBounds_toArray, List.set_cons_zero, List.set_cons_succ]))
        ((first | (refine tkI 9 ?_ (hy := ?_) (h := ?_); rotate_left 1; · (intro w hSw; (try dsimp only at hSw); go_simp; (try with_reducible rfl))) | (refine tkN 9 (h := ?_))); (try simp only [Act.put, List.setIfInBounds_toArray, List.set_cons_zero, List.set_cons_succ]))
        ((first | (refine tkI 10 ?_ (hy := ?_) (h := ?_); rotate_left 1; · (intro w hSw; (try dsimp only at hSw); go_simp; (try with_reducible rfl))) | (refine tkN 10 (h := ?_))); (try simp only [Act.put, List.setIfInBounds_toArray, List.set_cons_zero, List.set_cons_succ]))
        ((first | (refine tkI 11 ?_ (hy := ?_) (h := ?_); rotate_left 1; · (intro w hSw; (try dsimp only at hSw); go_simp; (try with_reducible rfl))) | (refine tkN 11 (h := ?_))); (try simp only [Act.put, List.setIfInBounds_toArray, List.set_cons_zero, List.set_cons_succ]))
        (refine wpAnyH_done (by kernel_rfl) ?_ _)
        have HB5 := Lib.hid hHeld.2.2.2.2.2.2.2.2.2.2.2.2
        clear hHeld
        go_wp2_with fail
        go_ret
        exact ⟨ret_i64 HRR.out, HB5.out⟩
    · obtain ⟨e1, e2⟩ := (empty_is z.sec).2 h0
      by_cases h1 : z.fmt = 1
      · have e3 : (z.fmt != 1) = false := by rw [h1]; rfl
        have hR := HR.out
        rw [if_neg (fun h => h.1 h1)] at hR
        have HR := Lib.hid hR
        clear hR h0 h1
        by_cases hro : Zn.room z < (z.opt.size : Int)
        · have hd := decide_eq_true hro
          have hR := HR.out
          rw [if_pos ((Zn.room_lt z).1 hro)] at hR
          have HRR := Lib.hid hR
          clear hR HR hro
          go_upto_region 16 with fail
          (refine wp_region_held_drew (S := (fun W => W.cell? ⟨w.heap.size, 0, none⟩ = some (.int .i64 z.fmt) ∧ W.cell? ⟨w.heap.size, 1, none⟩ = some (.string z.kind) ∧ W.cell? ⟨w.heap.size, 2, none⟩ = some (.string z.state) ∧ W.cell? ⟨w.heap.size, 3, none⟩ = some (.string z.sur) ∧ W.cell? ⟨w.heap.size, 4, none⟩ = some (.string z.giv) ∧ W.cell? ⟨w.heap.size, 5, none⟩ = some (.string z.num) ∧ W.cell? ⟨w.heap.size, 6, none⟩ = some (.string z.nat) ∧ W.cell? ⟨w.heap.size, 7, none⟩ = some (.string z.birth) ∧ W.cell? ⟨w.heap.size, 8, none⟩ = some (.string z.sex) ∧ W.cell? ⟨w.heap.size, 9, none⟩ = some (.string z.exp) ∧ W.cell? ⟨w.heap.size, 10, none⟩ = some (.string z.opt) ∧ W.cell? ⟨w.heap.size, 11, none⟩ = some (.string z.sec) ∧ Below w.heap.size w W)) (by kernel_rfl) (show _ ∧ _ ∧ _ ∧ _ ∧ _ ∧ _ ∧ _ ∧ _ ∧ _ ∧ _ ∧ _ ∧ _ ∧ _ from ⟨x0, x1, x2, x3, x4, x5, x6, x7, x8, x9, x10, x11, HB4.out.drew⟩) (fun hHeld => ?_))
          ((first | (refine tkI 0 ?_ (hy := ?_) (h := ?_); rotate_left 1; · (intro w hSw; (try dsimp only at hSw); go_simp; (try with_reducible rfl))) | (refine tkN 0 (h := ?_))); (try simp only [Act.put, List.setIfInBounds_toArray, List.set_cons_zero, List.set_cons_succ]))
          ((first | (refine tkI 1 ?_ (hy := ?_) (h := ?_); rotate_left 1; · (intro w hSw; (try dsimp only at hSw); go_simp; (try with_reducible rfl))) | (refine tkN 1 (h := ?_))); (try simp only [Act.put, List.setIfInBounds_toArray, List.set_cons_zero, List.set_cons_succ]))
          ((first | (refine tkI 2 ?_ (hy := ?_) (h := ?_); rotate_left 1; · (intro w hSw; (try dsimp only at hSw); go_simp; (try with_reducible rfl))) | (refine tkN 2 (h := ?_))); (try simp only [Act.put, List.setIfInBounds_toArray, List.set_cons_zero, List.set_cons_succ]))
          ((first | (refine tkI 3 ?_ (hy := ?_) (h := ?_); rotate_left 1; · (intro w hSw; (try dsimp only at hSw); go_simp; (try with_reducible rfl))) | (refine tkN 3 (h := ?_))); (try simp only [Act.put, List.setIfInBounds_toArray, List.set_cons_zero, List.set_cons_succ]))
          (refine wpAnyH_ready (rs := [4]) (by kernel_rfl) (by simp) ?_; refine AllReadyH.cons (by simp only [List.getElem?_toArray, List.getElem?_cons_succ, List.getElem?_cons_zero]; rfl) (fun K hK => ?_) AllReadyH.nil; go_simp; go_at_call 69; refine (HRM.out _).mono ?_; rintro e w' ⟨rfl, hb4⟩; refine hK.out _ _ (⟨cell_later hb4 hHeld.1, cell_later hb4 hHeld.2.1, cell_later hb4 hHeld.2.2.1, cell_later hb4 hHeld.2.2.2.1, cell_later hb4 hHeld.2.2.2.2.1, cell_later hb4 hHeld.2.2.2.2.2.1, cell_later hb4 hHeld.2.2.2.2.2.2.1, cell_later hb4 hHeld.2.2.2.2.2.2.2.1, cell_later hb4 hHeld.2.2.2.2.2.2.2.2.1, cell_later hb4 hHeld.2.2.2.2.2.2.2.2.2.1, cell_later hb4 hHeld.2.2.2.2.2.2.2.2.2.2.1, cell_later hb4 hHeld.2.2.2.2.2.2.2.2.2.2.2.1, hHeld.2.2.2.2.2.2.2.2.2.2.2.2.trans (hb4.mono hHeld.2.2.2.2.2.2.2.2.2.2.2.2.size)⟩) (fun hHeld => ?_); clear hK K; (try simp only [Act.put, List.setIfInBounds_toArray, List.set_cons_zero, List.set_cons_succ]))
          ((first | (refine tkI 5 ?_ (hy := ?_) (h := ?_); rotate_left 1; · (intro w hSw; (try dsimp only at hSw); go_simp; (try with_reducible rfl))) | (refine tkN 5 (h := ?_))); (try simp only [Act.put, List.setIfInBounds_toArray, List.set_cons_zero, List.set_cons_succ]))
          ((first | (refine tkI 6 ?_ (hy := ?_) (h := ?_); rotate_left 1; · (intro w hSw; (try dsimp only at hSw); go_simp; (try with_reducible rfl))) | (refine tkN 6 (h := ?_))); (try simp only [Act.put, List.setIfInBounds_toArray, List.set_cons_zero, List.set_cons_succ]))
          ((first | (refine tkI 7 ?_ (hy := ?_) (h := ?_); rotate_left 1; · (intro w hSw; (try dsimp only at hSw); go_simp; (try with_reducible rfl))) | (refine tkN 7 (h := ?_))); (try simp only [Act.put, List.setIfInBounds_toArray, List.set_cons_zero, List.set_cons_succ]))
          ((first | (refine tkI 8 ?_ (hy := ?_) (h := ?_); rotate_left 1; · (intro w hSw; (try dsimp only at hSw); go_simp; (try with_reducible rfl))) | (refine tkN 8 (h := ?_))); (try simp only [Act.put, List.setIfInBounds_toArray, List.set_cons_zero, List.set_cons_succ]))
          ((first | (refine tkI 9 ?_ (hy := ?_) (h := ?_); rotate_left 1; · (intro w hSw; (try dsimp only at hSw); go_simp; (try with_reducible rfl))) | (refine tkN 9 (h := ?_))); (try simp only [Act.put, List.setIfInBounds_toArray, List.set_cons_zero, List.set_cons_succ]))
          ((first | (refine tkI 10 ?_ (hy := ?_) (h := ?_); rotate_left 1; · (intro w hSw; (try dsimp only at hSw); go_simp; (try with_reducible rfl))) | (refine tkN 10 (h := ?_))); (try simp only [Act.put, List.setIfInBounds_toArray, List.set_cons_zero, List.set_cons_succ]))
          ((first | (refine tkI 11 ?_ (hy := ?_) (h := ?_); rotate_left 1; · (intro w hSw; (try dsimp only at hSw); go_simp; (try with_reducible rfl))) | (refine tkN 11 (h := ?_))); (try simp only [Act.put, List.setIfInBounds_toArray, List.set_cons_zero, List.set_cons_succ]))
          (refine wpAnyH_done (by kernel_rfl) ?_ _)
          have HB5 := Lib.hid hHeld.2.2.2.2.2.2.2.2.2.2.2.2
          clear hHeld
          go_wp2_with fail
          go_ret
          exact ⟨ret_i64 HRR.out, HB5.out⟩
        have hd := decide_eq_false hro
        have hR := HR.out
        rw [if_neg (fun h => hro ((Zn.room_lt z).2 h))] at hR
        clear hro
        by_cases h11 : (11 : Int) < (z.sec.size : Int)
        · have hd2 := decide_eq_true h11
          rw [if_pos h11] at hR
          have HRR := Lib.hid hR
          clear hR HR h11
          go_upto_region 16 with fail
          (refine wp_region_held_drew (S := (fun W => W.cell? ⟨w.heap.size, 0, none⟩ = some (.int .i64 z.fmt) ∧ W.cell? ⟨w.heap.size, 1, none⟩ = some (.string z.kind) ∧ W.cell? ⟨w.heap.size, 2, none⟩ = some (.string z.state) ∧ W.cell? ⟨w.heap.size, 3, none⟩ = some (.string z.sur) ∧ W.cell? ⟨w.heap.size, 4, none⟩ = some (.string z.giv) ∧ W.cell? ⟨w.heap.size, 5, none⟩ = some (.string z.num) ∧ W.cell? ⟨w.heap.size, 6, none⟩ = some (.string z.nat) ∧ W.cell? ⟨w.heap.size, 7, none⟩ = some (.string z.birth) ∧ W.cell? ⟨w.heap.size, 8, none⟩ = some (.string z.sex) ∧ W.cell? ⟨w.heap.size, 9, none⟩ = some (.string z.exp) ∧ W.cell? ⟨w.heap.size, 10, none⟩ = some (.string z.opt) ∧ W.cell? ⟨w.heap.size, 11, none⟩ = some (.string z.sec) ∧ Below w.heap.size w W)) (by kernel_rfl) (show _ ∧ _ ∧ _ ∧ _ ∧ _ ∧ _ ∧ _ ∧ _ ∧ _ ∧ _ ∧ _ ∧ _ ∧ _ from ⟨x0, x1, x2, x3, x4, x5, x6, x7, x8, x9, x10, x11, HB4.out.drew⟩) (fun hHeld => ?_))
          ((first | (refine tkI 0 ?_ (hy := ?_) (h := ?_); rotate_left 1; · (intro w hSw; (try dsimp only at hSw); go_simp; (try with_reducible rfl))) | (refine tkN 0 (h := ?_))); (try simp only [Act.put, List.setIfInBounds_toArray, List.set_cons_zero, List.set_cons_succ]))
          ((first | (refine tkI 1 ?_ (hy := ?_) (h := ?_); rotate_left 1; · (intro w hSw; (try dsimp only at hSw); go_simp; (try with_reducible rfl))) | (refine tkN 1 (h := ?_))); (try simp only [Act.put, List.setIfInBounds_toArray, List.set_cons_zero, List.set_cons_succ]))
          ((first | (refine tkI 2 ?_ (hy := ?_) (h := ?_); rotate_left 1; · (intro w hSw; (try dsimp only at hSw); go_simp; (try with_reducible rfl))) | (refine tkN 2 (h := ?_))); (try simp only [Act.put, List.setIfInBounds_toArray, List.set_cons_zero, List.set_cons_succ]))
          ((first | (refine tkI 3 ?_ (hy := ?_) (h := ?_); rotate_left 1; · (intro w hSw; (try dsimp only at hSw); go_simp; (try with_reducible rfl))) | (refine tkN 3 (h := ?_))); (try simp only [Act.put, List.setIfInBounds_toArray, List.set_cons_zero, List.set_cons_succ]))
          (refine wpAnyH_ready (rs := [4]) (by kernel_rfl) (by simp) ?_; refine AllReadyH.cons (by simp only [List.getElem?_toArray, List.getElem?_cons_succ, List.getElem?_cons_zero]; rfl) (fun K hK => ?_) AllReadyH.nil; go_simp; go_at_call 69; refine (HRM.out _).mono ?_; rintro e w' ⟨rfl, hb4⟩; refine hK.out _ _ (⟨cell_later hb4 hHeld.1, cell_later hb4 hHeld.2.1, cell_later hb4 hHeld.2.2.1, cell_later hb4 hHeld.2.2.2.1, cell_later hb4 hHeld.2.2.2.2.1, cell_later hb4 hHeld.2.2.2.2.2.1, cell_later hb4 hHeld.2.2.2.2.2.2.1, cell_later hb4 hHeld.2.2.2.2.2.2.2.1, cell_later hb4 hHeld.2.2.2.2.2.2.2.2.1, cell_later hb4 hHeld.2.2.2.2.2.2.2.2.2.1, cell_later hb4 hHeld.2.2.2.2.2.2.2.2.2.2.1, cell_later hb4 hHeld.2.2.2.2.2.2.2.2.2.2.2.1, hHeld.2.2.2.2.2.2.2.2.2.2.2.2.trans (hb4.mono hHeld.2.2.2.2.2.2.2.2.2.2.2.2.size)⟩) (fun hHeld => ?_); clear hK K; (try simp only [Act.put, List.setIfInBounds_toArray, List.set_cons_zero, List.set_cons_succ]))
          ((first | (refine tkI 5 ?_ (hy := ?_) (h := ?_); rotate_left 1; · (intro w hSw; (try dsimp only at hSw); go_simp; (try with_reducible rfl))) | (refine tkN 5 (h := ?_))); (try simp only [Act.put, List.setIfInBounds_toArray, List.set_cons_zero, List.set_cons_succ]))
          ((first | (refine tkI 6 ?_ (hy := ?_) (h := ?_); rotate_left 1; · (intro w hSw; (try dsimp only at hSw); go_simp; (try with_reducible rfl))) | (refine tkN 6 (h := ?_))); (try simp only [Act.put, List.setIfInBounds_toArray, List.set_cons_zero, List.set_cons_succ]))
          ((first | (refine tkI 7 ?_ (hy := ?_) (h := ?_); rotate_left 1; · (intro w hSw; (try dsimp only at hSw); go_simp; (try with_reducible rfl))) | (refine tkN 7 (h := ?_))); (try simp only [Act.put, List.setIfInBounds_toArray, List.set_cons_zero, List.set_cons_succ]))
          ((first | (refine tkI 8 ?_ (hy := ?_) (h := ?_); rotate_left 1; · (intro w hSw; (try dsimp only at hSw); go_simp; (try with_reducible rfl))) | (refine tkN 8 (h := ?_))); (try simp only [Act.put, List.setIfInBounds_toArray, List.set_cons_zero, List.set_cons_succ]))
          ((first | (refine tkI 9 ?_ (hy := ?_) (h := ?_); rotate_left 1; · (intro w hSw; (try dsimp only at hSw); go_simp; (try with_reducible rfl))) | (refine tkN 9 (h := ?_))); (try simp only [Act.put, List.setIfInBounds_toArray, List.set_cons_zero, List.set_cons_succ]))
          ((first | (refine tkI 10 ?_ (hy := ?_) (h := ?_); rotate_left 1; · (intro w hSw; (try dsimp only at hSw); go_simp; (try with_reducible rfl))) | (refine tkN 10 (h := ?_))); (try simp only [Act.put, List.setIfInBounds_toArray, List.set_cons_zero, List.set_cons_succ]))
          ((first | (refine tkI 11 ?_ (hy := ?_) (h := ?_); rotate_left 1; · (intro w hSw; (try dsimp only at hSw); go_simp; (try with_reducible rfl))) | (refine tkN 11 (h := ?_))); (try simp only [Act.put, List.setIfInBounds_toArray, List.set_cons_zero, List.set_cons_succ]))
          (refine wpAnyH_done (by kernel_rfl) ?_ _)
          have HB5 := Lib.hid hHeld.2.2.2.2.2.2.2.2.2.2.2.2
          clear hHeld
          go_wp2_with fail
          go_ret
          exact ⟨ret_i64 HRR.out, HB5.out⟩
        · have hd2 := decide_eq_false h11
          rw [if_neg h11] at hR
          have HRR := Lib.hid hR
          clear hR HR h11
          go_upto_region 16 with fail
          (refine wp_region_held_drew (S := (fun W => W.cell? ⟨w.heap.size, 0, none⟩ = some (.int .i64 z.fmt) ∧ W.cell? ⟨w.heap.size, 1, none⟩ = some (.string z.kind) ∧ W.cell? ⟨w.heap.size, 2, none⟩ = some (.string z.state) ∧ W.cell? ⟨w.heap.size, 3, none⟩ = some (.string z.sur) ∧ W.cell? ⟨w.heap.size, 4, none⟩ = some (.string z.giv) ∧ W.cell? ⟨w.heap.size, 5, none⟩ = some (.string z.num) ∧ W.cell? ⟨w.heap.size, 6, none⟩ = some (.string z.nat) ∧ W.cell? ⟨w.heap.size, 7, none⟩ = some (.string z.birth) ∧ W.cell? ⟨w.heap.size, 8, none⟩ = some (.string z.sex) ∧ W.cell? ⟨w.heap.size, 9, none⟩ = some (.string z.exp) ∧ W.cell? ⟨w.heap.size, 10, none⟩ = some (.string z.opt) ∧ W.cell? ⟨w.heap.size, 11, none⟩ = some (.string z.sec) ∧ Below w.heap.size w W)) (by kernel_rfl) (show _ ∧ _ ∧ _ ∧ _ ∧ _ ∧ _ ∧ _ ∧ _ ∧ _ ∧ _ ∧ _ ∧ _ ∧ _ from ⟨x0, x1, x2, x3, x4, x5, x6, x7, x8, x9, x10, x11, HB4.out.drew⟩) (fun hHeld => ?_))
          ((first | (refine tkI 0 ?_ (hy := ?_) (h := ?_); rotate_left 1; · (intro w hSw; (try dsimp only at hSw); go_simp; (try with_reducible rfl))) | (refine tkN 0 (h := ?_))); (try simp only [Act.put, List.setIfInBounds_toArray, List.set_cons_zero, List.set_cons_succ]))
          ((first | (refine tkI 1 ?_ (hy := ?_) (h := ?_); rotate_left 1; · (intro w hSw; (try dsimp only at hSw); go_simp; (try with_reducible rfl))) | (refine tkN 1 (h := ?_))); (try simp only [Act.put, List.setIfInBounds_toArray, List.set_cons_zero, List.set_cons_succ]))
          ((first | (refine tkI 2 ?_ (hy := ?_) (h := ?_); rotate_left 1; · (intro w hSw; (try dsimp only at hSw); go_simp; (try with_reducible rfl))) | (refine tkN 2 (h := ?_))); (try simp only [Act.put, List.setIfInBounds_toArray, List.set_cons_zero, List.set_cons_succ]))
          ((first | (refine tkI 3 ?_ (hy := ?_) (h := ?_); rotate_left 1; · (intro w hSw; (try dsimp only at hSw); go_simp; (try with_reducible rfl))) | (refine tkN 3 (h := ?_))); (try simp only [Act.put, List.setIfInBounds_toArray, List.set_cons_zero, List.set_cons_succ]))
          (refine wpAnyH_ready (rs := [4]) (by kernel_rfl) (by simp) ?_; refine AllReadyH.cons (by simp only [List.getElem?_toArray, List.getElem?_cons_succ, List.getElem?_cons_zero]; rfl) (fun K hK => ?_) AllReadyH.nil; go_simp; go_at_call 69; refine (HRM.out _).mono ?_; rintro e w' ⟨rfl, hb4⟩; refine hK.out _ _ (⟨cell_later hb4 hHeld.1, cell_later hb4 hHeld.2.1, cell_later hb4 hHeld.2.2.1, cell_later hb4 hHeld.2.2.2.1, cell_later hb4 hHeld.2.2.2.2.1, cell_later hb4 hHeld.2.2.2.2.2.1, cell_later hb4 hHeld.2.2.2.2.2.2.1, cell_later hb4 hHeld.2.2.2.2.2.2.2.1, cell_later hb4 hHeld.2.2.2.2.2.2.2.2.1, cell_later hb4 hHeld.2.2.2.2.2.2.2.2.2.1, cell_later hb4 hHeld.2.2.2.2.2.2.2.2.2.2.1, cell_later hb4 hHeld.2.2.2.2.2.2.2.2.2.2.2.1, hHeld.2.2.2.2.2.2.2.2.2.2.2.2.trans (hb4.mono hHeld.2.2.2.2.2.2.2.2.2.2.2.2.size)⟩) (fun hHeld => ?_); clear hK K; (try simp only [Act.put, List.setIfInBounds_toArray, List.set_cons_zero, List.set_cons_succ]))
          ((first | (refine tkI 5 ?_ (hy := ?_) (h := ?_); rotate_left 1; · (intro w hSw; (try dsimp only at hSw); go_simp; (try with_reducible rfl))) | (refine tkN 5 (h := ?_))); (try simp only [Act.put, List.setIfInBounds_toArray, List.set_cons_zero, List.set_cons_succ]))
          ((first | (refine tkI 6 ?_ (hy := ?_) (h := ?_); rotate_left 1; · (intro w hSw; (try dsimp only at hSw); go_simp; (try with_reducible rfl))) | (refine tkN 6 (h := ?_))); (try simp only [Act.put, List.setIfInBounds_toArray, List.set_cons_zero, List.set_cons_succ]))
          ((first | (refine tkI 7 ?_ (hy := ?_) (h := ?_); rotate_left 1; · (intro w hSw; (try dsimp only at hSw); go_simp; (try with_reducible rfl))) | (refine tkN 7 (h := ?_))); (try simp only [Act.put, List.setIfInBounds_toArray, List.set_cons_zero, List.set_cons_succ]))
          ((first | (refine tkI 8 ?_ (hy := ?_) (h := ?_); rotate_left 1; · (intro w hSw; (try dsimp only at hSw); go_simp; (try with_reducible rfl))) | (refine tkN 8 (h := ?_))); (try simp only [Act.put, List.setIfInBounds_toArray, List.set_cons_zero, List.set_cons_succ]))
          ((first | (refine tkI 9 ?_ (hy := ?_) (h := ?_); rotate_left 1; · (intro w hSw; (try dsimp only at hSw); go_simp; (try with_reducible rfl))) | (refine tkN 9 (h := ?_))); (try simp only [Act.put, List.setIfInBounds_toArray, List.set_cons_zero, List.set_cons_succ]))
          ((first | (refine tkI 10 ?_ (hy := ?_) (h := ?_); rotate_left 1; · (intro w hSw; (try dsimp only at hSw); go_simp; (try with_reducible rfl))) | (refine tkN 10 (h := ?_))); (try simp only [Act.put, List.setIfInBounds_toArray, List.set_cons_zero, List.set_cons_succ]))
          ((first | (refine tkI 11 ?_ (hy := ?_) (h := ?_); rotate_left 1; · (intro w hSw; (try dsimp only at hSw); go_simp; (try with_reducible rfl))) | (refine tkN 11 (h := ?_))); (try simp only [Act.put, List.setIfInBounds_toArray, List.set_cons_zero, List.set_cons_succ]))
          (refine wpAnyH_done (by kernel_rfl) ?_ _)
          have HB5 := Lib.hid hHeld.2.2.2.2.2.2.2.2.2.2.2.2
          clear hHeld
          go_wp2_with fail
          go_ret
          exact ⟨ret_i64 HRR.out, HB5.out⟩
      · have e3 : (z.fmt != 1) = true := by rw [bne_iff_ne]; exact h1
        have hR := HR.out
        rw [if_pos ⟨h1, h0⟩] at hR
        have HRR := Lib.hid hR
        clear hR HR h0 h1
        go_wp2_with fail
        go_ret
        exact ⟨ret_i64 HRR.out, HB4.out⟩
end Go.Proofs.YtelngghecmkipaaGreatDoor
