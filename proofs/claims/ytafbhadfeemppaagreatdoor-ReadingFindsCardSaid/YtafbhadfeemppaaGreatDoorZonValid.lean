/- Chapter 11: the walk of Valid of the program. -/
import Derived.Test.YtafbhadfeemppaaGreatDoorZonRValid
import Derived.Test.YtafbhadfeemppaaGreatDoorZonBorn
import Derived.Test.YtafbhadfeemppaaGreatDoorZonAny
import Derived.Test.YtafbhadfeemppaaGreatDoorRdGD
namespace Go.Proofs.YtafbhadfeemppaaGreatDoor
open Go.RowKit

theorem LayAt.lt {w : World} {g : Nat} {L : Array Value} (h : LayAt w g L) : g < w.heap.size := (Array.getElem?_eq_some_iff.1 h).1
theorem LayAt.later {w w' : World} {g : Nat} {L : Array Value} (h : LayAt w g L) (hb : Below w.heap.size w w') : LayAt w' g L := (hb.block g h.lt).trans h
/-- A zone in a block, its places in another. -/
def ZV (w : World) (z : Zn.Z) (M : Array Value) (g : Nat) (W : World) : Prop := ZBox W w.heap.size z ∧ LayAt W g M ∧ Below w.heap.size w W
theorem ZV.later {w W W' : World} {z : Zn.Z} {M : Array Value} {g : Nat} (h : ZV w z M g W) (hb : Below W.heap.size W W') : ZV w z M g W' :=
  ⟨h.1.later hb, h.2.1.later hb, h.2.2.trans (hb.mono h.2.2.size)⟩
theorem ZV.drewN {w W : World} {z : Zn.Z} {M : Array Value} {g : Nat} (h : ZV w z M g W) (n : Nat) : ZV w z M g (W.drewN n) := ⟨h.1.drewN n, h.2.1, below_drewN h.2.2 n⟩
theorem plain_two (s : ByteArray) (c : Bool) (h : decide (0 ≤ Lib.indexByte s.data.toList 60) = c) : Zn.plain s = (Opt.valid s.data.toList && !c) := by rw [plain_is, h]
theorem Zn.Z.fits.max {z : Zn.Z} (h : z.fits 140737488355328) : z.fits maxLen := by
  have e : (140737488355328 : Nat) ≤ maxLen := by unfold maxLen; omega
  obtain ⟨a, b, c, d, e1, f, g, h1, i, j, k⟩ := h
  exact ⟨Nat.le_trans a e, Nat.le_trans b e, Nat.le_trans c e, Nat.le_trans d e, Nat.le_trans e1 e, Nat.le_trans f e, Nat.le_trans g e, Nat.le_trans h1 e, Nat.le_trans i e, Nat.le_trans j e, Nat.le_trans k e⟩
theorem size_setRow (w : World) (g : Nat) (M : Array Value) : (w.setRow g M).heap.size = w.heap.size := by unfold World.setRow; simp
/-- The places of a layout, stored into a new block. -/
theorem zv_new {w w1 w2 : World} {z : Zn.Z} (M : Array Value) (hM : M.size = 45) (h1 : M.all (·.oneCell') = true) (hx : ZBox w1 w.heap.size z) (hb1 : Below w.heap.size w w1) (hb2 : Below w1.heap.size w1 w2) :
    ∃ w3, Sem.run Tryz.prog (storeCells ⟨w2.heap.size, 0, none⟩ M.toList) (w2.alloc (.cells #[.int .i64 0, .int .i64 0, .int .i64 0, .int .i64 0, .int .i64 0, .int .i64 0, .int .i64 0, .int .i64 0, .int .i64 0, .int .i64 0, .int .i64 0, .int .i64 0, .int .i64 0, .int .i64 0, .int .i64 0, .int .i64 0, .int .i64 0, .int .i64 0, .int .i64 0, .int .i64 0, .int .i64 0, .int .i64 0, .int .i64 0, .int .i64 0, .int .i64 0, .int .i64 0, .int .i64 0, .int .i64 0, .int .i64 0, .int .i64 0, .int .i64 0, .int .i64 0, .int .i64 0, .int .i64 0, .int .i64 0, .int .i64 0, .int .i64 0, .int .i64 0, .int .i64 0, .int .i64 0, .int .i64 0, .int .i64 0, .int .i64 0, .int .i64 0, .int .i64 0] 82)) = .ok () w3 ∧ ZV w z M w2.heap.size w3 := by
  have hl : LayAt (w2.alloc (.cells #[.int .i64 0, .int .i64 0, .int .i64 0, .int .i64 0, .int .i64 0, .int .i64 0, .int .i64 0, .int .i64 0, .int .i64 0, .int .i64 0, .int .i64 0, .int .i64 0, .int .i64 0, .int .i64 0, .int .i64 0, .int .i64 0, .int .i64 0, .int .i64 0, .int .i64 0, .int .i64 0, .int .i64 0, .int .i64 0, .int .i64 0, .int .i64 0, .int .i64 0, .int .i64 0, .int .i64 0, .int .i64 0, .int .i64 0, .int .i64 0, .int .i64 0, .int .i64 0, .int .i64 0, .int .i64 0, .int .i64 0, .int .i64 0, .int .i64 0, .int .i64 0, .int .i64 0, .int .i64 0, .int .i64 0, .int .i64 0, .int .i64 0, .int .i64 0, .int .i64 0] 82)) w2.heap.size Zn.lay0 := heap_alloc_new w2 _
  have hb3 := below_alloc1 w2 (.cells #[.int .i64 0, .int .i64 0, .int .i64 0, .int .i64 0, .int .i64 0, .int .i64 0, .int .i64 0, .int .i64 0, .int .i64 0, .int .i64 0, .int .i64 0, .int .i64 0, .int .i64 0, .int .i64 0, .int .i64 0, .int .i64 0, .int .i64 0, .int .i64 0, .int .i64 0, .int .i64 0, .int .i64 0, .int .i64 0, .int .i64 0, .int .i64 0, .int .i64 0, .int .i64 0, .int .i64 0, .int .i64 0, .int .i64 0, .int .i64 0, .int .i64 0, .int .i64 0, .int .i64 0, .int .i64 0, .int .i64 0, .int .i64 0, .int .i64 0, .int .i64 0, .int .i64 0, .int .i64 0, .int .i64 0, .int .i64 0, .int .i64 0, .int .i64 0, .int .i64 0] 82)
  have hst := store_lay _ w2.heap.size Zn.lay0 M hl (by rw [hM]; rfl) h1
  have hle : w.heap.size ≤ w2.heap.size := Nat.le_trans hb1.size hb2.size
  have hlt : w.heap.size < w2.heap.size := Nat.lt_of_lt_of_le hx.lt hb2.size
  refine ⟨_, hst, ?_, hl.set M, below_setRow2 ((hb1.trans (hb2.mono hb1.size)).trans (hb3.mono hle)) hle⟩
  have h4 := (hx.later hb2).later hb3
  unfold ZBox World.setRow at *
  rw [Array.getElem?_modify, if_neg (by omega)]
  exact h4

set_option maxRecDepth 100000 in
set_option maxHeartbeats 16000000 in
theorem zvalidZ (z : Zn.Z) (w : World) (hz : z.fits 140737488355328) (hw : Dat.At w) :
    Calls Tryz.prog 59 #[z.val] w fun e w' => e = .returned (.int .i64 (Zn.vldE z)) ∧ Below w.heap.size w w' := by
  have fz10' : (z.opt.size : Int) ≤ 140737488355328 := by have := hz.2.2.2.2.2.2.2.2.2.1; omega
  have fz5' : (z.num.size : Int) ≤ 140737488355328 := by have := hz.2.2.2.2.1; omega
  obtain ⟨fz1, fz2, fz3, fz4, fz5, fz6, fz7, fz8, fz9, fz10, fz11⟩ := hz.max
  obtain ⟨R, hR⟩ : ∃ R, Zn.vldE z = R := ⟨_, rfl⟩
  rw [hR]
  unfold Zn.vldE at hR
  have HK := Lib.hid (fun W => zletters z.kind 2 W fz1)
  have HS := Lib.hid (fun W => zletters z.state 3 W fz2)
  have HU := Lib.hid (fun W => oname z.sur W fz3)
  have HG := Lib.hid (fun W => oname z.giv W fz4)
  have HP := Lib.hid (fun W => ovalid z.num W fz5)
  have HQ := Lib.hid (fun W => Tryz.strings_Contains_one z.num 60 W)
  have HLO := Lib.hid (fun W => zlongest z.fmt W)
  have HN := Lib.hid (fun W => zletters z.nat 3 W fz6)
  have HB := Lib.hid (fun W => zborn z.birth W)
  have HE := Lib.hid (fun W hW => dparse_any z.exp 2000 W hW)
  have HO := Lib.hid (fun W => zfree z.opt W fz10)
  have HC := Lib.hid (fun W => zfree z.sec W fz11)
  rw [show b8 32 = 32 from rfl] at HU HG
  obtain ⟨vK, eK⟩ : ∃ q, Zn.letters z.kind 2 = q := ⟨_, rfl⟩
  obtain ⟨vS, eS⟩ : ∃ q, Zn.letters z.state 3 = q := ⟨_, rfl⟩
  obtain ⟨vU, eU⟩ : ∃ q, Opt.words 32 z.sur.data.toList = q := ⟨_, rfl⟩
  obtain ⟨vG, eG⟩ : ∃ q, Opt.words 32 z.giv.data.toList = q := ⟨_, rfl⟩
  obtain ⟨vP, eP⟩ : ∃ q, Opt.valid z.num.data.toList = q := ⟨_, rfl⟩
  obtain ⟨vQ, eQ⟩ : ∃ q, decide (0 ≤ Lib.indexByte z.num.data.toList 60) = q := ⟨_, rfl⟩
  obtain ⟨vN, eN⟩ : ∃ q, Zn.letters z.nat 3 = q := ⟨_, rfl⟩
  obtain ⟨vB, eB⟩ : ∃ q, Zn.birthB z.birth = q := ⟨_, rfl⟩
  obtain ⟨dV, eD⟩ : ∃ q, Dat.prV z.exp 2000 = q := ⟨_, rfl⟩
  obtain ⟨vE, eE⟩ : ∃ q, Dat.prE z.exp 2000 = q := ⟨_, rfl⟩
  obtain ⟨vO, eO⟩ : ∃ q, Zn.extra z.opt = q := ⟨_, rfl⟩
  obtain ⟨vC, eC⟩ : ∃ q, Zn.extra z.sec = q := ⟨_, rfl⟩
  rw [plain_two _ _ eQ] at hR
  rw [eK] at HK hR; rw [eS] at HS hR; rw [eU] at HU hR; rw [eG] at HG hR; rw [eP] at HP hR; rw [eQ] at HQ; rw [eN] at HN hR; rw [eB] at HB hR; rw [eD] at HE; rw [eE] at HE hR; rw [eO] at HO hR; rw [eC] at HC hR
  have HR := Lib.hid hR
  have hb1 := below_alloc1 w (.cells #[.int .i64 z.fmt, .string z.kind, .string z.state, .string z.sur, .string z.giv, .string z.num, .string z.nat, .string z.birth, .string z.sex, .string z.exp, .string z.opt, .string z.sec] 42)
  have hbx := ZBox.new w z
  have FZ5 := Lib.hid fz5'; have FZ10 := Lib.hid fz10'
  have HDW := Lib.hid hw
  clear hR eK eS eU eG eP eQ eN eB eD eE eO eC fz1 fz2 fz3 fz4 fz5 fz6 fz7 fz8 fz9 fz10 fz11 fz5' fz10' hw
  unfold Zn.Z.val
  by_cases hf : ¬ (1 ≤ z.fmt ∧ z.fmt ≤ 3)
  · have hr := HR.out
    rw [if_pos hf] at hr
    have HRR := Lib.hid hr
    have HL0 := Lib.hid (fun W => zlayout0 z.fmt W hf)
    clear HR hr hf HK HS HU HG HP HQ HLO HN HB HO HC FZ5 FZ10
    go_enter Tryz.func59, Tryz.ntmps59
    go_upto_region 1 with fail
    generalize w.alloc (.cells #[.int .i64 z.fmt, .string z.kind, .string z.state, .string z.sur, .string z.giv, .string z.num, .string z.nat, .string z.birth, .string z.sex, .string z.exp, .string z.opt, .string z.sec] 42) = w1 at hb1 hbx ⊢
    have HB1 := Lib.hid hb1; have HX := Lib.hid hbx
    clear hb1 hbx
    obtain ⟨x0, x1, x2, x3, x4, x5, x6, x7, x8, x9, x10, x11⟩ := HX.out.cells
    go_wp2_with fail
    refine (HL0.out _).mono ?_; rintro e w2 ⟨rfl, hb2⟩
    obtain ⟨w3, hst, hv⟩ := zv_new Zn.lay0 rfl (by kernel_rfl) HX.out HB1.out hb2
    have HV := Lib.hid hv
    clear x0 x1 x2 x3 x4 x5 x6 x7 x8 x9 x10 x11 hb2 hv
    obtain ⟨x0, x1, x2, x3, x4, x5, x6, x7, x8, x9, x10, x11⟩ := HV.out.1.cells
    go_wp2_with fail
    refine (HE.out _ (HDW.out.below HV.out.2.2)).mono ?_; rintro e w4 ⟨rfl, hb4⟩
    have HV4 := Lib.hid (HV.out.later hb4)
    clear hb4 x0 x1 x2 x3 x4 x5 x6 x7 x8 x9 x10 x11 hst
    go_wp2_with fail
    go_ret
    exact ⟨ret_i64 HRR.out, HV4.out.2.2⟩
  have hR := HR.out
  rw [if_neg hf] at hR
  have hf1 : 1 ≤ z.fmt := by omega
  have hf3 : z.fmt ≤ 3 := by omega
  obtain ⟨M, L, Wd, HLM, hL2, hL3, hM, hM1, hM35, hM41⟩ := zlayout_any z.fmt ⟨hf1, hf3⟩
  have HLY := Lib.hid HLM
  have HM := Lib.hid hM; have HM1 := Lib.hid hM1; have HM35 := Lib.hid hM35; have HM41 := Lib.hid hM41
  have hL0 : (L == 0) = false := by rw [beq_eq_false_iff_ne]; omega
  have HR := Lib.hid hR
  clear hR hf HLM hM hM1 hM35 hM41
  go_enter Tryz.func59, Tryz.ntmps59
  go_upto_region 1 with fail
  generalize w.alloc (.cells #[.int .i64 z.fmt, .string z.kind, .string z.state, .string z.sur, .string z.giv, .string z.num, .string z.nat, .string z.birth, .string z.sex, .string z.exp, .string z.opt, .string z.sec] 42) = w1 at hb1 hbx ⊢
  have HB1 := Lib.hid hb1; have HX := Lib.hid hbx
  clear hb1 hbx
  obtain ⟨x0, x1, x2, x3, x4, x5, x6, x7, x8, x9, x10, x11⟩ := HX.out.cells
  go_wp2_with fail
  refine (HLY.out _).mono ?_; rintro e w2 ⟨rfl, hb2⟩
  obtain ⟨w3, hst, hv⟩ := zv_new M HM.out HM1.out HX.out HB1.out hb2
  have HV := Lib.hid hv
  clear x0 x1 x2 x3 x4 x5 x6 x7 x8 x9 x10 x11 hb2 hv
  obtain ⟨x0, x1, x2, x3, x4, x5, x6, x7, x8, x9, x10, x11⟩ := HV.out.1.cells
  go_wp2_with fail
  refine (HE.out _ (HDW.out.below HV.out.2.2)).mono ?_; rintro e w4 ⟨rfl, hb⟩
  have HV1 := Lib.hid (HV.out.later hb)
  clear hb x0 x1 x2 x3 x4 x5 x6 x7 x8 x9 x10 x11
  obtain ⟨x0, x1, x2, x3, x4, x5, x6, x7, x8, x9, x10, x11⟩ := HV1.out.1.cells
  clear hst
  go_wp2_with fail
  refine (HK.out _).mono ?_; rintro e w11 ⟨rfl, hb⟩
  have HV2 := Lib.hid (HV1.out.later hb)
  clear hb x0 x1 x2 x3 x4 x5 x6 x7 x8 x9 x10 x11
  obtain ⟨x0, x1, x2, x3, x4, x5, x6, x7, x8, x9, x10, x11⟩ := HV2.out.1.cells
  cases vK
  · have hr := HR.out
    rw [if_pos (by first | rfl | assumption | omega)] at hr
    have HRR := Lib.hid hr
    clear HR hr
    go_wp2_with fail
    go_ret
    exact ⟨ret_i64 HRR.out, HV2.out.2.2⟩
  have hR := HR.out
  rw [if_neg (by first | assumption | omega | (simp; done))] at hR
  have HR := Lib.hid hR
  clear hR
  go_wp2_with fail
  refine (HS.out _).mono ?_; rintro e w12 ⟨rfl, hb⟩
  have HV3 := Lib.hid (HV2.out.later hb)
  clear hb x0 x1 x2 x3 x4 x5 x6 x7 x8 x9 x10 x11
  obtain ⟨x0, x1, x2, x3, x4, x5, x6, x7, x8, x9, x10, x11⟩ := HV3.out.1.cells
  cases vS
  · have hr := HR.out
    rw [if_pos (by first | rfl | assumption | omega)] at hr
    have HRR := Lib.hid hr
    clear HR hr
    go_wp2_with fail
    go_ret
    exact ⟨ret_i64 HRR.out, HV3.out.2.2⟩
  have hR := HR.out
  rw [if_neg (by first | assumption | omega | (simp; done))] at hR
  have HR := Lib.hid hR
  clear hR
  go_wp2_with fail
  refine (HU.out _).mono ?_; rintro e w' ⟨rfl, rfl⟩
  cases vU
  · have hr := HR.out
    rw [if_pos (by first | rfl | assumption | omega)] at hr
    have HRR := Lib.hid hr
    clear HR hr
    go_wp2_with fail
    go_ret
    exact ⟨ret_i64 HRR.out, HV3.out.2.2⟩
  have hR := HR.out
  rw [if_neg (by first | assumption | omega | (simp; done))] at hR
  have HR := Lib.hid hR
  clear hR
  by_cases h0 : z.sur.size = 0
  · obtain ⟨e1, e2⟩ := (empty_is z.sur).1 h0
    have hr := HR.out
    rw [if_pos (by first | rfl | assumption | omega)] at hr
    have HRR := Lib.hid hr
    clear HR hr
    go_wp2_with fail
    go_ret
    exact ⟨ret_i64 HRR.out, HV3.out.2.2⟩
  obtain ⟨e1, e2⟩ := (empty_is z.sur).2 h0
  have hR := HR.out
  rw [if_neg (by first | assumption | omega | (simp; done))] at hR
  have HR := Lib.hid hR
  clear hR
  clear h0
  go_wp2_with fail
  refine (HG.out _).mono ?_; rintro e w' ⟨rfl, rfl⟩
  cases vG
  · have hr := HR.out
    rw [if_pos (by first | rfl | assumption | omega)] at hr
    have HRR := Lib.hid hr
    clear HR hr
    go_wp2_with fail
    go_ret
    exact ⟨ret_i64 HRR.out, HV3.out.2.2⟩
  have hR := HR.out
  rw [if_neg (by first | assumption | omega | (simp; done))] at hR
  have HR := Lib.hid hR
  clear hR
  by_cases h0 : z.num.size = 0
  · obtain ⟨e1, e2⟩ := (empty_is z.num).1 h0
    have hr := HR.out
    rw [if_pos (by first | rfl | assumption | omega)] at hr
    have HRR := Lib.hid hr
    clear HR hr
    go_wp2_with fail
    go_ret
    exact ⟨ret_i64 HRR.out, HV3.out.2.2⟩
  obtain ⟨e1, e2⟩ := (empty_is z.num).2 h0
  have hR := HR.out
  rw [if_neg (by first | assumption | omega | (simp; done))] at hR
  have HR := Lib.hid hR
  clear hR
  clear h0
  go_wp2_with fail
  refine (HP.out _).mono ?_; rintro e w' ⟨rfl, rfl⟩
  cases vP
  · have hr := HR.out
    rw [if_pos (by rw [Bool.false_and])] at hr
    have HRR := Lib.hid hr
    clear HR hr
    go_wp2_with fail
    go_ret
    exact ⟨ret_i64 HRR.out, HV3.out.2.2⟩
  rw [Bool.true_and] at HR
  go_wp2_with fail
  refine (HQ.out _).mono ?_; rintro e w' ⟨rfl, hw⟩
  rw [hw]
  clear hw
  rcases Bool.eq_false_or_eq_true vQ with rfl | rfl
  · have hr := HR.out
    rw [if_pos (by rfl)] at hr
    have HRR := Lib.hid hr
    clear HR hr
    go_wp2_with fail
    go_ret
    exact ⟨ret_i64 HRR.out, HV3.out.2.2⟩
  have hR := HR.out
  rw [if_neg (by first | assumption | omega | (simp; done))] at hR
  have HR := Lib.hid hR
  clear hR
  go_wp2_with fail
  go_quiet ((go_at_call 100; exact quiet_any (HLO.out _)))
  have HV4 := Lib.hid (HV3.out.drewN nq)
  clear x0 x1 x2 x3 x4 x5 x6 x7 x8 x9 x10 x11
  revert HV4
  generalize World.drewN _ nq = wq
  intro HV4
  obtain ⟨x0, x1, x2, x3, x4, x5, x6, x7, x8, x9, x10, x11⟩ := HV4.out.1.cells
  by_cases hL : Zn.longest z.fmt < z.num.size
  · have hr := HR.out
    rw [if_pos (hL)] at hr
    have HRR := Lib.hid hr
    clear HR hr
    go_wp2_with fail
    go_ret
    exact ⟨ret_i64 HRR.out, HV4.out.2.2⟩
  have hR := HR.out
  rw [if_neg (by first | assumption | omega | (simp; done))] at hR
  have HR := Lib.hid hR
  clear hR
  have hL' : ¬ Zn.longest z.fmt < z.num.size := hL
  clear hL
  go_wp2_with fail
  refine (HN.out _).mono ?_; rintro e w14 ⟨rfl, hb⟩
  have HV5 := Lib.hid (HV4.out.later hb)
  clear hb x0 x1 x2 x3 x4 x5 x6 x7 x8 x9 x10 x11
  obtain ⟨x0, x1, x2, x3, x4, x5, x6, x7, x8, x9, x10, x11⟩ := HV5.out.1.cells
  cases vN
  · have hr := HR.out
    rw [if_pos (by first | rfl | assumption | omega)] at hr
    have HRR := Lib.hid hr
    clear HR hr
    go_wp2_with fail
    go_ret
    exact ⟨ret_i64 HRR.out, HV5.out.2.2⟩
  have hR := HR.out
  rw [if_neg (by first | assumption | omega | (simp; done))] at hR
  have HR := Lib.hid hR
  clear hR
  go_wp2_with fail
  refine (HB.out _).mono ?_; rintro e w' ⟨rfl, rfl⟩
  cases vB
  · have hr := HR.out
    rw [if_pos (by first | rfl | assumption | omega)] at hr
    have HRR := Lib.hid hr
    clear HR hr
    go_wp2_with fail
    go_ret
    exact ⟨ret_i64 HRR.out, HV5.out.2.2⟩
  have hR := HR.out
  rw [if_neg (by first | assumption | omega | (simp; done))] at hR
  have HR := Lib.hid hR
  clear hR
  have sM := str_is z.sex 77; have sF := str_is z.sex 70; have sX := str_is z.sex 60
  by_cases hs : Zn.sexB z.sex = false
  · have hs' := hs
    unfold Zn.sexB at hs'
    rw [Bool.or_eq_false_iff, Bool.or_eq_false_iff] at hs'
    rw [hs'.1] at sM; rw [hs'.2.1] at sF; rw [hs'.2.2] at sX
    clear hs'
    have hr := HR.out
    rw [if_pos hs] at hr
    have HRR := Lib.hid hr
    clear HR hr hs
    go_wp2_with fail
    go_ret
    exact ⟨ret_i64 HRR.out, HV5.out.2.2⟩
  have hR := HR.out
  rw [if_neg hs] at hR
  have HR := Lib.hid hR
  clear hR
  have hs' : Zn.sexB z.sex = true := by simpa using hs
  have h3 : ((z.sex.toList == [77]) = true) ∨ ((z.sex.toList == [77]) = false ∧ (z.sex.toList == [70]) = true) ∨ ((z.sex.toList == [77]) = false ∧ (z.sex.toList == [70]) = false ∧ (z.sex.toList == [60]) = true) := by
    rw [sM, sF, sX]
    unfold Zn.sexB at hs'
    revert hs'
    cases decide (z.sex = ⟨#[77]⟩) <;> cases decide (z.sex = ⟨#[70]⟩) <;> cases decide (z.sex = ⟨#[60]⟩) <;> simp
  clear sM sF sX hs hs'
  go_upto_region 19 with fail
  have HH3 := Lib.hid h3
  clear h3
  go_cut [75] from 76 to 88 (fun c wc => c = .bool false ∧ wc = w14)
  case first =>
    rcases HH3.out with s1 | ⟨s1, s2⟩ | ⟨s1, s2, s3⟩
    all_goals
      go_wp2_with fail
      go_meet
      exact ⟨rfl, rfl⟩
  obtain ⟨rfl, rfl⟩ := hcut
  clear HH3
  by_cases hE : vE ≠ 0
  · have hr := HR.out
    rw [if_pos hE] at hr
    have hE' : (vE != 0) = true := by rw [bne_iff_ne]; exact hE
    have HRR := Lib.hid hr
    clear HR hr hE
    all_goals
      go_wp2_with fail
      go_ret
      exact ⟨ret_i64 HRR.out, HV5.out.2.2⟩
  obtain rfl : vE = 0 := by omega
  have hR := HR.out
  rw [if_neg hE] at hR
  clear hE
  have c35 : ∀ {W : World}, LayAt W w2.heap.size M → W.cell? ⟨w2.heap.size, 35, none⟩ = some (.int .i64 (Zn.wide z.fmt)) := fun h => (h.cell 35).trans HM35.out
  have c41 : ∀ {W : World}, LayAt W w2.heap.size M → W.cell? ⟨w2.heap.size, 41, none⟩ = some (.int .i64 (if z.fmt = 1 then 11 else 0)) := fun h => (h.cell 41).trans HM41.out
  have k35 := c35 HV5.out.2.1; have k41 := c41 HV5.out.2.1
  clear c35 c41
  have hneed : ∃ nd, Zn.need z = nd := ⟨_, rfl⟩
  obtain ⟨nd, hnd⟩ := hneed
  rw [hnd] at hR
  unfold Zn.need at hnd
  have f5 := FZ5.out; have f10 := FZ10.out
  obtain ⟨lw, hlw⟩ : ∃ q, Zn.wide z.fmt = q := ⟨_, rfl⟩
  obtain ⟨sw, hsw⟩ : ∃ q : Int, (if z.fmt = 1 then (11 : Int) else 0) = q := ⟨_, rfl⟩
  rw [hlw] at k35 hR
  rw [hsw] at k41
  clear hlw
  have HR := Lib.hid hR
  have HSW := Lib.hid hsw; have HND := Lib.hid hnd
  clear hR hsw hnd
  cases vO
  · have HRR := Lib.hid (show (14 : Int) = R from HR.out)
    clear HR
    all_goals
      go_wp2_with fail
      refine (HO.out _).mono ?_; rintro e w' ⟨rfl, rfl⟩
      go_wp2_with fail
      go_ret
      exact ⟨ret_i64 HRR.out, HV5.out.2.2⟩
  cases vC
  · have HRR := Lib.hid (show (14 : Int) = R from HR.out)
    clear HR
    all_goals
      go_wp2_with fail
      refine (HO.out _).mono ?_; rintro e w' ⟨rfl, rfl⟩
      go_wp2_with fail
      refine (HC.out _).mono ?_; rintro e w' ⟨rfl, rfl⟩
      go_wp2_with fail
      go_ret
      exact ⟨ret_i64 HRR.out, HV5.out.2.2⟩
  have hR : (if z.fmt ≠ 1 ∧ z.sec.size ≠ 0 then (14 : Int) else if lw < nd then 2 else if (11 : Int) < z.sec.size then 2 else 0) = R := HR.out
  clear HR
  -- the last tests
  have key : ∀ (T : Int), (z.fmt != 1) = true ∧ z.sec.size ≠ 0 ∧ R = 14 ∨ ((z.fmt != 1) = false ∨ z.sec.size = 0) ∧ (lw < nd ∧ R = 2 ∨ ¬ lw < nd ∧ (sw < z.sec.size ∧ R = 2 ∨ ¬ sw < z.sec.size ∧ R = 0)) := by
    intro _
    have hsw := HSW.out
    subst hR
    by_cases h1 : z.fmt = 1
    · have e3 : (z.fmt != 1) = false := by rw [h1]; rfl
      rw [if_pos h1] at hsw; subst hsw
      refine .inr ⟨.inl e3, ?_⟩
      rw [if_neg (fun h => h.1 h1)]
      by_cases h2 : lw < nd
      · exact .inl ⟨h2, if_pos h2⟩
      · rw [if_neg h2]
        by_cases h4 : (11 : Int) < z.sec.size
        · exact .inr ⟨h2, .inl ⟨h4, if_pos h4⟩⟩
        · exact .inr ⟨h2, .inr ⟨h4, if_neg h4⟩⟩
    · have e3 : (z.fmt != 1) = true := by rw [bne_iff_ne]; exact h1
      rw [if_neg h1] at hsw; subst hsw
      by_cases h0 : z.sec.size = 0
      · refine .inr ⟨.inr h0, ?_⟩
        rw [if_neg (fun h => h.2 h0)]
        by_cases h2 : lw < nd
        · exact .inl ⟨h2, if_pos h2⟩
        · rw [if_neg h2, if_neg (by omega)]
          exact .inr ⟨h2, .inr ⟨by omega, rfl⟩⟩
      · exact .inl ⟨e3, h0, if_pos ⟨h1, h0⟩⟩
  clear hR
  rcases key 0 with ⟨e3, h0, hR⟩ | ⟨h13, hT⟩
  · obtain ⟨e1, e2⟩ := (empty_is z.sec).2 h0
    have HRR := Lib.hid hR.symm
    clear key hR h0
    all_goals
      go_wp2_with fail
      refine (HO.out _).mono ?_; rintro e w' ⟨rfl, rfl⟩
      go_wp2_with fail
      refine (HC.out _).mono ?_; rintro e w' ⟨rfl, rfl⟩
      go_wp2_with fail
      go_ret
      exact ⟨ret_i64 HRR.out, HV5.out.2.2⟩

  clear key
  have h13' : (z.fmt != 1) = false ∨ ((z.fmt != 1) = true ∧ z.sec.toList.isEmpty = true ∧ (!z.sec.toList.isEmpty) = false) := by
    rcases h13 with h | h
    · exact .inl h
    · rcases Bool.eq_false_or_eq_true (z.fmt != 1) with g | g
      · exact .inr ⟨g, (empty_is z.sec).1 h⟩
      · exact .inl g
  clear h13
  have hND := HND.out
  clear HND
  by_cases hn9 : (9 : Int) < z.num.size
  · rw [if_pos hn9] at hND
    obtain rfl : (z.opt.size : Int) + ((z.num.size : Int) - 9 + 2) = nd := by omega
    clear hND
    rcases hT with ⟨h2, hR⟩ | ⟨h2, ⟨h4, hR⟩ | ⟨h4, hR⟩⟩
    all_goals
      have HRR := Lib.hid hR.symm
      clear hR
      rcases h13' with g1 | ⟨g1, g2, g3⟩
      all_goals
        all_goals
          go_wp2_with fail
          refine (HO.out _).mono ?_; rintro e w' ⟨rfl, rfl⟩
          go_wp2_with fail
          refine (HC.out _).mono ?_; rintro e w' ⟨rfl, rfl⟩
          go_wp2_with fail
          go_ret
          exact ⟨ret_i64 HRR.out, HV5.out.2.2⟩
  · rw [if_neg hn9] at hND
    obtain rfl : (z.opt.size : Int) = nd := by omega
    clear hND
    rcases hT with ⟨h2, hR⟩ | ⟨h2, ⟨h4, hR⟩ | ⟨h4, hR⟩⟩
    all_goals
      have HRR := Lib.hid hR.symm
      clear hR
      rcases h13' with g1 | ⟨g1, g2, g3⟩
      all_goals
        all_goals
          go_wp2_with fail
          refine (HO.out _).mono ?_; rintro e w' ⟨rfl, rfl⟩
          go_wp2_with fail
          refine (HC.out _).mono ?_; rintro e w' ⟨rfl, rfl⟩
          go_wp2_with fail
          go_ret
          exact ⟨ret_i64 HRR.out, HV5.out.2.2⟩

end Go.Proofs.YtafbhadfeemppaaGreatDoor
