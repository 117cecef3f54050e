/- Chapter 42, several texts in one: Chapter 42: the strands of the protocols: the walks of chip and reader. Chapter 42: the walk of the program's Protocol. -/
import Derived.Test.YtihbmgkbipeakaaGreatStrGC
import Derived.Test.YtihbmgkbipeakaaGreatTermPFn
import Derived.Test.YtihbmgkbipeakaaGreatTermPKids
namespace Go.Proofs.YtihbmgkbipeakaaGreat
open Go.RowKit

abbrev b_passive : ByteArray := ⟨#[112, 97, 115, 115, 105, 118, 101]⟩
abbrev b_active : ByteArray := ⟨#[97, 99, 116, 105, 118, 101]⟩
abbrev b_exchange : ByteArray := ⟨#[101, 120, 99, 104, 97, 110, 103, 101]⟩
abbrev b_blind : ByteArray := ⟨#[98, 108, 105, 110, 100]⟩
abbrev b_clone : ByteArray := ⟨#[99, 108, 111, 110, 101]⟩
abbrev b_chip : ByteArray := ⟨#[99, 104, 105, 112]⟩
abbrev b_reader : ByteArray := ⟨#[114, 101, 97, 100, 101, 114]⟩
abbrev x_cA : List ByteArray := [⟨#[83, 32, 115, 105, 103, 110, 40, 115, 116, 97, 116, 101, 44, 32, 60, 100, 97, 116, 97, 44, 32, 112, 111, 119, 101, 114, 40, 99, 104, 105, 112, 41, 62, 41]⟩, ⟨#[82, 32, 63, 110]⟩, ⟨#[68, 32, 63, 110]⟩, ⟨#[83, 32, 115, 105, 103, 110, 40, 99, 104, 105, 112, 44, 32, 63, 110, 41]⟩]
def m_cA : List (Int × T) := x_cA.map moveOf
def s_cA : ByteArray × List (Int × T) := (b_chip, m_cA)
abbrev x_cE : List ByteArray := [⟨#[83, 32, 115, 105, 103, 110, 40, 115, 116, 97, 116, 101, 44, 32, 60, 100, 97, 116, 97, 44, 32, 112, 111, 119, 101, 114, 40, 99, 104, 105, 112, 41, 62, 41]⟩, ⟨#[82, 32, 112, 111, 119, 101, 114, 40, 63, 120, 41]⟩, ⟨#[68, 32, 104, 97, 115, 104, 40, 112, 111, 119, 101, 114, 40, 99, 104, 105, 112, 44, 32, 63, 120, 41, 41]⟩, ⟨#[83, 32, 104, 97, 115, 104, 40, 112, 111, 119, 101, 114, 40, 99, 104, 105, 112, 44, 32, 63, 120, 41, 41]⟩]
def m_cE : List (Int × T) := x_cE.map moveOf
def s_cE : ByteArray × List (Int × T) := (b_chip, m_cE)
abbrev x_cP : List ByteArray := [⟨#[83, 32, 115, 105, 103, 110, 40, 115, 116, 97, 116, 101, 44, 32, 60, 100, 97, 116, 97, 44, 32, 112, 111, 119, 101, 114, 40, 99, 104, 105, 112, 41, 62, 41]⟩, ⟨#[68, 32, 100, 97, 116, 97]⟩]
def m_cP : List (Int × T) := x_cP.map moveOf
def s_cP : ByteArray × List (Int × T) := (b_chip, m_cP)
abbrev x_rA : List ByteArray := [⟨#[82, 32, 115, 105, 103, 110, 40, 115, 116, 97, 116, 101, 44, 32, 60, 63, 100, 44, 32, 112, 111, 119, 101, 114, 40, 63, 99, 41, 62, 41]⟩, ⟨#[83, 32, 110, 111, 110, 99, 101]⟩, ⟨#[82, 32, 115, 105, 103, 110, 40, 63, 99, 44, 32, 110, 111, 110, 99, 101, 41]⟩, ⟨#[67, 32, 110, 111, 110, 99, 101]⟩]
def m_rA : List (Int × T) := x_rA.map moveOf
def s_rA : ByteArray × List (Int × T) := (b_reader, m_rA)
abbrev x_rE : List ByteArray := [⟨#[82, 32, 115, 105, 103, 110, 40, 115, 116, 97, 116, 101, 44, 32, 60, 63, 100, 44, 32, 112, 111, 119, 101, 114, 40, 63, 99, 41, 62, 41]⟩, ⟨#[83, 32, 112, 111, 119, 101, 114, 40, 101, 112, 104, 41]⟩, ⟨#[82, 32, 104, 97, 115, 104, 40, 112, 111, 119, 101, 114, 40, 101, 112, 104, 44, 32, 63, 99, 41, 41]⟩, ⟨#[67, 32, 104, 97, 115, 104, 40, 112, 111, 119, 101, 114, 40, 101, 112, 104, 44, 32, 63, 99, 41, 41]⟩]
def m_rE : List (Int × T) := x_rE.map moveOf
def s_rE : ByteArray × List (Int × T) := (b_reader, m_rE)
abbrev x_rP : List ByteArray := [⟨#[82, 32, 115, 105, 103, 110, 40, 115, 116, 97, 116, 101, 44, 32, 60, 63, 100, 44, 32, 63, 112, 62, 41]⟩, ⟨#[67, 32, 63, 100]⟩]
def m_rP : List (Int × T) := x_rP.map moveOf
def s_rP : ByteArray × List (Int × T) := (b_reader, m_rP)
abbrev x_known : List ByteArray := [⟨#[100, 97, 116, 97]⟩, ⟨#[115, 105, 103, 110, 40, 115, 116, 97, 116, 101, 44, 32, 60, 100, 97, 116, 97, 44, 32, 112, 111, 119, 101, 114, 40, 99, 104, 105, 112, 41, 62, 41]⟩, ⟨#[112, 111, 119, 101, 114, 40, 115, 116, 97, 116, 101, 41]⟩, ⟨#[101, 118, 105, 108]⟩, ⟨#[112, 111, 119, 101, 114, 40, 101, 118, 105, 108, 41]⟩]
def m_known : List T := x_known.map fun x => (T.parse x).1
/-- The strands of a protocol. -/
def protoS (n : ByteArray) : Option (List (ByteArray × List (Int × T))) :=
  if n = b_passive then some [s_cP, s_rP] else if n = b_active then some [s_cA, s_rA] else if n = b_exchange then some [s_cE, s_rE] else if n = b_blind then some [s_cA, s_cA, s_rA] else if n = b_clone then some [s_rP] else none
def goodB (x : ByteArray) : Bool := decide (2 ≤ x.size) && (x.data.toList.getD 0 0 == 83 || (x.data.toList.getD 0 0 == 82 || (x.data.toList.getD 0 0 == 67 || x.data.toList.getD 0 0 == 68)))
theorem good_all (ts : List ByteArray) (h : ts.all goodB = true) : ∀ x ∈ ts, goodText x := by
  intro x hx
  have h1 := List.all_eq_true.1 h x hx
  simp only [goodB, Bool.and_eq_true, Bool.or_eq_true, decide_eq_true_eq, beq_iff_eq] at h1
  exact ⟨h1.1, h1.2⟩
theorem texts_new (w : World) (ts : List ByteArray) : TextsAt (w.alloc (.cells (ts.map Value.string).toArray 9)) (some ⟨w.heap.size, 0, none⟩) ts := by
  refine ⟨by simp, .inr ⟨_, 0, rfl, fun j u hu => ?_⟩⟩
  have h := heap_alloc_new w (.cells (ts.map Value.string).toArray 9)
  rw [Nat.zero_add]
  unfold World.cell?
  rw [h]
  simpa using hu
theorem RetS.box {s : ByteArray × List (Int × T)} {w w1 w2 : World} {A : Option Addr} {c : Nat} (x y : Value) (hw : Below w.heap.size w w1) (hlt : w.heap.size < w1.heap.size) (h : MovesIn (from_ w1.heap.size) w2 A s.2) (hb : Below w1.heap.size w1 w2) :
    RetS s w (.returned (.agg #[.string s.1, .slice A s.2.length c])) ((w2.setCell ⟨w.heap.size, 0, none⟩ x).setCell ⟨w.heap.size, 1, none⟩ y) := by
  refine ⟨A, c, rfl, h.keep fun b hb' _ => ?_, ((hw.trans (hb.mono (by omega))).setCell (Nat.le_refl _) _).setCell (Nat.le_refl _) _⟩
  have := of_decide_eq_true hb'
  exact ⟨decide_eq_true (by omega), sset2_other _ _ _ _ _ (by omega)⟩

set_option maxRecDepth 100000 in
set_option maxHeartbeats 2000000 in
theorem ochip_passive (w : World) : Calls Tryz.prog 69 #[.string b_passive] w (RetS s_cP w) := by
  have hb0 := SBox.new w (.string ⟨#[]⟩) (.slice none 0 0)
  have hw := below_alloc1 w (.cells #[.string ⟨#[]⟩, .slice none 0 0] 49)
  have hz := size_alloc1 w (.cells #[.string ⟨#[]⟩, .slice none 0 0] 49)
  go_enter Tryz.func69, Tryz.ntmps69
  go_upto_region 1 with fail
  generalize w.alloc (.cells #[.string ⟨#[]⟩, .slice none 0 0] 49) = w1 at hb0 hw hz ⊢
  have HB0 := Lib.hid hb0; have HW := Lib.hid hw; have HZ := Lib.hid hz
  clear hb0 hw hz
  go_wp2_with fail
  refine (ostrand b_chip x_cP (some ⟨w1.heap.size, 0, none⟩) 2 _ (by decide) (texts_new w1 x_cP) (good_all _ (by kernel_rfl)) m_cP rfl).mono ?_; rintro e w2 ⟨A2, C2, rfl, hm2, hb2⟩
  have hw1 := below_alloc1 w1 (.cells (x_cP.map Value.string).toArray 9)
  have HM2 := Lib.hid (hm2.keep (S' := from_ w1.heap.size) (w' := w2) fun b hb _ => ⟨decide_eq_true (by have := of_decide_eq_true hb; rw [size_alloc1] at this; omega), rfl⟩)
  have HB2 := Lib.hid (hw1.trans (hb2.mono (by rw [size_alloc1]; omega)))
  have HBX := Lib.hid (HB0.out.later HB2.out)
  obtain ⟨q0, q1⟩ := HBX.out.cells
  obtain ⟨f0, f1⟩ := HBX.out.free
  clear hm2 hb2 hw1
  go_wp2_with fail
  obtain ⟨d0, d1⟩ := (HBX.out.set2 (.string b_chip) (.slice A2 m_cP.length C2)).cells
  refine bodyPost_ret (v := .agg #[.string b_chip, .slice A2 m_cP.length C2]) (by simp [results, Tryz.results69, go_sem, d0, d1]) rfl ?_
  exact RetS.box (s := s_cP) _ _ HW.out (by rw [HZ.out]; omega) HM2.out HB2.out
set_option maxRecDepth 100000 in
set_option maxHeartbeats 2000000 in
theorem ochip_active (w : World) : Calls Tryz.prog 69 #[.string b_active] w (RetS s_cA w) := by
  have hb0 := SBox.new w (.string ⟨#[]⟩) (.slice none 0 0)
  have hw := below_alloc1 w (.cells #[.string ⟨#[]⟩, .slice none 0 0] 49)
  have hz := size_alloc1 w (.cells #[.string ⟨#[]⟩, .slice none 0 0] 49)
  go_enter Tryz.func69, Tryz.ntmps69
  go_upto_region 1 with fail
  generalize w.alloc (.cells #[.string ⟨#[]⟩, .slice none 0 0] 49) = w1 at hb0 hw hz ⊢
  have HB0 := Lib.hid hb0; have HW := Lib.hid hw; have HZ := Lib.hid hz
  clear hb0 hw hz
  go_wp2_with fail
  refine (ostrand b_chip x_cA (some ⟨w1.heap.size, 0, none⟩) 4 _ (by decide) (texts_new w1 x_cA) (good_all _ (by kernel_rfl)) m_cA rfl).mono ?_; rintro e w2 ⟨A2, C2, rfl, hm2, hb2⟩
  have hw1 := below_alloc1 w1 (.cells (x_cA.map Value.string).toArray 9)
  have HM2 := Lib.hid (hm2.keep (S' := from_ w1.heap.size) (w' := w2) fun b hb _ => ⟨decide_eq_true (by have := of_decide_eq_true hb; rw [size_alloc1] at this; omega), rfl⟩)
  have HB2 := Lib.hid (hw1.trans (hb2.mono (by rw [size_alloc1]; omega)))
  have HBX := Lib.hid (HB0.out.later HB2.out)
  obtain ⟨q0, q1⟩ := HBX.out.cells
  obtain ⟨f0, f1⟩ := HBX.out.free
  clear hm2 hb2 hw1
  go_wp2_with fail
  obtain ⟨d0, d1⟩ := (HBX.out.set2 (.string b_chip) (.slice A2 m_cA.length C2)).cells
  refine bodyPost_ret (v := .agg #[.string b_chip, .slice A2 m_cA.length C2]) (by simp [results, Tryz.results69, go_sem, d0, d1]) rfl ?_
  exact RetS.box (s := s_cA) _ _ HW.out (by rw [HZ.out]; omega) HM2.out HB2.out
set_option maxRecDepth 100000 in
set_option maxHeartbeats 2000000 in
theorem ochip_exchange (w : World) : Calls Tryz.prog 69 #[.string b_exchange] w (RetS s_cE w) := by
  have hb0 := SBox.new w (.string ⟨#[]⟩) (.slice none 0 0)
  have hw := below_alloc1 w (.cells #[.string ⟨#[]⟩, .slice none 0 0] 49)
  have hz := size_alloc1 w (.cells #[.string ⟨#[]⟩, .slice none 0 0] 49)
  go_enter Tryz.func69, Tryz.ntmps69
  go_upto_region 1 with fail
  generalize w.alloc (.cells #[.string ⟨#[]⟩, .slice none 0 0] 49) = w1 at hb0 hw hz ⊢
  have HB0 := Lib.hid hb0; have HW := Lib.hid hw; have HZ := Lib.hid hz
  clear hb0 hw hz
  go_wp2_with fail
  refine (ostrand b_chip x_cE (some ⟨w1.heap.size, 0, none⟩) 4 _ (by decide) (texts_new w1 x_cE) (good_all _ (by kernel_rfl)) m_cE rfl).mono ?_; rintro e w2 ⟨A2, C2, rfl, hm2, hb2⟩
  have hw1 := below_alloc1 w1 (.cells (x_cE.map Value.string).toArray 9)
  have HM2 := Lib.hid (hm2.keep (S' := from_ w1.heap.size) (w' := w2) fun b hb _ => ⟨decide_eq_true (by have := of_decide_eq_true hb; rw [size_alloc1] at this; omega), rfl⟩)
  have HB2 := Lib.hid (hw1.trans (hb2.mono (by rw [size_alloc1]; omega)))
  have HBX := Lib.hid (HB0.out.later HB2.out)
  obtain ⟨q0, q1⟩ := HBX.out.cells
  obtain ⟨f0, f1⟩ := HBX.out.free
  clear hm2 hb2 hw1
  go_wp2_with fail
  obtain ⟨d0, d1⟩ := (HBX.out.set2 (.string b_chip) (.slice A2 m_cE.length C2)).cells
  refine bodyPost_ret (v := .agg #[.string b_chip, .slice A2 m_cE.length C2]) (by simp [results, Tryz.results69, go_sem, d0, d1]) rfl ?_
  exact RetS.box (s := s_cE) _ _ HW.out (by rw [HZ.out]; omega) HM2.out HB2.out
set_option maxRecDepth 100000 in
set_option maxHeartbeats 2000000 in
theorem ochip_blind (w : World) : Calls Tryz.prog 69 #[.string b_blind] w (RetS s_cA w) := by
  have hb0 := SBox.new w (.string ⟨#[]⟩) (.slice none 0 0)
  have hw := below_alloc1 w (.cells #[.string ⟨#[]⟩, .slice none 0 0] 49)
  have hz := size_alloc1 w (.cells #[.string ⟨#[]⟩, .slice none 0 0] 49)
  go_enter Tryz.func69, Tryz.ntmps69
  go_upto_region 1 with fail
  generalize w.alloc (.cells #[.string ⟨#[]⟩, .slice none 0 0] 49) = w1 at hb0 hw hz ⊢
  have HB0 := Lib.hid hb0; have HW := Lib.hid hw; have HZ := Lib.hid hz
  clear hb0 hw hz
  go_wp2_with fail
  refine (ostrand b_chip x_cA (some ⟨w1.heap.size, 0, none⟩) 4 _ (by decide) (texts_new w1 x_cA) (good_all _ (by kernel_rfl)) m_cA rfl).mono ?_; rintro e w2 ⟨A2, C2, rfl, hm2, hb2⟩
  have hw1 := below_alloc1 w1 (.cells (x_cA.map Value.string).toArray 9)
  have HM2 := Lib.hid (hm2.keep (S' := from_ w1.heap.size) (w' := w2) fun b hb _ => ⟨decide_eq_true (by have := of_decide_eq_true hb; rw [size_alloc1] at this; omega), rfl⟩)
  have HB2 := Lib.hid (hw1.trans (hb2.mono (by rw [size_alloc1]; omega)))
  have HBX := Lib.hid (HB0.out.later HB2.out)
  obtain ⟨q0, q1⟩ := HBX.out.cells
  obtain ⟨f0, f1⟩ := HBX.out.free
  clear hm2 hb2 hw1
  go_wp2_with fail
  obtain ⟨d0, d1⟩ := (HBX.out.set2 (.string b_chip) (.slice A2 m_cA.length C2)).cells
  refine bodyPost_ret (v := .agg #[.string b_chip, .slice A2 m_cA.length C2]) (by simp [results, Tryz.results69, go_sem, d0, d1]) rfl ?_
  exact RetS.box (s := s_cA) _ _ HW.out (by rw [HZ.out]; omega) HM2.out HB2.out
set_option maxRecDepth 100000 in
set_option maxHeartbeats 2000000 in
theorem oreader_passive (w : World) : Calls Tryz.prog 70 #[.string b_passive] w (RetS s_rP w) := by
  have hb0 := SBox.new w (.string ⟨#[]⟩) (.slice none 0 0)
  have hw := below_alloc1 w (.cells #[.string ⟨#[]⟩, .slice none 0 0] 49)
  have hz := size_alloc1 w (.cells #[.string ⟨#[]⟩, .slice none 0 0] 49)
  go_enter Tryz.func70, Tryz.ntmps70
  go_upto_region 1 with fail
  generalize w.alloc (.cells #[.string ⟨#[]⟩, .slice none 0 0] 49) = w1 at hb0 hw hz ⊢
  have HB0 := Lib.hid hb0; have HW := Lib.hid hw; have HZ := Lib.hid hz
  clear hb0 hw hz
  go_wp2_with fail
  refine (ostrand b_reader x_rP (some ⟨w1.heap.size, 0, none⟩) 2 _ (by decide) (texts_new w1 x_rP) (good_all _ (by kernel_rfl)) m_rP rfl).mono ?_; rintro e w2 ⟨A2, C2, rfl, hm2, hb2⟩
  have hw1 := below_alloc1 w1 (.cells (x_rP.map Value.string).toArray 9)
  have HM2 := Lib.hid (hm2.keep (S' := from_ w1.heap.size) (w' := w2) fun b hb _ => ⟨decide_eq_true (by have := of_decide_eq_true hb; rw [size_alloc1] at this; omega), rfl⟩)
  have HB2 := Lib.hid (hw1.trans (hb2.mono (by rw [size_alloc1]; omega)))
  have HBX := Lib.hid (HB0.out.later HB2.out)
  obtain ⟨q0, q1⟩ := HBX.out.cells
  obtain ⟨f0, f1⟩ := HBX.out.free
  clear hm2 hb2 hw1
  go_wp2_with fail
  obtain ⟨d0, d1⟩ := (HBX.out.set2 (.string b_reader) (.slice A2 m_rP.length C2)).cells
  refine bodyPost_ret (v := .agg #[.string b_reader, .slice A2 m_rP.length C2]) (by simp [results, Tryz.results70, go_sem, d0, d1]) rfl ?_
  exact RetS.box (s := s_rP) _ _ HW.out (by rw [HZ.out]; omega) HM2.out HB2.out
set_option maxRecDepth 100000 in
set_option maxHeartbeats 2000000 in
theorem oreader_active (w : World) : Calls Tryz.prog 70 #[.string b_active] w (RetS s_rA w) := by
  have hb0 := SBox.new w (.string ⟨#[]⟩) (.slice none 0 0)
  have hw := below_alloc1 w (.cells #[.string ⟨#[]⟩, .slice none 0 0] 49)
  have hz := size_alloc1 w (.cells #[.string ⟨#[]⟩, .slice none 0 0] 49)
  go_enter Tryz.func70, Tryz.ntmps70
  go_upto_region 1 with fail
  generalize w.alloc (.cells #[.string ⟨#[]⟩, .slice none 0 0] 49) = w1 at hb0 hw hz ⊢
  have HB0 := Lib.hid hb0; have HW := Lib.hid hw; have HZ := Lib.hid hz
  clear hb0 hw hz
  go_wp2_with fail
  refine (ostrand b_reader x_rA (some ⟨w1.heap.size, 0, none⟩) 4 _ (by decide) (texts_new w1 x_rA) (good_all _ (by kernel_rfl)) m_rA rfl).mono ?_; rintro e w2 ⟨A2, C2, rfl, hm2, hb2⟩
  have hw1 := below_alloc1 w1 (.cells (x_rA.map Value.string).toArray 9)
  have HM2 := Lib.hid (hm2.keep (S' := from_ w1.heap.size) (w' := w2) fun b hb _ => ⟨decide_eq_true (by have := of_decide_eq_true hb; rw [size_alloc1] at this; omega), rfl⟩)
  have HB2 := Lib.hid (hw1.trans (hb2.mono (by rw [size_alloc1]; omega)))
  have HBX := Lib.hid (HB0.out.later HB2.out)
  obtain ⟨q0, q1⟩ := HBX.out.cells
  obtain ⟨f0, f1⟩ := HBX.out.free
  clear hm2 hb2 hw1
  go_wp2_with fail
  obtain ⟨d0, d1⟩ := (HBX.out.set2 (.string b_reader) (.slice A2 m_rA.length C2)).cells
  refine bodyPost_ret (v := .agg #[.string b_reader, .slice A2 m_rA.length C2]) (by simp [results, Tryz.results70, go_sem, d0, d1]) rfl ?_
  exact RetS.box (s := s_rA) _ _ HW.out (by rw [HZ.out]; omega) HM2.out HB2.out
set_option maxRecDepth 100000 in
set_option maxHeartbeats 2000000 in
theorem oreader_exchange (w : World) : Calls Tryz.prog 70 #[.string b_exchange] w (RetS s_rE w) := by
  have hb0 := SBox.new w (.string ⟨#[]⟩) (.slice none 0 0)
  have hw := below_alloc1 w (.cells #[.string ⟨#[]⟩, .slice none 0 0] 49)
  have hz := size_alloc1 w (.cells #[.string ⟨#[]⟩, .slice none 0 0] 49)
  go_enter Tryz.func70, Tryz.ntmps70
  go_upto_region 1 with fail
  generalize w.alloc (.cells #[.string ⟨#[]⟩, .slice none 0 0] 49) = w1 at hb0 hw hz ⊢
  have HB0 := Lib.hid hb0; have HW := Lib.hid hw; have HZ := Lib.hid hz
  clear hb0 hw hz
  go_wp2_with fail
  refine (ostrand b_reader x_rE (some ⟨w1.heap.size, 0, none⟩) 4 _ (by decide) (texts_new w1 x_rE) (good_all _ (by kernel_rfl)) m_rE rfl).mono ?_; rintro e w2 ⟨A2, C2, rfl, hm2, hb2⟩
  have hw1 := below_alloc1 w1 (.cells (x_rE.map Value.string).toArray 9)
  have HM2 := Lib.hid (hm2.keep (S' := from_ w1.heap.size) (w' := w2) fun b hb _ => ⟨decide_eq_true (by have := of_decide_eq_true hb; rw [size_alloc1] at this; omega), rfl⟩)
  have HB2 := Lib.hid (hw1.trans (hb2.mono (by rw [size_alloc1]; omega)))
  have HBX := Lib.hid (HB0.out.later HB2.out)
  obtain ⟨q0, q1⟩ := HBX.out.cells
  obtain ⟨f0, f1⟩ := HBX.out.free
  clear hm2 hb2 hw1
  go_wp2_with fail
  obtain ⟨d0, d1⟩ := (HBX.out.set2 (.string b_reader) (.slice A2 m_rE.length C2)).cells
  refine bodyPost_ret (v := .agg #[.string b_reader, .slice A2 m_rE.length C2]) (by simp [results, Tryz.results70, go_sem, d0, d1]) rfl ?_
  exact RetS.box (s := s_rE) _ _ HW.out (by rw [HZ.out]; omega) HM2.out HB2.out
set_option maxRecDepth 100000 in
set_option maxHeartbeats 2000000 in
theorem oreader_blind (w : World) : Calls Tryz.prog 70 #[.string b_blind] w (RetS s_rA w) := by
  have hb0 := SBox.new w (.string ⟨#[]⟩) (.slice none 0 0)
  have hw := below_alloc1 w (.cells #[.string ⟨#[]⟩, .slice none 0 0] 49)
  have hz := size_alloc1 w (.cells #[.string ⟨#[]⟩, .slice none 0 0] 49)
  go_enter Tryz.func70, Tryz.ntmps70
  go_upto_region 1 with fail
  generalize w.alloc (.cells #[.string ⟨#[]⟩, .slice none 0 0] 49) = w1 at hb0 hw hz ⊢
  have HB0 := Lib.hid hb0; have HW := Lib.hid hw; have HZ := Lib.hid hz
  clear hb0 hw hz
  go_wp2_with fail
  refine (ostrand b_reader x_rA (some ⟨w1.heap.size, 0, none⟩) 4 _ (by decide) (texts_new w1 x_rA) (good_all _ (by kernel_rfl)) m_rA rfl).mono ?_; rintro e w2 ⟨A2, C2, rfl, hm2, hb2⟩
  have hw1 := below_alloc1 w1 (.cells (x_rA.map Value.string).toArray 9)
  have HM2 := Lib.hid (hm2.keep (S' := from_ w1.heap.size) (w' := w2) fun b hb _ => ⟨decide_eq_true (by have := of_decide_eq_true hb; rw [size_alloc1] at this; omega), rfl⟩)
  have HB2 := Lib.hid (hw1.trans (hb2.mono (by rw [size_alloc1]; omega)))
  have HBX := Lib.hid (HB0.out.later HB2.out)
  obtain ⟨q0, q1⟩ := HBX.out.cells
  obtain ⟨f0, f1⟩ := HBX.out.free
  clear hm2 hb2 hw1
  go_wp2_with fail
  obtain ⟨d0, d1⟩ := (HBX.out.set2 (.string b_reader) (.slice A2 m_rA.length C2)).cells
  refine bodyPost_ret (v := .agg #[.string b_reader, .slice A2 m_rA.length C2]) (by simp [results, Tryz.results70, go_sem, d0, d1]) rfl ?_
  exact RetS.box (s := s_rA) _ _ HW.out (by rw [HZ.out]; omega) HM2.out HB2.out
set_option maxRecDepth 100000 in
set_option maxHeartbeats 2000000 in
theorem oreader_clone (w : World) : Calls Tryz.prog 70 #[.string b_clone] w (RetS s_rP w) := by
  have hb0 := SBox.new w (.string ⟨#[]⟩) (.slice none 0 0)
  have hw := below_alloc1 w (.cells #[.string ⟨#[]⟩, .slice none 0 0] 49)
  have hz := size_alloc1 w (.cells #[.string ⟨#[]⟩, .slice none 0 0] 49)
  go_enter Tryz.func70, Tryz.ntmps70
  go_upto_region 1 with fail
  generalize w.alloc (.cells #[.string ⟨#[]⟩, .slice none 0 0] 49) = w1 at hb0 hw hz ⊢
  have HB0 := Lib.hid hb0; have HW := Lib.hid hw; have HZ := Lib.hid hz
  clear hb0 hw hz
  go_wp2_with fail
  refine (ostrand b_reader x_rP (some ⟨w1.heap.size, 0, none⟩) 2 _ (by decide) (texts_new w1 x_rP) (good_all _ (by kernel_rfl)) m_rP rfl).mono ?_; rintro e w2 ⟨A2, C2, rfl, hm2, hb2⟩
  have hw1 := below_alloc1 w1 (.cells (x_rP.map Value.string).toArray 9)
  have HM2 := Lib.hid (hm2.keep (S' := from_ w1.heap.size) (w' := w2) fun b hb _ => ⟨decide_eq_true (by have := of_decide_eq_true hb; rw [size_alloc1] at this; omega), rfl⟩)
  have HB2 := Lib.hid (hw1.trans (hb2.mono (by rw [size_alloc1]; omega)))
  have HBX := Lib.hid (HB0.out.later HB2.out)
  obtain ⟨q0, q1⟩ := HBX.out.cells
  obtain ⟨f0, f1⟩ := HBX.out.free
  clear hm2 hb2 hw1
  go_wp2_with fail
  obtain ⟨d0, d1⟩ := (HBX.out.set2 (.string b_reader) (.slice A2 m_rP.length C2)).cells
  refine bodyPost_ret (v := .agg #[.string b_reader, .slice A2 m_rP.length C2]) (by simp [results, Tryz.results70, go_sem, d0, d1]) rfl ?_
  exact RetS.box (s := s_rP) _ _ HW.out (by rw [HZ.out]; omega) HM2.out HB2.out
end Go.Proofs.YtihbmgkbipeakaaGreat

namespace Go.Proofs.YtihbmgkbipeakaaGreat
open Go.RowKit

/-- A row of strands that is read. -/
def StrandsAt (w : World) (A : Option Addr) (l : List (ByteArray × List (Int × T))) : Prop := l.length = 0 ∨ ∃ b off, A = some ⟨b, off, none⟩ ∧ ∀ i (h : i < l.length), ∃ A' c', w.cell? ⟨b, off + i * 2, none⟩ = some (.string l[i].1) ∧ w.cell? ⟨b, off + i * 2 + 1, none⟩ = some (.slice A' l[i].2.length c') ∧ MovesAt w A' l[i].2
theorem StrandsAt.later {w w' : World} {A : Option Addr} {l : List (ByteArray × List (Int × T))} (h : StrandsAt w A l) (hb : Below w.heap.size w w') : StrandsAt w' A l := by
  rcases h with h | ⟨b, off, e, hc⟩
  · exact .inl h
  · refine .inr ⟨b, off, e, fun i hi => ?_⟩
    obtain ⟨A', c', h0, h1, h2⟩ := hc i hi
    exact ⟨A', c', cell_later hb h0, cell_later hb h1, h2.later hb⟩
/-- A slice of terms. -/
def TermsL (w : World) (v : Value) (L : List T) : Prop := TermAt w (.agg #[.int .i64 0, .string ⟨#[]⟩, v]) (.mk 0 ⟨#[]⟩ L)
theorem TermsRow.list {w : World} {base : Nat} {v : Value} {L : List T} (h : TermsRow w base v L) : TermsL w v L := (h.term 0 ⟨#[]⟩ (by omega) (by decide)).at
/-- What Protocol leaves. -/
def ProtoPost (l : List (ByteArray × List (Int × T))) (K : List T) (w : World) (e : Ending) (w' : World) : Prop :=
  ∃ A c A' c', e = .returned (.tuple #[.slice A l.length c, .slice A' K.length c', .bool true]) ∧ StrandsAt w' A l ∧ TermsL w' (.slice A' K.length c') K ∧ Below w.heap.size w w'
theorem ret_three {v : Value} {fn : Func} {t u x : Tmp} (h : fn.results = #[.tmp t, .tmp u, .tmp x]) (tmps : Array Value) (P : Program) (w : World) (hv : v = .tuple #[tmps.getD t undef, tmps.getD u undef, tmps.getD x undef]) :
    (results fn tmps).run P w = .ok v w := by subst hv; simp [results, h]
theorem strand_cell {w : World} {b off : Nat} {s : ByteArray × List (Int × T)} {A : Option Addr} {c : Nat} (h0 : w.cell? ⟨b, off, none⟩ = some (.string s.1)) (h1 : w.cell? ⟨b, off + 1, none⟩ = some (.slice A s.2.length c)) (h : MovesAt w A s.2) :
    ∃ A' c', w.cell? ⟨b, off, none⟩ = some (.string s.1) ∧ w.cell? ⟨b, off + 1, none⟩ = some (.slice A' s.2.length c') ∧ MovesAt w A' s.2 := ⟨A, c, h0, h1, h⟩
theorem cells_at (w : World) (xs : Array Value) (ty : TypeId) (j : Nat) : (w.alloc (.cells xs ty)).cell? ⟨w.heap.size, j, none⟩ = xs[j]? := by
  have h := heap_alloc_new w (.cells xs ty)
  unfold World.cell?
  rw [h]
  rfl

theorem strands_new1 {w : World} {s0 : ByteArray × List (Int × T)} {A0 : Option Addr} {c0 : Nat} (h0 : MovesAt w A0 s0.2) :
    StrandsAt (w.alloc (.cells #[.string s0.1, .slice A0 s0.2.length c0] 49)) (some ⟨w.heap.size, 0, none⟩) [s0] := by
  have hb := below_alloc1 w (.cells #[.string s0.1, .slice A0 s0.2.length c0] 49)
  refine .inr ⟨_, 0, rfl, fun i hi => ?_⟩
  match i, hi with
  | 0, _ => exact ⟨A0, c0, by rw [cells_at]; rfl, by rw [cells_at]; rfl, h0.later hb⟩
theorem strands_new2 {w : World} {s0 s1 : ByteArray × List (Int × T)} {A0 A1 : Option Addr} {c0 c1 : Nat} (h0 : MovesAt w A0 s0.2) (h1 : MovesAt w A1 s1.2) :
    StrandsAt (w.alloc (.cells #[.string s0.1, .slice A0 s0.2.length c0, .string s1.1, .slice A1 s1.2.length c1] 49)) (some ⟨w.heap.size, 0, none⟩) [s0, s1] := by
  have hb := below_alloc1 w (.cells #[.string s0.1, .slice A0 s0.2.length c0, .string s1.1, .slice A1 s1.2.length c1] 49)
  refine .inr ⟨_, 0, rfl, fun i hi => ?_⟩
  match i, hi with
  | 0, _ => exact ⟨A0, c0, by rw [cells_at]; rfl, by rw [cells_at]; rfl, h0.later hb⟩
  | 1, _ => exact ⟨A1, c1, by rw [cells_at]; rfl, by rw [cells_at]; rfl, h1.later hb⟩
theorem strands_new3 {w : World} {s0 s1 s2 : ByteArray × List (Int × T)} {A0 A1 A2 : Option Addr} {c0 c1 c2 : Nat} (h0 : MovesAt w A0 s0.2) (h1 : MovesAt w A1 s1.2) (h2 : MovesAt w A2 s2.2) :
    StrandsAt (w.alloc (.cells #[.string s0.1, .slice A0 s0.2.length c0, .string s1.1, .slice A1 s1.2.length c1, .string s2.1, .slice A2 s2.2.length c2] 49)) (some ⟨w.heap.size, 0, none⟩) [s0, s1, s2] := by
  have hb := below_alloc1 w (.cells #[.string s0.1, .slice A0 s0.2.length c0, .string s1.1, .slice A1 s1.2.length c1, .string s2.1, .slice A2 s2.2.length c2] 49)
  refine .inr ⟨_, 0, rfl, fun i hi => ?_⟩
  match i, hi with
  | 0, _ => exact ⟨A0, c0, by rw [cells_at]; rfl, by rw [cells_at]; rfl, h0.later hb⟩
  | 1, _ => exact ⟨A1, c1, by rw [cells_at]; rfl, by rw [cells_at]; rfl, h1.later hb⟩
  | 2, _ => exact ⟨A2, c2, by rw [cells_at]; rfl, by rw [cells_at]; rfl, h2.later hb⟩

/-- The head of the loop of what is known. -/
def KnAt (w0 : World) (L : List T) (v : Value) (wr : World) : Prop := TermsRow wr w0.heap.size v L ∧ Below w0.heap.size w0 wr
theorem KnAt.step {w0 wr w3 w4 : World} {L : List T} {kv : Value} {xs : List Value} {u0 u1 u2 : Value} {t : T} {g cap : Nat} (hrow : TermsRow wr w0.heap.size kv L) (hb : Below w0.heap.size w0 wr)
    (hx : ∀ i (h : i < L.length), ∃ u0 u1 u2, xs[i * 3]? = some u0 ∧ xs[i * 3 + 1]? = some u1 ∧ xs[i * 3 + 2]? = some u2 ∧ TermIn (but w0.heap.size kv.ownBlock) wr (.agg #[u0, u1, u2]) L[i]) (hl : xs.length = L.length * 3)
    (hb3 : Below wr.heap.size wr w3) (ht : TermIn (from_ wr.heap.size) w3 (.agg #[u0, u1, u2]) t)
    (hown : w4.ownsRow w0.heap.size 29 3 (.slice (some ⟨g, 0, none⟩) (L.length + 1) cap) (L.length + 1) (xs ++ [u0, u1, u2])) (hgrow : (w3.alloc (.cells #[u0, u1, u2] 29)).grownBy w4 kv.ownBlock)
    (hat : kv.ownBlock = some g ∨ g = w3.heap.size + 1) : KnAt w0 (L ++ [t]) (.slice (some ⟨g, 0, none⟩) (L.length + 1) cap) w4 := by
  have hb3' := hb3.trans ((below_alloc1 w3 (.cells #[u0, u1, u2] 29)).mono hb3.size)
  refine ⟨?_, (hb.trans (hb3'.mono hb.size)).grown hgrow (by rw [size_alloc1]; have := hb3.size; have := hb.size; omega) (fun k hk => (hrow.block k hk).1)⟩
  exact TermsRow.snoc (w := w3.alloc (.cells #[u0, u1, u2] 29)) (H := w3.heap.size + 1) (t := t) (fun i hi => by
      obtain ⟨a0, a1, a2, b0, b1, b2, b3⟩ := hx i hi
      exact ⟨a0, a1, a2, b0, b1, b2, b3.keep fun b hb hlt => ⟨hb, hb3'.block b hlt⟩⟩) hl
    (ht.keep fun b hbb hlt => ⟨but_iff.2 ⟨by have := of_decide_eq_true hbb; have := hb.size; omega, fun e => by have := (hrow.block b e).2; have := of_decide_eq_true hbb; omega⟩, Below.heap_alloc w3 _ b hlt⟩)
    hown hgrow hat (by rw [size_alloc1])

set_option maxRecDepth 100000 in
set_option maxHeartbeats 4000000 in
theorem oproto_passive (w : World) : Calls Tryz.prog 30 #[.string b_passive] w (ProtoPost [s_cP, s_rP] m_known w) := by
  obtain ⟨i0, hi0, hz0, hz1, hz2⟩ := info_parts Tryz.infoT
  go_enter Tryz.func30, Tryz.ntmps30
  go_wp2_with fail
  refine (ochip_passive _).mono ?_; rintro e w1 ⟨A0, c0, rfl, hm, hb⟩
  have HM0 := Lib.hid hm.at
  have HB1 := Lib.hid (hb)
  clear hm hb
  go_wp2_with fail
  refine (oreader_passive _).mono ?_; rintro e w2 ⟨A1, c1, rfl, hm, hb⟩
  have HM0 := Lib.hid (MovesAt.later HM0.out hb)
  have HM1 := Lib.hid hm.at
  have HB2 := Lib.hid (HB1.out.trans (hb.mono HB1.out.size))
  clear hm hb
  go_upto_region 12 with fail
  have hst := strands_new2 (s0 := s_cP) (A0 := A0) (c0 := c0) (s1 := s_rP) (A1 := A1) (c1 := c1) HM0.out HM1.out
  have hb0 := HB2.out.trans ((below_alloc1 w2 (.cells #[.string s_cP.1, .slice A0 s_cP.2.length c0, .string s_rP.1, .slice A1 s_rP.2.length c1] 49)).mono HB2.out.size)
  obtain ⟨sa, hsa⟩ : ∃ sa : Addr, (⟨w2.heap.size, 0, none⟩ : Addr) = sa := ⟨_, rfl⟩
  rw [hsa] at hst ⊢
  change StrandsAt (w2.alloc (.cells #[.string s_cP.1, .slice A0 s_cP.2.length c0, .string s_rP.1, .slice A1 s_rP.2.length c1] 49)) (some sa) _ at hst
  generalize w2.alloc (.cells #[.string s_cP.1, .slice A0 s_cP.2.length c0, .string s_rP.1, .slice A1 s_rP.2.length c1] 49) = wa at hst hb0 ⊢
  have HSA := Lib.hid hst; have HB0 := Lib.hid hb0
  clear hst hb0 hsa HM0 HM1 HB1 HB2
  have hwt : Below wa.heap.size wa (wa.alloc (.cells #[.string ⟨#[100, 97, 116, 97]⟩, .string ⟨#[115, 105, 103, 110, 40, 115, 116, 97, 116, 101, 44, 32, 60, 100, 97, 116, 97, 44, 32, 112, 111, 119, 101, 114, 40, 99, 104, 105, 112, 41, 62, 41]⟩, .string ⟨#[112, 111, 119, 101, 114, 40, 115, 116, 97, 116, 101, 41]⟩, .string ⟨#[101, 118, 105, 108]⟩, .string ⟨#[112, 111, 119, 101, 114, 40, 101, 118, 105, 108, 41]⟩] 9)) := below_alloc1 wa _
  have htx : TextsAt (wa.alloc (.cells #[.string ⟨#[100, 97, 116, 97]⟩, .string ⟨#[115, 105, 103, 110, 40, 115, 116, 97, 116, 101, 44, 32, 60, 100, 97, 116, 97, 44, 32, 112, 111, 119, 101, 114, 40, 99, 104, 105, 112, 41, 62, 41]⟩, .string ⟨#[112, 111, 119, 101, 114, 40, 115, 116, 97, 116, 101, 41]⟩, .string ⟨#[101, 118, 105, 108]⟩, .string ⟨#[112, 111, 119, 101, 114, 40, 101, 118, 105, 108, 41]⟩] 9)) (some ⟨wa.heap.size, 0, none⟩) x_known := texts_new wa x_known
  go_wp2_with fail
  generalize wa.alloc (.cells #[.string ⟨#[100, 97, 116, 97]⟩, .string ⟨#[115, 105, 103, 110, 40, 115, 116, 97, 116, 101, 44, 32, 60, 100, 97, 116, 97, 44, 32, 112, 111, 119, 101, 114, 40, 99, 104, 105, 112, 41, 62, 41]⟩, .string ⟨#[112, 111, 119, 101, 114, 40, 115, 116, 97, 116, 101, 41]⟩, .string ⟨#[101, 118, 105, 108]⟩, .string ⟨#[112, 111, 119, 101, 114, 40, 101, 118, 105, 108, 41]⟩] 9) = w0 at htx hwt ⊢
  have HTX := Lib.hid htx
  have HB1 := Lib.hid (HB0.out.trans (hwt.mono HB0.out.size))
  have HSA1 := Lib.hid (HSA.out.later hwt)
  clear htx hwt
  go_loopw [35, 6] (fun i k wr => ∃ j : Nat, j ≤ 5 ∧ i = .int .i64 j ∧ KnAt w0 (m_known.take j) k wr) (fun i _ _ => 5 - (intOf i).toNat)
  case atStart => exact ⟨0, Nat.zero_le _, rfl, TermsRow.nil _ _, Below.refl _ _⟩
  case round =>
    obtain ⟨j, hj, rfl, hrow, hbw⟩ := hrel
    by_cases hlt : j < 5
    · obtain ⟨b, off, hb', d0⟩ := HTX.out.cell j hlt
      have e0 := cell_later hbw d0
      obtain ⟨x, hx⟩ : ∃ x, x_known[j]'hlt = x := ⟨_, rfl⟩
      rw [hx] at e0
      have HTK := Lib.hid (show m_known.take j ++ [(T.parse x).1] = m_known.take (j + 1) by rw [List.take_succ_eq_append_getElem (show j < m_known.length from hlt)]; congr 2; rw [← hx]; unfold m_known; rw [List.getElem_map])
      injection hb' with hb'; injection hb' with e1 e2 e3; subst e1; subst e2
      clear d0 hx
      rw [Nat.zero_add] at e0
      have hi : (j : Int) < 5 := by omega
      obtain ⟨xs, hown, hxs⟩ := hrow.owns
      have hlen : (List.take j m_known).length = j := by rw [List.length_take]; exact Nat.min_eq_left (by show j ≤ 5; omega)
      have HSTEP := Lib.hid (fun t w3 w4 u0 u1 u2 g cap => KnAt.step (t := t) (w3 := w3) (w4 := w4) (u0 := u0) (u1 := u1) (u2 := u2) (g := g) (cap := cap) hrow hbw hxs hown.1)
      rw [hlen] at hown HSTEP
      have HOWN := Lib.hid hown; have HLT := Lib.hid hlt; have HBW := Lib.hid hbw
      clear hrow hbw hxs hown hlen hlt hj
      go_wp2_with fail
      refine (omove 0 x _).mono ?_; rintro e w3 ⟨A3, C3, rfl, hti, hb3⟩
      have HOWN3 := Lib.hid ((own_later HOWN.out hb3).alloc (.cells #[.int .i64 (T.parse x).1.kind, .string (T.parse x).1.name, .slice A3 (T.parse x).1.kids.length C3] 29))
      have HONE := Lib.hid hti.one
      have HTI := Lib.hid hti; have HB3 := Lib.hid hb3
      have HMS := Lib.hid (show w0.heap.size ≤ (w3.alloc (.cells #[.int .i64 (T.parse x).1.kind, .string (T.parse x).1.name, .slice A3 (T.parse x).1.kids.length C3] 29)).heap.size by rw [size_alloc1]; have := hb3.size; have := HBW.out.size; omega)
      have hfld : ∀ W, Sem.run Tryz.prog (Instr.field 52 (Value.agg #[.int .i64 0, .int .i64 (T.parse x).1.kind, .string (T.parse x).1.name, .slice A3 (T.parse x).1.kids.length C3]) 1) W = .ok (.agg #[.int .i64 (T.parse x).1.kind, .string (T.parse x).1.name, .slice A3 (T.parse x).1.kids.length C3]) W := fun W => by rfl
      clear hti hb3 e0
      go_wp2_with (at_builtin; refine wpList_append_lies _ rfl _ _ 27 rfl w0.heap.size 29 i0 _ 3 48 Tryz.underlying27 hi0 hz0 hz1 hz2 rfl (by omega) _ j _ rfl HOWN3.out ⟨w3.heap.size, 0, none⟩ 1 1 _ rfl rfl (World.news_of_block (heap_alloc_new _ _)) HONE.out (by omega) (by unfold maxLen; omega) (by omega) HMS.out _ rfl ?_; intro g4 cap4 w4 hown4 hg4 hat4 hlt4)
      have hfin := HSTEP.out (T.parse x).1 w3 w4 _ _ _ g4 cap4 HB3.out HTI.out hown4 hg4 (hat4.imp id (fun h => h.trans (size_alloc1 _ _)))
      rw [HTK.out] at hfin
      have HFIN := Lib.hid hfin
      clear hfin hg4 hown4 hat4 hlt4
      go_wp2_with fail
      go_roundw
      case rel => exact ⟨j + 1, HLT.out, by go_num, HFIN.out⟩
      case measure => have := HLT.out; simp [intOf]; omega
    · obtain rfl : j = 5 := by omega
      rw [List.take_of_length_le (show m_known.length ≤ 5 from Nat.le_refl _)] at hrow
      obtain ⟨A6, c6, hkv, _, _⟩ := hrow.shape
      have HL := Lib.hid (show TermsL wr _ m_known from hrow.list)
      rw [hkv] at HL
      have HBW := Lib.hid hbw
      subst hkv
      clear hrow hbw
      go_wp2_with fail
      refine bodyPost_ret (v := .tuple #[.slice (some sa) 2 _, .slice A6 m_known.length c6, .bool true]) (by simp [results, Tryz.results30, go_sem]; try rfl) rfl ?_
      exact ⟨_, _, _, _, rfl, HSA1.out.later HBW.out, HL.out, HB1.out.trans (HBW.out.mono HB1.out.size)⟩
set_option maxRecDepth 100000 in
set_option maxHeartbeats 4000000 in
theorem oproto_active (w : World) : Calls Tryz.prog 30 #[.string b_active] w (ProtoPost [s_cA, s_rA] m_known w) := by
  obtain ⟨i0, hi0, hz0, hz1, hz2⟩ := info_parts Tryz.infoT
  go_enter Tryz.func30, Tryz.ntmps30
  go_wp2_with fail
  refine (ochip_active _).mono ?_; rintro e w1 ⟨A0, c0, rfl, hm, hb⟩
  have HM0 := Lib.hid hm.at
  have HB1 := Lib.hid (hb)
  clear hm hb
  go_wp2_with fail
  refine (oreader_active _).mono ?_; rintro e w2 ⟨A1, c1, rfl, hm, hb⟩
  have HM0 := Lib.hid (MovesAt.later HM0.out hb)
  have HM1 := Lib.hid hm.at
  have HB2 := Lib.hid (HB1.out.trans (hb.mono HB1.out.size))
  clear hm hb
  go_upto_region 12 with fail
  have hst := strands_new2 (s0 := s_cA) (A0 := A0) (c0 := c0) (s1 := s_rA) (A1 := A1) (c1 := c1) HM0.out HM1.out
  have hb0 := HB2.out.trans ((below_alloc1 w2 (.cells #[.string s_cA.1, .slice A0 s_cA.2.length c0, .string s_rA.1, .slice A1 s_rA.2.length c1] 49)).mono HB2.out.size)
  obtain ⟨sa, hsa⟩ : ∃ sa : Addr, (⟨w2.heap.size, 0, none⟩ : Addr) = sa := ⟨_, rfl⟩
  rw [hsa] at hst ⊢
  change StrandsAt (w2.alloc (.cells #[.string s_cA.1, .slice A0 s_cA.2.length c0, .string s_rA.1, .slice A1 s_rA.2.length c1] 49)) (some sa) _ at hst
  generalize w2.alloc (.cells #[.string s_cA.1, .slice A0 s_cA.2.length c0, .string s_rA.1, .slice A1 s_rA.2.length c1] 49) = wa at hst hb0 ⊢
  have HSA := Lib.hid hst; have HB0 := Lib.hid hb0
  clear hst hb0 hsa HM0 HM1 HB1 HB2
  have hwt : Below wa.heap.size wa (wa.alloc (.cells #[.string ⟨#[100, 97, 116, 97]⟩, .string ⟨#[115, 105, 103, 110, 40, 115, 116, 97, 116, 101, 44, 32, 60, 100, 97, 116, 97, 44, 32, 112, 111, 119, 101, 114, 40, 99, 104, 105, 112, 41, 62, 41]⟩, .string ⟨#[112, 111, 119, 101, 114, 40, 115, 116, 97, 116, 101, 41]⟩, .string ⟨#[101, 118, 105, 108]⟩, .string ⟨#[112, 111, 119, 101, 114, 40, 101, 118, 105, 108, 41]⟩] 9)) := below_alloc1 wa _
  have htx : TextsAt (wa.alloc (.cells #[.string ⟨#[100, 97, 116, 97]⟩, .string ⟨#[115, 105, 103, 110, 40, 115, 116, 97, 116, 101, 44, 32, 60, 100, 97, 116, 97, 44, 32, 112, 111, 119, 101, 114, 40, 99, 104, 105, 112, 41, 62, 41]⟩, .string ⟨#[112, 111, 119, 101, 114, 40, 115, 116, 97, 116, 101, 41]⟩, .string ⟨#[101, 118, 105, 108]⟩, .string ⟨#[112, 111, 119, 101, 114, 40, 101, 118, 105, 108, 41]⟩] 9)) (some ⟨wa.heap.size, 0, none⟩) x_known := texts_new wa x_known
  go_wp2_with fail
  generalize wa.alloc (.cells #[.string ⟨#[100, 97, 116, 97]⟩, .string ⟨#[115, 105, 103, 110, 40, 115, 116, 97, 116, 101, 44, 32, 60, 100, 97, 116, 97, 44, 32, 112, 111, 119, 101, 114, 40, 99, 104, 105, 112, 41, 62, 41]⟩, .string ⟨#[112, 111, 119, 101, 114, 40, 115, 116, 97, 116, 101, 41]⟩, .string ⟨#[101, 118, 105, 108]⟩, .string ⟨#[112, 111, 119, 101, 114, 40, 101, 118, 105, 108, 41]⟩] 9) = w0 at htx hwt ⊢
  have HTX := Lib.hid htx
  have HB1 := Lib.hid (HB0.out.trans (hwt.mono HB0.out.size))
  have HSA1 := Lib.hid (HSA.out.later hwt)
  clear htx hwt
  go_loopw [35, 6] (fun i k wr => ∃ j : Nat, j ≤ 5 ∧ i = .int .i64 j ∧ KnAt w0 (m_known.take j) k wr) (fun i _ _ => 5 - (intOf i).toNat)
  case atStart => exact ⟨0, Nat.zero_le _, rfl, TermsRow.nil _ _, Below.refl _ _⟩
  case round =>
    obtain ⟨j, hj, rfl, hrow, hbw⟩ := hrel
    by_cases hlt : j < 5
    · obtain ⟨b, off, hb', d0⟩ := HTX.out.cell j hlt
      have e0 := cell_later hbw d0
      obtain ⟨x, hx⟩ : ∃ x, x_known[j]'hlt = x := ⟨_, rfl⟩
      rw [hx] at e0
      have HTK := Lib.hid (show m_known.take j ++ [(T.parse x).1] = m_known.take (j + 1) by rw [List.take_succ_eq_append_getElem (show j < m_known.length from hlt)]; congr 2; rw [← hx]; unfold m_known; rw [List.getElem_map])
      injection hb' with hb'; injection hb' with e1 e2 e3; subst e1; subst e2
      clear d0 hx
      rw [Nat.zero_add] at e0
      have hi : (j : Int) < 5 := by omega
      obtain ⟨xs, hown, hxs⟩ := hrow.owns
      have hlen : (List.take j m_known).length = j := by rw [List.length_take]; exact Nat.min_eq_left (by show j ≤ 5; omega)
      have HSTEP := Lib.hid (fun t w3 w4 u0 u1 u2 g cap => KnAt.step (t := t) (w3 := w3) (w4 := w4) (u0 := u0) (u1 := u1) (u2 := u2) (g := g) (cap := cap) hrow hbw hxs hown.1)
      rw [hlen] at hown HSTEP
      have HOWN := Lib.hid hown; have HLT := Lib.hid hlt; have HBW := Lib.hid hbw
      clear hrow hbw hxs hown hlen hlt hj
      go_wp2_with fail
      refine (omove 0 x _).mono ?_; rintro e w3 ⟨A3, C3, rfl, hti, hb3⟩
      have HOWN3 := Lib.hid ((own_later HOWN.out hb3).alloc (.cells #[.int .i64 (T.parse x).1.kind, .string (T.parse x).1.name, .slice A3 (T.parse x).1.kids.length C3] 29))
      have HONE := Lib.hid hti.one
      have HTI := Lib.hid hti; have HB3 := Lib.hid hb3
      have HMS := Lib.hid (show w0.heap.size ≤ (w3.alloc (.cells #[.int .i64 (T.parse x).1.kind, .string (T.parse x).1.name, .slice A3 (T.parse x).1.kids.length C3] 29)).heap.size by rw [size_alloc1]; have := hb3.size; have := HBW.out.size; omega)
      have hfld : ∀ W, Sem.run Tryz.prog (Instr.field 52 (Value.agg #[.int .i64 0, .int .i64 (T.parse x).1.kind, .string (T.parse x).1.name, .slice A3 (T.parse x).1.kids.length C3]) 1) W = .ok (.agg #[.int .i64 (T.parse x).1.kind, .string (T.parse x).1.name, .slice A3 (T.parse x).1.kids.length C3]) W := fun W => by rfl
      clear hti hb3 e0
      go_wp2_with (at_builtin; refine wpList_append_lies _ rfl _ _ 27 rfl w0.heap.size 29 i0 _ 3 48 Tryz.underlying27 hi0 hz0 hz1 hz2 rfl (by omega) _ j _ rfl HOWN3.out ⟨w3.heap.size, 0, none⟩ 1 1 _ rfl rfl (World.news_of_block (heap_alloc_new _ _)) HONE.out (by omega) (by unfold maxLen; omega) (by omega) HMS.out _ rfl ?_; intro g4 cap4 w4 hown4 hg4 hat4 hlt4)
      have hfin := HSTEP.out (T.parse x).1 w3 w4 _ _ _ g4 cap4 HB3.out HTI.out hown4 hg4 (hat4.imp id (fun h => h.trans (size_alloc1 _ _)))
      rw [HTK.out] at hfin
      have HFIN := Lib.hid hfin
      clear hfin hg4 hown4 hat4 hlt4
      go_wp2_with fail
      go_roundw
      case rel => exact ⟨j + 1, HLT.out, by go_num, HFIN.out⟩
      case measure => have := HLT.out; simp [intOf]; omega
    · obtain rfl : j = 5 := by omega
      rw [List.take_of_length_le (show m_known.length ≤ 5 from Nat.le_refl _)] at hrow
      obtain ⟨A6, c6, hkv, _, _⟩ := hrow.shape
      have HL := Lib.hid (show TermsL wr _ m_known from hrow.list)
      rw [hkv] at HL
      have HBW := Lib.hid hbw
      subst hkv
      clear hrow hbw
      go_wp2_with fail
      refine bodyPost_ret (v := .tuple #[.slice (some sa) 2 _, .slice A6 m_known.length c6, .bool true]) (by simp [results, Tryz.results30, go_sem]; try rfl) rfl ?_
      exact ⟨_, _, _, _, rfl, HSA1.out.later HBW.out, HL.out, HB1.out.trans (HBW.out.mono HB1.out.size)⟩
set_option maxRecDepth 100000 in
set_option maxHeartbeats 4000000 in
theorem oproto_exchange (w : World) : Calls Tryz.prog 30 #[.string b_exchange] w (ProtoPost [s_cE, s_rE] m_known w) := by
  obtain ⟨i0, hi0, hz0, hz1, hz2⟩ := info_parts Tryz.infoT
  go_enter Tryz.func30, Tryz.ntmps30
  go_wp2_with fail
  refine (ochip_exchange _).mono ?_; rintro e w1 ⟨A0, c0, rfl, hm, hb⟩
  have HM0 := Lib.hid hm.at
  have HB1 := Lib.hid (hb)
  clear hm hb
  go_wp2_with fail
  refine (oreader_exchange _).mono ?_; rintro e w2 ⟨A1, c1, rfl, hm, hb⟩
  have HM0 := Lib.hid (MovesAt.later HM0.out hb)
  have HM1 := Lib.hid hm.at
  have HB2 := Lib.hid (HB1.out.trans (hb.mono HB1.out.size))
  clear hm hb
  go_upto_region 12 with fail
  have hst := strands_new2 (s0 := s_cE) (A0 := A0) (c0 := c0) (s1 := s_rE) (A1 := A1) (c1 := c1) HM0.out HM1.out
  have hb0 := HB2.out.trans ((below_alloc1 w2 (.cells #[.string s_cE.1, .slice A0 s_cE.2.length c0, .string s_rE.1, .slice A1 s_rE.2.length c1] 49)).mono HB2.out.size)
  obtain ⟨sa, hsa⟩ : ∃ sa : Addr, (⟨w2.heap.size, 0, none⟩ : Addr) = sa := ⟨_, rfl⟩
  rw [hsa] at hst ⊢
  change StrandsAt (w2.alloc (.cells #[.string s_cE.1, .slice A0 s_cE.2.length c0, .string s_rE.1, .slice A1 s_rE.2.length c1] 49)) (some sa) _ at hst
  generalize w2.alloc (.cells #[.string s_cE.1, .slice A0 s_cE.2.length c0, .string s_rE.1, .slice A1 s_rE.2.length c1] 49) = wa at hst hb0 ⊢
  have HSA := Lib.hid hst; have HB0 := Lib.hid hb0
  clear hst hb0 hsa HM0 HM1 HB1 HB2
  have hwt : Below wa.heap.size wa (wa.alloc (.cells #[.string ⟨#[100, 97, 116, 97]⟩, .string ⟨#[115, 105, 103, 110, 40, 115, 116, 97, 116, 101, 44, 32, 60, 100, 97, 116, 97, 44, 32, 112, 111, 119, 101, 114, 40, 99, 104, 105, 112, 41, 62, 41]⟩, .string ⟨#[112, 111, 119, 101, 114, 40, 115, 116, 97, 116, 101, 41]⟩, .string ⟨#[101, 118, 105, 108]⟩, .string ⟨#[112, 111, 119, 101, 114, 40, 101, 118, 105, 108, 41]⟩] 9)) := below_alloc1 wa _
  have htx : TextsAt (wa.alloc (.cells #[.string ⟨#[100, 97, 116, 97]⟩, .string ⟨#[115, 105, 103, 110, 40, 115, 116, 97, 116, 101, 44, 32, 60, 100, 97, 116, 97, 44, 32, 112, 111, 119, 101, 114, 40, 99, 104, 105, 112, 41, 62, 41]⟩, .string ⟨#[112, 111, 119, 101, 114, 40, 115, 116, 97, 116, 101, 41]⟩, .string ⟨#[101, 118, 105, 108]⟩, .string ⟨#[112, 111, 119, 101, 114, 40, 101, 118, 105, 108, 41]⟩] 9)) (some ⟨wa.heap.size, 0, none⟩) x_known := texts_new wa x_known
  go_wp2_with fail
  generalize wa.alloc (.cells #[.string ⟨#[100, 97, 116, 97]⟩, .string ⟨#[115, 105, 103, 110, 40, 115, 116, 97, 116, 101, 44, 32, 60, 100, 97, 116, 97, 44, 32, 112, 111, 119, 101, 114, 40, 99, 104, 105, 112, 41, 62, 41]⟩, .string ⟨#[112, 111, 119, 101, 114, 40, 115, 116, 97, 116, 101, 41]⟩, .string ⟨#[101, 118, 105, 108]⟩, .string ⟨#[112, 111, 119, 101, 114, 40, 101, 118, 105, 108, 41]⟩] 9) = w0 at htx hwt ⊢
  have HTX := Lib.hid htx
  have HB1 := Lib.hid (HB0.out.trans (hwt.mono HB0.out.size))
  have HSA1 := Lib.hid (HSA.out.later hwt)
  clear htx hwt
  go_loopw [35, 6] (fun i k wr => ∃ j : Nat, j ≤ 5 ∧ i = .int .i64 j ∧ KnAt w0 (m_known.take j) k wr) (fun i _ _ => 5 - (intOf i).toNat)
  case atStart => exact ⟨0, Nat.zero_le _, rfl, TermsRow.nil _ _, Below.refl _ _⟩
  case round =>
    obtain ⟨j, hj, rfl, hrow, hbw⟩ := hrel
    by_cases hlt : j < 5
    · obtain ⟨b, off, hb', d0⟩ := HTX.out.cell j hlt
      have e0 := cell_later hbw d0
      obtain ⟨x, hx⟩ : ∃ x, x_known[j]'hlt = x := ⟨_, rfl⟩
      rw [hx] at e0
      have HTK := Lib.hid (show m_known.take j ++ [(T.parse x).1] = m_known.take (j + 1) by rw [List.take_succ_eq_append_getElem (show j < m_known.length from hlt)]; congr 2; rw [← hx]; unfold m_known; rw [List.getElem_map])
      injection hb' with hb'; injection hb' with e1 e2 e3; subst e1; subst e2
      clear d0 hx
      rw [Nat.zero_add] at e0
      have hi : (j : Int) < 5 := by omega
      obtain ⟨xs, hown, hxs⟩ := hrow.owns
      have hlen : (List.take j m_known).length = j := by rw [List.length_take]; exact Nat.min_eq_left (by show j ≤ 5; omega)
      have HSTEP := Lib.hid (fun t w3 w4 u0 u1 u2 g cap => KnAt.step (t := t) (w3 := w3) (w4 := w4) (u0 := u0) (u1 := u1) (u2 := u2) (g := g) (cap := cap) hrow hbw hxs hown.1)
      rw [hlen] at hown HSTEP
      have HOWN := Lib.hid hown; have HLT := Lib.hid hlt; have HBW := Lib.hid hbw
      clear hrow hbw hxs hown hlen hlt hj
      go_wp2_with fail
      refine (omove 0 x _).mono ?_; rintro e w3 ⟨A3, C3, rfl, hti, hb3⟩
      have HOWN3 := Lib.hid ((own_later HOWN.out hb3).alloc (.cells #[.int .i64 (T.parse x).1.kind, .string (T.parse x).1.name, .slice A3 (T.parse x).1.kids.length C3] 29))
      have HONE := Lib.hid hti.one
      have HTI := Lib.hid hti; have HB3 := Lib.hid hb3
      have HMS := Lib.hid (show w0.heap.size ≤ (w3.alloc (.cells #[.int .i64 (T.parse x).1.kind, .string (T.parse x).1.name, .slice A3 (T.parse x).1.kids.length C3] 29)).heap.size by rw [size_alloc1]; have := hb3.size; have := HBW.out.size; omega)
      have hfld : ∀ W, Sem.run Tryz.prog (Instr.field 52 (Value.agg #[.int .i64 0, .int .i64 (T.parse x).1.kind, .string (T.parse x).1.name, .slice A3 (T.parse x).1.kids.length C3]) 1) W = .ok (.agg #[.int .i64 (T.parse x).1.kind, .string (T.parse x).1.name, .slice A3 (T.parse x).1.kids.length C3]) W := fun W => by rfl
      clear hti hb3 e0
      go_wp2_with (at_builtin; refine wpList_append_lies _ rfl _ _ 27 rfl w0.heap.size 29 i0 _ 3 48 Tryz.underlying27 hi0 hz0 hz1 hz2 rfl (by omega) _ j _ rfl HOWN3.out ⟨w3.heap.size, 0, none⟩ 1 1 _ rfl rfl (World.news_of_block (heap_alloc_new _ _)) HONE.out (by omega) (by unfold maxLen; omega) (by omega) HMS.out _ rfl ?_; intro g4 cap4 w4 hown4 hg4 hat4 hlt4)
      have hfin := HSTEP.out (T.parse x).1 w3 w4 _ _ _ g4 cap4 HB3.out HTI.out hown4 hg4 (hat4.imp id (fun h => h.trans (size_alloc1 _ _)))
      rw [HTK.out] at hfin
      have HFIN := Lib.hid hfin
      clear hfin hg4 hown4 hat4 hlt4
      go_wp2_with fail
      go_roundw
      case rel => exact ⟨j + 1, HLT.out, by go_num, HFIN.out⟩
      case measure => have := HLT.out; simp [intOf]; omega
    · obtain rfl : j = 5 := by omega
      rw [List.take_of_length_le (show m_known.length ≤ 5 from Nat.le_refl _)] at hrow
      obtain ⟨A6, c6, hkv, _, _⟩ := hrow.shape
      have HL := Lib.hid (show TermsL wr _ m_known from hrow.list)
      rw [hkv] at HL
      have HBW := Lib.hid hbw
      subst hkv
      clear hrow hbw
      go_wp2_with fail
      refine bodyPost_ret (v := .tuple #[.slice (some sa) 2 _, .slice A6 m_known.length c6, .bool true]) (by simp [results, Tryz.results30, go_sem]; try rfl) rfl ?_
      exact ⟨_, _, _, _, rfl, HSA1.out.later HBW.out, HL.out, HB1.out.trans (HBW.out.mono HB1.out.size)⟩
set_option maxRecDepth 100000 in
set_option maxHeartbeats 4000000 in
theorem oproto_blind (w : World) : Calls Tryz.prog 30 #[.string b_blind] w (ProtoPost [s_cA, s_cA, s_rA] m_known w) := by
  obtain ⟨i0, hi0, hz0, hz1, hz2⟩ := info_parts Tryz.infoT
  go_enter Tryz.func30, Tryz.ntmps30
  go_wp2_with fail
  refine (ochip_blind _).mono ?_; rintro e w1 ⟨A0, c0, rfl, hm, hb⟩
  have HM0 := Lib.hid hm.at
  have HB1 := Lib.hid (hb)
  clear hm hb
  go_wp2_with fail
  refine (ochip_blind _).mono ?_; rintro e w2 ⟨A1, c1, rfl, hm, hb⟩
  have HM0 := Lib.hid (MovesAt.later HM0.out hb)
  have HM1 := Lib.hid hm.at
  have HB2 := Lib.hid (HB1.out.trans (hb.mono HB1.out.size))
  clear hm hb
  go_wp2_with fail
  refine (oreader_blind _).mono ?_; rintro e w3 ⟨A2, c2, rfl, hm, hb⟩
  have HM0 := Lib.hid (MovesAt.later HM0.out hb)
  have HM1 := Lib.hid (MovesAt.later HM1.out hb)
  have HM2 := Lib.hid hm.at
  have HB3 := Lib.hid (HB2.out.trans (hb.mono HB2.out.size))
  clear hm hb
  go_upto_region 12 with fail
  have hst := strands_new3 (s0 := s_cA) (A0 := A0) (c0 := c0) (s1 := s_cA) (A1 := A1) (c1 := c1) (s2 := s_rA) (A2 := A2) (c2 := c2) HM0.out HM1.out HM2.out
  have hb0 := HB3.out.trans ((below_alloc1 w3 (.cells #[.string s_cA.1, .slice A0 s_cA.2.length c0, .string s_cA.1, .slice A1 s_cA.2.length c1, .string s_rA.1, .slice A2 s_rA.2.length c2] 49)).mono HB3.out.size)
  obtain ⟨sa, hsa⟩ : ∃ sa : Addr, (⟨w3.heap.size, 0, none⟩ : Addr) = sa := ⟨_, rfl⟩
  rw [hsa] at hst ⊢
  change StrandsAt (w3.alloc (.cells #[.string s_cA.1, .slice A0 s_cA.2.length c0, .string s_cA.1, .slice A1 s_cA.2.length c1, .string s_rA.1, .slice A2 s_rA.2.length c2] 49)) (some sa) _ at hst
  generalize w3.alloc (.cells #[.string s_cA.1, .slice A0 s_cA.2.length c0, .string s_cA.1, .slice A1 s_cA.2.length c1, .string s_rA.1, .slice A2 s_rA.2.length c2] 49) = wa at hst hb0 ⊢
  have HSA := Lib.hid hst; have HB0 := Lib.hid hb0
  clear hst hb0 hsa HM0 HM1 HM2 HB1 HB2 HB3
  have hwt : Below wa.heap.size wa (wa.alloc (.cells #[.string ⟨#[100, 97, 116, 97]⟩, .string ⟨#[115, 105, 103, 110, 40, 115, 116, 97, 116, 101, 44, 32, 60, 100, 97, 116, 97, 44, 32, 112, 111, 119, 101, 114, 40, 99, 104, 105, 112, 41, 62, 41]⟩, .string ⟨#[112, 111, 119, 101, 114, 40, 115, 116, 97, 116, 101, 41]⟩, .string ⟨#[101, 118, 105, 108]⟩, .string ⟨#[112, 111, 119, 101, 114, 40, 101, 118, 105, 108, 41]⟩] 9)) := below_alloc1 wa _
  have htx : TextsAt (wa.alloc (.cells #[.string ⟨#[100, 97, 116, 97]⟩, .string ⟨#[115, 105, 103, 110, 40, 115, 116, 97, 116, 101, 44, 32, 60, 100, 97, 116, 97, 44, 32, 112, 111, 119, 101, 114, 40, 99, 104, 105, 112, 41, 62, 41]⟩, .string ⟨#[112, 111, 119, 101, 114, 40, 115, 116, 97, 116, 101, 41]⟩, .string ⟨#[101, 118, 105, 108]⟩, .string ⟨#[112, 111, 119, 101, 114, 40, 101, 118, 105, 108, 41]⟩] 9)) (some ⟨wa.heap.size, 0, none⟩) x_known := texts_new wa x_known
  go_wp2_with fail
  generalize wa.alloc (.cells #[.string ⟨#[100, 97, 116, 97]⟩, .string ⟨#[115, 105, 103, 110, 40, 115, 116, 97, 116, 101, 44, 32, 60, 100, 97, 116, 97, 44, 32, 112, 111, 119, 101, 114, 40, 99, 104, 105, 112, 41, 62, 41]⟩, .string ⟨#[112, 111, 119, 101, 114, 40, 115, 116, 97, 116, 101, 41]⟩, .string ⟨#[101, 118, 105, 108]⟩, .string ⟨#[112, 111, 119, 101, 114, 40, 101, 118, 105, 108, 41]⟩] 9) = w0 at htx hwt ⊢
  have HTX := Lib.hid htx
  have HB1 := Lib.hid (HB0.out.trans (hwt.mono HB0.out.size))
  have HSA1 := Lib.hid (HSA.out.later hwt)
  clear htx hwt
  go_loopw [35, 6] (fun i k wr => ∃ j : Nat, j ≤ 5 ∧ i = .int .i64 j ∧ KnAt w0 (m_known.take j) k wr) (fun i _ _ => 5 - (intOf i).toNat)
  case atStart => exact ⟨0, Nat.zero_le _, rfl, TermsRow.nil _ _, Below.refl _ _⟩
  case round =>
    obtain ⟨j, hj, rfl, hrow, hbw⟩ := hrel
    by_cases hlt : j < 5
    · obtain ⟨b, off, hb', d0⟩ := HTX.out.cell j hlt
      have e0 := cell_later hbw d0
      obtain ⟨x, hx⟩ : ∃ x, x_known[j]'hlt = x := ⟨_, rfl⟩
      rw [hx] at e0
      have HTK := Lib.hid (show m_known.take j ++ [(T.parse x).1] = m_known.take (j + 1) by rw [List.take_succ_eq_append_getElem (show j < m_known.length from hlt)]; congr 2; rw [← hx]; unfold m_known; rw [List.getElem_map])
      injection hb' with hb'; injection hb' with e1 e2 e3; subst e1; subst e2
      clear d0 hx
      rw [Nat.zero_add] at e0
      have hi : (j : Int) < 5 := by omega
      obtain ⟨xs, hown, hxs⟩ := hrow.owns
      have hlen : (List.take j m_known).length = j := by rw [List.length_take]; exact Nat.min_eq_left (by show j ≤ 5; omega)
      have HSTEP := Lib.hid (fun t w3 w4 u0 u1 u2 g cap => KnAt.step (t := t) (w3 := w3) (w4 := w4) (u0 := u0) (u1 := u1) (u2 := u2) (g := g) (cap := cap) hrow hbw hxs hown.1)
      rw [hlen] at hown HSTEP
      have HOWN := Lib.hid hown; have HLT := Lib.hid hlt; have HBW := Lib.hid hbw
      clear hrow hbw hxs hown hlen hlt hj
      go_wp2_with fail
      refine (omove 0 x _).mono ?_; rintro e w3 ⟨A3, C3, rfl, hti, hb3⟩
      have HOWN3 := Lib.hid ((own_later HOWN.out hb3).alloc (.cells #[.int .i64 (T.parse x).1.kind, .string (T.parse x).1.name, .slice A3 (T.parse x).1.kids.length C3] 29))
      have HONE := Lib.hid hti.one
      have HTI := Lib.hid hti; have HB3 := Lib.hid hb3
      have HMS := Lib.hid (show w0.heap.size ≤ (w3.alloc (.cells #[.int .i64 (T.parse x).1.kind, .string (T.parse x).1.name, .slice A3 (T.parse x).1.kids.length C3] 29)).heap.size by rw [size_alloc1]; have := hb3.size; have := HBW.out.size; omega)
      have hfld : ∀ W, Sem.run Tryz.prog (Instr.field 52 (Value.agg #[.int .i64 0, .int .i64 (T.parse x).1.kind, .string (T.parse x).1.name, .slice A3 (T.parse x).1.kids.length C3]) 1) W = .ok (.agg #[.int .i64 (T.parse x).1.kind, .string (T.parse x).1.name, .slice A3 (T.parse x).1.kids.length C3]) W := fun W => by rfl
      clear hti hb3 e0
      go_wp2_with (at_builtin; refine wpList_append_lies _ rfl _ _ 27 rfl w0.heap.size 29 i0 _ 3 48 Tryz.underlying27 hi0 hz0 hz1 hz2 rfl (by omega) _ j _ rfl HOWN3.out ⟨w3.heap.size, 0, none⟩ 1 1 _ rfl rfl (World.news_of_block (heap_alloc_new _ _)) HONE.out (by omega) (by unfold maxLen; omega) (by omega) HMS.out _ rfl ?_; intro g4 cap4 w4 hown4 hg4 hat4 hlt4)
      have hfin := HSTEP.out (T.parse x).1 w3 w4 _ _ _ g4 cap4 HB3.out HTI.out hown4 hg4 (hat4.imp id (fun h => h.trans (size_alloc1 _ _)))
      rw [HTK.out] at hfin
      have HFIN := Lib.hid hfin
      clear hfin hg4 hown4 hat4 hlt4
      go_wp2_with fail
      go_roundw
      case rel => exact ⟨j + 1, HLT.out, by go_num, HFIN.out⟩
      case measure => have := HLT.out; simp [intOf]; omega
    · obtain rfl : j = 5 := by omega
      rw [List.take_of_length_le (show m_known.length ≤ 5 from Nat.le_refl _)] at hrow
      obtain ⟨A6, c6, hkv, _, _⟩ := hrow.shape
      have HL := Lib.hid (show TermsL wr _ m_known from hrow.list)
      rw [hkv] at HL
      have HBW := Lib.hid hbw
      subst hkv
      clear hrow hbw
      go_wp2_with fail
      refine bodyPost_ret (v := .tuple #[.slice (some sa) 3 _, .slice A6 m_known.length c6, .bool true]) (by simp [results, Tryz.results30, go_sem]; try rfl) rfl ?_
      exact ⟨_, _, _, _, rfl, HSA1.out.later HBW.out, HL.out, HB1.out.trans (HBW.out.mono HB1.out.size)⟩
set_option maxRecDepth 100000 in
set_option maxHeartbeats 4000000 in
theorem oproto_clone (w : World) : Calls Tryz.prog 30 #[.string b_clone] w (ProtoPost [s_rP] m_known w) := by
  obtain ⟨i0, hi0, hz0, hz1, hz2⟩ := info_parts Tryz.infoT
  go_enter Tryz.func30, Tryz.ntmps30
  go_wp2_with fail
  refine (oreader_clone _).mono ?_; rintro e w1 ⟨A0, c0, rfl, hm, hb⟩
  have HM0 := Lib.hid hm.at
  have HB1 := Lib.hid (hb)
  clear hm hb
  go_upto_region 12 with fail
  have hst := strands_new1 (s0 := s_rP) (A0 := A0) (c0 := c0) HM0.out
  have hb0 := HB1.out.trans ((below_alloc1 w1 (.cells #[.string s_rP.1, .slice A0 s_rP.2.length c0] 49)).mono HB1.out.size)
  obtain ⟨sa, hsa⟩ : ∃ sa : Addr, (⟨w1.heap.size, 0, none⟩ : Addr) = sa := ⟨_, rfl⟩
  rw [hsa] at hst ⊢
  change StrandsAt (w1.alloc (.cells #[.string s_rP.1, .slice A0 s_rP.2.length c0] 49)) (some sa) _ at hst
  generalize w1.alloc (.cells #[.string s_rP.1, .slice A0 s_rP.2.length c0] 49) = wa at hst hb0 ⊢
  have HSA := Lib.hid hst; have HB0 := Lib.hid hb0
  clear hst hb0 hsa HM0 HB1
  have hwt : Below wa.heap.size wa (wa.alloc (.cells #[.string ⟨#[100, 97, 116, 97]⟩, .string ⟨#[115, 105, 103, 110, 40, 115, 116, 97, 116, 101, 44, 32, 60, 100, 97, 116, 97, 44, 32, 112, 111, 119, 101, 114, 40, 99, 104, 105, 112, 41, 62, 41]⟩, .string ⟨#[112, 111, 119, 101, 114, 40, 115, 116, 97, 116, 101, 41]⟩, .string ⟨#[101, 118, 105, 108]⟩, .string ⟨#[112, 111, 119, 101, 114, 40, 101, 118, 105, 108, 41]⟩] 9)) := below_alloc1 wa _
  have htx : TextsAt (wa.alloc (.cells #[.string ⟨#[100, 97, 116, 97]⟩, .string ⟨#[115, 105, 103, 110, 40, 115, 116, 97, 116, 101, 44, 32, 60, 100, 97, 116, 97, 44, 32, 112, 111, 119, 101, 114, 40, 99, 104, 105, 112, 41, 62, 41]⟩, .string ⟨#[112, 111, 119, 101, 114, 40, 115, 116, 97, 116, 101, 41]⟩, .string ⟨#[101, 118, 105, 108]⟩, .string ⟨#[112, 111, 119, 101, 114, 40, 101, 118, 105, 108, 41]⟩] 9)) (some ⟨wa.heap.size, 0, none⟩) x_known := texts_new wa x_known
  go_wp2_with fail
  generalize wa.alloc (.cells #[.string ⟨#[100, 97, 116, 97]⟩, .string ⟨#[115, 105, 103, 110, 40, 115, 116, 97, 116, 101, 44, 32, 60, 100, 97, 116, 97, 44, 32, 112, 111, 119, 101, 114, 40, 99, 104, 105, 112, 41, 62, 41]⟩, .string ⟨#[112, 111, 119, 101, 114, 40, 115, 116, 97, 116, 101, 41]⟩, .string ⟨#[101, 118, 105, 108]⟩, .string ⟨#[112, 111, 119, 101, 114, 40, 101, 118, 105, 108, 41]⟩] 9) = w0 at htx hwt ⊢
  have HTX := Lib.hid htx
  have HB1 := Lib.hid (HB0.out.trans (hwt.mono HB0.out.size))
  have HSA1 := Lib.hid (HSA.out.later hwt)
  clear htx hwt
  go_loopw [35, 6] (fun i k wr => ∃ j : Nat, j ≤ 5 ∧ i = .int .i64 j ∧ KnAt w0 (m_known.take j) k wr) (fun i _ _ => 5 - (intOf i).toNat)
  case atStart => exact ⟨0, Nat.zero_le _, rfl, TermsRow.nil _ _, Below.refl _ _⟩
  case round =>
    obtain ⟨j, hj, rfl, hrow, hbw⟩ := hrel
    by_cases hlt : j < 5
    · obtain ⟨b, off, hb', d0⟩ := HTX.out.cell j hlt
      have e0 := cell_later hbw d0
      obtain ⟨x, hx⟩ : ∃ x, x_known[j]'hlt = x := ⟨_, rfl⟩
      rw [hx] at e0
      have HTK := Lib.hid (show m_known.take j ++ [(T.parse x).1] = m_known.take (j + 1) by rw [List.take_succ_eq_append_getElem (show j < m_known.length from hlt)]; congr 2; rw [← hx]; unfold m_known; rw [List.getElem_map])
      injection hb' with hb'; injection hb' with e1 e2 e3; subst e1; subst e2
      clear d0 hx
      rw [Nat.zero_add] at e0
      have hi : (j : Int) < 5 := by omega
      obtain ⟨xs, hown, hxs⟩ := hrow.owns
      have hlen : (List.take j m_known).length = j := by rw [List.length_take]; exact Nat.min_eq_left (by show j ≤ 5; omega)
      have HSTEP := Lib.hid (fun t w3 w4 u0 u1 u2 g cap => KnAt.step (t := t) (w3 := w3) (w4 := w4) (u0 := u0) (u1 := u1) (u2 := u2) (g := g) (cap := cap) hrow hbw hxs hown.1)
      rw [hlen] at hown HSTEP
      have HOWN := Lib.hid hown; have HLT := Lib.hid hlt; have HBW := Lib.hid hbw
      clear hrow hbw hxs hown hlen hlt hj
      go_wp2_with fail
      refine (omove 0 x _).mono ?_; rintro e w3 ⟨A3, C3, rfl, hti, hb3⟩
      have HOWN3 := Lib.hid ((own_later HOWN.out hb3).alloc (.cells #[.int .i64 (T.parse x).1.kind, .string (T.parse x).1.name, .slice A3 (T.parse x).1.kids.length C3] 29))
      have HONE := Lib.hid hti.one
      have HTI := Lib.hid hti; have HB3 := Lib.hid hb3
      have HMS := Lib.hid (show w0.heap.size ≤ (w3.alloc (.cells #[.int .i64 (T.parse x).1.kind, .string (T.parse x).1.name, .slice A3 (T.parse x).1.kids.length C3] 29)).heap.size by rw [size_alloc1]; have := hb3.size; have := HBW.out.size; omega)
      have hfld : ∀ W, Sem.run Tryz.prog (Instr.field 52 (Value.agg #[.int .i64 0, .int .i64 (T.parse x).1.kind, .string (T.parse x).1.name, .slice A3 (T.parse x).1.kids.length C3]) 1) W = .ok (.agg #[.int .i64 (T.parse x).1.kind, .string (T.parse x).1.name, .slice A3 (T.parse x).1.kids.length C3]) W := fun W => by rfl
      clear hti hb3 e0
      go_wp2_with (at_builtin; refine wpList_append_lies _ rfl _ _ 27 rfl w0.heap.size 29 i0 _ 3 48 Tryz.underlying27 hi0 hz0 hz1 hz2 rfl (by omega) _ j _ rfl HOWN3.out ⟨w3.heap.size, 0, none⟩ 1 1 _ rfl rfl (World.news_of_block (heap_alloc_new _ _)) HONE.out (by omega) (by unfold maxLen; omega) (by omega) HMS.out _ rfl ?_; intro g4 cap4 w4 hown4 hg4 hat4 hlt4)
      have hfin := HSTEP.out (T.parse x).1 w3 w4 _ _ _ g4 cap4 HB3.out HTI.out hown4 hg4 (hat4.imp id (fun h => h.trans (size_alloc1 _ _)))
      rw [HTK.out] at hfin
      have HFIN := Lib.hid hfin
      clear hfin hg4 hown4 hat4 hlt4
      go_wp2_with fail
      go_roundw
      case rel => exact ⟨j + 1, HLT.out, by go_num, HFIN.out⟩
      case measure => have := HLT.out; simp [intOf]; omega
    · obtain rfl : j = 5 := by omega
      rw [List.take_of_length_le (show m_known.length ≤ 5 from Nat.le_refl _)] at hrow
      obtain ⟨A6, c6, hkv, _, _⟩ := hrow.shape
      have HL := Lib.hid (show TermsL wr _ m_known from hrow.list)
      rw [hkv] at HL
      have HBW := Lib.hid hbw
      subst hkv
      clear hrow hbw
      go_wp2_with fail
      refine bodyPost_ret (v := .tuple #[.slice (some sa) 1 _, .slice A6 m_known.length c6, .bool true]) (by simp [results, Tryz.results30, go_sem]; try rfl) rfl ?_
      exact ⟨_, _, _, _, rfl, HSA1.out.later HBW.out, HL.out, HB1.out.trans (HBW.out.mono HB1.out.size)⟩
end Go.Proofs.YtihbmgkbipeakaaGreat
