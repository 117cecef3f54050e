/- Chapter 42: a term made of a text: the walks of term, of the law and of the reference. -/
import Derived.Test.YtihbmgkbipeakaaGreatStrGC
import Derived.Test.YtihbmgkbipeakaaGreatTermRParse
namespace Go.Proofs.YtihbmgkbipeakaaGreat
open Go.RowKit

set_option maxRecDepth 100000 in
set_option maxHeartbeats 4000000 in
theorem law_term (s : ByteArray) (w : World) : Calls Tryz.prog 57 #[.string s] w (RetT (T.parse s).1 w) := by
  have hb0 := Box.new w (.int .i64 0) (.string ⟨#[]⟩) (.slice none 0 0)
  have hw := below_alloc1 w (.cells #[.int .i64 0, .string ⟨#[]⟩, .slice none 0 0] 29)
  have hz := size_alloc1 w (.cells #[.int .i64 0, .string ⟨#[]⟩, .slice none 0 0] 29)
  have HP := Lib.hid (fun W => rparse s W)
  obtain ⟨p, hp⟩ : ∃ p, T.parse s = p := ⟨_, rfl⟩
  rw [hp] at HP ⊢
  clear hp
  obtain ⟨t, i, c⟩ := p
  go_enter Tryz.func57, Tryz.ntmps57
  go_upto_region 1 with fail
  generalize w.alloc (.cells #[.int .i64 0, .string ⟨#[]⟩, .slice none 0 0] 29) = w1 at hb0 hw hz ⊢
  have HB0 := Lib.hid hb0; have HW := Lib.hid hw; have HZ := Lib.hid hz
  clear hb0 hw hz
  go_wp2_with fail
  refine (HP.out _).mono ?_; rintro e w2 ⟨A2, C2, rfl, ht2, hb2⟩
  dsimp only at ht2 ⊢
  have HT2 := Lib.hid (ht2.keep (w' := w2) (S' := from_ (w.heap.size + 1)) fun b hb _ => ⟨decide_eq_true (by have := of_decide_eq_true hb; have := HZ.out; omega), rfl⟩)
  have HB2 := Lib.hid (HB0.out.later hb2); have HW2 := Lib.hid (HW.out.trans (hb2.mono HW.out.size))
  clear ht2 hb2
  go_upto_region 2 with fail
  have hx := Box.new w2 (.int .i64 t.kind) (.string t.name) (.slice A2 t.kids.length C2)
  have hw3 := below_alloc1 w2 (.cells #[.int .i64 t.kind, .string t.name, .slice A2 t.kids.length C2] 29)
  have HB3 := Lib.hid (HB2.out.later hw3); have HW3 := Lib.hid (HW2.out.trans (hw3.mono HW2.out.size))
  have HT3 := Lib.hid (HT2.out.keep (S' := from_ (w.heap.size + 1)) fun b hb hl => ⟨hb, hw3.block b hl⟩)
  generalize w2.alloc (.cells #[.int .i64 t.kind, .string t.name, .slice A2 t.kids.length C2] 29) = w3 at hx HB3 HW3 HT3 ⊢
  obtain ⟨x0, x1, x2⟩ := hx.cells
  obtain ⟨y0, y1, y2⟩ := HB3.out.cells
  obtain ⟨f0, f1, f2⟩ := HB3.out.free
  clear hx hw3
  go_wp2_with fail
  obtain ⟨d0, d1, d2⟩ := (box_set3 HB3.out (.int .i64 t.kind) (.string t.name) (.slice A2 t.kids.length C2)).cells
  refine bodyPost_ret (v := .agg #[.int .i64 t.kind, .string t.name, .slice A2 t.kids.length C2]) (by simp [results, Tryz.results57, go_sem, d0, d1, d2]) rfl ?_
  exact ret_set3 (t := t) _ _ _ HW3.out (Nat.le_refl _) rfl rfl rfl HT3.out
set_option maxRecDepth 100000 in
set_option maxHeartbeats 4000000 in
theorem ref_term (s : ByteArray) (w : World) : Calls Tryz.prog 72 #[.string s] w (RetT (T.parse s).1 w) := by
  have hb0 := Box.new w (.int .i64 0) (.string ⟨#[]⟩) (.slice none 0 0)
  have hw := below_alloc1 w (.cells #[.int .i64 0, .string ⟨#[]⟩, .slice none 0 0] 29)
  have hz := size_alloc1 w (.cells #[.int .i64 0, .string ⟨#[]⟩, .slice none 0 0] 29)
  have HP := Lib.hid (fun W => rparse s W)
  obtain ⟨p, hp⟩ : ∃ p, T.parse s = p := ⟨_, rfl⟩
  rw [hp] at HP ⊢
  clear hp
  obtain ⟨t, i, c⟩ := p
  go_enter Tryz.func72, Tryz.ntmps72
  go_upto_region 1 with fail
  generalize w.alloc (.cells #[.int .i64 0, .string ⟨#[]⟩, .slice none 0 0] 29) = w1 at hb0 hw hz ⊢
  have HB0 := Lib.hid hb0; have HW := Lib.hid hw; have HZ := Lib.hid hz
  clear hb0 hw hz
  go_wp2_with fail
  refine (HP.out _).mono ?_; rintro e w2 ⟨A2, C2, rfl, ht2, hb2⟩
  dsimp only at ht2 ⊢
  have HT2 := Lib.hid (ht2.keep (w' := w2) (S' := from_ (w.heap.size + 1)) fun b hb _ => ⟨decide_eq_true (by have := of_decide_eq_true hb; have := HZ.out; omega), rfl⟩)
  have HB2 := Lib.hid (HB0.out.later hb2); have HW2 := Lib.hid (HW.out.trans (hb2.mono HW.out.size))
  clear ht2 hb2
  go_upto_region 2 with fail
  have hx := Box.new w2 (.int .i64 t.kind) (.string t.name) (.slice A2 t.kids.length C2)
  have hw3 := below_alloc1 w2 (.cells #[.int .i64 t.kind, .string t.name, .slice A2 t.kids.length C2] 29)
  have HB3 := Lib.hid (HB2.out.later hw3); have HW3 := Lib.hid (HW2.out.trans (hw3.mono HW2.out.size))
  have HT3 := Lib.hid (HT2.out.keep (S' := from_ (w.heap.size + 1)) fun b hb hl => ⟨hb, hw3.block b hl⟩)
  generalize w2.alloc (.cells #[.int .i64 t.kind, .string t.name, .slice A2 t.kids.length C2] 29) = w3 at hx HB3 HW3 HT3 ⊢
  obtain ⟨x0, x1, x2⟩ := hx.cells
  obtain ⟨y0, y1, y2⟩ := HB3.out.cells
  obtain ⟨f0, f1, f2⟩ := HB3.out.free
  clear hx hw3
  go_wp2_with fail
  obtain ⟨d0, d1, d2⟩ := (box_set3 HB3.out (.int .i64 t.kind) (.string t.name) (.slice A2 t.kids.length C2)).cells
  refine bodyPost_ret (v := .agg #[.int .i64 t.kind, .string t.name, .slice A2 t.kids.length C2]) (by simp [results, Tryz.results72, go_sem, d0, d1, d2]) rfl ?_
  exact ret_set3 (t := t) _ _ _ HW3.out (Nat.le_refl _) rfl rfl rfl HT3.out
end Go.Proofs.YtihbmgkbipeakaaGreat
