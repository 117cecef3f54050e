/- Chapter 40: the walks of Normal of both. -/
import Derived.Test.YtihbmgkbipeakaaGreatTermArr
import Derived.Test.YtihbmgkbipeakaaGreatTermOrder
namespace Go.Proofs.YtihbmgkbipeakaaGreat
open Go.RowKit

set_option maxRecDepth 100000 in
set_option maxHeartbeats 2000000 in
/-- Normal of a valid term is its normal form; else the zero term. -/
theorem onormal (t : T) (v : Value) (w : World) (ht : TermAt w v t) (hbk : t.bulk ≤ 1048576) :
    Calls Tryz.prog 76 #[v] w (RetT (if t.valid = true then t.norm else .mk 0 ⟨#[]⟩ []) w) := by
  have HV := Lib.hid (fun W hW r c hr hc => ovalid t v W hW hbk r c hr hc)
  have HA := Lib.hid (fun W hW (hs : t.shape = true) => oarr (t.bulk + 1) t v W (by omega) hW hbk hs)
  obtain ⟨q, hq⟩ : ∃ q, t.valid = q := ⟨_, rfl⟩
  have HSH := Lib.hid (fun (h : q = true) => show t.shape = true by rw [← hq] at h; exact (Bool.and_eq_true_iff.1 h).2)
  rw [hq] at HV ⊢
  clear hbk hq
  generalize t.norm = tn at *
  cases ht with
  | mk k s A cap ks U h1 h2 h3 h4 hA hU =>
    have HT := Lib.hid (TermAt.mk k s A cap ks U h1 h2 h3 h4 hA hU)
    obtain ⟨bx, by', hb1, hsz⟩ := box_two w (.int .i64 k) (.string s) (.slice A ks.length cap) (.int .i64 0) (.string ⟨#[]⟩) (.slice none 0 0)
    clear hA hU
    go_enter Tryz.func76, Tryz.ntmps76
    go_upto_region 1 with fail
    generalize (w.alloc (.cells #[.int .i64 k, .string s, .slice A ks.length cap] 29)).alloc (.cells #[.int .i64 0, .string ⟨#[]⟩, .slice none 0 0] 29) = w1 at bx by' hb1 hsz ⊢
    have HT1 := Lib.hid (HT.out.later hb1)
    obtain ⟨x0, x1, x2⟩ := bx.cells
    cases q
    · go_wp2_with fail
      refine (HV.out _ HT1.out false 76 rfl (.inr ⟨rfl, rfl⟩)).mono ?_; rintro e w2 ⟨rfl, hb2⟩
      have bz := by'.later hb2
      obtain ⟨y0, y1, y2⟩ := bz.cells
      obtain ⟨f0, f1, f2⟩ := bz.free
      have HB := Lib.hid (hb1.trans (hb2.mono hb1.size)); have HBZ := Lib.hid bz
      clear x0 x1 x2 hb2 bz
      go_wp2_with fail
      obtain ⟨d0, d1, d2⟩ := (box_set3 HBZ.out (.int .i64 0) (.string ⟨#[]⟩) (.slice none 0 0)).cells
      refine bodyPost_ret (v := .agg #[.int .i64 0, .string ⟨#[]⟩, .slice none 0 0]) (by simp [results, Tryz.results76, go_sem, d0, d1, d2]) rfl ?_
      exact ret_set3 (t := .mk 0 ⟨#[]⟩ []) (A := none) (cap := 0) _ _ _ HB.out (by omega) rfl rfl rfl (TermAt.mk 0 ⟨#[]⟩ none 0 [] (fun _ => (undef, undef, undef)) (by decide) (by decide) (Nat.le_refl _) (Nat.zero_le _) (.inl rfl) (fun i h => by simp at h))
    · go_wp2_with fail
      refine (HV.out _ HT1.out true 0 rfl (.inl ⟨rfl, rfl⟩)).mono ?_; rintro e w2 ⟨rfl, hb2⟩
      have y0 := cell_later hb2 x0; have y1 := cell_later hb2 x1; have y2 := cell_later hb2 x2
      have HB := Lib.hid (hb1.trans (hb2.mono hb1.size)); have HBY := Lib.hid (by'.later hb2)
      have HT2 := Lib.hid (HT1.out.later hb2)
      have hsz2 : w.heap.size + 2 ≤ w2.heap.size := by have := hb2.size; omega
      have HSZ := Lib.hid hsz2
      clear x0 x1 x2 hb2 hsz2 hsz
      go_wp2_with fail
      refine (HA.out _ HT2.out (HSH.out (by trivial))).mono ?_; rintro e w3 ⟨A3, C3, rfl, hti, hb3⟩
      have bz := HBY.out.later hb3
      obtain ⟨y0, y1, y2⟩ := bz.cells
      obtain ⟨f0, f1, f2⟩ := bz.free
      have HBZ := Lib.hid bz; have HB3 := Lib.hid (HB.out.trans (hb3.mono HB.out.size))
      have HTI := Lib.hid (hti.keep (w' := w3) (S' := from_ (w.heap.size + 1 + 1)) fun b hb _ => ⟨by have := of_decide_eq_true hb; have := HSZ.out; exact decide_eq_true (by omega), rfl⟩)
      clear hti hb3 bz
      go_wp2_with fail
      obtain ⟨d0, d1, d2⟩ := (box_set3 HBZ.out (.int .i64 tn.kind) (.string tn.name) (.slice A3 tn.kids.length C3)).cells
      refine bodyPost_ret (v := .agg #[.int .i64 tn.kind, .string tn.name, .slice A3 tn.kids.length C3]) (by simp [results, Tryz.results76, go_sem, d0, d1, d2]) rfl ?_
      exact ret_set3 _ _ _ HB3.out (by omega) rfl rfl rfl HTI.out

set_option maxRecDepth 100000 in
set_option maxHeartbeats 2000000 in
/-- Normal of a valid term is its normal form; else the zero term. -/
theorem rnormal (t : T) (v : Value) (w : World) (ht : TermAt w v t) (hbk : t.bulk ≤ 1048576) :
    Calls Tryz.prog 47 #[v] w (RetT (if t.valid = true then t.norm else .mk 0 ⟨#[]⟩ []) w) := by
  have HV := Lib.hid (fun W hW r c hr hc => rvalid t v W hW hbk r c hr hc)
  have HA := Lib.hid (fun W hW (_ : t.shape = true) => rord (t.bulk + 1) t v W (by omega) hW hbk )
  obtain ⟨q, hq⟩ : ∃ q, t.valid = q := ⟨_, rfl⟩
  have HSH := Lib.hid (fun (h : q = true) => show t.shape = true by rw [← hq] at h; exact (Bool.and_eq_true_iff.1 h).2)
  rw [hq] at HV ⊢
  clear hbk hq
  generalize t.norm = tn at *
  cases ht with
  | mk k s A cap ks U h1 h2 h3 h4 hA hU =>
    have HT := Lib.hid (TermAt.mk k s A cap ks U h1 h2 h3 h4 hA hU)
    obtain ⟨bx, by', hb1, hsz⟩ := box_two w (.int .i64 k) (.string s) (.slice A ks.length cap) (.int .i64 0) (.string ⟨#[]⟩) (.slice none 0 0)
    clear hA hU
    go_enter Tryz.func47, Tryz.ntmps47
    go_upto_region 1 with fail
    generalize (w.alloc (.cells #[.int .i64 k, .string s, .slice A ks.length cap] 29)).alloc (.cells #[.int .i64 0, .string ⟨#[]⟩, .slice none 0 0] 29) = w1 at bx by' hb1 hsz ⊢
    have HT1 := Lib.hid (HT.out.later hb1)
    obtain ⟨x0, x1, x2⟩ := bx.cells
    cases q
    · go_wp2_with fail
      refine (HV.out _ HT1.out false 76 rfl (.inr ⟨rfl, rfl⟩)).mono ?_; rintro e w2 ⟨rfl, hb2⟩
      have bz := by'.later hb2
      obtain ⟨y0, y1, y2⟩ := bz.cells
      obtain ⟨f0, f1, f2⟩ := bz.free
      have HB := Lib.hid (hb1.trans (hb2.mono hb1.size)); have HBZ := Lib.hid bz
      clear x0 x1 x2 hb2 bz
      go_wp2_with fail
      obtain ⟨d0, d1, d2⟩ := (box_set3 HBZ.out (.int .i64 0) (.string ⟨#[]⟩) (.slice none 0 0)).cells
      refine bodyPost_ret (v := .agg #[.int .i64 0, .string ⟨#[]⟩, .slice none 0 0]) (by simp [results, Tryz.results47, go_sem, d0, d1, d2]) rfl ?_
      exact ret_set3 (t := .mk 0 ⟨#[]⟩ []) (A := none) (cap := 0) _ _ _ HB.out (by omega) rfl rfl rfl (TermAt.mk 0 ⟨#[]⟩ none 0 [] (fun _ => (undef, undef, undef)) (by decide) (by decide) (Nat.le_refl _) (Nat.zero_le _) (.inl rfl) (fun i h => by simp at h))
    · go_wp2_with fail
      refine (HV.out _ HT1.out true 0 rfl (.inl ⟨rfl, rfl⟩)).mono ?_; rintro e w2 ⟨rfl, hb2⟩
      have y0 := cell_later hb2 x0; have y1 := cell_later hb2 x1; have y2 := cell_later hb2 x2
      have HB := Lib.hid (hb1.trans (hb2.mono hb1.size)); have HBY := Lib.hid (by'.later hb2)
      have HT2 := Lib.hid (HT1.out.later hb2)
      have hsz2 : w.heap.size + 2 ≤ w2.heap.size := by have := hb2.size; omega
      have HSZ := Lib.hid hsz2
      clear x0 x1 x2 hb2 hsz2 hsz
      go_wp2_with fail
      refine (HA.out _ HT2.out (HSH.out (by trivial))).mono ?_; rintro e w3 ⟨A3, C3, rfl, hti, hb3⟩
      have bz := HBY.out.later hb3
      obtain ⟨y0, y1, y2⟩ := bz.cells
      obtain ⟨f0, f1, f2⟩ := bz.free
      have HBZ := Lib.hid bz; have HB3 := Lib.hid (HB.out.trans (hb3.mono HB.out.size))
      have HTI := Lib.hid (hti.keep (w' := w3) (S' := from_ (w.heap.size + 1 + 1)) fun b hb _ => ⟨by have := of_decide_eq_true hb; have := HSZ.out; exact decide_eq_true (by omega), rfl⟩)
      clear hti hb3 bz
      go_wp2_with fail
      obtain ⟨d0, d1, d2⟩ := (box_set3 HBZ.out (.int .i64 tn.kind) (.string tn.name) (.slice A3 tn.kids.length C3)).cells
      refine bodyPost_ret (v := .agg #[.int .i64 tn.kind, .string tn.name, .slice A3 tn.kids.length C3]) (by simp [results, Tryz.results47, go_sem, d0, d1, d2]) rfl ?_
      exact ret_set3 _ _ _ HB3.out (by omega) rfl rfl rfl HTI.out
end Go.Proofs.YtihbmgkbipeakaaGreat
