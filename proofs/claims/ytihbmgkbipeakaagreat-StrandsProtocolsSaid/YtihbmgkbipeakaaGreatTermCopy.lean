/- Chapter 41: the walk of Copy. -/
import Derived.Test.YtihbmgkbipeakaaGreatTermArr
namespace Go.Proofs.YtihbmgkbipeakaaGreat
open Go.RowKit

attribute [local go_sem ↓] Go.wp_at_zero Go.wp_at_succ

set_option maxRecDepth 100000 in
set_option maxHeartbeats 8000000 in
theorem ocopy : ∀ (N : Nat) (t : T) (v : Value) (w : World), t.bulk < N → TermAt w v t → t.bulk ≤ 1048576 →
    Calls Tryz.prog 53 #[v] w (RetT t w) := by
  intro N
  induction N with
  | zero => intro t v w h; omega
  | succ N ih =>
    intro t v w hN ht hbk
    cases ht with
    | mk k s A cap ks U h1 h2 h3 h4 hA hU =>
      simp only [T.bulk] at hN hbk
      have hkn : ks.length ≤ 262144 := by have := T.len_le ks; omega
      have HT := Lib.hid (TermAt.mk k s A cap ks U h1 h2 h3 h4 hA hU)
      obtain ⟨i0, hi0, hz0, hz1, hz2⟩ := info_parts Tryz.infoT
      go_enter Tryz.func53, Tryz.ntmps53
      go_wp2_with fail
      obtain ⟨bx, by', hb1, hsz⟩ := box_two w (.int .i64 k) (.string s) (.slice none 0 0) (.int .i64 0) (.string ⟨#[]⟩) (.slice none 0 0)
      generalize (w.alloc (.cells #[.int .i64 k, .string s, .slice none 0 0] 29)).alloc (.cells #[.int .i64 0, .string ⟨#[]⟩, .slice none 0 0] 29) = w1 at bx by' hb1 hsz ⊢
      have hstart : ArrAt w k s [] w1 := ⟨_, bx, by', TermsRow.nil _ _, hb1, by omega⟩
      have HST := Lib.hid hstart
      have IH := Lib.hid ih
      clear bx by' hb1 hsz hstart ih
      have hA2 := Lib.hid hA; have hU2 := Lib.hid hU
      clear hA hU
      go_loopw [11] (fun i wr => ∃ j : Nat, j ≤ ks.length ∧ i = .int .i64 j ∧ ArrAt w k s (ks.take j) wr) (fun i _ => ks.length - (intOf i).toNat)
      case atStart => exact ⟨0, Nat.zero_le _, rfl, by simpa using HST.out⟩
      case round =>
        obtain ⟨j, hj, rfl, hat⟩ := hrel
        by_cases hlt : j < ks.length
        · obtain ⟨kv, bx, bz, hrow, hbw, hsz⟩ := hat
          obtain ⟨b, off, B1, C1, rfl, d0, d1, d2, hu⟩ := TermAt.cells hlt hA2.out hU2.out
          have e0 := cell_later hbw d0; have e1 := cell_later hbw d1; have e2 := cell_later hbw d2
          have hi : (j : Int) < (ks.length : Int) := by omega
          have HU := Lib.hid (hu.later hbw); have HLT := Lib.hid hlt; have HJ := Lib.hid hj
          have HB2 := Lib.hid (show ks[j].bulk < N ∧ ks[j].bulk ≤ 1048576 by have := T.bulk_at ks j hlt; omega)
          clear d0 d1 d2 hu hj
          go_upto_region 6 with fail
          have hq := below_alloc1 wr (.cells #[.int .i64 ks[j].kind, .string ks[j].name, .slice B1 ks[j].kids.length C1] 29)
          have qx := Box.new wr (.int .i64 ks[j].kind) (.string ks[j].name) (.slice B1 ks[j].kids.length C1)
          have hqs := size_alloc1 wr (.cells #[.int .i64 ks[j].kind, .string ks[j].name, .slice B1 ks[j].kids.length C1] 29)
          generalize wr.alloc (.cells #[.int .i64 ks[j].kind, .string ks[j].name, .slice B1 ks[j].kids.length C1] 29) = wq at hq qx hqs ⊢
          replace bx := bx.later hq; replace bz := bz.later hq
          replace hrow := hrow.later hq
          replace hbw := hbw.trans (hq.mono hbw.size)
          have hsz' : w.heap.size + 2 ≤ wq.heap.size := by omega
          have HU2 := Lib.hid (HU.out.later hq)
          obtain ⟨xs, hown, hx⟩ := hrow.owns
          have hlen : (List.take j ks).length = j := by rw [List.length_take]; omega
          have HSTEP := Lib.hid (fun t w3 w4 u0 u1 u2 g cap => ArrAt.step (k := k) (s := s) (t := t) (w3 := w3) (w4 := w4) (u0 := u0) (u1 := u1) (u2 := u2) (g := g) (cap := cap) bx bz hrow hbw hsz' hx hown.1)
          have HTK := Lib.hid (show List.take j ks ++ [ks[j]] = List.take (j + 1) ks from (List.take_succ_eq_append_getElem hlt).symm)
          obtain ⟨y0, y1, y2⟩ := bx.cells
          obtain ⟨f0, f1, f2⟩ := bx.free
          obtain ⟨q0, q1, q2⟩ := qx.cells
          have hblk := hrow.block
          rw [hlen] at hown HSTEP
          have HOWN := Lib.hid hown; have HBX := Lib.hid bx; have HBLK := Lib.hid hblk
          have hbz : w.heap.size < wq.heap.size := by omega
          have HSZ := Lib.hid hsz'
          have HNE := Lib.hid (show kv.ownBlock ≠ some w.heap.size from fun e => by have := (hblk _ e).1; omega)
          clear e0 e1 e2 hx hrow bz hsz hsz' hlen hown bx hq hbw hblk hqs
          go_region_law (first | (refine step_append_lies _ (by rfl) _ _ _ (by rfl) (w.heap.size + 2) 29 i0 _ 3 48 Tryz.underlying27 hi0 hz0 hz1 hz2 rfl (by omega) _ _ _ (by rfl) HOWN3.out ⟨_, 0, none⟩ 1 1 _ (by rfl) (by rfl) (World.news_of_block (heap_alloc_new _ _)) HONE.out (by omega) (by unfold maxLen; omega) (by omega) HBS.out _ rfl ?_; intro g cap w4 hown4 hgrow hat hlt4; have HB4 := (HBX.out.later (hb3'.trans ((below_alloc1 w3 _).mono hb3'.size))).grown hgrow HNE.out; have c4 := HB4.cells.2.2; have f4 := HB4.free.2.2) | (go_simp; go_at_call 53; refine (IH.out _ _ _ HB2.out.1 HU2.out.drew HB2.out.2).mono ?_; rintro e w3 ⟨A3, C3, rfl, hti, hb3⟩; have hb3' := below_undrew hb3; have z0 := cell_later hb3' y0; have z1 := cell_later hb3' y1; have z2 := cell_later hb3' y2; have zz2 := cell_later (below_alloc1 w3 (.cells #[.int .i64 ks[j].kind, .string ks[j].name, .slice A3 ks[j].kids.length C3] 29)) z2; have HOWN3 := Lib.hid ((own_later HOWN.out hb3').alloc (.cells #[.int .i64 ks[j].kind, .string ks[j].name, .slice A3 ks[j].kids.length C3] 29)); have HONE := Lib.hid hti.one; have HBS := Lib.hid (show w.heap.size + 2 ≤ (w3.alloc (.cells #[.int .i64 ks[j].kind, .string ks[j].name, .slice A3 ks[j].kids.length C3] 29)).heap.size by rw [size_alloc1]; have := hb3'.size; have := HSZ.out; omega)))
          all_goals
            have hfin := HSTEP.out ks[j] w3 w4 _ _ _ g cap hb3' hti hown4 hgrow (hat.imp id (fun h => h.trans (size_alloc1 _ _)))
            rw [HTK.out] at hfin
            have HFIN := Lib.hid hfin
            clear hfin hgrow hown4 hti c4 f4 HB4 z0 z1 z2 zz2 hat hlt4
            go_wp2_with fail
            go_roundw
            case rel => exact ⟨j + 1, HLT.out, by go_num, HFIN.out⟩
            case measure => have := HLT.out; simp [intOf]; omega
        · obtain rfl : j = ks.length := by omega
          rw [List.take_of_length_le (Nat.le_refl _)] at hat
          obtain ⟨kv, bx, bz, hrow, hbw, hsz⟩ := hat
          obtain ⟨A4, C4, hkv, _, _⟩ := hrow.shape
          obtain ⟨y0, y1, y2⟩ := bx.cells
          obtain ⟨q0, q1, q2⟩ := bz.cells
          obtain ⟨f0, f1, f2⟩ := bz.free
          have HTM := Lib.hid (hrow.term k s h1 h2)
          have HBW := Lib.hid hbw; have HBZ := Lib.hid bz
          rw [hkv] at y2 HTM
          clear hkv hrow hbw bx bz
          go_wp2_with fail
          obtain ⟨d0, d1, d2⟩ := (box_set3 HBZ.out (.int .i64 k) (.string s) (.slice A4 ks.length C4)).cells
          refine bodyPost_ret (v := .agg #[.int .i64 k, .string s, .slice A4 ks.length C4]) (by simp [results, Tryz.results53, go_sem, d0, d1, d2]) rfl ?_
          exact ret_set3 (t := .mk k s ks) _ _ _ HBW.out (by omega) rfl rfl rfl HTM.out
end Go.Proofs.YtihbmgkbipeakaaGreat
