/- Chapter 40: the walk of arrange. -/
import Derived.Test.YtihbmgkbipeakaaGreatTermSort
import Derived.Deep.RegionLaw
import Derived.Deep.DrawnRows
import Derived.Deep.DeepCutAuto
namespace Go.Proofs.YtihbmgkbipeakaaGreat
open Go.RowKit

attribute [local go_sem ↓] Go.wp_at_zero Go.wp_at_succ

/-- What the loop of arrange has done. -/
def ArrAt (w : World) (k : Int) (s : ByteArray) (L : List T) (wr : World) : Prop :=
  ∃ kv, Box wr w.heap.size (.int .i64 k) (.string s) kv ∧ Box wr (w.heap.size + 1) (.int .i64 0) (.string ⟨#[]⟩) (.slice none 0 0) ∧ TermsRow wr (w.heap.size + 2) kv L ∧ Below w.heap.size w wr ∧ w.heap.size + 2 ≤ wr.heap.size
theorem ArrAt.step {w : World} {k : Int} {s : ByteArray} {L : List T} {t : T} {wr w3 w4 : World} {kv u0 u1 u2 : Value} {xs : List Value} {g cap : Nat}
    (x : Box wr w.heap.size (.int .i64 k) (.string s) kv) (y : Box wr (w.heap.size + 1) (.int .i64 0) (.string ⟨#[]⟩) (.slice none 0 0)) (hrow : TermsRow wr (w.heap.size + 2) kv L) (hb : Below w.heap.size w wr) (hsz : w.heap.size + 2 ≤ wr.heap.size)
    (hx : ∀ i (h : i < L.length), ∃ u0 u1 u2, xs[i * 3]? = some u0 ∧ xs[i * 3 + 1]? = some u1 ∧ xs[i * 3 + 2]? = some u2 ∧ TermIn (but (w.heap.size + 2) kv.ownBlock) wr (.agg #[u0, u1, u2]) L[i]) (hl : xs.length = L.length * 3)
    (hb3 : Below wr.heap.size wr w3) (ht : TermIn (from_ wr.heap.size) w3 (.agg #[u0, u1, u2]) t)
    (hown : w4.ownsRow (w.heap.size + 2) 29 3 (.slice (some ⟨g, 0, none⟩) (L.length + 1) cap) (L.length + 1) (xs ++ [u0, u1, u2])) (hgrow : (w3.alloc (.cells #[u0, u1, u2] 29)).grownBy w4 kv.ownBlock)
    (hat : kv.ownBlock = some g ∨ g = w3.heap.size + 1) : ArrAt w k s (L ++ [t]) (w4.setCell ⟨w.heap.size, 2, none⟩ (.slice (some ⟨g, 0, none⟩) (L.length + 1) cap)) := by
  have hne : ∀ b, b < w.heap.size + 2 → kv.ownBlock ≠ some b := fun b hlt e => by have := (hrow.block b e).1; omega
  have hb3' := hb3.trans ((below_alloc1 w3 (.cells #[u0, u1, u2] 29)).mono hb3.size)
  have hbf : Below w.heap.size w w4 := (hb.trans (hb3'.mono (by omega))).grown hgrow (by rw [size_alloc1]; have := hb3.size; omega) (fun k hk => by have := (hrow.block k hk).1; omega)
  refine ⟨_, (((x.later hb3').grown hgrow (hne _ (by omega))).set2 _), ?_, ?_, hbf.setCell (Nat.le_refl _) _, ?_⟩
  · exact ((y.later hb3').grown hgrow (hne _ (by omega))).setOther (by simp) _
  · have h1 := TermsRow.snoc (w := w3.alloc (.cells #[u0, u1, u2] 29)) (H := w3.heap.size + 1) (t := t) (fun i hi => by
        obtain ⟨a0, a1, a2, b0, b1, b2, b3⟩ := hx i hi
        exact ⟨a0, a1, a2, b0, b1, b2, b3.keep fun b hb hlt => ⟨hb, hb3'.block b hlt⟩⟩) hl
      (ht.keep fun b hbb hlt => ⟨but_iff.2 ⟨by have := of_decide_eq_true hbb; omega, fun e => by have := (hrow.block b e).2; have := of_decide_eq_true hbb; omega⟩, Below.heap_alloc w3 _ b hlt⟩)
      hown hgrow hat (by rw [size_alloc1])
    exact h1.keep fun b hbb _ => Below.heap_setCell _ _ _ _ (by show b ≠ w.heap.size; omega)
  · have := hgrow.size; have := hb3'.size; simp [World.setCell]; omega

set_option maxRecDepth 100000 in
set_option maxHeartbeats 8000000 in
theorem oarr : ∀ (N : Nat) (t : T) (v : Value) (w : World), t.bulk < N → TermAt w v t → t.bulk ≤ 1048576 → t.shape = true →
    Calls Tryz.prog 106 #[v] w (RetT t.norm w) := by
  intro N
  induction N with
  | zero => intro t v w h; omega
  | succ N ih =>
    intro t v w hN ht hbk hsh
    cases ht with
    | mk k s A cap ks U h1 h2 h3 h4 hA hU =>
      simp only [T.bulk] at hN hbk
      have hkn : ks.length ≤ 262144 := by have := T.len_le ks; omega
      have HT := Lib.hid (TermAt.mk k s A cap ks U h1 h2 h3 h4 hA hU)
      obtain ⟨i0, hi0, hz0, hz1, hz2⟩ := info_parts Tryz.infoT
      go_enter Tryz.func106, Tryz.ntmps106
      go_wp2_with fail
      obtain ⟨bx, by', hb1, hsz⟩ := box_two w (.int .i64 k) (.string s) (.slice none 0 0) (.int .i64 0) (.string ⟨#[]⟩) (.slice none 0 0)
      generalize (w.alloc (.cells #[.int .i64 k, .string s, .slice none 0 0] 29)).alloc (.cells #[.int .i64 0, .string ⟨#[]⟩, .slice none 0 0] 29) = w1 at bx by' hb1 hsz ⊢
      have hstart : ArrAt w k s [] w1 := ⟨_, bx, by', TermsRow.nil _ _, hb1, by omega⟩
      have HST := Lib.hid hstart
      have IH := Lib.hid ih
      have HSK := Lib.hid (T.shape_kids hsh)
      have HSHW := Lib.hid hsh
      clear bx by' hb1 hsz hstart ih hsh
      have hA2 := Lib.hid hA; have hU2 := Lib.hid hU
      clear hA hU
      go_loopw [11] (fun i wr => ∃ j : Nat, j ≤ ks.length ∧ i = .int .i64 j ∧ ArrAt w k s ((ks.map T.norm).take j) wr) (fun i _ => ks.length - (intOf i).toNat)
      case atStart => exact ⟨0, Nat.zero_le _, rfl, by simpa using HST.out⟩
      case round =>
        obtain ⟨j, hj, rfl, hat⟩ := hrel
        by_cases hlt : j < ks.length
        · obtain ⟨kv, bx, bz, hrow, hbw, hsz⟩ := hat
          obtain ⟨b, off, B1, C1, rfl, d0, d1, d2, hu⟩ := TermAt.cells hlt hA2.out hU2.out
          have e0 := cell_later hbw d0; have e1 := cell_later hbw d1; have e2 := cell_later hbw d2
          have hi : (j : Int) < (ks.length : Int) := by omega
          have HU := Lib.hid (hu.later hbw); have HLT := Lib.hid hlt; have HJ := Lib.hid hj
          have HB2 := Lib.hid (show ks[j].bulk < N ∧ ks[j].bulk ≤ 1048576 by have := T.bulk_at ks j hlt; omega)
          have HSH := Lib.hid (HSK.out j hlt)
          clear d0 d1 d2 hu hj
          go_upto_region 6 with fail
          have hq := below_alloc1 wr (.cells #[.int .i64 ks[j].kind, .string ks[j].name, .slice B1 ks[j].kids.length C1] 29)
          have qx := Box.new wr (.int .i64 ks[j].kind) (.string ks[j].name) (.slice B1 ks[j].kids.length C1)
          have hqs := size_alloc1 wr (.cells #[.int .i64 ks[j].kind, .string ks[j].name, .slice B1 ks[j].kids.length C1] 29)
          generalize wr.alloc (.cells #[.int .i64 ks[j].kind, .string ks[j].name, .slice B1 ks[j].kids.length C1] 29) = wq at hq qx hqs ⊢
          replace bx := bx.later hq; replace bz := bz.later hq
          replace hrow := hrow.later hq
          replace hbw := hbw.trans (hq.mono hbw.size)
          have hsz' : w.heap.size + 2 ≤ wq.heap.size := by omega
          have HU2 := Lib.hid (HU.out.later hq)
          obtain ⟨xs, hown, hx⟩ := hrow.owns
          have hlen : (List.take j (ks.map T.norm)).length = j := by rw [List.length_take, List.length_map]; omega
          have HSTEP := Lib.hid (fun t w3 w4 u0 u1 u2 g cap => ArrAt.step (k := k) (s := s) (t := t) (w3 := w3) (w4 := w4) (u0 := u0) (u1 := u1) (u2 := u2) (g := g) (cap := cap) bx bz hrow hbw hsz' hx hown.1)
          have HTK := Lib.hid (show List.take j (ks.map T.norm) ++ [ks[j].norm] = List.take (j + 1) (ks.map T.norm) by rw [List.take_succ_eq_append_getElem (by simpa using hlt), List.getElem_map]; rfl)
          obtain ⟨y0, y1, y2⟩ := bx.cells
          obtain ⟨f0, f1, f2⟩ := bx.free
          obtain ⟨q0, q1, q2⟩ := qx.cells
          have hblk := hrow.block
          rw [hlen] at hown HSTEP
          have HOWN := Lib.hid hown; have HBX := Lib.hid bx; have HBLK := Lib.hid hblk
          have hbz : w.heap.size < wq.heap.size := by omega
          have HSZ := Lib.hid hsz'
          have HNE := Lib.hid (show kv.ownBlock ≠ some w.heap.size from fun e => by have := (hblk _ e).1; omega)
          clear e0 e1 e2 hx hrow bz hsz hsz' hlen hown bx hq hbw hblk hqs
          go_region_law (first | (refine step_append_lies _ (by rfl) _ _ _ (by rfl) (w.heap.size + 2) 29 i0 _ 3 48 Tryz.underlying27 hi0 hz0 hz1 hz2 rfl (by omega) _ _ _ (by rfl) HOWN3.out ⟨_, 0, none⟩ 1 1 _ (by rfl) (by rfl) (World.news_of_block (heap_alloc_new _ _)) HONE.out (by omega) (by unfold maxLen; omega) (by omega) HBS.out _ rfl ?_; intro g cap w4 hown4 hgrow hat hlt4; have HB4 := (HBX.out.later (hb3'.trans ((below_alloc1 w3 _).mono hb3'.size))).grown hgrow HNE.out; have c4 := HB4.cells.2.2; have f4 := HB4.free.2.2) | (go_simp; go_at_call 106; refine (IH.out _ _ _ HB2.out.1 HU2.out.drew HB2.out.2 HSH.out).mono ?_; rintro e w3 ⟨A3, C3, rfl, hti, hb3⟩; have hb3' := below_undrew hb3; have z0 := cell_later hb3' y0; have z1 := cell_later hb3' y1; have z2 := cell_later hb3' y2; have zz2 := cell_later (below_alloc1 w3 (.cells #[.int .i64 ks[j].norm.kind, .string ks[j].norm.name, .slice A3 ks[j].norm.kids.length C3] 29)) z2; have HOWN3 := Lib.hid ((own_later HOWN.out hb3').alloc (.cells #[.int .i64 ks[j].norm.kind, .string ks[j].norm.name, .slice A3 ks[j].norm.kids.length C3] 29)); have HONE := Lib.hid hti.one; have HBS := Lib.hid (show w.heap.size + 2 ≤ (w3.alloc (.cells #[.int .i64 ks[j].norm.kind, .string ks[j].norm.name, .slice A3 ks[j].norm.kids.length C3] 29)).heap.size by rw [size_alloc1]; have := hb3'.size; have := HSZ.out; omega)))
          all_goals
            have hfin := HSTEP.out ks[j].norm w3 w4 _ _ _ g cap hb3' hti hown4 hgrow (hat.imp id (fun h => h.trans (size_alloc1 _ _)))
            rw [HTK.out] at hfin
            have HFIN := Lib.hid hfin
            clear hfin hgrow hown4 hti c4 f4 HB4 z0 z1 z2 zz2 hat hlt4
            go_wp2_with fail
            go_roundw
            case rel => exact ⟨j + 1, HLT.out, by go_num, HFIN.out⟩
            case measure => have := HLT.out; simp [intOf]; omega
        · obtain rfl : j = ks.length := by omega
          rw [List.take_of_length_le (by simp)] at hat
          obtain ⟨kv, bx, bz, hrow, hbw, hsz⟩ := hat
          obtain ⟨L, hL⟩ : ∃ L, ks.map T.norm = L := ⟨_, rfl⟩
          rw [hL] at hrow
          have hLl : L.length = ks.length := by rw [← hL, List.length_map]
          obtain ⟨y0, y1, y2⟩ := bx.cells
          obtain ⟨q0, q1, q2⟩ := bz.cells
          obtain ⟨f0, f1, f2⟩ := bz.free
          by_cases k7 : k = 7
          · subst k7
            have h14 := T.shape_seven HSHW.out
            rcases hrow with ⟨rfl, hnil⟩ | ⟨g, C4, rfl, hrowT⟩
            · rw [hnil] at hLl; simp at hLl; omega
            have hgB : w.heap.size + 2 ≤ g := by obtain ⟨_, _, _, _, _, h5, _⟩ := hrowT; exact h5
            have hbl : T.bulkAll L ≤ 1048576 := by rw [← hL, ← T.normAll_map, T.bulk_normAll]; omega
            have HS := Lib.hid (sort_ok (w.heap.size + 2) g C4 L wr hrowT (by omega) hbl)
            rw [hLl] at HS y2 bx
            have HN := Lib.hid (show (T.mk 7 s ks).norm = .mk 7 s (T.isort L) by simp only [T.norm, if_pos, T.normAll_map, hL])
            have HLL := Lib.hid hLl
            have HBW := Lib.hid hbw; have HBX := Lib.hid bx; have HBZ := Lib.hid bz
            have hn1 : some g ≠ some w.heap.size := fun e => by injection e; omega
            have hn2 : some g ≠ some (w.heap.size + 1) := fun e => by injection e; omega
            clear hL hLl hbl hrowT hbw bx bz h14
            go_wp2_with fail
            refine HS.out.mono ?_; rintro e w5 ⟨rfl, hrow5, hgrow5⟩
            have bx5 := HBX.out.grown hgrow5 hn1; have bz5 := HBZ.out.grown hgrow5 hn2
            have hb5 := HBW.out.grown hgrow5 (by omega) (fun k hk => by injection hk; omega)
            obtain ⟨a0, a1, a2⟩ := bx5.cells
            obtain ⟨b0, b1, b2⟩ := bz5.cells
            obtain ⟨c0, c1, c2⟩ := bz5.free
            have HTM := Lib.hid (TermsRow.term (k := 7) (s := s) (.inr ⟨g, C4, rfl, hrow5⟩) h1 h2)
            rw [T.length_isort, HLL.out] at HTM
            clear hrow5 hgrow5 bx5 y0 y1 y2 q0 q1 q2 f0 f1 f2
            go_wp2_with fail
            obtain ⟨d0, d1, d2⟩ := (box_set3 bz5 (.int .i64 7) (.string s) (.slice (some ⟨g, 0, none⟩) ks.length C4)).cells
            refine bodyPost_ret (v := .agg #[.int .i64 7, .string s, .slice (some ⟨g, 0, none⟩) ks.length C4]) (by simp [results, Tryz.results106, go_sem, d0, d1, d2]) rfl ?_
            rw [HN.out]
            exact ret_set3 (t := .mk 7 s (T.isort L)) _ _ _ hb5 (by omega) rfl rfl (by show _ = Value.slice _ (T.isort L).length _; rw [T.length_isort, HLL.out]) HTM.out
          · have k7' : (k == 7) = false := by rw [beq_eq_false_iff_ne]; exact k7
            obtain ⟨A4, C4, hkv, _, _⟩ := hrow.shape
            have HN := Lib.hid (show (T.mk k s ks).norm = .mk k s L by simp only [T.norm, if_neg k7, T.normAll_map, hL])
            have HTM := Lib.hid (hrow.term k s h1 h2)
            have HBW := Lib.hid hbw; have HBZ := Lib.hid bz; have HLL := Lib.hid hLl
            rw [hkv] at y2 HTM
            rw [hLl] at y2 HTM
            clear hL k7 hkv hrow hbw bx bz hLl
            go_wp2_with fail
            obtain ⟨d0, d1, d2⟩ := (box_set3 HBZ.out (.int .i64 k) (.string s) (.slice A4 ks.length C4)).cells
            refine bodyPost_ret (v := .agg #[.int .i64 k, .string s, .slice A4 ks.length C4]) (by simp [results, Tryz.results106, go_sem, d0, d1, d2]) rfl ?_
            rw [HN.out]
            exact ret_set3 (t := .mk k s L) _ _ _ HBW.out (by omega) rfl rfl (by show _ = Value.slice _ L.length _; rw [HLL.out]) HTM.out
end Go.Proofs.YtihbmgkbipeakaaGreat
