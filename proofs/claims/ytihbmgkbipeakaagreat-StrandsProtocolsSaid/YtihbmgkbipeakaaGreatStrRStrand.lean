/- Chapter 42: a strand made of texts: the walk of the reference's strand. -/
import Derived.Test.YtihbmgkbipeakaaGreatStrGC
import Derived.Test.YtihbmgkbipeakaaGreatStrTerm
namespace Go.Proofs.YtihbmgkbipeakaaGreat
open Go.RowKit

attribute [local go_sem ↓] Go.wp_at_zero Go.wp_at_succ

set_option maxRecDepth 100000 in
set_option maxHeartbeats 8000000 in
theorem rstrand (role : ByteArray) (ts : List ByteArray) (A : Option Addr) (c : Nat) (w : World) (hl : ts.length ≤ 16) (hA : TextsAt w A ts) (hg : ∀ x ∈ ts, goodText x) (L : List (Int × T)) (hL : ts.map moveOf = L) :
    Calls Tryz.prog 73 #[.string role, .slice A ts.length c] w (RetS (role, L) w) := by
  have HL := Lib.hid hL
  clear hL
  obtain ⟨i0, hi0, hz0, hz1, hz2⟩ := info_parts Tryz.infoM
  have HTX := Lib.hid hA
  have HGD := Lib.hid hg
  clear hA hg
  go_enter Tryz.func73, Tryz.ntmps73
  go_wp2_with fail
  obtain ⟨bz, bx, hb1, hsz⟩ := sbox_two w (.string ⟨#[]⟩) (.slice none 0 0) (.string role) (.slice none 0 0)
  generalize (w.alloc (.cells #[.string ⟨#[]⟩, .slice none 0 0] 49)).alloc (.cells #[.string role, .slice none 0 0] 49) = w1 at bx bz hb1 hsz ⊢
  have HST := Lib.hid (show StrAt w role [] w1 from ⟨_, bx, bz, MovesRow.nil _ _, hb1, by omega⟩)
  clear bx bz hb1 hsz
  go_loopw [6] (fun i wr => ∃ j : Nat, j ≤ ts.length ∧ i = .int .i64 j ∧ StrAt w role ((ts.map moveOf).take j) wr) (fun i _ => ts.length - (intOf i).toNat)
  case atStart => exact ⟨0, Nat.zero_le _, rfl, by simpa using HST.out⟩
  case round =>
    obtain ⟨j, hj, rfl, hat⟩ := hrel
    by_cases hlt : j < ts.length
    · obtain ⟨kv, bx, bz, hrow, hbw, hsz⟩ := hat
      obtain ⟨b, off, rfl, d0⟩ := HTX.out.cell j hlt
      have e0 := cell_later hbw d0
      have hgd := HGD.out _ (List.getElem_mem hlt)
      have HTK := Lib.hid (show List.take j (ts.map moveOf) ++ [moveOf ts[j]] = List.take (j + 1) (ts.map moveOf) by rw [List.take_succ_eq_append_getElem (by simpa using hlt), List.getElem_map])
      obtain ⟨x, hx⟩ : ∃ x, ts[j]'hlt = x := ⟨_, rfl⟩
      rw [hx] at e0 hgd HTK
      have hi : (j : Int) < (ts.length : Int) := by omega
      have hx2 : 2 ≤ x.size := hgd.1
      have hx0 : 0 < x.size := by omega
      have hxi : (2 : Int) ≤ (x.size : Int) := by omega
      have hxj : (0 : Int) < (x.size : Int) := by omega
      have HGX := Lib.hid hgd
      have HLT := Lib.hid hlt
      obtain ⟨ch, hch⟩ : ∃ ch, x[0]'hx0 = ch := ⟨_, rfl⟩
      have hcc : ch = 83 ∨ ch = 82 ∨ ch = 67 ∨ ch = 68 := by have h := hgd.2; rw [first_at x hx0, hch] at h; exact h
      have HMV := Lib.hid (show moveOf x = (kindB ch, (T.parse (x.extract 2 x.size)).1) by unfold moveOf; rw [first_at x hx0, hch])
      clear d0 hx hgd hj
      obtain ⟨xs, hown, hxs⟩ := hrow.owns
      have hlen : (List.take j (ts.map moveOf)).length = j := by rw [List.length_take, List.length_map]; omega
      have HSTEP := Lib.hid (fun k t w3 w4 u0 u1 u2 g cap => StrAt.step (role := role) (k := k) (t := t) (w3 := w3) (w4 := w4) (u0 := u0) (u1 := u1) (u2 := u2) (g := g) (cap := cap) bx bz hrow hbw hsz hxs hown.1)
      obtain ⟨y0, y1⟩ := bx.cells
      obtain ⟨f0, f1⟩ := bx.free
      have hblk := hrow.block
      rw [hlen] at hown HSTEP
      have HOWN := Lib.hid hown; have HBX := Lib.hid bx; have HBLK := Lib.hid hblk
      have hbz : w.heap.size + 1 < wr.heap.size := by omega
      have HSZ := Lib.hid hsz
      have HNE := Lib.hid (show kv.ownBlock ≠ some (w.heap.size + 1) from fun e => by have := (hblk _ e).1; omega)
      clear hxs hrow bz hsz hlen hown bx hbw hblk
      rcases hcc with rfl | rfl | rfl | rfl
      · go_upto_region 13 with fail
        refine wp_region_any (by kernel_rfl) ?_
        (try (change wpAny _ _ _ _ _ _ _ (World.drew _)))
        (refine wpAny_take (i := 0) (v := ?_) (by simp only [List.getElem?_toArray, List.getElem?_cons_zero]; rfl) (by kernel_rfl) (by kernel_rfl) (by kernel_rfl) (by exact fun _ _ _ h => h) (Or.inl ⟨by rfl, ?_⟩) ?_; rotate_left 1; · (intro w; go_simp; (try with_reducible rfl)))
        (refine wpAny_take (i := 2) (v := ?_) (by simp only [List.getElem?_toArray, List.getElem?_cons_succ, List.getElem?_cons_zero]; rfl) (by kernel_rfl) (by kernel_rfl) (by kernel_rfl) (by exact fun _ _ _ h => h) (Or.inl ⟨by rfl, ?_⟩) ?_; rotate_left 1; · (intro w; go_simp; (try with_reducible rfl)))
        (refine wpAny_take (i := 3) (v := ?_) (by simp only [List.getElem?_toArray, List.getElem?_cons_succ, List.getElem?_cons_zero]; rfl) (by kernel_rfl) (by kernel_rfl) (by kernel_rfl) (by exact fun _ _ _ h => h) (Or.inl ⟨by rfl, ?_⟩) ?_; rotate_left 1; · (intro w; go_simp; (try with_reducible rfl)))
        (refine wpAny_take (i := 4) (v := ?_) (by simp only [List.getElem?_toArray, List.getElem?_cons_succ, List.getElem?_cons_zero]; rfl) (by kernel_rfl) (by kernel_rfl) (by kernel_rfl) (by exact fun _ _ _ h => h) (Or.inl ⟨by rfl, ?_⟩) ?_; rotate_left 1; · (intro w; go_simp; (try with_reducible rfl)))
        (refine wpAny_take (i := 5) (v := ?_) (by simp only [List.getElem?_toArray, List.getElem?_cons_succ, List.getElem?_cons_zero]; rfl) (by kernel_rfl) (by kernel_rfl) (by kernel_rfl) (by exact fun _ _ _ h => h) (Or.inl ⟨by rfl, ?_⟩) ?_; rotate_left 1; · (intro w; go_simp; (try with_reducible rfl)))
        refine wpAny_ready (rs := [1, 6]) (by kernel_rfl) (by simp) ?_
        refine AllReady.cons (by simp only [List.getElem?_toArray, List.getElem?_cons_succ, List.getElem?_cons_zero]; rfl) (fun K hK => ?_) ?_
        · go_simp
          (first | (refine hK _ _ ?_; clear hK K) | skip)
          refine wpAny_ready (rs := [6]) (by kernel_rfl) (by simp) ?_
          refine AllReady.cons (by simp only [List.getElem?_toArray, List.getElem?_cons_succ, List.getElem?_cons_zero]; rfl) (fun K hK => ?_) ?_
          · go_simp
            (first | (refine hK _ _ ?_; clear hK K) | skip)
            (refine wpAny_take (i := 7) (v := ?_) (by simp only [List.getElem?_toArray, List.getElem?_cons_succ, List.getElem?_cons_zero]; rfl) (by kernel_rfl) (by kernel_rfl) (by kernel_rfl) (by exact fun _ _ _ h => h) (Or.inl ⟨by rfl, ?_⟩) ?_; rotate_left 1; · (intro w; go_simp; (try with_reducible rfl)))
            refine wpAny_ready (rs := [8]) (by kernel_rfl) (by simp) ?_
            refine AllReady.cons (by simp only [List.getElem?_toArray, List.getElem?_cons_succ, List.getElem?_cons_zero]; rfl) (fun K hK => ?_) ?_
            · (go_simp; go_at_call 72; refine (ref_term _ _).mono ?_; rintro e w3 ⟨A3, C3, rfl, hti, hb3⟩; have hb3' := below_undrew hb3; have z0 := cell_later hb3' y0; have z1 := cell_later hb3' y1; have zz1 := cell_later (below_alloc1 w3 (.cells #[.int .i64 1, .int .i64 (T.parse (x.extract 2 x.size)).1.kind, .string (T.parse (x.extract 2 x.size)).1.name, .slice A3 (T.parse (x.extract 2 x.size)).1.kids.length C3] 52)) z1; have HOWN3 := Lib.hid ((own_later HOWN.out hb3').alloc (.cells #[.int .i64 1, .int .i64 (T.parse (x.extract 2 x.size)).1.kind, .string (T.parse (x.extract 2 x.size)).1.name, .slice A3 (T.parse (x.extract 2 x.size)).1.kids.length C3] 52)); have HONE := Lib.hid (move_one (k := 1) hti); have HBS := Lib.hid (show w.heap.size + 2 ≤ (w3.alloc (.cells #[.int .i64 1, .int .i64 (T.parse (x.extract 2 x.size)).1.kind, .string (T.parse (x.extract 2 x.size)).1.name, .slice A3 (T.parse (x.extract 2 x.size)).1.kids.length C3] 52)).heap.size by rw [size_alloc1]; have := hb3'.size; have := HSZ.out; omega))
              (first | (refine hK _ _ ?_; clear hK K) | skip)
              (refine wpAny_take (i := 9) (v := ?_) (by simp only [List.getElem?_toArray, List.getElem?_cons_succ, List.getElem?_cons_zero]; rfl) (by kernel_rfl) (by kernel_rfl) (by kernel_rfl) (by exact fun _ _ _ h => h) (Or.inl ⟨by rfl, ?_⟩) ?_; rotate_left 1; · (intro w; go_simp; (try with_reducible rfl)))
              refine wpAny_ready (rs := [10]) (by kernel_rfl) (by simp) ?_
              refine AllReady.cons (by simp only [List.getElem?_toArray, List.getElem?_cons_succ, List.getElem?_cons_zero]; rfl) (fun K hK => ?_) ?_
              · go_simp
                (first | (refine hK _ _ ?_; clear hK K) | skip)
                refine wpAny_ready (rs := [11]) (by kernel_rfl) (by simp) ?_
                refine AllReady.cons (by simp only [List.getElem?_toArray, List.getElem?_cons_succ, List.getElem?_cons_zero]; rfl) (fun K hK => ?_) ?_
                · (refine step_append_lies _ (by rfl) _ _ _ (by rfl) (w.heap.size + 2) 52 i0 _ 4 56 Tryz.underlying47 hi0 hz0 hz1 hz2 rfl (by omega) _ _ _ (by rfl) HOWN3.out ⟨_, 0, none⟩ 1 1 _ (by rfl) (by rfl) (World.news_of_block (heap_alloc_new _ _)) HONE.out (by omega) (by unfold maxLen; omega) (by omega) HBS.out _ rfl ?_; intro g cap w4 hown4 hgrow hat hlt4; have HB4 := (HBX.out.later (hb3'.trans ((below_alloc1 w3 _).mono hb3'.size))).grown hgrow HNE.out; have c4 := HB4.cells.2; have f4 := HB4.free.2; go_simp)
                  (first | (refine hK _ _ ?_; clear hK K) | skip)
                  (refine wpAny_take (i := 12) (v := ?_) (by simp only [List.getElem?_toArray, List.getElem?_cons_succ, List.getElem?_cons_zero]; rfl) (by kernel_rfl) (by kernel_rfl) (by kernel_rfl) (by exact fun _ _ _ h => h) (Or.inl ⟨by rfl, ?_⟩) ?_; rotate_left 1; · (intro w; go_simp; (try with_reducible rfl)))
                  refine wpAny_ready (rs := [13]) (by kernel_rfl) (by simp) ?_
                  refine AllReady.cons (by simp only [List.getElem?_toArray, List.getElem?_cons_succ, List.getElem?_cons_zero]; rfl) (fun K hK => ?_) ?_
                  · go_simp
                    (first | (refine hK _ _ ?_; clear hK K) | skip)
                    refine wpAny_done (by kernel_rfl) ?_ _
                    have hfin := HSTEP.out ((1 : Int)) (T.parse (x.extract 2 x.size)).1 w3 w4 _ _ _ g cap (by omega) hb3' hti hown4 hgrow (hat.imp id (fun h => h.trans (size_alloc1 _ _)))
                    rw [show ((1 : Int), (T.parse (x.extract 2 x.size)).1) = moveOf x by first | (rw [HMV.out]; done) | (rw [HMV.out]; rfl), HTK.out] at hfin
                    have HFIN := Lib.hid hfin
                    clear hfin hgrow hown4 hti c4 f4 HB4 z0 z1 zz1 hat hlt4
                    go_wp2_with fail
                    go_roundw
                    case rel => exact ⟨j + 1, HLT.out, by go_num, HFIN.out⟩
                    case measure => have := HLT.out; simp [intOf]; omega
                  exact AllReady.nil
                exact AllReady.nil
              exact AllReady.nil
            exact AllReady.nil
          exact AllReady.nil
        refine AllReady.cons (by simp only [List.getElem?_toArray, List.getElem?_cons_succ, List.getElem?_cons_zero]; rfl) (fun K hK => ?_) ?_
        · go_simp
          (first | (refine hK _ _ ?_; clear hK K) | skip)
          (refine wpAny_take (i := 7) (v := ?_) (by simp only [List.getElem?_toArray, List.getElem?_cons_succ, List.getElem?_cons_zero]; rfl) (by kernel_rfl) (by kernel_rfl) (by kernel_rfl) (by exact fun _ _ _ h => h) (Or.inl ⟨by rfl, ?_⟩) ?_; rotate_left 1; · (intro w; go_simp; (try with_reducible rfl)))
          refine wpAny_ready (rs := [1, 8]) (by kernel_rfl) (by simp) ?_
          refine AllReady.cons (by simp only [List.getElem?_toArray, List.getElem?_cons_succ, List.getElem?_cons_zero]; rfl) (fun K hK => ?_) ?_
          · go_simp
            (first | (refine hK _ _ ?_; clear hK K) | skip)
            refine wpAny_ready (rs := [8]) (by kernel_rfl) (by simp) ?_
            refine AllReady.cons (by simp only [List.getElem?_toArray, List.getElem?_cons_succ, List.getElem?_cons_zero]; rfl) (fun K hK => ?_) ?_
            · (go_simp; go_at_call 72; refine (ref_term _ _).mono ?_; rintro e w3 ⟨A3, C3, rfl, hti, hb3⟩; have hb3' := below_undrew hb3; have z0 := cell_later hb3' y0; have z1 := cell_later hb3' y1; have zz1 := cell_later (below_alloc1 w3 (.cells #[.int .i64 1, .int .i64 (T.parse (x.extract 2 x.size)).1.kind, .string (T.parse (x.extract 2 x.size)).1.name, .slice A3 (T.parse (x.extract 2 x.size)).1.kids.length C3] 52)) z1; have HOWN3 := Lib.hid ((own_later HOWN.out hb3').alloc (.cells #[.int .i64 1, .int .i64 (T.parse (x.extract 2 x.size)).1.kind, .string (T.parse (x.extract 2 x.size)).1.name, .slice A3 (T.parse (x.extract 2 x.size)).1.kids.length C3] 52)); have HONE := Lib.hid (move_one (k := 1) hti); have HBS := Lib.hid (show w.heap.size + 2 ≤ (w3.alloc (.cells #[.int .i64 1, .int .i64 (T.parse (x.extract 2 x.size)).1.kind, .string (T.parse (x.extract 2 x.size)).1.name, .slice A3 (T.parse (x.extract 2 x.size)).1.kids.length C3] 52)).heap.size by rw [size_alloc1]; have := hb3'.size; have := HSZ.out; omega))
              (first | (refine hK _ _ ?_; clear hK K) | skip)
              (refine wpAny_take (i := 9) (v := ?_) (by simp only [List.getElem?_toArray, List.getElem?_cons_succ, List.getElem?_cons_zero]; rfl) (by kernel_rfl) (by kernel_rfl) (by kernel_rfl) (by exact fun _ _ _ h => h) (Or.inl ⟨by rfl, ?_⟩) ?_; rotate_left 1; · (intro w; go_simp; (try with_reducible rfl)))
              refine wpAny_ready (rs := [10]) (by kernel_rfl) (by simp) ?_
              refine AllReady.cons (by simp only [List.getElem?_toArray, List.getElem?_cons_succ, List.getElem?_cons_zero]; rfl) (fun K hK => ?_) ?_
              · go_simp
                (first | (refine hK _ _ ?_; clear hK K) | skip)
                refine wpAny_ready (rs := [11]) (by kernel_rfl) (by simp) ?_
                refine AllReady.cons (by simp only [List.getElem?_toArray, List.getElem?_cons_succ, List.getElem?_cons_zero]; rfl) (fun K hK => ?_) ?_
                · (refine step_append_lies _ (by rfl) _ _ _ (by rfl) (w.heap.size + 2) 52 i0 _ 4 56 Tryz.underlying47 hi0 hz0 hz1 hz2 rfl (by omega) _ _ _ (by rfl) HOWN3.out ⟨_, 0, none⟩ 1 1 _ (by rfl) (by rfl) (World.news_of_block (heap_alloc_new _ _)) HONE.out (by omega) (by unfold maxLen; omega) (by omega) HBS.out _ rfl ?_; intro g cap w4 hown4 hgrow hat hlt4; have HB4 := (HBX.out.later (hb3'.trans ((below_alloc1 w3 _).mono hb3'.size))).grown hgrow HNE.out; have c4 := HB4.cells.2; have f4 := HB4.free.2; go_simp)
                  (first | (refine hK _ _ ?_; clear hK K) | skip)
                  (refine wpAny_take (i := 12) (v := ?_) (by simp only [List.getElem?_toArray, List.getElem?_cons_succ, List.getElem?_cons_zero]; rfl) (by kernel_rfl) (by kernel_rfl) (by kernel_rfl) (by exact fun _ _ _ h => h) (Or.inl ⟨by rfl, ?_⟩) ?_; rotate_left 1; · (intro w; go_simp; (try with_reducible rfl)))
                  refine wpAny_ready (rs := [13]) (by kernel_rfl) (by simp) ?_
                  refine AllReady.cons (by simp only [List.getElem?_toArray, List.getElem?_cons_succ, List.getElem?_cons_zero]; rfl) (fun K hK => ?_) ?_
                  · go_simp
                    (first | (refine hK _ _ ?_; clear hK K) | skip)
                    refine wpAny_done (by kernel_rfl) ?_ _
                    have hfin := HSTEP.out ((1 : Int)) (T.parse (x.extract 2 x.size)).1 w3 w4 _ _ _ g cap (by omega) hb3' hti hown4 hgrow (hat.imp id (fun h => h.trans (size_alloc1 _ _)))
                    rw [show ((1 : Int), (T.parse (x.extract 2 x.size)).1) = moveOf x by first | (rw [HMV.out]; done) | (rw [HMV.out]; rfl), HTK.out] at hfin
                    have HFIN := Lib.hid hfin
                    clear hfin hgrow hown4 hti c4 f4 HB4 z0 z1 zz1 hat hlt4
                    go_wp2_with fail
                    go_roundw
                    case rel => exact ⟨j + 1, HLT.out, by go_num, HFIN.out⟩
                    case measure => have := HLT.out; simp [intOf]; omega
                  exact AllReady.nil
                exact AllReady.nil
              exact AllReady.nil
            exact AllReady.nil
          refine AllReady.cons (by simp only [List.getElem?_toArray, List.getElem?_cons_succ, List.getElem?_cons_zero]; rfl) (fun K hK => ?_) ?_
          · (go_simp; go_at_call 72; refine (ref_term _ _).mono ?_; rintro e w3 ⟨A3, C3, rfl, hti, hb3⟩; have hb3' := below_undrew hb3; have z0 := cell_later hb3' y0; have z1 := cell_later hb3' y1; have zz1 := cell_later (below_alloc1 w3 (.cells #[.int .i64 1, .int .i64 (T.parse (x.extract 2 x.size)).1.kind, .string (T.parse (x.extract 2 x.size)).1.name, .slice A3 (T.parse (x.extract 2 x.size)).1.kids.length C3] 52)) z1; have HOWN3 := Lib.hid ((own_later HOWN.out hb3').alloc (.cells #[.int .i64 1, .int .i64 (T.parse (x.extract 2 x.size)).1.kind, .string (T.parse (x.extract 2 x.size)).1.name, .slice A3 (T.parse (x.extract 2 x.size)).1.kids.length C3] 52)); have HONE := Lib.hid (move_one (k := 1) hti); have HBS := Lib.hid (show w.heap.size + 2 ≤ (w3.alloc (.cells #[.int .i64 1, .int .i64 (T.parse (x.extract 2 x.size)).1.kind, .string (T.parse (x.extract 2 x.size)).1.name, .slice A3 (T.parse (x.extract 2 x.size)).1.kids.length C3] 52)).heap.size by rw [size_alloc1]; have := hb3'.size; have := HSZ.out; omega))
            (first | (refine hK _ _ ?_; clear hK K) | skip)
            (refine wpAny_take (i := 9) (v := ?_) (by simp only [List.getElem?_toArray, List.getElem?_cons_succ, List.getElem?_cons_zero]; rfl) (by kernel_rfl) (by kernel_rfl) (by kernel_rfl) (by exact fun _ _ _ h => h) (Or.inl ⟨by rfl, ?_⟩) ?_; rotate_left 1; · (intro w; go_simp; (try with_reducible rfl)))
            refine wpAny_ready (rs := [1, 10]) (by kernel_rfl) (by simp) ?_
            refine AllReady.cons (by simp only [List.getElem?_toArray, List.getElem?_cons_succ, List.getElem?_cons_zero]; rfl) (fun K hK => ?_) ?_
            · go_simp
              (first | (refine hK _ _ ?_; clear hK K) | skip)
              refine wpAny_ready (rs := [10]) (by kernel_rfl) (by simp) ?_
              refine AllReady.cons (by simp only [List.getElem?_toArray, List.getElem?_cons_succ, List.getElem?_cons_zero]; rfl) (fun K hK => ?_) ?_
              · go_simp
                (first | (refine hK _ _ ?_; clear hK K) | skip)
                refine wpAny_ready (rs := [11]) (by kernel_rfl) (by simp) ?_
                refine AllReady.cons (by simp only [List.getElem?_toArray, List.getElem?_cons_succ, List.getElem?_cons_zero]; rfl) (fun K hK => ?_) ?_
                · (refine step_append_lies _ (by rfl) _ _ _ (by rfl) (w.heap.size + 2) 52 i0 _ 4 56 Tryz.underlying47 hi0 hz0 hz1 hz2 rfl (by omega) _ _ _ (by rfl) HOWN3.out ⟨_, 0, none⟩ 1 1 _ (by rfl) (by rfl) (World.news_of_block (heap_alloc_new _ _)) HONE.out (by omega) (by unfold maxLen; omega) (by omega) HBS.out _ rfl ?_; intro g cap w4 hown4 hgrow hat hlt4; have HB4 := (HBX.out.later (hb3'.trans ((below_alloc1 w3 _).mono hb3'.size))).grown hgrow HNE.out; have c4 := HB4.cells.2; have f4 := HB4.free.2; go_simp)
                  (first | (refine hK _ _ ?_; clear hK K) | skip)
                  (refine wpAny_take (i := 12) (v := ?_) (by simp only [List.getElem?_toArray, List.getElem?_cons_succ, List.getElem?_cons_zero]; rfl) (by kernel_rfl) (by kernel_rfl) (by kernel_rfl) (by exact fun _ _ _ h => h) (Or.inl ⟨by rfl, ?_⟩) ?_; rotate_left 1; · (intro w; go_simp; (try with_reducible rfl)))
                  refine wpAny_ready (rs := [13]) (by kernel_rfl) (by simp) ?_
                  refine AllReady.cons (by simp only [List.getElem?_toArray, List.getElem?_cons_succ, List.getElem?_cons_zero]; rfl) (fun K hK => ?_) ?_
                  · go_simp
                    (first | (refine hK _ _ ?_; clear hK K) | skip)
                    refine wpAny_done (by kernel_rfl) ?_ _
                    have hfin := HSTEP.out ((1 : Int)) (T.parse (x.extract 2 x.size)).1 w3 w4 _ _ _ g cap (by omega) hb3' hti hown4 hgrow (hat.imp id (fun h => h.trans (size_alloc1 _ _)))
                    rw [show ((1 : Int), (T.parse (x.extract 2 x.size)).1) = moveOf x by first | (rw [HMV.out]; done) | (rw [HMV.out]; rfl), HTK.out] at hfin
                    have HFIN := Lib.hid hfin
                    clear hfin hgrow hown4 hti c4 f4 HB4 z0 z1 zz1 hat hlt4
                    go_wp2_with fail
                    go_roundw
                    case rel => exact ⟨j + 1, HLT.out, by go_num, HFIN.out⟩
                    case measure => have := HLT.out; simp [intOf]; omega
                  exact AllReady.nil
                exact AllReady.nil
              exact AllReady.nil
            refine AllReady.cons (by simp only [List.getElem?_toArray, List.getElem?_cons_succ, List.getElem?_cons_zero]; rfl) (fun K hK => ?_) ?_
            · go_simp
              (first | (refine hK _ _ ?_; clear hK K) | skip)
              refine wpAny_ready (rs := [1]) (by kernel_rfl) (by simp) ?_
              refine AllReady.cons (by simp only [List.getElem?_toArray, List.getElem?_cons_succ, List.getElem?_cons_zero]; rfl) (fun K hK => ?_) ?_
              · go_simp
                (first | (refine hK _ _ ?_; clear hK K) | skip)
                refine wpAny_ready (rs := [11]) (by kernel_rfl) (by simp) ?_
                refine AllReady.cons (by simp only [List.getElem?_toArray, List.getElem?_cons_succ, List.getElem?_cons_zero]; rfl) (fun K hK => ?_) ?_
                · (refine step_append_lies _ (by rfl) _ _ _ (by rfl) (w.heap.size + 2) 52 i0 _ 4 56 Tryz.underlying47 hi0 hz0 hz1 hz2 rfl (by omega) _ _ _ (by rfl) HOWN3.out ⟨_, 0, none⟩ 1 1 _ (by rfl) (by rfl) (World.news_of_block (heap_alloc_new _ _)) HONE.out (by omega) (by unfold maxLen; omega) (by omega) HBS.out _ rfl ?_; intro g cap w4 hown4 hgrow hat hlt4; have HB4 := (HBX.out.later (hb3'.trans ((below_alloc1 w3 _).mono hb3'.size))).grown hgrow HNE.out; have c4 := HB4.cells.2; have f4 := HB4.free.2; go_simp)
                  (first | (refine hK _ _ ?_; clear hK K) | skip)
                  (refine wpAny_take (i := 12) (v := ?_) (by simp only [List.getElem?_toArray, List.getElem?_cons_succ, List.getElem?_cons_zero]; rfl) (by kernel_rfl) (by kernel_rfl) (by kernel_rfl) (by exact fun _ _ _ h => h) (Or.inl ⟨by rfl, ?_⟩) ?_; rotate_left 1; · (intro w; go_simp; (try with_reducible rfl)))
                  refine wpAny_ready (rs := [13]) (by kernel_rfl) (by simp) ?_
                  refine AllReady.cons (by simp only [List.getElem?_toArray, List.getElem?_cons_succ, List.getElem?_cons_zero]; rfl) (fun K hK => ?_) ?_
                  · go_simp
                    (first | (refine hK _ _ ?_; clear hK K) | skip)
                    refine wpAny_done (by kernel_rfl) ?_ _
                    have hfin := HSTEP.out ((1 : Int)) (T.parse (x.extract 2 x.size)).1 w3 w4 _ _ _ g cap (by omega) hb3' hti hown4 hgrow (hat.imp id (fun h => h.trans (size_alloc1 _ _)))
                    rw [show ((1 : Int), (T.parse (x.extract 2 x.size)).1) = moveOf x by first | (rw [HMV.out]; done) | (rw [HMV.out]; rfl), HTK.out] at hfin
                    have HFIN := Lib.hid hfin
                    clear hfin hgrow hown4 hti c4 f4 HB4 z0 z1 zz1 hat hlt4
                    go_wp2_with fail
                    go_roundw
                    case rel => exact ⟨j + 1, HLT.out, by go_num, HFIN.out⟩
                    case measure => have := HLT.out; simp [intOf]; omega
                  exact AllReady.nil
                exact AllReady.nil
              exact AllReady.nil
            exact AllReady.nil
          exact AllReady.nil
        exact AllReady.nil
      · go_upto_region 13 with fail
        refine wp_region_any (by kernel_rfl) ?_
        (try (change wpAny _ _ _ _ _ _ _ (World.drew _)))
        (refine wpAny_take (i := 0) (v := ?_) (by simp only [List.getElem?_toArray, List.getElem?_cons_zero]; rfl) (by kernel_rfl) (by kernel_rfl) (by kernel_rfl) (by exact fun _ _ _ h => h) (Or.inl ⟨by rfl, ?_⟩) ?_; rotate_left 1; · (intro w; go_simp; (try with_reducible rfl)))
        (refine wpAny_take (i := 2) (v := ?_) (by simp only [List.getElem?_toArray, List.getElem?_cons_succ, List.getElem?_cons_zero]; rfl) (by kernel_rfl) (by kernel_rfl) (by kernel_rfl) (by exact fun _ _ _ h => h) (Or.inl ⟨by rfl, ?_⟩) ?_; rotate_left 1; · (intro w; go_simp; (try with_reducible rfl)))
        (refine wpAny_take (i := 3) (v := ?_) (by simp only [List.getElem?_toArray, List.getElem?_cons_succ, List.getElem?_cons_zero]; rfl) (by kernel_rfl) (by kernel_rfl) (by kernel_rfl) (by exact fun _ _ _ h => h) (Or.inl ⟨by rfl, ?_⟩) ?_; rotate_left 1; · (intro w; go_simp; (try with_reducible rfl)))
        (refine wpAny_take (i := 4) (v := ?_) (by simp only [List.getElem?_toArray, List.getElem?_cons_succ, List.getElem?_cons_zero]; rfl) (by kernel_rfl) (by kernel_rfl) (by kernel_rfl) (by exact fun _ _ _ h => h) (Or.inl ⟨by rfl, ?_⟩) ?_; rotate_left 1; · (intro w; go_simp; (try with_reducible rfl)))
        (refine wpAny_take (i := 5) (v := ?_) (by simp only [List.getElem?_toArray, List.getElem?_cons_succ, List.getElem?_cons_zero]; rfl) (by kernel_rfl) (by kernel_rfl) (by kernel_rfl) (by exact fun _ _ _ h => h) (Or.inl ⟨by rfl, ?_⟩) ?_; rotate_left 1; · (intro w; go_simp; (try with_reducible rfl)))
        refine wpAny_ready (rs := [1, 6]) (by kernel_rfl) (by simp) ?_
        refine AllReady.cons (by simp only [List.getElem?_toArray, List.getElem?_cons_succ, List.getElem?_cons_zero]; rfl) (fun K hK => ?_) ?_
        · go_simp
          (first | (refine hK _ _ ?_; clear hK K) | skip)
          refine wpAny_ready (rs := [6]) (by kernel_rfl) (by simp) ?_
          refine AllReady.cons (by simp only [List.getElem?_toArray, List.getElem?_cons_succ, List.getElem?_cons_zero]; rfl) (fun K hK => ?_) ?_
          · go_simp
            (first | (refine hK _ _ ?_; clear hK K) | skip)
            (refine wpAny_take (i := 7) (v := ?_) (by simp only [List.getElem?_toArray, List.getElem?_cons_succ, List.getElem?_cons_zero]; rfl) (by kernel_rfl) (by kernel_rfl) (by kernel_rfl) (by exact fun _ _ _ h => h) (Or.inl ⟨by rfl, ?_⟩) ?_; rotate_left 1; · (intro w; go_simp; (try with_reducible rfl)))
            refine wpAny_ready (rs := [8]) (by kernel_rfl) (by simp) ?_
            refine AllReady.cons (by simp only [List.getElem?_toArray, List.getElem?_cons_succ, List.getElem?_cons_zero]; rfl) (fun K hK => ?_) ?_
            · (go_simp; go_at_call 72; refine (ref_term _ _).mono ?_; rintro e w3 ⟨A3, C3, rfl, hti, hb3⟩; have hb3' := below_undrew hb3; have z0 := cell_later hb3' y0; have z1 := cell_later hb3' y1; have zz1 := cell_later (below_alloc1 w3 (.cells #[.int .i64 2, .int .i64 (T.parse (x.extract 2 x.size)).1.kind, .string (T.parse (x.extract 2 x.size)).1.name, .slice A3 (T.parse (x.extract 2 x.size)).1.kids.length C3] 52)) z1; have HOWN3 := Lib.hid ((own_later HOWN.out hb3').alloc (.cells #[.int .i64 2, .int .i64 (T.parse (x.extract 2 x.size)).1.kind, .string (T.parse (x.extract 2 x.size)).1.name, .slice A3 (T.parse (x.extract 2 x.size)).1.kids.length C3] 52)); have HONE := Lib.hid (move_one (k := 2) hti); have HBS := Lib.hid (show w.heap.size + 2 ≤ (w3.alloc (.cells #[.int .i64 2, .int .i64 (T.parse (x.extract 2 x.size)).1.kind, .string (T.parse (x.extract 2 x.size)).1.name, .slice A3 (T.parse (x.extract 2 x.size)).1.kids.length C3] 52)).heap.size by rw [size_alloc1]; have := hb3'.size; have := HSZ.out; omega))
              (first | (refine hK _ _ ?_; clear hK K) | skip)
              (refine wpAny_take (i := 9) (v := ?_) (by simp only [List.getElem?_toArray, List.getElem?_cons_succ, List.getElem?_cons_zero]; rfl) (by kernel_rfl) (by kernel_rfl) (by kernel_rfl) (by exact fun _ _ _ h => h) (Or.inl ⟨by rfl, ?_⟩) ?_; rotate_left 1; · (intro w; go_simp; (try with_reducible rfl)))
              refine wpAny_ready (rs := [10]) (by kernel_rfl) (by simp) ?_
              refine AllReady.cons (by simp only [List.getElem?_toArray, List.getElem?_cons_succ, List.getElem?_cons_zero]; rfl) (fun K hK => ?_) ?_
              · go_simp
                (first | (refine hK _ _ ?_; clear hK K) | skip)
                refine wpAny_ready (rs := [11]) (by kernel_rfl) (by simp) ?_
                refine AllReady.cons (by simp only [List.getElem?_toArray, List.getElem?_cons_succ, List.getElem?_cons_zero]; rfl) (fun K hK => ?_) ?_
                · (refine step_append_lies _ (by rfl) _ _ _ (by rfl) (w.heap.size + 2) 52 i0 _ 4 56 Tryz.underlying47 hi0 hz0 hz1 hz2 rfl (by omega) _ _ _ (by rfl) HOWN3.out ⟨_, 0, none⟩ 1 1 _ (by rfl) (by rfl) (World.news_of_block (heap_alloc_new _ _)) HONE.out (by omega) (by unfold maxLen; omega) (by omega) HBS.out _ rfl ?_; intro g cap w4 hown4 hgrow hat hlt4; have HB4 := (HBX.out.later (hb3'.trans ((below_alloc1 w3 _).mono hb3'.size))).grown hgrow HNE.out; have c4 := HB4.cells.2; have f4 := HB4.free.2; go_simp)
                  (first | (refine hK _ _ ?_; clear hK K) | skip)
                  (refine wpAny_take (i := 12) (v := ?_) (by simp only [List.getElem?_toArray, List.getElem?_cons_succ, List.getElem?_cons_zero]; rfl) (by kernel_rfl) (by kernel_rfl) (by kernel_rfl) (by exact fun _ _ _ h => h) (Or.inl ⟨by rfl, ?_⟩) ?_; rotate_left 1; · (intro w; go_simp; (try with_reducible rfl)))
                  refine wpAny_ready (rs := [13]) (by kernel_rfl) (by simp) ?_
                  refine AllReady.cons (by simp only [List.getElem?_toArray, List.getElem?_cons_succ, List.getElem?_cons_zero]; rfl) (fun K hK => ?_) ?_
                  · go_simp
                    (first | (refine hK _ _ ?_; clear hK K) | skip)
                    refine wpAny_done (by kernel_rfl) ?_ _
                    have hfin := HSTEP.out ((2 : Int)) (T.parse (x.extract 2 x.size)).1 w3 w4 _ _ _ g cap (by omega) hb3' hti hown4 hgrow (hat.imp id (fun h => h.trans (size_alloc1 _ _)))
                    rw [show ((2 : Int), (T.parse (x.extract 2 x.size)).1) = moveOf x by first | (rw [HMV.out]; done) | (rw [HMV.out]; rfl), HTK.out] at hfin
                    have HFIN := Lib.hid hfin
                    clear hfin hgrow hown4 hti c4 f4 HB4 z0 z1 zz1 hat hlt4
                    go_wp2_with fail
                    go_roundw
                    case rel => exact ⟨j + 1, HLT.out, by go_num, HFIN.out⟩
                    case measure => have := HLT.out; simp [intOf]; omega
                  exact AllReady.nil
                exact AllReady.nil
              exact AllReady.nil
            exact AllReady.nil
          exact AllReady.nil
        refine AllReady.cons (by simp only [List.getElem?_toArray, List.getElem?_cons_succ, List.getElem?_cons_zero]; rfl) (fun K hK => ?_) ?_
        · go_simp
          (first | (refine hK _ _ ?_; clear hK K) | skip)
          (refine wpAny_take (i := 7) (v := ?_) (by simp only [List.getElem?_toArray, List.getElem?_cons_succ, List.getElem?_cons_zero]; rfl) (by kernel_rfl) (by kernel_rfl) (by kernel_rfl) (by exact fun _ _ _ h => h) (Or.inl ⟨by rfl, ?_⟩) ?_; rotate_left 1; · (intro w; go_simp; (try with_reducible rfl)))
          refine wpAny_ready (rs := [1, 8]) (by kernel_rfl) (by simp) ?_
          refine AllReady.cons (by simp only [List.getElem?_toArray, List.getElem?_cons_succ, List.getElem?_cons_zero]; rfl) (fun K hK => ?_) ?_
          · go_simp
            (first | (refine hK _ _ ?_; clear hK K) | skip)
            refine wpAny_ready (rs := [8]) (by kernel_rfl) (by simp) ?_
            refine AllReady.cons (by simp only [List.getElem?_toArray, List.getElem?_cons_succ, List.getElem?_cons_zero]; rfl) (fun K hK => ?_) ?_
            · (go_simp; go_at_call 72; refine (ref_term _ _).mono ?_; rintro e w3 ⟨A3, C3, rfl, hti, hb3⟩; have hb3' := below_undrew hb3; have z0 := cell_later hb3' y0; have z1 := cell_later hb3' y1; have zz1 := cell_later (below_alloc1 w3 (.cells #[.int .i64 2, .int .i64 (T.parse (x.extract 2 x.size)).1.kind, .string (T.parse (x.extract 2 x.size)).1.name, .slice A3 (T.parse (x.extract 2 x.size)).1.kids.length C3] 52)) z1; have HOWN3 := Lib.hid ((own_later HOWN.out hb3').alloc (.cells #[.int .i64 2, .int .i64 (T.parse (x.extract 2 x.size)).1.kind, .string (T.parse (x.extract 2 x.size)).1.name, .slice A3 (T.parse (x.extract 2 x.size)).1.kids.length C3] 52)); have HONE := Lib.hid (move_one (k := 2) hti); have HBS := Lib.hid (show w.heap.size + 2 ≤ (w3.alloc (.cells #[.int .i64 2, .int .i64 (T.parse (x.extract 2 x.size)).1.kind, .string (T.parse (x.extract 2 x.size)).1.name, .slice A3 (T.parse (x.extract 2 x.size)).1.kids.length C3] 52)).heap.size by rw [size_alloc1]; have := hb3'.size; have := HSZ.out; omega))
              (first | (refine hK _ _ ?_; clear hK K) | skip)
              (refine wpAny_take (i := 9) (v := ?_) (by simp only [List.getElem?_toArray, List.getElem?_cons_succ, List.getElem?_cons_zero]; rfl) (by kernel_rfl) (by kernel_rfl) (by kernel_rfl) (by exact fun _ _ _ h => h) (Or.inl ⟨by rfl, ?_⟩) ?_; rotate_left 1; · (intro w; go_simp; (try with_reducible rfl)))
              refine wpAny_ready (rs := [10]) (by kernel_rfl) (by simp) ?_
              refine AllReady.cons (by simp only [List.getElem?_toArray, List.getElem?_cons_succ, List.getElem?_cons_zero]; rfl) (fun K hK => ?_) ?_
              · go_simp
                (first | (refine hK _ _ ?_; clear hK K) | skip)
                refine wpAny_ready (rs := [11]) (by kernel_rfl) (by simp) ?_
                refine AllReady.cons (by simp only [List.getElem?_toArray, List.getElem?_cons_succ, List.getElem?_cons_zero]; rfl) (fun K hK => ?_) ?_
                · (refine step_append_lies _ (by rfl) _ _ _ (by rfl) (w.heap.size + 2) 52 i0 _ 4 56 Tryz.underlying47 hi0 hz0 hz1 hz2 rfl (by omega) _ _ _ (by rfl) HOWN3.out ⟨_, 0, none⟩ 1 1 _ (by rfl) (by rfl) (World.news_of_block (heap_alloc_new _ _)) HONE.out (by omega) (by unfold maxLen; omega) (by omega) HBS.out _ rfl ?_; intro g cap w4 hown4 hgrow hat hlt4; have HB4 := (HBX.out.later (hb3'.trans ((below_alloc1 w3 _).mono hb3'.size))).grown hgrow HNE.out; have c4 := HB4.cells.2; have f4 := HB4.free.2; go_simp)
                  (first | (refine hK _ _ ?_; clear hK K) | skip)
                  (refine wpAny_take (i := 12) (v := ?_) (by simp only [List.getElem?_toArray, List.getElem?_cons_succ, List.getElem?_cons_zero]; rfl) (by kernel_rfl) (by kernel_rfl) (by kernel_rfl) (by exact fun _ _ _ h => h) (Or.inl ⟨by rfl, ?_⟩) ?_; rotate_left 1; · (intro w; go_simp; (try with_reducible rfl)))
                  refine wpAny_ready (rs := [13]) (by kernel_rfl) (by simp) ?_
                  refine AllReady.cons (by simp only [List.getElem?_toArray, List.getElem?_cons_succ, List.getElem?_cons_zero]; rfl) (fun K hK => ?_) ?_
                  · go_simp
                    (first | (refine hK _ _ ?_; clear hK K) | skip)
                    refine wpAny_done (by kernel_rfl) ?_ _
                    have hfin := HSTEP.out ((2 : Int)) (T.parse (x.extract 2 x.size)).1 w3 w4 _ _ _ g cap (by omega) hb3' hti hown4 hgrow (hat.imp id (fun h => h.trans (size_alloc1 _ _)))
                    rw [show ((2 : Int), (T.parse (x.extract 2 x.size)).1) = moveOf x by first | (rw [HMV.out]; done) | (rw [HMV.out]; rfl), HTK.out] at hfin
                    have HFIN := Lib.hid hfin
                    clear hfin hgrow hown4 hti c4 f4 HB4 z0 z1 zz1 hat hlt4
                    go_wp2_with fail
                    go_roundw
                    case rel => exact ⟨j + 1, HLT.out, by go_num, HFIN.out⟩
                    case measure => have := HLT.out; simp [intOf]; omega
                  exact AllReady.nil
                exact AllReady.nil
              exact AllReady.nil
            exact AllReady.nil
          refine AllReady.cons (by simp only [List.getElem?_toArray, List.getElem?_cons_succ, List.getElem?_cons_zero]; rfl) (fun K hK => ?_) ?_
          · (go_simp; go_at_call 72; refine (ref_term _ _).mono ?_; rintro e w3 ⟨A3, C3, rfl, hti, hb3⟩; have hb3' := below_undrew hb3; have z0 := cell_later hb3' y0; have z1 := cell_later hb3' y1; have zz1 := cell_later (below_alloc1 w3 (.cells #[.int .i64 2, .int .i64 (T.parse (x.extract 2 x.size)).1.kind, .string (T.parse (x.extract 2 x.size)).1.name, .slice A3 (T.parse (x.extract 2 x.size)).1.kids.length C3] 52)) z1; have HOWN3 := Lib.hid ((own_later HOWN.out hb3').alloc (.cells #[.int .i64 2, .int .i64 (T.parse (x.extract 2 x.size)).1.kind, .string (T.parse (x.extract 2 x.size)).1.name, .slice A3 (T.parse (x.extract 2 x.size)).1.kids.length C3] 52)); have HONE := Lib.hid (move_one (k := 2) hti); have HBS := Lib.hid (show w.heap.size + 2 ≤ (w3.alloc (.cells #[.int .i64 2, .int .i64 (T.parse (x.extract 2 x.size)).1.kind, .string (T.parse (x.extract 2 x.size)).1.name, .slice A3 (T.parse (x.extract 2 x.size)).1.kids.length C3] 52)).heap.size by rw [size_alloc1]; have := hb3'.size; have := HSZ.out; omega))
            (first | (refine hK _ _ ?_; clear hK K) | skip)
            (refine wpAny_take (i := 9) (v := ?_) (by simp only [List.getElem?_toArray, List.getElem?_cons_succ, List.getElem?_cons_zero]; rfl) (by kernel_rfl) (by kernel_rfl) (by kernel_rfl) (by exact fun _ _ _ h => h) (Or.inl ⟨by rfl, ?_⟩) ?_; rotate_left 1; · (intro w; go_simp; (try with_reducible rfl)))
            refine wpAny_ready (rs := [1, 10]) (by kernel_rfl) (by simp) ?_
            refine AllReady.cons (by simp only [List.getElem?_toArray, List.getElem?_cons_succ, List.getElem?_cons_zero]; rfl) (fun K hK => ?_) ?_
            · go_simp
              (first | (refine hK _ _ ?_; clear hK K) | skip)
              refine wpAny_ready (rs := [10]) (by kernel_rfl) (by simp) ?_
              refine AllReady.cons (by simp only [List.getElem?_toArray, List.getElem?_cons_succ, List.getElem?_cons_zero]; rfl) (fun K hK => ?_) ?_
              · go_simp
                (first | (refine hK _ _ ?_; clear hK K) | skip)
                refine wpAny_ready (rs := [11]) (by kernel_rfl) (by simp) ?_
                refine AllReady.cons (by simp only [List.getElem?_toArray, List.getElem?_cons_succ, List.getElem?_cons_zero]; rfl) (fun K hK => ?_) ?_
                · (refine step_append_lies _ (by rfl) _ _ _ (by rfl) (w.heap.size + 2) 52 i0 _ 4 56 Tryz.underlying47 hi0 hz0 hz1 hz2 rfl (by omega) _ _ _ (by rfl) HOWN3.out ⟨_, 0, none⟩ 1 1 _ (by rfl) (by rfl) (World.news_of_block (heap_alloc_new _ _)) HONE.out (by omega) (by unfold maxLen; omega) (by omega) HBS.out _ rfl ?_; intro g cap w4 hown4 hgrow hat hlt4; have HB4 := (HBX.out.later (hb3'.trans ((below_alloc1 w3 _).mono hb3'.size))).grown hgrow HNE.out; have c4 := HB4.cells.2; have f4 := HB4.free.2; go_simp)
                  (first | (refine hK _ _ ?_; clear hK K) | skip)
                  (refine wpAny_take (i := 12) (v := ?_) (by simp only [List.getElem?_toArray, List.getElem?_cons_succ, List.getElem?_cons_zero]; rfl) (by kernel_rfl) (by kernel_rfl) (by kernel_rfl) (by exact fun _ _ _ h => h) (Or.inl ⟨by rfl, ?_⟩) ?_; rotate_left 1; · (intro w; go_simp; (try with_reducible rfl)))
                  refine wpAny_ready (rs := [13]) (by kernel_rfl) (by simp) ?_
                  refine AllReady.cons (by simp only [List.getElem?_toArray, List.getElem?_cons_succ, List.getElem?_cons_zero]; rfl) (fun K hK => ?_) ?_
                  · go_simp
                    (first | (refine hK _ _ ?_; clear hK K) | skip)
                    refine wpAny_done (by kernel_rfl) ?_ _
                    have hfin := HSTEP.out ((2 : Int)) (T.parse (x.extract 2 x.size)).1 w3 w4 _ _ _ g cap (by omega) hb3' hti hown4 hgrow (hat.imp id (fun h => h.trans (size_alloc1 _ _)))
                    rw [show ((2 : Int), (T.parse (x.extract 2 x.size)).1) = moveOf x by first | (rw [HMV.out]; done) | (rw [HMV.out]; rfl), HTK.out] at hfin
                    have HFIN := Lib.hid hfin
                    clear hfin hgrow hown4 hti c4 f4 HB4 z0 z1 zz1 hat hlt4
                    go_wp2_with fail
                    go_roundw
                    case rel => exact ⟨j + 1, HLT.out, by go_num, HFIN.out⟩
                    case measure => have := HLT.out; simp [intOf]; omega
                  exact AllReady.nil
                exact AllReady.nil
              exact AllReady.nil
            refine AllReady.cons (by simp only [List.getElem?_toArray, List.getElem?_cons_succ, List.getElem?_cons_zero]; rfl) (fun K hK => ?_) ?_
            · go_simp
              (first | (refine hK _ _ ?_; clear hK K) | skip)
              refine wpAny_ready (rs := [1]) (by kernel_rfl) (by simp) ?_
              refine AllReady.cons (by simp only [List.getElem?_toArray, List.getElem?_cons_succ, List.getElem?_cons_zero]; rfl) (fun K hK => ?_) ?_
              · go_simp
                (first | (refine hK _ _ ?_; clear hK K) | skip)
                refine wpAny_ready (rs := [11]) (by kernel_rfl) (by simp) ?_
                refine AllReady.cons (by simp only [List.getElem?_toArray, List.getElem?_cons_succ, List.getElem?_cons_zero]; rfl) (fun K hK => ?_) ?_
                · (refine step_append_lies _ (by rfl) _ _ _ (by rfl) (w.heap.size + 2) 52 i0 _ 4 56 Tryz.underlying47 hi0 hz0 hz1 hz2 rfl (by omega) _ _ _ (by rfl) HOWN3.out ⟨_, 0, none⟩ 1 1 _ (by rfl) (by rfl) (World.news_of_block (heap_alloc_new _ _)) HONE.out (by omega) (by unfold maxLen; omega) (by omega) HBS.out _ rfl ?_; intro g cap w4 hown4 hgrow hat hlt4; have HB4 := (HBX.out.later (hb3'.trans ((below_alloc1 w3 _).mono hb3'.size))).grown hgrow HNE.out; have c4 := HB4.cells.2; have f4 := HB4.free.2; go_simp)
                  (first | (refine hK _ _ ?_; clear hK K) | skip)
                  (refine wpAny_take (i := 12) (v := ?_) (by simp only [List.getElem?_toArray, List.getElem?_cons_succ, List.getElem?_cons_zero]; rfl) (by kernel_rfl) (by kernel_rfl) (by kernel_rfl) (by exact fun _ _ _ h => h) (Or.inl ⟨by rfl, ?_⟩) ?_; rotate_left 1; · (intro w; go_simp; (try with_reducible rfl)))
                  refine wpAny_ready (rs := [13]) (by kernel_rfl) (by simp) ?_
                  refine AllReady.cons (by simp only [List.getElem?_toArray, List.getElem?_cons_succ, List.getElem?_cons_zero]; rfl) (fun K hK => ?_) ?_
                  · go_simp
                    (first | (refine hK _ _ ?_; clear hK K) | skip)
                    refine wpAny_done (by kernel_rfl) ?_ _
                    have hfin := HSTEP.out ((2 : Int)) (T.parse (x.extract 2 x.size)).1 w3 w4 _ _ _ g cap (by omega) hb3' hti hown4 hgrow (hat.imp id (fun h => h.trans (size_alloc1 _ _)))
                    rw [show ((2 : Int), (T.parse (x.extract 2 x.size)).1) = moveOf x by first | (rw [HMV.out]; done) | (rw [HMV.out]; rfl), HTK.out] at hfin
                    have HFIN := Lib.hid hfin
                    clear hfin hgrow hown4 hti c4 f4 HB4 z0 z1 zz1 hat hlt4
                    go_wp2_with fail
                    go_roundw
                    case rel => exact ⟨j + 1, HLT.out, by go_num, HFIN.out⟩
                    case measure => have := HLT.out; simp [intOf]; omega
                  exact AllReady.nil
                exact AllReady.nil
              exact AllReady.nil
            exact AllReady.nil
          exact AllReady.nil
        exact AllReady.nil
      · go_upto_region 13 with fail
        refine wp_region_any (by kernel_rfl) ?_
        (try (change wpAny _ _ _ _ _ _ _ (World.drew _)))
        (refine wpAny_take (i := 0) (v := ?_) (by simp only [List.getElem?_toArray, List.getElem?_cons_zero]; rfl) (by kernel_rfl) (by kernel_rfl) (by kernel_rfl) (by exact fun _ _ _ h => h) (Or.inl ⟨by rfl, ?_⟩) ?_; rotate_left 1; · (intro w; go_simp; (try with_reducible rfl)))
        (refine wpAny_take (i := 2) (v := ?_) (by simp only [List.getElem?_toArray, List.getElem?_cons_succ, List.getElem?_cons_zero]; rfl) (by kernel_rfl) (by kernel_rfl) (by kernel_rfl) (by exact fun _ _ _ h => h) (Or.inl ⟨by rfl, ?_⟩) ?_; rotate_left 1; · (intro w; go_simp; (try with_reducible rfl)))
        (refine wpAny_take (i := 3) (v := ?_) (by simp only [List.getElem?_toArray, List.getElem?_cons_succ, List.getElem?_cons_zero]; rfl) (by kernel_rfl) (by kernel_rfl) (by kernel_rfl) (by exact fun _ _ _ h => h) (Or.inl ⟨by rfl, ?_⟩) ?_; rotate_left 1; · (intro w; go_simp; (try with_reducible rfl)))
        (refine wpAny_take (i := 4) (v := ?_) (by simp only [List.getElem?_toArray, List.getElem?_cons_succ, List.getElem?_cons_zero]; rfl) (by kernel_rfl) (by kernel_rfl) (by kernel_rfl) (by exact fun _ _ _ h => h) (Or.inl ⟨by rfl, ?_⟩) ?_; rotate_left 1; · (intro w; go_simp; (try with_reducible rfl)))
        (refine wpAny_take (i := 5) (v := ?_) (by simp only [List.getElem?_toArray, List.getElem?_cons_succ, List.getElem?_cons_zero]; rfl) (by kernel_rfl) (by kernel_rfl) (by kernel_rfl) (by exact fun _ _ _ h => h) (Or.inl ⟨by rfl, ?_⟩) ?_; rotate_left 1; · (intro w; go_simp; (try with_reducible rfl)))
        refine wpAny_ready (rs := [1, 6]) (by kernel_rfl) (by simp) ?_
        refine AllReady.cons (by simp only [List.getElem?_toArray, List.getElem?_cons_succ, List.getElem?_cons_zero]; rfl) (fun K hK => ?_) ?_
        · go_simp
          (first | (refine hK _ _ ?_; clear hK K) | skip)
          refine wpAny_ready (rs := [6]) (by kernel_rfl) (by simp) ?_
          refine AllReady.cons (by simp only [List.getElem?_toArray, List.getElem?_cons_succ, List.getElem?_cons_zero]; rfl) (fun K hK => ?_) ?_
          · go_simp
            (first | (refine hK _ _ ?_; clear hK K) | skip)
            (refine wpAny_take (i := 7) (v := ?_) (by simp only [List.getElem?_toArray, List.getElem?_cons_succ, List.getElem?_cons_zero]; rfl) (by kernel_rfl) (by kernel_rfl) (by kernel_rfl) (by exact fun _ _ _ h => h) (Or.inl ⟨by rfl, ?_⟩) ?_; rotate_left 1; · (intro w; go_simp; (try with_reducible rfl)))
            refine wpAny_ready (rs := [8]) (by kernel_rfl) (by simp) ?_
            refine AllReady.cons (by simp only [List.getElem?_toArray, List.getElem?_cons_succ, List.getElem?_cons_zero]; rfl) (fun K hK => ?_) ?_
            · (go_simp; go_at_call 72; refine (ref_term _ _).mono ?_; rintro e w3 ⟨A3, C3, rfl, hti, hb3⟩; have hb3' := below_undrew hb3; have z0 := cell_later hb3' y0; have z1 := cell_later hb3' y1; have zz1 := cell_later (below_alloc1 w3 (.cells #[.int .i64 3, .int .i64 (T.parse (x.extract 2 x.size)).1.kind, .string (T.parse (x.extract 2 x.size)).1.name, .slice A3 (T.parse (x.extract 2 x.size)).1.kids.length C3] 52)) z1; have HOWN3 := Lib.hid ((own_later HOWN.out hb3').alloc (.cells #[.int .i64 3, .int .i64 (T.parse (x.extract 2 x.size)).1.kind, .string (T.parse (x.extract 2 x.size)).1.name, .slice A3 (T.parse (x.extract 2 x.size)).1.kids.length C3] 52)); have HONE := Lib.hid (move_one (k := 3) hti); have HBS := Lib.hid (show w.heap.size + 2 ≤ (w3.alloc (.cells #[.int .i64 3, .int .i64 (T.parse (x.extract 2 x.size)).1.kind, .string (T.parse (x.extract 2 x.size)).1.name, .slice A3 (T.parse (x.extract 2 x.size)).1.kids.length C3] 52)).heap.size by rw [size_alloc1]; have := hb3'.size; have := HSZ.out; omega))
              (first | (refine hK _ _ ?_; clear hK K) | skip)
              (refine wpAny_take (i := 9) (v := ?_) (by simp only [List.getElem?_toArray, List.getElem?_cons_succ, List.getElem?_cons_zero]; rfl) (by kernel_rfl) (by kernel_rfl) (by kernel_rfl) (by exact fun _ _ _ h => h) (Or.inl ⟨by rfl, ?_⟩) ?_; rotate_left 1; · (intro w; go_simp; (try with_reducible rfl)))
              refine wpAny_ready (rs := [10]) (by kernel_rfl) (by simp) ?_
              refine AllReady.cons (by simp only [List.getElem?_toArray, List.getElem?_cons_succ, List.getElem?_cons_zero]; rfl) (fun K hK => ?_) ?_
              · go_simp
                (first | (refine hK _ _ ?_; clear hK K) | skip)
                refine wpAny_ready (rs := [11]) (by kernel_rfl) (by simp) ?_
                refine AllReady.cons (by simp only [List.getElem?_toArray, List.getElem?_cons_succ, List.getElem?_cons_zero]; rfl) (fun K hK => ?_) ?_
                · (refine step_append_lies _ (by rfl) _ _ _ (by rfl) (w.heap.size + 2) 52 i0 _ 4 56 Tryz.underlying47 hi0 hz0 hz1 hz2 rfl (by omega) _ _ _ (by rfl) HOWN3.out ⟨_, 0, none⟩ 1 1 _ (by rfl) (by rfl) (World.news_of_block (heap_alloc_new _ _)) HONE.out (by omega) (by unfold maxLen; omega) (by omega) HBS.out _ rfl ?_; intro g cap w4 hown4 hgrow hat hlt4; have HB4 := (HBX.out.later (hb3'.trans ((below_alloc1 w3 _).mono hb3'.size))).grown hgrow HNE.out; have c4 := HB4.cells.2; have f4 := HB4.free.2; go_simp)
                  (first | (refine hK _ _ ?_; clear hK K) | skip)
                  (refine wpAny_take (i := 12) (v := ?_) (by simp only [List.getElem?_toArray, List.getElem?_cons_succ, List.getElem?_cons_zero]; rfl) (by kernel_rfl) (by kernel_rfl) (by kernel_rfl) (by exact fun _ _ _ h => h) (Or.inl ⟨by rfl, ?_⟩) ?_; rotate_left 1; · (intro w; go_simp; (try with_reducible rfl)))
                  refine wpAny_ready (rs := [13]) (by kernel_rfl) (by simp) ?_
                  refine AllReady.cons (by simp only [List.getElem?_toArray, List.getElem?_cons_succ, List.getElem?_cons_zero]; rfl) (fun K hK => ?_) ?_
                  · go_simp
                    (first | (refine hK _ _ ?_; clear hK K) | skip)
                    refine wpAny_done (by kernel_rfl) ?_ _
                    have hfin := HSTEP.out ((3 : Int)) (T.parse (x.extract 2 x.size)).1 w3 w4 _ _ _ g cap (by omega) hb3' hti hown4 hgrow (hat.imp id (fun h => h.trans (size_alloc1 _ _)))
                    rw [show ((3 : Int), (T.parse (x.extract 2 x.size)).1) = moveOf x by first | (rw [HMV.out]; done) | (rw [HMV.out]; rfl), HTK.out] at hfin
                    have HFIN := Lib.hid hfin
                    clear hfin hgrow hown4 hti c4 f4 HB4 z0 z1 zz1 hat hlt4
                    go_wp2_with fail
                    go_roundw
                    case rel => exact ⟨j + 1, HLT.out, by go_num, HFIN.out⟩
                    case measure => have := HLT.out; simp [intOf]; omega
                  exact AllReady.nil
                exact AllReady.nil
              exact AllReady.nil
            exact AllReady.nil
          exact AllReady.nil
        refine AllReady.cons (by simp only [List.getElem?_toArray, List.getElem?_cons_succ, List.getElem?_cons_zero]; rfl) (fun K hK => ?_) ?_
        · go_simp
          (first | (refine hK _ _ ?_; clear hK K) | skip)
          (refine wpAny_take (i := 7) (v := ?_) (by simp only [List.getElem?_toArray, List.getElem?_cons_succ, List.getElem?_cons_zero]; rfl) (by kernel_rfl) (by kernel_rfl) (by kernel_rfl) (by exact fun _ _ _ h => h) (Or.inl ⟨by rfl, ?_⟩) ?_; rotate_left 1; · (intro w; go_simp; (try with_reducible rfl)))
          refine wpAny_ready (rs := [1, 8]) (by kernel_rfl) (by simp) ?_
          refine AllReady.cons (by simp only [List.getElem?_toArray, List.getElem?_cons_succ, List.getElem?_cons_zero]; rfl) (fun K hK => ?_) ?_
          · go_simp
            (first | (refine hK _ _ ?_; clear hK K) | skip)
            refine wpAny_ready (rs := [8]) (by kernel_rfl) (by simp) ?_
            refine AllReady.cons (by simp only [List.getElem?_toArray, List.getElem?_cons_succ, List.getElem?_cons_zero]; rfl) (fun K hK => ?_) ?_
            · (go_simp; go_at_call 72; refine (ref_term _ _).mono ?_; rintro e w3 ⟨A3, C3, rfl, hti, hb3⟩; have hb3' := below_undrew hb3; have z0 := cell_later hb3' y0; have z1 := cell_later hb3' y1; have zz1 := cell_later (below_alloc1 w3 (.cells #[.int .i64 3, .int .i64 (T.parse (x.extract 2 x.size)).1.kind, .string (T.parse (x.extract 2 x.size)).1.name, .slice A3 (T.parse (x.extract 2 x.size)).1.kids.length C3] 52)) z1; have HOWN3 := Lib.hid ((own_later HOWN.out hb3').alloc (.cells #[.int .i64 3, .int .i64 (T.parse (x.extract 2 x.size)).1.kind, .string (T.parse (x.extract 2 x.size)).1.name, .slice A3 (T.parse (x.extract 2 x.size)).1.kids.length C3] 52)); have HONE := Lib.hid (move_one (k := 3) hti); have HBS := Lib.hid (show w.heap.size + 2 ≤ (w3.alloc (.cells #[.int .i64 3, .int .i64 (T.parse (x.extract 2 x.size)).1.kind, .string (T.parse (x.extract 2 x.size)).1.name, .slice A3 (T.parse (x.extract 2 x.size)).1.kids.length C3] 52)).heap.size by rw [size_alloc1]; have := hb3'.size; have := HSZ.out; omega))
              (first | (refine hK _ _ ?_; clear hK K) | skip)
              (refine wpAny_take (i := 9) (v := ?_) (by simp only [List.getElem?_toArray, List.getElem?_cons_succ, List.getElem?_cons_zero]; rfl) (by kernel_rfl) (by kernel_rfl) (by kernel_rfl) (by exact fun _ _ _ h => h) (Or.inl ⟨by rfl, ?_⟩) ?_; rotate_left 1; · (intro w; go_simp; (try with_reducible rfl)))
              refine wpAny_ready (rs := [10]) (by kernel_rfl) (by simp) ?_
              refine AllReady.cons (by simp only [List.getElem?_toArray, List.getElem?_cons_succ, List.getElem?_cons_zero]; rfl) (fun K hK => ?_) ?_
              · go_simp
                (first | (refine hK _ _ ?_; clear hK K) | skip)
                refine wpAny_ready (rs := [11]) (by kernel_rfl) (by simp) ?_
                refine AllReady.cons (by simp only [List.getElem?_toArray, List.getElem?_cons_succ, List.getElem?_cons_zero]; rfl) (fun K hK => ?_) ?_
                · (refine step_append_lies _ (by rfl) _ _ _ (by rfl) (w.heap.size + 2) 52 i0 _ 4 56 Tryz.underlying47 hi0 hz0 hz1 hz2 rfl (by omega) _ _ _ (by rfl) HOWN3.out ⟨_, 0, none⟩ 1 1 _ (by rfl) (by rfl) (World.news_of_block (heap_alloc_new _ _)) HONE.out (by omega) (by unfold maxLen; omega) (by omega) HBS.out _ rfl ?_; intro g cap w4 hown4 hgrow hat hlt4; have HB4 := (HBX.out.later (hb3'.trans ((below_alloc1 w3 _).mono hb3'.size))).grown hgrow HNE.out; have c4 := HB4.cells.2; have f4 := HB4.free.2; go_simp)
                  (first | (refine hK _ _ ?_; clear hK K) | skip)
                  (refine wpAny_take (i := 12) (v := ?_) (by simp only [List.getElem?_toArray, List.getElem?_cons_succ, List.getElem?_cons_zero]; rfl) (by kernel_rfl) (by kernel_rfl) (by kernel_rfl) (by exact fun _ _ _ h => h) (Or.inl ⟨by rfl, ?_⟩) ?_; rotate_left 1; · (intro w; go_simp; (try with_reducible rfl)))
                  refine wpAny_ready (rs := [13]) (by kernel_rfl) (by simp) ?_
                  refine AllReady.cons (by simp only [List.getElem?_toArray, List.getElem?_cons_succ, List.getElem?_cons_zero]; rfl) (fun K hK => ?_) ?_
                  · go_simp
                    (first | (refine hK _ _ ?_; clear hK K) | skip)
                    refine wpAny_done (by kernel_rfl) ?_ _
                    have hfin := HSTEP.out ((3 : Int)) (T.parse (x.extract 2 x.size)).1 w3 w4 _ _ _ g cap (by omega) hb3' hti hown4 hgrow (hat.imp id (fun h => h.trans (size_alloc1 _ _)))
                    rw [show ((3 : Int), (T.parse (x.extract 2 x.size)).1) = moveOf x by first | (rw [HMV.out]; done) | (rw [HMV.out]; rfl), HTK.out] at hfin
                    have HFIN := Lib.hid hfin
                    clear hfin hgrow hown4 hti c4 f4 HB4 z0 z1 zz1 hat hlt4
                    go_wp2_with fail
                    go_roundw
                    case rel => exact ⟨j + 1, HLT.out, by go_num, HFIN.out⟩
                    case measure => have := HLT.out; simp [intOf]; omega
                  exact AllReady.nil
                exact AllReady.nil
              exact AllReady.nil
            exact AllReady.nil
          refine AllReady.cons (by simp only [List.getElem?_toArray, List.getElem?_cons_succ, List.getElem?_cons_zero]; rfl) (fun K hK => ?_) ?_
          · (go_simp; go_at_call 72; refine (ref_term _ _).mono ?_; rintro e w3 ⟨A3, C3, rfl, hti, hb3⟩; have hb3' := below_undrew hb3; have z0 := cell_later hb3' y0; have z1 := cell_later hb3' y1; have zz1 := cell_later (below_alloc1 w3 (.cells #[.int .i64 3, .int .i64 (T.parse (x.extract 2 x.size)).1.kind, .string (T.parse (x.extract 2 x.size)).1.name, .slice A3 (T.parse (x.extract 2 x.size)).1.kids.length C3] 52)) z1; have HOWN3 := Lib.hid ((own_later HOWN.out hb3').alloc (.cells #[.int .i64 3, .int .i64 (T.parse (x.extract 2 x.size)).1.kind, .string (T.parse (x.extract 2 x.size)).1.name, .slice A3 (T.parse (x.extract 2 x.size)).1.kids.length C3] 52)); have HONE := Lib.hid (move_one (k := 3) hti); have HBS := Lib.hid (show w.heap.size + 2 ≤ (w3.alloc (.cells #[.int .i64 3, .int .i64 (T.parse (x.extract 2 x.size)).1.kind, .string (T.parse (x.extract 2 x.size)).1.name, .slice A3 (T.parse (x.extract 2 x.size)).1.kids.length C3] 52)).heap.size by rw [size_alloc1]; have := hb3'.size; have := HSZ.out; omega))
            (first | (refine hK _ _ ?_; clear hK K) | skip)
            (refine wpAny_take (i := 9) (v := ?_) (by simp only [List.getElem?_toArray, List.getElem?_cons_succ, List.getElem?_cons_zero]; rfl) (by kernel_rfl) (by kernel_rfl) (by kernel_rfl) (by exact fun _ _ _ h => h) (Or.inl ⟨by rfl, ?_⟩) ?_; rotate_left 1; · (intro w; go_simp; (try with_reducible rfl)))
            refine wpAny_ready (rs := [1, 10]) (by kernel_rfl) (by simp) ?_
            refine AllReady.cons (by simp only [List.getElem?_toArray, List.getElem?_cons_succ, List.getElem?_cons_zero]; rfl) (fun K hK => ?_) ?_
            · go_simp
              (first | (refine hK _ _ ?_; clear hK K) | skip)
              refine wpAny_ready (rs := [10]) (by kernel_rfl) (by simp) ?_
              refine AllReady.cons (by simp only [List.getElem?_toArray, List.getElem?_cons_succ, List.getElem?_cons_zero]; rfl) (fun K hK => ?_) ?_
              · go_simp
                (first | (refine hK _ _ ?_; clear hK K) | skip)
                refine wpAny_ready (rs := [11]) (by kernel_rfl) (by simp) ?_
                refine AllReady.cons (by simp only [List.getElem?_toArray, List.getElem?_cons_succ, List.getElem?_cons_zero]; rfl) (fun K hK => ?_) ?_
                · (refine step_append_lies _ (by rfl) _ _ _ (by rfl) (w.heap.size + 2) 52 i0 _ 4 56 Tryz.underlying47 hi0 hz0 hz1 hz2 rfl (by omega) _ _ _ (by rfl) HOWN3.out ⟨_, 0, none⟩ 1 1 _ (by rfl) (by rfl) (World.news_of_block (heap_alloc_new _ _)) HONE.out (by omega) (by unfold maxLen; omega) (by omega) HBS.out _ rfl ?_; intro g cap w4 hown4 hgrow hat hlt4; have HB4 := (HBX.out.later (hb3'.trans ((below_alloc1 w3 _).mono hb3'.size))).grown hgrow HNE.out; have c4 := HB4.cells.2; have f4 := HB4.free.2; go_simp)
                  (first | (refine hK _ _ ?_; clear hK K) | skip)
                  (refine wpAny_take (i := 12) (v := ?_) (by simp only [List.getElem?_toArray, List.getElem?_cons_succ, List.getElem?_cons_zero]; rfl) (by kernel_rfl) (by kernel_rfl) (by kernel_rfl) (by exact fun _ _ _ h => h) (Or.inl ⟨by rfl, ?_⟩) ?_; rotate_left 1; · (intro w; go_simp; (try with_reducible rfl)))
                  refine wpAny_ready (rs := [13]) (by kernel_rfl) (by simp) ?_
                  refine AllReady.cons (by simp only [List.getElem?_toArray, List.getElem?_cons_succ, List.getElem?_cons_zero]; rfl) (fun K hK => ?_) ?_
                  · go_simp
                    (first | (refine hK _ _ ?_; clear hK K) | skip)
                    refine wpAny_done (by kernel_rfl) ?_ _
                    have hfin := HSTEP.out ((3 : Int)) (T.parse (x.extract 2 x.size)).1 w3 w4 _ _ _ g cap (by omega) hb3' hti hown4 hgrow (hat.imp id (fun h => h.trans (size_alloc1 _ _)))
                    rw [show ((3 : Int), (T.parse (x.extract 2 x.size)).1) = moveOf x by first | (rw [HMV.out]; done) | (rw [HMV.out]; rfl), HTK.out] at hfin
                    have HFIN := Lib.hid hfin
                    clear hfin hgrow hown4 hti c4 f4 HB4 z0 z1 zz1 hat hlt4
                    go_wp2_with fail
                    go_roundw
                    case rel => exact ⟨j + 1, HLT.out, by go_num, HFIN.out⟩
                    case measure => have := HLT.out; simp [intOf]; omega
                  exact AllReady.nil
                exact AllReady.nil
              exact AllReady.nil
            refine AllReady.cons (by simp only [List.getElem?_toArray, List.getElem?_cons_succ, List.getElem?_cons_zero]; rfl) (fun K hK => ?_) ?_
            · go_simp
              (first | (refine hK _ _ ?_; clear hK K) | skip)
              refine wpAny_ready (rs := [1]) (by kernel_rfl) (by simp) ?_
              refine AllReady.cons (by simp only [List.getElem?_toArray, List.getElem?_cons_succ, List.getElem?_cons_zero]; rfl) (fun K hK => ?_) ?_
              · go_simp
                (first | (refine hK _ _ ?_; clear hK K) | skip)
                refine wpAny_ready (rs := [11]) (by kernel_rfl) (by simp) ?_
                refine AllReady.cons (by simp only [List.getElem?_toArray, List.getElem?_cons_succ, List.getElem?_cons_zero]; rfl) (fun K hK => ?_) ?_
                · (refine step_append_lies _ (by rfl) _ _ _ (by rfl) (w.heap.size + 2) 52 i0 _ 4 56 Tryz.underlying47 hi0 hz0 hz1 hz2 rfl (by omega) _ _ _ (by rfl) HOWN3.out ⟨_, 0, none⟩ 1 1 _ (by rfl) (by rfl) (World.news_of_block (heap_alloc_new _ _)) HONE.out (by omega) (by unfold maxLen; omega) (by omega) HBS.out _ rfl ?_; intro g cap w4 hown4 hgrow hat hlt4; have HB4 := (HBX.out.later (hb3'.trans ((below_alloc1 w3 _).mono hb3'.size))).grown hgrow HNE.out; have c4 := HB4.cells.2; have f4 := HB4.free.2; go_simp)
                  (first | (refine hK _ _ ?_; clear hK K) | skip)
                  (refine wpAny_take (i := 12) (v := ?_) (by simp only [List.getElem?_toArray, List.getElem?_cons_succ, List.getElem?_cons_zero]; rfl) (by kernel_rfl) (by kernel_rfl) (by kernel_rfl) (by exact fun _ _ _ h => h) (Or.inl ⟨by rfl, ?_⟩) ?_; rotate_left 1; · (intro w; go_simp; (try with_reducible rfl)))
                  refine wpAny_ready (rs := [13]) (by kernel_rfl) (by simp) ?_
                  refine AllReady.cons (by simp only [List.getElem?_toArray, List.getElem?_cons_succ, List.getElem?_cons_zero]; rfl) (fun K hK => ?_) ?_
                  · go_simp
                    (first | (refine hK _ _ ?_; clear hK K) | skip)
                    refine wpAny_done (by kernel_rfl) ?_ _
                    have hfin := HSTEP.out ((3 : Int)) (T.parse (x.extract 2 x.size)).1 w3 w4 _ _ _ g cap (by omega) hb3' hti hown4 hgrow (hat.imp id (fun h => h.trans (size_alloc1 _ _)))
                    rw [show ((3 : Int), (T.parse (x.extract 2 x.size)).1) = moveOf x by first | (rw [HMV.out]; done) | (rw [HMV.out]; rfl), HTK.out] at hfin
                    have HFIN := Lib.hid hfin
                    clear hfin hgrow hown4 hti c4 f4 HB4 z0 z1 zz1 hat hlt4
                    go_wp2_with fail
                    go_roundw
                    case rel => exact ⟨j + 1, HLT.out, by go_num, HFIN.out⟩
                    case measure => have := HLT.out; simp [intOf]; omega
                  exact AllReady.nil
                exact AllReady.nil
              exact AllReady.nil
            exact AllReady.nil
          exact AllReady.nil
        exact AllReady.nil
      · go_upto_region 13 with fail
        refine wp_region_any (by kernel_rfl) ?_
        (try (change wpAny _ _ _ _ _ _ _ (World.drew _)))
        (refine wpAny_take (i := 0) (v := ?_) (by simp only [List.getElem?_toArray, List.getElem?_cons_zero]; rfl) (by kernel_rfl) (by kernel_rfl) (by kernel_rfl) (by exact fun _ _ _ h => h) (Or.inl ⟨by rfl, ?_⟩) ?_; rotate_left 1; · (intro w; go_simp; (try with_reducible rfl)))
        (refine wpAny_take (i := 2) (v := ?_) (by simp only [List.getElem?_toArray, List.getElem?_cons_succ, List.getElem?_cons_zero]; rfl) (by kernel_rfl) (by kernel_rfl) (by kernel_rfl) (by exact fun _ _ _ h => h) (Or.inl ⟨by rfl, ?_⟩) ?_; rotate_left 1; · (intro w; go_simp; (try with_reducible rfl)))
        (refine wpAny_take (i := 3) (v := ?_) (by simp only [List.getElem?_toArray, List.getElem?_cons_succ, List.getElem?_cons_zero]; rfl) (by kernel_rfl) (by kernel_rfl) (by kernel_rfl) (by exact fun _ _ _ h => h) (Or.inl ⟨by rfl, ?_⟩) ?_; rotate_left 1; · (intro w; go_simp; (try with_reducible rfl)))
        (refine wpAny_take (i := 4) (v := ?_) (by simp only [List.getElem?_toArray, List.getElem?_cons_succ, List.getElem?_cons_zero]; rfl) (by kernel_rfl) (by kernel_rfl) (by kernel_rfl) (by exact fun _ _ _ h => h) (Or.inl ⟨by rfl, ?_⟩) ?_; rotate_left 1; · (intro w; go_simp; (try with_reducible rfl)))
        (refine wpAny_take (i := 5) (v := ?_) (by simp only [List.getElem?_toArray, List.getElem?_cons_succ, List.getElem?_cons_zero]; rfl) (by kernel_rfl) (by kernel_rfl) (by kernel_rfl) (by exact fun _ _ _ h => h) (Or.inl ⟨by rfl, ?_⟩) ?_; rotate_left 1; · (intro w; go_simp; (try with_reducible rfl)))
        refine wpAny_ready (rs := [1, 6]) (by kernel_rfl) (by simp) ?_
        refine AllReady.cons (by simp only [List.getElem?_toArray, List.getElem?_cons_succ, List.getElem?_cons_zero]; rfl) (fun K hK => ?_) ?_
        · go_simp
          (first | (refine hK _ _ ?_; clear hK K) | skip)
          refine wpAny_ready (rs := [6]) (by kernel_rfl) (by simp) ?_
          refine AllReady.cons (by simp only [List.getElem?_toArray, List.getElem?_cons_succ, List.getElem?_cons_zero]; rfl) (fun K hK => ?_) ?_
          · go_simp
            (first | (refine hK _ _ ?_; clear hK K) | skip)
            (refine wpAny_take (i := 7) (v := ?_) (by simp only [List.getElem?_toArray, List.getElem?_cons_succ, List.getElem?_cons_zero]; rfl) (by kernel_rfl) (by kernel_rfl) (by kernel_rfl) (by exact fun _ _ _ h => h) (Or.inl ⟨by rfl, ?_⟩) ?_; rotate_left 1; · (intro w; go_simp; (try with_reducible rfl)))
            refine wpAny_ready (rs := [8]) (by kernel_rfl) (by simp) ?_
            refine AllReady.cons (by simp only [List.getElem?_toArray, List.getElem?_cons_succ, List.getElem?_cons_zero]; rfl) (fun K hK => ?_) ?_
            · (go_simp; go_at_call 72; refine (ref_term _ _).mono ?_; rintro e w3 ⟨A3, C3, rfl, hti, hb3⟩; have hb3' := below_undrew hb3; have z0 := cell_later hb3' y0; have z1 := cell_later hb3' y1; have zz1 := cell_later (below_alloc1 w3 (.cells #[.int .i64 4, .int .i64 (T.parse (x.extract 2 x.size)).1.kind, .string (T.parse (x.extract 2 x.size)).1.name, .slice A3 (T.parse (x.extract 2 x.size)).1.kids.length C3] 52)) z1; have HOWN3 := Lib.hid ((own_later HOWN.out hb3').alloc (.cells #[.int .i64 4, .int .i64 (T.parse (x.extract 2 x.size)).1.kind, .string (T.parse (x.extract 2 x.size)).1.name, .slice A3 (T.parse (x.extract 2 x.size)).1.kids.length C3] 52)); have HONE := Lib.hid (move_one (k := 4) hti); have HBS := Lib.hid (show w.heap.size + 2 ≤ (w3.alloc (.cells #[.int .i64 4, .int .i64 (T.parse (x.extract 2 x.size)).1.kind, .string (T.parse (x.extract 2 x.size)).1.name, .slice A3 (T.parse (x.extract 2 x.size)).1.kids.length C3] 52)).heap.size by rw [size_alloc1]; have := hb3'.size; have := HSZ.out; omega))
              (first | (refine hK _ _ ?_; clear hK K) | skip)
              (refine wpAny_take (i := 9) (v := ?_) (by simp only [List.getElem?_toArray, List.getElem?_cons_succ, List.getElem?_cons_zero]; rfl) (by kernel_rfl) (by kernel_rfl) (by kernel_rfl) (by exact fun _ _ _ h => h) (Or.inl ⟨by rfl, ?_⟩) ?_; rotate_left 1; · (intro w; go_simp; (try with_reducible rfl)))
              refine wpAny_ready (rs := [10]) (by kernel_rfl) (by simp) ?_
              refine AllReady.cons (by simp only [List.getElem?_toArray, List.getElem?_cons_succ, List.getElem?_cons_zero]; rfl) (fun K hK => ?_) ?_
              · go_simp
                (first | (refine hK _ _ ?_; clear hK K) | skip)
                refine wpAny_ready (rs := [11]) (by kernel_rfl) (by simp) ?_
                refine AllReady.cons (by simp only [List.getElem?_toArray, List.getElem?_cons_succ, List.getElem?_cons_zero]; rfl) (fun K hK => ?_) ?_
                · (refine step_append_lies _ (by rfl) _ _ _ (by rfl) (w.heap.size + 2) 52 i0 _ 4 56 Tryz.underlying47 hi0 hz0 hz1 hz2 rfl (by omega) _ _ _ (by rfl) HOWN3.out ⟨_, 0, none⟩ 1 1 _ (by rfl) (by rfl) (World.news_of_block (heap_alloc_new _ _)) HONE.out (by omega) (by unfold maxLen; omega) (by omega) HBS.out _ rfl ?_; intro g cap w4 hown4 hgrow hat hlt4; have HB4 := (HBX.out.later (hb3'.trans ((below_alloc1 w3 _).mono hb3'.size))).grown hgrow HNE.out; have c4 := HB4.cells.2; have f4 := HB4.free.2; go_simp)
                  (first | (refine hK _ _ ?_; clear hK K) | skip)
                  (refine wpAny_take (i := 12) (v := ?_) (by simp only [List.getElem?_toArray, List.getElem?_cons_succ, List.getElem?_cons_zero]; rfl) (by kernel_rfl) (by kernel_rfl) (by kernel_rfl) (by exact fun _ _ _ h => h) (Or.inl ⟨by rfl, ?_⟩) ?_; rotate_left 1; · (intro w; go_simp; (try with_reducible rfl)))
                  refine wpAny_ready (rs := [13]) (by kernel_rfl) (by simp) ?_
                  refine AllReady.cons (by simp only [List.getElem?_toArray, List.getElem?_cons_succ, List.getElem?_cons_zero]; rfl) (fun K hK => ?_) ?_
                  · go_simp
                    (first | (refine hK _ _ ?_; clear hK K) | skip)
                    refine wpAny_done (by kernel_rfl) ?_ _
                    have hfin := HSTEP.out ((4 : Int)) (T.parse (x.extract 2 x.size)).1 w3 w4 _ _ _ g cap (by omega) hb3' hti hown4 hgrow (hat.imp id (fun h => h.trans (size_alloc1 _ _)))
                    rw [show ((4 : Int), (T.parse (x.extract 2 x.size)).1) = moveOf x by first | (rw [HMV.out]; done) | (rw [HMV.out]; rfl), HTK.out] at hfin
                    have HFIN := Lib.hid hfin
                    clear hfin hgrow hown4 hti c4 f4 HB4 z0 z1 zz1 hat hlt4
                    go_wp2_with fail
                    go_roundw
                    case rel => exact ⟨j + 1, HLT.out, by go_num, HFIN.out⟩
                    case measure => have := HLT.out; simp [intOf]; omega
                  exact AllReady.nil
                exact AllReady.nil
              exact AllReady.nil
            exact AllReady.nil
          exact AllReady.nil
        refine AllReady.cons (by simp only [List.getElem?_toArray, List.getElem?_cons_succ, List.getElem?_cons_zero]; rfl) (fun K hK => ?_) ?_
        · go_simp
          (first | (refine hK _ _ ?_; clear hK K) | skip)
          (refine wpAny_take (i := 7) (v := ?_) (by simp only [List.getElem?_toArray, List.getElem?_cons_succ, List.getElem?_cons_zero]; rfl) (by kernel_rfl) (by kernel_rfl) (by kernel_rfl) (by exact fun _ _ _ h => h) (Or.inl ⟨by rfl, ?_⟩) ?_; rotate_left 1; · (intro w; go_simp; (try with_reducible rfl)))
          refine wpAny_ready (rs := [1, 8]) (by kernel_rfl) (by simp) ?_
          refine AllReady.cons (by simp only [List.getElem?_toArray, List.getElem?_cons_succ, List.getElem?_cons_zero]; rfl) (fun K hK => ?_) ?_
          · go_simp
            (first | (refine hK _ _ ?_; clear hK K) | skip)
            refine wpAny_ready (rs := [8]) (by kernel_rfl) (by simp) ?_
            refine AllReady.cons (by simp only [List.getElem?_toArray, List.getElem?_cons_succ, List.getElem?_cons_zero]; rfl) (fun K hK => ?_) ?_
            · (go_simp; go_at_call 72; refine (ref_term _ _).mono ?_; rintro e w3 ⟨A3, C3, rfl, hti, hb3⟩; have hb3' := below_undrew hb3; have z0 := cell_later hb3' y0; have z1 := cell_later hb3' y1; have zz1 := cell_later (below_alloc1 w3 (.cells #[.int .i64 4, .int .i64 (T.parse (x.extract 2 x.size)).1.kind, .string (T.parse (x.extract 2 x.size)).1.name, .slice A3 (T.parse (x.extract 2 x.size)).1.kids.length C3] 52)) z1; have HOWN3 := Lib.hid ((own_later HOWN.out hb3').alloc (.cells #[.int .i64 4, .int .i64 (T.parse (x.extract 2 x.size)).1.kind, .string (T.parse (x.extract 2 x.size)).1.name, .slice A3 (T.parse (x.extract 2 x.size)).1.kids.length C3] 52)); have HONE := Lib.hid (move_one (k := 4) hti); have HBS := Lib.hid (show w.heap.size + 2 ≤ (w3.alloc (.cells #[.int .i64 4, .int .i64 (T.parse (x.extract 2 x.size)).1.kind, .string (T.parse (x.extract 2 x.size)).1.name, .slice A3 (T.parse (x.extract 2 x.size)).1.kids.length C3] 52)).heap.size by rw [size_alloc1]; have := hb3'.size; have := HSZ.out; omega))
              (first | (refine hK _ _ ?_; clear hK K) | skip)
              (refine wpAny_take (i := 9) (v := ?_) (by simp only [List.getElem?_toArray, List.getElem?_cons_succ, List.getElem?_cons_zero]; rfl) (by kernel_rfl) (by kernel_rfl) (by kernel_rfl) (by exact fun _ _ _ h => h) (Or.inl ⟨by rfl, ?_⟩) ?_; rotate_left 1; · (intro w; go_simp; (try with_reducible rfl)))
              refine wpAny_ready (rs := [10]) (by kernel_rfl) (by simp) ?_
              refine AllReady.cons (by simp only [List.getElem?_toArray, List.getElem?_cons_succ, List.getElem?_cons_zero]; rfl) (fun K hK => ?_) ?_
              · go_simp
                (first | (refine hK _ _ ?_; clear hK K) | skip)
                refine wpAny_ready (rs := [11]) (by kernel_rfl) (by simp) ?_
                refine AllReady.cons (by simp only [List.getElem?_toArray, List.getElem?_cons_succ, List.getElem?_cons_zero]; rfl) (fun K hK => ?_) ?_
                · (refine step_append_lies _ (by rfl) _ _ _ (by rfl) (w.heap.size + 2) 52 i0 _ 4 56 Tryz.underlying47 hi0 hz0 hz1 hz2 rfl (by omega) _ _ _ (by rfl) HOWN3.out ⟨_, 0, none⟩ 1 1 _ (by rfl) (by rfl) (World.news_of_block (heap_alloc_new _ _)) HONE.out (by omega) (by unfold maxLen; omega) (by omega) HBS.out _ rfl ?_; intro g cap w4 hown4 hgrow hat hlt4; have HB4 := (HBX.out.later (hb3'.trans ((below_alloc1 w3 _).mono hb3'.size))).grown hgrow HNE.out; have c4 := HB4.cells.2; have f4 := HB4.free.2; go_simp)
                  (first | (refine hK _ _ ?_; clear hK K) | skip)
                  (refine wpAny_take (i := 12) (v := ?_) (by simp only [List.getElem?_toArray, List.getElem?_cons_succ, List.getElem?_cons_zero]; rfl) (by kernel_rfl) (by kernel_rfl) (by kernel_rfl) (by exact fun _ _ _ h => h) (Or.inl ⟨by rfl, ?_⟩) ?_; rotate_left 1; · (intro w; go_simp; (try with_reducible rfl)))
                  refine wpAny_ready (rs := [13]) (by kernel_rfl) (by simp) ?_
                  refine AllReady.cons (by simp only [List.getElem?_toArray, List.getElem?_cons_succ, List.getElem?_cons_zero]; rfl) (fun K hK => ?_) ?_
                  · go_simp
                    (first | (refine hK _ _ ?_; clear hK K) | skip)
                    refine wpAny_done (by kernel_rfl) ?_ _
                    have hfin := HSTEP.out ((4 : Int)) (T.parse (x.extract 2 x.size)).1 w3 w4 _ _ _ g cap (by omega) hb3' hti hown4 hgrow (hat.imp id (fun h => h.trans (size_alloc1 _ _)))
                    rw [show ((4 : Int), (T.parse (x.extract 2 x.size)).1) = moveOf x by first | (rw [HMV.out]; done) | (rw [HMV.out]; rfl), HTK.out] at hfin
                    have HFIN := Lib.hid hfin
                    clear hfin hgrow hown4 hti c4 f4 HB4 z0 z1 zz1 hat hlt4
                    go_wp2_with fail
                    go_roundw
                    case rel => exact ⟨j + 1, HLT.out, by go_num, HFIN.out⟩
                    case measure => have := HLT.out; simp [intOf]; omega
                  exact AllReady.nil
                exact AllReady.nil
              exact AllReady.nil
            exact AllReady.nil
          refine AllReady.cons (by simp only [List.getElem?_toArray, List.getElem?_cons_succ, List.getElem?_cons_zero]; rfl) (fun K hK => ?_) ?_
          · (go_simp; go_at_call 72; refine (ref_term _ _).mono ?_; rintro e w3 ⟨A3, C3, rfl, hti, hb3⟩; have hb3' := below_undrew hb3; have z0 := cell_later hb3' y0; have z1 := cell_later hb3' y1; have zz1 := cell_later (below_alloc1 w3 (.cells #[.int .i64 4, .int .i64 (T.parse (x.extract 2 x.size)).1.kind, .string (T.parse (x.extract 2 x.size)).1.name, .slice A3 (T.parse (x.extract 2 x.size)).1.kids.length C3] 52)) z1; have HOWN3 := Lib.hid ((own_later HOWN.out hb3').alloc (.cells #[.int .i64 4, .int .i64 (T.parse (x.extract 2 x.size)).1.kind, .string (T.parse (x.extract 2 x.size)).1.name, .slice A3 (T.parse (x.extract 2 x.size)).1.kids.length C3] 52)); have HONE := Lib.hid (move_one (k := 4) hti); have HBS := Lib.hid (show w.heap.size + 2 ≤ (w3.alloc (.cells #[.int .i64 4, .int .i64 (T.parse (x.extract 2 x.size)).1.kind, .string (T.parse (x.extract 2 x.size)).1.name, .slice A3 (T.parse (x.extract 2 x.size)).1.kids.length C3] 52)).heap.size by rw [size_alloc1]; have := hb3'.size; have := HSZ.out; omega))
            (first | (refine hK _ _ ?_; clear hK K) | skip)
            (refine wpAny_take (i := 9) (v := ?_) (by simp only [List.getElem?_toArray, List.getElem?_cons_succ, List.getElem?_cons_zero]; rfl) (by kernel_rfl) (by kernel_rfl) (by kernel_rfl) (by exact fun _ _ _ h => h) (Or.inl ⟨by rfl, ?_⟩) ?_; rotate_left 1; · (intro w; go_simp; (try with_reducible rfl)))
            refine wpAny_ready (rs := [1, 10]) (by kernel_rfl) (by simp) ?_
            refine AllReady.cons (by simp only [List.getElem?_toArray, List.getElem?_cons_succ, List.getElem?_cons_zero]; rfl) (fun K hK => ?_) ?_
            · go_simp
              (first | (refine hK _ _ ?_; clear hK K) | skip)
              refine wpAny_ready (rs := [10]) (by kernel_rfl) (by simp) ?_
              refine AllReady.cons (by simp only [List.getElem?_toArray, List.getElem?_cons_succ, List.getElem?_cons_zero]; rfl) (fun K hK => ?_) ?_
              · go_simp
                (first | (refine hK _ _ ?_; clear hK K) | skip)
                refine wpAny_ready (rs := [11]) (by kernel_rfl) (by simp) ?_
                refine AllReady.cons (by simp only [List.getElem?_toArray, List.getElem?_cons_succ, List.getElem?_cons_zero]; rfl) (fun K hK => ?_) ?_
                · (refine step_append_lies _ (by rfl) _ _ _ (by rfl) (w.heap.size + 2) 52 i0 _ 4 56 Tryz.underlying47 hi0 hz0 hz1 hz2 rfl (by omega) _ _ _ (by rfl) HOWN3.out ⟨_, 0, none⟩ 1 1 _ (by rfl) (by rfl) (World.news_of_block (heap_alloc_new _ _)) HONE.out (by omega) (by unfold maxLen; omega) (by omega) HBS.out _ rfl ?_; intro g cap w4 hown4 hgrow hat hlt4; have HB4 := (HBX.out.later (hb3'.trans ((below_alloc1 w3 _).mono hb3'.size))).grown hgrow HNE.out; have c4 := HB4.cells.2; have f4 := HB4.free.2; go_simp)
                  (first | (refine hK _ _ ?_; clear hK K) | skip)
                  (refine wpAny_take (i := 12) (v := ?_) (by simp only [List.getElem?_toArray, List.getElem?_cons_succ, List.getElem?_cons_zero]; rfl) (by kernel_rfl) (by kernel_rfl) (by kernel_rfl) (by exact fun _ _ _ h => h) (Or.inl ⟨by rfl, ?_⟩) ?_; rotate_left 1; · (intro w; go_simp; (try with_reducible rfl)))
                  refine wpAny_ready (rs := [13]) (by kernel_rfl) (by simp) ?_
                  refine AllReady.cons (by simp only [List.getElem?_toArray, List.getElem?_cons_succ, List.getElem?_cons_zero]; rfl) (fun K hK => ?_) ?_
                  · go_simp
                    (first | (refine hK _ _ ?_; clear hK K) | skip)
                    refine wpAny_done (by kernel_rfl) ?_ _
                    have hfin := HSTEP.out ((4 : Int)) (T.parse (x.extract 2 x.size)).1 w3 w4 _ _ _ g cap (by omega) hb3' hti hown4 hgrow (hat.imp id (fun h => h.trans (size_alloc1 _ _)))
                    rw [show ((4 : Int), (T.parse (x.extract 2 x.size)).1) = moveOf x by first | (rw [HMV.out]; done) | (rw [HMV.out]; rfl), HTK.out] at hfin
                    have HFIN := Lib.hid hfin
                    clear hfin hgrow hown4 hti c4 f4 HB4 z0 z1 zz1 hat hlt4
                    go_wp2_with fail
                    go_roundw
                    case rel => exact ⟨j + 1, HLT.out, by go_num, HFIN.out⟩
                    case measure => have := HLT.out; simp [intOf]; omega
                  exact AllReady.nil
                exact AllReady.nil
              exact AllReady.nil
            refine AllReady.cons (by simp only [List.getElem?_toArray, List.getElem?_cons_succ, List.getElem?_cons_zero]; rfl) (fun K hK => ?_) ?_
            · go_simp
              (first | (refine hK _ _ ?_; clear hK K) | skip)
              refine wpAny_ready (rs := [1]) (by kernel_rfl) (by simp) ?_
              refine AllReady.cons (by simp only [List.getElem?_toArray, List.getElem?_cons_succ, List.getElem?_cons_zero]; rfl) (fun K hK => ?_) ?_
              · go_simp
                (first | (refine hK _ _ ?_; clear hK K) | skip)
                refine wpAny_ready (rs := [11]) (by kernel_rfl) (by simp) ?_
                refine AllReady.cons (by simp only [List.getElem?_toArray, List.getElem?_cons_succ, List.getElem?_cons_zero]; rfl) (fun K hK => ?_) ?_
                · (refine step_append_lies _ (by rfl) _ _ _ (by rfl) (w.heap.size + 2) 52 i0 _ 4 56 Tryz.underlying47 hi0 hz0 hz1 hz2 rfl (by omega) _ _ _ (by rfl) HOWN3.out ⟨_, 0, none⟩ 1 1 _ (by rfl) (by rfl) (World.news_of_block (heap_alloc_new _ _)) HONE.out (by omega) (by unfold maxLen; omega) (by omega) HBS.out _ rfl ?_; intro g cap w4 hown4 hgrow hat hlt4; have HB4 := (HBX.out.later (hb3'.trans ((below_alloc1 w3 _).mono hb3'.size))).grown hgrow HNE.out; have c4 := HB4.cells.2; have f4 := HB4.free.2; go_simp)
                  (first | (refine hK _ _ ?_; clear hK K) | skip)
                  (refine wpAny_take (i := 12) (v := ?_) (by simp only [List.getElem?_toArray, List.getElem?_cons_succ, List.getElem?_cons_zero]; rfl) (by kernel_rfl) (by kernel_rfl) (by kernel_rfl) (by exact fun _ _ _ h => h) (Or.inl ⟨by rfl, ?_⟩) ?_; rotate_left 1; · (intro w; go_simp; (try with_reducible rfl)))
                  refine wpAny_ready (rs := [13]) (by kernel_rfl) (by simp) ?_
                  refine AllReady.cons (by simp only [List.getElem?_toArray, List.getElem?_cons_succ, List.getElem?_cons_zero]; rfl) (fun K hK => ?_) ?_
                  · go_simp
                    (first | (refine hK _ _ ?_; clear hK K) | skip)
                    refine wpAny_done (by kernel_rfl) ?_ _
                    have hfin := HSTEP.out ((4 : Int)) (T.parse (x.extract 2 x.size)).1 w3 w4 _ _ _ g cap (by omega) hb3' hti hown4 hgrow (hat.imp id (fun h => h.trans (size_alloc1 _ _)))
                    rw [show ((4 : Int), (T.parse (x.extract 2 x.size)).1) = moveOf x by first | (rw [HMV.out]; done) | (rw [HMV.out]; rfl), HTK.out] at hfin
                    have HFIN := Lib.hid hfin
                    clear hfin hgrow hown4 hti c4 f4 HB4 z0 z1 zz1 hat hlt4
                    go_wp2_with fail
                    go_roundw
                    case rel => exact ⟨j + 1, HLT.out, by go_num, HFIN.out⟩
                    case measure => have := HLT.out; simp [intOf]; omega
                  exact AllReady.nil
                exact AllReady.nil
              exact AllReady.nil
            exact AllReady.nil
          exact AllReady.nil
        exact AllReady.nil
    · obtain rfl : j = ts.length := by omega
      rw [List.take_of_length_le (by simp)] at hat
      obtain ⟨kv, bx, bz, hrow, hbw, hsz⟩ := hat
      obtain ⟨A4, C4, hkv, hmv⟩ := hrow.moves
      rw [HL.out] at hkv hmv
      obtain ⟨y0, y1⟩ := bx.cells
      obtain ⟨q0, q1⟩ := bz.cells
      obtain ⟨f0, f1⟩ := bz.free
      have HMV := Lib.hid hmv
      have HBW := Lib.hid hbw; have HBZ := Lib.hid bz
      rw [hkv] at y1
      clear hkv hrow hbw bx bz hmv
      go_wp2_with fail
      obtain ⟨d0, d1⟩ := (HBZ.out.set2 (.string role) (.slice A4 L.length C4)).cells
      refine bodyPost_ret (v := .agg #[.string role, .slice A4 L.length C4]) (by simp [results, Tryz.results73, go_sem, d0, d1]) rfl ?_
      refine ⟨A4, C4, rfl, HMV.out.keep fun b hb _ => ?_, (HBW.out.setCell (Nat.le_refl _) _).setCell (Nat.le_refl _) _⟩
      have := of_decide_eq_true hb
      exact ⟨decide_eq_true (by omega), sset2_other _ _ _ _ _ (by omega)⟩
end Go.Proofs.YtihbmgkbipeakaaGreat
