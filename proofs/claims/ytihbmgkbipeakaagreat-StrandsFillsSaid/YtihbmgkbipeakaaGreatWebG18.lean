/- Several texts in one: StrCpy. -/
import Derived.Test.YtihbmgkbipeakaaGreatWebG17
namespace Go.Proofs.YtihbmgkbipeakaaGreat
open Go.RowKit T

attribute [local go_sem ↓] Go.wp_at_zero Go.wp_at_succ

set_option maxRecDepth 100000 in
set_option maxHeartbeats 8000000 in
theorem ocopyB (L : List Bd) (v : Value) (w : World) (hv : BindsAt w v L) (hb : ∀ x ∈ L, x.t.bulk ≤ 1048576) (hn : L.length ≤ 1000000) :
    Calls Tryz.prog 80 #[v] w fun e w' => ∃ v', e = .returned v' ∧ BindsAt w' v' L ∧ Below w.heap.size w w' := by
  obtain ⟨A, cap, rfl, hc1, hc2⟩ := hv.shape
  obtain ⟨i0, hi0, hz0, hz1, hz2⟩ := info_parts Tryz.infoB
  obtain ⟨n, hn'⟩ : ∃ n, L.length = n := ⟨_, rfl⟩
  have HN := Lib.hid hn'; have HB := Lib.hid hb; have HV := Lib.hid hv
  rw [hn'] at hn hc1 ⊢
  clear hv hb hn'
  go_enter Tryz.func80, Tryz.ntmps80
  go_wp2_with fail
  go_loopw [8, 3] (fun i o wr => ∃ j : Nat, j ≤ n ∧ i = .int .i64 j ∧ BRow w.heap.size wr o (L.take j) ∧ Below w.heap.size w wr) (fun i _ _ => n - (intOf i).toNat)
  case atStart => exact ⟨0, Nat.zero_le _, rfl, by rw [List.take_zero]; exact BRow.nil _ _, Below.refl _ _⟩
  case round =>
    obtain ⟨j, hj, rfl, hrow, hbw⟩ := hrel
    by_cases hlt : j < n
    · have hjl : j < L.length := by rw [HN.out]; exact hlt
      obtain ⟨b, off, B, c, rfl, d0', d1', d2', d3', ht, hsz⟩ := HV.out.get hjl
      have hbk := HB.out _ (List.getElem_mem hjl)
      have htk : L.take (j + 1) = L.take j ++ [⟨L[j].var, L[j].t⟩] := List.take_succ_eq_append_getElem hjl
      obtain ⟨x, hx⟩ : ∃ x, L[j] = x := ⟨_, rfl⟩
      rw [hx] at d0' d1' d2' d3' ht hbk hsz htk
      have d0 := cell_later hbw d0'; have d1 := cell_later hbw d1'; have d2 := cell_later hbw d2'; have d3 := cell_later hbw d3'
      obtain ⟨Ao, co, xs, rfl, hown, hbc⟩ := hrow.cells
      have hlj : (L.take j).length = j := by rw [List.length_take]; omega
      rw [hlj] at hown hbc ⊢
      have hi : (j : Int) < (n : Int) := by omega
      have hq := below_alloc1 wr (.cells #[.string x.var, .int .i64 x.t.kind, .string x.t.name, .slice B x.t.kids.length c] 66)
      have hnw := heap_alloc_new wr (.cells #[.string x.var, .int .i64 x.t.kind, .string x.t.name, .slice B x.t.kids.length c] 66)
      have hqs := size_alloc1 wr (.cells #[.string x.var, .int .i64 x.t.kind, .string x.t.name, .slice B x.t.kids.length c] 66)
      have HBW := Lib.hid (hbw.trans (hq.mono hbw.size)); have HT := Lib.hid (ht.later (hbw.trans (hq.mono hbw.size))); have HLT := Lib.hid hlt; have HBK := Lib.hid hbk; have HTK := Lib.hid htk; have HSZ := Lib.hid hsz
      have HOWN := Lib.hid (own_later hown hq); have HBC := Lib.hid (show BCI (but w.heap.size (Value.slice Ao j co).ownBlock) _ xs (L.take j) from hbc.keep fun b hb hl => ⟨hb, hq.block b hl⟩)
      have HLJ := Lib.hid hlj
      clear hbw ht hx hq hjl hj d0' d1' d2' d3' hbk htk hsz hown hbc hrow hlj hlt
      go_upto_region 5 with fail
      generalize wr.alloc (.cells #[.string x.var, .int .i64 x.t.kind, .string x.t.name, .slice B x.t.kids.length c] 66) = w2 at hnw hqs HBW HT HOWN HBC ⊢
      obtain ⟨g5, hg5⟩ : ∃ g5, wr.heap.size = g5 := ⟨_, rfl⟩
      rw [hg5] at hnw ⊢
      have y0 : w2.cell? ⟨g5, 0, none⟩ = some (.string x.var) := by unfold World.cell?; rw [hnw]; rfl
      have y1 : w2.cell? ⟨g5, 1, none⟩ = some (.int .i64 x.t.kind) := by unfold World.cell?; rw [hnw]; rfl
      have y2 : w2.cell? ⟨g5, 2, none⟩ = some (.string x.t.name) := by unfold World.cell?; rw [hnw]; rfl
      have y3 : w2.cell? ⟨g5, 3, none⟩ = some (.slice B x.t.kids.length c) := by unfold World.cell?; rw [hnw]; rfl
      clear hnw hg5 d0 d1 d2 d3 hqs
      refine wp_region_any (by kernel_rfl) ?_
      (try (change wpAny _ _ _ _ _ _ _ (World.drew _)))
      (refine wpAny_take (i := 0) (v := ?_) (by simp only [List.getElem?_toArray, List.getElem?_cons_zero]; rfl) (by kernel_rfl) (by kernel_rfl) (by kernel_rfl) (by exact fun _ _ _ h => h) (Or.inl ⟨by rfl, ?_⟩) ?_; rotate_left 1; · (intro w; go_simp; (try with_reducible rfl)))
      (refine wpAny_take (i := 1) (v := ?_) (by simp only [List.getElem?_toArray, List.getElem?_cons_succ, List.getElem?_cons_zero]; rfl) (by kernel_rfl) (by kernel_rfl) (by kernel_rfl) (by exact fun _ _ _ h => h) (Or.inl ⟨by rfl, ?_⟩) ?_; rotate_left 1; · (intro w; go_simp; (try with_reducible rfl)))
      (refine wpAny_take (i := 3) (v := ?_) (by simp only [List.getElem?_toArray, List.getElem?_cons_succ, List.getElem?_cons_zero]; rfl) (by kernel_rfl) (by kernel_rfl) (by kernel_rfl) (by exact fun _ _ _ h => h) (Or.inl ⟨by rfl, ?_⟩) ?_; rotate_left 1; · (intro w; go_simp; (try with_reducible rfl)))
      refine wpAny_ready (rs := [2, 4]) (by kernel_rfl) (by simp) ?_
      refine AllReady.cons (by simp only [List.getElem?_toArray, List.getElem?_cons_succ, List.getElem?_cons_zero]; rfl) (fun K hK => ?_) ?_
      · go_simp
        (first | (refine hK _ _ ?_; clear hK K) | skip)
        refine wpAny_ready (rs := [4]) (by kernel_rfl) (by simp) ?_
        refine AllReady.cons (by simp only [List.getElem?_toArray, List.getElem?_cons_succ, List.getElem?_cons_zero]; rfl) (fun K hK => ?_) ?_
        · go_simp
          (first | (refine hK _ _ ?_; clear hK K) | skip)
          refine wpAny_ready (rs := [5]) (by kernel_rfl) (by simp) ?_
          refine AllReady.cons (by simp only [List.getElem?_toArray, List.getElem?_cons_succ, List.getElem?_cons_zero]; rfl) (fun K hK => ?_) ?_
          · (go_simp; go_at_call 53; refine (ocopy (x.t.bulk + 1) x.t _ _ (by omega) HT.out.drew HBK.out).mono ?_; rintro e w3 ⟨A3, C3, rfl, hti, hb3⟩; have hb3' := below_undrew hb3; have z0 := cell_later hb3' y0; have z1 := cell_later hb3' y1; have z2 := cell_later hb3' y2; have z3 := cell_later hb3' y3; have HOWN3 := Lib.hid ((own_later HOWN.out hb3').alloc (.cells #[.string x.var, .int .i64 x.t.kind, .string x.t.name, .slice A3 x.t.kids.length C3] 66)); have HONE := Lib.hid (bind_one x.var x.t A3 C3); have HBS := Lib.hid (show w.heap.size ≤ (w3.alloc (.cells #[.string x.var, .int .i64 x.t.kind, .string x.t.name, .slice A3 x.t.kids.length C3] 66)).heap.size by rw [size_alloc1]; have := hb3'.size; have := HBW.out.size; omega))
            (first | (refine hK _ _ ?_; clear hK K) | skip)
            (refine wpAny_take (i := 6) (v := ?_) (by simp only [List.getElem?_toArray, List.getElem?_cons_succ, List.getElem?_cons_zero]; rfl) (by kernel_rfl) (by kernel_rfl) (by kernel_rfl) (by exact fun _ _ _ h => h) (Or.inl ⟨by rfl, ?_⟩) ?_; rotate_left 1; · (intro w; go_simp; (try with_reducible rfl)))
            refine wpAny_ready (rs := [7]) (by kernel_rfl) (by simp) ?_
            refine AllReady.cons (by simp only [List.getElem?_toArray, List.getElem?_cons_succ, List.getElem?_cons_zero]; rfl) (fun K hK => ?_) ?_
            · go_simp
              (first | (refine hK _ _ ?_; clear hK K) | skip)
              refine wpAny_ready (rs := [8]) (by kernel_rfl) (by simp) ?_
              refine AllReady.cons (by simp only [List.getElem?_toArray, List.getElem?_cons_succ, List.getElem?_cons_zero]; rfl) (fun K hK => ?_) ?_
              · (refine step_append_lies _ (by rfl) _ _ _ (by rfl) w.heap.size 66 i0 _ 4 64 Tryz.underlying62 hi0 hz0 hz1 hz2 rfl (by omega) _ j _ (by rfl) HOWN3.out ⟨_, 0, none⟩ 1 1 _ (by rfl) (by rfl) (World.news_of_block (heap_alloc_new _ _)) HONE.out (by omega) (by unfold maxLen; omega) (by omega) HBS.out _ rfl ?_; intro g cap4 w4 hown4 hgrow hat hlt4; go_simp)
                (first | (refine hK _ _ ?_; clear hK K) | skip)
                (refine wpAny_take (i := 9) (v := ?_) (by simp only [List.getElem?_toArray, List.getElem?_cons_succ, List.getElem?_cons_zero]; rfl) (by kernel_rfl) (by kernel_rfl) (by kernel_rfl) (by exact fun _ _ _ h => h) (Or.inl ⟨by rfl, ?_⟩) ?_; rotate_left 1; · (intro w; go_simp; (try with_reducible rfl)))
                refine wpAny_done (by kernel_rfl) ?_ _
                have hfin := BRow.push (base := w.heap.size) HOWN.out HLJ.out.symm HBC.out HSZ.out (fun b _ hl => hb3'.block b hl) hb3'.size HBW.out.size hti hown4 hgrow hat
                have hb5 := hb3'.trans ((below_alloc1 w3 (.cells #[.string x.var, .int .i64 x.t.kind, .string x.t.name, .slice A3 x.t.kids.length C3] 66)).mono hb3'.size)
                have hbf := (HBW.out.trans (hb5.mono HBW.out.size)).grown hgrow HBS.out (fun k hk => (HOWN.out.lt k hk).1)
                rw [← HTK.out] at hfin
                have HFIN := Lib.hid hfin; have HBF := Lib.hid hbf
                clear hfin hbf hb5 hown4 hgrow hat hlt4 hti hb3 hb3' z0 z1 z2 z3 y0 y1 y2 y3
                go_wp2_with fail
                go_roundw
                case rel => exact ⟨j + 1, HLT.out, by go_num, HFIN.out, HBF.out⟩
                case measure => have := HLT.out; simp [intOf]; omega
              exact AllReady.nil
            exact AllReady.nil
          exact AllReady.nil
        exact AllReady.nil
      refine AllReady.cons (by simp only [List.getElem?_toArray, List.getElem?_cons_succ, List.getElem?_cons_zero]; rfl) (fun K hK => ?_) ?_
      · go_simp
        (first | (refine hK _ _ ?_; clear hK K) | skip)
        refine wpAny_ready (rs := [2, 5]) (by kernel_rfl) (by simp) ?_
        refine AllReady.cons (by simp only [List.getElem?_toArray, List.getElem?_cons_succ, List.getElem?_cons_zero]; rfl) (fun K hK => ?_) ?_
        · go_simp
          (first | (refine hK _ _ ?_; clear hK K) | skip)
          refine wpAny_ready (rs := [5]) (by kernel_rfl) (by simp) ?_
          refine AllReady.cons (by simp only [List.getElem?_toArray, List.getElem?_cons_succ, List.getElem?_cons_zero]; rfl) (fun K hK => ?_) ?_
          · (go_simp; go_at_call 53; refine (ocopy (x.t.bulk + 1) x.t _ _ (by omega) HT.out.drew HBK.out).mono ?_; rintro e w3 ⟨A3, C3, rfl, hti, hb3⟩; have hb3' := below_undrew hb3; have z0 := cell_later hb3' y0; have z1 := cell_later hb3' y1; have z2 := cell_later hb3' y2; have z3 := cell_later hb3' y3; have HOWN3 := Lib.hid ((own_later HOWN.out hb3').alloc (.cells #[.string x.var, .int .i64 x.t.kind, .string x.t.name, .slice A3 x.t.kids.length C3] 66)); have HONE := Lib.hid (bind_one x.var x.t A3 C3); have HBS := Lib.hid (show w.heap.size ≤ (w3.alloc (.cells #[.string x.var, .int .i64 x.t.kind, .string x.t.name, .slice A3 x.t.kids.length C3] 66)).heap.size by rw [size_alloc1]; have := hb3'.size; have := HBW.out.size; omega))
            (first | (refine hK _ _ ?_; clear hK K) | skip)
            (refine wpAny_take (i := 6) (v := ?_) (by simp only [List.getElem?_toArray, List.getElem?_cons_succ, List.getElem?_cons_zero]; rfl) (by kernel_rfl) (by kernel_rfl) (by kernel_rfl) (by exact fun _ _ _ h => h) (Or.inl ⟨by rfl, ?_⟩) ?_; rotate_left 1; · (intro w; go_simp; (try with_reducible rfl)))
            refine wpAny_ready (rs := [7]) (by kernel_rfl) (by simp) ?_
            refine AllReady.cons (by simp only [List.getElem?_toArray, List.getElem?_cons_succ, List.getElem?_cons_zero]; rfl) (fun K hK => ?_) ?_
            · go_simp
              (first | (refine hK _ _ ?_; clear hK K) | skip)
              refine wpAny_ready (rs := [8]) (by kernel_rfl) (by simp) ?_
              refine AllReady.cons (by simp only [List.getElem?_toArray, List.getElem?_cons_succ, List.getElem?_cons_zero]; rfl) (fun K hK => ?_) ?_
              · (refine step_append_lies _ (by rfl) _ _ _ (by rfl) w.heap.size 66 i0 _ 4 64 Tryz.underlying62 hi0 hz0 hz1 hz2 rfl (by omega) _ j _ (by rfl) HOWN3.out ⟨_, 0, none⟩ 1 1 _ (by rfl) (by rfl) (World.news_of_block (heap_alloc_new _ _)) HONE.out (by omega) (by unfold maxLen; omega) (by omega) HBS.out _ rfl ?_; intro g cap4 w4 hown4 hgrow hat hlt4; go_simp)
                (first | (refine hK _ _ ?_; clear hK K) | skip)
                (refine wpAny_take (i := 9) (v := ?_) (by simp only [List.getElem?_toArray, List.getElem?_cons_succ, List.getElem?_cons_zero]; rfl) (by kernel_rfl) (by kernel_rfl) (by kernel_rfl) (by exact fun _ _ _ h => h) (Or.inl ⟨by rfl, ?_⟩) ?_; rotate_left 1; · (intro w; go_simp; (try with_reducible rfl)))
                refine wpAny_done (by kernel_rfl) ?_ _
                have hfin := BRow.push (base := w.heap.size) HOWN.out HLJ.out.symm HBC.out HSZ.out (fun b _ hl => hb3'.block b hl) hb3'.size HBW.out.size hti hown4 hgrow hat
                have hb5 := hb3'.trans ((below_alloc1 w3 (.cells #[.string x.var, .int .i64 x.t.kind, .string x.t.name, .slice A3 x.t.kids.length C3] 66)).mono hb3'.size)
                have hbf := (HBW.out.trans (hb5.mono HBW.out.size)).grown hgrow HBS.out (fun k hk => (HOWN.out.lt k hk).1)
                rw [← HTK.out] at hfin
                have HFIN := Lib.hid hfin; have HBF := Lib.hid hbf
                clear hfin hbf hb5 hown4 hgrow hat hlt4 hti hb3 hb3' z0 z1 z2 z3 y0 y1 y2 y3
                go_wp2_with fail
                go_roundw
                case rel => exact ⟨j + 1, HLT.out, by go_num, HFIN.out, HBF.out⟩
                case measure => have := HLT.out; simp [intOf]; omega
              exact AllReady.nil
            exact AllReady.nil
          exact AllReady.nil
        refine AllReady.cons (by simp only [List.getElem?_toArray, List.getElem?_cons_succ, List.getElem?_cons_zero]; rfl) (fun K hK => ?_) ?_
        · (go_simp; go_at_call 53; refine (ocopy (x.t.bulk + 1) x.t _ _ (by omega) HT.out.drew HBK.out).mono ?_; rintro e w3 ⟨A3, C3, rfl, hti, hb3⟩; have hb3' := below_undrew hb3; have z0 := cell_later hb3' y0; have z1 := cell_later hb3' y1; have z2 := cell_later hb3' y2; have z3 := cell_later hb3' y3; have HOWN3 := Lib.hid ((own_later HOWN.out hb3').alloc (.cells #[.string x.var, .int .i64 x.t.kind, .string x.t.name, .slice A3 x.t.kids.length C3] 66)); have HONE := Lib.hid (bind_one x.var x.t A3 C3); have HBS := Lib.hid (show w.heap.size ≤ (w3.alloc (.cells #[.string x.var, .int .i64 x.t.kind, .string x.t.name, .slice A3 x.t.kids.length C3] 66)).heap.size by rw [size_alloc1]; have := hb3'.size; have := HBW.out.size; omega))
          (first | (refine hK _ _ ?_; clear hK K) | skip)
          refine wpAny_ready (rs := [2]) (by kernel_rfl) (by simp) ?_
          refine AllReady.cons (by simp only [List.getElem?_toArray, List.getElem?_cons_succ, List.getElem?_cons_zero]; rfl) (fun K hK => ?_) ?_
          · go_simp
            (first | (refine hK _ _ ?_; clear hK K) | skip)
            (refine wpAny_take (i := 6) (v := ?_) (by simp only [List.getElem?_toArray, List.getElem?_cons_succ, List.getElem?_cons_zero]; rfl) (by kernel_rfl) (by kernel_rfl) (by kernel_rfl) (by exact fun _ _ _ h => h) (Or.inl ⟨by rfl, ?_⟩) ?_; rotate_left 1; · (intro w; go_simp; (try with_reducible rfl)))
            refine wpAny_ready (rs := [7]) (by kernel_rfl) (by simp) ?_
            refine AllReady.cons (by simp only [List.getElem?_toArray, List.getElem?_cons_succ, List.getElem?_cons_zero]; rfl) (fun K hK => ?_) ?_
            · go_simp
              (first | (refine hK _ _ ?_; clear hK K) | skip)
              refine wpAny_ready (rs := [8]) (by kernel_rfl) (by simp) ?_
              refine AllReady.cons (by simp only [List.getElem?_toArray, List.getElem?_cons_succ, List.getElem?_cons_zero]; rfl) (fun K hK => ?_) ?_
              · (refine step_append_lies _ (by rfl) _ _ _ (by rfl) w.heap.size 66 i0 _ 4 64 Tryz.underlying62 hi0 hz0 hz1 hz2 rfl (by omega) _ j _ (by rfl) HOWN3.out ⟨_, 0, none⟩ 1 1 _ (by rfl) (by rfl) (World.news_of_block (heap_alloc_new _ _)) HONE.out (by omega) (by unfold maxLen; omega) (by omega) HBS.out _ rfl ?_; intro g cap4 w4 hown4 hgrow hat hlt4; go_simp)
                (first | (refine hK _ _ ?_; clear hK K) | skip)
                (refine wpAny_take (i := 9) (v := ?_) (by simp only [List.getElem?_toArray, List.getElem?_cons_succ, List.getElem?_cons_zero]; rfl) (by kernel_rfl) (by kernel_rfl) (by kernel_rfl) (by exact fun _ _ _ h => h) (Or.inl ⟨by rfl, ?_⟩) ?_; rotate_left 1; · (intro w; go_simp; (try with_reducible rfl)))
                refine wpAny_done (by kernel_rfl) ?_ _
                have hfin := BRow.push (base := w.heap.size) HOWN.out HLJ.out.symm HBC.out HSZ.out (fun b _ hl => hb3'.block b hl) hb3'.size HBW.out.size hti hown4 hgrow hat
                have hb5 := hb3'.trans ((below_alloc1 w3 (.cells #[.string x.var, .int .i64 x.t.kind, .string x.t.name, .slice A3 x.t.kids.length C3] 66)).mono hb3'.size)
                have hbf := (HBW.out.trans (hb5.mono HBW.out.size)).grown hgrow HBS.out (fun k hk => (HOWN.out.lt k hk).1)
                rw [← HTK.out] at hfin
                have HFIN := Lib.hid hfin; have HBF := Lib.hid hbf
                clear hfin hbf hb5 hown4 hgrow hat hlt4 hti hb3 hb3' z0 z1 z2 z3 y0 y1 y2 y3
                go_wp2_with fail
                go_roundw
                case rel => exact ⟨j + 1, HLT.out, by go_num, HFIN.out, HBF.out⟩
                case measure => have := HLT.out; simp [intOf]; omega
              exact AllReady.nil
            exact AllReady.nil
          exact AllReady.nil
        exact AllReady.nil
      exact AllReady.nil
    · obtain rfl : j = n := by omega
      rw [List.take_of_length_le (by rw [HN.out]; exact Nat.le_refl _)] at hrow
      have hi : ¬ (j : Int) < (j : Int) := by omega
      have HR := Lib.hid hrow.binds; have HBW := Lib.hid hbw
      clear hrow hbw
      go_wp2_with fail
      go_ret
      exact ⟨_, rfl, HR.out, HBW.out⟩

theorem matT_no1 {p t : T} {L : List Bd} (h : p.valid = false) : matT p t L = none := by unfold matT; rw [h]; rfl
theorem matT_no2 {p t : T} {L : List Bd} (h : t.ground = false) : matT p t L = none := by
  unfold matT T.use; rw [h]; simp
theorem matT_no3 {p t : T} {L : List Bd} (h : t.isN = false) : matT p t L = none := by
  unfold matT T.use; rw [h]; simp
theorem matT_no4 {p t : T} {L : List Bd} (h : properB L = false) : matT p t L = none := by
  unfold matT; rw [h]; simp
theorem matT_yes {p t : T} {L : List Bd} (h1 : p.valid = true) (h2 : t.ground = true) (h3 : t.isN = true) (h4 : properB L = true) : matT p t L = mat p t L := by
  unfold matT T.use; rw [h1, h2, h3, h4]; rfl
set_option maxRecDepth 100000 in
set_option maxHeartbeats 8000000 in
theorem oMatch (p t : T) (L : List Bd) (pv tv bv : Value) (w : World) (hp : TermAt w pv p) (ht : TermAt w tv t) (hb : BindsAt w bv L) (hL : L.length ≤ 900000) (hLb : ∀ x ∈ L, x.t.bulk ≤ 1048576) (hpb : p.bulk ≤ 1048576) (htb : t.bulk ≤ 1048576) :
    Calls Tryz.prog 35 #[pv, tv, bv] w (MatPost (matT p t L) w) := by
  have HPV := Lib.hid (fun v W h => ovalid p v W h hpb)
  have HTG := Lib.hid (fun v W h => oground t v W h htb)
  have HTN := Lib.hid (fun v W h => oisn t v W h htb)
  have HPR := Lib.hid (fun W h => oproper L bv W h hLb)
  have HMM := Lib.hid (fun v1 v2 v3 W h1 h2 h3 (hv : p.valid = true) (hpr : properB L = true) => omatch (p.bulk + 1) p t L v1 v2 v3 W (by omega) h1 h2 h3 ⟨UpB.of hpr, hLb⟩ (by have h5 : p.size ≤ 40 := of_decide_eq_true (Bool.and_eq_true_iff.1 hv).1; omega) hpb htb (valid_shape hv))
  have HKP := Lib.hid (fun x (hv : p.valid = true) (hpr : properB L = true) (h : mat p t L = some x) => show (∀ y ∈ x, y.t.bulk ≤ 1048576) ∧ x.length ≤ 1000000 from by
    have h5 : p.size ≤ 40 := of_decide_eq_true (Bool.and_eq_true_iff.1 hv).1
    have h6 := mat_keeps (M := 1048576) p t L x ⟨UpB.of hpr, hLb⟩ htb h
    exact ⟨h6.1.2, by omega⟩)
  have hn1 := matT_no1 (p := p) (t := t) (L := L); have hn2 := matT_no2 (p := p) (t := t) (L := L); have hn3 := matT_no3 (p := p) (t := t) (L := L); have hn4 := matT_no4 (p := p) (t := t) (L := L)
  have hy := matT_yes (p := p) (t := t) (L := L)
  obtain ⟨R, hR⟩ : ∃ R, matT p t L = R := ⟨_, rfl⟩
  rw [hR] at hn1 hn2 hn3 hn4 hy ⊢
  have HN1 := Lib.hid hn1; have HN2 := Lib.hid hn2; have HN3 := Lib.hid hn3; have HN4 := Lib.hid hn4; have HY := Lib.hid hy
  clear hR hn1 hn2 hn3 hn4 hy
  obtain ⟨A, c, rfl⟩ := TermIn.view hp.inAll
  obtain ⟨B, d, rfl⟩ := TermIn.view ht.inAll
  obtain ⟨bx, by', hb1, hsz⟩ := box_two w (.int .i64 p.kind) (.string p.name) (.slice A p.kids.length c) (.int .i64 t.kind) (.string t.name) (.slice B t.kids.length d)
  have HP := Lib.hid (hp.later hb1); have HT := Lib.hid (ht.later hb1); have HB := Lib.hid (hb.later hb1)
  clear hp ht hb hpb htb hLb
  go_enter Tryz.func35, Tryz.ntmps35
  go_upto_region 1 with fail
  generalize (w.alloc (.cells #[.int .i64 p.kind, .string p.name, .slice A p.kids.length c] 29)).alloc (.cells #[.int .i64 t.kind, .string t.name, .slice B t.kids.length d] 29) = w1 at bx by' hb1 hsz HP HT HB ⊢
  obtain ⟨x0, x1, x2⟩ := bx.cells
  obtain ⟨y0, y1, y2⟩ := by'.cells
  have BX := Lib.hid bx; have BY := Lib.hid by'; have HB1 := Lib.hid hb1
  clear bx by' hb1 hsz
  cases hv : p.valid with
  | false =>
    obtain rfl : R = none := HN1.out hv
    have HQ := Lib.hid (HPV.out _ w1 HP.out false 76 hv (.inr ⟨rfl, rfl⟩))
    clear hv
    go_wp2_with fail
    refine HQ.out.mono ?_; rintro e w2 ⟨rfl, hb2⟩
    have HB2 := Lib.hid (HB1.out.trans (hb2.mono HB1.out.size))
    clear hb2 x0 x1 x2 y0 y1 y2
    go_wp2_with fail
    go_ret2
    exact ⟨HB2.out, _, rfl⟩
  | true =>
    have HVV := Lib.hid hv
    have HQ := Lib.hid (HPV.out _ w1 HP.out true 0 hv (.inl ⟨rfl, rfl⟩))
    clear hv
    go_wp2_with fail
    refine HQ.out.mono ?_; rintro e w2 ⟨rfl, hb2⟩
    have HB2 := Lib.hid (HB1.out.trans (hb2.mono HB1.out.size))
    obtain ⟨u0, u1, u2⟩ := (BX.out.later hb2).cells
    obtain ⟨z0, z1, z2⟩ := (BY.out.later hb2).cells
    have BX2 := Lib.hid (BX.out.later hb2); have BY2 := Lib.hid (BY.out.later hb2)
    have HP2 := Lib.hid (HP.out.later hb2); have HT2 := Lib.hid (HT.out.later hb2); have HBB2 := Lib.hid (HB.out.later hb2)
    clear hb2 x0 x1 x2 y0 y1 y2 HQ
    have HQ := Lib.hid (HTG.out _ w2 HT2.out)
    obtain ⟨q, hq⟩ : ∃ q, t.ground = q := ⟨_, rfl⟩
    rw [hq] at HQ
    go_wp2_with fail
    refine HQ.out.mono ?_; rintro e w3 ⟨rfl, hb3⟩
    have HB3 := Lib.hid (HB2.out.trans (hb3.mono HB2.out.size))
    have BX3 := Lib.hid (BX2.out.later hb3); have BY3 := Lib.hid (BY2.out.later hb3)
    have HP3 := Lib.hid (HP2.out.later hb3); have HT3 := Lib.hid (HT2.out.later hb3); have HBB3 := Lib.hid (HBB2.out.later hb3)
    clear hb3 u0 u1 u2 z0 z1 z2 HQ
    obtain ⟨x0, x1, x2⟩ := BX3.out.cells
    obtain ⟨y0, y1, y2⟩ := BY3.out.cells
    cases q with
    | false =>
      obtain rfl : R = none := HN2.out hq
      clear hq
      go_wp2_with fail
      go_ret2
      exact ⟨HB3.out, _, rfl⟩
    | true =>
      have HGG := Lib.hid hq
      clear hq
      have HQ := Lib.hid (HTN.out _ w3 HT3.out)
      obtain ⟨q, hq⟩ : ∃ q, t.isN = q := ⟨_, rfl⟩
      rw [hq] at HQ
      go_wp2_with fail
      refine HQ.out.mono ?_; rintro e w4 ⟨rfl, hb4⟩
      have HB4 := Lib.hid (HB3.out.trans (hb4.mono HB3.out.size))
      have BX4 := Lib.hid (BX3.out.later hb4); have BY4 := Lib.hid (BY3.out.later hb4)
      have HP4 := Lib.hid (HP3.out.later hb4); have HT4 := Lib.hid (HT3.out.later hb4); have HBB4 := Lib.hid (HBB3.out.later hb4)
      clear hb4 x0 x1 x2 y0 y1 y2 HQ
      cases q with
      | false =>
        obtain rfl : R = none := HN3.out hq
        clear hq
        go_wp2_with fail
        go_ret2
        exact ⟨HB4.out, _, rfl⟩
      | true =>
        have HIN := Lib.hid hq
        clear hq
        have HQ := Lib.hid (HPR.out w4 HBB4.out)
        obtain ⟨q, hq⟩ : ∃ q, properB L = q := ⟨_, rfl⟩
        rw [hq] at HQ
        go_wp2_with fail
        refine HQ.out.mono ?_; rintro e w5 ⟨rfl, hb5⟩
        have HB5 := Lib.hid (HB4.out.trans (hb5.mono HB4.out.size))
        obtain ⟨x0, x1, x2⟩ := (BX4.out.later hb5).cells
        obtain ⟨y0, y1, y2⟩ := (BY4.out.later hb5).cells
        have HP5 := Lib.hid (HP4.out.later hb5); have HT5 := Lib.hid (HT4.out.later hb5); have HBB5 := Lib.hid (HBB4.out.later hb5)
        clear hb5 HQ
        cases q with
        | false =>
          obtain rfl : R = none := HN4.out hq
          clear hq
          go_wp2_with fail
          go_ret2
          exact ⟨HB5.out, _, rfl⟩
        | true =>
          have HRR := Lib.hid (HY.out HVV.out HGG.out HIN.out hq)
          have HM := Lib.hid (HMM.out _ _ _ w5 HP5.out HT5.out HBB5.out HVV.out hq)
          have HK := Lib.hid (fun x => HKP.out x HVV.out hq)
          clear hq
          obtain ⟨r, hr⟩ : ∃ r, mat p t L = r := ⟨_, rfl⟩
          rw [hr] at HM HRR HK
          obtain rfl : R = r := HRR.out
          clear hr
          cases R with
          | none =>
            go_wp2_with fail
            refine HM.out.mono ?_; rintro e w6 ⟨hb6, he⟩
            obtain ⟨v6, rfl⟩ := (show ∃ v, e = .returned (.tuple #[v, .bool false]) from he)
            have HB6 := Lib.hid (HB5.out.trans (hb6.mono HB5.out.size))
            clear he hb6 x0 x1 x2 y0 y1 y2
            go_wp2_with fail
            go_ret2
            exact ⟨HB6.out, _, rfl⟩
          | some x =>
            go_wp2_with fail
            refine HM.out.mono ?_; rintro e w6 ⟨hb6, he⟩
            obtain ⟨v6, rfl, hv6⟩ := (show ∃ v, e = .returned (.tuple #[v, .bool true]) ∧ BindsAt w6 v x from he)
            have HB6 := Lib.hid (HB5.out.trans (hb6.mono HB5.out.size)); have HV6 := Lib.hid hv6
            clear he hb6 x0 x1 x2 y0 y1 y2 hv6
            go_wp2_with fail
            refine (ocopyB x _ _ HV6.out (HK.out x rfl).1 (HK.out x rfl).2).mono ?_; rintro e w7 ⟨v7, rfl, hv7, hb7⟩
            have HB7 := Lib.hid (HB6.out.trans (hb7.mono HB6.out.size)); have HV7 := Lib.hid hv7
            clear hv7 hb7
            go_wp2_with fail
            go_ret2
            exact ⟨HB7.out, _, rfl, HV7.out⟩
end Go.Proofs.YtihbmgkbipeakaaGreat
