/- Several texts in one: WebCh, WebMc, WebGw. -/
import Derived.Test.YtihbmgkbipeakaaGreatWebG0
import Derived.Test.YtihbmgkbipeakaaGreatWebG29
import Derived.Test.YtihbmgkbipeakaaGreatWebG24
import Derived.Test.YtihbmgkbipeakaaGreatWebG23
import Derived.Deep.RegionHeld
namespace Go.Proofs.YtihbmgkbipeakaaGreat
open Go.RowKit

theorem rstep_eq {K : List T} {L : List Rsn} {j : Nat} (hj : j < L.length) {t : T} {how : Int} {frm : List Int} (hs : L[j] = ⟨t, how, frm⟩) : rstepB K L j = (t.use && (decide (needsI how = (frm.length : Int)) && (!(frm.any (offB j)) && rrightB K how t (frm.map (tAt L))))) := by
  unfold rstepB
  rw [List.getElem?_eq_getElem hj, hs]
theorem rstep_use {K : List T} {L : List Rsn} {i : Nat} (h : rstepB K L i = true) (hi : i < L.length) : L[i].t.use = true := by
  unfold rstepB at h
  rw [List.getElem?_eq_getElem hi] at h
  exact (Bool.and_eq_true_iff.1 h).1
theorem any_snoc {p : Int → Bool} {l : List Int} {k : Nat} (h : k < l.length) (h1 : (l.take k).any p = false) (h2 : p l[k] = false) : (l.take (k + 1)).any p = false := by
  rw [List.take_succ_eq_append_getElem h, List.any_append, h1]
  simp [h2]
theorem off_neg {i : Nat} {x : Int} (h : x < 0) : offB i x = true := by unfold offB; rw [decide_eq_true h]; rfl
theorem off_big {i : Nat} {x : Int} (h : (i : Int) ≤ x) : offB i x = true := by unfold offB; rw [decide_eq_true h]; simp
theorem off_ok {i : Nat} {x : Int} (h : ¬ x < 0) (h' : ¬ (i : Int) ≤ x) : offB i x = false := by unfold offB; rw [decide_eq_false h, decide_eq_false h']; rfl
theorem CT.snoc {w : World} {xs : List Value} {L : List T} {t : T} {u0 u1 u2 : Value} (h : CT (fun _ => true) w xs L) (ht : TermAt w (.agg #[u0, u1, u2]) t) : CT (fun _ => true) w (xs ++ [u0, u1, u2]) (L ++ [t]) :=
  h.append (CT.one (ht.inAll.keep fun _ _ _ => ⟨rfl, rfl⟩))

set_option maxRecDepth 100000 in
set_option maxHeartbeats 16000000 in
theorem rcheckT {Ak A : Option Addr} {ck c : Nat} {L0 : List T} {L : List Rsn} (w : World) (hK : KnownAt w Ak ck L0) (hKb : ∀ t ∈ L0, t.bulk ≤ 1048576) (hL : DedAt w A L) (hLb : ∀ s ∈ L, s.t.bulk ≤ 1048576 ∧ s.frm.length ≤ 1048576) :
    Calls Tryz.prog 15 #[.slice Ak L0.length ck, .slice A L.length c] w fun e w' => e = .returned (.bool (rchkB (cnt L0) L)) ∧ Below w.heap.size w w' := by
  obtain ⟨i0, hi0, hz0, hz1, hz2⟩ := info_parts Tryz.infoT
  obtain ⟨n, hn⟩ : ∃ n, L.length = n := ⟨_, rfl⟩
  have HN := Lib.hid hn
  obtain ⟨R, hR⟩ : ∃ R, rchkB (cnt L0) L = R := ⟨_, rfl⟩
  have HRN := Lib.hid (fun (h : ¬ (1 ≤ L.length ∧ L.length ≤ 4096)) => (show R = false by
    rw [← hR]; unfold rchkB
    by_cases h1 : 1 ≤ L.length
    · rw [decide_eq_false (p := L.length ≤ 4096) (by omega)]; simp
    · rw [decide_eq_false h1]; rfl))
  have HRX := Lib.hid (fun (i : Nat) (hi : i < L.length) (h : rstepB (cnt L0) L i = false) => (show R = false by
    rw [← hR]; unfold rchkB
    have : (List.range L.length).all (rstepB (cnt L0) L) = false := by
      rw [List.all_eq_false]
      exact ⟨i, List.mem_range.2 hi, by rw [h]; simp⟩
    rw [this]; simp))
  have HRT := Lib.hid (fun (h1 : 1 ≤ L.length) (h2 : L.length ≤ 4096) (h : ∀ i, i < L.length → rstepB (cnt L0) L i = true) => (show R = true by
    rw [← hR]; unfold rchkB
    rw [decide_eq_true h1, decide_eq_true h2]
    exact List.all_eq_true.2 fun i hi => h i (List.mem_range.1 hi)))
  have HK := Lib.hid hK; have HKB := Lib.hid hKb; have HD := Lib.hid hL; have HLB := Lib.hid hLb
  rw [hR, hn]
  clear hR hK hKb hL hn hLb
  go_enter Tryz.func15, Tryz.ntmps15
  by_cases h1 : n < 1
  · have h1' : (n : Int) < 1 := by omega
    have HE := Lib.hid (HRN.out (by rw [HN.out]; omega))
    clear h1
    go_wp2_with fail
    go_ret
    exact ⟨ret_bool HE.out.symm, Below.refl _ _⟩
  by_cases h2 : 4096 < n
  · have h1' : ¬ ((n : Int) < 1) := by omega
    have h2' : (4096 : Int) < (n : Int) := by omega
    have HE := Lib.hid (HRN.out (by rw [HN.out]; omega))
    clear h1 h2
    go_wp2_with fail
    go_ret
    exact ⟨ret_bool HE.out.symm, Below.refl _ _⟩
  have h1' : ¬ ((n : Int) < 1) := by omega
  have h2' : ¬ ((4096 : Int) < (n : Int)) := by omega
  have H12 := Lib.hid (show 1 ≤ n ∧ n ≤ 4096 by omega)
  clear h1 h2
  go_upto_region 4 with fail
  clear h1' h2'
  have hn4 : n ≤ 4096 := H12.out.2
  go_loopw [5] (fun s5 wr => ∃ j : Nat, j ≤ n ∧ s5 = .int .i64 j ∧ (∀ i, i < j → rstepB (cnt L0) L i = true) ∧ Below w.heap.size w wr) (fun i _ => n - (intOf i).toNat)
  case atStart => exact ⟨0, Nat.zero_le _, rfl, fun i h => absurd h (Nat.not_lt_zero _), Below.refl _ _⟩
  case round =>
    obtain ⟨j, hj, rfl, hall, hbw⟩ := hrel
    obtain ⟨wo, rfl⟩ : ∃ wo : World, wo = wr := ⟨_, rfl⟩
    have HA := Lib.hid hall; have HBW := Lib.hid hbw
    by_cases hlt : j < n
    · have hji : (0 : Int) ≤ (j : Int) ∧ (j : Int) < (n : Int) := by omega
      obtain ⟨hji1, hji2⟩ := hji
      have hjl : j < L.length := by have := HN.out; omega
      have HJL := Lib.hid hjl
      have HLT := Lib.hid hlt
      rcases HD.out.later hbw with h0 | ⟨lb, lo, hAe, hrow⟩
      · omega
      obtain ⟨A1, c1, F, fc, d0, d1, d2, d3, d4, ht, hf⟩ := hrow j hjl
      have HROW := Lib.hid hrow
      have hsb := HLB.out _ (List.getElem_mem hjl)
      have HST := Lib.hid (fun t how frm (h : L[j]'hjl = ⟨t, how, frm⟩) => rstep_eq (K := cnt L0) hjl h)
      obtain ⟨s, hs⟩ : ∃ s, L[j]'hjl = s := ⟨_, rfl⟩
      rw [hs] at d0 d1 d2 d3 d4 ht hf hsb
      obtain ⟨t, how, frm⟩ := s
      have hste := HST.out t how frm hs
      have HSTE := Lib.hid hste
      dsimp only at d0 d1 d2 d3 d4 ht hf hsb
      have htb := hsb.1; have hfl := hsb.2
      have hwa := below_alloc1 wo (.cells #[.int .i64 t.kind, .string t.name, .slice A1 t.kids.length c1, .int .i64 how, .slice F frm.length fc] 31)
      have bx := Box5.new wo (.int .i64 t.kind) (.string t.name) (.slice A1 t.kids.length c1) (.int .i64 how) (.slice F frm.length fc)
      have HT := Lib.hid (ht.later hwa); have HFN := Lib.hid (hf.keep (S' := fun _ => true) fun b _ hl => ⟨rfl, hwa.block b hl⟩)
      have HBA := Lib.hid (hbw.trans (hwa.mono hbw.size)); have HWA := Lib.hid hwa
      have HFIT := Lib.hid (fun W v' (h : TermAt W v' t) => rfit t v' W h htb)
      subst hAe
      obtain ⟨m, hm⟩ : ∃ m, frm.length = m := ⟨_, rfl⟩
      have HM := Lib.hid hm
      rw [hm] at d4 bx hfl
      have hm2 : (.slice F frm.length fc : Value) = .slice F m fc := by rw [hm]
      rw [hm2] at HT HFN HBA HWA hwa
      clear hall hbw hlt hrow hsb hs hste ht hf hm hm2 HST
      go_upto_region 7 with fail
      generalize wo.alloc (.cells #[.int .i64 t.kind, .string t.name, .slice A1 t.kids.length c1, .int .i64 how, .slice F m fc] 31) = wa at bx hwa HT HFN HBA HWA ⊢
      obtain ⟨x0, x1, x2, x3, x4⟩ := bx.cells
      have BX := Lib.hid bx
      clear bx d0 d1 d2 d3 d4 hwa
      cases hu : t.use with
      | false =>
        rw [hu] at HFIT
        have HE := Lib.hid (HRX.out j HJL.out (by rw [HSTE.out, hu]; rfl))
        clear hu
        (refine wp_region_held_drew (S := (fun Wq => Wq.cell? ⟨wo.heap.size, 0, none⟩ = some (.int .i64 t.kind) ∧ Wq.cell? ⟨wo.heap.size, 1, none⟩ = some (.string t.name) ∧ Wq.cell? ⟨wo.heap.size, 2, none⟩ = some (.slice A1 t.kids.length c1) ∧ Wq.cell? ⟨wo.heap.size, 3, none⟩ = some (.int .i64 how) ∧ Wq.cell? ⟨wo.heap.size, 4, none⟩ = some (.slice F m fc) ∧ Below wa.heap.size wa Wq)) (by kernel_rfl) (show _ ∧ _ ∧ _ ∧ _ ∧ _ ∧ _ from ⟨x0, x1, x2, x3, x4, (Below.refl _ wa).drew⟩) (fun hHeld => ?_))
        (refine tkJ 0 _ (h := ?_))
        (refine tkJ 1 _ (h := ?_))
        (refine rdJ 2 (h := fun K hK => ?_); go_simp; go_at_call 41; refine (HFIT.out _ _ (HT.out.later hHeld.2.2.2.2.2)).mono ?_; rintro e wf ⟨rfl, hb4⟩; refine shK hK (held5 hHeld hb4) (h := fun hHeld => ?_); clear hK K)
        (refine tkJ 3 _ (h := ?_))
        (refine tkJ 4 _ (h := ?_))
        (first | (refine tkJ 5 _ (h := ?_)) | (refine tkM 5 (h := ?_)))
        (first | (refine tkJ 6 _ (h := ?_)) | (refine tkM 6 (h := ?_)))
        (first | (refine tkJ 7 _ (h := ?_)) | (refine tkM 7 (h := ?_)))
        (first | (refine tkJ 8 _ (h := ?_)) | (refine tkM 8 (h := ?_)))
        (first | (refine tkJ 9 _ (h := ?_)) | (refine tkM 9 (h := ?_)))
        (first | (refine tkJ 10 _ (h := ?_)) | (refine tkM 10 (h := ?_)))
        (first | (refine tkJ 11 _ (h := ?_)) | (refine tkM 11 (h := ?_)))
        (refine tkJ 12 _ (h := ?_))
        (refine wpAnyH_done (by kernel_rfl) ?_ _)
        go_wp2_with fail
        go_ret
        exact ⟨ret_bool HE.out.symm, HBA.out.trans (hHeld.2.2.2.2.2.mono HBA.out.size)⟩
      | true =>
        rw [hu] at HFIT
        have HU := Lib.hid hu
        clear hu
        obtain ⟨nd, hnd⟩ : ∃ nd, needsI how = nd := ⟨_, rfl⟩
        have HND := Lib.hid hnd
        have HNE := Lib.hid (fun W => rneedsT how W)
        rw [hnd] at HNE
        clear hnd
        by_cases hnm : nd = (m : Int)
        · subst hnm
          (refine wp_region_held_drew (S := (fun Wq => Wq.cell? ⟨wo.heap.size, 0, none⟩ = some (.int .i64 t.kind) ∧ Wq.cell? ⟨wo.heap.size, 1, none⟩ = some (.string t.name) ∧ Wq.cell? ⟨wo.heap.size, 2, none⟩ = some (.slice A1 t.kids.length c1) ∧ Wq.cell? ⟨wo.heap.size, 3, none⟩ = some (.int .i64 how) ∧ Wq.cell? ⟨wo.heap.size, 4, none⟩ = some (.slice F m fc) ∧ Below wa.heap.size wa Wq)) (by kernel_rfl) (show _ ∧ _ ∧ _ ∧ _ ∧ _ ∧ _ from ⟨x0, x1, x2, x3, x4, (Below.refl _ wa).drew⟩) (fun hHeld => ?_))
          (refine tkJ 0 _ (h := ?_))
          (refine tkJ 1 _ (h := ?_))
          (refine rdJ 2 (h := fun K hK => ?_); go_simp; go_at_call 41; refine (HFIT.out _ _ (HT.out.later hHeld.2.2.2.2.2)).mono ?_; rintro e wf ⟨rfl, hb4⟩; refine shK hK (held5 hHeld hb4) (h := fun hHeld => ?_); clear hK K)
          (refine tkJ 3 _ (h := ?_))
          (refine tkJ 4 _ (h := ?_))
          (first | (refine tkJ 5 _ (h := ?_)) | (refine tkM 5 (h := ?_)))
          (first | (refine tkJ 6 _ (h := ?_)) | (refine tkM 6 (h := ?_)))
          (first | (refine tkJ 8 _ (h := ?_)) | (refine tkM 8 (h := ?_)))
          (first | (refine tkJ 9 _ (h := ?_)) | (refine tkM 9 (h := ?_)))
          (first | (refine tkJ 10 _ (h := ?_)) | (refine tkM 10 (h := ?_)))
          (refine rdJ 7 (h := fun K hK => ?_); go_simp; go_at_call 42; refine (HNE.out _).mono ?_; rintro e wz ⟨rfl, rfl⟩; have hb4 := Below.refl wf.heap.size wf; refine shK hK (held5 hHeld hb4) (h := fun hHeld => ?_); clear hK K)
          (first | (refine tkJ 11 _ (h := ?_)) | (refine tkM 11 (h := ?_)))
          (refine tkJ 12 _ (h := ?_))
          (refine wpAnyH_done (by kernel_rfl) ?_ _)
          have HBF := Lib.hid hHeld.2.2.2.2.2
          have HST2 := Lib.hid (show TermsRow wf wa.heap.size (.slice none 0 0) [] from TermsRow.nil _ _)
          clear HST2
          go_upto_region 11 with fail
          go_loopw [8, 7] (fun s8 s7 wr => ∃ (k : Nat) (A7 : Option Addr) (c7 : Nat) (xs : List Value), k ≤ m ∧ s8 = .int .i64 k ∧ s7 = .slice A7 k c7 ∧ (frm.take k).any (offB j) = false ∧ wr.ownsRow wf.heap.size 29 3 (.slice A7 k c7) k xs ∧ CT (fun _ => true) wf xs ((frm.take k).map (tAt L)) ∧ Below wf.heap.size wf wr) (fun s8 _ _ => m - (intOf s8).toNat)
          case atStart => exact ⟨0, none, 0, [], Nat.zero_le _, rfl, rfl, rfl, World.ownsRow_nil _ _ _ _, CT.nil _ _, Below.refl _ _⟩
          case round =>
            obtain ⟨k, A7, c7, xs, hk, rfl, rfl, hoff, hown, hct, hbr⟩ := hrel
            have HOFF := Lib.hid hoff; have HOWN := Lib.hid hown; have HCT := Lib.hid hct; have HBR := Lib.hid hbr
            have hba := HBF.out.trans (hbr.mono HBF.out.size)
            obtain ⟨y0, y1, y2, y3, y4⟩ := (BX.out.later hba).cells
            have HBA2 := Lib.hid hba
            clear hoff hown hct hbr hba
            by_cases hkm : k < m
            · have hki : (0 : Int) ≤ (k : Int) ∧ (k : Int) < (m : Int) := by omega
              obtain ⟨hki1, hki2⟩ := hki
              have hkf : k < frm.length := by have := HM.out; omega
              have hfk : ∃ fbk fo, F = some ⟨fbk, fo, none⟩ ∧ ∀ W, Below wa.heap.size wa W → W.cell? ⟨fbk, fo + k, none⟩ = some (.int .i64 (frm[k]'hkf)) := by
                rcases HFN.out with h9 | ⟨fbk, fo, e, _, hc⟩
                · omega
                · exact ⟨fbk, fo, e, fun W hW => cell_later hW (hc k hkf)⟩
              obtain ⟨fbk, fo, rfl, hfc⟩ := hfk
              have HAN := Lib.hid (fun (h : offB j (frm[k]'hkf) = true) => (show frm.any (offB j) = true from List.any_eq_true.2 ⟨_, List.getElem_mem hkf, h⟩))
              have HAS := Lib.hid (fun (h : offB j (frm[k]'hkf) = false) => any_snoc hkf HOFF.out h)
              have HTK := Lib.hid (show (frm.take (k + 1)).map (tAt L) = (frm.take k).map (tAt L) ++ [tAt L (frm[k]'hkf)] by rw [List.take_succ_eq_append_getElem hkf, List.map_append]; rfl)
              have f0 := hfc _ HBA2.out
              generalize frm[k]'hkf = x at hfc f0 HAN HAS HTK
              have HFC := Lib.hid hfc
              have HKM := Lib.hid hkm
              clear hfc hkf hkm
              by_cases hx0 : x < 0
              · have HE := Lib.hid (HRX.out j HJL.out (by rw [HSTE.out, HAN.out (off_neg hx0)]; simp))
                go_wp2_with fail
                go_ret
                exact ⟨ret_bool HE.out.symm, HBA.out.trans (HBA2.out.mono HBA.out.size)⟩
              · by_cases hxj : (j : Int) ≤ x
                · have HE := Lib.hid (HRX.out j HJL.out (by rw [HSTE.out, HAN.out (off_big hxj)]; simp))
                  go_wp2_with fail
                  go_ret
                  exact ⟨ret_bool HE.out.symm, HBA.out.trans (HBA2.out.mono HBA.out.size)⟩
                · have HOK := Lib.hid (HAS.out (off_ok hx0 hxj))
                  obtain ⟨jj, rfl⟩ : ∃ jj : Nat, x = (jj : Int) := ⟨x.toNat, by omega⟩
                  have hjj : jj < L.length := by have := HJL.out; omega
                  obtain ⟨A2, c2, _, _, g0, g1, g2, _, _, htj, _⟩ := HROW.out jj hjj
                  have hta := t_at hjj
                  rw [← hta] at g0 g1 g2 htj
                  generalize tAt L (jj : Int) = tj at g0 g1 g2 htj HTK
                  have hxb1 : (0 : Int) ≤ (jj : Int) ∧ (jj : Int) < (n : Int) := by have := HN.out; omega
                  obtain ⟨hxb1, hxb2⟩ := hxb1
                  have hxj2 : (jj : Int) < (j : Int) := by omega
                  have hw2 := HWA.out.trans (HBA2.out.mono HWA.out.size)
                  have p0 := cell_later hw2 g0; have p1 := cell_later hw2 g1; have p2 := cell_later hw2 g2
                  have HCT2 := Lib.hid (HCT.out.snoc (htj.later (HWA.out.trans (HBF.out.mono HWA.out.size))))
                  rw [← HTK.out] at HCT2
                  have HONE := Lib.hid (show ∀ u ∈ [Value.int .i64 tj.kind, .string tj.name, .slice A2 tj.kids.length c2], u.oneCell' = true from fun u hu => by simp at hu; rcases hu with rfl | rfl | rfl <;> rfl)
                  have HO2 := Lib.hid (own_later HOWN.out (below_alloc1 wr (.cells #[.int .i64 tj.kind, .string tj.name, .slice A2 tj.kids.length c2] 29)))
                  have HLE := Lib.hid (show wf.heap.size ≤ (wr.alloc (.cells #[.int .i64 tj.kind, .string tj.name, .slice A2 tj.kids.length c2] 29)).heap.size by rw [size_alloc1]; have := HBR.out.size; omega)
                  have HBN := Lib.hid (HBR.out.trans ((below_alloc1 wr (.cells #[.int .i64 tj.kind, .string tj.name, .slice A2 tj.kids.length c2] 29)).mono HBR.out.size))
                  clear g0 g1 g2 htj hta hw2
                  go_wp2_with (at_builtin; refine wpList_append_src _ rfl (.tmp 62) (.tmp 72) 27 rfl wf.heap.size 29 i0 _ 3 48 Tryz.underlying27 hi0 hz0 hz1 hz2 rfl (by omega) _ k _ rfl HO2.out _ 1 1 [.int .i64 tj.kind, .string tj.name, .slice A2 tj.kids.length c2] rfl (Src.newsU _ _ _ 3 rfl) HONE.out (by unfold maxLen; omega) (by omega) HLE.out ?_; intro A8 c8 w8 hown8 hg8 hat8; have HOW8 := Lib.hid hown8; have HB8 := Lib.hid (HBN.out.grown hg8 HLE.out (fun b hb => (HO2.out.lt b hb).1)); clear hown8 hg8 hat8)
                  go_roundw
                  case rel => exact ⟨k + 1, _, _, _, HKM.out, by go_num, rfl, HOK.out, HOW8.out, HCT2.out, HB8.out⟩
                  case measure => have := HKM.out; simp [intOf]; omega
            · obtain rfl : k = m := by omega
              have HTF := Lib.hid (show frm.take k = frm by rw [← HM.out, List.take_length])
              rw [HTF.out] at HOFF HCT
              obtain ⟨hle, hk7⟩ := KnownAt.of_own HOWN.out HBR.out HCT.out
              have HK7 := Lib.hid hk7
              have hxu : ∀ a ∈ frm.map (tAt L), a.use = true := fun a ha => by
                obtain ⟨x, hx, rfl⟩ := List.mem_map.1 ha
                have := List.any_eq_false.1 HOFF.out x hx
                obtain ⟨jj, rfl, hj2⟩ := off_false (by simpa using this)
                have hjj : jj < L.length := by have := HJL.out; omega
                rw [t_at hjj]
                exact rstep_use (HA.out jj hj2) hjj
              have HRI := Lib.hid (fun W v (h1 : TermAt W v t) (h2 : KnownAt W Ak ck L0) (h3 : KnownAt W A7 c7 (frm.map (tAt L))) => rrightT t how (frm.map (tAt L)) v W h2 HKB.out h1 h3 HU.out hxu (by rw [List.length_map, HM.out]; exact HND.out))
              have HSE := Lib.hid (show rstepB (cnt L0) L j = rrightB (cnt L0) how t (frm.map (tAt L)) by rw [HSTE.out, HU.out, HOFF.out, HM.out, decide_eq_true HND.out]; rfl)
              obtain ⟨q, hq⟩ : ∃ q, rrightB (cnt L0) how t (frm.map (tAt L)) = q := ⟨_, rfl⟩
              rw [hq] at HRI HSE
              rw [← hle] at HRI
              have HKW := Lib.hid (HK.out.later (HBA.out.trans (HBA2.out.mono HBA.out.size)))
              have HTW := Lib.hid (HT.out.later HBA2.out)
              clear hq hkm hk7 hxu hle
              go_wp2_with fail
              refine (HRI.out _ _ HTW.out HKW.out HK7.out).mono ?_; rintro e w6 ⟨rfl, hb6⟩
              have HB6 := Lib.hid ((HBA.out.trans (HBA2.out.mono HBA.out.size)).trans (hb6.mono (HBA.out.trans (HBA2.out.mono HBA.out.size)).size))
              clear hb6 y0 y1 y2 y3 y4
              cases q with
              | false =>
                have HE := Lib.hid (HRX.out j HJL.out HSE.out)
                go_wp2_with fail
                go_ret
                exact ⟨ret_bool HE.out.symm, HB6.out⟩
              | true =>
                go_wp2_with fail
                go_roundw
                case rel => exact ⟨j + 1, HLT.out, by go_num, fun i hi => by
                  rcases Nat.lt_or_ge i j with h | h
                  · exact HA.out i h
                  · obtain rfl : i = j := by omega
                    exact HSE.out, HB6.out⟩
                case measure => have := HLT.out; simp [intOf]; omega
        · have hnm' : (nd == (m : Int)) = false := beq_eq_false_iff_ne.2 hnm
          have HE := Lib.hid (HRX.out j HJL.out (by rw [HSTE.out, HM.out, HND.out, decide_eq_false hnm]; simp))
          (refine wp_region_held_drew (S := (fun Wq => Wq.cell? ⟨wo.heap.size, 0, none⟩ = some (.int .i64 t.kind) ∧ Wq.cell? ⟨wo.heap.size, 1, none⟩ = some (.string t.name) ∧ Wq.cell? ⟨wo.heap.size, 2, none⟩ = some (.slice A1 t.kids.length c1) ∧ Wq.cell? ⟨wo.heap.size, 3, none⟩ = some (.int .i64 how) ∧ Wq.cell? ⟨wo.heap.size, 4, none⟩ = some (.slice F m fc) ∧ Below wa.heap.size wa Wq)) (by kernel_rfl) (show _ ∧ _ ∧ _ ∧ _ ∧ _ ∧ _ from ⟨x0, x1, x2, x3, x4, (Below.refl _ wa).drew⟩) (fun hHeld => ?_))
          (refine tkJ 0 _ (h := ?_))
          (refine tkJ 1 _ (h := ?_))
          (refine rdJ 2 (h := fun K hK => ?_); go_simp; go_at_call 41; refine (HFIT.out _ _ (HT.out.later hHeld.2.2.2.2.2)).mono ?_; rintro e wf ⟨rfl, hb4⟩; refine shK hK (held5 hHeld hb4) (h := fun hHeld => ?_); clear hK K)
          (refine tkJ 3 _ (h := ?_))
          (refine tkJ 4 _ (h := ?_))
          (first | (refine tkJ 5 _ (h := ?_)) | (refine tkM 5 (h := ?_)))
          (first | (refine tkJ 6 _ (h := ?_)) | (refine tkM 6 (h := ?_)))
          (first | (refine tkJ 8 _ (h := ?_)) | (refine tkM 8 (h := ?_)))
          (first | (refine tkJ 9 _ (h := ?_)) | (refine tkM 9 (h := ?_)))
          (first | (refine tkJ 10 _ (h := ?_)) | (refine tkM 10 (h := ?_)))
          (refine rdJ 7 (h := fun K hK => ?_); go_simp; go_at_call 42; refine (HNE.out _).mono ?_; rintro e wz ⟨rfl, rfl⟩; have hb4 := Below.refl wf.heap.size wf; refine shK hK (held5 hHeld hb4) (h := fun hHeld => ?_); clear hK K)
          (first | (refine tkJ 11 _ (h := ?_)) | (refine tkM 11 (h := ?_)))
          (refine tkJ 12 _ (h := ?_))
          (refine wpAnyH_done (by kernel_rfl) ?_ _)
          go_wp2_with fail
          go_ret
          exact ⟨ret_bool HE.out.symm, HBA.out.trans (hHeld.2.2.2.2.2.mono HBA.out.size)⟩
    · obtain rfl : j = n := by omega
      have HE := Lib.hid (HRT.out (by rw [HN.out]; exact H12.out.1) (by rw [HN.out]; exact H12.out.2) (fun i hi => HA.out i (by rw [HN.out] at hi; exact hi)))
      clear hall hbw
      go_wp2_with fail
      go_ret
      exact ⟨ret_bool HE.out.symm, HBW.out⟩
end Go.Proofs.YtihbmgkbipeakaaGreat

namespace Go.Proofs.YtihbmgkbipeakaaGreat

theorem exp_use {t : T} (h : t.use = true) (h7 : t.kind = 7) {i : Nat} (hi : i < t.kids.length) : (t.kid i).use = true ∧ (t.kid i).kind = 1 := by
  unfold T.use at h
  obtain ⟨hg, hn⟩ := Bool.and_eq_true_iff.1 h
  unfold T.ground at hg
  obtain ⟨hv, hx⟩ := Bool.and_eq_true_iff.1 hg
  have hat := exp_atom (Bool.and_eq_true_iff.1 hv).2 h7 hi
  have hsub := (subs_closed t t (T.subs_self t)).1 i hi
  have hsh := T.subs_shape t (Bool.and_eq_true_iff.1 hv).2 _ hsub
  have hsz := of_decide_eq_true (Bool.and_eq_true_iff.1 hv).1
  have hm := T.kid_mem hi
  have hvk : (t.kid i).valid = true := by unfold T.valid; rw [Bool.and_eq_true]; exact ⟨decide_eq_true (by omega), hsh.1⟩
  have hxk : (t.kid i).hasVar = false := by
    rw [Bool.not_eq_true'] at hx
    obtain ⟨k, s, ks⟩ := t
    simp only [T.hasVar, T.hasVarAll_any, Bool.or_eq_false_iff] at hx
    have := List.any_eq_false.1 hx.2 _ hm
    simpa using this
  generalize t.kid i = x at hat hvk hxk
  have hk1 : x.kind = 1 := by
    rcases hat with e | e
    · exact e
    · obtain ⟨k, s, ks⟩ := x
      obtain rfl : k = 2 := e
      simp [T.hasVar] at hxk
  have hnx : x.norm = x := by
    obtain ⟨k, s, ks⟩ := x
    obtain rfl : k = 1 := hk1
    have hs := (Bool.and_eq_true_iff.1 hvk).2
    rw [T.shape_atom 1 s ks (.inl rfl), Bool.and_eq_true, beq_iff_eq] at hs
    have e := List.eq_nil_of_length_eq_zero hs.2
    subst e; rfl
  refine ⟨?_, hk1⟩
  unfold T.use
  rw [Bool.and_eq_true]
  exact ⟨by unfold T.ground; rw [Bool.and_eq_true]; exact ⟨hvk, by rw [hxk]; rfl⟩, (T.isN_iff _).2 ⟨hvk, hnx⟩⟩
theorem exp_norm {t : T} (h : t.use = true) (h7 : t.kind = 7) : ∀ x ∈ t.kids, x.norm = x := fun x hx => by
  obtain ⟨i, hi, rfl⟩ := List.getElem_of_mem hx
  have := use_norm (exp_use h h7 hi).1
  rw [kid_eq hi] at this; exact this
theorem less_use {t : T} (h : t.use = true) (h7 : t.kind = 7) (h1 : 1 < t.kids.length) {i : Nat} (hi : i < t.kids.length) : (t.lessOf i).use = true := by
  obtain ⟨u1, _⟩ := use_up h h7
  have hen := exp_norm h h7
  unfold T.use at h
  obtain ⟨hg, hn⟩ := Bool.and_eq_true_iff.1 h
  unfold T.ground at hg
  obtain ⟨hv, hx⟩ := Bool.and_eq_true_iff.1 hg
  have hsub := (subs_closed t t (T.subs_self t)).2 h7 h1 i hi
  have hsh := T.subs_shape t (Bool.and_eq_true_iff.1 hv).2 _ hsub
  have hsz := of_decide_eq_true (Bool.and_eq_true_iff.1 hv).1
  have hvk : (t.lessOf i).valid = true := by unfold T.valid; rw [Bool.and_eq_true]; exact ⟨decide_eq_true (by omega), hsh.1⟩
  have hss := List.eraseIdx_sublist t.kids i
  have hxk : (t.lessOf i).hasVar = false := by
    rw [Bool.not_eq_true'] at hx
    obtain ⟨k, s, ks⟩ := t
    simp only [T.hasVar, T.hasVarAll_any, Bool.or_eq_false_iff] at hx
    show (T.mk 7 ⟨#[]⟩ (ks.eraseIdx i)).hasVar = false
    simp only [T.hasVar, T.hasVarAll_any, Bool.or_eq_false_iff]
    exact ⟨by decide, List.any_eq_false.2 fun x hx' => List.any_eq_false.1 hx.2 x (hss.subset hx')⟩
  have hnx : (t.lessOf i).norm = t.lessOf i := by
    show (T.mk 7 ⟨#[]⟩ (t.kids.eraseIdx i)).norm = T.mk 7 ⟨#[]⟩ (t.kids.eraseIdx i)
    simp only [T.norm, if_pos]
    have hna : T.normAll (t.kids.eraseIdx i) = t.kids.eraseIdx i := by
      rw [T.normAll_map]
      conv => rhs; rw [← List.map_id (t.kids.eraseIdx i)]
      exact List.map_congr_left fun a ha => hen a (hss.subset ha)
    rw [hna, up_perm (T.isort_up _) (up_erase u1 i) (T.isort_perm _)]
  unfold T.use
  rw [Bool.and_eq_true]
  exact ⟨by unfold T.ground; rw [Bool.and_eq_true]; exact ⟨hvk, by rw [hxk]; rfl⟩, (T.isN_iff _).2 ⟨hvk, hnx⟩⟩
theorem as_norm {t : T} (h : t.use = true) (h7 : t.kind = 7) {i : Nat} (hi : i < t.kids.length) : ∀ a ∈ (t.lessOf i).kids ++ [t.kid i], a.norm = a := fun a ha => by
  rcases List.mem_append.1 ha with ha | ha
  · exact exp_norm h h7 a ((List.eraseIdx_sublist t.kids i).subset ha)
  · rw [List.mem_singleton] at ha
    rw [ha]; exact exp_norm h h7 _ (T.kid_mem hi)
/-- The usable ones of a closed set. -/
theorem uni_use {U : List T} (hU : Uni U) : Uni (U.filter T.use) := by
  refine ⟨fun t ht i hi => ?_, fun t ht h7 h1 i hi => ?_, fun t ht => hU.ok t (List.mem_filter.1 ht).1, Nat.le_trans (List.length_filter_le _ _) hU.size⟩
  · obtain ⟨h1, h2⟩ := List.mem_filter.1 ht
    refine List.mem_filter.2 ⟨hU.kid t h1 i hi, ?_⟩
    by_cases h7 : t.kind = 7
    · exact (exp_use h2 h7 hi).1
    · exact use_kid h2 h7 hi
  · obtain ⟨g1, g2⟩ := List.mem_filter.1 ht
    exact List.mem_filter.2 ⟨hU.less t g1 h7 h1 i hi, less_use g2 h7 h1 hi⟩
theorem tO_tAt (L : List Rsn) (j : Nat) : tAt L (j : Int) = tO L j := by unfold tAt tO; rw [Int.toNat_natCast]
theorem off_lt {i j : Nat} (h : j < i) : offB i (j : Int) = false := by
  unfold offB
  rw [decide_eq_false (by omega), decide_eq_false (by omega)]; rfl
/-- A step that follows is right. -/
theorem rt_right {K : List T} {L : List Rsn} {k : Nat} (hk : k < L.length) (h : Wb.RtO (· ∈ K) L L[k] k) (hu : ∀ s ∈ L, s.t.use = true) : rightB oneF pairF K L k = true := by
  obtain ⟨how, frm, h1, h2, h3, h4⟩ := h
  have hus := hu _ (List.getElem_mem hk)
  unfold rightB
  rw [List.getElem?_eq_getElem hk]
  simp only
  rw [hus, Bool.true_and]
  have hoff : L[k].frm.any (offB k) = false := by
    rw [h2, List.any_eq_false]
    intro x hx
    obtain ⟨j, hj, rfl⟩ := List.mem_map.1 hx
    rw [off_lt (h3 j hj)]; decide
  rw [hoff]
  simp only [Bool.not_false, Bool.true_and]
  generalize hs : L[k] = s at h1 h2 h4 hus
  obtain ⟨t, hw, fr⟩ := s
  simp only at h1 h2 h4 hus
  subst h1; subst h2
  cases h4 with
  | known h => simp only [lastB, List.map_nil]; simp only [Bool.and_eq_true, decide_eq_true_eq, List.any_eq_true]; exact ⟨rfl, t, h, sameB_iff.2 rfl⟩
  | first g3 h => simp only [lastB, List.map_cons, List.map_nil, tO_tAt]; simp [oneF, kidB, g3, sameB_iff, h]
  | second g3 h => simp only [lastB, List.map_cons, List.map_nil, tO_tAt]; simp [oneF, kidB, g3, sameB_iff, h]
  | opened g5 gk h => simp only [lastB, List.map_cons, List.map_nil, tO_tAt]; simp [pairF, openB, g5, sameB_iff, h, gk]
  | signed g6 h => simp only [lastB, List.map_cons, List.map_nil, tO_tAt]; simp [oneF, kidB, g6, sameB_iff, h]
  | pair g3 g0 g1 => simp only [lastB, List.map_cons, List.map_nil, tO_tAt]; simp [pairF, twoB, g3, sameB_iff, g0, g1]
  | hash g4 g0 => simp only [lastB, List.map_cons, List.map_nil, tO_tAt]; simp [oneF, kidB, g4, sameB_iff, g0]
  | seal_ g3 g0 g1 => simp only [lastB, List.map_cons, List.map_nil, tO_tAt]; simp [pairF, twoB, g3, sameB_iff, g0, g1]
  | sign g3 g0 g1 => simp only [lastB, List.map_cons, List.map_nil, tO_tAt]; simp [pairF, twoB, g3, sameB_iff, g0, g1]
  | power g7 gl gi gp gn =>
    rename_i p n i
    simp only [lastB, List.map_cons, List.map_nil, tO_tAt]
    show powB t (tO L p) (tO L n) = true
    rw [gp, gn]
    obtain ⟨e1, e2⟩ := exp_use hus g7 gi
    have hsk := T.shapeK (Bool.and_eq_true_iff.1 (T.use_valid hus)).2
    have hl : (t.lessOf i).kids.length = t.kids.length - 1 := List.length_eraseIdx_of_lt gi
    have h7' : (t.lessOf i).kind = 7 := rfl
    unfold powB
    rw [decide_eq_true h7', decide_eq_true e2, decide_eq_true (show (t.lessOf i).kids.length < 4 by omega)]
    simp only [Bool.true_and]
    rw [sameB_iff]
    refine ((pow_iff hus (as_norm hus g7 gi)).2 ⟨g7, ?_⟩).symm
    have hp := perm_erase gi
    rw [kid_eq gi]
    exact (List.perm_append_comm (l₁ := t.kids.eraseIdx i) (l₂ := [t.kids[i]])).trans hp.symm
  | raise g7 gl gn =>
    rename_i n
    simp only [lastB, List.map_cons, List.map_nil, tO_tAt]
    show raiseB t (tO L n) = true
    rw [gn]
    obtain ⟨_, e2⟩ := exp_use hus g7 (i := 0) (by omega)
    unfold raiseB
    rw [decide_eq_true e2, decide_eq_true g7, decide_eq_true gl]
    simp only [Bool.true_and]
    exact sameB_iff.2 rfl
/-- A right deduction passes. -/
theorem ded_check {K : List T} {L : List Rsn} {t : T} (h : DedOk (· ∈ K) L t) (hu : ∀ s ∈ L, s.t.use = true) (hl : L.length ≤ 4096) : chkB oneF pairF K L = true := by
  unfold chkB
  rw [decide_eq_true (show 1 ≤ L.length from h.pos), decide_eq_true hl]
  simp only [Bool.true_and]
  exact List.all_eq_true.2 fun k hk => rt_right (List.mem_range.1 hk) (h.right k (List.mem_range.1 hk)) hu
/-- What Derive gives. -/
theorem der_made {U K : List T} (hU : Uni U) (hK : ∀ t ∈ K, t ∈ U) (hKu : ∀ t ∈ K, t.use = true) {t : T} (ht : t.use = true → t ∈ U) {N : Nat} {L : List Rsn} (h : derV (Wb.fill N K) t = some L) (h4 : U.length ≤ 4096) :
    DedOk (· ∈ K) L t ∧ chkB oneF pairF K L = true ∧ rchkB K L = true ∧ (∀ s ∈ L, s.t ∈ U) := by
  obtain ⟨_, h1, h2, h3⟩ := der_right (uni_use hU) (fun x hx => List.mem_filter.2 ⟨hK x hx, hKu x hx⟩) (fun hu => List.mem_filter.2 ⟨ht hu, hu⟩) h
  have hc := ded_check h1 (fun s hs => (List.mem_filter.1 (h3 s hs)).2) (Nat.le_trans h2 (Nat.le_trans (List.length_filter_le _ _) h4))
  exact ⟨h1, hc, by rw [← chk_same]; exact hc, fun s hs => (List.mem_filter.1 (h3 s hs)).1⟩
end Go.Proofs.YtihbmgkbipeakaaGreat

namespace Go.Proofs.YtihbmgkbipeakaaGreat
open Go.RowKit Go.ChangeShapes Go.WideShapes

theorem KnownAt.src {w : World} {A : Option Addr} {cap : Nat} {L : List T} (h : KnownAt w A cap L) (h0 : 0 < L.length) : ∃ xs, Src w 3 A L.length xs ∧ CT (fun _ => true) w xs L ∧ ∀ u ∈ xs, u.oneCell' = true := by
  obtain ⟨b, off, _, _, rfl, _⟩ := h.get (i := 0) h0
  obtain ⟨xs, h1, h2⟩ := CT.of_term (TermAt.inAll h)
  exact ⟨xs, ⟨h1.1, .inr ⟨b, off, rfl, h2⟩⟩, h1.keep (fun _ _ _ => ⟨rfl, rfl⟩), h1.one'⟩
theorem KnownAt.both {wE w8 : World} {B n8 c8 : Nat} {A8 : Option Addr} {xs2 xs1 : List Value} {M K : List T} (hown : w8.ownsRow B 29 3 (.slice A8 n8 c8) n8 (xs2 ++ xs1)) (hb : Below wE.heap.size wE w8)
    (h2 : CT (fun _ => true) wE xs2 M) (h1 : CT (fun _ => true) wE xs1 K) (hn : n8 = (M ++ K).length) (h0 : 0 < n8) : KnownAt w8 A8 c8 (M ++ K) := by
  obtain ⟨b, cap, e, _⟩ := hown.form h0
  injection e with e1 e2 e3
  subst e1; subst e3
  have hct := (h2.append h1).keep (w' := w8) (S' := fun _ => true) fun b _ hl => ⟨rfl, hb.block b hl⟩
  have hcc : n8 ≤ c8 ∧ c8 ≤ maxLen := by
    rcases hown.2 with ⟨e, _⟩ | ⟨g, cap', cur, e, _, _, hc, hm, _⟩
    · injection e with e _ _; cases e
    · injection e with _ _ e
      subst e; exact ⟨hc, hm⟩
  subst hn
  exact (CT.term (b := b) hct (fun j u hu => by
    have hj := (List.getElem?_eq_some_iff.1 hu).1
    have hl := hct.1
    rw [hown.cellAt j (by omega)]; exact hu) rfl 0 ⟨#[]⟩ (by decide) (by decide) hcc.1 hcc.2).at

theorem int_bounds {x : Int} (h : (Lit.int .i64 x).wf = true) : -9223372036854775808 ≤ x ∧ x ≤ 9223372036854775807 := bounds_i64 h
end Go.Proofs.YtihbmgkbipeakaaGreat
