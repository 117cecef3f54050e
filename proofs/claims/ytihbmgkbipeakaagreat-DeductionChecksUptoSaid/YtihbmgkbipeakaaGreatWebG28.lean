/- Several texts in one: WebRr, WebCd, WebCe, WebCf. -/
import Derived.Test.YtihbmgkbipeakaaGreatWebG0
import Derived.Test.YtihbmgkbipeakaaGreatWebG27
import Derived.Test.YtihbmgkbipeakaaGreatWebG21
import Derived.Test.YtihbmgkbipeakaaGreatWebG26
import Derived.Test.YtihbmgkbipeakaaGreatWebG3
import Derived.Test.YtihbmgkbipeakaaGreatWebG6
namespace Go.Proofs.YtihbmgkbipeakaaGreat
open Go.RowKit Go.ChangeShapes Go.WideShapes Go.Deep

theorem known_one (w : World) {G : T} {A : Option Addr} {c : Nat} (h : TermAt w (.agg #[.int .i64 G.kind, .string G.name, .slice A G.kids.length c]) G) : KnownAt (w.alloc (.cells #[.int .i64 G.kind, .string G.name, .slice A G.kids.length c] 29)) (some ⟨w.heap.size, 0, none⟩) 1 [G] := by
  have hb := below_alloc1 w (.cells #[.int .i64 G.kind, .string G.name, .slice A G.kids.length c] 29)
  have hn := heap_alloc_new w (.cells #[.int .i64 G.kind, .string G.name, .slice A G.kids.length c] 29)
  refine TermAt.mk 0 ⟨#[]⟩ _ 1 [G] (fun _ => (.int .i64 G.kind, .string G.name, .slice A G.kids.length c)) (by decide) (by decide) (Nat.le_refl _) (by decide) (.inr ⟨_, 0, rfl, fun i hi => ?_⟩) (fun i hi => ?_)
  · obtain rfl : i = 0 := by simp at hi; omega
    refine ⟨?_, ?_, ?_⟩ <;> (unfold World.cell?; rw [hn]; rfl)
  · obtain rfl : i = 0 := by simp at hi; omega
    exact h.later hb
end Go.Proofs.YtihbmgkbipeakaaGreat

namespace Go.Proofs.YtihbmgkbipeakaaGreat
open Go.RowKit

theorem cell_set3 {w : World} {g : Nat} (x y z : Value) {p : Addr} {u : Value} (hp : p.block ≠ g) (h : w.cell? p = some u) : (((w.setCell ⟨g, 0, none⟩ x).setCell ⟨g, 1, none⟩ y).setCell ⟨g, 2, none⟩ z).cell? p = some u :=
  (World.cell?_of_block (set3_other w g x y z p.block hp)).trans h
/-- A power out of a list in memory. -/
theorem pow_at {w w8 : World} {B n8 c8 : Nat} {A8 : Option Addr} {xs : List Value} {L : List T} (hown : w8.ownsRow B 29 3 (.slice A8 n8 c8) n8 xs) (hb : Below w.heap.size w w8) (hc : CT (fun _ => true) w xs L) :
    TermAt w8 (.agg #[.int .i64 7, .string ⟨#[]⟩, .slice A8 n8 c8]) (.mk 7 ⟨#[]⟩ L) := by
  obtain ⟨e, hk⟩ := KnownAt.of_own hown hb hc
  subst e
  obtain ⟨U, h1, h2, h3, h4⟩ := KnownAt.inv hk
  exact TermAt.mk 7 ⟨#[]⟩ A8 c8 L U (by decide) (by decide) h1 h2 h3 h4
theorem pow_bulk {a b : T} (ha : a.bulk ≤ 1048000) (hb : b.bulk ≤ 500) : (T.mk 7 ⟨#[]⟩ (a.kids ++ [b])).bulk ≤ 1048576 := by
  simp only [T.bulk, bulkAll_app, T.bulkAll]
  have := a.bulk_eq
  have : (⟨#[]⟩ : ByteArray).size = 0 := rfl
  omega

set_option maxRecDepth 100000 in
set_option maxHeartbeats 8000000 in
theorem oraised (a b : T) (va vb : Value) (w : World) (ha : TermAt w va a) (hb : TermAt w vb b) (hab : a.bulk ≤ 1048000) (hbb : b.bulk ≤ 500) (hn0 : 0 < a.kids.length) :
    Calls Tryz.prog 125 #[va, vb] w (RetT (raisedT a b) w) := by
  obtain ⟨i0, hi0, hz0, hz1, hz2⟩ := info_parts Tryz.infoT
  obtain ⟨Aa, ca, rfl⟩ := ha.inAll.view
  obtain ⟨Ab, cb, rfl⟩ := hb.inAll.view
  obtain ⟨bk, off, _, _, rfl, _⟩ := ha.kids_known.get hn0
  obtain ⟨ba, bb, br, hbw⟩ := three_boxes w (.int .i64 a.kind) (.string a.name) (.slice (some ⟨bk, off, none⟩) a.kids.length ca) (.int .i64 b.kind) (.string b.name) (.slice Ab b.kids.length cb) (.int .i64 0) (.string ⟨#[]⟩) (.slice none 0 0)
  have hnb := kids_len (t := a) (by omega)
  have HA := Lib.hid ha; have HB := Lib.hid hb; have HBW := Lib.hid hbw
  have HNO := Lib.hid (fun v W (h : TermAt W v (.mk 7 ⟨#[]⟩ (a.kids ++ [b]))) => onormal (.mk 7 ⟨#[]⟩ (a.kids ++ [b])) v W h (pow_bulk hab hbb))
  have HCL := Lib.hid (fun W (h : TermAt W (.agg #[.int .i64 a.kind, .string a.name, .slice (some ⟨bk, off, none⟩) a.kids.length ca]) a) => oclone (S := fun _ => true) W (h.inAll.keep fun _ _ _ => ⟨rfl, rfl⟩) rfl hn0 hnb)
  have HO2 := Lib.hid (show ∀ u ∈ [Value.int .i64 b.kind, .string b.name, .slice Ab b.kids.length cb], u.oneCell' = true from fun u hu => by simp at hu; rcases hu with rfl | rfl | rfl <;> rfl)
  have HRT := Lib.hid (show raisedT a b = if (T.mk 7 ⟨#[]⟩ (a.kids ++ [b])).valid = true then (T.mk 7 ⟨#[]⟩ (a.kids ++ [b])).norm else .mk 0 ⟨#[]⟩ [] from rfl)
  obtain ⟨R, hR⟩ : ∃ R, raisedT a b = R := ⟨_, rfl⟩
  rw [hR] at HRT ⊢
  rw [← HRT.out] at HNO
  obtain ⟨na, hna⟩ : ∃ n, a.kids.length = n := ⟨_, rfl⟩
  have HNA := Lib.hid hna
  rw [hna] at ba HA HCL hnb HBW bb br
  rw [hna]
  clear ha hb hbw hR hna
  go_enter Tryz.func125, Tryz.ntmps125
  go_upto_region 1 with fail
  generalize ((w.alloc (.cells #[.int .i64 a.kind, .string a.name, .slice (some ⟨bk, off, none⟩) na ca] 29)).alloc (.cells #[.int .i64 b.kind, .string b.name, .slice Ab b.kids.length cb] 29)).alloc (.cells #[.int .i64 0, .string ⟨#[]⟩, .slice none 0 0] 29) = w1 at ba bb br HA HB HBW ⊢
  obtain ⟨_, _, a2⟩ := ba.cells
  obtain ⟨b0, b1, b2⟩ := bb.cells
  have BR := Lib.hid br
  clear ba bb br
  (refine wp_region_held_drew (S := (fun Wq => Wq.cell? ⟨w.heap.size, 2, none⟩ = some (.slice (some ⟨bk, off, none⟩) na ca) ∧ Wq.cell? ⟨w.heap.size + 1, 0, none⟩ = some (.int .i64 b.kind) ∧ Wq.cell? ⟨w.heap.size + 1, 1, none⟩ = some (.string b.name) ∧ Wq.cell? ⟨w.heap.size + 1, 2, none⟩ = some (.slice Ab b.kids.length cb) ∧ Below w.heap.size w Wq)) (by kernel_rfl) (show _ ∧ _ ∧ _ ∧ _ ∧ _ from ⟨a2, b0, b1, b2, HBW.out.drew⟩) (fun hHeld => ?_))
  (refine tkJ 0 _ (h := ?_))
  (refine tkJ 1 _ (h := ?_))
  (refine tkJ 3 _ (h := ?_))
  obtain ⟨wq, hwq⟩ : ∃ wq, w1.drew = wq := ⟨_, rfl⟩
  have BRq := Lib.hid (show Box wq (w.heap.size + 1 + 1) (.int .i64 0) (.string ⟨#[]⟩) (.slice none 0 0) by rw [← hwq]; exact BR.out)
  rw [hwq] at hHeld ⊢
  have HH0 := Lib.hid hHeld
  clear hwq
  refine wpAnyH_ready (rs := [2, 4]) (by kernel_rfl) (by simp) ?_
  refine AllReadyH.cons (by simp only [List.getElem?_toArray, List.getElem?_cons_succ, List.getElem?_cons_zero]; rfl) (fun K hK => ?_) (AllReadyH.cons (by simp only [List.getElem?_toArray, List.getElem?_cons_succ, List.getElem?_cons_zero]; rfl) (fun K hK => ?_) AllReadyH.nil)
  · go_simp
    go_at_call 131; refine (HCL.out _ (HA.out.later hHeld.2.2.2.2)).mono ?_; rintro e w2 ⟨g2, c2, xs, rfl, hown, hct, hb4⟩
    refine hK.out _ _ (⟨cell_later hb4 hHeld.1, cell_later hb4 hHeld.2.1, cell_later hb4 hHeld.2.2.1, cell_later hb4 hHeld.2.2.2.1, hHeld.2.2.2.2.trans (hb4.mono hHeld.2.2.2.2.size)⟩) (fun hHeld => ?_); clear hK K; (try simp only [Act.put, List.setIfInBounds_toArray, List.set_cons_zero, List.set_cons_succ])
    refine wpAnyH_ready (rs := [4]) (by kernel_rfl) (by simp) ?_
    refine AllReadyH.cons (by simp only [List.getElem?_toArray, List.getElem?_cons_succ, List.getElem?_cons_zero]; rfl) (fun K hK => ?_) AllReadyH.nil
    go_simp
    have hb5 := below_alloc1 w2 (.cells #[.int .i64 b.kind, .string b.name, .slice Ab b.kids.length cb] 29)
    refine hK.out _ _ (⟨cell_later hb5 hHeld.1, cell_later hb5 hHeld.2.1, cell_later hb5 hHeld.2.2.1, cell_later hb5 hHeld.2.2.2.1, hHeld.2.2.2.2.trans (hb5.mono hHeld.2.2.2.2.size)⟩) (fun hHeld => ?_); clear hK K; (try simp only [Act.put, List.setIfInBounds_toArray, List.set_cons_zero, List.set_cons_succ])
    refine wpAnyH_ready (rs := [5]) (by kernel_rfl) (by simp) ?_
    refine AllReadyH.cons (by simp only [List.getElem?_toArray, List.getElem?_cons_succ, List.getElem?_cons_zero]; rfl) (fun K hK => ?_) AllReadyH.nil
    refine step_append_src _ (by rfl) _ _ _ (by rfl) wq.heap.size 29 i0 _ 3 48 Tryz.underlying27 hi0 hz0 hz1 hz2 rfl (by omega) _ na _ (by rfl) (own_later hown hb5) _ 1 1 [.int .i64 b.kind, .string b.name, .slice Ab b.kids.length cb] (by rfl) (Src.newsU w2 _ _ 3 rfl) HO2.out (by unfold maxLen; omega) (by omega) (by rw [size_alloc1]; have := hb4.size; omega) ?_; intro A8 c8 w8 hown8 hg8 hat8
    have hbc : Below wq.heap.size wq w8 := (hb4.trans (hb5.mono hb4.size)).grown hg8 (by rw [size_alloc1]; have := hb4.size; omega) (fun b hb => (hown.lt b hb).1)
    have hTB := HB.out.later HH0.out.2.2.2.2
    refine hK.out _ _ (⟨cell_later hbc HH0.out.1, cell_later hbc HH0.out.2.1, cell_later hbc HH0.out.2.2.1, cell_later hbc HH0.out.2.2.2.1, HH0.out.2.2.2.2.trans (hbc.mono HH0.out.2.2.2.2.size)⟩) (fun hHeld => ?_); clear hK K; (try simp only [Act.put, List.setIfInBounds_toArray, List.set_cons_zero, List.set_cons_succ])
    have hbw8 := hbc
    have hpow := pow_at hown8 hbc (hct.append (CT.of_term1 hTB))
    (refine tkJ 6 _ (h := ?_))
    refine wpAnyH_ready (rs := [7]) (by kernel_rfl) (by simp) ?_
    refine AllReadyH.cons (by simp only [List.getElem?_toArray, List.getElem?_cons_succ, List.getElem?_cons_zero]; rfl) (fun K hK => ?_) AllReadyH.nil
    go_simp; go_at_call 76; refine (HNO.out _ _ hpow).mono ?_; rintro e w9 ⟨A9, C9, rfl, hti, hb9⟩
    refine hK.out _ _ (⟨cell_later hb9 hHeld.1, cell_later hb9 hHeld.2.1, cell_later hb9 hHeld.2.2.1, cell_later hb9 hHeld.2.2.2.1, hHeld.2.2.2.2.trans (hb9.mono hHeld.2.2.2.2.size)⟩) (fun hHeld => ?_); clear hK K; (try simp only [Act.put, List.setIfInBounds_toArray, List.set_cons_zero, List.set_cons_succ])
    have br9 := (BRq.out.later hbw8).later hb9
    obtain ⟨r0, r1, r2⟩ := br9.cells
    obtain ⟨f0, f1, f2⟩ := br9.free
    have hB9 : Below w.heap.size w w9 := hHeld.2.2.2.2
    have hle8 : w.heap.size + 1 + 1 + 1 ≤ w8.heap.size := Nat.lt_of_lt_of_le BRq.out.lt hbw8.size
    have HST := Lib.hid hHeld
    refine wpAnyH_ready (rs := [8]) (by kernel_rfl) (by simp) ?_
    refine AllReadyH.cons (by simp only [List.getElem?_toArray, List.getElem?_cons_succ, List.getElem?_cons_zero]; rfl) (fun K hK => ?_) AllReadyH.nil
    go_simp
    have hfin := ret_set3 (t := R) (w := w) (g := w.heap.size + 1 + 1) (.int .i64 R.kind) (.string R.name) (.slice A9 R.kids.length C9) hB9 (by omega) rfl rfl rfl (hti.keep fun b hb _ => ⟨decide_eq_true (Nat.le_trans hle8 (of_decide_eq_true hb)), rfl⟩)
    have HFIN := Lib.hid hfin
    have hb3 := (box_set3 br9 (.int .i64 R.kind) (.string R.name) (.slice A9 R.kids.length C9)).cells
    have HB3 := Lib.hid hb3
    refine hK.out _ _ (⟨cell_set3 _ _ _ (by show _ ≠ w.heap.size + 1 + 1; simp <;> omega) HST.out.1, cell_set3 _ _ _ (by show _ ≠ w.heap.size + 1 + 1; simp <;> omega) HST.out.2.1, cell_set3 _ _ _ (by show _ ≠ w.heap.size + 1 + 1; simp <;> omega) HST.out.2.2.1, cell_set3 _ _ _ (by show _ ≠ w.heap.size + 1 + 1; simp <;> omega) HST.out.2.2.2.1, ((HST.out.2.2.2.2.setCell (show w.heap.size ≤ w.heap.size + 1 + 1 by omega) _).setCell (show w.heap.size ≤ w.heap.size + 1 + 1 by omega) _).setCell (show w.heap.size ≤ w.heap.size + 1 + 1 by omega) _⟩) (fun hHeld => ?_); clear hK K; (try simp only [Act.put, List.setIfInBounds_toArray, List.set_cons_zero, List.set_cons_succ])
    (refine wpAnyH_done (by kernel_rfl) ?_ _)
    clear hti hpow hown8 hg8 hat8 hct hown hfin hb3 br9
    obtain ⟨d0, d1, d2⟩ := HB3.out
    go_wp2_with fail
    refine bodyPost_ret (v := .agg #[.int .i64 R.kind, .string R.name, .slice A9 R.kids.length C9]) (by simp [results, Tryz.results125, go_sem, d0, d1, d2]) rfl ?_
    exact HFIN.out
  · go_simp
    have hb4 := below_alloc1 wq (.cells #[.int .i64 b.kind, .string b.name, .slice Ab b.kids.length cb] 29)
    have hsr := Src.newsU wq [.int .i64 b.kind, .string b.name, .slice Ab b.kids.length cb] 29 3 rfl
    generalize wq.alloc (.cells #[.int .i64 b.kind, .string b.name, .slice Ab b.kids.length cb] 29) = w2 at hb4 hsr ⊢
    refine hK.out _ _ (⟨cell_later hb4 hHeld.1, cell_later hb4 hHeld.2.1, cell_later hb4 hHeld.2.2.1, cell_later hb4 hHeld.2.2.2.1, hHeld.2.2.2.2.trans (hb4.mono hHeld.2.2.2.2.size)⟩) (fun hHeld => ?_); clear hK K; (try simp only [Act.put, List.setIfInBounds_toArray, List.set_cons_zero, List.set_cons_succ])
    refine wpAnyH_ready (rs := [2]) (by kernel_rfl) (by simp) ?_
    refine AllReadyH.cons (by simp only [List.getElem?_toArray, List.getElem?_cons_succ, List.getElem?_cons_zero]; rfl) (fun K hK => ?_) AllReadyH.nil
    go_simp
    go_at_call 131; refine (HCL.out _ (HA.out.later hHeld.2.2.2.2)).mono ?_; rintro e w3 ⟨g2, c2, xs, rfl, hown, hct, hb5⟩
    have hTB := HB.out.later hHeld.2.2.2.2
    refine hK.out _ _ (⟨cell_later hb5 hHeld.1, cell_later hb5 hHeld.2.1, cell_later hb5 hHeld.2.2.1, cell_later hb5 hHeld.2.2.2.1, hHeld.2.2.2.2.trans (hb5.mono hHeld.2.2.2.2.size)⟩) (fun hHeld => ?_); clear hK K; (try simp only [Act.put, List.setIfInBounds_toArray, List.set_cons_zero, List.set_cons_succ])
    refine wpAnyH_ready (rs := [5]) (by kernel_rfl) (by simp) ?_
    refine AllReadyH.cons (by simp only [List.getElem?_toArray, List.getElem?_cons_succ, List.getElem?_cons_zero]; rfl) (fun K hK => ?_) AllReadyH.nil
    refine step_append_src _ (by rfl) _ _ _ (by rfl) w2.heap.size 29 i0 _ 3 48 Tryz.underlying27 hi0 hz0 hz1 hz2 rfl (by omega) _ na _ (by rfl) hown _ 1 1 [.int .i64 b.kind, .string b.name, .slice Ab b.kids.length cb] (by rfl) (hsr.later hb5) HO2.out (by unfold maxLen; omega) (by omega) hb5.size ?_; intro A8 c8 w8 hown8 hg8 hat8
    have hbc := hb5.grown hg8 hb5.size (fun b hb => (hown.lt b hb).1)
    have hbq := hb4.trans (hbc.mono hb4.size)
    refine hK.out _ _ (⟨cell_later hbq HH0.out.1, cell_later hbq HH0.out.2.1, cell_later hbq HH0.out.2.2.1, cell_later hbq HH0.out.2.2.2.1, HH0.out.2.2.2.2.trans (hbq.mono HH0.out.2.2.2.2.size)⟩) (fun hHeld => ?_); clear hK K; (try simp only [Act.put, List.setIfInBounds_toArray, List.set_cons_zero, List.set_cons_succ])
    have hbw8 := hbq
    have hpow := pow_at hown8 hbc (hct.append (CT.of_term1 hTB))
    (refine tkJ 6 _ (h := ?_))
    refine wpAnyH_ready (rs := [7]) (by kernel_rfl) (by simp) ?_
    refine AllReadyH.cons (by simp only [List.getElem?_toArray, List.getElem?_cons_succ, List.getElem?_cons_zero]; rfl) (fun K hK => ?_) AllReadyH.nil
    go_simp; go_at_call 76; refine (HNO.out _ _ hpow).mono ?_; rintro e w9 ⟨A9, C9, rfl, hti, hb9⟩
    refine hK.out _ _ (⟨cell_later hb9 hHeld.1, cell_later hb9 hHeld.2.1, cell_later hb9 hHeld.2.2.1, cell_later hb9 hHeld.2.2.2.1, hHeld.2.2.2.2.trans (hb9.mono hHeld.2.2.2.2.size)⟩) (fun hHeld => ?_); clear hK K; (try simp only [Act.put, List.setIfInBounds_toArray, List.set_cons_zero, List.set_cons_succ])
    have br9 := (BRq.out.later hbw8).later hb9
    obtain ⟨r0, r1, r2⟩ := br9.cells
    obtain ⟨f0, f1, f2⟩ := br9.free
    have hB9 : Below w.heap.size w w9 := hHeld.2.2.2.2
    have hle8 : w.heap.size + 1 + 1 + 1 ≤ w8.heap.size := Nat.lt_of_lt_of_le BRq.out.lt hbw8.size
    have HST := Lib.hid hHeld
    refine wpAnyH_ready (rs := [8]) (by kernel_rfl) (by simp) ?_
    refine AllReadyH.cons (by simp only [List.getElem?_toArray, List.getElem?_cons_succ, List.getElem?_cons_zero]; rfl) (fun K hK => ?_) AllReadyH.nil
    go_simp
    have hfin := ret_set3 (t := R) (w := w) (g := w.heap.size + 1 + 1) (.int .i64 R.kind) (.string R.name) (.slice A9 R.kids.length C9) hB9 (by omega) rfl rfl rfl (hti.keep fun b hb _ => ⟨decide_eq_true (Nat.le_trans hle8 (of_decide_eq_true hb)), rfl⟩)
    have HFIN := Lib.hid hfin
    have hb3 := (box_set3 br9 (.int .i64 R.kind) (.string R.name) (.slice A9 R.kids.length C9)).cells
    have HB3 := Lib.hid hb3
    refine hK.out _ _ (⟨cell_set3 _ _ _ (by show _ ≠ w.heap.size + 1 + 1; simp <;> omega) HST.out.1, cell_set3 _ _ _ (by show _ ≠ w.heap.size + 1 + 1; simp <;> omega) HST.out.2.1, cell_set3 _ _ _ (by show _ ≠ w.heap.size + 1 + 1; simp <;> omega) HST.out.2.2.1, cell_set3 _ _ _ (by show _ ≠ w.heap.size + 1 + 1; simp <;> omega) HST.out.2.2.2.1, ((HST.out.2.2.2.2.setCell (show w.heap.size ≤ w.heap.size + 1 + 1 by omega) _).setCell (show w.heap.size ≤ w.heap.size + 1 + 1 by omega) _).setCell (show w.heap.size ≤ w.heap.size + 1 + 1 by omega) _⟩) (fun hHeld => ?_); clear hK K; (try simp only [Act.put, List.setIfInBounds_toArray, List.set_cons_zero, List.set_cons_succ])
    (refine wpAnyH_done (by kernel_rfl) ?_ _)
    clear hti hpow hown8 hg8 hat8 hct hown hfin hb3 br9
    obtain ⟨d0, d1, d2⟩ := HB3.out
    go_wp2_with fail
    refine bodyPost_ret (v := .agg #[.int .i64 R.kind, .string R.name, .slice A9 R.kids.length C9]) (by simp [results, Tryz.results125, go_sem, d0, d1, d2]) rfl ?_
    exact HFIN.out
end Go.Proofs.YtihbmgkbipeakaaGreat

namespace Go.Proofs.YtihbmgkbipeakaaGreat
open Go.RowKit

theorem raised_bulk {a b : T} (ha : a.bulk ≤ 1048000) (hb : b.bulk ≤ 500) : (raisedT a b).bulk ≤ 1048576 := by
  unfold raisedT nrm
  split
  · rw [T.bulk_norm]; exact pow_bulk ha hb
  · exact of_decide_eq_true (by kernel_rfl)
theorem name_bulk {b : T} (hu : b.use = true) (h1 : b.kind = 1) : b.bulk ≤ 20 := by
  have hv := T.use_valid hu
  have hs := (Bool.and_eq_true_iff.1 hv).2
  have := shape_bulk_aux (b.bulk + 1) b (Nat.lt_succ_self _) hs
  obtain ⟨k, s, ks⟩ := b
  obtain rfl : k = 1 := h1
  rw [T.shape_atom 1 s ks (.inl rfl), Bool.and_eq_true, beq_iff_eq] at hs
  have e := List.eq_nil_of_length_eq_zero hs.2
  subst e
  simp only [T.size, T.sizeAll] at this
  omega
theorem pow_no7 {t a b : T} (h : a.kind ≠ 7) : powB t a b = false := by unfold powB; rw [decide_eq_false h]; rfl
theorem pow_no1 {t a b : T} (h : b.kind ≠ 1) : powB t a b = false := by unfold powB; rw [decide_eq_false h]; simp
theorem pow_no4 {t a b : T} (h : ¬ a.kids.length < 4) : powB t a b = false := by unfold powB; rw [decide_eq_false h]; simp
theorem pow_yes {t a b : T} (h7 : a.kind = 7) (h1 : b.kind = 1) (h4 : a.kids.length < 4) : powB t a b = sameB (raisedT a b) t := by unfold powB; rw [decide_eq_true h7, decide_eq_true h1, decide_eq_true h4]; rfl

set_option maxRecDepth 100000 in
set_option maxHeartbeats 8000000 in
theorem opair (t : T) (how : Int) (a b : T) (htb : t.bulk ≤ 1048576) (hut : t.use = true) (hua : a.use = true) (hub : b.use = true) : PairOk t how a b (pairF t how a b) := by
  intro vt va vb w ht ha hb
  have hab := use_bulk hua
  have hbb := use_bulk hub
  by_cases h4 : how = 4
  · subst h4
    exact opair4 t a b vt va vb w ht ha hb htb (by omega) (by omega) (fun h => two_len hua (.inr (.inl h)))
  obtain ⟨At, ct, rfl⟩ := ht.inAll.view
  obtain ⟨Aa, ca, rfl⟩ := ha.inAll.view
  obtain ⟨Ab, cb, rfl⟩ := hb.inAll.view
  obtain ⟨bt, ba, bb, hbw⟩ := three_boxes w (.int .i64 t.kind) (.string t.name) (.slice At t.kids.length ct) (.int .i64 a.kind) (.string a.name) (.slice Aa a.kids.length ca) (.int .i64 b.kind) (.string b.name) (.slice Ab b.kids.length cb)
  have HT := Lib.hid (ht.later hbw); have HA := Lib.hid (ha.later hbw); have HB := Lib.hid (hb.later hbw); have HBW := Lib.hid hbw
  obtain ⟨R, hR⟩ : ∃ R, pairF t how a b = R := ⟨_, rfl⟩
  rw [hR]
  have HR := Lib.hid hR
  have HTW := Lib.hid (fun k v v' v'' W (hk : k = 3 ∨ k = 5 ∨ k = 6) (h1 : TermAt W v t) (h2 : TermAt W v' a) (h3 : TermAt W v'' b) => otwo t a b k v v' v'' W h1 h2 h3 htb (by omega) (by omega) (fun h => two_len hut (by omega)))
  have HRA := Lib.hid (fun v v' W (h7 : a.kind = 7) (h1 : b.kind = 1) (g1 : TermAt W v a) (g2 : TermAt W v' b) => oraised a b v v' W g1 g2 (by omega) (by have := name_bulk hub h1; omega) (by have hk := T.shapeK (Bool.and_eq_true_iff.1 (T.use_valid hua)).2; omega))
  have HSM := Lib.hid (fun v v' W (h1 : b.kind = 1) (g1 : TermAt W v (raisedT a b)) (g2 : TermAt W v' t) => osame (raisedT a b) t v v' W g1 g2 (raised_bulk (by omega) (by have := name_bulk hub h1; omega)) htb)
  have HN4 := Lib.hid (pow_no4 (t := t) (a := a) (b := b)); have HN7 := Lib.hid (pow_no7 (t := t) (a := a) (b := b)); have HN1 := Lib.hid (pow_no1 (t := t) (a := a) (b := b)); have HYE := Lib.hid (pow_yes (t := t) (a := a) (b := b))
  clear ht ha hb hbw hR hut hua hub hab hbb
  go_enter Tryz.func88, Tryz.ntmps88
  go_upto_region 1 with fail
  generalize ((w.alloc (.cells #[.int .i64 t.kind, .string t.name, .slice At t.kids.length ct] 29)).alloc (.cells #[.int .i64 a.kind, .string a.name, .slice Aa a.kids.length ca] 29)).alloc (.cells #[.int .i64 b.kind, .string b.name, .slice Ab b.kids.length cb] 29) = w1 at bt ba bb HT HA HB HBW ⊢
  obtain ⟨t0, t1, t2⟩ := bt.cells
  obtain ⟨a0, a1, a2⟩ := ba.cells
  obtain ⟨b0, b1, b2⟩ := bb.cells
  clear bt ba bb
  have g4 : (how == 4) = false := beq_eq_false_iff_ne.2 h4
  by_cases h6 : how = 6
  · subst h6
    clear h4 g4
    have HE := Lib.hid (show twoB t 3 a b = R from HR.out)
    have HC := Lib.hid (HTW.out 3 _ _ _ _ (by decide) HT.out HA.out HB.out)
    clear HTW HRA HSM
    go_wp2_with fail
    refine HC.out.mono ?_; rintro e wz ⟨rfl, hb4⟩
    have HB4 := Lib.hid (HBW.out.trans (hb4.mono HBW.out.size))
    clear hb4 t0 t1 t2 a0 a1 a2 b0 b1 b2
    go_wp2_with fail
    go_ret
    exact ⟨ret_bool HE.out, HB4.out⟩
  · by_cases h8 : how = 8
    · subst h8
      clear h4 g4 h6
      have HE := Lib.hid (show twoB t 5 a b = R from HR.out)
      have HC := Lib.hid (HTW.out 5 _ _ _ _ (by decide) HT.out HA.out HB.out)
      clear HTW HRA HSM
      go_wp2_with fail
      refine HC.out.mono ?_; rintro e wz ⟨rfl, hb4⟩
      have HB4 := Lib.hid (HBW.out.trans (hb4.mono HBW.out.size))
      clear hb4 t0 t1 t2 a0 a1 a2 b0 b1 b2
      go_wp2_with fail
      go_ret
      exact ⟨ret_bool HE.out, HB4.out⟩
    · by_cases h9 : how = 9
      · subst h9
        clear h4 g4 h6 h8
        have HE := Lib.hid (show twoB t 6 a b = R from HR.out)
        have HC := Lib.hid (HTW.out 6 _ _ _ _ (by decide) HT.out HA.out HB.out)
        clear HTW HRA HSM
        go_wp2_with fail
        refine HC.out.mono ?_; rintro e wz ⟨rfl, hb4⟩
        have HB4 := Lib.hid (HBW.out.trans (hb4.mono HBW.out.size))
        clear hb4 t0 t1 t2 a0 a1 a2 b0 b1 b2
        go_wp2_with fail
        go_ret
        exact ⟨ret_bool HE.out, HB4.out⟩
      · by_cases h10 : how = 10
        · subst h10
          clear h4 g4 h6 h8 h9
          have HE := Lib.hid (show R = powB t a b from HR.out.symm)
          obtain ⟨ka, hka⟩ : ∃ k, a.kind = k := ⟨_, rfl⟩
          obtain ⟨kb, hkb⟩ : ∃ k, b.kind = k := ⟨_, rfl⟩
          obtain ⟨na, hna⟩ : ∃ k, a.kids.length = k := ⟨_, rfl⟩
          rw [hka] at a0 HA HRA HN7 HYE
          rw [hkb] at b0 HB HRA HSM HN1 HYE
          rw [hna] at a2 HA HN4 HYE
          rw [hka, hkb, hna]
          clear hka hkb hna HTW
          by_cases h7 : ka = 7
          · subst h7
            by_cases h1 : kb = 1
            · subst h1
              by_cases hl : na < 4
              · have hl' : (na : Int) < 4 := by omega
                have HE2 := Lib.hid (HE.out.trans (HYE.out rfl rfl hl))
                obtain ⟨q, hq⟩ : ∃ q, sameB (raisedT a b) t = q := ⟨_, rfl⟩
                rw [hq] at HE2 HSM
                generalize raisedT a b = RT at HRA HSM
                clear hq HE HN4 HN7 HN1 HYE
                go_upto_region 11 with fail
                (refine wp_region_held_drew (S := (fun Wq => Wq.cell? ⟨w.heap.size + 1, 0, none⟩ = some (.int .i64 7) ∧ Wq.cell? ⟨w.heap.size + 1, 1, none⟩ = some (.string a.name) ∧ Wq.cell? ⟨w.heap.size + 1, 2, none⟩ = some (.slice Aa na ca) ∧ Wq.cell? ⟨w.heap.size + 1 + 1, 0, none⟩ = some (.int .i64 1) ∧ Wq.cell? ⟨w.heap.size + 1 + 1, 1, none⟩ = some (.string b.name) ∧ Wq.cell? ⟨w.heap.size + 1 + 1, 2, none⟩ = some (.slice Ab b.kids.length cb) ∧ Wq.cell? ⟨w.heap.size, 0, none⟩ = some (.int .i64 t.kind) ∧ Wq.cell? ⟨w.heap.size, 1, none⟩ = some (.string t.name) ∧ Wq.cell? ⟨w.heap.size, 2, none⟩ = some (.slice At t.kids.length ct) ∧ Below w1.heap.size w1 Wq)) (by kernel_rfl) (show _ ∧ _ ∧ _ ∧ _ ∧ _ ∧ _ ∧ _ ∧ _ ∧ _ ∧ _ from ⟨a0, a1, a2, b0, b1, b2, t0, t1, t2, (Below.refl _ w1).drew⟩) (fun hHeld => ?_))
                (refine tkJ 0 _ (h := ?_))
                (refine tkJ 1 _ (h := ?_))
                (refine tkJ 2 _ (h := ?_))
                (refine tkJ 3 _ (h := ?_))
                (refine tkJ 4 _ (h := ?_))
                (refine tkJ 5 _ (h := ?_))
                (refine tkJ 6 _ (h := ?_))
                (refine tkJ 7 _ (h := ?_))
                (refine tkJ 8 _ (h := ?_))
                (refine tkJ 9 _ (h := ?_))
                (refine tkJ 10 _ (h := ?_))
                (refine tkJ 11 _ (h := ?_))
                (refine tkJ 12 _ (h := ?_))
                (refine tkJ 13 _ (h := ?_))
                (refine tkJ 14 _ (h := ?_))
                (refine tkJ 15 _ (h := ?_))
                (refine tkJ 16 _ (h := ?_))
                (refine tkJ 18 _ (h := ?_))
                (refine rdJ 17 (h := fun K hK => ?_); go_simp; go_at_call 125; refine (HRA.out _ _ _ rfl rfl (HA.out.later hHeld.2.2.2.2.2.2.2.2.2) (HB.out.later hHeld.2.2.2.2.2.2.2.2.2)).mono ?_; rintro e wz ⟨A6, C6, rfl, hti, hb4⟩; have ht6 := hti.at; refine shK hK (held9 hHeld hb4) (h := fun hHeld => ?_); clear hK K)
                (refine rdJ 19 (h := fun K hK => ?_); go_simp; go_at_call 86; refine (HSM.out _ _ _ rfl ht6 (HT.out.later hHeld.2.2.2.2.2.2.2.2.2)).mono ?_; rintro e wz2 ⟨rfl, hb4⟩; refine shK hK (held9 hHeld hb4) (h := fun hHeld => ?_); clear hK K)
                (refine tkJ 20 _ (h := ?_))
                (refine tkJ 21 _ (h := ?_))
                (refine wpAnyH_done (by kernel_rfl) ?_ _)
                go_wp2_with fail
                go_ret
                exact ⟨ret_bool HE2.out.symm, HBW.out.trans (hHeld.2.2.2.2.2.2.2.2.2.mono HBW.out.size)⟩
              · have hl' : ¬ (na : Int) < 4 := by omega
                have HE2 := Lib.hid (HE.out.trans (HN4.out hl))
                have hl2 : ¬ na < 4 := hl
                clear HE HN4 HN7 HN1 HYE HRA HSM
                go_upto_region 11 with fail
                (refine wp_region_held_drew (S := (fun Wq => Wq.cell? ⟨w.heap.size + 1, 0, none⟩ = some (.int .i64 7) ∧ Wq.cell? ⟨w.heap.size + 1, 2, none⟩ = some (.slice Aa na ca) ∧ Wq.cell? ⟨w.heap.size + 1 + 1, 0, none⟩ = some (.int .i64 1) ∧ Below w1.heap.size w1 Wq)) (by kernel_rfl) (show _ ∧ _ ∧ _ ∧ _ from ⟨a0, a2, b0, (Below.refl _ w1).drew⟩) (fun hHeld => ?_))
                (refine tkJ 0 _ (h := ?_))
                (refine tkJ 1 _ (h := ?_))
                (refine tkJ 2 _ (h := ?_))
                (refine tkJ 3 _ (h := ?_))
                (first | (refine tkJ 4 _ (h := ?_)) | (refine tkM 4 (h := ?_)))
                (first | (refine tkJ 5 _ (h := ?_)) | (refine tkM 5 (h := ?_)))
                (first | (refine tkJ 6 _ (h := ?_)) | (refine tkM 6 (h := ?_)))
                (refine tkJ 7 _ (h := ?_))
                (refine tkJ 8 _ (h := ?_))
                (first | (refine tkJ 9 _ (h := ?_)) | (refine tkM 9 (h := ?_)))
                (first | (refine tkJ 10 _ (h := ?_)) | (refine tkM 10 (h := ?_)))
                (first | (refine tkJ 11 _ (h := ?_)) | (refine tkM 11 (h := ?_)))
                (first | (refine tkJ 12 _ (h := ?_)) | (refine tkM 12 (h := ?_)))
                (refine tkJ 13 _ (h := ?_))
                (refine tkJ 14 _ (h := ?_))
                (first | (refine tkJ 15 _ (h := ?_)) | (refine tkM 15 (h := ?_)))
                (first | (refine tkJ 16 _ (h := ?_)) | (refine tkM 16 (h := ?_)))
                (first | (refine tkJ 17 _ (h := ?_)) | (refine tkM 17 (h := ?_)))
                (first | (refine tkJ 18 _ (h := ?_)) | (refine tkM 18 (h := ?_)))
                (first | (refine tkJ 19 _ (h := ?_)) | (refine tkM 19 (h := ?_)))
                (refine tkJ 20 _ (h := ?_))
                (refine tkJ 21 _ (h := ?_))
                (refine wpAnyH_done (by kernel_rfl) ?_ _)
                go_wp2_with fail
                go_ret
                exact ⟨ret_bool HE2.out.symm, HBW.out.trans (hHeld.2.2.2.mono HBW.out.size)⟩
            · have h1' : (kb == 1) = false := beq_eq_false_iff_ne.2 h1
              have HE2 := Lib.hid (HE.out.trans (HN1.out h1))
              clear HE HN4 HN7 HN1 HYE HRA HSM
              go_upto_region 11 with fail
              (refine wp_region_held_drew (S := (fun Wq => Wq.cell? ⟨w.heap.size + 1, 0, none⟩ = some (.int .i64 7) ∧ Wq.cell? ⟨w.heap.size + 1 + 1, 0, none⟩ = some (.int .i64 kb) ∧ Below w1.heap.size w1 Wq)) (by kernel_rfl) (show _ ∧ _ ∧ _ from ⟨a0, b0, (Below.refl _ w1).drew⟩) (fun hHeld => ?_))
              (refine tkJ 0 _ (h := ?_))
              (refine tkJ 1 _ (h := ?_))
              (refine tkJ 2 _ (h := ?_))
              (refine tkJ 3 _ (h := ?_))
              (first | (refine tkJ 4 _ (h := ?_)) | (refine tkM 4 (h := ?_)))
              (first | (refine tkJ 5 _ (h := ?_)) | (refine tkM 5 (h := ?_)))
              (first | (refine tkJ 6 _ (h := ?_)) | (refine tkM 6 (h := ?_)))
              (refine tkJ 7 _ (h := ?_))
              (refine tkJ 8 _ (h := ?_))
              (first | (refine tkJ 9 _ (h := ?_)) | (refine tkM 9 (h := ?_)))
              (first | (refine tkJ 10 _ (h := ?_)) | (refine tkM 10 (h := ?_)))
              (first | (refine tkJ 11 _ (h := ?_)) | (refine tkM 11 (h := ?_)))
              (first | (refine tkJ 12 _ (h := ?_)) | (refine tkM 12 (h := ?_)))
              (refine tkJ 13 _ (h := ?_))
              (refine tkJ 14 _ (h := ?_))
              (first | (refine tkJ 15 _ (h := ?_)) | (refine tkM 15 (h := ?_)))
              (first | (refine tkJ 16 _ (h := ?_)) | (refine tkM 16 (h := ?_)))
              (first | (refine tkJ 17 _ (h := ?_)) | (refine tkM 17 (h := ?_)))
              (first | (refine tkJ 18 _ (h := ?_)) | (refine tkM 18 (h := ?_)))
              (first | (refine tkJ 19 _ (h := ?_)) | (refine tkM 19 (h := ?_)))
              (refine tkJ 20 _ (h := ?_))
              (refine tkJ 21 _ (h := ?_))
              (refine wpAnyH_done (by kernel_rfl) ?_ _)
              go_wp2_with fail
              go_ret
              exact ⟨ret_bool HE2.out.symm, HBW.out.trans (hHeld.2.2.mono HBW.out.size)⟩
          · have h7' : (ka == 7) = false := beq_eq_false_iff_ne.2 h7
            have HE2 := Lib.hid (HE.out.trans (HN7.out h7))
            clear HE HN4 HN7 HN1 HYE HRA HSM
            go_upto_region 11 with fail
            (refine wp_region_held_drew (S := (fun Wq => Wq.cell? ⟨w.heap.size + 1, 0, none⟩ = some (.int .i64 ka) ∧ Below w1.heap.size w1 Wq)) (by kernel_rfl) (show _ ∧ _ from ⟨a0, (Below.refl _ w1).drew⟩) (fun hHeld => ?_))
            (refine tkJ 0 _ (h := ?_))
            (refine tkJ 1 _ (h := ?_))
            (refine tkJ 2 _ (h := ?_))
            (refine tkJ 3 _ (h := ?_))
            (first | (refine tkJ 4 _ (h := ?_)) | (refine tkM 4 (h := ?_)))
            (first | (refine tkJ 5 _ (h := ?_)) | (refine tkM 5 (h := ?_)))
            (first | (refine tkJ 6 _ (h := ?_)) | (refine tkM 6 (h := ?_)))
            (refine tkJ 7 _ (h := ?_))
            (refine tkJ 8 _ (h := ?_))
            (first | (refine tkJ 9 _ (h := ?_)) | (refine tkM 9 (h := ?_)))
            (first | (refine tkJ 10 _ (h := ?_)) | (refine tkM 10 (h := ?_)))
            (first | (refine tkJ 11 _ (h := ?_)) | (refine tkM 11 (h := ?_)))
            (first | (refine tkJ 12 _ (h := ?_)) | (refine tkM 12 (h := ?_)))
            (refine tkJ 13 _ (h := ?_))
            (refine tkJ 14 _ (h := ?_))
            (first | (refine tkJ 15 _ (h := ?_)) | (refine tkM 15 (h := ?_)))
            (first | (refine tkJ 16 _ (h := ?_)) | (refine tkM 16 (h := ?_)))
            (first | (refine tkJ 17 _ (h := ?_)) | (refine tkM 17 (h := ?_)))
            (first | (refine tkJ 18 _ (h := ?_)) | (refine tkM 18 (h := ?_)))
            (first | (refine tkJ 19 _ (h := ?_)) | (refine tkM 19 (h := ?_)))
            (refine tkJ 20 _ (h := ?_))
            (refine tkJ 21 _ (h := ?_))
            (refine wpAnyH_done (by kernel_rfl) ?_ _)
            go_wp2_with fail
            go_ret
            exact ⟨ret_bool HE2.out.symm, HBW.out.trans (hHeld.2.mono HBW.out.size)⟩
        · have g6 : (how == 6) = false := beq_eq_false_iff_ne.2 h6
          have g8 : (how == 8) = false := beq_eq_false_iff_ne.2 h8
          have g9 : (how == 9) = false := beq_eq_false_iff_ne.2 h9
          have g10 : (how == 10) = false := beq_eq_false_iff_ne.2 h10
          have HE := Lib.hid (show R = false by rw [← HR.out]; unfold pairF; rw [if_neg h4, if_neg h6, if_neg h8, if_neg h9, if_neg h10])
          clear h4 h6 h8 h9 h10 HTW HRA HSM
          go_wp2_with fail
          go_ret
          exact ⟨ret_bool HE.out.symm, HBW.out⟩
end Go.Proofs.YtihbmgkbipeakaaGreat

namespace Go.Proofs.YtihbmgkbipeakaaGreat
open Go.RowKit

set_option maxRecDepth 100000 in
set_option maxHeartbeats 8000000 in
theorem rkidT (t a : T) (k : Int) (n : Nat) (vt va : Value) (w : World) (ht : TermAt w vt t) (ha : TermAt w va a) (htb : t.bulk ≤ 1048576) (hab : a.bulk ≤ 1048576) (hn : a.kind = k → n < a.kids.length) :
    Calls Tryz.prog 91 #[vt, va, .int .i64 k, .int .i64 (n : Int)] w fun e w' => e = .returned (.bool (kidB t a k n)) ∧ Below w.heap.size w w' := by
  obtain ⟨At, ct, rfl⟩ := ht.inAll.view
  obtain ⟨Aa, ca, rfl⟩ := ha.inAll.view
  obtain ⟨bt, ba, hbw⟩ := two_boxes w (.int .i64 t.kind) (.string t.name) (.slice At t.kids.length ct) (.int .i64 a.kind) (.string a.name) (.slice Aa a.kids.length ca)
  have HT := Lib.hid (ht.later hbw); have HA := Lib.hid (ha.later hbw); have HBW := Lib.hid hbw
  have hkl := kids_len hab
  obtain ⟨R, hR⟩ : ∃ R, kidB t a k n = R := ⟨_, rfl⟩
  rw [hR]
  have HR := Lib.hid hR
  obtain ⟨ka, hka⟩ : ∃ k, a.kind = k := ⟨_, rfl⟩
  obtain ⟨na, hna⟩ : ∃ k, a.kids.length = k := ⟨_, rfl⟩
  have HKA := Lib.hid hka; have HNA := Lib.hid hna
  rw [hka, hna] at bt ba HBW HT HA hn
  rw [hna] at hkl
  rw [hka, hna]
  clear ht ha hbw hR hka hna
  go_enter Tryz.func91, Tryz.ntmps91
  go_upto_region 1 with fail
  generalize (w.alloc (.cells #[.int .i64 t.kind, .string t.name, .slice At t.kids.length ct] 29)).alloc (.cells #[.int .i64 ka, .string a.name, .slice Aa na ca] 29) = w1 at bt ba HT HA HBW ⊢
  obtain ⟨t0, t1, t2⟩ := bt.cells
  obtain ⟨a0, a1, a2⟩ := ba.cells
  clear bt ba
  by_cases h5 : ka = k
  · subst h5
    have hnl := hn rfl
    have hni : (0 : Int) ≤ (n : Int) ∧ (n : Int) < (na : Int) := by omega
    obtain ⟨hni1, hni2⟩ := hni
    obtain ⟨kb, off, A0, c0, rfl, d0, d1, d2, hk0⟩ := HA.out.kid (i := n) (by rw [HNA.out]; exact hnl)
    have hkb0 := T.kid_bulk (t := a) (i := n) (by rw [HNA.out]; exact hnl)
    have HE := Lib.hid (show R = sameB (a.kid n) t by rw [← HR.out]; exact kidB_yes HKA.out)
    have HS := Lib.hid (fun v v' W' (h1 : TermAt W' v (a.kid n)) (h2 : TermAt W' v' t) => rsame (a.kid n) t v v' W' h1 h2 (by omega) htb)
    have HX := Lib.hid hk0
    have HQ := Lib.hid (show sameB (a.kid n) t = decide ((a.kid n).cmp t = 0) from rfl)
    obtain ⟨q, hq⟩ : ∃ q, decide ((a.kid n).cmp t = 0) = q := ⟨_, rfl⟩
    rw [hq] at HS HQ
    have HE2 := Lib.hid (HE.out.trans HQ.out)
    clear HE HQ
    generalize a.kid n = X at d0 d1 d2 HS HX
    clear hk0 hkb0 hq hn
    go_upto_region 1 with fail
    (refine wp_region_held_drew (S := (fun Wq => Wq.cell? ⟨w.heap.size + 1, 0, none⟩ = some (.int .i64 ka) ∧ Wq.cell? ⟨w.heap.size + 1, 2, none⟩ = some (.slice (some ⟨kb, off, none⟩) na ca) ∧ Wq.cell? ⟨kb, off + n * 3, none⟩ = some (.int .i64 X.kind) ∧ Wq.cell? ⟨kb, off + n * 3 + 1, none⟩ = some (.string X.name) ∧ Wq.cell? ⟨kb, off + n * 3 + 2, none⟩ = some (.slice A0 X.kids.length c0) ∧ Wq.cell? ⟨w.heap.size, 0, none⟩ = some (.int .i64 t.kind) ∧ Wq.cell? ⟨w.heap.size, 1, none⟩ = some (.string t.name) ∧ Wq.cell? ⟨w.heap.size, 2, none⟩ = some (.slice At t.kids.length ct) ∧ Below w1.heap.size w1 Wq)) (by kernel_rfl) (show _ ∧ _ ∧ _ ∧ _ ∧ _ ∧ _ ∧ _ ∧ _ ∧ _ from ⟨a0, a2, d0, d1, d2, t0, t1, t2, (Below.refl _ w1).drew⟩) (fun hHeld => ?_))
    (refine tkJ 0 _ (h := ?_))
    (refine tkJ 1 _ (h := ?_))
    (refine tkJ 2 _ (h := ?_))
    (refine tkJ 3 _ (h := ?_))
    (refine tkJ 4 _ (h := ?_))
    (refine tkJ 5 _ (h := ?_))
    (refine tkJ 6 _ (h := ?_))
    (refine tkJ 7 _ (h := ?_))
    (refine tkJ 8 _ (h := ?_))
    (refine tkJ 9 _ (h := ?_))
    (refine tkJ 10 _ (h := ?_))
    (refine rdJ 11 (h := fun K hK => ?_); go_simp; go_at_call 25; refine (HS.out _ _ _ (HX.out.later hHeld.2.2.2.2.2.2.2.2) (HT.out.later hHeld.2.2.2.2.2.2.2.2)).mono ?_; rintro e wz ⟨rfl, hb4⟩; refine shK hK (held8 hHeld hb4) (h := fun hHeld => ?_); clear hK K)
    (refine tkJ 12 _ (h := ?_))
    (refine tkJ 13 _ (h := ?_))
    (refine wpAnyH_done (by kernel_rfl) ?_ _)
    go_wp2_with fail
    go_ret
    exact ⟨ret_bool HE2.out.symm, HBW.out.trans (hHeld.2.2.2.2.2.2.2.2.mono HBW.out.size)⟩
  · have h5' : (ka == k) = false := by rw [beq_eq_false_iff_ne]; exact h5
    have HE := Lib.hid (show R = false by rw [← HR.out]; exact kidB_no (by rw [HKA.out]; exact h5))
    clear hn
    go_upto_region 1 with fail
    (refine wp_region_held_drew (S := (fun Wq => Wq.cell? ⟨w.heap.size + 1, 0, none⟩ = some (.int .i64 ka) ∧ Below w1.heap.size w1 Wq)) (by kernel_rfl) (show _ ∧ _ from ⟨a0, (Below.refl _ w1).drew⟩) (fun hHeld => ?_))
    (refine tkJ 0 _ (h := ?_))
    (refine tkJ 1 _ (h := ?_))
    (refine tkJ 2 _ (h := ?_))
    (refine tkJ 3 _ (h := ?_))
    (refine tkJ 4 _ (h := ?_))
    (first | (refine tkJ 5 _ (h := ?_)) | (refine tkM 5 (h := ?_)))
    (first | (refine tkJ 6 _ (h := ?_)) | (refine tkM 6 (h := ?_)))
    (first | (refine tkJ 7 _ (h := ?_)) | (refine tkM 7 (h := ?_)))
    (first | (refine tkJ 8 _ (h := ?_)) | (refine tkM 8 (h := ?_)))
    (first | (refine tkJ 9 _ (h := ?_)) | (refine tkM 9 (h := ?_)))
    (first | (refine tkJ 10 _ (h := ?_)) | (refine tkM 10 (h := ?_)))
    (first | (refine tkJ 11 _ (h := ?_)) | (refine tkM 11 (h := ?_)))
    (refine tkJ 12 _ (h := ?_))
    (refine tkJ 13 _ (h := ?_))
    (refine wpAnyH_done (by kernel_rfl) ?_ _)
    go_wp2_with fail
    go_ret
    exact ⟨ret_bool HE.out.symm, HBW.out.trans (hHeld.2.mono HBW.out.size)⟩
theorem nrm_bulk {x : T} (h : x.bulk ≤ 1048576) : (nrm x).bulk ≤ 1048576 := by
  unfold nrm
  split
  · rw [T.bulk_norm]; exact h
  · exact of_decide_eq_true (by kernel_rfl)
/-- A list in memory as the kids of a term. -/
theorem KnownAt.term {w : World} {A : Option Addr} {c : Nat} {L : List T} (h : KnownAt w A c L) (k : Int) (hk : -9223372036854775808 ≤ k ∧ k ≤ 9223372036854775807) : TermAt w (.agg #[.int .i64 k, .string ⟨#[]⟩, .slice A L.length c]) (.mk k ⟨#[]⟩ L) := by
  obtain ⟨U, h1, h2, h3, h4⟩ := KnownAt.inv h
  exact TermAt.mk k ⟨#[]⟩ A c L U hk (by decide) h1 h2 h3 h4

set_option maxRecDepth 100000 in
set_option maxHeartbeats 8000000 in
theorem rmadeT (t : T) (k : Int) (xs : List T) (A : Option Addr) (c : Nat) (vt : Value) (w : World) (ht : TermAt w vt t) (hx : KnownAt w A c xs) (htb : t.bulk ≤ 1048576) (hxb : T.bulkAll xs ≤ 1048000) (hk : -9223372036854775808 ≤ k ∧ k ≤ 9223372036854775807) :
    Calls Tryz.prog 92 #[vt, .int .i64 k, .slice A xs.length c] w fun e w' => e = .returned (.bool (madeB t k xs)) ∧ Below w.heap.size w w' := by
  obtain ⟨At, ct, rfl⟩ := ht.inAll.view
  have hw := below_alloc1 w (.cells #[.int .i64 t.kind, .string t.name, .slice At t.kids.length ct] 29)
  have bx := Box.new w (.int .i64 t.kind) (.string t.name) (.slice At t.kids.length ct)
  have hmb : (T.mk k ⟨#[]⟩ xs).bulk ≤ 1048576 := by
    simp only [T.bulk]
    have : (⟨#[]⟩ : ByteArray).size = 0 := rfl
    omega
  have HT := Lib.hid (ht.later hw); have HX := Lib.hid ((hx.term k hk).later hw); have HW := Lib.hid hw
  have HNO := Lib.hid (show ∀ v W, TermAt W v (.mk k ⟨#[]⟩ xs) → Calls Tryz.prog 47 #[v] W (RetT (nrm (.mk k ⟨#[]⟩ xs)) W) from fun v W h => rnormal (.mk k ⟨#[]⟩ xs) v W h hmb)
  have HS := Lib.hid (fun v v' W' (h1 : TermAt W' v t) (h2 : TermAt W' v' (nrm (.mk k ⟨#[]⟩ xs))) => rsame t (nrm (.mk k ⟨#[]⟩ xs)) v v' W' h1 h2 htb (nrm_bulk hmb))
  have HR := Lib.hid (show madeB t k xs = decide (t.cmp (nrm (.mk k ⟨#[]⟩ xs)) = 0) from rfl)
  obtain ⟨R, hR⟩ : ∃ R, madeB t k xs = R := ⟨_, rfl⟩
  rw [hR] at HR ⊢
  rw [← HR.out] at HS
  generalize nrm (.mk k ⟨#[]⟩ xs) = M at HNO HS
  obtain ⟨nx, hnx⟩ : ∃ n, xs.length = n := ⟨_, rfl⟩
  rw [hnx] at HX ⊢
  clear ht hx hw hmb hR HR hnx
  go_enter Tryz.func92, Tryz.ntmps92
  go_upto_region 1 with fail
  generalize w.alloc (.cells #[.int .i64 t.kind, .string t.name, .slice At t.kids.length ct] 29) = w1 at bx HT HX HW ⊢
  obtain ⟨t0, t1, t2⟩ := bx.cells
  clear bx
  (refine wp_region_held_drew (S := (fun Wq => Wq.cell? ⟨w.heap.size, 0, none⟩ = some (.int .i64 t.kind) ∧ Wq.cell? ⟨w.heap.size, 1, none⟩ = some (.string t.name) ∧ Wq.cell? ⟨w.heap.size, 2, none⟩ = some (.slice At t.kids.length ct) ∧ Below w1.heap.size w1 Wq)) (by kernel_rfl) (show _ ∧ _ ∧ _ ∧ _ from ⟨t0, t1, t2, (Below.refl _ w1).drew⟩) (fun hHeld => ?_))
  (refine tkJ 0 _ (h := ?_))
  (refine tkJ 1 _ (h := ?_))
  (refine tkJ 2 _ (h := ?_))
  (refine tkJ 3 _ (h := ?_))
  (refine rdJ 4 (h := fun K hK => ?_); go_simp; go_at_call 47; refine (HNO.out _ _ (HX.out.later hHeld.2.2.2)).mono ?_; rintro e wz ⟨A6, C6, rfl, hti, hb4⟩; have ht6 := hti.at; refine shK hK (held3 hHeld hb4) (h := fun hHeld => ?_); clear hK K)
  (refine rdJ 5 (h := fun K hK => ?_); go_simp; go_at_call 25; refine (HS.out _ _ _ (HT.out.later hHeld.2.2.2) ht6).mono ?_; rintro e wz2 ⟨rfl, hb4⟩; refine shK hK (held3 hHeld hb4) (h := fun hHeld => ?_); clear hK K)
  (refine tkJ 6 _ (h := ?_))
  (refine wpAnyH_done (by kernel_rfl) ?_ _)
  go_wp2_with fail
  go_ret
  exact ⟨rfl, HW.out.trans (hHeld.2.2.2.mono HW.out.size)⟩

set_option maxRecDepth 100000 in
set_option maxHeartbeats 4000000 in
theorem rneedsT (how : Int) (w : World) : Calls Tryz.prog 42 #[.int .i64 how] w fun e w' => e = .returned (.int .i64 (needsI how)) ∧ w = w' := by
  obtain ⟨R, hR⟩ : ∃ R, needsI how = R := ⟨_, rfl⟩
  have HR := Lib.hid hR
  rw [hR]
  clear hR
  go_enter Tryz.func42, Tryz.ntmps42
  by_cases hx : how = 1 ∨ how = 2 ∨ how = 3 ∨ how = 4 ∨ how = 5 ∨ how = 6 ∨ how = 7 ∨ how = 8 ∨ how = 9 ∨ how = 10 ∨ how = 11
  · rcases hx with hh | hh | hh | hh | hh | hh | hh | hh | hh | hh | hh
    · skip
      subst hh
      have HE := Lib.hid (show 0 = R from HR.out)
      clear HR
      go_wp2_with fail
      go_ret
      exact ⟨ret_i64 HE.out, rfl⟩
    · skip
      subst hh
      have HE := Lib.hid (show 1 = R from HR.out)
      clear HR
      go_wp2_with fail
      go_ret
      exact ⟨ret_i64 HE.out, rfl⟩
    · skip
      subst hh
      have HE := Lib.hid (show 1 = R from HR.out)
      clear HR
      go_wp2_with fail
      go_ret
      exact ⟨ret_i64 HE.out, rfl⟩
    · skip
      subst hh
      have HE := Lib.hid (show 2 = R from HR.out)
      clear HR
      go_wp2_with fail
      go_ret
      exact ⟨ret_i64 HE.out, rfl⟩
    · skip
      subst hh
      have HE := Lib.hid (show 1 = R from HR.out)
      clear HR
      go_wp2_with fail
      go_ret
      exact ⟨ret_i64 HE.out, rfl⟩
    · skip
      subst hh
      have HE := Lib.hid (show 2 = R from HR.out)
      clear HR
      go_wp2_with fail
      go_ret
      exact ⟨ret_i64 HE.out, rfl⟩
    · skip
      subst hh
      have HE := Lib.hid (show 1 = R from HR.out)
      clear HR
      go_wp2_with fail
      go_ret
      exact ⟨ret_i64 HE.out, rfl⟩
    · skip
      subst hh
      have HE := Lib.hid (show 2 = R from HR.out)
      clear HR
      go_wp2_with fail
      go_ret
      exact ⟨ret_i64 HE.out, rfl⟩
    · skip
      subst hh
      have HE := Lib.hid (show 2 = R from HR.out)
      clear HR
      go_wp2_with fail
      go_ret
      exact ⟨ret_i64 HE.out, rfl⟩
    · skip
      subst hh
      have HE := Lib.hid (show 2 = R from HR.out)
      clear HR
      go_wp2_with fail
      go_ret
      exact ⟨ret_i64 HE.out, rfl⟩
    · skip
      subst hh
      have HE := Lib.hid (show 1 = R from HR.out)
      clear HR
      go_wp2_with fail
      go_ret
      exact ⟨ret_i64 HE.out, rfl⟩
  · have g1 : (how == 1) = false := beq_eq_false_iff_ne.2 (by omega)
    have g2 : (how == 2) = false := beq_eq_false_iff_ne.2 (by omega)
    have g3 : (how == 3) = false := beq_eq_false_iff_ne.2 (by omega)
    have g4 : (how == 4) = false := beq_eq_false_iff_ne.2 (by omega)
    have g5 : (how == 5) = false := beq_eq_false_iff_ne.2 (by omega)
    have g6 : (how == 6) = false := beq_eq_false_iff_ne.2 (by omega)
    have g7 : (how == 7) = false := beq_eq_false_iff_ne.2 (by omega)
    have g8 : (how == 8) = false := beq_eq_false_iff_ne.2 (by omega)
    have g9 : (how == 9) = false := beq_eq_false_iff_ne.2 (by omega)
    have g10 : (how == 10) = false := beq_eq_false_iff_ne.2 (by omega)
    have g11 : (how == 11) = false := beq_eq_false_iff_ne.2 (by omega)
    have HE := Lib.hid (show -1 = R by rw [← HR.out]; unfold needsI; rw [if_neg (by omega), if_neg (by omega), if_neg (by omega)])
    clear hx HR
    go_wp2_with fail
    go_ret
    exact ⟨ret_i64 HE.out, rfl⟩
end Go.Proofs.YtihbmgkbipeakaaGreat
