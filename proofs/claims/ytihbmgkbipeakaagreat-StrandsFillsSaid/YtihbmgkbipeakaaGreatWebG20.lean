/- Several texts in one: TermTerm2. -/
import Derived.Test.YtihbmgkbipeakaaGreatWebG19
namespace Go.Proofs.YtihbmgkbipeakaaGreat
open Go.RowKit

attribute [local go_sem ↓] Go.wp_at_zero Go.wp_at_succ

set_option maxRecDepth 100000 in
set_option maxHeartbeats 8000000 in
theorem made_term (vars : Int) : ∀ (D : Nat), 1 ≤ D → D ≤ 4 → ∀ (B g : Nat) (w : World), DiceAt B g w →
    Calls Tryz.prog 17 #[.pointer (some ⟨g, 0, none⟩), .int .i64 (D : Int), .int .i64 vars] w (MadePost vars D B g w) := by
  intro D
  induction D with
  | zero => intro h; omega
  | succ D ih =>
  intro _ hD4 B g w hd
  rcases Nat.eq_zero_or_pos D with h0 | hD
  · subst h0; exact made_term_low 1 B g vars w hd rfl
  have IH := Lib.hid (fun W h => ih hD (by omega) B g W h)
  clear ih
  have hgl := hd.lt
  have bx := Box.new w (.int .i64 0) (.string ⟨#[]⟩) (.slice none 0 0)
  have hw := below_alloc1 w (.cells #[.int .i64 0, .string ⟨#[]⟩, .slice none 0 0] 29)
  have hz := size_alloc1 w (.cells #[.int .i64 0, .string ⟨#[]⟩, .slice none 0 0] 29)
  have HD := Lib.hid (hd.below hw hgl); have HGL := Lib.hid hgl
  clear hd hgl
  go_enter Tryz.func17, Tryz.ntmps17
  go_upto_region 1 with fail
  generalize w.alloc (.cells #[.int .i64 0, .string ⟨#[]⟩, .slice none 0 0] 29) = w1 at bx hw hz HD ⊢
  have HB := Lib.hid bx; have HW := Lib.hid hw; have HZ := Lib.hid hz
  clear bx hw hz
  go_wp2_with fail
  refine (made_next B g 8 _ HD.out (by omega) (by omega)).mono ?_; rintro e w2 ⟨v, hv0, hv1, rfl, hd2, hg2⟩
  have HB2 := Lib.hid (HB.out.grown hg2 (fun e => by have e' := Option.some.inj e; have := HGL.out; omega))
  have HG2 := Lib.hid (grownBy_trans (grownBy_of_below (some g) HW.out) hg2); have HD2 := Lib.hid hd2
  have HZ2 := Lib.hid (show w.heap.size + 1 ≤ w2.heap.size by have := hg2.size; have := HZ.out; omega)
  clear hd2 hg2

  have h1 : 1 < ((D + 1 : Nat) : Int) := by omega
  have hw1 : IntKind.i64.wrap (((D + 1 : Nat) : Int) - 1) = (D : Int) := by rw [IntWalk.i64_in _ (by omega)]; omega
  generalize ((D + 1 : Nat) : Int) = DI at h1 hw1 ⊢
  by_cases h2 : v < 2
  · have hlow := h2
    go_upto_region 3 with fail
    go_wp2_with fail
    refine (made_atom B g _ _ HD2.out).mono ?_; rintro e w3 ⟨k, s, hk, rfl, hd3, hg3⟩
    have HB3 := Lib.hid (HB2.out.grown hg3 (fun e => by have e' := Option.some.inj e; have := HGL.out; omega))
    have HG3 := Lib.hid (grownBy_trans HG2.out hg3); have HD3 := Lib.hid hd3
    have HK := Lib.hid hk
    obtain ⟨x0, x1, x2⟩ := HB3.out.cells
    obtain ⟨f0, f1, f2⟩ := HB3.out.free
    clear hd3 hg3 hk
    go_wp2_with fail
    obtain ⟨d0, d1, d2⟩ := (box_set3 HB3.out (.int .i64 k) (.string s) (.slice none 0 0)).cells
    refine bodyPost_ret (v := .agg #[.int .i64 k, .string s, .slice none 0 0]) (by simp [results, Tryz.results17, go_sem, d0, d1, d2]) rfl ?_
    exact made_ends (t := .mk k s []) (A := none) (cap := 0) HG3.out HGL.out HD3.out (T.maden_of_atom HK.out (D + 1)) (atom_in _ _ k s (by have := (T.made0_facts HK.out).1; omega) (by have := (T.made0_facts HK.out).2.2; unfold maxLen; omega)) _ _ _
  · have h2' : 2 ≤ v := by omega
    go_upto_region 5 with fail
    have bt := Box.new w2 (.int .i64 0) (.string ⟨#[]⟩) (.slice none 0 0)
    have hw3 := below_alloc1 w2 (.cells #[.int .i64 0, .string ⟨#[]⟩, .slice none 0 0] 29)
    have hz3 := size_alloc1 w2 (.cells #[.int .i64 0, .string ⟨#[]⟩, .slice none 0 0] 29)
    have HD3 := Lib.hid (HD2.out.below hw3 HD2.out.lt); have HB3 := Lib.hid (HB2.out.later hw3); have HG3 := Lib.hid (grownBy_trans HG2.out (grownBy_of_below (some g) hw3))
    generalize w2.alloc (.cells #[.int .i64 0, .string ⟨#[]⟩, .slice none 0 0] 29) = w3 at bt hz3 HD3 HB3 HG3 ⊢
    have BT := Lib.hid bt; have HZ3 := Lib.hid hz3
    clear bt hw3 hz3
    by_cases h4 : v = 4
    · subst h4
      go_wp2_with fail
      refine (IH.out _ HD3.out).mono ?_; rintro e w4 ⟨t, A4, C4, hm, rfl, hti, hd4, hg4⟩
      have HM := Lib.hid hm.1; have HTI := Lib.hid hti; have HD4 := Lib.hid hd4; have HG4 := Lib.hid hg4
      have HBT4 := Lib.hid (BT.out.grown hg4 (fun e => by have e' := Option.some.inj e; have := HGL.out; have := HZ2.out; omega))
      clear hm hti hd4 hg4
      have hw5 := below_alloc1 w4 (.cells #[.int .i64 t.kind, .string t.name, .slice A4 t.kids.length C4] 29)
      have hz5 := size_alloc1 w4 (.cells #[.int .i64 t.kind, .string t.name, .slice A4 t.kids.length C4] 29)
      have hrow := heap_alloc_new w4 (.cells #[.int .i64 t.kind, .string t.name, .slice A4 t.kids.length C4] 29)
      have BT5 := HBT4.out.later hw5
      obtain ⟨x0, x1, x2⟩ := BT5.cells
      obtain ⟨f0, f1, f2⟩ := BT5.free
      go_upto_region 20 with fail
      generalize w4.alloc (.cells #[.int .i64 t.kind, .string t.name, .slice A4 t.kids.length C4] 29) = w5 at hw5 hz5 hrow BT5 x0 x1 x2 f0 f1 f2 ⊢
      have hl3 := HZ3.out
      have hl2 := HZ2.out
      have hl4 := HG4.out.size
      have hset := fun b hb => set3_other w5 w2.heap.size (.int .i64 4) (.string ⟨#[]⟩) (.slice (some ⟨w4.heap.size, 0, none⟩) 1 1) b hb
      have bx6 := box_set3 BT5 (.int .i64 4) (.string ⟨#[]⟩) (.slice (some ⟨w4.heap.size, 0, none⟩) 1 1)
      have hd6 := (HD4.out.below hw5 HD4.out.lt).other (h := w2.heap.size) (by have := HGL.out; omega) (by have := HD4.out.1; have := HGL.out; omega) (.int .i64 4) (.string ⟨#[]⟩) (.slice (some ⟨w4.heap.size, 0, none⟩) 1 1)
      have hg5 : w.grownBy w5 (some g) := grownBy_trans (grownBy_trans HG3.out HG4.out) (grownBy_of_below (some g) hw5)
      have hb6 := below_set3 w5 w2.heap.size (.int .i64 4) (.string ⟨#[]⟩) (.slice (some ⟨w4.heap.size, 0, none⟩) 1 1)
      generalize ((w5.setCell ⟨w2.heap.size, 0, none⟩ (.int .i64 4)).setCell ⟨w2.heap.size, 1, none⟩ (.string ⟨#[]⟩)).setCell ⟨w2.heap.size, 2, none⟩ (.slice (some ⟨w4.heap.size, 0, none⟩) 1 1) = w6 at hset bx6 hd6 hb6 ⊢
      have hg6 : w.grownBy w6 (some g) := ⟨hb6.os.trans hg5.os, hb6.tape.trans hg5.tape, hb6.output.trans hg5.output, Nat.le_trans hg5.size hb6.size, fun i hi hn => (hb6.block i (by omega)).trans (hg5.block i hi hn)⟩
      have hrow6 := (hset w4.heap.size (by omega)).trans hrow
      have hkid : TermIn (but (w.heap.size + 1) (some w4.heap.size)) w6 (.agg #[.int .i64 t.kind, .string t.name, .slice A4 t.kids.length C4]) t := HTI.out.keep fun b hb hl =>
        ⟨but_iff.2 ⟨by have := of_decide_eq_true hb; omega, fun e => by have e' : w4.heap.size = b := Option.some.inj e; omega⟩, (hset b (by have := of_decide_eq_true hb; omega)).trans (hw5.block b hl)⟩
      have hT : TermIn (from_ (w.heap.size + 1)) w6 (.agg #[.int .i64 4, .string ⟨#[]⟩, .slice (some ⟨w4.heap.size, 0, none⟩) 1 1]) (.mk 4 ⟨#[]⟩ [t]) :=
        TermsRow.term (L := [t]) (.inr ⟨w4.heap.size, 1, rfl, _, hrow6, rfl, by simp, by unfold maxLen; omega, by omega, fun i hi => by have e : i = 0 := (by simpa using hi); subst e; exact ⟨_, _, _, rfl, rfl, rfl, hkid⟩⟩) 4 ⟨#[]⟩ (by decide) (by decide)
      have hm6 := T.made_hash hD HM.out
      have HB5 := (HB3.out.grown HG4.out (fun e => by have e' := Option.some.inj e; have := HGL.out; omega)).later hw5
      have HB6 := Lib.hid (show Box w6 w.heap.size (.int .i64 0) (.string ⟨#[]⟩) (.slice none 0 0) from (hset w.heap.size (by omega)).trans HB5)
      have HT6 := Lib.hid hT; have HM6 := Lib.hid hm6; have HD6 := Lib.hid hd6; have HG6 := Lib.hid hg6; have HVAL := Lib.hid (hm6.valid hD4); have HBK := Lib.hid (show (T.mk 4 ⟨#[]⟩ [t]).bulk ≤ 1048576 by have := hm6.bulk hD4; omega)
      clear x0 x1 x2 f0 f1 f2 hT hm6 hd6 hg6 hg5 hb6 hkid hrow6 hrow hset BT5 hw5 hz5 HB5
      obtain ⟨x0, x1, x2⟩ := bx6.cells
      have hrn := fun W h => rnormal (.mk 4 ⟨#[]⟩ [t]) (.agg #[.int .i64 4, .string ⟨#[]⟩, .slice (some ⟨w4.heap.size, 0, none⟩) 1 1]) W h HBK.out
      rw [if_pos HVAL.out] at hrn
      have hnm := HM6.out.norm
      generalize (T.mk 4 ⟨#[]⟩ [t]).norm = tn at hrn hnm
      have HRN := Lib.hid hrn; have HNM := Lib.hid hnm
      clear hrn hnm
      go_wp2_with fail
      refine (HRN.out _ HT6.out.at).mono ?_; rintro e w7 ⟨A7, C7, rfl, ht7, hb7⟩
      have BX7 := Lib.hid (HB6.out.later hb7)
      have HD7 := Lib.hid (HD6.out.below hb7 HD6.out.lt); have HG7 := Lib.hid (grownBy_trans HG6.out (grownBy_of_below (some g) hb7))
      have HT7 := Lib.hid (ht7.keep (w' := w7) (S' := from_ (w.heap.size + 1)) fun b hb _ => ⟨by have := of_decide_eq_true hb; have := HB6.out.lt; exact decide_eq_true (by omega), rfl⟩)
      clear x0 x1 x2 bx6 ht7 hb7
      obtain ⟨x0, x1, x2⟩ := BX7.out.cells
      obtain ⟨f0, f1, f2⟩ := BX7.out.free
      go_wp2_with fail
      obtain ⟨d0, d1, d2⟩ := (box_set3 BX7.out (.int .i64 tn.kind) (.string tn.name) (.slice A7 tn.kids.length C7)).cells
      refine bodyPost_ret (v := .agg #[.int .i64 tn.kind, .string tn.name, .slice A7 tn.kids.length C7]) (by simp [results, Tryz.results17, go_sem, d0, d1, d2]) rfl ?_
      exact made_ends HG7.out HGL.out HD7.out HNM.out HT7.out _ _ _
    · by_cases hv3 : v = 3
      · subst hv3
        go_wp2_with fail
        refine (IH.out _ HD3.out).mono ?_; rintro e w4 ⟨t, A4, C4, hm, rfl, hti, hd4, hg4⟩
        have HMa := Lib.hid hm.1; have HTIa := Lib.hid hti; have HD4a := Lib.hid hd4; have HG4a := Lib.hid hg4
        have HBT4a := Lib.hid (BT.out.grown hg4 (fun e => by have e' := Option.some.inj e; have := HGL.out; have := HZ2.out; omega))
        clear hm hti hd4 hg4
        go_wp2_with fail
        refine (IH.out _ HD4a.out).mono ?_; rintro e wq ⟨t', Aq, Cq, hm, rfl, hti, hd4, hg4⟩
        have HMb := Lib.hid hm.1; have HTIb := Lib.hid hti; have HD4 := Lib.hid hd4; have HG4 := Lib.hid (grownBy_trans HG4a.out hg4)
        have HSZa := Lib.hid HG4a.out.size
        have HTIc := Lib.hid (HTIa.out.keep (w' := wq) (S' := from_ w3.heap.size) fun b hb hl => ⟨hb, hg4.block b hl (fun e => by have e' : b = g := Option.some.inj e; have := of_decide_eq_true hb; have := HZ3.out; have := HZ2.out; have := HGL.out; omega)⟩)
        have HBT4 := Lib.hid (HBT4a.out.grown hg4 (fun e => by have e' := Option.some.inj e; have := HGL.out; have := HZ2.out; omega))
        have HSZq := Lib.hid hg4.size
        clear hm hti hd4 hg4
        have hw5 := below_alloc1 wq (.cells #[.int .i64 t.kind, .string t.name, .slice A4 t.kids.length C4, .int .i64 t'.kind, .string t'.name, .slice Aq t'.kids.length Cq] 29)
        have hz5 := size_alloc1 wq (.cells #[.int .i64 t.kind, .string t.name, .slice A4 t.kids.length C4, .int .i64 t'.kind, .string t'.name, .slice Aq t'.kids.length Cq] 29)
        have hrow := heap_alloc_new wq (.cells #[.int .i64 t.kind, .string t.name, .slice A4 t.kids.length C4, .int .i64 t'.kind, .string t'.name, .slice Aq t'.kids.length Cq] 29)
        have BT5 := HBT4.out.later hw5
        obtain ⟨x0, x1, x2⟩ := BT5.cells
        obtain ⟨f0, f1, f2⟩ := BT5.free
        go_upto_region 20 with fail
        generalize wq.alloc (.cells #[.int .i64 t.kind, .string t.name, .slice A4 t.kids.length C4, .int .i64 t'.kind, .string t'.name, .slice Aq t'.kids.length Cq] 29) = w5 at hw5 hz5 hrow BT5 x0 x1 x2 f0 f1 f2 ⊢
        have hl3 := HZ3.out
        have hl2 := HZ2.out
        have hl4 := HG4.out.size
        have hl5 := HSZa.out
        have hl6 := HSZq.out
        have hset := fun b hb => set3_other w5 w2.heap.size (.int .i64 3) (.string ⟨#[]⟩) (.slice (some ⟨wq.heap.size, 0, none⟩) 2 2) b hb
        have bx6 := box_set3 BT5 (.int .i64 3) (.string ⟨#[]⟩) (.slice (some ⟨wq.heap.size, 0, none⟩) 2 2)
        have hd6 := (HD4.out.below hw5 HD4.out.lt).other (h := w2.heap.size) (by have := HGL.out; omega) (by have := HD4.out.1; have := HGL.out; omega) (.int .i64 3) (.string ⟨#[]⟩) (.slice (some ⟨wq.heap.size, 0, none⟩) 2 2)
        have hg5 : w.grownBy w5 (some g) := grownBy_trans (grownBy_trans HG3.out HG4.out) (grownBy_of_below (some g) hw5)
        have hb6 := below_set3 w5 w2.heap.size (.int .i64 3) (.string ⟨#[]⟩) (.slice (some ⟨wq.heap.size, 0, none⟩) 2 2)
        generalize ((w5.setCell ⟨w2.heap.size, 0, none⟩ (.int .i64 3)).setCell ⟨w2.heap.size, 1, none⟩ (.string ⟨#[]⟩)).setCell ⟨w2.heap.size, 2, none⟩ (.slice (some ⟨wq.heap.size, 0, none⟩) 2 2) = w6 at hset bx6 hd6 hb6 ⊢
        have hg6 : w.grownBy w6 (some g) := ⟨hb6.os.trans hg5.os, hb6.tape.trans hg5.tape, hb6.output.trans hg5.output, Nat.le_trans hg5.size hb6.size, fun i hi hn => (hb6.block i (by omega)).trans (hg5.block i hi hn)⟩
        have hrow6 := (hset wq.heap.size (by omega)).trans hrow
        have hkid : TermIn (but (w.heap.size + 1) (some wq.heap.size)) w6 (.agg #[.int .i64 t.kind, .string t.name, .slice A4 t.kids.length C4]) t := HTIc.out.keep fun b hb hl =>
          ⟨but_iff.2 ⟨by have := of_decide_eq_true hb; omega, fun e => by have e' : wq.heap.size = b := Option.some.inj e; omega⟩, (hset b (by have := of_decide_eq_true hb; omega)).trans (hw5.block b hl)⟩
        have hkid2 : TermIn (but (w.heap.size + 1) (some wq.heap.size)) w6 (.agg #[.int .i64 t'.kind, .string t'.name, .slice Aq t'.kids.length Cq]) t' := HTIb.out.keep fun b hb hl =>
          ⟨but_iff.2 ⟨by have := of_decide_eq_true hb; omega, fun e => by have e' : wq.heap.size = b := Option.some.inj e; omega⟩, (hset b (by have := of_decide_eq_true hb; omega)).trans (hw5.block b hl)⟩
        have hT : TermIn (from_ (w.heap.size + 1)) w6 (.agg #[.int .i64 3, .string ⟨#[]⟩, .slice (some ⟨wq.heap.size, 0, none⟩) 2 2]) (.mk 3 ⟨#[]⟩ [t, t']) :=
          TermsRow.term (L := [t, t']) (.inr ⟨wq.heap.size, 2, rfl, _, hrow6, rfl, by simp, by unfold maxLen; omega, by omega, fun i hi => by (have e : i = 0 ∨ i = 1 := (by have : i < 2 := hi; omega)); rcases e with rfl | rfl; exact ⟨_, _, _, rfl, rfl, rfl, hkid⟩; exact ⟨_, _, _, rfl, rfl, rfl, hkid2⟩⟩) 3 ⟨#[]⟩ (by decide) (by decide)
        have hm6 := T.made_two hD 3 (by decide) HMa.out HMb.out
        have HB5 := (HB3.out.grown HG4.out (fun e => by have e' := Option.some.inj e; have := HGL.out; omega)).later hw5
        have HB6 := Lib.hid (show Box w6 w.heap.size (.int .i64 0) (.string ⟨#[]⟩) (.slice none 0 0) from (hset w.heap.size (by omega)).trans HB5)
        have HT6 := Lib.hid hT; have HM6 := Lib.hid hm6; have HD6 := Lib.hid hd6; have HG6 := Lib.hid hg6; have HVAL := Lib.hid (hm6.valid hD4); have HBK := Lib.hid (show (T.mk 3 ⟨#[]⟩ [t, t']).bulk ≤ 1048576 by have := hm6.bulk hD4; omega)
        clear x0 x1 x2 f0 f1 f2 hT hm6 hd6 hg6 hg5 hb6 hkid hkid2 hrow6 hrow hset BT5 hw5 hz5 HB5
        obtain ⟨x0, x1, x2⟩ := bx6.cells
        have hrn := fun W h => rnormal (.mk 3 ⟨#[]⟩ [t, t']) (.agg #[.int .i64 3, .string ⟨#[]⟩, .slice (some ⟨wq.heap.size, 0, none⟩) 2 2]) W h HBK.out
        rw [if_pos HVAL.out] at hrn
        have hnm := HM6.out.norm
        generalize (T.mk 3 ⟨#[]⟩ [t, t']).norm = tn at hrn hnm
        have HRN := Lib.hid hrn; have HNM := Lib.hid hnm
        clear hrn hnm
        go_wp2_with fail
        refine (HRN.out _ HT6.out.at).mono ?_; rintro e w7 ⟨A7, C7, rfl, ht7, hb7⟩
        have BX7 := Lib.hid (HB6.out.later hb7)
        have HD7 := Lib.hid (HD6.out.below hb7 HD6.out.lt); have HG7 := Lib.hid (grownBy_trans HG6.out (grownBy_of_below (some g) hb7))
        have HT7 := Lib.hid (ht7.keep (w' := w7) (S' := from_ (w.heap.size + 1)) fun b hb _ => ⟨by have := of_decide_eq_true hb; have := HB6.out.lt; exact decide_eq_true (by omega), rfl⟩)
        clear x0 x1 x2 bx6 ht7 hb7
        obtain ⟨x0, x1, x2⟩ := BX7.out.cells
        obtain ⟨f0, f1, f2⟩ := BX7.out.free
        go_wp2_with fail
        obtain ⟨d0, d1, d2⟩ := (box_set3 BX7.out (.int .i64 tn.kind) (.string tn.name) (.slice A7 tn.kids.length C7)).cells
        refine bodyPost_ret (v := .agg #[.int .i64 tn.kind, .string tn.name, .slice A7 tn.kids.length C7]) (by simp [results, Tryz.results17, go_sem, d0, d1, d2]) rfl ?_
        exact made_ends HG7.out HGL.out HD7.out HNM.out HT7.out _ _ _
      · by_cases hv2 : v = 2
        · subst hv2
          go_wp2_with fail
          refine (IH.out _ HD3.out).mono ?_; rintro e w4 ⟨t, A4, C4, hm, rfl, hti, hd4, hg4⟩
          have HMa := Lib.hid hm.1; have HTIa := Lib.hid hti; have HD4a := Lib.hid hd4; have HG4a := Lib.hid hg4
          have HBT4a := Lib.hid (BT.out.grown hg4 (fun e => by have e' := Option.some.inj e; have := HGL.out; have := HZ2.out; omega))
          clear hm hti hd4 hg4
          go_wp2_with fail
          refine (IH.out _ HD4a.out).mono ?_; rintro e wq ⟨t', Aq, Cq, hm, rfl, hti, hd4, hg4⟩
          have HMb := Lib.hid hm.1; have HTIb := Lib.hid hti; have HD4 := Lib.hid hd4; have HG4 := Lib.hid (grownBy_trans HG4a.out hg4)
          have HSZa := Lib.hid HG4a.out.size
          have HTIc := Lib.hid (HTIa.out.keep (w' := wq) (S' := from_ w3.heap.size) fun b hb hl => ⟨hb, hg4.block b hl (fun e => by have e' : b = g := Option.some.inj e; have := of_decide_eq_true hb; have := HZ3.out; have := HZ2.out; have := HGL.out; omega)⟩)
          have HBT4 := Lib.hid (HBT4a.out.grown hg4 (fun e => by have e' := Option.some.inj e; have := HGL.out; have := HZ2.out; omega))
          have HSZq := Lib.hid hg4.size
          clear hm hti hd4 hg4
          have hw5 := below_alloc1 wq (.cells #[.int .i64 t.kind, .string t.name, .slice A4 t.kids.length C4, .int .i64 t'.kind, .string t'.name, .slice Aq t'.kids.length Cq] 29)
          have hz5 := size_alloc1 wq (.cells #[.int .i64 t.kind, .string t.name, .slice A4 t.kids.length C4, .int .i64 t'.kind, .string t'.name, .slice Aq t'.kids.length Cq] 29)
          have hrow := heap_alloc_new wq (.cells #[.int .i64 t.kind, .string t.name, .slice A4 t.kids.length C4, .int .i64 t'.kind, .string t'.name, .slice Aq t'.kids.length Cq] 29)
          have BT5 := HBT4.out.later hw5
          obtain ⟨x0, x1, x2⟩ := BT5.cells
          obtain ⟨f0, f1, f2⟩ := BT5.free
          go_upto_region 20 with fail
          generalize wq.alloc (.cells #[.int .i64 t.kind, .string t.name, .slice A4 t.kids.length C4, .int .i64 t'.kind, .string t'.name, .slice Aq t'.kids.length Cq] 29) = w5 at hw5 hz5 hrow BT5 x0 x1 x2 f0 f1 f2 ⊢
          have hl3 := HZ3.out
          have hl2 := HZ2.out
          have hl4 := HG4.out.size
          have hl5 := HSZa.out
          have hl6 := HSZq.out
          have hset := fun b hb => set3_other w5 w2.heap.size (.int .i64 3) (.string ⟨#[]⟩) (.slice (some ⟨wq.heap.size, 0, none⟩) 2 2) b hb
          have bx6 := box_set3 BT5 (.int .i64 3) (.string ⟨#[]⟩) (.slice (some ⟨wq.heap.size, 0, none⟩) 2 2)
          have hd6 := (HD4.out.below hw5 HD4.out.lt).other (h := w2.heap.size) (by have := HGL.out; omega) (by have := HD4.out.1; have := HGL.out; omega) (.int .i64 3) (.string ⟨#[]⟩) (.slice (some ⟨wq.heap.size, 0, none⟩) 2 2)
          have hg5 : w.grownBy w5 (some g) := grownBy_trans (grownBy_trans HG3.out HG4.out) (grownBy_of_below (some g) hw5)
          have hb6 := below_set3 w5 w2.heap.size (.int .i64 3) (.string ⟨#[]⟩) (.slice (some ⟨wq.heap.size, 0, none⟩) 2 2)
          generalize ((w5.setCell ⟨w2.heap.size, 0, none⟩ (.int .i64 3)).setCell ⟨w2.heap.size, 1, none⟩ (.string ⟨#[]⟩)).setCell ⟨w2.heap.size, 2, none⟩ (.slice (some ⟨wq.heap.size, 0, none⟩) 2 2) = w6 at hset bx6 hd6 hb6 ⊢
          have hg6 : w.grownBy w6 (some g) := ⟨hb6.os.trans hg5.os, hb6.tape.trans hg5.tape, hb6.output.trans hg5.output, Nat.le_trans hg5.size hb6.size, fun i hi hn => (hb6.block i (by omega)).trans (hg5.block i hi hn)⟩
          have hrow6 := (hset wq.heap.size (by omega)).trans hrow
          have hkid : TermIn (but (w.heap.size + 1) (some wq.heap.size)) w6 (.agg #[.int .i64 t.kind, .string t.name, .slice A4 t.kids.length C4]) t := HTIc.out.keep fun b hb hl =>
            ⟨but_iff.2 ⟨by have := of_decide_eq_true hb; omega, fun e => by have e' : wq.heap.size = b := Option.some.inj e; omega⟩, (hset b (by have := of_decide_eq_true hb; omega)).trans (hw5.block b hl)⟩
          have hkid2 : TermIn (but (w.heap.size + 1) (some wq.heap.size)) w6 (.agg #[.int .i64 t'.kind, .string t'.name, .slice Aq t'.kids.length Cq]) t' := HTIb.out.keep fun b hb hl =>
            ⟨but_iff.2 ⟨by have := of_decide_eq_true hb; omega, fun e => by have e' : wq.heap.size = b := Option.some.inj e; omega⟩, (hset b (by have := of_decide_eq_true hb; omega)).trans (hw5.block b hl)⟩
          have hT : TermIn (from_ (w.heap.size + 1)) w6 (.agg #[.int .i64 3, .string ⟨#[]⟩, .slice (some ⟨wq.heap.size, 0, none⟩) 2 2]) (.mk 3 ⟨#[]⟩ [t, t']) :=
            TermsRow.term (L := [t, t']) (.inr ⟨wq.heap.size, 2, rfl, _, hrow6, rfl, by simp, by unfold maxLen; omega, by omega, fun i hi => by (have e : i = 0 ∨ i = 1 := (by have : i < 2 := hi; omega)); rcases e with rfl | rfl; exact ⟨_, _, _, rfl, rfl, rfl, hkid⟩; exact ⟨_, _, _, rfl, rfl, rfl, hkid2⟩⟩) 3 ⟨#[]⟩ (by decide) (by decide)
          have hm6 := T.made_two hD 3 (by decide) HMa.out HMb.out
          have HB5 := (HB3.out.grown HG4.out (fun e => by have e' := Option.some.inj e; have := HGL.out; omega)).later hw5
          have HB6 := Lib.hid (show Box w6 w.heap.size (.int .i64 0) (.string ⟨#[]⟩) (.slice none 0 0) from (hset w.heap.size (by omega)).trans HB5)
          have HT6 := Lib.hid hT; have HM6 := Lib.hid hm6; have HD6 := Lib.hid hd6; have HG6 := Lib.hid hg6; have HVAL := Lib.hid (hm6.valid hD4); have HBK := Lib.hid (show (T.mk 3 ⟨#[]⟩ [t, t']).bulk ≤ 1048576 by have := hm6.bulk hD4; omega)
          clear x0 x1 x2 f0 f1 f2 hT hm6 hd6 hg6 hg5 hb6 hkid hkid2 hrow6 hrow hset BT5 hw5 hz5 HB5
          obtain ⟨x0, x1, x2⟩ := bx6.cells
          have hrn := fun W h => rnormal (.mk 3 ⟨#[]⟩ [t, t']) (.agg #[.int .i64 3, .string ⟨#[]⟩, .slice (some ⟨wq.heap.size, 0, none⟩) 2 2]) W h HBK.out
          rw [if_pos HVAL.out] at hrn
          have hnm := HM6.out.norm
          generalize (T.mk 3 ⟨#[]⟩ [t, t']).norm = tn at hrn hnm
          have HRN := Lib.hid hrn; have HNM := Lib.hid hnm
          clear hrn hnm
          go_wp2_with fail
          refine (HRN.out _ HT6.out.at).mono ?_; rintro e w7 ⟨A7, C7, rfl, ht7, hb7⟩
          have BX7 := Lib.hid (HB6.out.later hb7)
          have HD7 := Lib.hid (HD6.out.below hb7 HD6.out.lt); have HG7 := Lib.hid (grownBy_trans HG6.out (grownBy_of_below (some g) hb7))
          have HT7 := Lib.hid (ht7.keep (w' := w7) (S' := from_ (w.heap.size + 1)) fun b hb _ => ⟨by have := of_decide_eq_true hb; have := HB6.out.lt; exact decide_eq_true (by omega), rfl⟩)
          clear x0 x1 x2 bx6 ht7 hb7
          obtain ⟨x0, x1, x2⟩ := BX7.out.cells
          obtain ⟨f0, f1, f2⟩ := BX7.out.free
          go_wp2_with fail
          obtain ⟨d0, d1, d2⟩ := (box_set3 BX7.out (.int .i64 tn.kind) (.string tn.name) (.slice A7 tn.kids.length C7)).cells
          refine bodyPost_ret (v := .agg #[.int .i64 tn.kind, .string tn.name, .slice A7 tn.kids.length C7]) (by simp [results, Tryz.results17, go_sem, d0, d1, d2]) rfl ?_
          exact made_ends HG7.out HGL.out HD7.out HNM.out HT7.out _ _ _
        · by_cases hv5 : v = 5
          · subst hv5
            go_wp2_with fail
            refine (IH.out _ HD3.out).mono ?_; rintro e w4 ⟨t, A4, C4, hm, rfl, hti, hd4, hg4⟩
            have HMa := Lib.hid hm.1; have HTIa := Lib.hid hti; have HD4a := Lib.hid hd4; have HG4a := Lib.hid hg4
            have HBT4a := Lib.hid (BT.out.grown hg4 (fun e => by have e' := Option.some.inj e; have := HGL.out; have := HZ2.out; omega))
            clear hm hti hd4 hg4
            go_wp2_with fail
            refine (IH.out _ HD4a.out).mono ?_; rintro e wq ⟨t', Aq, Cq, hm, rfl, hti, hd4, hg4⟩
            have HMb := Lib.hid hm.1; have HTIb := Lib.hid hti; have HD4 := Lib.hid hd4; have HG4 := Lib.hid (grownBy_trans HG4a.out hg4)
            have HSZa := Lib.hid HG4a.out.size
            have HTIc := Lib.hid (HTIa.out.keep (w' := wq) (S' := from_ w3.heap.size) fun b hb hl => ⟨hb, hg4.block b hl (fun e => by have e' : b = g := Option.some.inj e; have := of_decide_eq_true hb; have := HZ3.out; have := HZ2.out; have := HGL.out; omega)⟩)
            have HBT4 := Lib.hid (HBT4a.out.grown hg4 (fun e => by have e' := Option.some.inj e; have := HGL.out; have := HZ2.out; omega))
            have HSZq := Lib.hid hg4.size
            clear hm hti hd4 hg4
            have hw5 := below_alloc1 wq (.cells #[.int .i64 t.kind, .string t.name, .slice A4 t.kids.length C4, .int .i64 t'.kind, .string t'.name, .slice Aq t'.kids.length Cq] 29)
            have hz5 := size_alloc1 wq (.cells #[.int .i64 t.kind, .string t.name, .slice A4 t.kids.length C4, .int .i64 t'.kind, .string t'.name, .slice Aq t'.kids.length Cq] 29)
            have hrow := heap_alloc_new wq (.cells #[.int .i64 t.kind, .string t.name, .slice A4 t.kids.length C4, .int .i64 t'.kind, .string t'.name, .slice Aq t'.kids.length Cq] 29)
            have BT5 := HBT4.out.later hw5
            obtain ⟨x0, x1, x2⟩ := BT5.cells
            obtain ⟨f0, f1, f2⟩ := BT5.free
            go_upto_region 20 with fail
            generalize wq.alloc (.cells #[.int .i64 t.kind, .string t.name, .slice A4 t.kids.length C4, .int .i64 t'.kind, .string t'.name, .slice Aq t'.kids.length Cq] 29) = w5 at hw5 hz5 hrow BT5 x0 x1 x2 f0 f1 f2 ⊢
            have hl3 := HZ3.out
            have hl2 := HZ2.out
            have hl4 := HG4.out.size
            have hl5 := HSZa.out
            have hl6 := HSZq.out
            have hset := fun b hb => set3_other w5 w2.heap.size (.int .i64 5) (.string ⟨#[]⟩) (.slice (some ⟨wq.heap.size, 0, none⟩) 2 2) b hb
            have bx6 := box_set3 BT5 (.int .i64 5) (.string ⟨#[]⟩) (.slice (some ⟨wq.heap.size, 0, none⟩) 2 2)
            have hd6 := (HD4.out.below hw5 HD4.out.lt).other (h := w2.heap.size) (by have := HGL.out; omega) (by have := HD4.out.1; have := HGL.out; omega) (.int .i64 5) (.string ⟨#[]⟩) (.slice (some ⟨wq.heap.size, 0, none⟩) 2 2)
            have hg5 : w.grownBy w5 (some g) := grownBy_trans (grownBy_trans HG3.out HG4.out) (grownBy_of_below (some g) hw5)
            have hb6 := below_set3 w5 w2.heap.size (.int .i64 5) (.string ⟨#[]⟩) (.slice (some ⟨wq.heap.size, 0, none⟩) 2 2)
            generalize ((w5.setCell ⟨w2.heap.size, 0, none⟩ (.int .i64 5)).setCell ⟨w2.heap.size, 1, none⟩ (.string ⟨#[]⟩)).setCell ⟨w2.heap.size, 2, none⟩ (.slice (some ⟨wq.heap.size, 0, none⟩) 2 2) = w6 at hset bx6 hd6 hb6 ⊢
            have hg6 : w.grownBy w6 (some g) := ⟨hb6.os.trans hg5.os, hb6.tape.trans hg5.tape, hb6.output.trans hg5.output, Nat.le_trans hg5.size hb6.size, fun i hi hn => (hb6.block i (by omega)).trans (hg5.block i hi hn)⟩
            have hrow6 := (hset wq.heap.size (by omega)).trans hrow
            have hkid : TermIn (but (w.heap.size + 1) (some wq.heap.size)) w6 (.agg #[.int .i64 t.kind, .string t.name, .slice A4 t.kids.length C4]) t := HTIc.out.keep fun b hb hl =>
              ⟨but_iff.2 ⟨by have := of_decide_eq_true hb; omega, fun e => by have e' : wq.heap.size = b := Option.some.inj e; omega⟩, (hset b (by have := of_decide_eq_true hb; omega)).trans (hw5.block b hl)⟩
            have hkid2 : TermIn (but (w.heap.size + 1) (some wq.heap.size)) w6 (.agg #[.int .i64 t'.kind, .string t'.name, .slice Aq t'.kids.length Cq]) t' := HTIb.out.keep fun b hb hl =>
              ⟨but_iff.2 ⟨by have := of_decide_eq_true hb; omega, fun e => by have e' : wq.heap.size = b := Option.some.inj e; omega⟩, (hset b (by have := of_decide_eq_true hb; omega)).trans (hw5.block b hl)⟩
            have hT : TermIn (from_ (w.heap.size + 1)) w6 (.agg #[.int .i64 5, .string ⟨#[]⟩, .slice (some ⟨wq.heap.size, 0, none⟩) 2 2]) (.mk 5 ⟨#[]⟩ [t, t']) :=
              TermsRow.term (L := [t, t']) (.inr ⟨wq.heap.size, 2, rfl, _, hrow6, rfl, by simp, by unfold maxLen; omega, by omega, fun i hi => by (have e : i = 0 ∨ i = 1 := (by have : i < 2 := hi; omega)); rcases e with rfl | rfl; exact ⟨_, _, _, rfl, rfl, rfl, hkid⟩; exact ⟨_, _, _, rfl, rfl, rfl, hkid2⟩⟩) 5 ⟨#[]⟩ (by decide) (by decide)
            have hm6 := T.made_two hD 5 (by decide) HMa.out HMb.out
            have HB5 := (HB3.out.grown HG4.out (fun e => by have e' := Option.some.inj e; have := HGL.out; omega)).later hw5
            have HB6 := Lib.hid (show Box w6 w.heap.size (.int .i64 0) (.string ⟨#[]⟩) (.slice none 0 0) from (hset w.heap.size (by omega)).trans HB5)
            have HT6 := Lib.hid hT; have HM6 := Lib.hid hm6; have HD6 := Lib.hid hd6; have HG6 := Lib.hid hg6; have HVAL := Lib.hid (hm6.valid hD4); have HBK := Lib.hid (show (T.mk 5 ⟨#[]⟩ [t, t']).bulk ≤ 1048576 by have := hm6.bulk hD4; omega)
            clear x0 x1 x2 f0 f1 f2 hT hm6 hd6 hg6 hg5 hb6 hkid hkid2 hrow6 hrow hset BT5 hw5 hz5 HB5
            obtain ⟨x0, x1, x2⟩ := bx6.cells
            have hrn := fun W h => rnormal (.mk 5 ⟨#[]⟩ [t, t']) (.agg #[.int .i64 5, .string ⟨#[]⟩, .slice (some ⟨wq.heap.size, 0, none⟩) 2 2]) W h HBK.out
            rw [if_pos HVAL.out] at hrn
            have hnm := HM6.out.norm
            generalize (T.mk 5 ⟨#[]⟩ [t, t']).norm = tn at hrn hnm
            have HRN := Lib.hid hrn; have HNM := Lib.hid hnm
            clear hrn hnm
            go_wp2_with fail
            refine (HRN.out _ HT6.out.at).mono ?_; rintro e w7 ⟨A7, C7, rfl, ht7, hb7⟩
            have BX7 := Lib.hid (HB6.out.later hb7)
            have HD7 := Lib.hid (HD6.out.below hb7 HD6.out.lt); have HG7 := Lib.hid (grownBy_trans HG6.out (grownBy_of_below (some g) hb7))
            have HT7 := Lib.hid (ht7.keep (w' := w7) (S' := from_ (w.heap.size + 1)) fun b hb _ => ⟨by have := of_decide_eq_true hb; have := HB6.out.lt; exact decide_eq_true (by omega), rfl⟩)
            clear x0 x1 x2 bx6 ht7 hb7
            obtain ⟨x0, x1, x2⟩ := BX7.out.cells
            obtain ⟨f0, f1, f2⟩ := BX7.out.free
            go_wp2_with fail
            obtain ⟨d0, d1, d2⟩ := (box_set3 BX7.out (.int .i64 tn.kind) (.string tn.name) (.slice A7 tn.kids.length C7)).cells
            refine bodyPost_ret (v := .agg #[.int .i64 tn.kind, .string tn.name, .slice A7 tn.kids.length C7]) (by simp [results, Tryz.results17, go_sem, d0, d1, d2]) rfl ?_
            exact made_ends HG7.out HGL.out HD7.out HNM.out HT7.out _ _ _
          · by_cases hv6 : v = 6
            · subst hv6
              go_wp2_with fail
              refine (made_atom B g _ _ HD3.out).mono ?_; rintro e w4 ⟨ak, anm, hka, rfl, hd4, hg4⟩
              have HKA := Lib.hid hka
              obtain ⟨t, ht⟩ : ∃ t : T, t = .mk ak anm [] := ⟨_, rfl⟩
              have HTE := Lib.hid ht
              have HMa := Lib.hid (show T.made0 vars t.kind t.name = true ∧ t = .mk t.kind t.name [] by subst ht; exact ⟨hka, rfl⟩)
              have HTIa := Lib.hid (show TermIn (from_ w3.heap.size) w4 (.agg #[.int .i64 ak, .string anm, .slice none 0 0]) t by subst ht; exact atom_in _ _ ak anm (by have := (T.made0_facts hka).1; omega) (by have := (T.made0_facts hka).2.2; unfold maxLen; omega))
              have HD4a := Lib.hid hd4; have HG4a := Lib.hid hg4
              have HBT4a := Lib.hid (BT.out.grown hg4 (fun e => by have e' := Option.some.inj e; have := HGL.out; have := HZ2.out; omega))
              clear hd4 hg4 hka ht
              go_wp2_with fail
              refine (IH.out _ HD4a.out).mono ?_; rintro e wq ⟨t', Aq, Cq, hm, rfl, hti, hd4, hg4⟩
              have HMb := Lib.hid hm.1; have HTIb := Lib.hid hti; have HD4 := Lib.hid hd4; have HG4 := Lib.hid (grownBy_trans HG4a.out hg4)
              have HSZa := Lib.hid HG4a.out.size
              have HTIc := Lib.hid (HTIa.out.keep (w' := wq) (S' := from_ w3.heap.size) fun b hb hl => ⟨hb, hg4.block b hl (fun e => by have e' : b = g := Option.some.inj e; have := of_decide_eq_true hb; have := HZ3.out; have := HZ2.out; have := HGL.out; omega)⟩)
              have HBT4 := Lib.hid (HBT4a.out.grown hg4 (fun e => by have e' := Option.some.inj e; have := HGL.out; have := HZ2.out; omega))
              have HSZq := Lib.hid hg4.size
              clear hm hti hd4 hg4
              have hw5 := below_alloc1 wq (.cells #[.int .i64 ak, .string anm, .slice none 0 0, .int .i64 t'.kind, .string t'.name, .slice Aq t'.kids.length Cq] 29)
              have hz5 := size_alloc1 wq (.cells #[.int .i64 ak, .string anm, .slice none 0 0, .int .i64 t'.kind, .string t'.name, .slice Aq t'.kids.length Cq] 29)
              have hrow := heap_alloc_new wq (.cells #[.int .i64 ak, .string anm, .slice none 0 0, .int .i64 t'.kind, .string t'.name, .slice Aq t'.kids.length Cq] 29)
              have BT5 := HBT4.out.later hw5
              obtain ⟨x0, x1, x2⟩ := BT5.cells
              obtain ⟨f0, f1, f2⟩ := BT5.free
              go_upto_region 20 with fail
              generalize wq.alloc (.cells #[.int .i64 ak, .string anm, .slice none 0 0, .int .i64 t'.kind, .string t'.name, .slice Aq t'.kids.length Cq] 29) = w5 at hw5 hz5 hrow BT5 x0 x1 x2 f0 f1 f2 ⊢
              have hl3 := HZ3.out
              have hl2 := HZ2.out
              have hl4 := HG4.out.size
              have hl5 := HSZa.out
              have hl6 := HSZq.out
              have hset := fun b hb => set3_other w5 w2.heap.size (.int .i64 6) (.string ⟨#[]⟩) (.slice (some ⟨wq.heap.size, 0, none⟩) 2 2) b hb
              have bx6 := box_set3 BT5 (.int .i64 6) (.string ⟨#[]⟩) (.slice (some ⟨wq.heap.size, 0, none⟩) 2 2)
              have hd6 := (HD4.out.below hw5 HD4.out.lt).other (h := w2.heap.size) (by have := HGL.out; omega) (by have := HD4.out.1; have := HGL.out; omega) (.int .i64 6) (.string ⟨#[]⟩) (.slice (some ⟨wq.heap.size, 0, none⟩) 2 2)
              have hg5 : w.grownBy w5 (some g) := grownBy_trans (grownBy_trans HG3.out HG4.out) (grownBy_of_below (some g) hw5)
              have hb6 := below_set3 w5 w2.heap.size (.int .i64 6) (.string ⟨#[]⟩) (.slice (some ⟨wq.heap.size, 0, none⟩) 2 2)
              generalize ((w5.setCell ⟨w2.heap.size, 0, none⟩ (.int .i64 6)).setCell ⟨w2.heap.size, 1, none⟩ (.string ⟨#[]⟩)).setCell ⟨w2.heap.size, 2, none⟩ (.slice (some ⟨wq.heap.size, 0, none⟩) 2 2) = w6 at hset bx6 hd6 hb6 ⊢
              have hg6 : w.grownBy w6 (some g) := ⟨hb6.os.trans hg5.os, hb6.tape.trans hg5.tape, hb6.output.trans hg5.output, Nat.le_trans hg5.size hb6.size, fun i hi hn => (hb6.block i (by omega)).trans (hg5.block i hi hn)⟩
              have hrow6 := (hset wq.heap.size (by omega)).trans hrow
              have hkid : TermIn (but (w.heap.size + 1) (some wq.heap.size)) w6 (.agg #[.int .i64 ak, .string anm, .slice none 0 0]) t := HTIc.out.keep fun b hb hl =>
                ⟨but_iff.2 ⟨by have := of_decide_eq_true hb; omega, fun e => by have e' : wq.heap.size = b := Option.some.inj e; omega⟩, (hset b (by have := of_decide_eq_true hb; omega)).trans (hw5.block b hl)⟩
              have hkid2 : TermIn (but (w.heap.size + 1) (some wq.heap.size)) w6 (.agg #[.int .i64 t'.kind, .string t'.name, .slice Aq t'.kids.length Cq]) t' := HTIb.out.keep fun b hb hl =>
                ⟨but_iff.2 ⟨by have := of_decide_eq_true hb; omega, fun e => by have e' : wq.heap.size = b := Option.some.inj e; omega⟩, (hset b (by have := of_decide_eq_true hb; omega)).trans (hw5.block b hl)⟩
              have hT : TermIn (from_ (w.heap.size + 1)) w6 (.agg #[.int .i64 6, .string ⟨#[]⟩, .slice (some ⟨wq.heap.size, 0, none⟩) 2 2]) (.mk 6 ⟨#[]⟩ [t, t']) :=
                TermsRow.term (L := [t, t']) (.inr ⟨wq.heap.size, 2, rfl, _, hrow6, rfl, by simp, by unfold maxLen; omega, by omega, fun i hi => by (have e : i = 0 ∨ i = 1 := (by have : i < 2 := hi; omega)); rcases e with rfl | rfl; exact ⟨_, _, _, rfl, rfl, rfl, hkid⟩; exact ⟨_, _, _, rfl, rfl, rfl, hkid2⟩⟩) 6 ⟨#[]⟩ (by decide) (by decide)
              have hm6 := (show T.Made vars (D + 1) (.mk 6 ⟨#[]⟩ [t, t']) by rw [HTE.out]; exact T.made_sign hD HKA.out HMb.out)
              have HB5 := (HB3.out.grown HG4.out (fun e => by have e' := Option.some.inj e; have := HGL.out; omega)).later hw5
              have HB6 := Lib.hid (show Box w6 w.heap.size (.int .i64 0) (.string ⟨#[]⟩) (.slice none 0 0) from (hset w.heap.size (by omega)).trans HB5)
              have HT6 := Lib.hid hT; have HM6 := Lib.hid hm6; have HD6 := Lib.hid hd6; have HG6 := Lib.hid hg6; have HVAL := Lib.hid (hm6.valid hD4); have HBK := Lib.hid (show (T.mk 6 ⟨#[]⟩ [t, t']).bulk ≤ 1048576 by have := hm6.bulk hD4; omega)
              clear x0 x1 x2 f0 f1 f2 hT hm6 hd6 hg6 hg5 hb6 hkid hkid2 hrow6 hrow hset BT5 hw5 hz5 HB5
              obtain ⟨x0, x1, x2⟩ := bx6.cells
              have hrn := fun W h => rnormal (.mk 6 ⟨#[]⟩ [t, t']) (.agg #[.int .i64 6, .string ⟨#[]⟩, .slice (some ⟨wq.heap.size, 0, none⟩) 2 2]) W h HBK.out
              rw [if_pos HVAL.out] at hrn
              have hnm := HM6.out.norm
              generalize (T.mk 6 ⟨#[]⟩ [t, t']).norm = tn at hrn hnm
              have HRN := Lib.hid hrn; have HNM := Lib.hid hnm
              clear hrn hnm
              go_wp2_with fail
              refine (HRN.out _ HT6.out.at).mono ?_; rintro e w7 ⟨A7, C7, rfl, ht7, hb7⟩
              have BX7 := Lib.hid (HB6.out.later hb7)
              have HD7 := Lib.hid (HD6.out.below hb7 HD6.out.lt); have HG7 := Lib.hid (grownBy_trans HG6.out (grownBy_of_below (some g) hb7))
              have HT7 := Lib.hid (ht7.keep (w' := w7) (S' := from_ (w.heap.size + 1)) fun b hb _ => ⟨by have := of_decide_eq_true hb; have := HB6.out.lt; exact decide_eq_true (by omega), rfl⟩)
              clear x0 x1 x2 bx6 ht7 hb7
              obtain ⟨x0, x1, x2⟩ := BX7.out.cells
              obtain ⟨f0, f1, f2⟩ := BX7.out.free
              go_wp2_with fail
              obtain ⟨d0, d1, d2⟩ := (box_set3 BX7.out (.int .i64 tn.kind) (.string tn.name) (.slice A7 tn.kids.length C7)).cells
              refine bodyPost_ret (v := .agg #[.int .i64 tn.kind, .string tn.name, .slice A7 tn.kids.length C7]) (by simp [results, Tryz.results17, go_sem, d0, d1, d2]) rfl ?_
              exact made_ends HG7.out HGL.out HD7.out HNM.out HT7.out _ _ _
            · have hv7 : v = 7 := by omega
              subst hv7
              obtain ⟨i0, hi0, hz0, hz1, hz2⟩ := info_parts Tryz.infoT
              go_wp2_with fail
              refine (made_atom B g _ _ HD3.out).mono ?_; rintro e w4 ⟨ak, anm, hka, rfl, hd4, hg4⟩
              have HKA := Lib.hid hka; have HD4 := Lib.hid hd4; have HG4 := Lib.hid hg4
              have HBT4 := Lib.hid (BT.out.grown hg4 (fun e => by have e' := Option.some.inj e; have := HGL.out; have := HZ2.out; omega))
              clear hka hd4 hg4
              have hw5 := below_alloc1 w4 (.cells #[.int .i64 ak, .string anm, .slice none 0 0] 29)
              have hz5 := size_alloc1 w4 (.cells #[.int .i64 ak, .string anm, .slice none 0 0] 29)
              have hrow := heap_alloc_new w4 (.cells #[.int .i64 ak, .string anm, .slice none 0 0] 29)
              have BT5 := HBT4.out.later hw5
              obtain ⟨x0, x1, x2⟩ := BT5.cells
              obtain ⟨f0, f1, f2⟩ := BT5.free
              go_upto_region 7 with fail
              generalize w4.alloc (.cells #[.int .i64 ak, .string anm, .slice none 0 0] 29) = w5 at hw5 hz5 hrow BT5 x0 x1 x2 f0 f1 f2 ⊢
              have hl3 := HZ3.out
              have hl2 := HZ2.out
              have hl4 := HG4.out.size
              have hset := fun b hb => set3_other w5 w2.heap.size (.int .i64 7) (.string ⟨#[]⟩) (.slice (some ⟨w4.heap.size, 0, none⟩) 1 1) b hb
              have bx6 := box_set3 BT5 (.int .i64 7) (.string ⟨#[]⟩) (.slice (some ⟨w4.heap.size, 0, none⟩) 1 1)
              have hd6 := (HD4.out.below hw5 HD4.out.lt).other (h := w2.heap.size) (by have := HGL.out; omega) (by have := HD4.out.1; have := HGL.out; omega) (.int .i64 7) (.string ⟨#[]⟩) (.slice (some ⟨w4.heap.size, 0, none⟩) 1 1)
              have hg5 : w.grownBy w5 (some g) := grownBy_trans (grownBy_trans HG3.out HG4.out) (grownBy_of_below (some g) hw5)
              have hb6 := below_set3 w5 w2.heap.size (.int .i64 7) (.string ⟨#[]⟩) (.slice (some ⟨w4.heap.size, 0, none⟩) 1 1)
              generalize ((w5.setCell ⟨w2.heap.size, 0, none⟩ (.int .i64 7)).setCell ⟨w2.heap.size, 1, none⟩ (.string ⟨#[]⟩)).setCell ⟨w2.heap.size, 2, none⟩ (.slice (some ⟨w4.heap.size, 0, none⟩) 1 1) = w6 at hset bx6 hd6 hb6 ⊢
              have hg6 : w.grownBy w6 (some g) := ⟨hb6.os.trans hg5.os, hb6.tape.trans hg5.tape, hb6.output.trans hg5.output, Nat.le_trans hg5.size hb6.size, fun i hi hn => (hb6.block i (by omega)).trans (hg5.block i hi hn)⟩
              have hrow6 := (hset w4.heap.size (by omega)).trans hrow
              have hkr := (T.made0_facts HKA.out)
              have hT : TermsRow w6 (w2.heap.size + 1) (.slice (some ⟨w4.heap.size, 0, none⟩) 1 1) [.mk ak anm []] :=
                .inr ⟨w4.heap.size, 1, rfl, _, hrow6, rfl, by simp, by unfold maxLen; omega, by omega, fun i hi => by have e : i = 0 := (by simpa using hi); subst e; exact ⟨_, _, _, rfl, rfl, rfl, atom_in _ _ ak anm (by have := hkr.1; omega) (by have := hkr.2.2; unfold maxLen; omega)⟩⟩
              have HB5 := (HB3.out.grown HG4.out (fun e => by have e' := Option.some.inj e; have := HGL.out; omega)).later hw5
              have HB6 : Box w6 w.heap.size (.int .i64 0) (.string ⟨#[]⟩) (.slice none 0 0) := (hset w.heap.size (by omega)).trans HB5
              have HP6 := Lib.hid (show PowAt w2.heap.size B g w [.mk ak anm []] w6 from ⟨_, bx6, HB6, hT, hd6, hg6⟩)
              have HD6 := Lib.hid hd6
              have HC := Lib.hid (show w.heap.size < w2.heap.size by omega)
              clear x0 x1 x2 f0 f1 f2 hT hd6 hg6 hg5 hb6 hrow6 hrow hset BT5 hw5 hz5 HB5 HB6 hkr bx6 HBT4 HG4 HD4 hl2 hl3 hl4
              go_wp2_with fail
              refine (made_next B g 3 _ HD6.out (by omega) (by omega)).mono ?_; rintro e w7 ⟨u, hu0, hu1, rfl, hd7, hg7⟩
              have hp7 : PowAt w2.heap.size B g w [.mk ak anm []] w7 := by
                obtain ⟨kv, p1, p2, p3, p4, p5⟩ := HP6.out
                have hgb : ∀ b, g < b → some g ≠ some b := fun b hb e => by have e' := Option.some.inj e; omega
                have q1 := HGL.out; have q2 := HC.out
                exact ⟨kv, p1.grown hg7 (hgb _ (by omega)), p2.grown hg7 (hgb _ (by omega)), p3.keep fun b hb hl => hg7.block b hl (fun e => by have e' : b = g := Option.some.inj e; omega), hd7, grownBy_trans p5 hg7⟩
              obtain ⟨un, rfl⟩ : ∃ un : Nat, u = un := ⟨u.toNat, by omega⟩
              have hL : T.Atoms vars [.mk ak anm []] := fun t ht => by rw [List.mem_singleton] at ht; exact ⟨ak, anm, HKA.out, ht⟩
              have HST := Lib.hid (show ∃ (L : List T) (n : Nat), (Value.int .i64 (un : Int)) = .int .i64 n ∧ L.length + n ≤ 3 ∧ 1 ≤ L.length ∧ T.Atoms vars L ∧ PowAt w2.heap.size B g w L w7 from ⟨_, un, rfl, by simp; omega, by simp, hL, hp7⟩)
              clear hp7 hL hd7 hg7 hu0 hu1 HP6 HD6
              go_wp2_with fail
              go_loopw [9] (fun i wr => ∃ (L : List T) (n : Nat), i = .int .i64 n ∧ L.length + n ≤ 3 ∧ 1 ≤ L.length ∧ T.Atoms vars L ∧ PowAt w2.heap.size B g w L wr) (fun i _ => (intOf i).toNat)
              case atStart => exact HST.out
              case round =>
                obtain ⟨L, n, rfl, hn3, hl1, hat, hpow⟩ := hrel
                by_cases hn : n = 0
                · subst hn
                  obtain ⟨kv, bx6, bz, hrow, hd6, hg6⟩ := hpow
                  obtain ⟨A4, C4, rfl, _, _⟩ := hrow.shape
                  have hm6 := T.made_power hD hat hl1 (by omega)
                  have hT : TermIn (from_ (w.heap.size + 1)) wr (.agg #[.int .i64 7, .string ⟨#[]⟩, .slice A4 L.length C4]) (.mk 7 ⟨#[]⟩ L) := (hrow.term 7 ⟨#[]⟩ (by decide) (by decide)).keep fun b hb _ => ⟨decide_eq_true (by have := of_decide_eq_true hb; have := HC.out; omega), rfl⟩
                  have HB6 := Lib.hid bz
                  have HT6 := Lib.hid hT; have HM6 := Lib.hid hm6; have HD6 := Lib.hid hd6; have HG6 := Lib.hid hg6; have HVAL := Lib.hid (hm6.valid hD4); have HBK := Lib.hid (show (T.mk 7 ⟨#[]⟩ L).bulk ≤ 1048576 by have := hm6.bulk hD4; omega)
                  clear hT hm6 hd6 hg6 hrow bz hat hl1 hn3
                  obtain ⟨x0, x1, x2⟩ := bx6.cells
                  have hrn := fun W h => rnormal (.mk 7 ⟨#[]⟩ L) (.agg #[.int .i64 7, .string ⟨#[]⟩, .slice A4 L.length C4]) W h HBK.out
                  rw [if_pos HVAL.out] at hrn
                  have hnm := HM6.out.norm
                  generalize (T.mk 7 ⟨#[]⟩ L).norm = tn at hrn hnm
                  have HRN := Lib.hid hrn; have HNM := Lib.hid hnm
                  clear hrn hnm
                  go_wp2_with fail
                  refine (HRN.out _ HT6.out.at).mono ?_; rintro e w7 ⟨A7, C7, rfl, ht7, hb7⟩
                  have BX7 := Lib.hid (HB6.out.later hb7)
                  have HD7 := Lib.hid (HD6.out.below hb7 HD6.out.lt); have HG7 := Lib.hid (grownBy_trans HG6.out (grownBy_of_below (some g) hb7))
                  have HT7 := Lib.hid (ht7.keep (w' := w7) (S' := from_ (w.heap.size + 1)) fun b hb _ => ⟨by have := of_decide_eq_true hb; have := HB6.out.lt; exact decide_eq_true (by omega), rfl⟩)
                  clear x0 x1 x2 bx6 ht7 hb7
                  obtain ⟨x0, x1, x2⟩ := BX7.out.cells
                  obtain ⟨f0, f1, f2⟩ := BX7.out.free
                  go_wp2_with fail
                  obtain ⟨d0, d1, d2⟩ := (box_set3 BX7.out (.int .i64 tn.kind) (.string tn.name) (.slice A7 tn.kids.length C7)).cells
                  refine bodyPost_ret (v := .agg #[.int .i64 tn.kind, .string tn.name, .slice A7 tn.kids.length C7]) (by simp [results, Tryz.results17, go_sem, d0, d1, d2]) rfl ?_
                  exact made_ends HG7.out HGL.out HD7.out HNM.out HT7.out _ _ _
                · have hi : (0 : Int) < (n : Int) := by omega
                  obtain ⟨kv, bx, bz, hrow, hdr, hgr⟩ := hpow
                  obtain ⟨xs, hown, hx⟩ := hrow.owns
                  have hblk := hrow.block
                  have HSTEP := Lib.hid (fun t w3 w4 u0 u1 u2 g' cap => PowAt.step (B := B) (t := t) (w3 := w3) (w4 := w4) (u0 := u0) (u1 := u1) (u2 := u2) (g' := g') (cap := cap) HGL.out HC.out bx bz hrow hgr hx hown.1)
                  have HOWN := Lib.hid hown; have HBX := Lib.hid bx; have HDR := Lib.hid hdr; have HAT := Lib.hid hat
                  have HNG := Lib.hid (show kv.ownBlock ≠ some g from fun e => by have := (hblk _ e).1; have := HGL.out; have := HC.out; omega)
                  have HNC := Lib.hid (show kv.ownBlock ≠ some w2.heap.size from fun e => by have := (hblk _ e).1; omega)
                  have HGC := Lib.hid (show some g ≠ some w2.heap.size from fun e => by have e' := Option.some.inj e; have := HGL.out; have := HC.out; omega)
                  have HBS0 := Lib.hid (show w2.heap.size + 1 ≤ wr.heap.size from bx.lt)
                  have HN3 := Lib.hid hn3; have HL1 := Lib.hid hl1
                  have hw9 : IntKind.i64.wrap ((n : Int) - 1) = ((n - 1 : Nat) : Int) := by rw [IntWalk.i64_in _ (by omega)]; omega
                  have hl3 : L.length ≤ 3 := by omega
                  obtain ⟨y0, y1, y2⟩ := bx.cells
                  obtain ⟨f0, f1, f2⟩ := bx.free
                  clear hx hown hrow hblk bx bz hdr hgr hat hn3 hl1
                  go_upto_region 10 with fail
                  go_region_law (first | (refine step_append_lies _ (by rfl) _ _ _ (by rfl) (w2.heap.size + 1) 29 i0 _ 3 48 Tryz.underlying27 hi0 hz0 hz1 hz2 rfl (by omega) _ _ _ (by rfl) HOWN3.out ⟨_, 0, none⟩ 1 1 _ (by rfl) (by rfl) (World.news_of_block (heap_alloc_new _ _)) HONE.out (by omega) (by unfold maxLen; omega) (by omega) HBS.out _ rfl ?_; intro g' cap wq hown4 hgrow hat' hlt4; have HB4 := ((HBX.out.grown hg3' HGC.out).later (below_alloc1 w4 _)).grown hgrow HNC.out; have c4 := HB4.cells.2.2; have f4 := HB4.free.2.2) | (go_simp; go_at_call 33; refine (made_atom B g _ _ HDR.out.drew).mono ?_; rintro e w4 ⟨ak', anm', hka', rfl, hd3, hg3⟩; have hg3' : wr.grownBy w4 (some g) := ⟨hg3.os, hg3.tape, hg3.output, hg3.size, hg3.block⟩; have HB3' := HBX.out.grown hg3' HGC.out; have z2 := HB3'.cells.2.2; have zz2 := cell_later (below_alloc1 w4 (.cells #[.int .i64 ak', .string anm', .slice none 0 0] 29)) z2; have HOWN3 := Lib.hid ((HOWN.out.kept hg3' (.inr HNG.out)).alloc (.cells #[.int .i64 ak', .string anm', .slice none 0 0] 29)); have HONE := Lib.hid (show ∀ u ∈ [Value.int .i64 ak', .string anm', .slice none 0 0], u.oneCell' = true from (atom_in (fun _ => true) w4 ak' anm' (by have := (T.made0_facts hka').1; omega) (by have := (T.made0_facts hka').2.2; unfold maxLen; omega)).one); have HBS := Lib.hid (show w2.heap.size + 1 ≤ (w4.alloc (.cells #[.int .i64 ak', .string anm', .slice none 0 0] 29)).heap.size by rw [size_alloc1]; have := hg3'.size; have := HBS0.out; omega)))
                  all_goals
                    have hfin := HSTEP.out (.mk ak' anm' []) w4 wq _ _ _ g' cap hd3 hg3' (fun S W => atom_in S W ak' anm' (by have := (T.made0_facts hka').1; omega) (by have := (T.made0_facts hka').2.2; unfold maxLen; omega)) hown4 hgrow (hat'.imp id (fun h => h.trans (size_alloc1 _ _)))
                    have hats : T.Atoms vars (L ++ [.mk ak' anm' []]) := fun t ht => by
                      rcases List.mem_append.1 ht with h | h
                      · exact HAT.out t h
                      · rw [List.mem_singleton] at h; exact ⟨ak', anm', hka', h⟩
                    have HFIN := Lib.hid hfin; have HATS := Lib.hid hats
                    clear hfin hats hgrow hown4 c4 f4 HB4 z2 zz2 hat' hlt4 hd3 hg3 hg3' HB3' hka'
                    go_wp2_with fail
                    go_roundw
                    case rel => exact ⟨_, n - 1, rfl, by have := HN3.out; simp; omega, by simp, HATS.out, HFIN.out⟩
                    case measure => simp only [intOf]; omega
end Go.Proofs.YtihbmgkbipeakaaGreat
