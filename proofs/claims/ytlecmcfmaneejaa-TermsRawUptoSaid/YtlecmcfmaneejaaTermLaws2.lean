/- Chapter 40: the walk of the law on the order of any terms. -/
import Derived.Test.YtlecmcfmaneejaaTermLaws
namespace Go.Proofs.Ytlecmcfmaneejaa
open Go.RowKit Go.ChangeShapes Go.WideShapes

theorem open_term {H : Type} {enc : TypeId × Value → H} {w : World} {b0 : Nat} {v : Value} {d : DataW H} {p : List MemPlace} {r : Reach}
    (hv : Value.okWide Try.prog w r b0 24 v) (h : DataW.Trod enc Try.prog w 0 (fun _ => true) true 24 v d p) : ∃ t, TermAt w v t ∧ t.bulk ≤ Rows.uptoBulk d := by
  obtain ⟨cs, rfl, _⟩ := okWide_struct Try.underlying24 hv
  obtain ⟨fuel, hf⟩ := h
  have := open_cells _ fuel cs.toList d p (Nat.lt_succ_self _) (by simpa [Value.cells] using hf)
  simpa using this
theorem bulk_one {H : Type} {d : DataW H} (h : Rows.uptoSmall H ([d] ++ []) = true) : Rows.uptoBulk d ≤ 1048576 := by
  have := of_decide_eq_true h
  simp only [List.append_nil, Rows.uptoBulkAll] at this; omega
theorem bulk_two {H : Type} {d d' : DataW H} (h : Rows.uptoSmall H ([d, d'] ++ []) = true) : Rows.uptoBulk d ≤ 1048576 ∧ Rows.uptoBulk d' ≤ 1048576 := by
  have := of_decide_eq_true h
  simp only [List.append_nil, Rows.uptoBulkAll] at this; omega

theorem compares_later {w1 W W2 : World} {p0 p1 p2 p3 p4 p5 : Addr} {v0 v1 v2 v3 v4 v5 : Value} {a b : Value} {ta tb : T} (h : W.cell? p0 = some v0 ∧ W.cell? p1 = some v1 ∧ W.cell? p2 = some v2 ∧ W.cell? p3 = some v3 ∧ W.cell? p4 = some v4 ∧ W.cell? p5 = some v5 ∧ TermAt W a ta ∧ TermAt W b tb ∧ Below w1.heap.size w1 W)
    (hb : Below W.heap.size W W2) : W2.cell? p0 = some v0 ∧ W2.cell? p1 = some v1 ∧ W2.cell? p2 = some v2 ∧ W2.cell? p3 = some v3 ∧ W2.cell? p4 = some v4 ∧ W2.cell? p5 = some v5 ∧ TermAt W2 a ta ∧ TermAt W2 b tb ∧ Below w1.heap.size w1 W2 := by
  obtain ⟨h0, h1, h2, h3, h4, h5, h6, h7, h8⟩ := h
  exact ⟨cell_later hb h0, cell_later hb h1, cell_later hb h2, cell_later hb h3, cell_later hb h4, cell_later hb h5, h6.later hb, h7.later hb, h8.trans (hb.mono h8.size)⟩

set_option maxRecDepth 100000 in
set_option maxHeartbeats 8000000 in
theorem terms_compares (t t' : T) (v v' : Value) (w : World) (ht : TermAt w v t) (ht' : TermAt w v' t') (hbk : t.bulk ≤ 1048576) (hbk' : t'.bulk ≤ 1048576) :
    Calls Try.prog 4 #[v, v'] w fun e w' => e = .returned (.bool true) ∧ Below w.heap.size w w' := by
  have HL := Lib.hid (fun W hW => light t v W hW hbk); have HL' := Lib.hid (fun W hW => light t' v' W hW hbk')
  have HC := Lib.hid (fun (x y : T) (vx vy : Value) (W : World) (hx : TermAt W vx x) (hy : TermAt W vy y) (bx : x.bulk ≤ 1048576) (by' : y.bulk ≤ 1048576) => ocmp (x.bulk + 1) x y vx vy W (by omega) hx hy bx by')
  have HR := Lib.hid (fun (x y : T) (vx vy : Value) (W : World) (hx : TermAt W vx x) (hy : TermAt W vy y) (bx : x.bulk ≤ 1048576) (by' : y.bulk ≤ 1048576) => rcmp (x.bulk + 1) x y vx vy W (by omega) hx hy bx by')
  have hrg : -1 ≤ T.cmp t t' ∧ T.cmp t t' ≤ 1 := by rcases T.cmp_vals t t' with h | h | h <;> omega
  have n3 : T.cmp t' t = -T.cmp t t' := T.cmp_anti t t'
  generalize T.cmp = C at HC HR hrg n3
  obtain ⟨q, hq⟩ : ∃ q, decide (t.size ≤ 200) = q := ⟨_, rfl⟩
  obtain ⟨q', hq'⟩ : ∃ q, decide (t'.size ≤ 200) = q := ⟨_, rfl⟩
  rw [hq] at HL; rw [hq'] at HL'
  clear hq hq'
  cases ht with
  | mk k s A cap ks U h1 h2 h3 h4 hA hU =>
  cases ht' with
  | mk k' s' A' cap' ks' U' h1' h2' h3' h4' hA' hU' =>
  obtain ⟨hbx, hbx', hb1⟩ := boxed_two w (.int .i64 k) (.string s) (.slice A ks.length cap) (.int .i64 k') (.string s') (.slice A' ks'.length cap') 24
  have HT := Lib.hid ((TermAt.mk k s A cap ks U h1 h2 h3 h4 hA hU).later hb1)
  have HT' := Lib.hid ((TermAt.mk k' s' A' cap' ks' U' h1' h2' h3' h4' hA' hU').later hb1)
  clear hA hU hA' hU'
  go_enter Try.func4, Try.ntmps4
  go_upto_region 1 with fail
  generalize (w.alloc (.cells #[.int .i64 k, .string s, .slice A ks.length cap] 24)).alloc (.cells #[.int .i64 k', .string s', .slice A' ks'.length cap'] 24) = w1 at hbx hbx' hb1 HT HT' ⊢
  have HA0 := Lib.hid hbx; have HB0 := Lib.hid hbx'; have HW := Lib.hid hb1
  clear hbx hbx' hb1
  obtain ⟨x0, x1, x2⟩ := HA0.out
  go_wp2_with fail
  refine (HL.out _ HT.out).mono ?_; rintro e w2 ⟨rfl, hb2⟩
  have HA2 := Lib.hid (HA0.out.later hb2); have HB2 := Lib.hid (HB0.out.later hb2); have HT2 := Lib.hid (HT.out.later hb2); have HT2' := Lib.hid (HT'.out.later hb2); have HW2 := Lib.hid (HW.out.trans (hb2.mono HW.out.size))
  clear hb2 x0 x1 x2
  cases q
  · go_wp2_with fail
    refine (awake _).mono ?_; rintro e w3 ⟨rfl, hb⟩
    have HB := Lib.hid (HW2.out.trans (hb.mono HW2.out.size))
    clear hb
    go_wp2_with fail
    go_ret
    exact ⟨rfl, HB.out⟩
  obtain ⟨y0, y1, y2⟩ := HB2.out
  go_wp2_with fail
  refine (HL'.out _ HT2'.out).mono ?_; rintro e w3 ⟨rfl, hb3⟩
  have HA3 := Lib.hid (HA2.out.later hb3); have HB3 := Lib.hid (HB2.out.later hb3); have HT3 := Lib.hid (HT2.out.later hb3); have HT3' := Lib.hid (HT2'.out.later hb3); have HW3 := Lib.hid (HW2.out.trans (hb3.mono HW2.out.size))
  clear hb3 y0 y1 y2
  cases q'
  · go_wp2_with fail
    refine (awake _).mono ?_; rintro e w4 ⟨rfl, hb⟩
    have HB := Lib.hid (HW3.out.trans (hb.mono HW3.out.size))
    clear hb
    go_wp2_with fail
    go_ret
    exact ⟨rfl, HB.out⟩
  clear HA0 HB0 HT HT' HW HA2 HB2 HT2 HT2' HW2 HL HL'
  go_upto_region 3 with fail
  obtain ⟨x0, x1, x2⟩ := HA3.out
  obtain ⟨y0, y1, y2⟩ := HB3.out
  have n1 : IntKind.i64.wrap (-C (.mk k s ks) (.mk k' s' ks')) = -C (.mk k s ks) (.mk k' s' ks') := IntWalk.i64_in _ (by omega)
  have n2 : IntKind.i64.wrap (0 - C (.mk k s ks) (.mk k' s' ks')) = -C (.mk k s ks) (.mk k' s' ks') := by rw [Int.zero_sub]; exact n1
  have ta := HT3.out; have tb := HT3'.out
  clear hrg
  go_region_held3 (fun W => W.cell? ⟨w.heap.size, 0, none⟩ = some (.int .i64 k) ∧ W.cell? ⟨w.heap.size, 1, none⟩ = some (.string s) ∧ W.cell? ⟨w.heap.size, 2, none⟩ = some (.slice A ks.length cap) ∧ W.cell? ⟨w.heap.size + 1, 0, none⟩ = some (.int .i64 k') ∧ W.cell? ⟨w.heap.size + 1, 1, none⟩ = some (.string s') ∧ W.cell? ⟨w.heap.size + 1, 2, none⟩ = some (.slice A' ks'.length cap') ∧ TermAt W (.agg #[.int .i64 k, .string s, .slice A ks.length cap]) (.mk k s ks) ∧ TermAt W (.agg #[.int .i64 k', .string s', .slice A' ks'.length cap']) (.mk k' s' ks') ∧ Below w3.heap.size w3 W)
    (first | exact ⟨x0, x1, x2, y0, y1, y2, ta, tb, Below.refl _ _⟩ | exact ⟨x0, x1, x2, y0, y1, y2, ta.drew, tb.drew, (Below.refl _ _).drew⟩ | exact compares_later (by assumption) hb4 | go_keep)
    (first | (go_at_call 9; refine (awake _).mono ?_; rintro e w' ⟨rfl, hb4⟩) | (go_at_call 22; have hS' := (by assumption : _ ∧ _ ∧ _ ∧ _ ∧ _ ∧ _ ∧ TermAt _ _ _ ∧ TermAt _ _ _ ∧ Below _ _ _); have ta' := hS'.2.2.2.2.2.2.1; have tb' := hS'.2.2.2.2.2.2.2.1; clear hS'; refine (HR.out _ _ _ _ _ (by assumption) (by assumption) (by assumption) (by assumption)).mono ?_; rintro e w' ⟨rfl, hb4⟩; clear ta' tb') | (go_at_call 21; have hS' := (by assumption : _ ∧ _ ∧ _ ∧ _ ∧ _ ∧ _ ∧ TermAt _ _ _ ∧ TermAt _ _ _ ∧ Below _ _ _); have ta' := hS'.2.2.2.2.2.2.1; have tb' := hS'.2.2.2.2.2.2.2.1; clear hS'; refine (HC.out _ _ _ _ _ (by assumption) (by assumption) (by assumption) (by assumption)).mono ?_; rintro e w' ⟨rfl, hb4⟩; clear ta' tb'))
  all_goals
    rename_i hS
    have HB5 := Lib.hid (HW3.out.trans (hS.2.2.2.2.2.2.2.2.mono HW3.out.size))
    clear hS x0 x1 x2 y0 y1 y2 ta tb
    go_wp2_with fail
    go_ret
    exact ⟨rfl, HB5.out⟩
theorem walkTermsCompares {H : Type} {enc : TypeId × Value → H} {X Y Z : Prop} (w : World) (v : Value) (d : DataW H) {b0 : Nat} {p : List MemPlace} {r : Reach} (hv : Value.okWide Try.prog w r b0 24 v) (hd : DataW.Trod enc Try.prog w 0 (fun _ => true) true 24 v d p)
    (v' : Value) (d' : DataW H) {b0' : Nat} {p' : List MemPlace} {r' : Reach} (hv' : Value.okWide Try.prog w r' b0' 24 v') (hd' : DataW.Trod enc Try.prog w 0 (fun _ => true) true 24 v' d' p')
    (_hsz : X) (hcond : Rows.uptoSmall H ([d, d'] ++ []) = true) (_hL : Y) (_hsh : Z) :
    Calls Try.prog 4 #[v, v'] w fun e w' => e = .returned (.bool true) ∧ Below w.heap.size w w' := by
  obtain ⟨t, ht, hb⟩ := open_term hv hd
  obtain ⟨t', ht', hb'⟩ := open_term hv' hd'
  obtain ⟨g, g'⟩ := bulk_two hcond
  exact terms_compares t t' v v' w ht ht' (Nat.le_trans hb g) (Nat.le_trans hb' g')
end Go.Proofs.Ytlecmcfmaneejaa
