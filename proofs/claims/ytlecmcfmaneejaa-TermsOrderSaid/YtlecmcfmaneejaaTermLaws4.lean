/- Chapter 40: the walk of the law on a made term that is written, read, turned and put into its normal form. -/
import Derived.Test.YtlecmcfmaneejaaTermAwake
import Derived.Test.YtlecmcfmaneejaaTermCmpP
import Derived.Test.YtlecmcfmaneejaaTermAnti
import Derived.Test.YtlecmcfmaneejaaTermWrite2
import Derived.Deep.RegionHeld3
import Derived.Test.YtlecmcfmaneejaaTermTurn
import Derived.Test.YtlecmcfmaneejaaTermTerm2
import Derived.Test.YtlecmcfmaneejaaTermRead2
namespace Go.Proofs.Ytlecmcfmaneejaa
open Go.RowKit Go.ChangeShapes Go.WideShapes

theorem back_later {w1 W W2 : World} {p0 p1 p2 p3 p4 p5 p6 p7 p8 : Addr} {v0 v1 v2 v3 v4 v5 v6 v7 v8 : Value} {a b c : Value} {ta tb tc : T} (h : (W.cell? p0 = some v0 ∧ W.cell? p1 = some v1 ∧ W.cell? p2 = some v2) ∧ (W.cell? p3 = some v3 ∧ W.cell? p4 = some v4 ∧ W.cell? p5 = some v5) ∧ (W.cell? p6 = some v6 ∧ W.cell? p7 = some v7 ∧ W.cell? p8 = some v8) ∧ TermAt W a ta ∧ TermAt W b tb ∧ TermAt W c tc ∧ Below w1.heap.size w1 W)
    (hb : Below W.heap.size W W2) : (W2.cell? p0 = some v0 ∧ W2.cell? p1 = some v1 ∧ W2.cell? p2 = some v2) ∧ (W2.cell? p3 = some v3 ∧ W2.cell? p4 = some v4 ∧ W2.cell? p5 = some v5) ∧ (W2.cell? p6 = some v6 ∧ W2.cell? p7 = some v7 ∧ W2.cell? p8 = some v8) ∧ TermAt W2 a ta ∧ TermAt W2 b tb ∧ TermAt W2 c tc ∧ Below w1.heap.size w1 W2 := by
  obtain ⟨⟨h0, h1, h2⟩, ⟨h3, h4, h5⟩, ⟨h6, h7, h8⟩, h9, h10, h11, h12⟩ := h
  exact ⟨⟨cell_later hb h0, cell_later hb h1, cell_later hb h2⟩, ⟨cell_later hb h3, cell_later hb h4, cell_later hb h5⟩, ⟨cell_later hb h6, cell_later hb h7, cell_later hb h8⟩, h9.later hb, h10.later hb, h11.later hb, h12.trans (hb.mono h12.size)⟩
/-- What Normal gives, its parts named. -/
theorem normal_named {t tn : T} {k : Int} {s : ByteArray} {l : Nat} (hbk : t.bulk ≤ 1048576) (hv : t.valid = true) (hn : t.norm = tn) (hk : tn.kind = k) (hs : tn.name = s) (hl : tn.kids.length = l) (v : Value) (w : World) (ht : TermAt w v t) :
    Calls Try.prog 15 #[v] w fun e w' => ∃ A cap, e = .returned (.agg #[.int .i64 k, .string s, .slice A l cap]) ∧ TermAt w' (.agg #[.int .i64 k, .string s, .slice A l cap]) tn ∧ Below w.heap.size w w' := by
  refine (onormal t v w ht hbk).mono ?_
  rw [if_pos hv, hn]
  rintro e w' ⟨A, cap, h1, h2, h3⟩
  subst hk; subst hs; subst hl
  exact ⟨A, cap, h1, h2.at, h3⟩
theorem cmp_alike (t : T) (hb : t.bulk ≤ 1048576) (v v' : Value) (w : World) (h : TermAt w v t) (h' : TermAt w v' t) :
    Calls Try.prog 21 #[v, v'] w fun e w' => e = .returned (.int .i64 0) ∧ Below w.heap.size w w' := by
  have := ocmp (t.bulk + 1) t t v v' w (by omega) h h' hb hb
  rw [T.cmp_self] at this; exact this

set_option maxRecDepth 100000 in
set_option maxHeartbeats 8000000 in
theorem terms_back (A : Option Addr) (n c : Nat) (vars deep : Int) (w : World) (hn : n ≤ maxLen) (hl : ListAt w A n) (b1 : -9223372036854775808 ≤ vars ∧ vars ≤ 9223372036854775807) (b2 : -9223372036854775808 ≤ deep ∧ deep ≤ 9223372036854775807) :
    Calls Try.prog 6 #[.slice A n c, .int .i64 vars, .int .i64 deep] w fun e w' => e = .returned (.bool true) ∧ Below w.heap.size w w' := by
  have HL := Lib.hid (fun W => made_light A n c W hn)
  obtain ⟨q, hq⟩ : ∃ q, decide (n ≤ 80) = q := ⟨_, rfl⟩
  rw [hq] at HL
  have HLA := Lib.hid hl
  clear hl
  go_enter Try.func6, Try.ntmps6
  go_wp2_with fail
  refine (HL.out _).mono ?_; rintro e w1 ⟨rfl, rfl⟩
  cases q
  · go_wp2_with fail
    refine (awake _).mono ?_; rintro e w3 ⟨rfl, hb⟩
    have HB := Lib.hid hb
    clear hb
    go_wp2_with fail
    go_ret
    exact ⟨rfl, HB.out⟩
  have HQ := Lib.hid (of_decide_eq_true hq)
  go_wp2_with fail
  refine (made_roll A n c _ HQ.out HLA.out).mono ?_; rintro e w2 ⟨g, hg, rfl, hd, hb2⟩
  have HG := Lib.hid hg; have HD := Lib.hid hd; have HB2 := Lib.hid hb2
  obtain ⟨m, hm, hm4⟩ : ∃ m : Nat, deep % 4 = (m : Int) ∧ m < 4 := ⟨(deep % 4).toNat, by omega, by omega⟩
  have hw4 : IntKind.i64.wrap (1 + (m : Int)) = ((m + 1 : Nat) : Int) := by rw [IntWalk.i64_in _ (by omega)]; omega
  clear hg hd hb2
  go_wp2_with fail
  refine (made_mod deep 4 _ b2.1 b2.2 (by omega) (by omega)).mono ?_; rintro e w3 ⟨rfl, rfl⟩
  rw [hm]
  go_wp2_with fail
  refine (made_mod vars 8 _ b1.1 b1.2 (by omega) (by omega)).mono ?_; rintro e w3 ⟨rfl, rfl⟩
  go_wp2_with fail
  try rw [hw4]
  refine (made_term (vars % 8) (m + 1) (by omega) (by omega) g g _ HD.out).mono ?_; rintro e w3 ⟨t, A3, C3, hmd, rfl, hti, hd3, hg3⟩
  have HBW := Lib.hid (show Below w.heap.size w w3 from HB2.out.grown hg3 HB2.out.size (fun k hk => by have e' : g = k := Option.some.inj hk; have := HG.out; omega))
  have hv := hmd.valid (by omega); have hbk := hmd.bulk (by omega); have htx := hmd.text (by omega)
  obtain ⟨tn, htn⟩ : ∃ tn, t.norm = tn := ⟨_, rfl⟩
  have hbn : tn.bulk ≤ 1048576 := by rw [← htn, T.bulk_norm]; omega
  have hvn : tn.valid = true := by rw [← htn]; exact T.valid_norm t hv
  have hnn : tn.norm = tn := by rw [← htn]; exact T.norm_norm t
  have HF := Lib.hid (show ∀ v W, TermAt W v t → Calls Try.prog 19 #[v] W fun e w' => e = .returned (.string (strOf t.text)) ∧ Below W.heap.size W w' from fun v W h => by
    have := oformat t v W h (by omega)
    rw [if_pos hv] at this; exact this)
  have HP := Lib.hid (show ∀ W, Calls Try.prog 23 #[.string (strOf t.text)] W fun e w' => ∃ A cap, e = .returned (.tuple #[.agg #[.int .i64 t.kind, .string t.name, .slice A t.kids.length cap], .int .i64 0, .int .i64 0]) ∧ TermAt w' (.agg #[.int .i64 t.kind, .string t.name, .slice A t.kids.length cap]) t ∧ Below W.heap.size W w' from fun W => by
    have h := oparse (strOf t.text) W
    rw [T.parse_text t hv htx] at h
    refine h.mono ?_
    rintro e w' ⟨A, cap, h1, h2, h3⟩
    exact ⟨A, cap, h1, h2.at, h3⟩)
  have HTU := Lib.hid (show ∀ v W, TermAt W v t → Calls Try.prog 29 #[v] W fun e w' => ∃ v', e = .returned v' ∧ TermAt w' v' t.turn ∧ Below W.heap.size W w' from fun v W h => by
    refine (law_turned (t.bulk + 1) t v W (by omega) h (by omega) (Bool.and_eq_true_iff.1 hv).2).mono ?_
    rintro e w' ⟨A, cap, h1, h2, h3⟩
    exact ⟨_, h1, h2.at, h3⟩)
  generalize strOf t.text = s0 at HF HP
  obtain ⟨k, hk⟩ : ∃ k, t.kind = k := ⟨_, rfl⟩
  obtain ⟨s, hs⟩ : ∃ s, t.name = s := ⟨_, rfl⟩
  obtain ⟨l, hll⟩ : ∃ l, t.kids.length = l := ⟨_, rfl⟩
  rw [hk, hs, hll] at HP hti ⊢
  obtain ⟨kn, hkn⟩ : ∃ k, tn.kind = k := ⟨_, rfl⟩
  obtain ⟨sn, hsn⟩ : ∃ s, tn.name = s := ⟨_, rfl⟩
  obtain ⟨ln, hlln⟩ : ∃ l, tn.kids.length = l := ⟨_, rfl⟩
  have HNT := Lib.hid (fun v W h => normal_named (t := t) (by omega) hv htn hkn hsn hlln v W h)
  have HNN := Lib.hid (fun v W h => normal_named (t := tn) hbn hvn hnn hkn hsn hlln v W h)
  have HNU := Lib.hid (fun v W h => normal_named (t := t.turn) (tn := tn) (by rw [T.bulk_turn]; omega) (T.valid_turn t hv) (by rw [T.norm_turn]; exact htn) hkn hsn hlln v W h)
  have HC := Lib.hid (fun v v' W h h' => cmp_alike t (by omega) v v' W h h')
  have HCN := Lib.hid (fun v v' W h h' => cmp_alike tn hbn v v' W h h')
  generalize t.turn = tt at HTU HNU
  have HT3 := Lib.hid hti.at
  clear hti hd3 hg3 hmd hv hbk htx hbn hvn hnn htn hk hs hll hkn hsn hlln
  go_upto_region 4 with fail
  have hx := Box.new w3 (.int .i64 k) (.string s) (.slice A3 l C3)
  have hw4 := below_alloc1 w3 (.cells #[.int .i64 k, .string s, .slice A3 l C3] 24)
  have HT4 := Lib.hid (HT3.out.later hw4); have HBW4 := Lib.hid (HBW.out.trans (hw4.mono HBW.out.size))
  obtain ⟨g4, hg4⟩ : ∃ g4, w3.heap.size = g4 := ⟨_, rfl⟩
  generalize w3.alloc (.cells #[.int .i64 k, .string s, .slice A3 l C3] 24) = w4 at hx hw4 HT4 HBW4 ⊢
  rw [hg4] at hx ⊢
  have HX4 := Lib.hid hx
  clear hx hw4 hg4
  obtain ⟨x0, x1, x2⟩ := HX4.out.cells
  go_wp2_with fail
  refine (HF.out _ _ HT4.out).mono ?_; rintro e w5 ⟨rfl, hb5⟩
  have HX5 := Lib.hid (HX4.out.later hb5); have HT5 := Lib.hid (HT4.out.later hb5); have HBW5 := Lib.hid (HBW4.out.trans (hb5.mono HBW4.out.size))
  clear hb5 x0 x1 x2
  go_wp2_with fail
  refine (HP.out _).mono ?_; rintro e w6 ⟨A6, C6, rfl, ht6, hb6⟩
  have HX6 := Lib.hid (HX5.out.later hb6); have HT6 := Lib.hid (HT5.out.later hb6); have HBW6 := Lib.hid (HBW5.out.trans (hb6.mono HBW5.out.size)); have HU6 := Lib.hid ht6
  clear hb6 ht6
  go_upto_region 5 with fail
  have hx := Box.new w6 (.int .i64 k) (.string s) (.slice A6 l C6)
  have hw7 := below_alloc1 w6 (.cells #[.int .i64 k, .string s, .slice A6 l C6] 24)
  have HT7 := Lib.hid (HT6.out.later hw7); have HU7 := Lib.hid (HU6.out.later hw7); have HX7 := Lib.hid (HX6.out.later hw7); have HBW7 := Lib.hid (HBW6.out.trans (hw7.mono HBW6.out.size))
  obtain ⟨g7, hg7⟩ : ∃ g7, w6.heap.size = g7 := ⟨_, rfl⟩
  generalize w6.alloc (.cells #[.int .i64 k, .string s, .slice A6 l C6] 24) = w7 at hx hw7 HT7 HU7 HX7 HBW7 ⊢
  rw [hg7] at hx ⊢
  have HY7 := Lib.hid hx
  clear hx hw7 hg7
  obtain ⟨x0, x1, x2⟩ := HX7.out.cells
  go_wp2_with fail
  refine (HTU.out _ _ HT7.out).mono ?_; rintro e w8 ⟨vv, rfl, ht8, hb8⟩
  have HX8 := Lib.hid (HX7.out.later hb8); have HY8 := Lib.hid (HY7.out.later hb8); have HT8 := Lib.hid (HT7.out.later hb8); have HU8 := Lib.hid (HU7.out.later hb8); have HBW8 := Lib.hid (HBW7.out.trans (hb8.mono HBW7.out.size)); have HV8 := Lib.hid ht8
  clear hb8 ht8 x0 x1 x2
  go_wp2_with fail
  refine (HNU.out _ _ HV8.out).mono ?_; rintro e w9 ⟨A9, C9, rfl, ht9, hb9⟩
  have HX9 := Lib.hid (HX8.out.later hb9); have HY9 := Lib.hid (HY8.out.later hb9); have HT9 := Lib.hid (HT8.out.later hb9); have HU9 := Lib.hid (HU8.out.later hb9); have HBW9 := Lib.hid (HBW8.out.trans (hb9.mono HBW8.out.size)); have HV9 := Lib.hid ht9
  clear hb9 ht9
  go_upto_region 6 with fail
  have hx := Box.new w9 (.int .i64 kn) (.string sn) (.slice A9 ln C9)
  have hwa := below_alloc1 w9 (.cells #[.int .i64 kn, .string sn, .slice A9 ln C9] 24)
  have HTa := Lib.hid (HT9.out.later hwa); have HUa := Lib.hid (HU9.out.later hwa); have HXa := Lib.hid (HX9.out.later hwa); have HYa := Lib.hid (HY9.out.later hwa); have HVa := Lib.hid (HV9.out.later hwa); have HBWa := Lib.hid (HBW9.out.trans (hwa.mono HBW9.out.size))
  obtain ⟨ga, hga⟩ : ∃ ga, w9.heap.size = ga := ⟨_, rfl⟩
  generalize w9.alloc (.cells #[.int .i64 kn, .string sn, .slice A9 ln C9] 24) = wa at hx hwa HTa HUa HXa HYa HVa HBWa ⊢
  rw [hga] at hx ⊢
  have HZa := Lib.hid hx
  clear hx hwa hga
  have tx := HXa.out.cells; have ty := HYa.out.cells; have tz := HZa.out.cells
  have ta := HTa.out; have tb := HUa.out; have tc := HVa.out
  go_region_held3 (fun W => (W.cell? ⟨g4, 0, none⟩ = some (.int .i64 k) ∧ W.cell? ⟨g4, 1, none⟩ = some (.string s) ∧ W.cell? ⟨g4, 2, none⟩ = some (.slice A3 l C3)) ∧ (W.cell? ⟨g7, 0, none⟩ = some (.int .i64 k) ∧ W.cell? ⟨g7, 1, none⟩ = some (.string s) ∧ W.cell? ⟨g7, 2, none⟩ = some (.slice A6 l C6)) ∧ (W.cell? ⟨ga, 0, none⟩ = some (.int .i64 kn) ∧ W.cell? ⟨ga, 1, none⟩ = some (.string sn) ∧ W.cell? ⟨ga, 2, none⟩ = some (.slice A9 ln C9)) ∧ TermAt W (.agg #[.int .i64 k, .string s, .slice A3 l C3]) t ∧ TermAt W (.agg #[.int .i64 k, .string s, .slice A6 l C6]) t ∧ TermAt W (.agg #[.int .i64 kn, .string sn, .slice A9 ln C9]) tn ∧ Below wa.heap.size wa W)
    (first | exact ⟨tx, ty, tz, ta, tb, tc, Below.refl _ _⟩ | exact ⟨tx, ty, tz, ta.drew, tb.drew, tc.drew, (Below.refl _ _).drew⟩ | exact back_later (by assumption) hb4 | go_keep)
    (first | (go_at_call 9; refine (awake _).mono ?_; rintro e w' ⟨rfl, hb4⟩) | (go_at_call 21; have hS' := (by assumption : (_ ∧ _ ∧ _) ∧ (_ ∧ _ ∧ _) ∧ (_ ∧ _ ∧ _) ∧ TermAt _ _ _ ∧ TermAt _ _ _ ∧ TermAt _ _ _ ∧ Below _ _ _); have ta' := hS'.2.2.2.1; have tb' := hS'.2.2.2.2.1; have tc' := hS'.2.2.2.2.2.1; clear hS'; refine (HC.out _ _ _ (by assumption) (by assumption)).mono ?_; rintro e w' ⟨rfl, hb4⟩; clear ta' tb' tc') | (go_at_call 21; have hS' := (by assumption : (_ ∧ _ ∧ _) ∧ (_ ∧ _ ∧ _) ∧ (_ ∧ _ ∧ _) ∧ TermAt _ _ _ ∧ TermAt _ _ _ ∧ TermAt _ _ _ ∧ Below _ _ _); have ta' := hS'.2.2.2.1; have tb' := hS'.2.2.2.2.1; have tc' := hS'.2.2.2.2.2.1; clear hS'; refine (HCN.out _ _ _ (by assumption) (by assumption)).mono ?_; rintro e w' ⟨rfl, hb4⟩; clear ta' tb' tc') | (go_at_call 15; have hS' := (by assumption : (_ ∧ _ ∧ _) ∧ (_ ∧ _ ∧ _) ∧ (_ ∧ _ ∧ _) ∧ TermAt _ _ _ ∧ TermAt _ _ _ ∧ TermAt _ _ _ ∧ Below _ _ _); have ta' := hS'.2.2.2.1; clear hS'; refine (HNT.out _ _ ta').mono ?_; rintro e w' ⟨A1, c1, rfl, tn1, hb4⟩; clear ta') | (go_at_call 15; have hS' := (by assumption : (_ ∧ _ ∧ _) ∧ (_ ∧ _ ∧ _) ∧ (_ ∧ _ ∧ _) ∧ TermAt _ _ _ ∧ TermAt _ _ _ ∧ TermAt _ _ _ ∧ Below _ _ _); have tc' := hS'.2.2.2.2.2.1; clear hS'; refine (HNN.out _ _ tc').mono ?_; rintro e w' ⟨A2, c2, rfl, tn2, hb4⟩; clear tc'))
  all_goals
    rename_i hS
    have HB5 := Lib.hid (HBWa.out.trans (hS.2.2.2.2.2.2.mono HBWa.out.size))
    clear hS tx ty tz ta tb tc
    go_wp2_with fail
    go_ret
    exact ⟨rfl, HB5.out⟩
theorem walkTermsBack {H : Type} {enc : TypeId × Value → H} {X Y Z : Prop} (w : World) (v : Value) (d : DataW H) {b0 : Nat} {p : List MemPlace} {r : Reach} (hv : Value.okWide Try.prog w r b0 37 v) (hd : DataW.Trod enc Try.prog w 0 (fun _ => true) true 37 v d p)
    (vars : Int) (w0 : (Lit.int .i64 vars).wf = true) (deep : Int) (w1 : (Lit.int .i64 deep).wf = true) (_hsz : X) (_hL : Y) (_hsh : Z) :
    Calls Try.prog 6 #[v, .int .i64 vars, .int .i64 deep] w fun e w' => e = .returned (.bool true) ∧ Below w.heap.size w w' := by
  obtain ⟨A, n, c, rfl, h1, h2, h3⟩ := open_list hv hd
  exact terms_back A n c vars deep w (Nat.le_trans h1 h2) h3 (bounds_i64 w0) (bounds_i64 w1)
end Go.Proofs.Ytlecmcfmaneejaa
