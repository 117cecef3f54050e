/- Chapter 40: the walk of the law on what any term is. -/
import Derived.Test.YtlecmcfmaneejaaTermLaws2
import Derived.Test.YtlecmcfmaneejaaTermNrm
namespace Go.Proofs.Ytlecmcfmaneejaa
open Go.RowKit Go.ChangeShapes Go.WideShapes

theorem raw_later {w1 W W2 : World} {p0 p1 p2 : Addr} {v0 v1 v2 : Value} {a : Value} {ta : T} (h : W.cell? p0 = some v0 ∧ W.cell? p1 = some v1 ∧ W.cell? p2 = some v2 ∧ TermAt W a ta ∧ Below w1.heap.size w1 W)
    (hb : Below W.heap.size W W2) : W2.cell? p0 = some v0 ∧ W2.cell? p1 = some v1 ∧ W2.cell? p2 = some v2 ∧ TermAt W2 a ta ∧ Below w1.heap.size w1 W2 := by
  obtain ⟨h0, h1, h2, h6, h8⟩ := h
  exact ⟨cell_later hb h0, cell_later hb h1, cell_later hb h2, h6.later hb, h8.trans (hb.mono h8.size)⟩
theorem normal_bulk (t : T) (h : t.bulk ≤ 1048576) : (if t.valid = true then t.norm else .mk 0 ⟨#[]⟩ []).bulk ≤ 1048576 := by
  split
  · rw [T.bulk_norm]; exact h
  · exact of_decide_eq_true (by kernel_rfl)

set_option maxRecDepth 100000 in
set_option maxHeartbeats 8000000 in
theorem terms_raw (t : T) (v : Value) (w : World) (ht : TermAt w v t) (hbk : t.bulk ≤ 1048576) :
    Calls Try.prog 3 #[v] w fun e w' => e = .returned (.bool true) ∧ Below w.heap.size w w' := by
  have HL := Lib.hid (fun W hW => light t v W hW hbk)
  obtain ⟨q, hq⟩ : ∃ q, decide (t.size ≤ 200) = q := ⟨_, rfl⟩
  rw [hq] at HL
  obtain ⟨c, hr, hc⟩ : ∃ c : Int, t.valid = t.valid ∧ (t.valid = true ∧ c = 0 ∨ t.valid = false ∧ c = 76) := by
    cases t.valid
    · exact ⟨76, rfl, .inr ⟨rfl, rfl⟩⟩
    · exact ⟨0, rfl, .inl ⟨rfl, rfl⟩⟩
  have HV := Lib.hid (fun W hW => ovalid t v W hW hbk _ c hr hc)
  have HV' := Lib.hid (fun W hW => rvalid t v W hW hbk _ c hr hc)
  have HZ := Lib.hid (fun W hW => osize (t.bulk + 1) t v W (by omega) hW hbk)
  have HZ' := Lib.hid (fun W hW => rsize (t.bulk + 1) t v W (by omega) hW hbk)
  have HG := Lib.hid (fun W hW => oground t v W hW hbk)
  have HG' := Lib.hid (fun W hW => rground t v W hW hbk)
  have HF := Lib.hid (fun W hW => oformat t v W hW hbk)
  have HF' := Lib.hid (fun W hW => rformat t v W hW hbk)
  have HN := Lib.hid (fun W hW => onormal t v W hW hbk)
  have HN' := Lib.hid (fun W hW => rnormal t v W hW hbk)
  have HM := Lib.hid (fun x y W h h' => same_self (if t.valid = true then t.norm else .mk 0 ⟨#[]⟩ []) x y W h h' (normal_bulk t hbk))
  generalize (if t.valid = true then t.norm else .mk 0 ⟨#[]⟩ []) = tn at HN HN' HM
  generalize (if t.valid = true then strOf t.text else ⟨#[]⟩) = fs at HF HF'
  generalize t.size = n at HZ HZ' hq
  generalize t.ground = g at HG HG'
  clear hq hr hc
  cases ht with
  | mk k s A cap ks U h1 h2 h3 h4 hA hU =>
  have bx := boxed_new w (.int .i64 k) (.string s) (.slice A ks.length cap) 24
  have hw := below_alloc1 w (.cells #[.int .i64 k, .string s, .slice A ks.length cap] 24)
  have HT := Lib.hid ((TermAt.mk k s A cap ks U h1 h2 h3 h4 hA hU).later hw)
  clear hA hU
  go_enter Try.func3, Try.ntmps3
  go_upto_region 1 with fail
  generalize w.alloc (.cells #[.int .i64 k, .string s, .slice A ks.length cap] 24) = w1 at bx hw HT ⊢
  have HX := Lib.hid bx; have HW := Lib.hid hw
  clear bx hw
  obtain ⟨x0, x1, x2⟩ := HX.out
  go_wp2_with fail
  refine (HL.out _ HT.out).mono ?_; rintro e w2 ⟨rfl, hb2⟩
  have HX2 := Lib.hid (HX.out.later hb2); have HT2 := Lib.hid (HT.out.later hb2); have HW2 := Lib.hid (HW.out.trans (hb2.mono HW.out.size))
  clear hb2 x0 x1 x2
  cases q
  · go_wp2_with fail
    refine (awake _).mono ?_; rintro e w3 ⟨rfl, hb⟩
    have HB := Lib.hid (HW2.out.trans (hb.mono HW2.out.size))
    clear hb
    go_wp2_with fail
    go_ret
    exact ⟨rfl, HB.out⟩
  clear HX HT HW HL
  go_upto_region 3 with fail
  obtain ⟨x0, x1, x2⟩ := HX2.out
  have ta := HT2.out
  go_region_held3 (fun W => W.cell? ⟨w.heap.size, 0, none⟩ = some (.int .i64 k) ∧ W.cell? ⟨w.heap.size, 1, none⟩ = some (.string s) ∧ W.cell? ⟨w.heap.size, 2, none⟩ = some (.slice A ks.length cap) ∧ TermAt W (.agg #[.int .i64 k, .string s, .slice A ks.length cap]) (.mk k s ks) ∧ Below w2.heap.size w2 W)
    (first | exact ⟨x0, x1, x2, ta, Below.refl _ _⟩ | exact ⟨x0, x1, x2, ta.drew, (Below.refl _ _).drew⟩ | exact raw_later (by assumption) hb4 | go_keep)
    (first | (go_at_call 9; refine (awake _).mono ?_; rintro e w' ⟨rfl, hb4⟩) | (go_at_call 10; have hS' := (by assumption : _ ∧ _ ∧ _ ∧ TermAt _ _ _ ∧ Below _ _ _); have ta' := hS'.2.2.2.1; clear hS'; refine (HV.out _ ta').mono ?_; rintro e w' ⟨rfl, hb4⟩; clear ta') | (go_at_call 11; have hS' := (by assumption : _ ∧ _ ∧ _ ∧ TermAt _ _ _ ∧ Below _ _ _); have ta' := hS'.2.2.2.1; clear hS'; refine (HV'.out _ ta').mono ?_; rintro e w' ⟨rfl, hb4⟩; clear ta') | (go_at_call 12; have hS' := (by assumption : _ ∧ _ ∧ _ ∧ TermAt _ _ _ ∧ Below _ _ _); have ta' := hS'.2.2.2.1; clear hS'; refine (HZ.out _ ta').mono ?_; rintro e w' ⟨rfl, hb4⟩; clear ta') | (go_at_call 13; have hS' := (by assumption : _ ∧ _ ∧ _ ∧ TermAt _ _ _ ∧ Below _ _ _); have ta' := hS'.2.2.2.1; clear hS'; refine (HZ'.out _ ta').mono ?_; rintro e w' ⟨rfl, hb4⟩; clear ta') | (go_at_call 17; have hS' := (by assumption : _ ∧ _ ∧ _ ∧ TermAt _ _ _ ∧ Below _ _ _); have ta' := hS'.2.2.2.1; clear hS'; refine (HG.out _ ta').mono ?_; rintro e w' ⟨rfl, hb4⟩; clear ta') | (go_at_call 18; have hS' := (by assumption : _ ∧ _ ∧ _ ∧ TermAt _ _ _ ∧ Below _ _ _); have ta' := hS'.2.2.2.1; clear hS'; refine (HG'.out _ ta').mono ?_; rintro e w' ⟨rfl, hb4⟩; clear ta') | (go_at_call 19; have hS' := (by assumption : _ ∧ _ ∧ _ ∧ TermAt _ _ _ ∧ Below _ _ _); have ta' := hS'.2.2.2.1; clear hS'; refine (HF.out _ ta').mono ?_; rintro e w' ⟨rfl, hb4⟩; clear ta') | (go_at_call 20; have hS' := (by assumption : _ ∧ _ ∧ _ ∧ TermAt _ _ _ ∧ Below _ _ _); have ta' := hS'.2.2.2.1; clear hS'; refine (HF'.out _ ta').mono ?_; rintro e w' ⟨rfl, hb4⟩; clear ta') | (go_at_call 15; have hS' := (by assumption : _ ∧ _ ∧ _ ∧ TermAt _ _ _ ∧ Below _ _ _); have ta' := hS'.2.2.2.1; clear hS'; refine (HN.out _ ta').mono ?_; rintro e w' ⟨A1, c1, rfl, hn, hb4⟩; have tn1 := hn.at; clear hn ta') | (go_at_call 16; have hS' := (by assumption : _ ∧ _ ∧ _ ∧ TermAt _ _ _ ∧ Below _ _ _); have ta' := hS'.2.2.2.1; clear hS'; refine (HN'.out _ ta').mono ?_; rintro e w' ⟨A2, c2, rfl, hn, hb4⟩; have tn2 := hn.at; have tn3 := tn1.later hb4; clear hn ta' tn1) | (go_at_call 14; refine (HM.out _ _ _ tn3 tn2).mono ?_; rintro e w' ⟨rfl, hb4⟩; clear tn2 tn3))
  all_goals
    rename_i hS
    have HB5 := Lib.hid (HW2.out.trans (hS.2.2.2.2.mono HW2.out.size))
    clear hS x0 x1 x2 ta
    go_wp2_with fail
    go_ret
    exact ⟨rfl, HB5.out⟩
theorem walkTermsRaw {H : Type} {enc : TypeId × Value → H} {X Y Z : Prop} (w : World) (v : Value) (d : DataW H) {b0 : Nat} {p : List MemPlace} {r : Reach} (hv : Value.okWide Try.prog w r b0 24 v) (hd : DataW.Trod enc Try.prog w 0 (fun _ => true) true 24 v d p)
    (_hsz : X) (hcond : Rows.uptoSmall H ([d] ++ []) = true) (_hL : Y) (_hsh : Z) :
    Calls Try.prog 3 #[v] w fun e w' => e = .returned (.bool true) ∧ Below w.heap.size w w' := by
  obtain ⟨t, ht, hb⟩ := open_term hv hd
  exact terms_raw t v w ht (Nat.le_trans hb (bulk_one hcond))
end Go.Proofs.Ytlecmcfmaneejaa
