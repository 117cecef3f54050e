/- Several texts in one: StrMatch, StrMatch2, StrRow. -/
import Derived.Test.YtihbmgkbipeakaaGreatWebG0
import Derived.Test.YtihbmgkbipeakaaGreatWebG13
import Derived.Test.YtihbmgkbipeakaaGreatWebG8
import Derived.Test.YtihbmgkbipeakaaGreatWebG11
namespace Go.Proofs.YtihbmgkbipeakaaGreat
open Go.RowKit

attribute [local go_sem ↓] Go.wp_at_zero Go.wp_at_succ

theorem view_var {w : World} {v : Value} {s : ByteArray} (h : TermAt w v (.mk 2 s [])) : ∃ A c, v = .agg #[.int .i64 2, .string s, .slice A 0 c] := by
  cases h; exact ⟨_, _, rfl⟩
set_option maxRecDepth 100000 in
set_option maxHeartbeats 4000000 in
theorem match_var_nil (s : ByteArray) (p t : T) (pv v : Value) (w : World) (hpe : p = .mk 2 s []) (hp : TermAt w pv p) (ht : TermAt w v t) :
    Calls Tryz.prog 79 #[pv, v, .slice none 0 0] w fun e w' => ∃ v', e = .returned (.tuple #[v', .bool true]) ∧ BindAt w' v' s t ∧ Below w.heap.size w w' := by
  subst hpe
  obtain ⟨A0, c0, rfl⟩ := view_var hp
  obtain ⟨A, cap, rfl⟩ := TermIn.view ht.inAll
  obtain ⟨bx, by', hb1, hsz⟩ := box_two w (.int .i64 2) (.string s) (.slice A0 0 c0) (.int .i64 t.kind) (.string t.name) (.slice A t.kids.length cap)
  have HT := Lib.hid ht
  clear hp ht
  go_enter Tryz.func79, Tryz.ntmps79
  go_upto_region 1 with fail
  generalize (w.alloc (.cells #[.int .i64 2, .string s, .slice A0 0 c0] 29)).alloc (.cells #[.int .i64 t.kind, .string t.name, .slice A t.kids.length cap] 29) = w1 at bx by' hb1 hsz ⊢
  obtain ⟨x0, x1, x2⟩ := bx.cells
  obtain ⟨y0, y1, y2⟩ := by'.cells
  have HB1 := Lib.hid hb1; have BX := Lib.hid bx; have BY := Lib.hid by'
  clear bx by' hb1 hsz
  go_wp2_with fail
  refine (value_nil s _).mono ?_; rintro e w2 ⟨rfl, hb2⟩
  go_upto_region 3 with fail
  have hb3 := hb2.trans ((below_alloc1 w2 (.cells #[.int .i64 0, .string ⟨#[]⟩, .slice none 0 0] 29)).mono hb2.size)
  have HB3 := Lib.hid (HB1.out.trans (hb3.mono HB1.out.size)); have BX3 := Lib.hid (BX.out.later hb3); have BY3 := Lib.hid (BY.out.later hb3)
  clear hb2 hb3 x0 x1 x2 y0 y1 y2
  generalize w2.alloc (.cells #[.int .i64 0, .string ⟨#[]⟩, .slice none 0 0] 29) = w3 at HB3 BX3 BY3 ⊢
  obtain ⟨x0, x1, x2⟩ := BX3.out.cells
  obtain ⟨y0, y1, y2⟩ := BY3.out.cells
  go_wp2_with fail
  refine (bind_nil s t _ _ (HT.out.later HB3.out)).mono ?_; rintro e w4 ⟨v4, rfl, hv4, hb4⟩
  have HV4 := Lib.hid hv4; have HB4 := Lib.hid (HB3.out.trans (hb4.mono HB3.out.size))
  clear hv4 hb4
  go_wp2_with fail
  go_ret2
  exact ⟨_, rfl, HV4.out, HB4.out⟩
set_option maxRecDepth 100000 in
set_option maxHeartbeats 4000000 in
theorem match_var_one (s : ByteArray) (p t u : T) (pv v bv : Value) (w : World) (hpe : p = .mk 2 s []) (hp : TermAt w pv p) (ht : TermAt w v t) (hb : BindAt w bv s u) (hu1 : u.bulk ≤ 1048576) (hu2 : t.bulk ≤ 1048576) :
    Calls Tryz.prog 79 #[pv, v, bv] w fun e w' => e = .returned (.tuple #[bv, .bool (decide (u.cmp t = 0))]) ∧ Below w.heap.size w w' := by
  subst hpe
  have HC := Lib.hid (fun va vb W ha hb' => ocmp (u.bulk + 1) u t va vb W (by omega) ha hb' hu1 hu2)
  obtain ⟨q, hq⟩ : ∃ q, u.cmp t = q := ⟨_, rfl⟩
  rw [hq] at HC ⊢
  clear hq hu1 hu2
  obtain ⟨A0, c0, rfl⟩ := view_var hp
  obtain ⟨A, cap, rfl⟩ := TermIn.view ht.inAll
  obtain ⟨bx, by', hb1, hsz⟩ := box_two w (.int .i64 2) (.string s) (.slice A0 0 c0) (.int .i64 t.kind) (.string t.name) (.slice A t.kids.length cap)
  have HT := Lib.hid ht; have HB := Lib.hid hb
  clear hp ht hb
  go_enter Tryz.func79, Tryz.ntmps79
  go_upto_region 1 with fail
  generalize (w.alloc (.cells #[.int .i64 2, .string s, .slice A0 0 c0] 29)).alloc (.cells #[.int .i64 t.kind, .string t.name, .slice A t.kids.length cap] 29) = w1 at bx by' hb1 hsz ⊢
  obtain ⟨x0, x1, x2⟩ := bx.cells
  obtain ⟨y0, y1, y2⟩ := by'.cells
  have HB1 := Lib.hid hb1; have BX := Lib.hid bx; have BY := Lib.hid by'
  clear bx by' hb1 hsz
  go_wp2_with fail
  refine (value_one s u bv _ (HB.out.later HB1.out)).mono ?_; rintro e w2 ⟨A2, c2, rfl, ht2, hb2⟩
  go_upto_region 3 with fail
  have hx := below_alloc1 w2 (.cells #[.int .i64 u.kind, .string u.name, .slice A2 u.kids.length c2] 29)
  have hb3 := hb2.trans (hx.mono hb2.size)
  have HB3 := Lib.hid (HB1.out.trans (hb3.mono HB1.out.size)); have BX3 := Lib.hid (BX.out.later hb3); have BY3 := Lib.hid (BY.out.later hb3)
  have BZ := Lib.hid (Box.new w2 (.int .i64 u.kind) (.string u.name) (.slice A2 u.kids.length c2))
  have HT2 := Lib.hid (ht2.later hx)
  clear hb2 hb3 x0 x1 x2 y0 y1 y2 ht2 hx
  generalize w2.alloc (.cells #[.int .i64 u.kind, .string u.name, .slice A2 u.kids.length c2] 29) = w3 at HB3 BX3 BY3 BZ HT2 ⊢
  obtain ⟨x0, x1, x2⟩ := BX3.out.cells
  obtain ⟨y0, y1, y2⟩ := BY3.out.cells
  obtain ⟨z0, z1, z2⟩ := BZ.out.cells
  go_wp2_with fail
  refine (HC.out _ _ _ HT2.out (HT.out.later HB3.out)).mono ?_; rintro e w4 ⟨rfl, hb4⟩
  have HB4 := Lib.hid (HB3.out.trans (hb4.mono HB3.out.size))
  clear hb4
  go_wp2_with fail
  go_ret2
  exact ⟨rfl, HB4.out⟩

/-- What a match of a pair of one variable leaves. -/
def PairPost (s : ByteArray) (x : T) (q : Bool) (w : World) (e : Ending) (w' : World) : Prop := Below w.heap.size w w' ∧ ((q = true ∧ ∃ v', e = .returned (.tuple #[v', .bool true]) ∧ BindAt w' v' s x) ∨ (q = false ∧ e = .returned (.tuple #[.slice none 0 0, .bool false])))
/-- The head of match's loop. -/
def PairAt (s : ByteArray) (x y : T) (w1 : World) (j : Nat) (b : Value) (wr : World) : Prop := Below w1.heap.size w1 wr ∧ ((j = 0 ∧ b = .slice none 0 0) ∨ (j = 1 ∧ BindAt wr b s x) ∨ (j = 2 ∧ BindAt wr b s x ∧ x.cmp y = 0))
set_option maxRecDepth 100000 in
set_option maxHeartbeats 8000000 in
theorem match_pair (s : ByteArray) (x y p t : T) (pv v : Value) (w : World) (hpe : p = .mk 3 ⟨#[]⟩ [.mk 2 s [], .mk 2 s []]) (hte : t = .mk 3 ⟨#[]⟩ [x, y]) (hp : TermAt w pv p) (ht : TermAt w v t) (hx1 : x.bulk ≤ 1048576) (hy1 : y.bulk ≤ 1048576) :
    Calls Tryz.prog 79 #[pv, v, .slice none 0 0] w (PairPost s x (decide (x.cmp y = 0)) w) := by
  have HLEN : p.kids.length = 2 ∧ t.kids.length = 2 := by rw [hpe, hte]; exact ⟨rfl, rfl⟩
  have HP := Lib.hid (show ∀ j (h : j < p.kids.length), p.kids[j] = .mk 2 s [] by
    subst hpe; intro j h; match j, h with
    | 0, _ => rfl
    | 1, _ => rfl)
  have HY := Lib.hid (show ∀ j (h : j < t.kids.length), (j = 0 ∧ t.kids[j] = x) ∨ (j = 1 ∧ t.kids[j] = y) by
    subst hte; intro j h; match j, h with
    | 0, _ => exact .inl ⟨rfl, rfl⟩
    | 1, _ => exact .inr ⟨rfl, rfl⟩)
  have hk : p.kind = 3 ∧ t.kind = 3 ∧ p.name = ⟨#[]⟩ ∧ t.name = ⟨#[]⟩ := by rw [hpe, hte]; exact ⟨rfl, rfl, rfl, rfl⟩
  clear hpe hte
  cases hp with
  | mk k0 s0 A0 c0 ks U g1 g2 g3 g4 hA hU =>
  cases ht with
  | mk k1 s1 A1 c1 ks' U' g1' g2' g3' g4' hA' hU' =>
  obtain ⟨hk0, hk1, hk2, hk3⟩ := hk
  dsimp only [T.kind, T.name, T.kids] at hk0 hk1 hk2 hk3 HLEN HP HY
  subst hk0; subst hk1; subst hk2; subst hk3
  obtain ⟨hl0, hl1⟩ := HLEN
  have HL0 := Lib.hid hl0; have HL1 := Lib.hid hl1
  have hll : (ks.length : Int) = 2 := by omega
  have hll' : (ks'.length : Int) = 2 := by omega
  have hl2 : ((ks.length : Int) != (ks'.length : Int)) = false := by rw [hll, hll']; rfl
  have HLI := Lib.hid hll
  clear hl0 hl1 hll hll'
  obtain ⟨bx, by', hb1, hsz⟩ := box_two w (.int .i64 3) (.string ⟨#[]⟩) (.slice A0 ks.length c0) (.int .i64 3) (.string ⟨#[]⟩) (.slice A1 ks'.length c1)
  have HA := Lib.hid hA; have HU := Lib.hid hU; have HA' := Lib.hid hA'; have HU' := Lib.hid hU'
  clear hA hU hA' hU'
  go_enter Tryz.func79, Tryz.ntmps79
  go_upto_region 1 with fail
  generalize (w.alloc (.cells #[.int .i64 3, .string ⟨#[]⟩, .slice A0 ks.length c0] 29)).alloc (.cells #[.int .i64 3, .string ⟨#[]⟩, .slice A1 ks'.length c1] 29) = w1 at bx by' hb1 hsz ⊢
  obtain ⟨x0, x1, x2⟩ := bx.cells
  obtain ⟨y0, y1, y2⟩ := by'.cells
  have HB1 := Lib.hid hb1; have BX := Lib.hid bx; have BY := Lib.hid by'
  clear bx by' hb1 hsz
  go_wp2_with fail
  clear x0 x1 x2 y0 y1 y2 hl2
  go_loopw [70, 2] (fun i b wr => ∃ j : Nat, j ≤ ks.length ∧ i = .int .i64 j ∧ PairAt s x y w1 j b wr) (fun i _ _ => ks.length - (intOf i).toNat)
  case atStart => exact ⟨0, Nat.zero_le _, rfl, Below.refl _ _, .inl ⟨rfl, rfl⟩⟩
  case round =>
    obtain ⟨j, hj, rfl, hbw, hst⟩ := hrel
    by_cases hlt : j < ks.length
    · have hlt' : j < ks'.length := by have := HL0.out; have := HL1.out; omega
      obtain ⟨b, off, B1, C1, rfl, d0, d1, d2, hu⟩ := TermAt.cells hlt HA.out HU.out
      obtain ⟨b', off', B2, C2, rfl, d0', d1', d2', hu'⟩ := TermAt.cells hlt' HA'.out HU'.out
      have hbw0 := HB1.out.trans (hbw.mono HB1.out.size)
      have e0 := cell_later hbw0 d0; have e1 := cell_later hbw0 d1; have e2 := cell_later hbw0 d2
      have hq := below_alloc1 wr (.cells #[.int .i64 ks[j].kind, .string ks[j].name, .slice B1 ks[j].kids.length C1] 29)
      have f0 := cell_later hq (cell_later hbw0 d0'); have f1 := cell_later hq (cell_later hbw0 d1'); have f2 := cell_later hq (cell_later hbw0 d2')
      have hpj := HP.out j hlt
      have hyj := HY.out j hlt'
      have hu1 := (hu.later hbw0).later hq
      have hu2 := (hu'.later hbw0).later hq
      have qx := Box.new wr (.int .i64 ks[j].kind) (.string ks[j].name) (.slice B1 ks[j].kids.length C1)
      have BYq := Lib.hid ((BY.out.later hbw).later hq)
      have hjs : (j : Int) < 2 := by have := HL0.out; omega
      have hi : (j : Int) < (ks.length : Int) := by omega
      have hi' : (j : Int) < (ks'.length : Int) := by omega
      have HLT := Lib.hid hlt
      obtain ⟨pj, hpj'⟩ : ∃ pj, ks[j]'hlt = pj := ⟨_, rfl⟩
      obtain ⟨tj, htj'⟩ : ∃ tj, ks'[j]'hlt' = tj := ⟨_, rfl⟩
      rw [hpj'] at hpj e0 e1 e2 hu1 qx
      rw [htj'] at hyj f0 f1 f2 hu2
      rw [hpj'] at hq f0 f1 f2 hu2 BYq
      clear d0 d1 d2 d0' d1' d2' hu hu' hj hpj' htj'
      have HPJ := Lib.hid hpj; have HYJ := Lib.hid hyj; have HQ := Lib.hid (hbw.trans (hq.mono hbw.size))
      have HST := Lib.hid (show (j = 0 ∧ _ = _) ∨ (j = 1 ∧ BindAt _ _ s x) from (by
        rcases hst with h | h | h
        · exact .inl h
        · exact .inr ⟨h.1, h.2.later hq⟩
        · have := HL0.out; omega : (j = 0 ∧ _ = Value.slice none 0 0) ∨ (j = 1 ∧ BindAt (wr.alloc (.cells #[.int .i64 pj.kind, .string pj.name, .slice B1 pj.kids.length C1] 29)) _ s x)))
      clear hpj hyj hst hbw hq hbw0
      go_upto_region 14 with fail
      generalize wr.alloc (.cells #[.int .i64 pj.kind, .string pj.name, .slice B1 pj.kids.length C1] 29) = wq at f0 f1 f2 hu1 hu2 qx BYq HQ HST ⊢
      obtain ⟨q0, q1, q2⟩ := qx.cells
      obtain ⟨y0, y1, y2⟩ := BYq.out.cells
      have HU1 := Lib.hid hu1; have HU2 := Lib.hid hu2
      clear qx hu1 hu2 e0 e1 e2
      obtain ⟨gq, hgq⟩ : ∃ gq, wr.heap.size = gq := ⟨_, rfl⟩
      rw [hgq] at q0 q1 q2 ⊢
      clear hgq
      rcases HST.out with ⟨hj0, hu2⟩ | ⟨hj1, hbd⟩
      · subst hu2
        have HXJ := Lib.hid (show tj = x by rcases HYJ.out with h | h; exact h.2; omega)
        have HJ0 := Lib.hid hj0
        clear hj0
        (refine wp_region_held_drew (S := (fun W => (W.cell? ⟨gq, 0, none⟩ = some (.int .i64 pj.kind) ∧ W.cell? ⟨gq, 1, none⟩ = some (.string pj.name) ∧ W.cell? ⟨gq, 2, none⟩ = some (.slice B1 pj.kids.length C1)) ∧ W.cell? ⟨w.heap.size + 1, 2, none⟩ = some (.slice (some ⟨b', off', none⟩) ks'.length c1) ∧ (W.cell? ⟨b', off' + j * 3, none⟩ = some (.int .i64 tj.kind) ∧ W.cell? ⟨b', off' + j * 3 + 1, none⟩ = some (.string tj.name) ∧ W.cell? ⟨b', off' + j * 3 + 2, none⟩ = some (.slice B2 tj.kids.length C2)) ∧ TermAt W (.agg #[.int .i64 pj.kind, .string pj.name, .slice B1 pj.kids.length C1]) pj ∧ TermAt W (.agg #[.int .i64 tj.kind, .string tj.name, .slice B2 tj.kids.length C2]) tj ∧ Below w1.heap.size w1 W)) (by kernel_rfl) (show _ ∧ _ ∧ _ ∧ _ ∧ _ ∧ _ from ⟨⟨q0, q1, q2⟩, y2, ⟨f0, f1, f2⟩, HU1.out.drew, HU2.out.drew, HQ.out.drew⟩) (fun hHeld => ?_))
        (first | (refine tkJ 0 _ (h := ?_)) | (refine tkM 0 (h := ?_)))
        (first | (refine tkJ 1 _ (h := ?_)) | (refine tkM 1 (h := ?_)))
        (first | (refine tkJ 2 _ (h := ?_)) | (refine tkM 2 (h := ?_)))
        (first | (refine tkJ 3 _ (h := ?_)) | (refine tkM 3 (h := ?_)))
        (first | (refine tkJ 4 _ (h := ?_)) | (refine tkM 4 (h := ?_)))
        (first | (refine tkJ 5 _ (h := ?_)) | (refine tkM 5 (h := ?_)))
        (first | (refine tkJ 6 _ (h := ?_)) | (refine tkM 6 (h := ?_)))
        (refine rdJ 7 (h := fun K hK => ?_); go_simp; go_at_call 79; refine (match_var_nil s pj tj _ _ _ HPJ.out hHeld.2.2.2.1 hHeld.2.2.2.2.1).mono ?_; rintro e w' ⟨v4, rfl, hv4, hb4⟩; have HV4 := Lib.hid hv4; refine shK hK (⟨⟨cell_later hb4 hHeld.1.1, cell_later hb4 hHeld.1.2.1, cell_later hb4 hHeld.1.2.2⟩, cell_later hb4 hHeld.2.1, ⟨cell_later hb4 hHeld.2.2.1.1, cell_later hb4 hHeld.2.2.1.2.1, cell_later hb4 hHeld.2.2.1.2.2⟩, hHeld.2.2.2.1.later hb4, hHeld.2.2.2.2.1.later hb4, hHeld.2.2.2.2.2.trans (hb4.mono hHeld.2.2.2.2.2.size)⟩) (h := fun hHeld => ?_); clear hK K)
        (first | (refine tkJ 8 _ (h := ?_)) | (refine tkM 8 (h := ?_)))
        (first | (refine tkJ 9 _ (h := ?_)) | (refine tkM 9 (h := ?_)))
        (first | (refine tkJ 10 _ (h := ?_)) | (refine tkM 10 (h := ?_)))
        (first | (refine tkJ 11 _ (h := ?_)) | (refine tkM 11 (h := ?_)))
        (first | (refine tkJ 12 _ (h := ?_)) | (refine tkM 12 (h := ?_)))
        (refine wpAnyH_done (by kernel_rfl) ?_ _)
        have HB4 := Lib.hid hHeld.2.2.2.2.2
        rw [HXJ.out] at HV4
        clear hHeld q0 q1 q2 y0 y1 y2 f0 f1 f2
        go_wp2_with fail
        go_roundw
        case rel => exact ⟨j + 1, HLT.out, by go_num, HB4.out, .inr (.inl ⟨by have := HJ0.out; omega, HV4.out⟩)⟩
        case measure => have := HLT.out; simp [intOf]; omega
      · have hyj : tj = y := by rcases HYJ.out with h | h; omega; exact h.2
        have HBD := Lib.hid hbd
        have HY1 := Lib.hid (show tj.bulk ≤ 1048576 by rw [hyj]; exact hy1)
        have HYY := Lib.hid hyj
        have HJ1 := Lib.hid hj1
        clear hj1 hbd hyj
        (refine wp_region_held_drew (S := (fun W => (W.cell? ⟨gq, 0, none⟩ = some (.int .i64 pj.kind) ∧ W.cell? ⟨gq, 1, none⟩ = some (.string pj.name) ∧ W.cell? ⟨gq, 2, none⟩ = some (.slice B1 pj.kids.length C1)) ∧ W.cell? ⟨w.heap.size + 1, 2, none⟩ = some (.slice (some ⟨b', off', none⟩) ks'.length c1) ∧ (W.cell? ⟨b', off' + j * 3, none⟩ = some (.int .i64 tj.kind) ∧ W.cell? ⟨b', off' + j * 3 + 1, none⟩ = some (.string tj.name) ∧ W.cell? ⟨b', off' + j * 3 + 2, none⟩ = some (.slice B2 tj.kids.length C2)) ∧ TermAt W (.agg #[.int .i64 pj.kind, .string pj.name, .slice B1 pj.kids.length C1]) pj ∧ TermAt W (.agg #[.int .i64 tj.kind, .string tj.name, .slice B2 tj.kids.length C2]) tj ∧ Below w1.heap.size w1 W ∧ BindAt W u2 s x)) (by kernel_rfl) (show _ ∧ _ ∧ _ ∧ _ ∧ _ ∧ _ ∧ _ from ⟨⟨q0, q1, q2⟩, y2, ⟨f0, f1, f2⟩, HU1.out.drew, HU2.out.drew, HQ.out.drew, HBD.out.later (Below.refl _ _).drew⟩) (fun hHeld => ?_))
        (first | (refine tkJ 0 _ (h := ?_)) | (refine tkM 0 (h := ?_)))
        (first | (refine tkJ 1 _ (h := ?_)) | (refine tkM 1 (h := ?_)))
        (first | (refine tkJ 2 _ (h := ?_)) | (refine tkM 2 (h := ?_)))
        (first | (refine tkJ 3 _ (h := ?_)) | (refine tkM 3 (h := ?_)))
        (first | (refine tkJ 4 _ (h := ?_)) | (refine tkM 4 (h := ?_)))
        (first | (refine tkJ 5 _ (h := ?_)) | (refine tkM 5 (h := ?_)))
        (first | (refine tkJ 6 _ (h := ?_)) | (refine tkM 6 (h := ?_)))
        (refine rdJ 7 (h := fun K hK => ?_); go_simp; go_at_call 79; refine (match_var_one s pj tj x _ _ _ _ HPJ.out hHeld.2.2.2.1 hHeld.2.2.2.2.1 hHeld.2.2.2.2.2.2 hx1 HY1.out).mono ?_; rintro e w' ⟨rfl, hb4⟩; have HV4 := Lib.hid (hHeld.2.2.2.2.2.2.later hb4); refine shK hK (⟨⟨cell_later hb4 hHeld.1.1, cell_later hb4 hHeld.1.2.1, cell_later hb4 hHeld.1.2.2⟩, cell_later hb4 hHeld.2.1, ⟨cell_later hb4 hHeld.2.2.1.1, cell_later hb4 hHeld.2.2.1.2.1, cell_later hb4 hHeld.2.2.1.2.2⟩, hHeld.2.2.2.1.later hb4, hHeld.2.2.2.2.1.later hb4, hHeld.2.2.2.2.2.1.trans (hb4.mono hHeld.2.2.2.2.2.1.size), hHeld.2.2.2.2.2.2.later hb4⟩) (h := fun hHeld => ?_); clear hK K)
        (first | (refine tkJ 8 _ (h := ?_)) | (refine tkM 8 (h := ?_)))
        (first | (refine tkJ 9 _ (h := ?_)) | (refine tkM 9 (h := ?_)))
        (first | (refine tkJ 10 _ (h := ?_)) | (refine tkM 10 (h := ?_)))
        (first | (refine tkJ 11 _ (h := ?_)) | (refine tkM 11 (h := ?_)))
        (first | (refine tkJ 12 _ (h := ?_)) | (refine tkM 12 (h := ?_)))
        (refine wpAnyH_done (by kernel_rfl) ?_ _)
        have HB4 := Lib.hid hHeld.2.2.2.2.2.1
        rw [HYY.out]
        clear hHeld q0 q1 q2 y0 y1 y2 f0 f1 f2
        obtain ⟨q, hq⟩ : ∃ q, decide (x.cmp y = 0) = q := ⟨_, rfl⟩
        rw [hq]
        have HQQ := Lib.hid hq
        clear hq
        cases q
        · go_wp2_with fail
          go_ret2
          exact ⟨HB1.out.trans (HB4.out.mono HB1.out.size), .inr ⟨HQQ.out, rfl⟩⟩
        · go_wp2_with fail
          go_roundw
          case rel => exact ⟨j + 1, HLT.out, by go_num, HB4.out, .inr (.inr ⟨by have := HJ1.out; omega, HV4.out, of_decide_eq_true HQQ.out⟩)⟩
          case measure => have := HLT.out; simp [intOf]; omega
    · obtain rfl : j = ks.length := by omega
      have hj2 : ks.length = 2 := HL0.out
      rcases hst with h | h | ⟨_, hbd, hc⟩
      · omega
      · omega
      have HBD := Lib.hid hbd; have HC := Lib.hid hc
      have HBW := Lib.hid (HB1.out.trans (hbw.mono HB1.out.size))
      clear hbd hc hbw hj2
      go_wp2_with fail
      go_ret2
      exact ⟨HBW.out, .inl ⟨decide_eq_true HC.out, _, rfl, HBD.out⟩⟩
end Go.Proofs.YtihbmgkbipeakaaGreat

namespace Go.Proofs.YtihbmgkbipeakaaGreat
open Go.RowKit

attribute [local go_sem ↓] Go.wp_at_zero Go.wp_at_succ

theorem TermAt.keepN {w w' : World} {v : Value} {t : T} (h : TermAt w v t) (hg : w.grownBy w' none) : TermAt w' v t :=
  h.keep fun p hp => by
    obtain ⟨u, hu⟩ := Option.isSome_iff_exists.1 hp
    exact World.cell?_of_block (hg.block _ (World.block_lt_of_cell? w p hu) (by simp))

set_option maxRecDepth 100000 in
set_option maxHeartbeats 8000000 in
theorem copy_one (s : ByteArray) (t : T) (v : Value) (w : World) (hv : BindAt w v s t) (hbk : t.bulk ≤ 1048576) :
    Calls Tryz.prog 80 #[v] w fun e w' => ∃ v', e = .returned v' ∧ BindAt w' v' s t ∧ Below w.heap.size w w' := by
  obtain ⟨b, off, cap, A, c, rfl, d0, d1, d2, d3, ht⟩ := hv
  obtain ⟨i0, hi0, hz0, hz1, hz2⟩ := info_parts Tryz.infoB
  have HBK := Lib.hid hbk; have HT := Lib.hid ht
  clear hbk ht
  go_enter Tryz.func80, Tryz.ntmps80
  go_wp2_with fail
  go_loopw [8, 3] (fun i o wr => Below w.heap.size w wr ∧ ((i = .int .i64 0 ∧ o = .slice none 0 0 ∧ w = wr) ∨ (i = .int .i64 1 ∧ BindAt wr o s t))) (fun i _ _ => 1 - (intOf i).toNat)
  case atStart => exact ⟨Below.refl _ _, .inl ⟨rfl, rfl, rfl⟩⟩
  case round =>
    obtain ⟨hbw, hst⟩ := hrel
    rcases hst with ⟨rfl, rfl, rfl⟩ | ⟨rfl, hbd⟩
    · clear hbw
      have hw2 := below_alloc1 w (.cells #[.string s, .int .i64 t.kind, .string t.name, .slice A t.kids.length c] 66)
      have hnw := heap_alloc_new w (.cells #[.string s, .int .i64 t.kind, .string t.name, .slice A t.kids.length c] 66)
      have HW2 := Lib.hid hw2
      have HT2 := Lib.hid (HT.out.later hw2)
      clear hw2
      go_upto_region 5 with fail
      obtain ⟨g5, hg5⟩ : ∃ g5, w.heap.size = g5 := ⟨_, rfl⟩
      rw [show (⟨w.heap.size, 0, none⟩ : Addr) = ⟨g5, 0, none⟩ by rw [hg5]]
      rw [hg5] at hnw
      generalize w.alloc (.cells #[.string s, .int .i64 t.kind, .string t.name, .slice A t.kids.length c] 66) = w2 at hnw HW2 HT2 ⊢
      have y0 : w2.cell? ⟨g5, 0, none⟩ = some (.string s) := by unfold World.cell?; rw [hnw]; rfl
      have y1 : w2.cell? ⟨g5, 1, none⟩ = some (.int .i64 t.kind) := by unfold World.cell?; rw [hnw]; rfl
      have y2 : w2.cell? ⟨g5, 2, none⟩ = some (.string t.name) := by unfold World.cell?; rw [hnw]; rfl
      have y3 : w2.cell? ⟨g5, 3, none⟩ = some (.slice A t.kids.length c) := by unfold World.cell?; rw [hnw]; rfl
      clear hnw hg5 d0 d1 d2 d3
      refine wp_region_any (by kernel_rfl) ?_
      (try (change wpAny _ _ _ _ _ _ _ (World.drew _)))
      (refine wpAny_take (i := 0) (v := ?_) (by simp only [List.getElem?_toArray, List.getElem?_cons_zero]; rfl) (by kernel_rfl) (by kernel_rfl) (by kernel_rfl) (by exact fun _ _ _ h => h) (Or.inl ⟨by rfl, ?_⟩) ?_; rotate_left 1; · (intro w; go_simp; (try with_reducible rfl)))
      (refine wpAny_take (i := 1) (v := ?_) (by simp only [List.getElem?_toArray, List.getElem?_cons_succ, List.getElem?_cons_zero]; rfl) (by kernel_rfl) (by kernel_rfl) (by kernel_rfl) (by exact fun _ _ _ h => h) (Or.inl ⟨by rfl, ?_⟩) ?_; rotate_left 1; · (intro w; go_simp; (try with_reducible rfl)))
      (refine wpAny_take (i := 3) (v := ?_) (by simp only [List.getElem?_toArray, List.getElem?_cons_succ, List.getElem?_cons_zero]; rfl) (by kernel_rfl) (by kernel_rfl) (by kernel_rfl) (by exact fun _ _ _ h => h) (Or.inl ⟨by rfl, ?_⟩) ?_; rotate_left 1; · (intro w; go_simp; (try with_reducible rfl)))
      refine wpAny_ready (rs := [2, 4]) (by kernel_rfl) (by simp) ?_
      refine AllReady.cons (by simp only [List.getElem?_toArray, List.getElem?_cons_succ, List.getElem?_cons_zero]; rfl) (fun K hK => ?_) ?_
      · go_simp
        (first | (refine hK _ _ ?_; clear hK K) | skip)
        refine wpAny_ready (rs := [4]) (by kernel_rfl) (by simp) ?_
        refine AllReady.cons (by simp only [List.getElem?_toArray, List.getElem?_cons_succ, List.getElem?_cons_zero]; rfl) (fun K hK => ?_) ?_
        · go_simp
          (first | (refine hK _ _ ?_; clear hK K) | skip)
          refine wpAny_ready (rs := [5]) (by kernel_rfl) (by simp) ?_
          refine AllReady.cons (by simp only [List.getElem?_toArray, List.getElem?_cons_succ, List.getElem?_cons_zero]; rfl) (fun K hK => ?_) ?_
          · (go_simp; go_at_call 53; refine (ocopy (t.bulk + 1) t _ _ (by omega) HT2.out.drew HBK.out).mono ?_; rintro e w3 ⟨A3, C3, rfl, hti, hb3⟩; have hb3' := below_undrew hb3; have z0 := cell_later hb3' y0; have z1 := cell_later hb3' y1; have z2 := cell_later hb3' y2; have z3 := cell_later hb3' y3; have HOWN3 := Lib.hid (World.ownsRow_nil (w3.alloc (.cells #[.string s, .int .i64 t.kind, .string t.name, .slice A3 t.kids.length C3] 66)) w.heap.size 66 4); have HONE := Lib.hid (bind_one s t A3 C3); have HBS := Lib.hid (show w.heap.size ≤ (w3.alloc (.cells #[.string s, .int .i64 t.kind, .string t.name, .slice A3 t.kids.length C3] 66)).heap.size by rw [size_alloc1]; have := hb3'.size; have := HW2.out.size; omega))
            (first | (refine hK _ _ ?_; clear hK K) | skip)
            (refine wpAny_take (i := 6) (v := ?_) (by simp only [List.getElem?_toArray, List.getElem?_cons_succ, List.getElem?_cons_zero]; rfl) (by kernel_rfl) (by kernel_rfl) (by kernel_rfl) (by exact fun _ _ _ h => h) (Or.inl ⟨by rfl, ?_⟩) ?_; rotate_left 1; · (intro w; go_simp; (try with_reducible rfl)))
            refine wpAny_ready (rs := [7]) (by kernel_rfl) (by simp) ?_
            refine AllReady.cons (by simp only [List.getElem?_toArray, List.getElem?_cons_succ, List.getElem?_cons_zero]; rfl) (fun K hK => ?_) ?_
            · go_simp
              (first | (refine hK _ _ ?_; clear hK K) | skip)
              refine wpAny_ready (rs := [8]) (by kernel_rfl) (by simp) ?_
              refine AllReady.cons (by simp only [List.getElem?_toArray, List.getElem?_cons_succ, List.getElem?_cons_zero]; rfl) (fun K hK => ?_) ?_
              · (refine step_append_lies _ (by rfl) _ _ _ (by rfl) w.heap.size 66 i0 _ 4 64 Tryz.underlying62 hi0 hz0 hz1 hz2 rfl (by omega) _ 0 _ (by rfl) HOWN3.out ⟨_, 0, none⟩ 1 1 _ (by rfl) (by rfl) (World.news_of_block (heap_alloc_new _ _)) HONE.out (by omega) (by unfold maxLen; omega) (by omega) HBS.out _ rfl ?_; intro g cap4 w4 hown4 hgrow hat hlt4; go_simp)
                (first | (refine hK _ _ ?_; clear hK K) | skip)
                (refine wpAny_take (i := 9) (v := ?_) (by simp only [List.getElem?_toArray, List.getElem?_cons_succ, List.getElem?_cons_zero]; rfl) (by kernel_rfl) (by kernel_rfl) (by kernel_rfl) (by exact fun _ _ _ h => h) (Or.inl ⟨by rfl, ?_⟩) ?_; rotate_left 1; · (intro w; go_simp; (try with_reducible rfl)))
                refine wpAny_done (by kernel_rfl) ?_ _
                have hb5 := hb3'.trans ((below_alloc1 w3 (.cells #[.string s, .int .i64 t.kind, .string t.name, .slice A3 t.kids.length C3] 66)).mono hb3'.size)
                have hb6 : Below w.heap.size w w4 := (HW2.out.trans (hb5.mono HW2.out.size)).grown hgrow HBS.out (fun k hk => by cases hk)
                have HBI := Lib.hid (own_bind (t := t) hown4 (((hti.at.later (below_alloc1 w3 (.cells #[.string s, .int .i64 t.kind, .string t.name, .slice A3 t.kids.length C3] 66))).keepN hgrow)))
                have HB6 := Lib.hid hb6
                clear hb5 hb6 hown4 hgrow hat hlt4 hti z0 z1 z2 z3
                go_wp2_with fail
                go_roundw
                case rel => exact ⟨HB6.out, .inr ⟨rfl, HBI.out⟩⟩
                case measure => simp [intOf]
              exact AllReady.nil
            exact AllReady.nil
          exact AllReady.nil
        exact AllReady.nil
      refine AllReady.cons (by simp only [List.getElem?_toArray, List.getElem?_cons_succ, List.getElem?_cons_zero]; rfl) (fun K hK => ?_) ?_
      · go_simp
        (first | (refine hK _ _ ?_; clear hK K) | skip)
        refine wpAny_ready (rs := [2, 5]) (by kernel_rfl) (by simp) ?_
        refine AllReady.cons (by simp only [List.getElem?_toArray, List.getElem?_cons_succ, List.getElem?_cons_zero]; rfl) (fun K hK => ?_) ?_
        · go_simp
          (first | (refine hK _ _ ?_; clear hK K) | skip)
          refine wpAny_ready (rs := [5]) (by kernel_rfl) (by simp) ?_
          refine AllReady.cons (by simp only [List.getElem?_toArray, List.getElem?_cons_succ, List.getElem?_cons_zero]; rfl) (fun K hK => ?_) ?_
          · (go_simp; go_at_call 53; refine (ocopy (t.bulk + 1) t _ _ (by omega) HT2.out.drew HBK.out).mono ?_; rintro e w3 ⟨A3, C3, rfl, hti, hb3⟩; have hb3' := below_undrew hb3; have z0 := cell_later hb3' y0; have z1 := cell_later hb3' y1; have z2 := cell_later hb3' y2; have z3 := cell_later hb3' y3; have HOWN3 := Lib.hid (World.ownsRow_nil (w3.alloc (.cells #[.string s, .int .i64 t.kind, .string t.name, .slice A3 t.kids.length C3] 66)) w.heap.size 66 4); have HONE := Lib.hid (bind_one s t A3 C3); have HBS := Lib.hid (show w.heap.size ≤ (w3.alloc (.cells #[.string s, .int .i64 t.kind, .string t.name, .slice A3 t.kids.length C3] 66)).heap.size by rw [size_alloc1]; have := hb3'.size; have := HW2.out.size; omega))
            (first | (refine hK _ _ ?_; clear hK K) | skip)
            (refine wpAny_take (i := 6) (v := ?_) (by simp only [List.getElem?_toArray, List.getElem?_cons_succ, List.getElem?_cons_zero]; rfl) (by kernel_rfl) (by kernel_rfl) (by kernel_rfl) (by exact fun _ _ _ h => h) (Or.inl ⟨by rfl, ?_⟩) ?_; rotate_left 1; · (intro w; go_simp; (try with_reducible rfl)))
            refine wpAny_ready (rs := [7]) (by kernel_rfl) (by simp) ?_
            refine AllReady.cons (by simp only [List.getElem?_toArray, List.getElem?_cons_succ, List.getElem?_cons_zero]; rfl) (fun K hK => ?_) ?_
            · go_simp
              (first | (refine hK _ _ ?_; clear hK K) | skip)
              refine wpAny_ready (rs := [8]) (by kernel_rfl) (by simp) ?_
              refine AllReady.cons (by simp only [List.getElem?_toArray, List.getElem?_cons_succ, List.getElem?_cons_zero]; rfl) (fun K hK => ?_) ?_
              · (refine step_append_lies _ (by rfl) _ _ _ (by rfl) w.heap.size 66 i0 _ 4 64 Tryz.underlying62 hi0 hz0 hz1 hz2 rfl (by omega) _ 0 _ (by rfl) HOWN3.out ⟨_, 0, none⟩ 1 1 _ (by rfl) (by rfl) (World.news_of_block (heap_alloc_new _ _)) HONE.out (by omega) (by unfold maxLen; omega) (by omega) HBS.out _ rfl ?_; intro g cap4 w4 hown4 hgrow hat hlt4; go_simp)
                (first | (refine hK _ _ ?_; clear hK K) | skip)
                (refine wpAny_take (i := 9) (v := ?_) (by simp only [List.getElem?_toArray, List.getElem?_cons_succ, List.getElem?_cons_zero]; rfl) (by kernel_rfl) (by kernel_rfl) (by kernel_rfl) (by exact fun _ _ _ h => h) (Or.inl ⟨by rfl, ?_⟩) ?_; rotate_left 1; · (intro w; go_simp; (try with_reducible rfl)))
                refine wpAny_done (by kernel_rfl) ?_ _
                have hb5 := hb3'.trans ((below_alloc1 w3 (.cells #[.string s, .int .i64 t.kind, .string t.name, .slice A3 t.kids.length C3] 66)).mono hb3'.size)
                have hb6 : Below w.heap.size w w4 := (HW2.out.trans (hb5.mono HW2.out.size)).grown hgrow HBS.out (fun k hk => by cases hk)
                have HBI := Lib.hid (own_bind (t := t) hown4 (((hti.at.later (below_alloc1 w3 (.cells #[.string s, .int .i64 t.kind, .string t.name, .slice A3 t.kids.length C3] 66))).keepN hgrow)))
                have HB6 := Lib.hid hb6
                clear hb5 hb6 hown4 hgrow hat hlt4 hti z0 z1 z2 z3
                go_wp2_with fail
                go_roundw
                case rel => exact ⟨HB6.out, .inr ⟨rfl, HBI.out⟩⟩
                case measure => simp [intOf]
              exact AllReady.nil
            exact AllReady.nil
          exact AllReady.nil
        refine AllReady.cons (by simp only [List.getElem?_toArray, List.getElem?_cons_succ, List.getElem?_cons_zero]; rfl) (fun K hK => ?_) ?_
        · (go_simp; go_at_call 53; refine (ocopy (t.bulk + 1) t _ _ (by omega) HT2.out.drew HBK.out).mono ?_; rintro e w3 ⟨A3, C3, rfl, hti, hb3⟩; have hb3' := below_undrew hb3; have z0 := cell_later hb3' y0; have z1 := cell_later hb3' y1; have z2 := cell_later hb3' y2; have z3 := cell_later hb3' y3; have HOWN3 := Lib.hid (World.ownsRow_nil (w3.alloc (.cells #[.string s, .int .i64 t.kind, .string t.name, .slice A3 t.kids.length C3] 66)) w.heap.size 66 4); have HONE := Lib.hid (bind_one s t A3 C3); have HBS := Lib.hid (show w.heap.size ≤ (w3.alloc (.cells #[.string s, .int .i64 t.kind, .string t.name, .slice A3 t.kids.length C3] 66)).heap.size by rw [size_alloc1]; have := hb3'.size; have := HW2.out.size; omega))
          (first | (refine hK _ _ ?_; clear hK K) | skip)
          refine wpAny_ready (rs := [2]) (by kernel_rfl) (by simp) ?_
          refine AllReady.cons (by simp only [List.getElem?_toArray, List.getElem?_cons_succ, List.getElem?_cons_zero]; rfl) (fun K hK => ?_) ?_
          · go_simp
            (first | (refine hK _ _ ?_; clear hK K) | skip)
            (refine wpAny_take (i := 6) (v := ?_) (by simp only [List.getElem?_toArray, List.getElem?_cons_succ, List.getElem?_cons_zero]; rfl) (by kernel_rfl) (by kernel_rfl) (by kernel_rfl) (by exact fun _ _ _ h => h) (Or.inl ⟨by rfl, ?_⟩) ?_; rotate_left 1; · (intro w; go_simp; (try with_reducible rfl)))
            refine wpAny_ready (rs := [7]) (by kernel_rfl) (by simp) ?_
            refine AllReady.cons (by simp only [List.getElem?_toArray, List.getElem?_cons_succ, List.getElem?_cons_zero]; rfl) (fun K hK => ?_) ?_
            · go_simp
              (first | (refine hK _ _ ?_; clear hK K) | skip)
              refine wpAny_ready (rs := [8]) (by kernel_rfl) (by simp) ?_
              refine AllReady.cons (by simp only [List.getElem?_toArray, List.getElem?_cons_succ, List.getElem?_cons_zero]; rfl) (fun K hK => ?_) ?_
              · (refine step_append_lies _ (by rfl) _ _ _ (by rfl) w.heap.size 66 i0 _ 4 64 Tryz.underlying62 hi0 hz0 hz1 hz2 rfl (by omega) _ 0 _ (by rfl) HOWN3.out ⟨_, 0, none⟩ 1 1 _ (by rfl) (by rfl) (World.news_of_block (heap_alloc_new _ _)) HONE.out (by omega) (by unfold maxLen; omega) (by omega) HBS.out _ rfl ?_; intro g cap4 w4 hown4 hgrow hat hlt4; go_simp)
                (first | (refine hK _ _ ?_; clear hK K) | skip)
                (refine wpAny_take (i := 9) (v := ?_) (by simp only [List.getElem?_toArray, List.getElem?_cons_succ, List.getElem?_cons_zero]; rfl) (by kernel_rfl) (by kernel_rfl) (by kernel_rfl) (by exact fun _ _ _ h => h) (Or.inl ⟨by rfl, ?_⟩) ?_; rotate_left 1; · (intro w; go_simp; (try with_reducible rfl)))
                refine wpAny_done (by kernel_rfl) ?_ _
                have hb5 := hb3'.trans ((below_alloc1 w3 (.cells #[.string s, .int .i64 t.kind, .string t.name, .slice A3 t.kids.length C3] 66)).mono hb3'.size)
                have hb6 : Below w.heap.size w w4 := (HW2.out.trans (hb5.mono HW2.out.size)).grown hgrow HBS.out (fun k hk => by cases hk)
                have HBI := Lib.hid (own_bind (t := t) hown4 (((hti.at.later (below_alloc1 w3 (.cells #[.string s, .int .i64 t.kind, .string t.name, .slice A3 t.kids.length C3] 66))).keepN hgrow)))
                have HB6 := Lib.hid hb6
                clear hb5 hb6 hown4 hgrow hat hlt4 hti z0 z1 z2 z3
                go_wp2_with fail
                go_roundw
                case rel => exact ⟨HB6.out, .inr ⟨rfl, HBI.out⟩⟩
                case measure => simp [intOf]
              exact AllReady.nil
            exact AllReady.nil
          exact AllReady.nil
        exact AllReady.nil
      exact AllReady.nil
    · have HBD := Lib.hid hbd; have HBW := Lib.hid hbw
      clear hbd hbw
      go_wp2_with fail
      go_ret
      exact ⟨_, rfl, HBD.out, HBW.out⟩

set_option maxRecDepth 100000 in
set_option maxHeartbeats 8000000 in
theorem omatch_pair (s : ByteArray) (x y p t : T) (pv v : Value) (w : World) (hpe : p = .mk 3 ⟨#[]⟩ [.mk 2 s [], .mk 2 s []]) (hte : t = .mk 3 ⟨#[]⟩ [x, y]) (hp : TermAt w pv p) (ht : TermAt w v t) (hx1 : x.bulk ≤ 1048576) (hy1 : y.bulk ≤ 1048576)
    (hpb : p.bulk ≤ 1048576) (htb : t.bulk ≤ 1048576) (hpv : p.valid = true) (htg : t.ground = true) (htn : t.isN = true) :
    Calls Tryz.prog 35 #[pv, v, .slice none 0 0] w (PairPost s x (decide (x.cmp y = 0)) w) := by
  have HM := Lib.hid (fun a b W h1 h2 => match_pair s x y p t a b W hpe hte h1 h2 hx1 hy1)
  have HV := Lib.hid (fun a W h => ovalid p a W h hpb true 0 hpv (.inl ⟨rfl, rfl⟩))
  have HG := Lib.hid (fun a W h => oground t a W h htb)
  have HN := Lib.hid (fun a W h => oisn t a W h htb)
  rw [htg] at HG; rw [htn] at HN
  have HCP := Lib.hid (fun v' W (h : BindAt W v' s x) => copy_one s x v' W h hx1)
  obtain ⟨q, hq⟩ : ∃ q, decide (x.cmp y = 0) = q := ⟨_, rfl⟩
  rw [hq] at HM ⊢
  clear hpe hte hx1 hy1 hpb htb hpv htg htn hq
  obtain ⟨A0, c0, rfl⟩ := TermIn.view hp.inAll
  obtain ⟨A1, c1, rfl⟩ := TermIn.view ht.inAll
  obtain ⟨bx, by', hb1, hsz⟩ := box_two w (.int .i64 p.kind) (.string p.name) (.slice A0 p.kids.length c0) (.int .i64 t.kind) (.string t.name) (.slice A1 t.kids.length c1)
  have HT := Lib.hid ht; have HP := Lib.hid hp
  clear hp ht
  go_enter Tryz.func35, Tryz.ntmps35
  go_upto_region 1 with fail
  generalize (w.alloc (.cells #[.int .i64 p.kind, .string p.name, .slice A0 p.kids.length c0] 29)).alloc (.cells #[.int .i64 t.kind, .string t.name, .slice A1 t.kids.length c1] 29) = w1 at bx by' hb1 hsz ⊢
  obtain ⟨x0, x1, x2⟩ := bx.cells
  have HB1 := Lib.hid hb1; have BX := Lib.hid bx; have BY := Lib.hid by'
  clear bx by' hb1 hsz
  go_wp2_with fail
  refine (HV.out _ _ (HP.out.later HB1.out)).mono ?_; rintro e w2 ⟨rfl, hb2⟩
  have HB2 := Lib.hid (HB1.out.trans (hb2.mono HB1.out.size)); have BX2 := Lib.hid (BX.out.later hb2); have BY2 := Lib.hid (BY.out.later hb2)
  clear hb2 x0 x1 x2
  obtain ⟨y0, y1, y2⟩ := BY2.out.cells
  go_wp2_with fail
  refine (HG.out _ _ (HT.out.later HB2.out)).mono ?_; rintro e w3 ⟨rfl, hb3⟩
  have HB3 := Lib.hid (HB2.out.trans (hb3.mono HB2.out.size)); have BX3 := Lib.hid (BX2.out.later hb3); have BY3 := Lib.hid (BY2.out.later hb3)
  clear hb3 y0 y1 y2
  obtain ⟨y0, y1, y2⟩ := BY3.out.cells
  go_wp2_with fail
  refine (HN.out _ _ (HT.out.later HB3.out)).mono ?_; rintro e w4 ⟨rfl, hb4⟩
  have HB4 := Lib.hid (HB3.out.trans (hb4.mono HB3.out.size)); have BX4 := Lib.hid (BX3.out.later hb4); have BY4 := Lib.hid (BY3.out.later hb4)
  clear hb4 y0 y1 y2
  go_wp2_with fail
  refine (proper_nil _).mono ?_; rintro e w5 ⟨rfl, rfl⟩
  obtain ⟨x0, x1, x2⟩ := BX4.out.cells
  obtain ⟨y0, y1, y2⟩ := BY4.out.cells
  go_wp2_with fail
  refine (HM.out _ _ _ (HP.out.later HB4.out) (HT.out.later HB4.out)).mono ?_; rintro e w6 ⟨hb6, hres⟩
  have HB6 := Lib.hid (HB4.out.trans (hb6.mono HB4.out.size))
  clear hb6 x0 x1 x2 y0 y1 y2
  rcases hres with ⟨rfl, v', rfl, hv'⟩ | ⟨rfl, rfl⟩
  · have HV' := Lib.hid hv'
    clear hv'
    go_wp2_with fail
    refine (HCP.out _ _ HV'.out).mono ?_; rintro e w7 ⟨v7, rfl, hv7, hb7⟩
    have HV7 := Lib.hid hv7; have HB7 := Lib.hid (HB6.out.trans (hb7.mono HB6.out.size))
    clear hv7 hb7
    go_wp2_with fail
    go_ret2
    exact ⟨HB7.out, .inl ⟨rfl, _, rfl, HV7.out⟩⟩
  · go_wp2_with fail
    go_ret2
    exact ⟨HB6.out, .inr ⟨rfl, rfl⟩⟩
end Go.Proofs.YtihbmgkbipeakaaGreat

namespace Go.Proofs.YtihbmgkbipeakaaGreat
open Go.RowKit

theorem MovesAt.keep {w w' : World} {A : Option Addr} {ms : List (Int × T)} (h : MovesAt w A ms) (hk : ∀ p : Addr, (w.cell? p).isSome = true → w'.cell? p = w.cell? p) : MovesAt w' A ms := by
  rcases h with h | ⟨b, off, e, hc⟩
  · exact .inl h
  · refine .inr ⟨b, off, e, fun i hi => ?_⟩
    obtain ⟨A', c', h0, h1, h2, h3, h4, h5⟩ := hc i hi
    have key : ∀ {p : Addr} {v : Value}, w.cell? p = some v → w'.cell? p = some v := fun {p v} hp => (hk p (by rw [hp]; rfl)).trans hp
    exact ⟨A', c', key h0, key h1, key h2, key h3, h4.keep hk, h5⟩
/-- Moves all of whose memory lies in certain blocks. -/
def MovesIn (S : Nat → Bool) (w : World) (A : Option Addr) (ms : List (Int × T)) : Prop := MovesAt (only w S) A ms
theorem MovesIn.at {S : Nat → Bool} {w : World} {A : Option Addr} {ms : List (Int × T)} (h : MovesIn S w A ms) : MovesAt w A ms :=
  MovesAt.keep h fun p hp => by
    rw [cell_only] at hp ⊢
    split at hp
    · rename_i hS; rw [if_pos hS]
    · cases hp
theorem MovesIn.keep {S S' : Nat → Bool} {w w' : World} {A : Option Addr} {ms : List (Int × T)} (h : MovesIn S w A ms) (hk : ∀ b, S b = true → b < w.heap.size → S' b = true ∧ w'.heap[b]? = w.heap[b]?) : MovesIn S' w' A ms :=
  MovesAt.keep h fun p hp => by
    rw [cell_only] at hp
    rw [cell_only, cell_only]
    split at hp
    · rename_i hS
      obtain ⟨v, hv⟩ := Option.isSome_iff_exists.1 hp
      obtain ⟨h1, h2⟩ := hk _ hS (World.block_lt_of_cell? w p hv)
      rw [if_pos hS, if_pos h1]; exact World.cell?_of_block h2
    · cases hp

/-- Block g is a row of cap moves, of which the first ones are these; their terms lie outside that block, from base on. -/
def RowM (w : World) (base g cap : Nat) (L : List (Int × T)) : Prop :=
  ∃ cur : Array Value, w.heap[g]? = some (.cells cur 52 (0, 0)) ∧ cur.size = cap * 4 ∧ L.length ≤ cap ∧ cap ≤ maxLen ∧ base ≤ g ∧
    ∀ i (h : i < L.length), ∃ u0 u1 u2, cur[i * 4]? = some (.int .i64 L[i].1) ∧ cur[i * 4 + 1]? = some u0 ∧ cur[i * 4 + 2]? = some u1 ∧ cur[i * 4 + 3]? = some u2 ∧ TermIn (but base (some g)) w (.agg #[u0, u1, u2]) L[i].2 ∧ -9223372036854775808 ≤ L[i].1 ∧ L[i].1 ≤ 9223372036854775807
def MovesRow (w : World) (base : Nat) (v : Value) (L : List (Int × T)) : Prop :=
  (v = .slice none 0 0 ∧ L = []) ∨ ∃ g cap, v = .slice (some ⟨g, 0, none⟩) L.length cap ∧ RowM w base g cap L
theorem MovesRow.nil (w : World) (base : Nat) : MovesRow w base (.slice none 0 0) [] := .inl ⟨rfl, rfl⟩
theorem RowM.keep {w w' : World} {base g cap : Nat} {L : List (Int × T)} (h : RowM w base g cap L) (hk : ∀ b, base ≤ b → b < w.heap.size → w'.heap[b]? = w.heap[b]?) : RowM w' base g cap L := by
  obtain ⟨cur, h1, h2, h3, h4, h5, h6⟩ := h
  refine ⟨cur, ?_, h2, h3, h4, h5, fun i hi => ?_⟩
  · rw [hk g h5 (Array.getElem?_eq_some_iff.1 h1).1]; exact h1
  · obtain ⟨u0, u1, u2, a0, a, b, c, d, e⟩ := h6 i hi
    exact ⟨u0, u1, u2, a0, a, b, c, d.keep fun b hb hl => ⟨hb, hk b (but_iff.1 hb).1 hl⟩, e⟩
theorem MovesRow.keep {w w' : World} {base : Nat} {v : Value} {L : List (Int × T)} (h : MovesRow w base v L) (hk : ∀ b, base ≤ b → b < w.heap.size → w'.heap[b]? = w.heap[b]?) : MovesRow w' base v L := by
  rcases h with h | ⟨g, cap, rfl, h⟩
  · exact .inl h
  · exact .inr ⟨g, cap, rfl, h.keep hk⟩
theorem MovesRow.later {w w' : World} {base : Nat} {v : Value} {L : List (Int × T)} (h : MovesRow w base v L) (hb : Below w.heap.size w w') : MovesRow w' base v L := h.keep fun b _ hl => hb.block b hl
theorem MovesRow.shape {w : World} {base : Nat} {v : Value} {L : List (Int × T)} (h : MovesRow w base v L) : ∃ A cap, v = .slice A L.length cap ∧ L.length ≤ cap ∧ cap ≤ maxLen := by
  rcases h with ⟨rfl, rfl⟩ | ⟨g, cap, rfl, cur, _, _, h3, h4, _⟩
  · exact ⟨none, 0, rfl, Nat.le_refl _, Nat.zero_le _⟩
  · exact ⟨_, cap, rfl, h3, h4⟩
theorem MovesRow.block {w : World} {base : Nat} {v : Value} {L : List (Int × T)} (h : MovesRow w base v L) : ∀ k, v.ownBlock = some k → base ≤ k ∧ k < w.heap.size := by
  intro k hk
  rcases h with ⟨rfl, rfl⟩ | ⟨g, cap, rfl, cur, h1, _, _, _, h5, _⟩
  · cases hk
  · injection hk with hk
    subst hk
    exact ⟨h5, (Array.getElem?_eq_some_iff.1 h1).1⟩
/-- The row as the moves of a strand. -/
theorem MovesRow.moves {w : World} {base : Nat} {v : Value} {L : List (Int × T)} (h : MovesRow w base v L) :
    ∃ A cap, v = .slice A L.length cap ∧ MovesIn (from_ base) w A L := by
  rcases h with ⟨rfl, rfl⟩ | ⟨g, cap, rfl, cur, h1, h2, h3, h4, h5, h6⟩
  · exact ⟨none, 0, rfl, .inl rfl⟩
  · have hc : ∀ j u, cur[j]? = some u → (only w (from_ base)).cell? ⟨g, j, none⟩ = some u := fun j u hu => by
      rw [cell_only, if_pos (by unfold from_; exact decide_eq_true h5)]
      simp [World.cell?, h1, hu]
    refine ⟨_, cap, rfl, .inr ⟨g, 0, rfl, fun i hi => ?_⟩⟩
    obtain ⟨u0, u1, u2, a0, a, b, c, d, e⟩ := h6 i hi
    obtain ⟨A', c', hv⟩ := d.view
    simp only [Value.agg.injEq, Array.mk.injEq, List.cons.injEq, and_true] at hv
    obtain ⟨rfl, rfl, rfl⟩ := hv
    simp only [Nat.zero_add]
    exact ⟨A', c', hc _ _ a0, hc _ _ a, hc _ _ b, hc _ _ c, d.keep (S' := from_ base) fun b hb _ => ⟨decide_eq_true (but_iff.1 hb).1, rfl⟩, e⟩
/-- What the library's laws on append want of it. -/
theorem MovesRow.owns {w : World} {base : Nat} {v : Value} {L : List (Int × T)} (h : MovesRow w base v L) : ∃ xs, w.ownsRow base 52 4 v L.length xs ∧
    (∀ i (h : i < L.length), ∃ u0 u1 u2, xs[i * 4]? = some (.int .i64 L[i].1) ∧ xs[i * 4 + 1]? = some u0 ∧ xs[i * 4 + 2]? = some u1 ∧ xs[i * 4 + 3]? = some u2 ∧ TermIn (but base v.ownBlock) w (.agg #[u0, u1, u2]) L[i].2 ∧ -9223372036854775808 ≤ L[i].1 ∧ L[i].1 ≤ 9223372036854775807) := by
  rcases h with ⟨rfl, rfl⟩ | ⟨g, cap, rfl, cur, h1, h2, h3, h4, h5, h6⟩
  · exact ⟨[], World.ownsRow_nil _ _ _ _, fun i h => by simp at h⟩
  · refine ⟨cur.toList.take (L.length * 4), ⟨?_, .inr ⟨g, cap, cur, rfl, h5, h1, h3, h4, h2, rfl⟩⟩, fun i hi => ?_⟩
    · have hsz : cur.toList.length = cap * 4 := by simpa using h2
      rw [List.length_take]; exact Nat.min_eq_left (by omega)
    · obtain ⟨u0, u1, u2, a0, a, b, c, d, e⟩ := h6 i hi
      refine ⟨u0, u1, u2, ?_, ?_, ?_, ?_, d, e⟩
      all_goals rw [List.getElem?_take, if_pos (by omega)]; simpa
/-- Behind an append of one move. -/
theorem MovesRow.snoc {w w' : World} {base g cap H : Nat} {v : Value} {L : List (Int × T)} {xs : List Value} {u0 u1 u2 : Value} {k : Int} {t : T}
    (hx : ∀ i (h : i < L.length), ∃ u0 u1 u2, xs[i * 4]? = some (.int .i64 L[i].1) ∧ xs[i * 4 + 1]? = some u0 ∧ xs[i * 4 + 2]? = some u1 ∧ xs[i * 4 + 3]? = some u2 ∧ TermIn (but base v.ownBlock) w (.agg #[u0, u1, u2]) L[i].2 ∧ -9223372036854775808 ≤ L[i].1 ∧ L[i].1 ≤ 9223372036854775807) (hl : xs.length = L.length * 4)
    (ht : TermIn (but base v.ownBlock) w (.agg #[u0, u1, u2]) t) (hk : -9223372036854775808 ≤ k ∧ k ≤ 9223372036854775807)
    (hown : w'.ownsRow base 52 4 (.slice (some ⟨g, 0, none⟩) (L.length + 1) cap) (L.length + 1) (xs ++ [.int .i64 k, u0, u1, u2])) (hgrow : w.grownBy w' v.ownBlock) (hat : v.ownBlock = some g ∨ g = H) (hH : w.heap.size = H) :
    MovesRow w' base (.slice (some ⟨g, 0, none⟩) (L.length + 1) cap) (L ++ [(k, t)]) := by
  have hgf : ∀ b, but base v.ownBlock b = true → b < w.heap.size → but base (some g) b = true ∧ w'.heap[b]? = w.heap[b]? := fun b hb hbl => by
    obtain ⟨h1, h2⟩ := but_iff.1 hb
    refine ⟨but_iff.2 ⟨h1, fun e => ?_⟩, hgrow.block b hbl (fun e => h2 e.symm)⟩
    injection e with e; subst e
    rcases hat with h | h
    · exact h2 h
    · omega
  obtain ⟨hlen, hc⟩ := hown
  rcases hc with ⟨h, _⟩ | ⟨g', cap', cur, hv', h5, h1, h3, h4, h2, htake⟩
  · cases h
  · simp only [Value.slice.injEq, Option.some.injEq, Addr.mk.injEq, and_true, true_and] at hv'
    obtain ⟨rfl, rfl⟩ := hv'
    have hcur : ∀ j u, (xs ++ [.int .i64 k, u0, u1, u2])[j]? = some u → cur[j]? = some u := fun j u hu => by
      rw [← htake, List.getElem?_take] at hu
      split at hu
      · simpa using hu
      · cases hu
    refine .inr ⟨g, cap, by rw [List.length_append]; rfl, cur, h1, h2, by rw [List.length_append]; exact h3, h4, h5, fun i hi => ?_⟩
    rcases Nat.lt_or_ge i L.length with g1 | g1
    · obtain ⟨a0, a1, a2, b4, b0, b1, b2, b3, b5⟩ := hx i g1
      refine ⟨a0, a1, a2, hcur _ _ ?_, hcur _ _ ?_, hcur _ _ ?_, hcur _ _ ?_, ?_, ?_⟩
      · rw [List.getElem?_append_left (by omega), List.getElem_append_left g1]; exact b4
      · rw [List.getElem?_append_left (by omega)]; exact b0
      · rw [List.getElem?_append_left (by omega)]; exact b1
      · rw [List.getElem?_append_left (by omega)]; exact b2
      · rw [List.getElem_append_left g1]; exact b3.keep hgf
      · rw [List.getElem_append_left g1]; exact b5
    · have hi' : i = L.length := by simp at hi; omega
      subst hi'
      refine ⟨u0, u1, u2, hcur _ _ ?_, hcur _ _ ?_, hcur _ _ ?_, hcur _ _ ?_, ?_, ?_⟩
      · rw [List.getElem?_append_right (by omega), hl]; simp
      · rw [List.getElem?_append_right (by omega), hl]; simp
      · rw [List.getElem?_append_right (by omega), hl]; simp
      · rw [List.getElem?_append_right (by omega), hl]; simp
      · rw [List.getElem_append_right (Nat.le_refl _)]
        simpa using ht.keep hgf
      · rw [List.getElem_append_right (Nat.le_refl _)]
        simpa using hk
theorem Tryz.infoM : (Tryz.prog.info? 52).map (fun i => (i.zero, i.size, i.bytes)) = some (some (.agg #[.int .i64 0, .int .i64 0, .string ByteArray.empty, .slice none 0 0]), 4, 56) := by kernel_rfl

/-- A strand's value. -/
def StrandIs (S : Nat → Bool) (w : World) (v : Value) (s : ByteArray × List (Int × T)) : Prop := ∃ A c, v = .agg #[.string s.1, .slice A s.2.length c] ∧ MovesIn S w A s.2
theorem StrandIs.keep {S S' : Nat → Bool} {w w' : World} {v : Value} {s : ByteArray × List (Int × T)} (h : StrandIs S w v s) (hk : ∀ b, S b = true → b < w.heap.size → S' b = true ∧ w'.heap[b]? = w.heap[b]?) : StrandIs S' w' v s := by
  obtain ⟨A, c, e, h⟩ := h
  exact ⟨A, c, e, h.keep hk⟩
end Go.Proofs.YtihbmgkbipeakaaGreat
