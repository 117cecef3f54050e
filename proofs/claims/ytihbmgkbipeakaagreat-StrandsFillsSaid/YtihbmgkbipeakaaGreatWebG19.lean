/- Several texts in one: StrFil, TermTerm, TermPow. -/
import Derived.Test.YtihbmgkbipeakaaGreatWebG18
import Derived.Test.YtihbmgkbipeakaaGreatWebG8
namespace Go.Proofs.YtihbmgkbipeakaaGreat
open Go.RowKit T

attribute [local go_sem ↓] Go.wp_at_zero Go.wp_at_succ

/-- Midway in put: the result lies in block w.heap.size + 2, its kids in a row of the call's own. -/
def PutAt (w : World) (k : Int) (s : ByteArray) (L : List T) (wr : World) : Prop :=
  ∃ kv, Box wr (w.heap.size + 2) (.int .i64 k) (.string s) kv ∧ Box wr (w.heap.size + 1) (.int .i64 0) (.string ⟨#[]⟩) (.slice none 0 0) ∧ TermsRow wr (w.heap.size + 3) kv L ∧ Below w.heap.size w wr ∧ w.heap.size + 3 ≤ wr.heap.size
theorem PutAt.step {w : World} {k : Int} {s : ByteArray} {L : List T} {t : T} {wr w3 w4 : World} {kv u0 u1 u2 : Value} {xs : List Value} {g cap : Nat}
    (x : Box wr (w.heap.size + 2) (.int .i64 k) (.string s) kv) (y : Box wr (w.heap.size + 1) (.int .i64 0) (.string ⟨#[]⟩) (.slice none 0 0)) (hrow : TermsRow wr (w.heap.size + 3) kv L) (hb : Below w.heap.size w wr) (hsz : w.heap.size + 3 ≤ wr.heap.size)
    (hx : ∀ i (h : i < L.length), ∃ u0 u1 u2, xs[i * 3]? = some u0 ∧ xs[i * 3 + 1]? = some u1 ∧ xs[i * 3 + 2]? = some u2 ∧ TermIn (but (w.heap.size + 3) kv.ownBlock) wr (.agg #[u0, u1, u2]) L[i]) (hl : xs.length = L.length * 3)
    (hb3 : Below wr.heap.size wr w3) (ht : TermIn (from_ wr.heap.size) w3 (.agg #[u0, u1, u2]) t)
    (hown : w4.ownsRow (w.heap.size + 3) 29 3 (.slice (some ⟨g, 0, none⟩) (L.length + 1) cap) (L.length + 1) (xs ++ [u0, u1, u2])) (hgrow : (w3.alloc (.cells #[u0, u1, u2] 29)).grownBy w4 kv.ownBlock)
    (hat : kv.ownBlock = some g ∨ g = w3.heap.size + 1) : PutAt w k s (L ++ [t]) (w4.setCell ⟨w.heap.size + 2, 2, none⟩ (.slice (some ⟨g, 0, none⟩) (L.length + 1) cap)) := by
  have hne : ∀ b, b < w.heap.size + 3 → kv.ownBlock ≠ some b := fun b hlt e => by have := (hrow.block b e).1; omega
  have hb3' := hb3.trans ((below_alloc1 w3 (.cells #[u0, u1, u2] 29)).mono hb3.size)
  have hbf : Below w.heap.size w w4 := (hb.trans (hb3'.mono (by omega))).grown hgrow (by rw [size_alloc1]; have := hb3.size; omega) (fun k hk => by have := (hrow.block k hk).1; omega)
  refine ⟨_, (((x.later hb3').grown hgrow (hne _ (by omega))).set2 _), ?_, ?_, hbf.setCell (show w.heap.size ≤ w.heap.size + 2 by omega) _, ?_⟩
  · exact ((y.later hb3').grown hgrow (hne _ (by omega))).setOther (by simp) _
  · have h1 := TermsRow.snoc (w := w3.alloc (.cells #[u0, u1, u2] 29)) (H := w3.heap.size + 1) (t := t) (fun i hi => by
        obtain ⟨a0, a1, a2, b0, b1, b2, b3⟩ := hx i hi
        exact ⟨a0, a1, a2, b0, b1, b2, b3.keep fun b hb hlt => ⟨hb, hb3'.block b hlt⟩⟩) hl
      (ht.keep fun b hbb hlt => ⟨but_iff.2 ⟨by have := of_decide_eq_true hbb; omega, fun e => by have := (hrow.block b e).2; have := of_decide_eq_true hbb; omega⟩, Below.heap_alloc w3 _ b hlt⟩)
      hown hgrow hat (by rw [size_alloc1])
    exact h1.keep fun b hbb _ => Below.heap_setCell _ _ _ _ (by show b ≠ w.heap.size + 2; omega)
  · have := hgrow.size; have := hb3'.size; simp [World.setCell]; omega
theorem PutAt.later {w : World} {k : Int} {s : ByteArray} {L : List T} {wr w' : World} (h : PutAt w k s L wr) (hb : Below wr.heap.size wr w') : PutAt w k s L w' := by
  obtain ⟨kv, h1, h2, h3, h4, h5⟩ := h
  exact ⟨kv, h1.later hb, h2.later hb, h3.later hb, h4.trans (hb.mono h4.size), Nat.le_trans h5 hb.size⟩
/-- What put leaves. -/
def PutV (r : Option T) (w : World) (e : Ending) (w' : World) : Prop := Below w.heap.size w w' ∧ match r with
  | none => ∃ A c, e = .returned (.tuple #[.agg #[.int .i64 0, .string ⟨#[]⟩, .slice A 0 c], .bool false])
  | some u => ∃ A c, e = .returned (.tuple #[.agg #[.int .i64 u.kind, .string u.name, .slice A u.kids.length c], .bool true]) ∧ TermIn (from_ w.heap.size) w' (.agg #[.int .i64 u.kind, .string u.name, .slice A u.kids.length c]) u
theorem below_setb {B : Nat} {w0 w : World} {g : Nat} (hb : Below B w0 w) (hg : B ≤ g) (x y z : Value) : Below B w0 (((w.setCell ⟨g, 0, none⟩ x).setCell ⟨g, 1, none⟩ y).setCell ⟨g, 2, none⟩ z) :=
  ((hb.setCell (show B ≤ (⟨g, 0, none⟩ : Addr).block from hg) x).setCell (show B ≤ (⟨g, 1, none⟩ : Addr).block from hg) y).setCell (show B ≤ (⟨g, 2, none⟩ : Addr).block from hg) z
theorem zero_term (w : World) : TermAt w (.agg #[.int .i64 0, .string ⟨#[]⟩, .slice none 0 0]) (.mk 0 ⟨#[]⟩ []) :=
  .mk 0 ⟨#[]⟩ none 0 [] (fun _ => (undef, undef, undef)) (by decide) (by decide) (Nat.le_refl _) (Nat.zero_le _) (.inl rfl) (fun i h => absurd h (Nat.not_lt_zero _))
theorem putAll_take {b : List Bd} : ∀ (ps : List T) (j : Nat) (h : j < ps.length) (us : List T), putAll (ps.take j) b = some us → putAll (ps.take (j + 1)) b = match put ps[j] b with
    | none => none
    | some u => some (us ++ [u])
  | p :: ps, 0, _, us, h => by
    obtain rfl : [] = us := by simpa [putAll] using h
    simp only [List.take_succ_cons, List.take_zero, putAll, List.getElem_cons_zero]
    cases put p b <;> rfl
  | p :: ps, j + 1, hj, us, h => by
    simp only [List.take_succ_cons, putAll, List.getElem_cons_succ] at h ⊢
    cases h1 : put p b with
    | none => rw [h1] at h; cases h
    | some u =>
      rw [h1] at h
      cases h2 : putAll (ps.take j) b with
      | none => rw [h2] at h; cases h
      | some l =>
        rw [h2] at h
        obtain rfl : u :: l = us := by simpa using h
        have ih := putAll_take ps j (by simpa using hj) l h2
        rw [ih]
        cases put (ps[j]'(by simpa using hj)) b <;> rfl
theorem putAll_none {b : List Bd} : ∀ (ps : List T) (j : Nat), putAll (ps.take j) b = none → putAll ps b = none
  | [], j, h => by simpa using h
  | p :: ps, 0, h => by simp [putAll] at h
  | p :: ps, j + 1, h => by
    simp only [List.take_succ_cons, putAll] at h ⊢
    cases h1 : put p b with
    | none => rfl
    | some u =>
      rw [h1] at h
      cases h2 : putAll (ps.take j) b with
      | none => rw [putAll_none ps j h2]
      | some l => rw [h2] at h; cases h
set_option maxRecDepth 100000 in
set_option maxHeartbeats 16000000 in
theorem oput (L : List Bd) (hLb : ∀ x ∈ L, x.t.bulk ≤ 1048576) : ∀ (N : Nat) (p : T) (pv bv : Value) (w : World), p.bulk < N → TermAt w pv p → BindsAt w bv L → p.bulk ≤ 1048576 →
    Calls Tryz.prog 75 #[pv, bv] w (PutV (put p L) w) := by
  intro N
  induction N with
  | zero => intro p pv bv w h; omega
  | succ N ih =>
    intro p pv bv w hN hp hb hbk
    cases hp with
    | mk k s A cap ks U h1 h2 h3 h4 hA hU =>
      simp only [T.bulk] at hN hbk
      have hkn : ks.length ≤ 262144 := by have := T.len_le ks; omega
      obtain ⟨i0, hi0, hz0, hz1, hz2⟩ := info_parts Tryz.infoT
      have hput : put (.mk k s ks) L = if k = 2 then T.look L s else (match putAll ks L with
        | none => none
        | some l => some (.mk k s l)) := by
        simp only [put]; rfl
      obtain ⟨R, hR⟩ : ∃ R, put (.mk k s ks) L = R := ⟨_, rfl⟩
      rw [hR] at hput ⊢
      have HRR := Lib.hid hput
      obtain ⟨bx, by', hb1, hsz⟩ := box_two w (.int .i64 k) (.string s) (.slice A ks.length cap) (.int .i64 0) (.string ⟨#[]⟩) (.slice none 0 0)
      have HB := Lib.hid hb; have IH := Lib.hid ih; have HLB := Lib.hid hLb
      have hA2 := Lib.hid hA; have hU2 := Lib.hid hU
      have HNB := Lib.hid (show s.size + 4 + bulkAll ks ≤ 1048576 ∧ s.size + 4 + bulkAll ks < N + 1 from ⟨hbk, hN⟩)
      clear hA hU hb ih hput hR hbk hN
      go_enter Tryz.func75, Tryz.ntmps75
      go_upto_region 1 with fail
      generalize (w.alloc (.cells #[.int .i64 k, .string s, .slice A ks.length cap] 29)).alloc (.cells #[.int .i64 0, .string ⟨#[]⟩, .slice none 0 0] 29) = w1 at bx by' hb1 hsz ⊢
      obtain ⟨x0, x1, x2⟩ := bx.cells
      have BX := Lib.hid bx; have BY := Lib.hid by'; have HB1 := Lib.hid hb1; have HSZ := Lib.hid hsz
      clear bx by' hb1 hsz
      by_cases hk2 : k = 2
      · subst hk2
        have HVA := Lib.hid (ovalue0 s L bv w w1 HB.out HB1.out)
        have HR2 := Lib.hid (show R = T.look L s from HRR.out.trans (if_pos rfl))
        cases hl : T.look L s with
        | none =>
          rw [hl] at HVA
          obtain rfl : R = none := HR2.out.trans hl
          clear hl
          go_wp2_with fail
          refine HVA.out.mono ?_; rintro e w2 ⟨hb2, he⟩
          have he' : e = .returned (.tuple #[.agg #[.int .i64 0, .string ⟨#[]⟩, .slice none 0 0], .bool false]) := he
          subst he'
          have hq2 := below_alloc1 w2 (.cells #[.int .i64 0, .string ⟨#[]⟩, .slice none 0 0] 29)
          have bx6 := Box.new w2 (.int .i64 0) (.string ⟨#[]⟩) (.slice none 0 0)
          have hb3 := hb2.trans (hq2.mono hb2.size)
          have HB3 := Lib.hid (HB1.out.trans (hb3.mono HB1.out.size)); have BY3 := Lib.hid (BY.out.later hb3)
          clear he hb2 hq2 hb3 x0 x1 x2
          go_upto_region 3 with fail
          generalize w2.alloc (.cells #[.int .i64 0, .string ⟨#[]⟩, .slice none 0 0] 29) = w3 at HB3 BY3 bx6 ⊢
          obtain ⟨u0, u1, u2⟩ := bx6.cells
          go_wp2_with fail
          refine (ocopy ((T.mk 0 ⟨#[]⟩ []).bulk + 1) (.mk 0 ⟨#[]⟩ []) _ _ (Nat.lt_succ_self _) (zero_term _) (by decide)).mono ?_; rintro e w4 ⟨A4, C4, rfl, hti, hb4⟩
          obtain ⟨f0, f1, f2⟩ := (BY3.out.later hb4).free
          obtain ⟨z0, z1, z2⟩ := (BY3.out.later hb4).cells
          have HBS := Lib.hid (BY3.out.later hb4)
          have HB4 := Lib.hid (HB3.out.trans (hb4.mono HB3.out.size))
          clear hti hb4 u0 u1 u2 bx6
          go_wp2_with fail
          obtain ⟨d0, d1, d2⟩ := (box_set3 HBS.out (.int .i64 (T.mk 0 ⟨#[]⟩ []).kind) (.string (T.mk 0 ⟨#[]⟩ []).name) (.slice A4 (T.mk 0 ⟨#[]⟩ []).kids.length C4)).cells
          refine bodyPost_ret (v := .tuple #[.agg #[.int .i64 0, .string ⟨#[]⟩, .slice A4 0 C4], .bool false]) (by simp [results, Tryz.results75, go_sem, d0, d1, d2]; first | rfl | exact ⟨rfl, rfl, rfl⟩) rfl ?_
          exact ⟨below_setb HB4.out (by omega) _ _ _, A4, C4, rfl⟩
        | some v =>
          rw [hl] at HVA
          obtain rfl : R = some v := HR2.out.trans hl
          have hvb := (HLB.out _ (look_mem hl).choose_spec.1)
          rw [(look_mem hl).choose_spec.2.2] at hvb
          have HVB := Lib.hid hvb
          clear hl hvb
          go_wp2_with fail
          refine HVA.out.mono ?_; rintro e w2 ⟨hb2, he⟩
          have he' : ∃ A c, e = .returned (.tuple #[.agg #[.int .i64 v.kind, .string v.name, .slice A v.kids.length c], .bool true]) ∧ TermAt w (.agg #[.int .i64 v.kind, .string v.name, .slice A v.kids.length c]) v := he
          obtain ⟨A5, c5, rfl, hv5⟩ := he'
          have hq2 := below_alloc1 w2 (.cells #[.int .i64 v.kind, .string v.name, .slice A5 v.kids.length c5] 29)
          have bx6 := Box.new w2 (.int .i64 v.kind) (.string v.name) (.slice A5 v.kids.length c5)
          have hb3 := hb2.trans (hq2.mono hb2.size)
          have HB3 := Lib.hid (HB1.out.trans (hb3.mono HB1.out.size)); have BY3 := Lib.hid (BY.out.later hb3)
          have HV5 := Lib.hid (hv5.later HB3.out)
          clear he hb2 hq2 hb3 x0 x1 x2 hv5
          go_upto_region 3 with fail
          generalize w2.alloc (.cells #[.int .i64 v.kind, .string v.name, .slice A5 v.kids.length c5] 29) = w3 at HB3 BY3 bx6 HV5 ⊢
          obtain ⟨u0, u1, u2⟩ := bx6.cells
          go_wp2_with fail
          refine (ocopy (v.bulk + 1) v _ _ (Nat.lt_succ_self _) HV5.out HVB.out).mono ?_; rintro e w4 ⟨A4, C4, rfl, hti, hb4⟩
          obtain ⟨f0, f1, f2⟩ := (BY3.out.later hb4).free
          obtain ⟨z0, z1, z2⟩ := (BY3.out.later hb4).cells
          have HBS := Lib.hid (BY3.out.later hb4)
          have HB4 := Lib.hid (HB3.out.trans (hb4.mono HB3.out.size))
          have HTI := Lib.hid hti
          have hlt3 : w.heap.size + 1 < w3.heap.size := BY3.out.lt
          clear hti hb4 u0 u1 u2 bx6
          go_wp2_with fail
          obtain ⟨d0, d1, d2⟩ := (box_set3 HBS.out (.int .i64 v.kind) (.string v.name) (.slice A4 v.kids.length C4)).cells
          refine bodyPost_ret (v := .tuple #[.agg #[.int .i64 v.kind, .string v.name, .slice A4 v.kids.length C4], .bool true]) (by simp [results, Tryz.results75, go_sem, d0, d1, d2]) rfl ?_
          refine ⟨below_setb HB4.out (by omega) _ _ _, A4, C4, rfl, HTI.out.keep fun b hb _ => ?_⟩
          have hb' := of_decide_eq_true hb
          exact ⟨decide_eq_true (by omega), set3_other _ _ _ _ _ _ (by omega)⟩
      · have hR1 := HRR.out
        rw [if_neg hk2] at hR1
        have hs1 := HSZ.out
        have hwq := below_alloc1 w1 (.cells #[.int .i64 k, .string s, .slice none 0 0] 29)
        have bx8 := Box.new w1 (.int .i64 k) (.string s) (.slice none 0 0)
        have hst : PutAt w k s [] (w1.alloc (.cells #[.int .i64 k, .string s, .slice none 0 0] 29)) := by
          rw [hs1] at bx8
          exact ⟨_, bx8, BY.out.later hwq, TermsRow.nil _ _, HB1.out.trans (hwq.mono HB1.out.size), by rw [size_alloc1]; omega⟩
        have HST := Lib.hid hst; have HR1 := Lib.hid hR1
        obtain ⟨u0, u1, u2⟩ := (BX.out.later hwq).cells
        obtain ⟨n, hn⟩ : ∃ n, ks.length = n := ⟨_, rfl⟩
        have HNN := Lib.hid hn
        rw [hn] at x2 u2 hkn ⊢
        clear hst hwq bx8 hR1 hn
        go_upto_region 5 with fail
        clear hs1
        generalize w1.alloc (.cells #[.int .i64 k, .string s, .slice none 0 0] 29) = w2 at HST u0 u1 u2 ⊢
        clear x0 x1 x2
        go_wp2_with fail
        clear u0 u1 u2
        go_loopw [34] (fun iv wr => ∃ (j : Nat) (us : List T), j ≤ n ∧ iv = .int .i64 j ∧ putAll (ks.take j) L = some us ∧ us.length = j ∧ PutAt w k s us wr) (fun iv _ => n - (intOf iv).toNat)
        case atStart => exact ⟨0, [], Nat.zero_le _, rfl, by rw [List.take_zero]; rfl, rfl, HST.out⟩
        case round =>
          obtain ⟨j, us, hj, rfl, hus, hul, hat⟩ := hrel
          by_cases hlt : j < n
          · have hjl : j < ks.length := by rw [HNN.out]; exact hlt
            obtain ⟨b, off, B1, C1, rfl, d0', d1', d2', hu⟩ := TermAt.cells hjl hA2.out hU2.out
            have hstep := putAll_take ks j hjl us hus
            have hbk := T.bulk_at ks j hjl
            obtain ⟨pk, hpk⟩ : ∃ pk, ks[j] = pk := ⟨_, rfl⟩
            rw [hpk] at d0' d1' d2' hu hstep hbk
            have hbw : Below w.heap.size w wr := by obtain ⟨_, _, _, _, h, _⟩ := hat; exact h
            have d0 := cell_later hbw d0'; have d1 := cell_later hbw d1'; have d2 := cell_later hbw d2'
            have hi : (j : Int) < (n : Int) := by omega
            have hq := below_alloc1 wr (.cells #[.int .i64 pk.kind, .string pk.name, .slice B1 pk.kids.length C1] 29)
            have bx10 := Box.new wr (.int .i64 pk.kind) (.string pk.name) (.slice B1 pk.kids.length C1)
            have hatq := hat.later hq
            have hbq := hbw.trans (hq.mono hbw.size)
            have HPC := Lib.hid (IH.out pk (.agg #[.int .i64 pk.kind, .string pk.name, .slice B1 pk.kids.length C1]) bv (wr.alloc (.cells #[.int .i64 pk.kind, .string pk.name, .slice B1 pk.kids.length C1] 29)) (by have := HNB.out; omega) (hu.later hbq) (HB.out.later hbq) (by have := HNB.out; omega))
            have HLT := Lib.hid hlt; have HSTEP := Lib.hid hstep; have HUL := Lib.hid hul
            clear hu hus hstep hbk hpk hbw hq hbq hat d0' d1' d2' hjl hj hlt hul
            go_upto_region 8 with fail
            generalize wr.alloc (.cells #[.int .i64 pk.kind, .string pk.name, .slice B1 pk.kids.length C1] 29) = wq at bx10 hatq HPC ⊢
            generalize wr.heap.size = g10 at bx10 ⊢
            obtain ⟨q0, q1, q2⟩ := bx10.cells
            have HATQ := Lib.hid hatq
            obtain ⟨r, hr⟩ : ∃ r, put pk L = r := ⟨_, rfl⟩
            rw [hr] at HPC HSTEP
            clear hatq bx10 hr d0 d1 d2
            cases r with
            | none =>
              obtain rfl : R = none := by
                rw [HR1.out, putAll_none ks (j + 1) HSTEP.out]
              go_wp2_with fail
              refine HPC.out.mono ?_; rintro e w3 ⟨hb3, he⟩
              obtain ⟨A3, C3, rfl⟩ := (show ∃ A c, e = .returned (.tuple #[.agg #[.int .i64 0, .string ⟨#[]⟩, .slice A 0 c], .bool false]) from he)
              have hq3 := below_alloc1 w3 (.cells #[.int .i64 0, .string ⟨#[]⟩, .slice A3 0 C3] 29)
              obtain ⟨kv, bx8, by8, _, hbw, _⟩ := HATQ.out.later (hb3.trans (hq3.mono hb3.size))
              have HBY := Lib.hid by8; have HBW := Lib.hid hbw
              clear he hb3 hq3 q0 q1 q2 bx8 hbw
              go_upto_region 9 with fail
              generalize w3.alloc (.cells #[.int .i64 0, .string ⟨#[]⟩, .slice A3 0 C3] 29) = w4 at by8 HBY HBW ⊢
              obtain ⟨z0, z1, z2⟩ := by8.cells
              obtain ⟨f0, f1, f2⟩ := by8.free
              clear by8
              go_wp2_with fail
              obtain ⟨d0, d1, d2⟩ := (box_set3 HBY.out (.int .i64 0) (.string ⟨#[]⟩) (.slice none 0 0)).cells
              refine bodyPost_ret (v := .tuple #[.agg #[.int .i64 0, .string ⟨#[]⟩, .slice none 0 0], .bool false]) (by simp [results, Tryz.results75, go_sem, d0, d1, d2]) rfl ?_
              exact ⟨below_setb HBW.out (by omega) _ _ _, none, 0, rfl⟩
            | some u =>
              go_wp2_with fail
              refine HPC.out.mono ?_; rintro e w3 ⟨hb3, he⟩
              obtain ⟨A3, C3, rfl, hti⟩ := (show ∃ A c, e = .returned (.tuple #[.agg #[.int .i64 u.kind, .string u.name, .slice A u.kids.length c], .bool true]) ∧ TermIn (from_ wq.heap.size) w3 (.agg #[.int .i64 u.kind, .string u.name, .slice A u.kids.length c]) u from he)
              have hq3 := below_alloc1 w3 (.cells #[.int .i64 u.kind, .string u.name, .slice A3 u.kids.length C3] 29)
              have bx11 := Box.new w3 (.int .i64 u.kind) (.string u.name) (.slice A3 u.kids.length C3)
              have hb5 := hb3.trans (hq3.mono hb3.size)
              have HTI := Lib.hid (show TermIn (from_ wq.heap.size) _ _ u from hti.keep fun b hb hl => ⟨hb, hq3.block b hl⟩)
              have HB5 := Lib.hid hb5
              clear he hb3 hq3 q0 q1 q2 hti hb5
              go_upto_region 9 with fail
              generalize w3.alloc (.cells #[.int .i64 u.kind, .string u.name, .slice A3 u.kids.length C3] 29) = w5 at bx11 HTI HB5 ⊢
              generalize w3.heap.size = g11 at bx11 ⊢
              obtain ⟨y0, y1, y2⟩ := bx11.cells
              obtain ⟨kv, bx8, by8, hrow, hbw, hsz⟩ := HATQ.out
              obtain ⟨xs, hown, hx⟩ := hrow.owns
              have HSTEPP := Lib.hid (fun w4 g cap => PutAt.step (k := k) (s := s) (t := u) (w3 := w5) (w4 := w4) (g := g) (cap := cap) bx8 by8 hrow hbw hsz hx hown.1 HB5.out HTI.out)
              have BX8 := Lib.hid (bx8.later HB5.out)
              obtain ⟨z0, z1, z2⟩ := (bx8.later HB5.out).cells
              obtain ⟨A6, c6, hkv, _, _⟩ := hrow.shape
              have hblk := hrow.block
              rw [HUL.out] at hown hkv HSTEPP
              have HOWN5 := Lib.hid ((own_later hown HB5.out).alloc (.cells #[.int .i64 u.kind, .string u.name, .slice A3 u.kids.length C3] 29))
              have HONE := Lib.hid HTI.out.one
              have HBS := Lib.hid (show w.heap.size + 3 ≤ (w5.alloc (.cells #[.int .i64 u.kind, .string u.name, .slice A3 u.kids.length C3] 29)).heap.size by rw [size_alloc1]; have := HB5.out.size; omega)
              have HNE := Lib.hid (show kv.ownBlock ≠ some (w.heap.size + 2) from fun e => by have := (hblk _ e).1; omega)
              subst hkv
              clear bx8 by8 hrow hbw hsz hx hown hblk bx11
              go_wp2_with (at_builtin; refine wpList_append_lies _ rfl _ _ 27 rfl (w.heap.size + 3) 29 i0 _ 3 48 Tryz.underlying27 hi0 hz0 hz1 hz2 rfl (by omega) _ j xs rfl HOWN5.out ⟨_, 0, none⟩ 1 1 _ rfl rfl (World.news_of_block (heap_alloc_new _ _)) HONE.out (by omega) (by unfold maxLen; omega) (by omega) HBS.out _ rfl ?_; intro g cap w6 hown6 hgrow hat6 hlt6; have BX6 := (BX8.out.later (below_alloc1 w5 _)).grown hgrow HNE.out; have c4 := BX6.cells.2.2; have f4 := BX6.free.2.2)
              have hfin := HSTEPP.out w6 g cap hown6 hgrow (hat6.imp id (fun h => h.trans (size_alloc1 _ _)))
              have HFIN := Lib.hid hfin
              clear hfin hown6 hgrow hat6 hlt6 BX6 c4 f4 y0 y1 y2 z0 z1 z2
              go_roundw
              case rel => exact ⟨_, _, _, _, _, ⟨j + 1, HLT.out, by go_num, us ++ [u], HSTEP.out, by rw [List.length_append, HUL.out]; rfl, HFIN.out⟩, rfl, rfl, rfl, rfl, rfl⟩
              case measure => have := HLT.out; simp [intOf]; omega
          · obtain rfl : j = n := by omega
            rw [List.take_of_length_le (by rw [HNN.out]; exact Nat.le_refl _)] at hus
            obtain rfl : R = some (.mk k s us) := by rw [HR1.out, hus]
            obtain ⟨kv, bx8, by8, hrow, hbw, hsz⟩ := hat
            obtain ⟨A4, C4, hkv, _, _⟩ := hrow.shape
            have HTM := Lib.hid (hrow.term k s h1 h2)
            rw [hkv, hul] at HTM
            rw [hul] at hkv
            subst hkv
            obtain ⟨y0, y1, y2⟩ := bx8.cells
            obtain ⟨q0, q1, q2⟩ := by8.cells
            obtain ⟨f0, f1, f2⟩ := by8.free
            have hi : ¬ (j : Int) < (j : Int) := by omega
            have HBW := Lib.hid hbw; have HBZ := Lib.hid by8; have HUL := Lib.hid hul
            clear hrow hbw bx8 by8 hus hul
            go_wp2_with fail
            obtain ⟨d0, d1, d2⟩ := (box_set3 HBZ.out (.int .i64 k) (.string s) (.slice A4 j C4)).cells
            refine bodyPost_ret (v := .tuple #[.agg #[.int .i64 k, .string s, .slice A4 j C4], .bool true]) (by simp [results, Tryz.results75, go_sem, d0, d1, d2]) rfl ?_
            refine ⟨below_setb HBW.out (by omega) _ _ _, A4, C4, by simp only [T.kind, T.name, T.kids]; rw [HUL.out], ?_⟩
            simp only [T.kind, T.name, T.kids]
            rw [HUL.out]
            refine HTM.out.keep fun b hb _ => ?_
            have hb' := of_decide_eq_true hb
            exact ⟨decide_eq_true (by omega), set3_other _ _ _ _ _ _ (by omega)⟩

mutual
theorem shape_bulk : ∀ t : T, t.shape = true → t.bulk ≤ 20 * t.size
  | .mk k s ks => fun h => by
    simp only [T.shape] at h
    simp only [T.bulk, T.size]
    by_cases h12 : k = 1 ∨ k = 2
    · rw [if_pos h12, Bool.and_eq_true, beq_iff_eq, List.length_eq_zero_iff] at h
      obtain ⟨h1, rfl⟩ := h
      unfold isName at h1
      simp only [Bool.and_eq_true, decide_eq_true_eq] at h1
      simp only [bulkAll, sizeAll]; omega
    · rw [if_neg h12, Bool.and_eq_true, Bool.and_eq_true] at h
      have h1 := shapeAll_bulk ks h.2
      have h2 : s.size = 0 := by
        have := h.1.2
        rw [List.isEmpty_iff, ByteArray.toList_eq] at this
        rw [← size_len, this]; rfl
      omega
theorem shapeAll_bulk : ∀ l : List T, shapeAll l = true → bulkAll l ≤ 20 * sizeAll l
  | [] => fun _ => Nat.le_refl _
  | t :: r => fun h => by
    simp only [shapeAll, Bool.and_eq_true] at h
    have h1 := shape_bulk t h.1
    have h2 := shapeAll_bulk r h.2
    simp only [bulkAll, sizeAll]; omega
end
theorem valid_bulk {t : T} (h : t.valid = true) : t.bulk ≤ 800 := by
  have h1 := shape_bulk t (valid_shape h)
  have h2 : t.size ≤ 40 := of_decide_eq_true (Bool.and_eq_true_iff.1 h).1
  omega
mutual
theorem put_bulk {M : Nat} : ∀ (p : T) (b : List Bd) (u : T), (∀ n v, T.look b n = some v → v.bulk ≤ M) → put p b = some u → u.bulk ≤ p.bulk + p.size * M
  | .mk k s ks, b, u, hb, h => by
    simp only [put] at h
    simp only [bulk, size]
    by_cases hk : k = 2
    · rw [if_pos hk] at h
      have := hb _ _ h
      have h2 : M ≤ (1 + sizeAll ks) * M := Nat.le_mul_of_pos_left M (by omega)
      omega
    · rw [if_neg hk] at h
      cases ha : putAll ks b with
      | none => rw [ha] at h; cases h
      | some us =>
        rw [ha] at h
        obtain rfl : T.mk k s us = u := by simpa using h
        have h1 := putAll_bulk ks b us hb ha
        have h2 : sizeAll ks * M ≤ (1 + sizeAll ks) * M := Nat.mul_le_mul_right M (by omega)
        simp only [bulk]; omega
theorem putAll_bulk {M : Nat} : ∀ (ps : List T) (b : List Bd) (us : List T), (∀ n v, T.look b n = some v → v.bulk ≤ M) → putAll ps b = some us → bulkAll us ≤ bulkAll ps + sizeAll ps * M
  | [], b, us, _, h => by
    obtain rfl : [] = us := by simpa [putAll] using h
    simp [bulkAll]
  | p :: ps, b, us, hb, h => by
    simp only [putAll] at h
    cases h1 : put p b with
    | none => rw [h1] at h; cases h
    | some u =>
      rw [h1] at h
      cases h2 : putAll ps b with
      | none => rw [h2] at h; cases h
      | some l =>
        rw [h2] at h
        obtain rfl : u :: l = us := by simpa using h
        have h3 := put_bulk p b u hb h1
        have h4 := putAll_bulk ps b l hb h2
        simp only [bulkAll, sizeAll]
        rw [Nat.add_mul]; omega
end
theorem fillT_no1 {p : T} {L : List Bd} (h : p.valid = false) : fillT p L = none := by unfold fillT; rw [h]; rfl
theorem fillT_no2 {p : T} {L : List Bd} (h : put p L = none) : fillT p L = none := by unfold fillT; rw [h]; simp
theorem fillT_no3 {p u : T} {L : List Bd} (h : put p L = some u) (h' : u.valid = false) : fillT p L = none := by unfold fillT; rw [h]; simp [h']
set_option maxRecDepth 100000 in
set_option maxHeartbeats 8000000 in
theorem oFill (p : T) (L : List Bd) (pv bv : Value) (w : World) (hp : TermAt w pv p) (hb : BindsAt w bv L) (hLb : ∀ x ∈ L, x.t.bulk ≤ 20000) (hpb : p.bulk ≤ 1048576) :
    Calls Tryz.prog 34 #[pv, bv] w (PutV (fillT p L) w) := by
  have HPV := Lib.hid (fun v W h => ovalid p v W h hpb)
  have HPU := Lib.hid (fun v1 v2 W h1 h2 => oput L (fun x hx => Nat.le_trans (hLb x hx) (by decide)) (p.bulk + 1) p v1 v2 W (Nat.lt_succ_self _) h1 h2 hpb)
  have HUB := Lib.hid (fun u (hv : p.valid = true) (h : put p L = some u) => show u.bulk ≤ 1048576 from by
    have h1 := put_bulk (M := 20000) p L u (fun n v e => by obtain ⟨x, hx, _, rfl⟩ := look_mem e; exact hLb x hx) h
    have h2 := valid_bulk hv
    have h3 : p.size ≤ 40 := of_decide_eq_true (Bool.and_eq_true_iff.1 hv).1
    have h4 : p.size * 20000 ≤ 40 * 20000 := Nat.mul_le_mul_right _ h3
    omega)
  have hn1 := fillT_no1 (p := p) (L := L); have hn2 := fillT_no2 (p := p) (L := L)
  have hn3 := fun u => fillT_no3 (p := p) (u := u) (L := L); have hy := fun u => fillT_of (p := p) (u := u) (b := L)
  obtain ⟨R, hR⟩ : ∃ R, fillT p L = R := ⟨_, rfl⟩
  rw [hR] at hn1 hn2 hn3 hy ⊢
  obtain ⟨r, hr⟩ : ∃ r, put p L = r := ⟨_, rfl⟩
  rw [hr] at hn2 hn3 hy HPU HUB
  have HN1 := Lib.hid hn1; have HN2 := Lib.hid hn2; have HN3 := Lib.hid hn3; have HY := Lib.hid hy
  clear hR hn1 hn2 hn3 hy hr
  obtain ⟨A, c, rfl⟩ := TermIn.view hp.inAll
  obtain ⟨bx, by', hb1, hsz⟩ := box_two w (.int .i64 p.kind) (.string p.name) (.slice A p.kids.length c) (.int .i64 0) (.string ⟨#[]⟩) (.slice none 0 0)
  have HP := Lib.hid (hp.later hb1); have HB := Lib.hid (hb.later hb1)
  clear hp hb hpb hLb
  go_enter Tryz.func34, Tryz.ntmps34
  go_upto_region 1 with fail
  generalize (w.alloc (.cells #[.int .i64 p.kind, .string p.name, .slice A p.kids.length c] 29)).alloc (.cells #[.int .i64 0, .string ⟨#[]⟩, .slice none 0 0] 29) = w1 at bx by' hb1 hsz HP HB ⊢
  obtain ⟨x0, x1, x2⟩ := bx.cells
  have BX := Lib.hid bx; have BY := Lib.hid by'; have HB1 := Lib.hid hb1; have HSZ := Lib.hid hsz
  clear bx by' hb1 hsz
  cases hv : p.valid with
  | false =>
    obtain rfl : R = none := HN1.out hv
    have HQ := Lib.hid (HPV.out _ w1 HP.out false 76 hv (.inr ⟨rfl, rfl⟩))
    clear hv
    go_wp2_with fail
    refine HQ.out.mono ?_; rintro e w2 ⟨rfl, hb2⟩
    have HB2 := Lib.hid (HB1.out.trans (hb2.mono HB1.out.size)); have BY2 := Lib.hid (BY.out.later hb2)
    obtain ⟨z0, z1, z2⟩ := BY2.out.cells
    obtain ⟨f0, f1, f2⟩ := BY2.out.free
    clear hb2 x0 x1 x2
    go_wp2_with fail
    obtain ⟨d0, d1, d2⟩ := (box_set3 BY2.out (.int .i64 0) (.string ⟨#[]⟩) (.slice none 0 0)).cells
    refine bodyPost_ret (v := .tuple #[.agg #[.int .i64 0, .string ⟨#[]⟩, .slice none 0 0], .bool false]) (by simp [results, Tryz.results34, go_sem, d0, d1, d2]) rfl ?_
    exact ⟨below_setb HB2.out (by omega) _ _ _, none, 0, rfl⟩
  | true =>
    have HVV := Lib.hid hv
    have HQ := Lib.hid (HPV.out _ w1 HP.out true 0 hv (.inl ⟨rfl, rfl⟩))
    clear hv
    go_wp2_with fail
    refine HQ.out.mono ?_; rintro e w2 ⟨rfl, hb2⟩
    have HB2 := Lib.hid (HB1.out.trans (hb2.mono HB1.out.size)); have BY2 := Lib.hid (BY.out.later hb2)
    obtain ⟨u0, u1, u2⟩ := (BX.out.later hb2).cells
    have HPC := Lib.hid (HPU.out _ bv w2 (HP.out.later hb2) (HB.out.later hb2))
    clear hb2 x0 x1 x2 HQ
    cases r with
    | none =>
      obtain rfl : R = none := HN2.out rfl
      go_wp2_with fail
      refine HPC.out.mono ?_; rintro e w3 ⟨hb3, he⟩
      obtain ⟨A3, C3, rfl⟩ := (show ∃ A c, e = .returned (.tuple #[.agg #[.int .i64 0, .string ⟨#[]⟩, .slice A 0 c], .bool false]) from he)
      have hq3 := below_alloc1 w3 (.cells #[.int .i64 0, .string ⟨#[]⟩, .slice A3 0 C3] 29)
      have hb5 := hb3.trans (hq3.mono hb3.size)
      have HB5 := Lib.hid (HB2.out.trans (hb5.mono HB2.out.size)); have BY5 := Lib.hid (BY2.out.later hb5)
      clear he hb3 hq3 hb5 u0 u1 u2
      go_upto_region 4 with fail
      generalize w3.alloc (.cells #[.int .i64 0, .string ⟨#[]⟩, .slice A3 0 C3] 29) = w4 at HB5 BY5 ⊢
      obtain ⟨z0, z1, z2⟩ := BY5.out.cells
      obtain ⟨f0, f1, f2⟩ := BY5.out.free
      go_wp2_with fail
      obtain ⟨d0, d1, d2⟩ := (box_set3 BY5.out (.int .i64 0) (.string ⟨#[]⟩) (.slice none 0 0)).cells
      refine bodyPost_ret (v := .tuple #[.agg #[.int .i64 0, .string ⟨#[]⟩, .slice none 0 0], .bool false]) (by simp [results, Tryz.results34, go_sem, d0, d1, d2]) rfl ?_
      exact ⟨below_setb HB5.out (by omega) _ _ _, none, 0, rfl⟩
    | some u =>
      go_wp2_with fail
      refine HPC.out.mono ?_; rintro e w3 ⟨hb3, he⟩
      obtain ⟨A3, C3, rfl, hti⟩ := (show ∃ A c, e = .returned (.tuple #[.agg #[.int .i64 u.kind, .string u.name, .slice A u.kids.length c], .bool true]) ∧ TermIn (from_ w2.heap.size) w3 (.agg #[.int .i64 u.kind, .string u.name, .slice A u.kids.length c]) u from he)
      have hq3 := below_alloc1 w3 (.cells #[.int .i64 u.kind, .string u.name, .slice A3 u.kids.length C3] 29)
      have bx6 := Box.new w3 (.int .i64 u.kind) (.string u.name) (.slice A3 u.kids.length C3)
      have hb5 := hb3.trans (hq3.mono hb3.size)
      have HB5 := Lib.hid (HB2.out.trans (hb5.mono HB2.out.size)); have BY5 := Lib.hid (BY2.out.later hb5)
      have HT5 := Lib.hid (hti.at.later hq3)
      clear he hb3 hq3 hb5 hti u0 u1 u2
      go_upto_region 4 with fail
      generalize w3.alloc (.cells #[.int .i64 u.kind, .string u.name, .slice A3 u.kids.length C3] 29) = w4 at HB5 BY5 HT5 bx6 ⊢
      generalize w3.heap.size = g6 at bx6 ⊢
      obtain ⟨u0, u1, u2⟩ := bx6.cells
      have BX6 := Lib.hid bx6
      clear bx6
      have hub := HUB.out u HVV.out rfl
      cases hv : u.valid with
      | false =>
        obtain rfl : R = none := HN3.out u rfl hv
        have HQ := Lib.hid (ovalid u _ w4 HT5.out hub false 76 hv (.inr ⟨rfl, rfl⟩))
        clear hv hub
        go_wp2_with fail
        refine HQ.out.mono ?_; rintro e w5 ⟨rfl, hb6⟩
        have HB6 := Lib.hid (HB5.out.trans (hb6.mono HB5.out.size)); have BY6 := Lib.hid (BY5.out.later hb6)
        obtain ⟨z0, z1, z2⟩ := BY6.out.cells
        obtain ⟨f0, f1, f2⟩ := BY6.out.free
        clear hb6 u0 u1 u2
        go_wp2_with fail
        obtain ⟨d0, d1, d2⟩ := (box_set3 BY6.out (.int .i64 0) (.string ⟨#[]⟩) (.slice none 0 0)).cells
        refine bodyPost_ret (v := .tuple #[.agg #[.int .i64 0, .string ⟨#[]⟩, .slice none 0 0], .bool false]) (by simp [results, Tryz.results34, go_sem, d0, d1, d2]) rfl ?_
        exact ⟨below_setb HB6.out (by omega) _ _ _, none, 0, rfl⟩
      | true =>
        obtain rfl : R = some u.norm := HY.out u HVV.out rfl hv
        have HQ := Lib.hid (ovalid u _ w4 HT5.out hub true 0 hv (.inl ⟨rfl, rfl⟩))
        have HNR := Lib.hid (fun v W h => onormal u v W h hub)
        have HVU := Lib.hid hv
        clear hv hub
        go_wp2_with fail
        refine HQ.out.mono ?_; rintro e w5 ⟨rfl, hb6⟩
        have HB6 := Lib.hid (HB5.out.trans (hb6.mono HB5.out.size)); have BY6 := Lib.hid (BY5.out.later hb6); have HT6 := Lib.hid (HT5.out.later hb6)
        obtain ⟨z0, z1, z2⟩ := (BX6.out.later hb6).cells
        clear hb6 u0 u1 u2
        go_wp2_with fail
        refine (HNR.out _ _ HT6.out).mono ?_; rintro e w7 ⟨A7, C7, rfl, hti, hb7⟩
        rw [if_pos HVU.out] at hti ⊢
        obtain ⟨z0, z1, z2⟩ := (BY6.out.later hb7).cells
        obtain ⟨f0, f1, f2⟩ := (BY6.out.later hb7).free
        have HB7 := Lib.hid (HB6.out.trans (hb7.mono HB6.out.size)); have BY7 := Lib.hid (BY6.out.later hb7); have HTI := Lib.hid hti
        have hlt : w.heap.size + 1 < w5.heap.size := BY6.out.lt
        obtain ⟨v, hv⟩ : ∃ v, u.norm = v := ⟨_, rfl⟩
        rw [hv] at HTI ⊢
        have HV := Lib.hid hv
        clear hb7 hti hv
        go_wp2_with fail
        obtain ⟨d0, d1, d2⟩ := (box_set3 BY7.out (.int .i64 v.kind) (.string v.name) (.slice A7 v.kids.length C7)).cells
        refine bodyPost_ret (v := .tuple #[.agg #[.int .i64 v.kind, .string v.name, .slice A7 v.kids.length C7], .bool true]) (by simp [results, Tryz.results34, go_sem, d0, d1, d2]) rfl ?_
        refine ⟨below_setb HB7.out (by omega) _ _ _, ?_⟩
        rw [HV.out]
        refine ⟨A7, C7, rfl, HTI.out.keep fun b hb _ => ?_⟩
        have hb' := of_decide_eq_true hb
        exact ⟨decide_eq_true (by omega), set3_other _ _ _ _ _ _ (by omega)⟩
end Go.Proofs.YtihbmgkbipeakaaGreat

namespace Go.Proofs.YtihbmgkbipeakaaGreat
open Go.RowKit

/-- What the maker of terms leaves. -/
def MadePost (vars : Int) (D B g : Nat) (w : World) (e : Ending) (w' : World) : Prop := ∃ t A cap, T.MadeN vars D t ∧ e = .returned (.agg #[.int .i64 t.kind, .string t.name, .slice A t.kids.length cap]) ∧
  TermIn (from_ w.heap.size) w' (.agg #[.int .i64 t.kind, .string t.name, .slice A t.kids.length cap]) t ∧ DiceAt B g w' ∧ w.grownBy w' (some g)
/-- The result's three stores at the end. -/
theorem made_ends {vars : Int} {D B g : Nat} {w W : World} {t : T} {A : Option Addr} {cap : Nat} (hg : w.grownBy W (some g)) (hgl : g < w.heap.size) (hd : DiceAt B g W) (hm : T.MadeN vars D t)
    (ht : TermIn (from_ (w.heap.size + 1)) W (.agg #[.int .i64 t.kind, .string t.name, .slice A t.kids.length cap]) t) (v0 v1 v2 : Value) :
    MadePost vars D B g w (.returned (.agg #[.int .i64 t.kind, .string t.name, .slice A t.kids.length cap])) (((W.setCell ⟨w.heap.size, 0, none⟩ v0).setCell ⟨w.heap.size, 1, none⟩ v1).setCell ⟨w.heap.size, 2, none⟩ v2) := by
  refine ⟨t, A, cap, hm, rfl, ht.keep fun b hb _ => ?_, hd.other (by omega) (by have := hd.1; omega) _ _ _, ?_⟩
  · have := of_decide_eq_true hb
    exact ⟨decide_eq_true (by omega), set3_other _ _ _ _ _ _ (by omega)⟩
  · have h := below_set3 W w.heap.size v0 v1 v2
    exact ⟨h.os.trans hg.os, h.tape.trans hg.tape, h.output.trans hg.output, Nat.le_trans hg.size h.size, fun i hi hn => (h.block i hi).trans (hg.block i hi hn)⟩

set_option maxRecDepth 100000 in
set_option maxHeartbeats 4000000 in
/-- The first arm at depth 1. (Under way: to be taken into the induction on D; the arm of a small throw ends alike.) -/
theorem made_term_low (D B g : Nat) (vars : Int) (w : World) (hd : DiceAt B g w) (hD1 : D = 1) :
    Calls Tryz.prog 17 #[.pointer (some ⟨g, 0, none⟩), .int .i64 (D : Int), .int .i64 vars] w (MadePost vars D B g w) := by
  have hgl := hd.lt
  have bx := Box.new w (.int .i64 0) (.string ⟨#[]⟩) (.slice none 0 0)
  have hw := below_alloc1 w (.cells #[.int .i64 0, .string ⟨#[]⟩, .slice none 0 0] 29)
  have hz := size_alloc1 w (.cells #[.int .i64 0, .string ⟨#[]⟩, .slice none 0 0] 29)
  have HD := Lib.hid (hd.below hw hgl); have HGL := Lib.hid hgl
  clear hd hgl
  go_enter Tryz.func17, Tryz.ntmps17
  go_upto_region 1 with fail
  generalize w.alloc (.cells #[.int .i64 0, .string ⟨#[]⟩, .slice none 0 0] 29) = w1 at bx hw hz HD ⊢
  have HB := Lib.hid bx; have HW := Lib.hid hw; have HZ := Lib.hid hz
  clear bx hw hz
  go_wp2_with fail
  refine (made_next B g 8 _ HD.out (by omega) (by omega)).mono ?_; rintro e w2 ⟨v, hv0, hv1, rfl, hd2, hg2⟩
  have HB2 := Lib.hid (HB.out.grown hg2 (fun e => by have e' := Option.some.inj e; have := HGL.out; omega))
  have HG2 := Lib.hid (grownBy_trans (grownBy_of_below (some g) HW.out) hg2); have HD2 := Lib.hid hd2
  have HZ2 := Lib.hid (show w.heap.size + 1 ≤ w2.heap.size by have := hg2.size; have := HZ.out; omega)
  clear hd2 hg2
  have h1 : (D : Int) ≤ 1 := by omega
  go_upto_region 3 with fail
  go_wp2_with fail
  refine (made_atom B g _ _ HD2.out).mono ?_; rintro e w3 ⟨k, s, hk, rfl, hd3, hg3⟩
  have HB3 := Lib.hid (HB2.out.grown hg3 (fun e => by have e' := Option.some.inj e; have := HGL.out; omega))
  have HG3 := Lib.hid (grownBy_trans HG2.out hg3); have HD3 := Lib.hid hd3
  have HK := Lib.hid hk
  obtain ⟨x0, x1, x2⟩ := HB3.out.cells
  obtain ⟨f0, f1, f2⟩ := HB3.out.free
  clear hd3 hg3 hk
  go_wp2_with fail
  obtain ⟨d0, d1, d2⟩ := (box_set3 HB3.out (.int .i64 k) (.string s) (.slice none 0 0)).cells
  refine bodyPost_ret (v := .agg #[.int .i64 k, .string s, .slice none 0 0]) (by simp [results, Tryz.results17, go_sem, d0, d1, d2]) rfl ?_
  exact made_ends (t := .mk k s []) (A := none) (cap := 0) HG3.out HGL.out HD3.out (T.maden_of_atom HK.out D) (atom_in _ _ k s (by have := (T.made0_facts HK.out).1; omega) (by have := (T.made0_facts HK.out).2.2; unfold maxLen; omega)) _ _ _
end Go.Proofs.YtihbmgkbipeakaaGreat

namespace Go.Proofs.YtihbmgkbipeakaaGreat
open Go.RowKit

theorem DiceAt.drew {B g : Nat} {w : World} (h : DiceAt B g w) : DiceAt B g w.drew := h
/-- What the loop of a power has done: c is the power's own block. -/
def PowAt (c B g : Nat) (w : World) (L : List T) (wr : World) : Prop :=
  ∃ kv, Box wr c (.int .i64 7) (.string ⟨#[]⟩) kv ∧ Box wr w.heap.size (.int .i64 0) (.string ⟨#[]⟩) (.slice none 0 0) ∧ TermsRow wr (c + 1) kv L ∧ DiceAt B g wr ∧ w.grownBy wr (some g)
theorem PowAt.step {c B g : Nat} {w : World} {L : List T} {wr w3 w4 : World} {kv u0 u1 u2 : Value} {t : T} {xs : List Value} {g' cap : Nat} (hgl : g < w.heap.size) (hc : w.heap.size < c)
    (x : Box wr c (.int .i64 7) (.string ⟨#[]⟩) kv) (y : Box wr w.heap.size (.int .i64 0) (.string ⟨#[]⟩) (.slice none 0 0)) (hrow : TermsRow wr (c + 1) kv L) (hgr : w.grownBy wr (some g))
    (hx : ∀ i (h : i < L.length), ∃ u0 u1 u2, xs[i * 3]? = some u0 ∧ xs[i * 3 + 1]? = some u1 ∧ xs[i * 3 + 2]? = some u2 ∧ TermIn (but (c + 1) kv.ownBlock) wr (.agg #[u0, u1, u2]) L[i]) (hl : xs.length = L.length * 3)
    (hd3 : DiceAt B g w3) (hg3 : wr.grownBy w3 (some g)) (ht : ∀ S W, TermIn S W (.agg #[u0, u1, u2]) t)
    (hown : w4.ownsRow (c + 1) 29 3 (.slice (some ⟨g', 0, none⟩) (L.length + 1) cap) (L.length + 1) (xs ++ [u0, u1, u2])) (hgrow : (w3.alloc (.cells #[u0, u1, u2] 29)).grownBy w4 kv.ownBlock)
    (hat : kv.ownBlock = some g' ∨ g' = w3.heap.size + 1) : PowAt c B g w (L ++ [t]) (w4.setCell ⟨c, 2, none⟩ (.slice (some ⟨g', 0, none⟩) (L.length + 1) cap)) := by
  have hB := hd3.1
  have hne : ∀ b, b < c + 1 → kv.ownBlock ≠ some b := fun b hlt e => by have := (hrow.block b e).1; omega
  have hw4 := below_alloc1 w3 (.cells #[u0, u1, u2] 29)
  have hz4 := size_alloc1 w3 (.cells #[u0, u1, u2] 29)
  have hgb : ∀ b, g < b → some g ≠ some b := fun b hb e => by have e' := Option.some.inj e; omega
  have hcl := x.lt
  have hs3 := hg3.size
  have hold : ∀ b, b < c + 1 → b < w3.heap.size → w4.heap[b]? = w3.heap[b]? := fun b hb hl => (hgrow.block b (by omega) (fun e => hne b hb e.symm)).trans (hw4.block b hl)
  have hd4 : DiceAt B g w4 := by
    obtain ⟨h0, A, n, cc, k, h1, h2, h3, h3', h4⟩ := hd3
    refine ⟨h0, A, n, cc, k, (hold g (by omega) (by omega)).trans h1, h2, h3, h3', ?_⟩
    rcases h4 with h4 | ⟨b, off, hbB, e, hc4⟩
    · exact .inl h4
    · refine .inr ⟨b, off, hbB, e, fun j hj => ?_⟩
      obtain ⟨z, g1, g2⟩ := hc4 j hj
      refine ⟨z, ?_, g2⟩
      rw [← g1]
      exact World.cell?_of_block (hold b (by omega) (by omega))
  have hset : ∀ b, b ≠ c → (w4.setCell ⟨c, 2, none⟩ (.slice (some ⟨g', 0, none⟩) (L.length + 1) cap)).heap[b]? = w4.heap[b]? := fun b hb => Below.heap_setCell _ _ _ _ (by show b ≠ c; exact hb)
  refine ⟨_, ((((x.grown hg3 (hgb _ (by omega))).later hw4).grown hgrow (hne _ (by omega))).set2 _), ?_, ?_, ?_, ?_⟩
  · exact (((y.grown hg3 (hgb _ (by omega))).later hw4).grown hgrow (hne _ (by omega))).setOther (by simp; omega) _
  · have h1 := TermsRow.snoc (w := w3.alloc (.cells #[u0, u1, u2] 29)) (H := w3.heap.size + 1) (t := t) (fun i hi => by
        obtain ⟨a0, a1, a2, b0, b1, b2, b3⟩ := hx i hi
        exact ⟨a0, a1, a2, b0, b1, b2, b3.keep fun b hb hlt => ⟨hb, (hw4.block b (by omega)).trans (hg3.block b hlt (fun e => by have e' : b = g := Option.some.inj e; have := (but_iff.1 hb).1; omega))⟩⟩) hl
      (ht _ _) hown hgrow hat (by rw [size_alloc1])
    exact h1.keep fun b hbb _ => hset b (by omega)
  · obtain ⟨h0, A, n, cc, k, h1, h2, h3, h3', h4⟩ := hd4
    refine ⟨h0, A, n, cc, k, (hset g (by omega)).trans h1, h2, h3, h3', ?_⟩
    rcases h4 with h4 | ⟨b, off, hbB, e, hc4⟩
    · exact .inl h4
    · refine .inr ⟨b, off, hbB, e, fun j hj => ?_⟩
      obtain ⟨z, g1, g2⟩ := hc4 j hj
      refine ⟨z, ?_, g2⟩
      rw [← g1]
      exact World.cell?_of_block (hset b (by omega))
  · have e3 := hgr.size
    have e4 := hgrow.size
    refine ⟨hgrow.os.trans (hw4.os.trans (hg3.os.trans hgr.os)), hgrow.tape.trans (hw4.tape.trans (hg3.tape.trans hgr.tape)), hgrow.output.trans (hw4.output.trans (hg3.output.trans hgr.output)), ?_, fun i hi hn => ?_⟩
    · simp only [World.setCell, Array.size_modify]; omega
    · rw [hset i (by omega), hold i (by omega) (by omega), hg3.block i (by omega) hn, hgr.block i hi hn]
end Go.Proofs.YtihbmgkbipeakaaGreat
