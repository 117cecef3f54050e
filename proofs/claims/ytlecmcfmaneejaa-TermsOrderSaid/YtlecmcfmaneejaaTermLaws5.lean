/- Chapter 40: the walk of the law on the order of three made terms. -/
import Derived.Test.YtlecmcfmaneejaaTermLaws4
namespace Go.Proofs.Ytlecmcfmaneejaa
open Go.RowKit Go.ChangeShapes Go.WideShapes

/-- An array of three terms. -/
def Nine (w : World) (a : Nat) (V : Nat → Value) : Prop := w.heap[a]? = some (.cells #[V 0, V 1, V 2, V 3, V 4, V 5, V 6, V 7, V 8] 44)
theorem Nine.lt {w : World} {a : Nat} {V : Nat → Value} (h : Nine w a V) : a < w.heap.size := (Array.getElem?_eq_some_iff.1 h).1
theorem Nine.cell {w : World} {a : Nat} {V : Nat → Value} (h : Nine w a V) (j : Nat) (hj : j < 9) : w.cell? ⟨a, j, none⟩ = some (V j) := by
  unfold Nine at h
  match j, hj with
  | 0, _ | 1, _ | 2, _ | 3, _ | 4, _ | 5, _ | 6, _ | 7, _ | 8, _ => simp [World.cell?, h]
theorem Nine.free {w : World} {a : Nat} {V : Nat → Value} (h : Nine w a V) (j : Nat) : w.frozen? ⟨a, j, none⟩ = false := by
  unfold Nine at h
  simp [World.frozen?, h]
/-- The cells with the j-th term replaced. -/
def put3 (V : Nat → Value) (j : Nat) (x y z : Value) (i : Nat) : Value := if i = j * 3 then x else if i = j * 3 + 1 then y else if i = j * 3 + 2 then z else V i
theorem Nine.set3 {w : World} {a : Nat} {V : Nat → Value} (h : Nine w a V) (j : Nat) (hj : j < 3) (x y z : Value) :
    Nine (((w.setCell ⟨a, j * 3, none⟩ x).setCell ⟨a, j * 3 + 1, none⟩ y).setCell ⟨a, j * 3 + 2, none⟩ z) a (put3 V j x y z) := by
  unfold Nine at *
  match j, hj with
  | 0, _ | 1, _ | 2, _ => simp [World.setCell, Array.getElem?_modify, h, put3]
theorem Nine.grown {w w' : World} {a : Nat} {V : Nat → Value} {row : Option Nat} (h : Nine w a V) (hg : w.grownBy w' row) (hr : row ≠ some a) : Nine w' a V := (hg.block a h.lt (fun e => hr e.symm)).trans h
/-- What the loop over the three terms has done. -/
def OrdS (w2 : World) (g a : Nat) (ts : List T) (wr : World) : Prop :=
  ∃ V, Nine wr a V ∧ (∀ j (h : j < ts.length), T.Made 3 ts[j] ∧ TermIn (from_ (a + 1)) wr (.agg #[V (j * 3), V (j * 3 + 1), V (j * 3 + 2)]) ts[j]) ∧ DiceAt g g wr ∧ w2.grownBy wr (some g)
theorem nine_other (w : World) (a : Nat) (p q r : Nat) (x y z : Value) (b : Nat) (hb : b ≠ a) : (((w.setCell ⟨a, p, none⟩ x).setCell ⟨a, q, none⟩ y).setCell ⟨a, r, none⟩ z).heap[b]? = w.heap[b]? := by
  rw [Below.heap_setCell _ _ _ _ (by show b ≠ a; exact hb), Below.heap_setCell _ _ _ _ (by show b ≠ a; exact hb), Below.heap_setCell _ _ _ _ (by show b ≠ a; exact hb)]
theorem OrdS.step {w2 wr w4 : World} {g a : Nat} {ts : List T} {t : T} {V : Nat → Value} {x y z : Value} (ha : a = w2.heap.size) (hga : g < a) (h3 : ts.length < 3) (hV : Nine wr a V)
    (hts : ∀ j (h : j < ts.length), T.Made 3 ts[j] ∧ TermIn (from_ (a + 1)) wr (.agg #[V (j * 3), V (j * 3 + 1), V (j * 3 + 2)]) ts[j]) (hgr : w2.grownBy wr (some g))
    (hm : T.Made 3 t) (ht : TermIn (from_ wr.heap.size) w4 (.agg #[x, y, z]) t) (hd : DiceAt g g w4) (hg : wr.grownBy w4 (some g)) :
    OrdS w2 g a (ts ++ [t]) (((w4.setCell ⟨a, ts.length * 3, none⟩ x).setCell ⟨a, ts.length * 3 + 1, none⟩ y).setCell ⟨a, ts.length * 3 + 2, none⟩ z) := by
  have hV4 := hV.grown hg (fun e => by have e' := Option.some.inj e; omega)
  have hal := hV.lt
  have hset := nine_other w4 a (ts.length * 3) (ts.length * 3 + 1) (ts.length * 3 + 2) x y z
  have hz : w4.heap.size = (((w4.setCell ⟨a, ts.length * 3, none⟩ x).setCell ⟨a, ts.length * 3 + 1, none⟩ y).setCell ⟨a, ts.length * 3 + 2, none⟩ z).heap.size := by simp [World.setCell]
  have h9 := hV4.set3 ts.length h3 x y z
  refine ⟨_, h9, fun j hj => ?_, ?_, ?_⟩
  · rw [List.length_append, List.length_singleton] at hj
    rcases Nat.lt_or_ge j ts.length with g1 | g1
    · obtain ⟨m1, m2⟩ := hts j g1
      rw [List.getElem_append_left g1]
      refine ⟨m1, ?_⟩
      have e0 : put3 V ts.length x y z (j * 3) = V (j * 3) := by unfold put3; rw [if_neg (by omega), if_neg (by omega), if_neg (by omega)]
      have e1 : put3 V ts.length x y z (j * 3 + 1) = V (j * 3 + 1) := by unfold put3; rw [if_neg (by omega), if_neg (by omega), if_neg (by omega)]
      have e2 : put3 V ts.length x y z (j * 3 + 2) = V (j * 3 + 2) := by unfold put3; rw [if_neg (by omega), if_neg (by omega), if_neg (by omega)]
      rw [e0, e1, e2]
      exact m2.keep fun b hb hl => ⟨hb, by have := of_decide_eq_true hb; rw [hset b (by omega), hg.block b hl (fun e => by have e' : b = g := Option.some.inj e; omega)]⟩
    · obtain rfl : j = ts.length := by omega
      rw [List.getElem_append_right (Nat.le_refl _)]
      simp only [Nat.sub_self, List.getElem_cons_zero]
      refine ⟨hm, ?_⟩
      have e0 : put3 V ts.length x y z (ts.length * 3) = x := by unfold put3; rw [if_pos rfl]
      have e1 : put3 V ts.length x y z (ts.length * 3 + 1) = y := by unfold put3; rw [if_neg (by omega), if_pos rfl]
      have e2 : put3 V ts.length x y z (ts.length * 3 + 2) = z := by unfold put3; rw [if_neg (by omega), if_neg (by omega), if_pos rfl]
      rw [e0, e1, e2]
      exact ht.keep fun b hb hl => ⟨decide_eq_true (by have := of_decide_eq_true hb; omega), by have := of_decide_eq_true hb; exact hset b (by omega)⟩
  · obtain ⟨d0, A, n, cc, k, d1, d2, d3, d4, d5⟩ := hd
    refine ⟨d0, A, n, cc, k, (hset g (by omega)).trans d1, d2, d3, d4, ?_⟩
    rcases d5 with d5 | ⟨b, off, hbB, e, hc⟩
    · exact .inl d5
    · refine .inr ⟨b, off, hbB, e, fun j hj => ?_⟩
      obtain ⟨u, g1, g2⟩ := hc j hj
      exact ⟨u, (World.cell?_of_block (hset b (by omega))).trans g1, g2⟩
  · have hall := grownBy_trans hgr hg
    refine ⟨?_, ?_, ?_, ?_, fun i hi hn => ?_⟩
    · exact hall.os
    · exact hall.tape
    · exact hall.output
    · rw [← hz]; exact hall.size
    · rw [hset i (by omega)]; exact hall.block i hi hn

set_option maxRecDepth 100000 in
set_option maxHeartbeats 8000000 in
theorem terms_order (A : Option Addr) (n c : Nat) (w : World) (hn : n ≤ maxLen) (hl : ListAt w A n) :
    Calls Try.prog 7 #[.slice A n c] w fun e w' => e = .returned (.bool true) ∧ Below w.heap.size w w' := by
  have HL := Lib.hid (fun W => made_light A n c W hn)
  obtain ⟨q, hq⟩ : ∃ q, decide (n ≤ 80) = q := ⟨_, rfl⟩
  rw [hq] at HL
  have HLA := Lib.hid hl
  clear hl
  go_enter Try.func7, Try.ntmps7
  go_wp2_with fail
  refine (HL.out _).mono ?_; rintro e w1 ⟨rfl, rfl⟩
  cases q
  · go_wp2_with fail
    refine (awake _).mono ?_; rintro e w3 ⟨rfl, hb⟩
    have HB := Lib.hid hb
    clear hb
    go_wp2_with fail
    go_ret
    exact ⟨rfl, HB.out⟩
  have HQ := Lib.hid (of_decide_eq_true hq)
  go_wp2_with fail
  refine (made_roll A n c _ HQ.out HLA.out).mono ?_; rintro e w2 ⟨g, hg, rfl, hd, hb2⟩
  have HGA := Lib.hid hd.lt
  have HG := Lib.hid hg; have HB2 := Lib.hid hb2
  have hv0 : Nine (w2.alloc (.cells #[.int .i64 0, .string ⟨#[]⟩, .slice none 0 0, .int .i64 0, .string ⟨#[]⟩, .slice none 0 0, .int .i64 0, .string ⟨#[]⟩, .slice none 0 0] 44)) w2.heap.size (fun i => if i % 3 = 0 then .int .i64 0 else if i % 3 = 1 then .string ⟨#[]⟩ else .slice none 0 0) := heap_alloc_new w2 _
  have hw3 := below_alloc1 w2 (.cells #[.int .i64 0, .string ⟨#[]⟩, .slice none 0 0, .int .i64 0, .string ⟨#[]⟩, .slice none 0 0, .int .i64 0, .string ⟨#[]⟩, .slice none 0 0] 44)
  have hs0 : OrdS w2 g w2.heap.size [] (w2.alloc (.cells #[.int .i64 0, .string ⟨#[]⟩, .slice none 0 0, .int .i64 0, .string ⟨#[]⟩, .slice none 0 0, .int .i64 0, .string ⟨#[]⟩, .slice none 0 0] 44)) :=
    ⟨_, hv0, fun j h => by simp at h, hd.below hw3 hd.lt, grownBy_of_below _ hw3⟩
  have HST := Lib.hid hs0
  clear hg hd hb2 hv0 hw3 hs0
  go_upto_region 5 with fail
  generalize w2.alloc (.cells #[.int .i64 0, .string ⟨#[]⟩, .slice none 0 0, .int .i64 0, .string ⟨#[]⟩, .slice none 0 0, .int .i64 0, .string ⟨#[]⟩, .slice none 0 0] 44) = w3 at HST ⊢
  obtain ⟨a, ha⟩ : ∃ a, a = w2.heap.size := ⟨_, rfl⟩
  rw [← ha] at HST HGA ⊢
  have HA := Lib.hid ha
  clear ha
  go_wp2_with fail
  go_loopw [5] (fun i wr => ∃ ts : List T, ts.length ≤ 3 ∧ i = .int .i64 (ts.length : Nat) ∧ OrdS w2 g a ts wr) (fun i _ => 3 - (intOf i).toNat)
  case atStart => exact ⟨[], by simp, rfl, HST.out⟩
  case round =>
    obtain ⟨ts, h3, rfl, V, hV, hts, hdr, hgr⟩ := hrel
    by_cases hlt : ts.length < 3
    · have hi : (ts.length : Int) < 3 := by omega
      have HV := Lib.hid hV; have HTS := Lib.hid hts; have HDR := Lib.hid hdr; have HGR := Lib.hid hgr
      have HLT := Lib.hid hlt
      obtain ⟨j, hj⟩ : ∃ j, ts.length = j := ⟨_, rfl⟩
      have HJ := Lib.hid hj
      rw [hj] at hi hlt ⊢
      clear hV hts hdr hgr hj h3
      go_wp2_with fail
      refine (made_term 3 3 (by omega) (by omega) g g _ HDR.out).mono ?_; rintro e w4 ⟨t, A4, C4, hm, rfl, hti, hd4, hg4⟩
      have hV4 := HV.out.grown hg4 (fun e => by have e' := Option.some.inj e; have := HGA.out; omega)
      have c0 := hV4.cell (j * 3) (by omega); have c1 := hV4.cell (j * 3 + 1) (by omega); have c2 := hV4.cell (j * 3 + 2) (by omega)
      have f0 := hV4.free (j * 3); have f1 := hV4.free (j * 3 + 1); have f2 := hV4.free (j * 3 + 2)
      have hfin := OrdS.step HA.out HGA.out HLT.out HV.out HTS.out HGR.out hm hti hd4 hg4
      rw [HJ.out] at hfin
      have HFIN := Lib.hid hfin
      clear hm hti hd4 hg4 hV4 hfin
      go_wp2_with fail
      go_roundw
      case rel => exact ⟨ts ++ [t], by have := HJ.out; simp; omega, by have := HJ.out; simp; omega, HFIN.out⟩
      case measure => have := HJ.out; simp [intOf]; omega
    · obtain ⟨t0, t1, t2, rfl⟩ : ∃ t0 t1 t2, ts = [t0, t1, t2] := by
        match ts, (show ts.length = 3 by omega) with
        | [x, y, z], _ => exact ⟨x, y, z, rfl⟩
      have q0 : T.Made 3 t0 ∧ TermIn (from_ (a + 1)) wr (.agg #[V 0, V 1, V 2]) t0 := hts 0 (by simp)
      have q1 : T.Made 3 t1 ∧ TermIn (from_ (a + 1)) wr (.agg #[V 3, V 4, V 5]) t1 := hts 1 (by simp)
      have q2 : T.Made 3 t2 ∧ TermIn (from_ (a + 1)) wr (.agg #[V 6, V 7, V 8]) t2 := hts 2 (by simp)
      obtain ⟨A0, C0, e0⟩ := q0.2.view
      obtain ⟨A1, C1, e1⟩ := q1.2.view
      obtain ⟨A2, C2, e2⟩ := q2.2.view
      obtain ⟨a00, a01, a02⟩ : V 0 = .int .i64 t0.kind ∧ V 1 = .string t0.name ∧ V 2 = .slice A0 t0.kids.length C0 := by simpa using e0
      obtain ⟨a10, a11, a12⟩ : V 3 = .int .i64 t1.kind ∧ V 4 = .string t1.name ∧ V 5 = .slice A1 t1.kids.length C1 := by simpa using e1
      obtain ⟨a20, a21, a22⟩ : V 6 = .int .i64 t2.kind ∧ V 7 = .string t2.name ∧ V 8 = .slice A2 t2.kids.length C2 := by simpa using e2
      have c0 := hV.cell 0 (by omega); have c1 := hV.cell 1 (by omega); have c2 := hV.cell 2 (by omega); have c3 := hV.cell 3 (by omega); have c4 := hV.cell 4 (by omega); have c5 := hV.cell 5 (by omega); have c6 := hV.cell 6 (by omega); have c7 := hV.cell 7 (by omega); have c8 := hV.cell 8 (by omega)
      have ta := q0.2.at; have tb := q1.2.at; have tc := q2.2.at
      rw [e0] at ta; rw [e1] at tb; rw [e2] at tc
      rw [a00] at c0; rw [a01] at c1; rw [a02] at c2; rw [a10] at c3; rw [a11] at c4; rw [a12] at c5; rw [a20] at c6; rw [a21] at c7; rw [a22] at c8
      have hbw : Below w.heap.size w wr := HB2.out.grown hgr HB2.out.size (fun k hk => by have e' : g = k := Option.some.inj hk; have := HG.out; omega)
      have m0 := q0.1; have m1 := q1.1; have m2 := q2.1
      have HBW := Lib.hid hbw
      clear e0 e1 e2 a00 a01 a02 a10 a11 a12 a20 a21 a22 q0 q1 q2 hV hts hdr hgr hbw h3 hlt HST
      obtain ⟨C, hC⟩ : ∃ C, T.cmp = C := ⟨_, rfl⟩
      have HCC := Lib.hid (fun (x y : T) (vx vy : Value) (W : World) (hx : TermAt W vx x) (hy : TermAt W vy y) (bx : x.bulk ≤ 1048576) (by' : y.bulk ≤ 1048576) => ocmp (x.bulk + 1) x y vx vy W (by omega) hx hy bx by')
      obtain ⟨s0, hs0⟩ : ∃ s, strOf t0.text = s := ⟨_, rfl⟩
      obtain ⟨s1, hs1⟩ : ∃ s, strOf t1.text = s := ⟨_, rfl⟩
      have hsame : s0 = s1 ↔ T.cmp t0 t1 = 0 := by
        constructor
        · intro e
          have h1 := T.parse_text t0 (m0.valid (by omega)) (m0.text (by omega))
          have h2 := T.parse_text t1 (m1.valid (by omega)) (m1.text (by omega))
          rw [hs0, e, ← hs1, h2] at h1
          have e' : t1 = t0 := congrArg Prod.fst h1
          rw [e']; exact T.cmp_self t0
        · intro e
          rw [← hs0, ← hs1, T.cmp_eq t0 t1 e]
      have hnot : T.cmp t0 t1 ≠ 0 → (s0.toList == s1.toList) = false := fun h => by
        rw [beq_eq_false_iff_ne]
        intro e
        exact h (hsame.1 (str_eq (by rw [← ByteArray.toList_eq, ← ByteArray.toList_eq]; exact e)))
      have hcase : (T.cmp t0 t1 = 1 ∧ (s0.toList == s1.toList) = false) ∨ (T.cmp t0 t1 = -1 ∧ T.cmp t1 t2 = 1 ∧ (s0.toList == s1.toList) = false) ∨ (T.cmp t0 t1 = 0 ∧ T.cmp t1 t2 = 1 ∧ s0 = s1) ∨ (T.cmp t0 t1 = 0 ∧ T.cmp t1 t2 = 0 ∧ T.cmp t0 t2 = 0 ∧ s0 = s1) ∨
          (T.cmp t0 t1 = -1 ∧ T.cmp t1 t2 = 0 ∧ T.cmp t0 t2 = -1 ∧ (s0.toList == s1.toList) = false) ∨ (T.cmp t0 t1 = 0 ∧ T.cmp t1 t2 = -1 ∧ T.cmp t0 t2 = -1 ∧ s0 = s1) ∨ (T.cmp t0 t1 = -1 ∧ T.cmp t1 t2 = -1 ∧ T.cmp t0 t2 = -1 ∧ (s0.toList == s1.toList) = false) := by
        rcases T.cmp_vals t0 t1 with h | h | h
        · have hne := hnot (by omega)
          rcases T.cmp_vals t1 t2 with h' | h' | h'
          · exact .inr (.inr (.inr (.inr (.inr (.inr ⟨h, h', T.cmp_trans _ _ _ h h', hne⟩)))))
          · have e := T.cmp_eq _ _ h'
            exact .inr (.inr (.inr (.inr (.inl ⟨h, h', by rw [← e]; exact h, hne⟩))))
          · exact .inr (.inl ⟨h, h', hne⟩)
        · have he : s0 = s1 := hsame.2 h
          have e := T.cmp_eq _ _ h
          rcases T.cmp_vals t1 t2 with h' | h' | h'
          · exact .inr (.inr (.inr (.inr (.inr (.inl ⟨h, h', by rw [e]; exact h', he⟩)))))
          · exact .inr (.inr (.inr (.inl ⟨h, h', by rw [e]; exact h', he⟩)))
          · exact .inr (.inr (.inl ⟨h, h', he⟩))
        · exact .inl ⟨h, hnot (by omega)⟩
      have HF0 := Lib.hid (show ∀ v W, TermAt W v t0 → Calls Try.prog 19 #[v] W fun e w' => e = .returned (.string s0) ∧ Below W.heap.size W w' from fun v W h => by
        have := oformat t0 v W h (by have := m0.bulk (by omega); omega)
        rw [if_pos (m0.valid (by omega)), hs0] at this; exact this)
      have HF1 := Lib.hid (show ∀ v W, TermAt W v t1 → Calls Try.prog 19 #[v] W fun e w' => e = .returned (.string s1) ∧ Below W.heap.size W w' from fun v W h => by
        have := oformat t1 v W h (by have := m1.bulk (by omega); omega)
        rw [if_pos (m1.valid (by omega)), hs1] at this; exact this)
      have hb0 : t0.bulk ≤ 1048576 := by have := m0.bulk (by omega); omega
      have hb1 : t1.bulk ≤ 1048576 := by have := m1.bulk (by omega); omega
      have hb2 : t2.bulk ≤ 1048576 := by have := m2.bulk (by omega); omega
      clear hnot hsame hs0 hs1 m0 m1 m2
      rw [hC] at hcase HCC
      clear hC
      have HCASE := Lib.hid hcase
      clear hcase
      generalize t0.kind = k0 at ta c0 ⊢
      generalize t0.name = n0 at ta c1 ⊢
      generalize t0.kids.length = l0 at ta c2 ⊢
      generalize t1.kind = k1 at tb c3 ⊢
      generalize t1.name = n1 at tb c4 ⊢
      generalize t1.kids.length = l1 at tb c5 ⊢
      generalize t2.kind = k2 at tc c6 ⊢
      generalize t2.name = n2 at tc c7 ⊢
      generalize t2.kids.length = l2 at tc c8 ⊢
      obtain ⟨wo, hwo⟩ : ∃ wo : World, wo = wr := ⟨_, rfl⟩
      subst hwo
      go_upto_region 9 with fail
      go_region_held3 (fun W => (W.cell? ⟨a, 0, none⟩ = some (.int .i64 k0) ∧ W.cell? ⟨a, 1, none⟩ = some (.string n0) ∧ W.cell? ⟨a, 2, none⟩ = some (.slice A0 l0 C0)) ∧ (W.cell? ⟨a, 3, none⟩ = some (.int .i64 k1) ∧ W.cell? ⟨a, 4, none⟩ = some (.string n1) ∧ W.cell? ⟨a, 5, none⟩ = some (.slice A1 l1 C1)) ∧ (W.cell? ⟨a, 6, none⟩ = some (.int .i64 k2) ∧ W.cell? ⟨a, 7, none⟩ = some (.string n2) ∧ W.cell? ⟨a, 8, none⟩ = some (.slice A2 l2 C2)) ∧ TermAt W (.agg #[.int .i64 k0, .string n0, .slice A0 l0 C0]) t0 ∧ TermAt W (.agg #[.int .i64 k1, .string n1, .slice A1 l1 C1]) t1 ∧ TermAt W (.agg #[.int .i64 k2, .string n2, .slice A2 l2 C2]) t2 ∧ Below wo.heap.size wo W)
        (first | exact ⟨⟨c0, c1, c2⟩, ⟨c3, c4, c5⟩, ⟨c6, c7, c8⟩, ta, tb, tc, Below.refl _ _⟩ | exact ⟨⟨c0, c1, c2⟩, ⟨c3, c4, c5⟩, ⟨c6, c7, c8⟩, ta.drew, tb.drew, tc.drew, (Below.refl _ _).drew⟩ | exact back_later (by assumption) hb4 | go_keep)
        (first | (go_at_call 21; have hS' := (by assumption : (_ ∧ _ ∧ _) ∧ (_ ∧ _ ∧ _) ∧ (_ ∧ _ ∧ _) ∧ TermAt _ _ _ ∧ TermAt _ _ _ ∧ TermAt _ _ _ ∧ Below _ _ _); have ta' := hS'.2.2.2.1; have tb' := hS'.2.2.2.2.1; have tc' := hS'.2.2.2.2.2.1; clear hS'; refine (HCC.out _ _ _ _ _ (by assumption) (by assumption) (by assumption) (by assumption)).mono ?_; rintro e w' ⟨rfl, hb4⟩; clear ta' tb' tc'))
      all_goals
        rename_i hS
        have HS := Lib.hid hS
        clear hS c0 c1 c2 c3 c4 c5 c6 c7 c8 ta tb tc
        have hc := HCASE.out
        clear HCC HCASE
        generalize C t0 t1 = ai at hc ⊢
        generalize C t1 t2 = bi at hc ⊢
        generalize C t0 t2 = ci at hc ⊢
        obtain ⟨wp, hwp⟩ : ∃ wp : World, wp = w' := ⟨_, rfl⟩
        subst hwp
        obtain ⟨⟨c0, c1, c2⟩, ⟨c3, c4, c5⟩, ⟨c6, c7, c8⟩, ta, tb, tc, hbp⟩ := HS.out
        have HBP := Lib.hid (HBW.out.trans (hbp.mono HBW.out.size))
        clear HS hbp
        rcases hc with ⟨rfl, hne⟩ | ⟨rfl, rfl, hne⟩ | ⟨rfl, rfl, rfl⟩ | ⟨rfl, rfl, rfl, rfl⟩ | ⟨rfl, rfl, rfl, hne⟩ | ⟨rfl, rfl, rfl, rfl⟩ | ⟨rfl, rfl, rfl, hne⟩
        all_goals go_upto_region 10 with fail
        all_goals (refine wp_region_held_drew (S := (fun W => (W.cell? ⟨a, 0, none⟩ = some (.int .i64 k0) ∧ W.cell? ⟨a, 1, none⟩ = some (.string n0) ∧ W.cell? ⟨a, 2, none⟩ = some (.slice A0 l0 C0)) ∧ (W.cell? ⟨a, 3, none⟩ = some (.int .i64 k1) ∧ W.cell? ⟨a, 4, none⟩ = some (.string n1) ∧ W.cell? ⟨a, 5, none⟩ = some (.slice A1 l1 C1)) ∧ (W.cell? ⟨a, 6, none⟩ = some (.int .i64 k2) ∧ W.cell? ⟨a, 7, none⟩ = some (.string n2) ∧ W.cell? ⟨a, 8, none⟩ = some (.slice A2 l2 C2)) ∧ TermAt W (.agg #[.int .i64 k0, .string n0, .slice A0 l0 C0]) t0 ∧ TermAt W (.agg #[.int .i64 k1, .string n1, .slice A1 l1 C1]) t1 ∧ TermAt W (.agg #[.int .i64 k2, .string n2, .slice A2 l2 C2]) t2 ∧ Below wp.heap.size wp W)) (by kernel_rfl) ⟨⟨c0, c1, c2⟩, ⟨c3, c4, c5⟩, ⟨c6, c7, c8⟩, ta.drew, tb.drew, tc.drew, (Below.refl _ _).drew⟩ (fun hHeld => ?_))
        all_goals (refine wpAnyH_ready (rs := [0]) (by kernel_rfl) (by simp) ?_; refine AllReadyH.cons (by simp only [List.getElem?_toArray, List.getElem?_cons_zero]; rfl) (fun K hK => ?_) AllReadyH.nil; go_simp; go_at_call 9; refine (awake _).mono ?_; rintro e w' ⟨rfl, hb4⟩; refine hK.out _ _ (back_later hHeld hb4) (fun hHeld => ?_); clear hK K; (try simp only [Act.put, List.setIfInBounds_toArray, List.set_cons_zero, List.set_cons_succ]))
        all_goals ((first | (refine wpAnyH_take (i := 1) (v := ?_) (by simp only [List.getElem?_toArray, List.getElem?_cons_succ, List.getElem?_cons_zero]; rfl) (by kernel_rfl) (by kernel_rfl) (by kernel_rfl) (by exact fun _ _ _ h => h) (Or.inl ⟨by rfl, ?_⟩) (by assumption) ?_; rotate_left 1; · (intro w hSw; (try dsimp only at hSw); go_simp; (try with_reducible rfl))) | (refine wpAnyH_take (i := 1) (v := undef) (by simp only [List.getElem?_toArray, List.getElem?_cons_succ, List.getElem?_cons_zero]; rfl) (by kernel_rfl) (by kernel_rfl) (by kernel_rfl) (by exact fun _ _ _ h => h) (Or.inr ⟨by rfl, rfl⟩) (by assumption) ?_)); (try simp only [Act.put, List.setIfInBounds_toArray, List.set_cons_zero, List.set_cons_succ]))
        all_goals ((first | (refine wpAnyH_take (i := 2) (v := ?_) (by simp only [List.getElem?_toArray, List.getElem?_cons_succ, List.getElem?_cons_zero]; rfl) (by kernel_rfl) (by kernel_rfl) (by kernel_rfl) (by exact fun _ _ _ h => h) (Or.inl ⟨by rfl, ?_⟩) (by assumption) ?_; rotate_left 1; · (intro w hSw; (try dsimp only at hSw); go_simp; (try with_reducible rfl))) | (refine wpAnyH_take (i := 2) (v := undef) (by simp only [List.getElem?_toArray, List.getElem?_cons_succ, List.getElem?_cons_zero]; rfl) (by kernel_rfl) (by kernel_rfl) (by kernel_rfl) (by exact fun _ _ _ h => h) (Or.inr ⟨by rfl, rfl⟩) (by assumption) ?_)); (try simp only [Act.put, List.setIfInBounds_toArray, List.set_cons_zero, List.set_cons_succ]))
        all_goals ((first | (refine wpAnyH_take (i := 3) (v := ?_) (by simp only [List.getElem?_toArray, List.getElem?_cons_succ, List.getElem?_cons_zero]; rfl) (by kernel_rfl) (by kernel_rfl) (by kernel_rfl) (by exact fun _ _ _ h => h) (Or.inl ⟨by rfl, ?_⟩) (by assumption) ?_; rotate_left 1; · (intro w hSw; (try dsimp only at hSw); go_simp; (try with_reducible rfl))) | (refine wpAnyH_take (i := 3) (v := undef) (by simp only [List.getElem?_toArray, List.getElem?_cons_succ, List.getElem?_cons_zero]; rfl) (by kernel_rfl) (by kernel_rfl) (by kernel_rfl) (by exact fun _ _ _ h => h) (Or.inr ⟨by rfl, rfl⟩) (by assumption) ?_)); (try simp only [Act.put, List.setIfInBounds_toArray, List.set_cons_zero, List.set_cons_succ]))
        all_goals ((first | (refine wpAnyH_take (i := 4) (v := ?_) (by simp only [List.getElem?_toArray, List.getElem?_cons_succ, List.getElem?_cons_zero]; rfl) (by kernel_rfl) (by kernel_rfl) (by kernel_rfl) (by exact fun _ _ _ h => h) (Or.inl ⟨by rfl, ?_⟩) (by assumption) ?_; rotate_left 1; · (intro w hSw; (try dsimp only at hSw); go_simp; (try with_reducible rfl))) | (refine wpAnyH_take (i := 4) (v := undef) (by simp only [List.getElem?_toArray, List.getElem?_cons_succ, List.getElem?_cons_zero]; rfl) (by kernel_rfl) (by kernel_rfl) (by kernel_rfl) (by exact fun _ _ _ h => h) (Or.inr ⟨by rfl, rfl⟩) (by assumption) ?_)); (try simp only [Act.put, List.setIfInBounds_toArray, List.set_cons_zero, List.set_cons_succ]))
        all_goals ((first | (refine wpAnyH_take (i := 5) (v := ?_) (by simp only [List.getElem?_toArray, List.getElem?_cons_succ, List.getElem?_cons_zero]; rfl) (by kernel_rfl) (by kernel_rfl) (by kernel_rfl) (by exact fun _ _ _ h => h) (Or.inl ⟨by rfl, ?_⟩) (by assumption) ?_; rotate_left 1; · (intro w hSw; (try dsimp only at hSw); go_simp; (try with_reducible rfl))) | (refine wpAnyH_take (i := 5) (v := undef) (by simp only [List.getElem?_toArray, List.getElem?_cons_succ, List.getElem?_cons_zero]; rfl) (by kernel_rfl) (by kernel_rfl) (by kernel_rfl) (by exact fun _ _ _ h => h) (Or.inr ⟨by rfl, rfl⟩) (by assumption) ?_)); (try simp only [Act.put, List.setIfInBounds_toArray, List.set_cons_zero, List.set_cons_succ]))
        all_goals ((first | (refine wpAnyH_take (i := 6) (v := ?_) (by simp only [List.getElem?_toArray, List.getElem?_cons_succ, List.getElem?_cons_zero]; rfl) (by kernel_rfl) (by kernel_rfl) (by kernel_rfl) (by exact fun _ _ _ h => h) (Or.inl ⟨by rfl, ?_⟩) (by assumption) ?_; rotate_left 1; · (intro w hSw; (try dsimp only at hSw); go_simp; (try with_reducible rfl))) | (refine wpAnyH_take (i := 6) (v := undef) (by simp only [List.getElem?_toArray, List.getElem?_cons_succ, List.getElem?_cons_zero]; rfl) (by kernel_rfl) (by kernel_rfl) (by kernel_rfl) (by exact fun _ _ _ h => h) (Or.inr ⟨by rfl, rfl⟩) (by assumption) ?_)); (try simp only [Act.put, List.setIfInBounds_toArray, List.set_cons_zero, List.set_cons_succ]))
        all_goals ((first | (refine wpAnyH_take (i := 7) (v := ?_) (by simp only [List.getElem?_toArray, List.getElem?_cons_succ, List.getElem?_cons_zero]; rfl) (by kernel_rfl) (by kernel_rfl) (by kernel_rfl) (by exact fun _ _ _ h => h) (Or.inl ⟨by rfl, ?_⟩) (by assumption) ?_; rotate_left 1; · (intro w hSw; (try dsimp only at hSw); go_simp; (try with_reducible rfl))) | (refine wpAnyH_take (i := 7) (v := undef) (by simp only [List.getElem?_toArray, List.getElem?_cons_succ, List.getElem?_cons_zero]; rfl) (by kernel_rfl) (by kernel_rfl) (by kernel_rfl) (by exact fun _ _ _ h => h) (Or.inr ⟨by rfl, rfl⟩) (by assumption) ?_)); (try simp only [Act.put, List.setIfInBounds_toArray, List.set_cons_zero, List.set_cons_succ]))
        all_goals ((first | (refine wpAnyH_take (i := 8) (v := ?_) (by simp only [List.getElem?_toArray, List.getElem?_cons_succ, List.getElem?_cons_zero]; rfl) (by kernel_rfl) (by kernel_rfl) (by kernel_rfl) (by exact fun _ _ _ h => h) (Or.inl ⟨by rfl, ?_⟩) (by assumption) ?_; rotate_left 1; · (intro w hSw; (try dsimp only at hSw); go_simp; (try with_reducible rfl))) | (refine wpAnyH_take (i := 8) (v := undef) (by simp only [List.getElem?_toArray, List.getElem?_cons_succ, List.getElem?_cons_zero]; rfl) (by kernel_rfl) (by kernel_rfl) (by kernel_rfl) (by exact fun _ _ _ h => h) (Or.inr ⟨by rfl, rfl⟩) (by assumption) ?_)); (try simp only [Act.put, List.setIfInBounds_toArray, List.set_cons_zero, List.set_cons_succ]))
        all_goals ((first | (refine wpAnyH_take (i := 9) (v := ?_) (by simp only [List.getElem?_toArray, List.getElem?_cons_succ, List.getElem?_cons_zero]; rfl) (by kernel_rfl) (by kernel_rfl) (by kernel_rfl) (by exact fun _ _ _ h => h) (Or.inl ⟨by rfl, ?_⟩) (by assumption) ?_; rotate_left 1; · (intro w hSw; (try dsimp only at hSw); go_simp; (try with_reducible rfl))) | (refine wpAnyH_take (i := 9) (v := undef) (by simp only [List.getElem?_toArray, List.getElem?_cons_succ, List.getElem?_cons_zero]; rfl) (by kernel_rfl) (by kernel_rfl) (by kernel_rfl) (by exact fun _ _ _ h => h) (Or.inr ⟨by rfl, rfl⟩) (by assumption) ?_)); (try simp only [Act.put, List.setIfInBounds_toArray, List.set_cons_zero, List.set_cons_succ]))
        all_goals ((first | (refine wpAnyH_take (i := 10) (v := ?_) (by simp only [List.getElem?_toArray, List.getElem?_cons_succ, List.getElem?_cons_zero]; rfl) (by kernel_rfl) (by kernel_rfl) (by kernel_rfl) (by exact fun _ _ _ h => h) (Or.inl ⟨by rfl, ?_⟩) (by assumption) ?_; rotate_left 1; · (intro w hSw; (try dsimp only at hSw); go_simp; (try with_reducible rfl))) | (refine wpAnyH_take (i := 10) (v := undef) (by simp only [List.getElem?_toArray, List.getElem?_cons_succ, List.getElem?_cons_zero]; rfl) (by kernel_rfl) (by kernel_rfl) (by kernel_rfl) (by exact fun _ _ _ h => h) (Or.inr ⟨by rfl, rfl⟩) (by assumption) ?_)); (try simp only [Act.put, List.setIfInBounds_toArray, List.set_cons_zero, List.set_cons_succ]))
        all_goals ((first | (refine wpAnyH_take (i := 11) (v := ?_) (by simp only [List.getElem?_toArray, List.getElem?_cons_succ, List.getElem?_cons_zero]; rfl) (by kernel_rfl) (by kernel_rfl) (by kernel_rfl) (by exact fun _ _ _ h => h) (Or.inl ⟨by rfl, ?_⟩) (by assumption) ?_; rotate_left 1; · (intro w hSw; (try dsimp only at hSw); go_simp; (try with_reducible rfl))) | (refine wpAnyH_take (i := 11) (v := undef) (by simp only [List.getElem?_toArray, List.getElem?_cons_succ, List.getElem?_cons_zero]; rfl) (by kernel_rfl) (by kernel_rfl) (by kernel_rfl) (by exact fun _ _ _ h => h) (Or.inr ⟨by rfl, rfl⟩) (by assumption) ?_)); (try simp only [Act.put, List.setIfInBounds_toArray, List.set_cons_zero, List.set_cons_succ]))
        all_goals ((first | (refine wpAnyH_take (i := 12) (v := ?_) (by simp only [List.getElem?_toArray, List.getElem?_cons_succ, List.getElem?_cons_zero]; rfl) (by kernel_rfl) (by kernel_rfl) (by kernel_rfl) (by exact fun _ _ _ h => h) (Or.inl ⟨by rfl, ?_⟩) (by assumption) ?_; rotate_left 1; · (intro w hSw; (try dsimp only at hSw); go_simp; (try with_reducible rfl))) | (refine wpAnyH_take (i := 12) (v := undef) (by simp only [List.getElem?_toArray, List.getElem?_cons_succ, List.getElem?_cons_zero]; rfl) (by kernel_rfl) (by kernel_rfl) (by kernel_rfl) (by exact fun _ _ _ h => h) (Or.inr ⟨by rfl, rfl⟩) (by assumption) ?_)); (try simp only [Act.put, List.setIfInBounds_toArray, List.set_cons_zero, List.set_cons_succ]))
        all_goals ((first | (refine wpAnyH_take (i := 13) (v := ?_) (by simp only [List.getElem?_toArray, List.getElem?_cons_succ, List.getElem?_cons_zero]; rfl) (by kernel_rfl) (by kernel_rfl) (by kernel_rfl) (by exact fun _ _ _ h => h) (Or.inl ⟨by rfl, ?_⟩) (by assumption) ?_; rotate_left 1; · (intro w hSw; (try dsimp only at hSw); go_simp; (try with_reducible rfl))) | (refine wpAnyH_take (i := 13) (v := undef) (by simp only [List.getElem?_toArray, List.getElem?_cons_succ, List.getElem?_cons_zero]; rfl) (by kernel_rfl) (by kernel_rfl) (by kernel_rfl) (by exact fun _ _ _ h => h) (Or.inr ⟨by rfl, rfl⟩) (by assumption) ?_)); (try simp only [Act.put, List.setIfInBounds_toArray, List.set_cons_zero, List.set_cons_succ]))
        all_goals ((first | (refine wpAnyH_take (i := 14) (v := ?_) (by simp only [List.getElem?_toArray, List.getElem?_cons_succ, List.getElem?_cons_zero]; rfl) (by kernel_rfl) (by kernel_rfl) (by kernel_rfl) (by exact fun _ _ _ h => h) (Or.inl ⟨by rfl, ?_⟩) (by assumption) ?_; rotate_left 1; · (intro w hSw; (try dsimp only at hSw); go_simp; (try with_reducible rfl))) | (refine wpAnyH_take (i := 14) (v := undef) (by simp only [List.getElem?_toArray, List.getElem?_cons_succ, List.getElem?_cons_zero]; rfl) (by kernel_rfl) (by kernel_rfl) (by kernel_rfl) (by exact fun _ _ _ h => h) (Or.inr ⟨by rfl, rfl⟩) (by assumption) ?_)); (try simp only [Act.put, List.setIfInBounds_toArray, List.set_cons_zero, List.set_cons_succ]))
        all_goals ((first | (refine wpAnyH_take (i := 15) (v := ?_) (by simp only [List.getElem?_toArray, List.getElem?_cons_succ, List.getElem?_cons_zero]; rfl) (by kernel_rfl) (by kernel_rfl) (by kernel_rfl) (by exact fun _ _ _ h => h) (Or.inl ⟨by rfl, ?_⟩) (by assumption) ?_; rotate_left 1; · (intro w hSw; (try dsimp only at hSw); go_simp; (try with_reducible rfl))) | (refine wpAnyH_take (i := 15) (v := undef) (by simp only [List.getElem?_toArray, List.getElem?_cons_succ, List.getElem?_cons_zero]; rfl) (by kernel_rfl) (by kernel_rfl) (by kernel_rfl) (by exact fun _ _ _ h => h) (Or.inr ⟨by rfl, rfl⟩) (by assumption) ?_)); (try simp only [Act.put, List.setIfInBounds_toArray, List.set_cons_zero, List.set_cons_succ]))
        all_goals ((first | (refine wpAnyH_take (i := 16) (v := ?_) (by simp only [List.getElem?_toArray, List.getElem?_cons_succ, List.getElem?_cons_zero]; rfl) (by kernel_rfl) (by kernel_rfl) (by kernel_rfl) (by exact fun _ _ _ h => h) (Or.inl ⟨by rfl, ?_⟩) (by assumption) ?_; rotate_left 1; · (intro w hSw; (try dsimp only at hSw); go_simp; (try with_reducible rfl))) | (refine wpAnyH_take (i := 16) (v := undef) (by simp only [List.getElem?_toArray, List.getElem?_cons_succ, List.getElem?_cons_zero]; rfl) (by kernel_rfl) (by kernel_rfl) (by kernel_rfl) (by exact fun _ _ _ h => h) (Or.inr ⟨by rfl, rfl⟩) (by assumption) ?_)); (try simp only [Act.put, List.setIfInBounds_toArray, List.set_cons_zero, List.set_cons_succ]))
        all_goals ((first | (refine wpAnyH_take (i := 17) (v := ?_) (by simp only [List.getElem?_toArray, List.getElem?_cons_succ, List.getElem?_cons_zero]; rfl) (by kernel_rfl) (by kernel_rfl) (by kernel_rfl) (by exact fun _ _ _ h => h) (Or.inl ⟨by rfl, ?_⟩) (by assumption) ?_; rotate_left 1; · (intro w hSw; (try dsimp only at hSw); go_simp; (try with_reducible rfl))) | (refine wpAnyH_take (i := 17) (v := undef) (by simp only [List.getElem?_toArray, List.getElem?_cons_succ, List.getElem?_cons_zero]; rfl) (by kernel_rfl) (by kernel_rfl) (by kernel_rfl) (by exact fun _ _ _ h => h) (Or.inr ⟨by rfl, rfl⟩) (by assumption) ?_)); (try simp only [Act.put, List.setIfInBounds_toArray, List.set_cons_zero, List.set_cons_succ]))
        all_goals ((first | (refine wpAnyH_take (i := 18) (v := ?_) (by simp only [List.getElem?_toArray, List.getElem?_cons_succ, List.getElem?_cons_zero]; rfl) (by kernel_rfl) (by kernel_rfl) (by kernel_rfl) (by exact fun _ _ _ h => h) (Or.inl ⟨by rfl, ?_⟩) (by assumption) ?_; rotate_left 1; · (intro w hSw; (try dsimp only at hSw); go_simp; (try with_reducible rfl))) | (refine wpAnyH_take (i := 18) (v := undef) (by simp only [List.getElem?_toArray, List.getElem?_cons_succ, List.getElem?_cons_zero]; rfl) (by kernel_rfl) (by kernel_rfl) (by kernel_rfl) (by exact fun _ _ _ h => h) (Or.inr ⟨by rfl, rfl⟩) (by assumption) ?_)); (try simp only [Act.put, List.setIfInBounds_toArray, List.set_cons_zero, List.set_cons_succ]))
        all_goals ((first | (refine wpAnyH_take (i := 19) (v := ?_) (by simp only [List.getElem?_toArray, List.getElem?_cons_succ, List.getElem?_cons_zero]; rfl) (by kernel_rfl) (by kernel_rfl) (by kernel_rfl) (by exact fun _ _ _ h => h) (Or.inl ⟨by rfl, ?_⟩) (by assumption) ?_; rotate_left 1; · (intro w hSw; (try dsimp only at hSw); go_simp; (try with_reducible rfl))) | (refine wpAnyH_take (i := 19) (v := undef) (by simp only [List.getElem?_toArray, List.getElem?_cons_succ, List.getElem?_cons_zero]; rfl) (by kernel_rfl) (by kernel_rfl) (by kernel_rfl) (by exact fun _ _ _ h => h) (Or.inr ⟨by rfl, rfl⟩) (by assumption) ?_)); (try simp only [Act.put, List.setIfInBounds_toArray, List.set_cons_zero, List.set_cons_succ]))
        all_goals ((first | (refine wpAnyH_take (i := 20) (v := ?_) (by simp only [List.getElem?_toArray, List.getElem?_cons_succ, List.getElem?_cons_zero]; rfl) (by kernel_rfl) (by kernel_rfl) (by kernel_rfl) (by exact fun _ _ _ h => h) (Or.inl ⟨by rfl, ?_⟩) (by assumption) ?_; rotate_left 1; · (intro w hSw; (try dsimp only at hSw); go_simp; (try with_reducible rfl))) | (refine wpAnyH_take (i := 20) (v := undef) (by simp only [List.getElem?_toArray, List.getElem?_cons_succ, List.getElem?_cons_zero]; rfl) (by kernel_rfl) (by kernel_rfl) (by kernel_rfl) (by exact fun _ _ _ h => h) (Or.inr ⟨by rfl, rfl⟩) (by assumption) ?_)); (try simp only [Act.put, List.setIfInBounds_toArray, List.set_cons_zero, List.set_cons_succ]))
        all_goals ((first | (refine wpAnyH_take (i := 21) (v := ?_) (by simp only [List.getElem?_toArray, List.getElem?_cons_succ, List.getElem?_cons_zero]; rfl) (by kernel_rfl) (by kernel_rfl) (by kernel_rfl) (by exact fun _ _ _ h => h) (Or.inl ⟨by rfl, ?_⟩) (by assumption) ?_; rotate_left 1; · (intro w hSw; (try dsimp only at hSw); go_simp; (try with_reducible rfl))) | (refine wpAnyH_take (i := 21) (v := undef) (by simp only [List.getElem?_toArray, List.getElem?_cons_succ, List.getElem?_cons_zero]; rfl) (by kernel_rfl) (by kernel_rfl) (by kernel_rfl) (by exact fun _ _ _ h => h) (Or.inr ⟨by rfl, rfl⟩) (by assumption) ?_)); (try simp only [Act.put, List.setIfInBounds_toArray, List.set_cons_zero, List.set_cons_succ]))
        all_goals ((first | (refine wpAnyH_take (i := 22) (v := ?_) (by simp only [List.getElem?_toArray, List.getElem?_cons_succ, List.getElem?_cons_zero]; rfl) (by kernel_rfl) (by kernel_rfl) (by kernel_rfl) (by exact fun _ _ _ h => h) (Or.inl ⟨by rfl, ?_⟩) (by assumption) ?_; rotate_left 1; · (intro w hSw; (try dsimp only at hSw); go_simp; (try with_reducible rfl))) | (refine wpAnyH_take (i := 22) (v := undef) (by simp only [List.getElem?_toArray, List.getElem?_cons_succ, List.getElem?_cons_zero]; rfl) (by kernel_rfl) (by kernel_rfl) (by kernel_rfl) (by exact fun _ _ _ h => h) (Or.inr ⟨by rfl, rfl⟩) (by assumption) ?_)); (try simp only [Act.put, List.setIfInBounds_toArray, List.set_cons_zero, List.set_cons_succ]))
        all_goals ((first | (refine wpAnyH_take (i := 23) (v := ?_) (by simp only [List.getElem?_toArray, List.getElem?_cons_succ, List.getElem?_cons_zero]; rfl) (by kernel_rfl) (by kernel_rfl) (by kernel_rfl) (by exact fun _ _ _ h => h) (Or.inl ⟨by rfl, ?_⟩) (by assumption) ?_; rotate_left 1; · (intro w hSw; (try dsimp only at hSw); go_simp; (try with_reducible rfl))) | (refine wpAnyH_take (i := 23) (v := undef) (by simp only [List.getElem?_toArray, List.getElem?_cons_succ, List.getElem?_cons_zero]; rfl) (by kernel_rfl) (by kernel_rfl) (by kernel_rfl) (by exact fun _ _ _ h => h) (Or.inr ⟨by rfl, rfl⟩) (by assumption) ?_)); (try simp only [Act.put, List.setIfInBounds_toArray, List.set_cons_zero, List.set_cons_succ]))
        all_goals ((first | (refine wpAnyH_take (i := 24) (v := ?_) (by simp only [List.getElem?_toArray, List.getElem?_cons_succ, List.getElem?_cons_zero]; rfl) (by kernel_rfl) (by kernel_rfl) (by kernel_rfl) (by exact fun _ _ _ h => h) (Or.inl ⟨by rfl, ?_⟩) (by assumption) ?_; rotate_left 1; · (intro w hSw; (try dsimp only at hSw); go_simp; (try with_reducible rfl))) | (refine wpAnyH_take (i := 24) (v := undef) (by simp only [List.getElem?_toArray, List.getElem?_cons_succ, List.getElem?_cons_zero]; rfl) (by kernel_rfl) (by kernel_rfl) (by kernel_rfl) (by exact fun _ _ _ h => h) (Or.inr ⟨by rfl, rfl⟩) (by assumption) ?_)); (try simp only [Act.put, List.setIfInBounds_toArray, List.set_cons_zero, List.set_cons_succ]))
        all_goals ((first | (refine wpAnyH_take (i := 25) (v := ?_) (by simp only [List.getElem?_toArray, List.getElem?_cons_succ, List.getElem?_cons_zero]; rfl) (by kernel_rfl) (by kernel_rfl) (by kernel_rfl) (by exact fun _ _ _ h => h) (Or.inl ⟨by rfl, ?_⟩) (by assumption) ?_; rotate_left 1; · (intro w hSw; (try dsimp only at hSw); go_simp; (try with_reducible rfl))) | (refine wpAnyH_take (i := 25) (v := undef) (by simp only [List.getElem?_toArray, List.getElem?_cons_succ, List.getElem?_cons_zero]; rfl) (by kernel_rfl) (by kernel_rfl) (by kernel_rfl) (by exact fun _ _ _ h => h) (Or.inr ⟨by rfl, rfl⟩) (by assumption) ?_)); (try simp only [Act.put, List.setIfInBounds_toArray, List.set_cons_zero, List.set_cons_succ]))
        all_goals ((first | (refine wpAnyH_take (i := 26) (v := ?_) (by simp only [List.getElem?_toArray, List.getElem?_cons_succ, List.getElem?_cons_zero]; rfl) (by kernel_rfl) (by kernel_rfl) (by kernel_rfl) (by exact fun _ _ _ h => h) (Or.inl ⟨by rfl, ?_⟩) (by assumption) ?_; rotate_left 1; · (intro w hSw; (try dsimp only at hSw); go_simp; (try with_reducible rfl))) | (refine wpAnyH_take (i := 26) (v := undef) (by simp only [List.getElem?_toArray, List.getElem?_cons_succ, List.getElem?_cons_zero]; rfl) (by kernel_rfl) (by kernel_rfl) (by kernel_rfl) (by exact fun _ _ _ h => h) (Or.inr ⟨by rfl, rfl⟩) (by assumption) ?_)); (try simp only [Act.put, List.setIfInBounds_toArray, List.set_cons_zero, List.set_cons_succ]))
        all_goals ((first | (refine wpAnyH_take (i := 27) (v := ?_) (by simp only [List.getElem?_toArray, List.getElem?_cons_succ, List.getElem?_cons_zero]; rfl) (by kernel_rfl) (by kernel_rfl) (by kernel_rfl) (by exact fun _ _ _ h => h) (Or.inl ⟨by rfl, ?_⟩) (by assumption) ?_; rotate_left 1; · (intro w hSw; (try dsimp only at hSw); go_simp; (try with_reducible rfl))) | (refine wpAnyH_take (i := 27) (v := undef) (by simp only [List.getElem?_toArray, List.getElem?_cons_succ, List.getElem?_cons_zero]; rfl) (by kernel_rfl) (by kernel_rfl) (by kernel_rfl) (by exact fun _ _ _ h => h) (Or.inr ⟨by rfl, rfl⟩) (by assumption) ?_)); (try simp only [Act.put, List.setIfInBounds_toArray, List.set_cons_zero, List.set_cons_succ]))
        all_goals ((first | (refine wpAnyH_take (i := 28) (v := ?_) (by simp only [List.getElem?_toArray, List.getElem?_cons_succ, List.getElem?_cons_zero]; rfl) (by kernel_rfl) (by kernel_rfl) (by kernel_rfl) (by exact fun _ _ _ h => h) (Or.inl ⟨by rfl, ?_⟩) (by assumption) ?_; rotate_left 1; · (intro w hSw; (try dsimp only at hSw); go_simp; (try with_reducible rfl))) | (refine wpAnyH_take (i := 28) (v := undef) (by simp only [List.getElem?_toArray, List.getElem?_cons_succ, List.getElem?_cons_zero]; rfl) (by kernel_rfl) (by kernel_rfl) (by kernel_rfl) (by exact fun _ _ _ h => h) (Or.inr ⟨by rfl, rfl⟩) (by assumption) ?_)); (try simp only [Act.put, List.setIfInBounds_toArray, List.set_cons_zero, List.set_cons_succ]))
        all_goals ((first | (refine wpAnyH_take (i := 30) (v := ?_) (by simp only [List.getElem?_toArray, List.getElem?_cons_succ, List.getElem?_cons_zero]; rfl) (by kernel_rfl) (by kernel_rfl) (by kernel_rfl) (by exact fun _ _ _ h => h) (Or.inl ⟨by rfl, ?_⟩) (by assumption) ?_; rotate_left 1; · (intro w hSw; (try dsimp only at hSw); go_simp; (try with_reducible rfl))) | (refine wpAnyH_take (i := 30) (v := undef) (by simp only [List.getElem?_toArray, List.getElem?_cons_succ, List.getElem?_cons_zero]; rfl) (by kernel_rfl) (by kernel_rfl) (by kernel_rfl) (by exact fun _ _ _ h => h) (Or.inr ⟨by rfl, rfl⟩) (by assumption) ?_)); (try simp only [Act.put, List.setIfInBounds_toArray, List.set_cons_zero, List.set_cons_succ]))
        all_goals ((first | (refine wpAnyH_take (i := 31) (v := ?_) (by simp only [List.getElem?_toArray, List.getElem?_cons_succ, List.getElem?_cons_zero]; rfl) (by kernel_rfl) (by kernel_rfl) (by kernel_rfl) (by exact fun _ _ _ h => h) (Or.inl ⟨by rfl, ?_⟩) (by assumption) ?_; rotate_left 1; · (intro w hSw; (try dsimp only at hSw); go_simp; (try with_reducible rfl))) | (refine wpAnyH_take (i := 31) (v := undef) (by simp only [List.getElem?_toArray, List.getElem?_cons_succ, List.getElem?_cons_zero]; rfl) (by kernel_rfl) (by kernel_rfl) (by kernel_rfl) (by exact fun _ _ _ h => h) (Or.inr ⟨by rfl, rfl⟩) (by assumption) ?_)); (try simp only [Act.put, List.setIfInBounds_toArray, List.set_cons_zero, List.set_cons_succ]))
        all_goals (refine wpAnyH_ready (rs := [29]) (by kernel_rfl) (by simp) ?_; refine AllReadyH.cons (by simp only [List.getElem?_toArray, List.getElem?_cons_succ, List.getElem?_cons_zero]; rfl) (fun K hK => ?_) AllReadyH.nil; go_simp; go_at_call 19; refine (HF0.out _ _ hHeld.2.2.2.1).mono ?_; rintro e w' ⟨rfl, hb4⟩; refine hK.out _ _ (back_later hHeld hb4) (fun hHeld => ?_); clear hK K; (try simp only [Act.put, List.setIfInBounds_toArray, List.set_cons_zero, List.set_cons_succ]))
        all_goals (refine wpAnyH_ready (rs := [32]) (by kernel_rfl) (by simp) ?_; refine AllReadyH.cons (by simp only [List.getElem?_toArray, List.getElem?_cons_succ, List.getElem?_cons_zero]; rfl) (fun K hK => ?_) AllReadyH.nil; go_simp; go_at_call 19; refine (HF1.out _ _ hHeld.2.2.2.2.1).mono ?_; rintro e w' ⟨rfl, hb4⟩; refine hK.out _ _ (back_later hHeld hb4) (fun hHeld => ?_); clear hK K; (try simp only [Act.put, List.setIfInBounds_toArray, List.set_cons_zero, List.set_cons_succ]))
        all_goals ((first | (refine wpAnyH_take (i := 33) (v := ?_) (by simp only [List.getElem?_toArray, List.getElem?_cons_succ, List.getElem?_cons_zero]; rfl) (by kernel_rfl) (by kernel_rfl) (by kernel_rfl) (by exact fun _ _ _ h => h) (Or.inl ⟨by rfl, ?_⟩) (by assumption) ?_; rotate_left 1; · (intro w hSw; (try dsimp only at hSw); go_simp; (try with_reducible rfl))) | (refine wpAnyH_take (i := 33) (v := undef) (by simp only [List.getElem?_toArray, List.getElem?_cons_succ, List.getElem?_cons_zero]; rfl) (by kernel_rfl) (by kernel_rfl) (by kernel_rfl) (by exact fun _ _ _ h => h) (Or.inr ⟨by rfl, rfl⟩) (by assumption) ?_)); (try simp only [Act.put, List.setIfInBounds_toArray, List.set_cons_zero, List.set_cons_succ]))
        all_goals ((first | (refine wpAnyH_take (i := 34) (v := ?_) (by simp only [List.getElem?_toArray, List.getElem?_cons_succ, List.getElem?_cons_zero]; rfl) (by kernel_rfl) (by kernel_rfl) (by kernel_rfl) (by exact fun _ _ _ h => h) (Or.inl ⟨by rfl, ?_⟩) (by assumption) ?_; rotate_left 1; · (intro w hSw; (try dsimp only at hSw); go_simp; (try with_reducible rfl))) | (refine wpAnyH_take (i := 34) (v := undef) (by simp only [List.getElem?_toArray, List.getElem?_cons_succ, List.getElem?_cons_zero]; rfl) (by kernel_rfl) (by kernel_rfl) (by kernel_rfl) (by exact fun _ _ _ h => h) (Or.inr ⟨by rfl, rfl⟩) (by assumption) ?_)); (try simp only [Act.put, List.setIfInBounds_toArray, List.set_cons_zero, List.set_cons_succ]))
        all_goals ((first | (refine wpAnyH_take (i := 35) (v := ?_) (by simp only [List.getElem?_toArray, List.getElem?_cons_succ, List.getElem?_cons_zero]; rfl) (by kernel_rfl) (by kernel_rfl) (by kernel_rfl) (by exact fun _ _ _ h => h) (Or.inl ⟨by rfl, ?_⟩) (by assumption) ?_; rotate_left 1; · (intro w hSw; (try dsimp only at hSw); go_simp; (try with_reducible rfl))) | (refine wpAnyH_take (i := 35) (v := undef) (by simp only [List.getElem?_toArray, List.getElem?_cons_succ, List.getElem?_cons_zero]; rfl) (by kernel_rfl) (by kernel_rfl) (by kernel_rfl) (by exact fun _ _ _ h => h) (Or.inr ⟨by rfl, rfl⟩) (by assumption) ?_)); (try simp only [Act.put, List.setIfInBounds_toArray, List.set_cons_zero, List.set_cons_succ]))
        all_goals ((first | (refine wpAnyH_take (i := 36) (v := ?_) (by simp only [List.getElem?_toArray, List.getElem?_cons_succ, List.getElem?_cons_zero]; rfl) (by kernel_rfl) (by kernel_rfl) (by kernel_rfl) (by exact fun _ _ _ h => h) (Or.inl ⟨by rfl, ?_⟩) (by assumption) ?_; rotate_left 1; · (intro w hSw; (try dsimp only at hSw); go_simp; (try with_reducible rfl))) | (refine wpAnyH_take (i := 36) (v := undef) (by simp only [List.getElem?_toArray, List.getElem?_cons_succ, List.getElem?_cons_zero]; rfl) (by kernel_rfl) (by kernel_rfl) (by kernel_rfl) (by exact fun _ _ _ h => h) (Or.inr ⟨by rfl, rfl⟩) (by assumption) ?_)); (try simp only [Act.put, List.setIfInBounds_toArray, List.set_cons_zero, List.set_cons_succ]))
        all_goals (refine wpAnyH_done (by kernel_rfl) ?_ _)
        all_goals
          have HB5 := Lib.hid (HBP.out.trans (hHeld.2.2.2.2.2.2.mono HBP.out.size))
          clear hHeld c0 c1 c2 c3 c4 c5 c6 c7 c8 ta tb tc
          go_wp2_with fail
          go_ret
          exact ⟨by simp [*], HB5.out⟩
theorem walkTermsOrder {H : Type} {enc : TypeId × Value → H} {X Y Z : Prop} (w : World) (v : Value) (d : DataW H) {b0 : Nat} {p : List MemPlace} {r : Reach} (hv : Value.okWide Try.prog w r b0 37 v) (hd : DataW.Trod enc Try.prog w 0 (fun _ => true) true 37 v d p)
    (_hsz : X) (_hL : Y) (_hsh : Z) :
    Calls Try.prog 7 #[v] w fun e w' => e = .returned (.bool true) ∧ Below w.heap.size w w' := by
  obtain ⟨A, n, c, rfl, h1, h2, h3⟩ := open_list hv hd
  exact terms_order A n c w (Nat.le_trans h1 h2) h3
end Go.Proofs.Ytlecmcfmaneejaa
