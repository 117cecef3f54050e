/- Several texts in one: WebCk, WebAw, TermROnly, TermPName2. -/
import Derived.Test.YtihbmgkbipeakaaGreatWebG18
import Derived.StillTailTactics
import Derived.Test.YtihbmgkbipeakaaGreatWebG12
import Derived.Test.YtihbmgkbipeakaaGreatWebG11
namespace Go.Proofs.YtihbmgkbipeakaaGreat
open Go.RowKit

def OneOk (t : T) (how : Int) (a : T) (q : Bool) : Prop := ∀ (v va : Value) (W : World), TermAt W v t → TermAt W va a → Calls Tryz.prog 87 #[v, .int .i64 how, va] W fun e w' => e = .returned (.bool q) ∧ Below W.heap.size W w'
def PairOk (t : T) (how : Int) (a b : T) (q : Bool) : Prop := ∀ (v va vb : Value) (W : World), TermAt W v t → TermAt W va a → TermAt W vb b → Calls Tryz.prog 88 #[v, .int .i64 how, va, vb] W fun e w' => e = .returned (.bool q) ∧ Below W.heap.size W w'
/-- The term that a place of a deduction holds. -/
def tAt (L : List Rsn) (x : Int) : T := (L[x.toNat]?.map Rsn.t).getD T.nil_
def lastB (oneF : T → Int → T → Bool) (pairF : T → Int → T → T → Bool) (K : List T) (L : List Rsn) (s : Rsn) : Bool :=
  match s.frm with
  | [] => decide (s.how = 1) && K.any fun t => sameB t s.t
  | [x] => oneF s.t s.how (tAt L x)
  | [x, y] => pairF s.t s.how (tAt L x) (tAt L y)
  | _ => false
/-- Is a step right. -/
def rightB (oneF : T → Int → T → Bool) (pairF : T → Int → T → T → Bool) (K : List T) (L : List Rsn) (i : Nat) : Bool :=
  match L[i]? with
  | none => false
  | some s => s.t.use && (!(s.frm.any (offB i)) && lastB oneF pairF K L s)
theorem off_false {i : Nat} {x : Int} (h : offB i x = false) : ∃ j : Nat, x = (j : Int) ∧ j < i := by
  unfold offB at h
  rw [Bool.or_eq_false_iff, decide_eq_false_iff_not, decide_eq_false_iff_not] at h
  exact ⟨x.toNat, by omega, by omega⟩
theorem t_at {L : List Rsn} {j : Nat} (h : j < L.length) : tAt L (j : Int) = L[j].t := by
  unfold tAt
  rw [Int.toNat_natCast, List.getElem?_eq_getElem h]; rfl

set_option maxRecDepth 100000 in
set_option maxHeartbeats 8000000 in
theorem oright {oneF : T → Int → T → Bool} {pairF : T → Int → T → T → Bool} {Ak A : Option Addr} {ck c : Nat} {K : List T} {L : List Rsn} (i : Nat) (w : World) (hK : KnownAt w Ak ck K) (h0 : 0 < K.length) (hKb : ∀ t ∈ K, t.bulk ≤ 1048576) (hL : DedAt w A L) (hi : i < L.length) (hLb : ∀ s ∈ L, s.t.bulk ≤ 1048576 ∧ s.frm.length ≤ 1048576)
    (H1 : L[i].t.use = true → ∀ x, L[i].frm = [x] → offB i x = false → OneOk L[i].t L[i].how (tAt L x) (oneF L[i].t L[i].how (tAt L x))) (H2 : L[i].t.use = true → ∀ x y, L[i].frm = [x, y] → offB i x = false → offB i y = false → PairOk L[i].t L[i].how (tAt L x) (tAt L y) (pairF L[i].t L[i].how (tAt L x) (tAt L y))) :
    Calls Tryz.prog 40 #[.slice Ak K.length ck, .slice A L.length c, .int .i64 (i : Int)] w fun e w' => e = .returned (.bool (rightB oneF pairF K L i)) ∧ Below w.heap.size w w' := by
  have HLL := Lib.hid hL
  rcases hL with h0' | ⟨lb, lo, rfl, hrow⟩
  · omega
  obtain ⟨A1, c1, F, fc, d0, d1, d2, d3, d4, ht, hf⟩ := hrow i hi
  have hR : rightB oneF pairF K L i = (L[i].t.use && (!(L[i].frm.any (offB i)) && lastB oneF pairF K L L[i])) := by unfold rightB; rw [List.getElem?_eq_getElem hi]
  have hsb := hLb _ (List.getElem_mem hi)
  rw [hR]
  generalize L[i] = s at hR hsb H1 H2 d0 d1 d2 d3 d4 ht hf ⊢
  obtain ⟨t, how, frm⟩ := s
  dsimp only at hsb H1 H2 d0 d1 d2 d3 d4 ht hf ⊢
  obtain ⟨hb1, hfl⟩ := hsb
  have HRF := Lib.hid (fun (h : t.use = false) => (show (t.use && (!(frm.any (offB i)) && lastB oneF pairF K L ⟨t, how, frm⟩)) = false by rw [h]; rfl))
  have HRA := Lib.hid (fun (h : frm.any (offB i) = true) => (show (t.use && (!(frm.any (offB i)) && lastB oneF pairF K L ⟨t, how, frm⟩)) = false by rw [h]; simp))
  have HRL := Lib.hid (fun (h : t.use = true) (h' : frm.any (offB i) = false) => (show (t.use && (!(frm.any (offB i)) && lastB oneF pairF K L ⟨t, how, frm⟩)) = lastB oneF pairF K L ⟨t, how, frm⟩ by rw [h, h']; rfl))
  generalize (t.use && (!(frm.any (offB i)) && lastB oneF pairF K L ⟨t, how, frm⟩)) = R at HRF HRA HRL ⊢
  have hw1 := below_alloc1 w (.cells #[.int .i64 (i : Int)] 3)
  have hw2 := below_alloc1 (w.alloc (.cells #[.int .i64 (i : Int)] 3)) (.cells #[.int .i64 t.kind, .string t.name, .slice A1 t.kids.length c1, .int .i64 how, .slice F frm.length fc] 31)
  have hbw := hw1.trans (hw2.mono hw1.size)
  have bx := Box5.new (w.alloc (.cells #[.int .i64 (i : Int)] 3)) (.int .i64 t.kind) (.string t.name) (.slice A1 t.kids.length c1) (.int .i64 how) (.slice F frm.length fc)
  rw [size_alloc1] at bx
  have hic : (w.alloc (.cells #[.int .i64 (i : Int)] 3)).cell? ⟨w.heap.size, 0, none⟩ = some (.int .i64 (i : Int)) := by
    have := heap_alloc_new w (.cells #[.int .i64 (i : Int)] 3)
    unfold World.cell?; rw [this]; rfl
  have hic2 := cell_later hw2 hic
  have HB := Lib.hid hbw; have HT := Lib.hid (ht.later hbw); have HFN := Lib.hid (hf.keep (S' := fun _ => true) fun b _ hl => ⟨rfl, hbw.block b hl⟩); have HKN := Lib.hid (hK.later hbw); have HDD := Lib.hid (HLL.out.later hbw)
  have HUS := Lib.hid (fun v' W' hW => ousable t v' W' hW hb1)
  have e0 := cell_later hw1 d0; have e1 := cell_later hw1 d1; have e2 := cell_later hw1 d2; have e3 := cell_later hw1 d3; have e4 := cell_later hw1 d4
  have H1H := Lib.hid H1; have H2H := Lib.hid H2; have HRW := Lib.hid hrow; have HKB := Lib.hid hKb
  have hib : (0 : Int) ≤ (i : Int) ∧ (i : Int) < (L.length : Int) := by omega
  obtain ⟨hib1, hib2⟩ := hib
  clear hR hw2 hbw hic ht hf hK hrow hKb d0 d1 d2 d3 d4 H1 H2
  go_enter Tryz.func40, Tryz.ntmps40
  go_upto_region 2 with fail
  clear hw1 e0 e1 e2 e3 e4
  generalize (w.alloc (.cells #[.int .i64 (i : Int)] 3)).alloc (.cells #[.int .i64 t.kind, .string t.name, .slice A1 t.kids.length c1, .int .i64 how, .slice F frm.length fc] 31) = w1 at bx hic2 HB HT HFN HKN HDD ⊢
  obtain ⟨x0, x1, x2, x3, x4⟩ := bx.cells
  have BX := Lib.hid bx; have HIC := Lib.hid hic2
  clear bx hic2
  go_wp2_with fail
  refine (HUS.out _ _ HT.out).mono ?_; rintro e w2 ⟨rfl, hb2⟩
  have HB2 := Lib.hid (HB.out.trans (hb2.mono HB.out.size)); have HT2 := Lib.hid (HT.out.later hb2); have BX2 := Lib.hid (BX.out.later hb2); have HIC2 := Lib.hid (cell_later hb2 HIC.out); have HFN2 := Lib.hid (HFN.out.keep (S' := fun _ => true) fun b _ hl => ⟨rfl, hb2.block b hl⟩); have HKN2 := Lib.hid (HKN.out.later hb2); have HDD2 := Lib.hid (HDD.out.later hb2)
  clear hb2 x0 x1 x2 x3 x4
  cases hu : t.use with
  | false =>
    have HE := Lib.hid (HRF.out hu)
    clear hu
    go_wp2_with fail
    go_ret
    exact ⟨ret_bool HE.out.symm, HB2.out⟩
  | true =>
    have HU := Lib.hid hu
    clear hu
    obtain ⟨x0, x1, x2, x3, x4⟩ := BX2.out.cells
    go_wp2_with fail
    refine (oints w2 HFN2.out HIC2.out hfl).mono ?_; rintro e w3 ⟨rfl, hb3⟩
    have HB3 := Lib.hid (HB2.out.trans (hb3.mono HB2.out.size)); have HT3 := Lib.hid (HT2.out.later hb3); have BX3 := Lib.hid (BX2.out.later hb3); have HFN3 := Lib.hid (HFN2.out.keep (S' := fun _ => true) fun b _ hl => ⟨rfl, hb3.block b hl⟩); have HKN3 := Lib.hid (HKN2.out.later hb3); have HDD3 := Lib.hid (HDD2.out.later hb3)
    clear hb3 x0 x1 x2 x3 x4
    cases ha : frm.any (offB i) with
    | true =>
      have HE := Lib.hid (HRA.out ha)
      clear ha
      go_wp2_with fail
      go_ret
      exact ⟨ret_bool HE.out.symm, HB3.out⟩
    | false =>
      have HA := Lib.hid ha
      have HL := Lib.hid (HRL.out HU.out ha)
      clear ha
      obtain ⟨x0, x1, x2, x3, x4⟩ := BX3.out.cells
      rcases frm with _ | ⟨fa, _ | ⟨fb, _ | ⟨fd, fr⟩⟩⟩
      · by_cases h1 : how = 1
        · subst h1
          go_wp2_with fail
          refine (oterms t (w.heap.size + 1) A1 c1 w3 HKN3.out h0 HKB.out x0 x1 x2 HT3.out hb1).mono ?_; rintro e w4 ⟨rfl, hb4⟩
          have HB4 := Lib.hid (HB3.out.trans (hb4.mono HB3.out.size))
          clear hb4 x0 x1 x2 x3 x4
          have HE := Lib.hid (show R = K.any fun t_1 => sameB t_1 t from HL.out.trans (by simp [lastB]))
          go_wp2_with fail
          go_ret
          exact ⟨ret_bool HE.out.symm, HB4.out⟩
        · have h1' : (how == 1) = false := by rw [beq_eq_false_iff_ne]; exact h1
          have HE := Lib.hid (show R = false from HL.out.trans (by unfold lastB; dsimp only; rw [decide_eq_false h1]; rfl))
          go_wp2_with fail
          go_ret
          exact ⟨ret_bool HE.out.symm, HB3.out⟩
      · have hoa : offB i fa = false := by have := HA.out; simp at this; exact this
        obtain ⟨j, rfl, hj⟩ := off_false hoa
        have hone := H1H.out HU.out _ rfl hoa
        rw [t_at (Nat.lt_trans hj hi)] at hone
        have HE := Lib.hid (show R = oneF t how (L[j]'(Nat.lt_trans hj hi)).t from HL.out.trans (by rw [← t_at (Nat.lt_trans hj hi)]; rfl))
        rcases HDD3.out with h9 | ⟨_, _, e9, hrow⟩
        · omega
        injection e9 with e9; injection e9 with e9 e9'; subst e9; subst e9'
        obtain ⟨A2, c2, _, _, g0, g1, g2, _, _, htj, _⟩ := hrow j (Nat.lt_trans hj hi)
        have hfc : ∃ fbk fo, F = some ⟨fbk, fo, none⟩ ∧ w3.cell? ⟨fbk, fo, none⟩ = some (.int .i64 (j : Int)) := by
          rcases HFN3.out with h9 | ⟨fbk, fo, e, _, hc⟩
          · simp at h9
          · exact ⟨fbk, fo, e, hc 0 (by simp)⟩
        obtain ⟨fbk, fo, rfl, f0⟩ := hfc
        generalize (L[j]'(Nat.lt_trans hj hi)).t = a at hone HE g0 g1 g2 htj
        have hjb : (0 : Int) ≤ (j : Int) ∧ (j : Int) < (L.length : Int) := by omega
        obtain ⟨hjb1, hjb2⟩ := hjb
        have HO := Lib.hid hone; have HTJ := Lib.hid htj
        clear hoa hone hrow htj
        go_upto_region 8 with fail
        go_still_tail 12, (by kernel_rfl)
        change wpList _ _ _ _ _ w3.drew
        go_wp2_with fail
        refine (HO.out _ _ _ HT3.out.drew HTJ.out.drew).mono ?_; rintro e w4 ⟨rfl, hb4⟩
        have HB4 := Lib.hid (HB3.out.trans ((below_undrew hb4).mono HB3.out.size))
        clear hb4 x0 x1 x2 x3 x4 g0 g1 g2 f0
        go_wp2_with fail
        go_ret
        exact ⟨ret_bool HE.out.symm, HB4.out⟩
      · have hoa : offB i fa = false ∧ offB i fb = false := by have := HA.out; simp at this; exact this
        obtain ⟨hoa, hob⟩ := hoa
        obtain ⟨j, rfl, hj⟩ := off_false hoa
        obtain ⟨j2, rfl, hj2⟩ := off_false hob
        have hone := H2H.out HU.out _ _ rfl hoa hob
        rw [t_at (Nat.lt_trans hj hi), t_at (Nat.lt_trans hj2 hi)] at hone
        have HE := Lib.hid (show R = pairF t how (L[j]'(Nat.lt_trans hj hi)).t (L[j2]'(Nat.lt_trans hj2 hi)).t from HL.out.trans (by rw [← t_at (Nat.lt_trans hj hi), ← t_at (Nat.lt_trans hj2 hi)]; rfl))
        rcases HDD3.out with h9 | ⟨_, _, e9, hrow⟩
        · omega
        injection e9 with e9; injection e9 with e9 e9'; subst e9; subst e9'
        obtain ⟨A2, c2, _, _, g0, g1, g2, _, _, htj, _⟩ := hrow j (Nat.lt_trans hj hi)
        obtain ⟨A3, c3, _, _, k0, k1, k2, _, _, htj2, _⟩ := hrow j2 (Nat.lt_trans hj2 hi)
        have hfc : ∃ fbk fo, F = some ⟨fbk, fo, none⟩ ∧ w3.cell? ⟨fbk, fo, none⟩ = some (.int .i64 (j : Int)) ∧ w3.cell? ⟨fbk, fo + 1, none⟩ = some (.int .i64 (j2 : Int)) := by
          rcases HFN3.out with h9 | ⟨fbk, fo, e, _, hc⟩
          · simp at h9
          · exact ⟨fbk, fo, e, hc 0 (by simp), hc 1 (by simp)⟩
        obtain ⟨fbk, fo, rfl, f0, f1⟩ := hfc
        generalize (L[j]'(Nat.lt_trans hj hi)).t = a at hone HE g0 g1 g2 htj
        generalize (L[j2]'(Nat.lt_trans hj2 hi)).t = b at hone HE k0 k1 k2 htj2
        have hjb : (0 : Int) ≤ (j : Int) ∧ (j : Int) < (L.length : Int) ∧ (0 : Int) ≤ (j2 : Int) ∧ (j2 : Int) < (L.length : Int) := by omega
        obtain ⟨hjb1, hjb2, hjb3, hjb4⟩ := hjb
        have HO := Lib.hid hone; have HTJ := Lib.hid htj; have HTK := Lib.hid htj2
        clear hoa hob hone hrow htj htj2
        go_upto_region 10 with fail
        go_still_tail 20, (by kernel_rfl)
        change wpList _ _ _ _ _ w3.drew
        go_wp2_with fail
        refine (HO.out _ _ _ _ HT3.out.drew HTJ.out.drew HTK.out.drew).mono ?_; rintro e w4 ⟨rfl, hb4⟩
        have HB4 := Lib.hid (HB3.out.trans ((below_undrew hb4).mono HB3.out.size))
        clear hb4 x0 x1 x2 x3 x4 g0 g1 g2 f0 f1 k0 k1 k2
        go_wp2_with fail
        go_ret
        exact ⟨ret_bool HE.out.symm, HB4.out⟩
      · have hl3 : ((fa :: fb :: fd :: fr).length : Int) = (fr.length : Int) + 3 := by simp; omega
        obtain ⟨n, hn⟩ : ∃ n, (fa :: fb :: fd :: fr).length = n := ⟨_, rfl⟩
        rw [hn] at x4 hl3 ⊢
        have q0 : ((n : Int) == 0) = false := by rw [beq_eq_false_iff_ne]; omega
        have q1 : ((n : Int) == 1) = false := by rw [beq_eq_false_iff_ne]; omega
        have q2 : ((n : Int) == 2) = false := by rw [beq_eq_false_iff_ne]; omega
        have HE := Lib.hid (show R = false from HL.out.trans rfl)
        clear hl3 hn
        go_wp2_with fail
        go_ret
        exact ⟨ret_bool HE.out.symm, HB3.out⟩
/-- Is a deduction right. -/
def chkB (oneF : T → Int → T → Bool) (pairF : T → Int → T → T → Bool) (K : List T) (L : List Rsn) : Bool := decide (1 ≤ L.length) && (decide (L.length ≤ 4096) && (List.range L.length).all (rightB oneF pairF K L))
set_option maxRecDepth 100000 in
set_option maxHeartbeats 8000000 in
theorem ocheck {oneF : T → Int → T → Bool} {pairF : T → Int → T → T → Bool} {Ak A : Option Addr} {ck c : Nat} {K : List T} {L : List Rsn} (w : World) (hK : KnownAt w Ak ck K) (h0 : 0 < (cnt K).length) (hKb : ∀ t ∈ K, t.bulk ≤ 1048576) (hL : DedAt w A L) (hLb : ∀ s ∈ L, s.t.bulk ≤ 1048576 ∧ s.frm.length ≤ 1048576)
    (H1 : ∀ i (hi : i < L.length), (∀ j, j < i → rightB oneF pairF (cnt K) L j = true) → L[i].t.use = true → ∀ x, L[i].frm = [x] → offB i x = false → OneOk L[i].t L[i].how (tAt L x) (oneF L[i].t L[i].how (tAt L x)))
    (H2 : ∀ i (hi : i < L.length), (∀ j, j < i → rightB oneF pairF (cnt K) L j = true) → L[i].t.use = true → ∀ x y, L[i].frm = [x, y] → offB i x = false → offB i y = false → PairOk L[i].t L[i].how (tAt L x) (tAt L y) (pairF L[i].t L[i].how (tAt L x) (tAt L y))) :
    Calls Tryz.prog 14 #[.slice Ak K.length ck, .slice A L.length c] w fun e w' => e = .returned (.bool (chkB oneF pairF (cnt K) L)) ∧ Below w.heap.size w w' := by
  obtain ⟨n, hn⟩ : ∃ n, L.length = n := ⟨_, rfl⟩
  have HN := Lib.hid hn
  obtain ⟨R, hR⟩ : ∃ R, chkB oneF pairF (cnt K) L = R := ⟨_, rfl⟩
  have HRN := Lib.hid (fun (h : ¬ (1 ≤ L.length ∧ L.length ≤ 4096)) => (show R = false by
    rw [← hR]; unfold chkB
    by_cases h1 : 1 ≤ L.length
    · rw [decide_eq_false (p := L.length ≤ 4096) (by omega)]; simp
    · rw [decide_eq_false h1]; rfl))
  have HRX := Lib.hid (fun (i : Nat) (hi : i < L.length) (h : rightB oneF pairF (cnt K) L i = false) => (show R = false by
    rw [← hR]; unfold chkB
    have : (List.range L.length).all (rightB oneF pairF (cnt K) L) = false := by
      rw [List.all_eq_false]
      exact ⟨i, List.mem_range.2 hi, by rw [h]; simp⟩
    rw [this]; simp))
  have HRT := Lib.hid (fun (h1 : 1 ≤ L.length) (h2 : L.length ≤ 4096) (h : ∀ i, i < L.length → rightB oneF pairF (cnt K) L i = true) => (show R = true by
    rw [← hR]; unfold chkB
    rw [decide_eq_true h1, decide_eq_true h2]
    exact List.all_eq_true.2 fun i hi => h i (List.mem_range.1 hi)))
  have HC := Lib.hid (ocounted K Ak ck w hK hKb)
  have HD := Lib.hid hL
  have HO := Lib.hid (fun i w' A5 c5 (hK5 : KnownAt w' A5 c5 (cnt K)) (hL5 : DedAt w' A L) (hi : i < L.length) (hp : ∀ j, j < i → rightB oneF pairF (cnt K) L j = true) => oright (oneF := oneF) (pairF := pairF) (c := c) i w' hK5 h0 (fun t ht => hKb t (List.mem_of_mem_take (List.mem_filter.1 ht).1)) hL5 hi hLb (H1 i hi hp) (H2 i hi hp))
  rw [hR, hn]
  clear hR hK hKb hL hn H1 H2 h0
  go_enter Tryz.func14, Tryz.ntmps14
  by_cases h1 : n < 1
  · have h1' : (n : Int) < 1 := by omega
    have HE := Lib.hid (HRN.out (by rw [HN.out]; omega))
    clear h1
    go_wp2_with fail
    go_ret
    exact ⟨ret_bool HE.out.symm, Below.refl _ _⟩
  · have h1' : ¬ ((n : Int) < 1) := by omega
    by_cases h2 : 4096 < n
    · have h2' : (4096 : Int) < (n : Int) := by omega
      have HE := Lib.hid (HRN.out (by rw [HN.out]; omega))
      clear h1 h2
      go_wp2_with fail
      go_ret
      exact ⟨ret_bool HE.out.symm, Below.refl _ _⟩
    · have h2' : ¬ ((4096 : Int) < (n : Int)) := by omega
      have H12 := Lib.hid (show 1 ≤ n ∧ n ≤ 4096 by omega)
      clear h1 h2
      go_wp2_with fail
      refine HC.out.mono ?_; rintro e w2 ⟨v', rfl, hrow, hb2⟩
      obtain ⟨A5, c5, rfl, _, _⟩ := hrow.shape
      have HK5 := Lib.hid (show KnownAt w2 A5 c5 (cnt K) from (hrow.term 0 ⟨#[]⟩ (by omega) (Nat.zero_le _)).at)
      have HD5 := Lib.hid (HD.out.later hb2); have HB := Lib.hid hb2
      clear hrow hb2 h1' h2'
      have hn4 : (n : Int) ≤ 4096 := by have := H12.out; omega
      go_wp2_with fail
      go_loopw [19] (fun s19 wr => ∃ j : Nat, j ≤ n ∧ s19 = .int .i64 j ∧ (∀ i, i < j → rightB oneF pairF (cnt K) L i = true) ∧ KnownAt wr A5 c5 (cnt K) ∧ DedAt wr A L ∧ Below w.heap.size w wr) (fun i _ => n - (intOf i).toNat)
      case atStart => exact ⟨0, Nat.zero_le _, rfl, fun i h => absurd h (Nat.not_lt_zero _), HK5.out, HD5.out, HB.out⟩
      case round =>
        obtain ⟨j, hj, rfl, hall, hk, hd, hb⟩ := hrel
        have HA := Lib.hid hall; have HKK := Lib.hid hk; have HDD := Lib.hid hd; have HBB := Lib.hid hb
        by_cases hlt : j < n
        · have hi : (j : Int) < (n : Int) := by omega
          have HLT := Lib.hid (show j < L.length by rw [HN.out]; exact hlt)
          have hcall := HO.out j wr A5 c5 hk hd HLT.out hall
          rw [HN.out] at hcall
          have HRJ := Lib.hid (HRX.out j HLT.out)
          obtain ⟨q, hq⟩ : ∃ q, rightB oneF pairF (cnt K) L j = q := ⟨_, rfl⟩
          have HQ := Lib.hid hq
          rw [hq] at hcall
          have HCL := Lib.hid hcall; have HL2 := Lib.hid hlt
          clear hall hk hd hb hcall hq hlt
          go_wp2_with fail
          refine HCL.out.mono ?_; rintro e w3 ⟨rfl, hb3⟩
          have HK3 := Lib.hid (HKK.out.later hb3); have HD3 := Lib.hid (HDD.out.later hb3); have HB3 := Lib.hid (HBB.out.trans (hb3.mono HBB.out.size))
          clear hb3
          cases q with
          | false =>
            have HE := Lib.hid (HRJ.out HQ.out)
            go_wp2_with fail
            go_ret
            exact ⟨ret_bool HE.out.symm, HB3.out⟩
          | true =>
            go_wp2_with fail
            go_roundw
            case rel => exact ⟨j + 1, HL2.out, by go_num, fun i hi => by
              rcases Nat.lt_or_ge i j with h | h
              · exact HA.out i h
              · obtain rfl : i = j := by omega
                exact HQ.out, HK3.out, HD3.out, HB3.out⟩
            case measure => have := HL2.out; simp [intOf]; omega
        · obtain rfl : j = n := by omega
          have HE := Lib.hid (HRT.out (by rw [HN.out]; exact H12.out.1) (by rw [HN.out]; exact H12.out.2) (fun i hi => HA.out i (by rw [HN.out] at hi; exact hi)))
          clear hall hk hd hb
          go_wp2_with fail
          go_ret
          exact ⟨ret_bool HE.out.symm, HBB.out⟩
end Go.Proofs.YtihbmgkbipeakaaGreat

namespace Go.Proofs.YtihbmgkbipeakaaGreat

def w_k : T := .mk 1 ⟨#[107]⟩ []
def w_m : T := .mk 1 ⟨#[109]⟩ []
def w_x : T := .mk 1 ⟨#[120]⟩ []
def w_y : T := .mk 1 ⟨#[121]⟩ []
def w_seal : T := .mk 5 ⟨#[]⟩ [w_k, w_m]
def w_px : T := .mk 7 ⟨#[]⟩ [w_x]
def w_py : T := .mk 7 ⟨#[]⟩ [w_y]
def w_pxy : T := .mk 7 ⟨#[]⟩ [w_x, w_y]
def w_U1 : List T := T.subsAll [w_seal, w_k, w_m]
def w_U2 : List T := T.subsAll [w_px, w_y, w_pxy]
def w_U3 : List T := T.subsAll [w_px, w_py, w_pxy]
def w_L1 : List Rsn := [⟨w_seal, 1, []⟩, ⟨w_k, 1, []⟩, ⟨w_m, 4, [0, 1]⟩]
def noOne : T → Int → T → Bool := fun _ _ _ => false
def onlyOpen : T → Int → T → T → Bool := fun t how a b => decide (how = 4) && openB t a b
set_option maxRecDepth 100000 in
theorem w_cnt1 : cnt [w_seal, w_k] = [w_seal, w_k] := by kernel_rfl
set_option maxRecDepth 100000 in
theorem w_cnt2 : cnt [w_px, w_y] = [w_px, w_y] := by kernel_rfl
set_option maxRecDepth 100000 in
theorem w_cnt3 : cnt [w_px, w_py] = [w_px, w_py] := by kernel_rfl
set_option maxRecDepth 100000 in
theorem w_can1 : canB (Wb.fill w_U1.length (cnt [w_seal, w_k])) w_m = true := by kernel_rfl
set_option maxRecDepth 100000 in
theorem w_can2 : canB (Wb.fill w_U2.length (cnt [w_px, w_y])) w_pxy = true := by kernel_rfl
set_option maxRecDepth 100000 in
theorem w_can3 : canB (Wb.fill w_U3.length (cnt [w_px, w_py])) w_pxy = false := by kernel_rfl
set_option maxRecDepth 100000 in
theorem w_der1 : derV (Wb.fill w_U1.length (cnt [w_seal, w_k])) w_m = some w_L1 := by kernel_rfl
set_option maxRecDepth 100000 in
theorem w_chk1 : chkB noOne onlyOpen (cnt [w_seal, w_k]) w_L1 = true := by kernel_rfl
theorem w_uni1 : Uni w_U1 := uni_of (fun t ht => List.all_eq_true.1 (show ([w_seal, w_k, w_m].all T.valid) = true by kernel_rfl) t ht) (by decide)
theorem w_uni2 : Uni w_U2 := uni_of (fun t ht => List.all_eq_true.1 (show ([w_px, w_y, w_pxy].all T.valid) = true by kernel_rfl) t ht) (by decide)
theorem w_uni3 : Uni w_U3 := uni_of (fun t ht => List.all_eq_true.1 (show ([w_px, w_py, w_pxy].all T.valid) = true by kernel_rfl) t ht) (by decide)
theorem bulk_all {U : List T} (h : (U.all fun t => decide (t.bulk ≤ 1048576)) = true) : ∀ t ∈ U, t.bulk ≤ 1048576 := fun t ht => of_decide_eq_true (List.all_eq_true.1 h t ht)
theorem w_bulk1 : ∀ t ∈ w_U1, t.bulk ≤ 1048576 := bulk_all (by kernel_rfl)
theorem w_bulk2 : ∀ t ∈ w_U2, t.bulk ≤ 1048576 := bulk_all (by kernel_rfl)
theorem w_bulk3 : ∀ t ∈ w_U3, t.bulk ≤ 1048576 := bulk_all (by kernel_rfl)
theorem in_subs {ts : List T} {t : T} (h : t ∈ ts) : t ∈ T.subsAll ts := T.mem_subsAll.2 ⟨t, h, T.subs_self t⟩
end Go.Proofs.YtihbmgkbipeakaaGreat

namespace Go.Proofs.YtihbmgkbipeakaaGreat
open Go.RowKit

theorem only_get (w : World) (S : Nat → Bool) (k : Nat) : (only w S).heap[k]? = (w.heap[k]?).map fun o => if S k = true then o else .cells #[] 0 (0, 0) := by
  simp [only, Array.getElem?_mapIdx]
theorem only_size (w : World) (S : Nat → Bool) : (only w S).heap.size = w.heap.size := by simp [only]
theorem only_grown {w w' : World} {row : Option Nat} (h : w.grownBy w' row) (S : Nat → Bool) : (only w S).grownBy (only w' S) row :=
  ⟨h.os, h.tape, h.output, by rw [only_size, only_size]; exact h.size, fun k hk hn => by rw [only_get, only_get, h.block k (by rw [only_size] at hk; exact hk) hn]⟩
theorem only_owns {w : World} {base : Nat} {e : TypeId} {size n : Nat} {v : Value} {xs : List Value} (h : w.ownsRow base e size v n xs) (S : Nat → Bool) (hS : ∀ g, v.ownBlock = some g → S g = true) : (only w S).ownsRow base e size v n xs := by
  refine ⟨h.1, ?_⟩
  rcases h.2 with h0 | ⟨g, cap, cur, rfl, h5, h1, rest⟩
  · exact .inl h0
  · exact .inr ⟨g, cap, cur, rfl, h5, by rw [only_get, h1, Option.map_some, if_pos (hS g rfl)], rest⟩
theorem unonly_owns {w : World} {base : Nat} {e : TypeId} {size n : Nat} {v : Value} {xs : List Value} {S : Nat → Bool} (h : (only w S).ownsRow base e size v n xs) (he : e ≠ 0) : w.ownsRow base e size v n xs := by
  refine ⟨h.1, ?_⟩
  rcases h.2 with h0 | ⟨g, cap, cur, rfl, h5, h1, rest⟩
  · exact .inl h0
  · refine .inr ⟨g, cap, cur, rfl, h5, ?_, rest⟩
    rw [only_get] at h1
    obtain ⟨o, ho, h2⟩ := Option.map_eq_some_iff.1 h1
    split at h2
    · rw [ho, h2]
    · injection h2 with h3 h4; exact absurd h4.symm he
theorem only_set (w : World) (S : Nat → Bool) (p : Addr) (v : Value) (hS : S p.block = false) (k : Nat) : (only (w.setCell p v) S).heap[k]? = (only w S).heap[k]? := by
  rw [only_get, only_get]
  by_cases hk : k = p.block
  · subst hk
    rw [hS]
    have h : (w.setCell p v).heap[p.block]?.isSome = w.heap[p.block]?.isSome := by
      simp only [World.setCell, Array.getElem?_modify]
      simp
    cases h1 : w.heap[p.block]? with
    | none => rw [h1] at h; cases h2 : (w.setCell p v).heap[p.block]? with
      | none => rfl
      | some o => rw [h2] at h; cases h
    | some o => rw [h1] at h; cases h2 : (w.setCell p v).heap[p.block]? with
      | none => rw [h2] at h; cases h
      | some o' => rfl
  · rw [Below.heap_setCell _ _ _ _ hk]
theorem TermIn.unonly {S X : Nat → Bool} {w : World} {v : Value} {t : T} (h : TermIn S (only w X) v t) : TermIn S w v t :=
  TermAt.keep h fun p hp => by
    rw [cell_only] at hp ⊢
    rw [cell_only]
    split at hp
    · rename_i hS
      rw [if_pos hS]
      rw [cell_only] at hp ⊢
      split at hp
      · rename_i hX; rw [if_pos hX]; simp [hS]
      · cases hp
    · cases hp
theorem TermsRow.unonly {w : World} {X : Nat → Bool} {base : Nat} {v : Value} {L : List T} (h : TermsRow (only w X) base v L) : TermsRow w base v L := by
  rcases h with h | ⟨g, cap, rfl, cur, h1, h2, h3, h4, h5, h6⟩
  · exact .inl h
  · refine .inr ⟨g, cap, rfl, cur, ?_, h2, h3, h4, h5, fun i hi => ?_⟩
    · rw [only_get] at h1
      obtain ⟨o, ho, h2⟩ := Option.map_eq_some_iff.1 h1
      split at h2
      · rw [ho, h2]
      · injection h2 with h3 h4; exact absurd h4 (by decide)
    · obtain ⟨u0, u1, u2, a, b, c, d⟩ := h6 i hi
      exact ⟨u0, u1, u2, a, b, c, d.unonly⟩
/-- All blocks but x. -/
def notB (x : Nat) : Nat → Bool := fun b => !(b == x)
theorem notB_iff {x b : Nat} : notB x b = true ↔ b ≠ x := by unfold notB; simp
theorem notB_self (x : Nat) : notB x x = false := by unfold notB; simp

namespace T
/-- What is left to read behind c kids. -/
def after (l : List UInt8) (f n c m : Nat) : Option (Except Nat (List T × Nat)) :=
  if (0 < n ∧ c = n) ∨ (n = 0 ∧ now l m 44 = false) then some (.ok ([], m))
  else match need l [44, 32] m with
    | .error e => some (.error e)
    | .ok j => pkids l f n c j
theorem pkids_after (l : List UInt8) (f n c i : Nat) (t : T) (j : Nat) (h : pterm l f i = some (.ok (t, j))) : pkids l (f + 1) n c i = more t (after l f n (c + 1) j) := by
  simp only [pkids, h, after]
  split
  · rfl
  · cases need l [44, 32] j <;> rfl
end T
end Go.Proofs.YtihbmgkbipeakaaGreat

namespace Go.Proofs.YtihbmgkbipeakaaGreat
open Go.RowKit

set_option maxRecDepth 100000 in
set_option maxHeartbeats 4000000 in
theorem rpname (g i : Nat) (s : ByteArray) (w : World) (h : PBox 133 w g s i false) (hi : i ≤ s.size) (hs : s.size ≤ 4096) :
    Calls Tryz.prog 151 #[.pointer (some ⟨g, 0, none⟩)] w (NameEnds 133 g i s w) := by
  obtain ⟨x0, x1, x2⟩ := h.cells
  have HW := Lib.hid h; clear h
  go_enter Tryz.func151, Tryz.ntmps151
  go_wp2_with fail
  clear x0 x1 x2
  go_loopg [] 16 (fun n wr => ∃ m : Nat, n + m = 16 + i ∧ n ≤ 16 ∧ m ≤ s.size ∧ T.nameEnd s.data.toList i = T.nameRun s.data.toList i n m ∧ PBox 133 wr g s m false ∧ w.grownBy wr (some g))
  case atStart => exact ⟨i, by omega, Nat.le_refl _, hi, rfl, HW.out, grown_refl _ _⟩
  case round =>
    obtain ⟨m, hnm, hn16, hms, hend, hp, hg⟩ := hrel
    obtain ⟨x0, x1, x2⟩ := hp.cells
    obtain ⟨f0, f1, f2⟩ := hp.free
    obtain ⟨d, hd⟩ : ∃ d, m = i + d := ⟨m - i, by omega⟩
    have q1 : IntKind.i64.wrap ((m : Int) - (i : Int)) = (d : Int) := by rw [IntWalk.i64_in _ (by omega)]; omega
    have HP := Lib.hid hp; have HG := Lib.hid hg
    have hcase : ((gk = 0 ∨ s.size ≤ m ∨ T.nameOk s.data.toList i m = false) ∧ T.nameEnd s.data.toList i = m) ∨ (∃ n, gk = n + 1 ∧ m < s.size ∧ T.nameOk s.data.toList i m = true ∧ T.nameEnd s.data.toList i = T.nameRun s.data.toList i n (m + 1)) := by
      cases gk with
      | zero => left; exact ⟨.inl rfl, hend⟩
      | succ n =>
        simp only [T.nameRun] at hend
        split at hend
        · rename_i hh
          right; exact ⟨n, rfl, by have := hh.1; simpa using this, hh.2, hend⟩
        · rename_i hh
          left
          refine ⟨.inr ?_, hend⟩
          rcases Nat.lt_or_ge m s.size with g1 | g1
          · right
            rw [Bool.eq_false_iff]; intro hb; exact hh ⟨by simpa using g1, hb⟩
          · left; exact g1
    have HD := Lib.hid hd; have HNM := Lib.hid hnm; have HMS := Lib.hid hms
    have h3 : (0 : Int) ≤ (m : Int) := by omega
    clear hp hg hend hd
    rcases hcase with ⟨hstop, hE⟩ | ⟨n, hgn, hlt, hok, hE⟩
    · have HE := Lib.hid hE
      have hst : s.size ≤ m ∨ (m < s.size ∧ d = 16) ∨ (m < s.size ∧ d < 16 ∧ T.low s[m]! = false ∧ i = m) ∨ (m < s.size ∧ d < 16 ∧ T.low s[m]! = false ∧ i < m ∧ T.dig s[m]! = false) := by
        rcases Nat.lt_or_ge m s.size with g1 | g1
        · right
          have hbang : s[m]! = s[m] := getElem!_pos s m g1
          rcases hstop with h | h | h
          · left; have := HD.out; exact ⟨g1, by omega⟩
          · omega
          · rw [T.nameOk_at s i m g1, Bool.or_eq_false_iff] at h
            obtain ⟨a, b⟩ := h
            by_cases d16 : d = 16
            · left; exact ⟨g1, d16⟩
            · right
              have hd' := HD.out
              by_cases hz : i = m
              · left; exact ⟨g1, by omega, by rw [hbang]; exact a, hz⟩
              · right
                rw [decide_eq_true (show i < m by omega), Bool.true_and] at b
                exact ⟨g1, by omega, by rw [hbang]; exact a, by omega, by rw [hbang]; exact b⟩
        · left; exact g1
      clear hstop hE hnm hn16 hms
      have hfin : ∀ nq, PBox 133 (wr.drewN nq) g s m false ∧ w.grownBy (wr.drewN nq) (some g) := fun nq => ⟨HP.out.drewN nq, grown_drewN HG.out nq⟩
      have HFIN := Lib.hid hfin; clear hfin
      rcases hst with g1 | ⟨g1, g2⟩ | ⟨g1, g2, g3, g4⟩ | ⟨g1, g2, g3, g4, g5⟩
      · have a1 : (s.size : Int) ≤ (m : Int) := by omega
        have a2 : decide ((m : Int) < (s.size : Int)) = false := decide_eq_false (by omega)
        have a3 : decide (m < s.size) = false := decide_eq_false (by omega)
        go_upto_region 2 with fail
        go_quiet (fail)
        go_upto_region 4 with fail
        obtain ⟨hp9, hg9⟩ := HFIN.out nq
        generalize wr.drewN nq = w9 at hp9 hg9 ⊢
        obtain ⟨y0, y1, y2⟩ := hp9.cells
        obtain ⟨k0, k1, k2⟩ := hp9.free
        have HP9 := Lib.hid hp9; have HG9 := Lib.hid hg9
        clear hp9 hg9 x0 x1 x2 f0 f1 f2
        by_cases hmi : m = i
        · have e1 : ((m : Int) == (i : Int)) = true := by rw [hmi]; simp
          have HMI := Lib.hid hmi
          have hp8 := HP9.out.set2 true
          have hg8 := grown_set HG9.out 2 (.bool true)
          clear hmi
          go_upto_region 6 with fail
          generalize w9.setCell ⟨g, 2, none⟩ (.bool true) = w8 at hp8 hg8 ⊢
          obtain ⟨z0, z1, z2⟩ := hp8.cells
          have HP8 := Lib.hid hp8; have HG8 := Lib.hid hg8
          have l1 : (i : Int) ≤ (m : Int) := by have := HMI.out; omega
          have l2 : (m : Int) ≤ (s.size : Int) := by have := HMS.out; omega
          have l3 : (0 : Int) ≤ (i : Int) := by omega
          clear hp8 hg8 y0 y1 y2 k0 k1 k2
          go_quiet (fail)
          go_wp2_with fail
          go_ret
          refine ⟨grown_drewN HG8.out nq, .inl ⟨by rw [HE.out, HMI.out], ret_str (str_eq (by rw [HMI.out, Lib.extract_data]; simp)), by have := HP8.out.drewN nq; rw [HMI.out] at this; exact this⟩⟩
        · have e1 : ((m : Int) == (i : Int)) = false := by rw [beq_eq_false_iff_ne]; omega
          have HMI := Lib.hid hmi
          have l1 : (i : Int) ≤ (m : Int) := by have := HD.out; omega
          have l2 : (m : Int) ≤ (s.size : Int) := by have := HMS.out; omega
          have l3 : (0 : Int) ≤ (i : Int) := by omega
          clear hmi
          go_upto_region 6 with fail
          go_quiet (fail)
          go_wp2_with fail
          go_ret
          exact ⟨grown_drewN HG9.out nq, .inr ⟨by rw [HE.out]; exact HMI.out, ret_str (by rw [HE.out]; exact T.extract_name s i m), by rw [HE.out]; exact HP9.out.drewN nq⟩⟩
      · have a1 : (m : Int) < (s.size : Int) := by omega
        have a2 : decide ((d : Int) < 16) = false := decide_eq_false (by omega)
        have a3 : decide (d < 16) = false := decide_eq_false (by omega)
        go_upto_region 2 with fail
        go_quiet (fail)
        go_upto_region 4 with fail
        obtain ⟨hp9, hg9⟩ := HFIN.out nq
        generalize wr.drewN nq = w9 at hp9 hg9 ⊢
        obtain ⟨y0, y1, y2⟩ := hp9.cells
        obtain ⟨k0, k1, k2⟩ := hp9.free
        have HP9 := Lib.hid hp9; have HG9 := Lib.hid hg9
        clear hp9 hg9 x0 x1 x2 f0 f1 f2
        by_cases hmi : m = i
        · have e1 : ((m : Int) == (i : Int)) = true := by rw [hmi]; simp
          have HMI := Lib.hid hmi
          have hp8 := HP9.out.set2 true
          have hg8 := grown_set HG9.out 2 (.bool true)
          clear hmi
          go_upto_region 6 with fail
          generalize w9.setCell ⟨g, 2, none⟩ (.bool true) = w8 at hp8 hg8 ⊢
          obtain ⟨z0, z1, z2⟩ := hp8.cells
          have HP8 := Lib.hid hp8; have HG8 := Lib.hid hg8
          have l1 : (i : Int) ≤ (m : Int) := by have := HMI.out; omega
          have l2 : (m : Int) ≤ (s.size : Int) := by have := HMS.out; omega
          have l3 : (0 : Int) ≤ (i : Int) := by omega
          clear hp8 hg8 y0 y1 y2 k0 k1 k2
          go_quiet (fail)
          go_wp2_with fail
          go_ret
          refine ⟨grown_drewN HG8.out nq, .inl ⟨by rw [HE.out, HMI.out], ret_str (str_eq (by rw [HMI.out, Lib.extract_data]; simp)), by have := HP8.out.drewN nq; rw [HMI.out] at this; exact this⟩⟩
        · have e1 : ((m : Int) == (i : Int)) = false := by rw [beq_eq_false_iff_ne]; omega
          have HMI := Lib.hid hmi
          have l1 : (i : Int) ≤ (m : Int) := by have := HD.out; omega
          have l2 : (m : Int) ≤ (s.size : Int) := by have := HMS.out; omega
          have l3 : (0 : Int) ≤ (i : Int) := by omega
          clear hmi
          go_upto_region 6 with fail
          go_quiet (fail)
          go_wp2_with fail
          go_ret
          exact ⟨grown_drewN HG9.out nq, .inr ⟨by rw [HE.out]; exact HMI.out, ret_str (by rw [HE.out]; exact T.extract_name s i m), by rw [HE.out]; exact HP9.out.drewN nq⟩⟩
      · have a1 : (m : Int) < (s.size : Int) := by omega
        have a2 : (d : Int) < 16 := by omega
        have a4 : decide ((i : Int) < (m : Int)) = false := decide_eq_false (by omega)
        have a5 : decide (i < m) = false := decide_eq_false (by omega)
        have hb := u8_le s[m]
        rw [getElem!_pos s m g1] at g3
        have G3 := Lib.hid g3
        clear g3 g4
        go_upto_region 2 with fail
        go_quiet ((go_at_call 112; exact quiet_any (rletter _ _ hb.1 hb.2 false G3.out)))
        go_upto_region 4 with fail
        obtain ⟨hp9, hg9⟩ := HFIN.out nq
        generalize wr.drewN nq = w9 at hp9 hg9 ⊢
        obtain ⟨y0, y1, y2⟩ := hp9.cells
        obtain ⟨k0, k1, k2⟩ := hp9.free
        have HP9 := Lib.hid hp9; have HG9 := Lib.hid hg9
        clear hp9 hg9 x0 x1 x2 f0 f1 f2
        by_cases hmi : m = i
        · have e1 : ((m : Int) == (i : Int)) = true := by rw [hmi]; simp
          have HMI := Lib.hid hmi
          have hp8 := HP9.out.set2 true
          have hg8 := grown_set HG9.out 2 (.bool true)
          clear hmi
          go_upto_region 6 with fail
          generalize w9.setCell ⟨g, 2, none⟩ (.bool true) = w8 at hp8 hg8 ⊢
          obtain ⟨z0, z1, z2⟩ := hp8.cells
          have HP8 := Lib.hid hp8; have HG8 := Lib.hid hg8
          have l1 : (i : Int) ≤ (m : Int) := by have := HMI.out; omega
          have l2 : (m : Int) ≤ (s.size : Int) := by have := HMS.out; omega
          have l3 : (0 : Int) ≤ (i : Int) := by omega
          clear hp8 hg8 y0 y1 y2 k0 k1 k2
          go_quiet (fail)
          go_wp2_with fail
          go_ret
          refine ⟨grown_drewN HG8.out nq, .inl ⟨by rw [HE.out, HMI.out], ret_str (str_eq (by rw [HMI.out, Lib.extract_data]; simp)), by have := HP8.out.drewN nq; rw [HMI.out] at this; exact this⟩⟩
        · have e1 : ((m : Int) == (i : Int)) = false := by rw [beq_eq_false_iff_ne]; omega
          have HMI := Lib.hid hmi
          have l1 : (i : Int) ≤ (m : Int) := by have := HD.out; omega
          have l2 : (m : Int) ≤ (s.size : Int) := by have := HMS.out; omega
          have l3 : (0 : Int) ≤ (i : Int) := by omega
          clear hmi
          go_upto_region 6 with fail
          go_quiet (fail)
          go_wp2_with fail
          go_ret
          exact ⟨grown_drewN HG9.out nq, .inr ⟨by rw [HE.out]; exact HMI.out, ret_str (by rw [HE.out]; exact T.extract_name s i m), by rw [HE.out]; exact HP9.out.drewN nq⟩⟩
      · have a1 : (m : Int) < (s.size : Int) := by omega
        have a2 : (d : Int) < 16 := by omega
        have a4 : decide ((i : Int) < (m : Int)) = true := decide_eq_true (by omega)
        have a5 : decide (i < m) = true := decide_eq_true (by omega)
        have a6 : (i : Int) < (m : Int) := by omega
        have hb := u8_le s[m]
        rw [getElem!_pos s m g1] at g3 g5
        have G3 := Lib.hid g3; have G5 := Lib.hid g5
        clear g3 g5
        have h57 : (s[m].toNat : Int) < 48 ∨ (48 ≤ (s[m].toNat : Int) ∧ 57 < (s[m].toNat : Int)) := by have h := G5.out; rw [← T.dig_dec] at h; simp at h; omega
        rcases h57 with h57 | ⟨h57, h58⟩
        · have b1 : decide (48 ≤ (s[m].toNat : Int)) = false := decide_eq_false (by omega)
          go_upto_region 2 with fail
          go_quiet ((go_at_call 112; exact quiet_any (rletter _ _ hb.1 hb.2 false G3.out)))
          go_upto_region 4 with fail
          obtain ⟨hp9, hg9⟩ := HFIN.out nq
          generalize wr.drewN nq = w9 at hp9 hg9 ⊢
          obtain ⟨y0, y1, y2⟩ := hp9.cells
          obtain ⟨k0, k1, k2⟩ := hp9.free
          have HP9 := Lib.hid hp9; have HG9 := Lib.hid hg9
          clear hp9 hg9 x0 x1 x2 f0 f1 f2
          by_cases hmi : m = i
          · have e1 : ((m : Int) == (i : Int)) = true := by rw [hmi]; simp
            have HMI := Lib.hid hmi
            have hp8 := HP9.out.set2 true
            have hg8 := grown_set HG9.out 2 (.bool true)
            clear hmi
            go_upto_region 6 with fail
            generalize w9.setCell ⟨g, 2, none⟩ (.bool true) = w8 at hp8 hg8 ⊢
            obtain ⟨z0, z1, z2⟩ := hp8.cells
            have HP8 := Lib.hid hp8; have HG8 := Lib.hid hg8
            have l1 : (i : Int) ≤ (m : Int) := by have := HMI.out; omega
            have l2 : (m : Int) ≤ (s.size : Int) := by have := HMS.out; omega
            have l3 : (0 : Int) ≤ (i : Int) := by omega
            clear hp8 hg8 y0 y1 y2 k0 k1 k2
            go_quiet (fail)
            go_wp2_with fail
            go_ret
            refine ⟨grown_drewN HG8.out nq, .inl ⟨by rw [HE.out, HMI.out], ret_str (str_eq (by rw [HMI.out, Lib.extract_data]; simp)), by have := HP8.out.drewN nq; rw [HMI.out] at this; exact this⟩⟩
          · have e1 : ((m : Int) == (i : Int)) = false := by rw [beq_eq_false_iff_ne]; omega
            have HMI := Lib.hid hmi
            have l1 : (i : Int) ≤ (m : Int) := by have := HD.out; omega
            have l2 : (m : Int) ≤ (s.size : Int) := by have := HMS.out; omega
            have l3 : (0 : Int) ≤ (i : Int) := by omega
            clear hmi
            go_upto_region 6 with fail
            go_quiet (fail)
            go_wp2_with fail
            go_ret
            exact ⟨grown_drewN HG9.out nq, .inr ⟨by rw [HE.out]; exact HMI.out, ret_str (by rw [HE.out]; exact T.extract_name s i m), by rw [HE.out]; exact HP9.out.drewN nq⟩⟩
        · have b1 : decide (48 ≤ (s[m].toNat : Int)) = true := decide_eq_true (by omega)
          have b2 : decide ((s[m].toNat : Int) ≤ 57) = false := decide_eq_false (by omega)
          go_upto_region 2 with fail
          go_quiet ((go_at_call 112; exact quiet_any (rletter _ _ hb.1 hb.2 false G3.out)))
          go_upto_region 4 with fail
          obtain ⟨hp9, hg9⟩ := HFIN.out nq
          generalize wr.drewN nq = w9 at hp9 hg9 ⊢
          obtain ⟨y0, y1, y2⟩ := hp9.cells
          obtain ⟨k0, k1, k2⟩ := hp9.free
          have HP9 := Lib.hid hp9; have HG9 := Lib.hid hg9
          clear hp9 hg9 x0 x1 x2 f0 f1 f2
          by_cases hmi : m = i
          · have e1 : ((m : Int) == (i : Int)) = true := by rw [hmi]; simp
            have HMI := Lib.hid hmi
            have hp8 := HP9.out.set2 true
            have hg8 := grown_set HG9.out 2 (.bool true)
            clear hmi
            go_upto_region 6 with fail
            generalize w9.setCell ⟨g, 2, none⟩ (.bool true) = w8 at hp8 hg8 ⊢
            obtain ⟨z0, z1, z2⟩ := hp8.cells
            have HP8 := Lib.hid hp8; have HG8 := Lib.hid hg8
            have l1 : (i : Int) ≤ (m : Int) := by have := HMI.out; omega
            have l2 : (m : Int) ≤ (s.size : Int) := by have := HMS.out; omega
            have l3 : (0 : Int) ≤ (i : Int) := by omega
            clear hp8 hg8 y0 y1 y2 k0 k1 k2
            go_quiet (fail)
            go_wp2_with fail
            go_ret
            refine ⟨grown_drewN HG8.out nq, .inl ⟨by rw [HE.out, HMI.out], ret_str (str_eq (by rw [HMI.out, Lib.extract_data]; simp)), by have := HP8.out.drewN nq; rw [HMI.out] at this; exact this⟩⟩
          · have e1 : ((m : Int) == (i : Int)) = false := by rw [beq_eq_false_iff_ne]; omega
            have HMI := Lib.hid hmi
            have l1 : (i : Int) ≤ (m : Int) := by have := HD.out; omega
            have l2 : (m : Int) ≤ (s.size : Int) := by have := HMS.out; omega
            have l3 : (0 : Int) ≤ (i : Int) := by omega
            clear hmi
            go_upto_region 6 with fail
            go_quiet (fail)
            go_wp2_with fail
            go_ret
            exact ⟨grown_drewN HG9.out nq, .inr ⟨by rw [HE.out]; exact HMI.out, ret_str (by rw [HE.out]; exact T.extract_name s i m), by rw [HE.out]; exact HP9.out.drewN nq⟩⟩
    · have HE := Lib.hid hE
      rw [T.nameOk_at s i m hlt] at hok
      have hd' := HD.out
      have a1 : (m : Int) < (s.size : Int) := by omega
      have a2 : (d : Int) < 16 := by omega
      have hb := u8_le s[m]
      have HLT := Lib.hid hlt
      have HGN := Lib.hid hgn
      have HN6 := Lib.hid hn16
      clear hE hd' hnm hn16 hms hgn
      have hl : T.low (s[m]'hlt) = true ∨ (T.low (s[m]'hlt) = false ∧ i < m ∧ T.dig (s[m]'hlt) = true) := by
        rcases Bool.eq_false_or_eq_true (T.low (s[m]'hlt)) with a | a
        · exact .inl a
        · right; rw [a, Bool.false_or, Bool.and_eq_true, decide_eq_true_eq] at hok; exact ⟨a, hok.1, hok.2⟩
      clear hok
      rcases hl with g3 | ⟨g3, hok1, hok2⟩
      · have G3 := Lib.hid g3
        clear g3
        go_upto_region 2 with fail
        go_quiet ((go_at_call 112; exact quiet_any (rletter _ _ hb.1 hb.2 true G3.out)))
        go_wp2_with fail
        go_roundg n
        case measure => have := HGN.out; omega
        case rel => exact ⟨m + 1, by have := HNM.out; have := HGN.out; omega, by have := HN6.out; have := HGN.out; omega, HLT.out, HE.out, (HP.out.drewN nq).set1 (m + 1) _ (by push_cast; rfl), grown_set (grown_drewN HG.out nq) _ _⟩
      · have a4 : decide ((i : Int) < (m : Int)) = true := decide_eq_true (by omega)
        have a5 : decide (i < m) = true := decide_eq_true (by omega)
        have a6 : (i : Int) < (m : Int) := by omega
        have G3 := Lib.hid g3; have G5 := Lib.hid hok2
        clear g3 hok2
        have h57 : 48 ≤ ((s[m]'hlt).toNat : Int) ∧ ((s[m]'hlt).toNat : Int) ≤ 57 := by have h := G5.out; rw [← T.dig_dec] at h; simp at h; omega
        obtain ⟨h57, h58⟩ := h57
        have b1 : decide (48 ≤ ((s[m]'hlt).toNat : Int)) = true := decide_eq_true (by omega)
        have b2 : decide (((s[m]'hlt).toNat : Int) ≤ 57) = true := decide_eq_true (by omega)
        go_upto_region 2 with fail
        go_quiet ((go_at_call 112; exact quiet_any (rletter _ _ hb.1 hb.2 false G3.out)))
        go_wp2_with fail
        go_roundg n
        case measure => have := HGN.out; omega
        case rel => exact ⟨m + 1, by have := HNM.out; have := HGN.out; omega, by have := HN6.out; have := HGN.out; omega, HLT.out, HE.out, (HP.out.drewN nq).set1 (m + 1) _ (by push_cast; rfl), grown_set (grown_drewN HG.out nq) _ _⟩
end Go.Proofs.YtihbmgkbipeakaaGreat
