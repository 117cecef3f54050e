/- Several texts in one: WebNd, WebNe. -/
import Derived.Test.YtihbmgkbipeakaaGreatWebG31
import Derived.Test.YtihbmgkbipeakaaGreatWebG28
namespace Go.Proofs.YtihbmgkbipeakaaGreat
open Go.RowKit Go.ChangeShapes Go.WideShapes

theorem DedAt.get5 {w : World} {A : Option Addr} {L : List Rsn} (h : DedAt w A L) {i : Nat} (hi : i < L.length) : ∃ b off A' c' F fc, A = some ⟨b, off, none⟩ ∧ w.cell? ⟨b, off + i * 5, none⟩ = some (.int .i64 L[i].t.kind) ∧ w.cell? ⟨b, off + i * 5 + 1, none⟩ = some (.string L[i].t.name) ∧
    w.cell? ⟨b, off + i * 5 + 2, none⟩ = some (.slice A' L[i].t.kids.length c') ∧ w.cell? ⟨b, off + i * 5 + 4, none⟩ = some (.slice F L[i].frm.length fc) ∧ TermAt w (.agg #[.int .i64 L[i].t.kind, .string L[i].t.name, .slice A' L[i].t.kids.length c']) L[i].t := by
  rcases h with h | ⟨b, off, e, h⟩
  · omega
  · obtain ⟨A', c', F, fc, c0, c1, c2, _, c4, ht, _⟩ := h i hi
    exact ⟨b, off, A', c', F, fc, e, c0, c1, c2, c4, ht⟩

/-- Where a step of a deduction of its own can be stored to. -/
theorem OutAt.store {H M : Nat} {w : World} {A : Option Addr} {c : Nat} {L : List Rsn} (h : OutAt H (fun _ => false) M w (.slice A L.length c) L) {k : Nat} (hk : k < L.length) :
    ∃ gb off F fc, A = some ⟨gb, off, none⟩ ∧ H ≤ gb ∧ w.cell? ⟨gb, off + k * 5 + 3, none⟩ = some (.int .i64 L[k].how) ∧ w.frozen? ⟨gb, off + k * 5 + 3, none⟩ = false ∧ w.cell? ⟨gb, off + k * 5 + 4, none⟩ = some (.slice F L[k].frm.length fc) ∧
      (0 < L[k].frm.length → ∃ fb fo z, F = some ⟨fb, fo, none⟩ ∧ H ≤ fb ∧ fb ≠ gb ∧ w.cell? ⟨fb, fo, none⟩ = some (.int .i64 z) ∧ w.frozen? ⟨fb, fo, none⟩ = false) := by
  obtain ⟨css, h1, h2⟩ := h
  obtain ⟨gb, cp, e, hgb, _⟩ := h2.form (by omega)
  injection e with e1 e2 e3
  subst e1; subst e3
  have hk' : k < css.length := by rw [h1.1]; exact hk
  obtain ⟨A', cap, F, fc, e, _, hf⟩ := h1.2 k hk' hk
  have hlen : ∀ cs ∈ css, cs.length = 5 := fun cs hc => by
    obtain ⟨j, hj, rfl⟩ := List.getElem_of_mem hc
    exact (h1.2 j hj (by rw [← h1.1]; exact hj)).len
  have hc : ∀ r, r < 5 → w.cell? ⟨gb, 0 + k * 5 + r, none⟩ = (css[k])[r]? := fun r hr => by
    rw [Nat.zero_add, h2.cellAt (k * 5 + r) (by omega)]
    exact flat_at css hlen k hk' r hr
  rw [e] at hc
  refine ⟨gb, 0, F, fc, rfl, hgb, hc 3 (by omega), by rw [Nat.zero_add]; exact h2.frozenAt _, hc 4 (by omega), fun h0 => ?_⟩
  rcases hf with h3 | ⟨fb, fo, e, hS, hcc⟩
  · omega
  · obtain ⟨a1, _, a3, _⟩ := outS_iff.1 hS
    have h4 := hcc 0 h0
    exact ⟨fb, fo, _, e, a1, fun e => a3 (by rw [e]; rfl), by simpa using h4.1, by simpa using h4.2⟩
/-- Where the law stands when it asks for a deduction: its goal. -/
def GoalAt (K : List T) (gG : Nat) (W : World) : Prop := ∃ (G : T) (A : Option Addr) (c : Nat) (U : List T), Box W gG (.int .i64 G.kind) (.string G.name) (.slice A G.kids.length c) ∧ TermAt W (.agg #[.int .i64 G.kind, .string G.name, .slice A G.kids.length c]) G ∧ G.bulk ≤ 1048576 ∧
  Uni U ∧ (∀ t ∈ U, t.bulk ≤ 1048576) ∧ (∀ t ∈ cnt K, t ∈ U) ∧ (G.use = true → G ∈ U) ∧ canB (Wb.fill U.length (cnt K)) G = true ∧ U.length ≤ 4096

set_option maxRecDepth 100000 in
set_option maxHeartbeats 16000000 in
theorem ded_checks (A1 A2 : Option Addr) (n1 n2 c1 c2 : Nat) (Ar : Option Addr) (cr : Nat) (R : List Rsn) (x y z : Int) (w : World) (hn1 : n1 ≤ maxLen) (hn2 : n2 ≤ maxLen) (hl1 : ListAt w A1 n1) (hl2 : ListAt w A2 n2) (hR : DedAt w Ar R) (hRb : ∀ s ∈ R, s.t.bulk ≤ 1048576 ∧ s.frm.length ≤ 1048576)
    (hx : -9223372036854775808 ≤ x ∧ x ≤ 9223372036854775807) (hy : -9223372036854775808 ≤ y ∧ y ≤ 9223372036854775807) (hz : -9223372036854775808 ≤ z ∧ z ≤ 9223372036854775807) :
    Calls Tryz.prog 3 #[.slice A1 n1 c1, .slice A2 n2 c2, .slice Ar R.length cr, .int .i64 x, .int .i64 y, .int .i64 z] w fun e w' => e = .returned (.bool true) ∧ Below w.heap.size w w' := by
  have HL1 := Lib.hid (fun W => made_light A1 n1 c1 W hn1); have HL2 := Lib.hid (fun W => made_light A2 n2 c2 W hn2)
  obtain ⟨q1, hq1⟩ : ∃ q, decide (n1 ≤ 80) = q := ⟨_, rfl⟩
  obtain ⟨q2, hq2⟩ : ∃ q, decide (n2 ≤ 80) = q := ⟨_, rfl⟩
  rw [hq1] at HL1; rw [hq2] at HL2
  have HLA1 := Lib.hid hl1; have HLA2 := Lib.hid hl2; have HX := Lib.hid hx; have HY := Lib.hid hy; have HZ := Lib.hid hz; have HR := Lib.hid hR; have HRB := Lib.hid hRb
  obtain ⟨m, hm⟩ : ∃ m, R.length = m := ⟨_, rfl⟩
  rw [hm]
  have HM := Lib.hid hm
  clear hl1 hl2 hx hy hz hn1 hn2 hR hRb hm
  go_enter Tryz.func3, Tryz.ntmps3
  go_wp2_with fail
  refine (HL1.out _).mono ?_; rintro e w1 ⟨rfl, rfl⟩
  cases q1
  · go_wp2_with fail
    refine (awake _).mono ?_; rintro e w3 ⟨rfl, hb⟩
    have HB := Lib.hid hb
    clear hb
    go_wp2_with fail
    go_ret
    exact ⟨rfl, HB.out⟩
  go_wp2_with fail
  refine (HL2.out _).mono ?_; rintro e w1 ⟨rfl, rfl⟩
  cases q2
  · go_wp2_with fail
    refine (awake _).mono ?_; rintro e w3 ⟨rfl, hb⟩
    have HB := Lib.hid hb
    clear hb
    go_wp2_with fail
    go_ret
    exact ⟨rfl, HB.out⟩
  have HQ1 := Lib.hid (of_decide_eq_true hq1); have HQ2 := Lib.hid (of_decide_eq_true hq2)
  clear hq1 hq2 HL1 HL2
  by_cases h12 : (12 : Int) < (m : Int)
  · go_wp2_with fail
    refine (awake _).mono ?_; rintro e w3 ⟨rfl, hb⟩
    have HB := Lib.hid hb
    clear hb
    go_wp2_with fail
    go_ret
    exact ⟨rfl, HB.out⟩
  have h12' : (m : Int) ≤ 12 := by omega
  go_upto_block 0 with fail
  go_cut [] from 34 to 57 (fun W' => Below w.heap.size w W')
  case first =>
    go_upto_region 4 with fail
    go_loopw [13] (fun s13 wr => ∃ i : Nat, i ≤ m ∧ s13 = .int .i64 i ∧ Below w.heap.size w wr) (fun s13 _ => m - (intOf s13).toNat)
    case atStart => exact ⟨0, Nat.zero_le _, rfl, Below.refl _ _⟩
    case round =>
      obtain ⟨i, hi, rfl, hbi⟩ := hrel
      have HBI := Lib.hid hbi
      by_cases him : (i : Int) < (m : Int)
      · have him0 : (0 : Int) ≤ (i : Int) := by omega
        have hil : i < R.length := by have := HM.out; omega
        obtain ⟨b, off, A', c', F, fc, eA, d0, d1, d2, d4, ht⟩ := (HR.out.later hbi).get5 hil
        subst eA
        have hbk := (HRB.out _ (List.getElem_mem hil)).1
        generalize (R[i]'hil).t = t at d0 d1 d2 ht hbk
        generalize (R[i]'hil).frm.length = fl at d4
        have HIM := Lib.hid him
        have hb3 := below_alloc1 wr (.cells #[.int .i64 t.kind, .string t.name, .slice A' t.kids.length c'] 29)
        have HLT := Lib.hid (rlightT _ (known_one wr ht) (fun x hx => by rw [List.mem_singleton] at hx; rw [hx]; exact hbk))
        have HB3 := Lib.hid hb3
        have d4' := cell_later hb3 d4
        clear hbi ht hbk hil hb3
        go_upto_region 6 with fail
        go_wp2_with fail
        refine HLT.out.mono ?_; rintro e w4 ⟨⟨q, rfl⟩, hb4⟩
        have d5 := cell_later hb4 d4'
        have HB4 := Lib.hid (HBI.out.trans ((HB3.out.trans (hb4.mono HB3.out.size)).mono HBI.out.size))
        clear hb4 HLT d0 d1 d2 d4 d4'
        cases q with
        | false =>
          go_wp2_with fail
          refine (awake _).mono ?_; rintro e w5 ⟨rfl, hb⟩
          have HB := Lib.hid (HB4.out.trans (hb.mono HB4.out.size))
          clear hb
          go_wp2_with fail
          go_ret
          exact ⟨rfl, HB.out⟩
        | true =>
          by_cases h5 : (5 : Int) < (fl : Int)
          · go_wp2_with fail
            refine (awake _).mono ?_; rintro e w5 ⟨rfl, hb⟩
            have HB := Lib.hid (HB4.out.trans (hb.mono HB4.out.size))
            clear hb
            go_wp2_with fail
            go_ret
            exact ⟨rfl, HB.out⟩
          · have h5' : (fl : Int) ≤ 5 := by omega
            go_wp2_with fail
            go_roundw
            case rel => exact ⟨i + 1, by have := HIM.out; omega, by go_num, HB4.out⟩
            case measure => have := HIM.out; simp [intOf]; omega
      · have him' : (m : Int) ≤ (i : Int) := by omega
        go_wp2_with fail
        go_meet
        exact HBI.out
  case rest =>
    obtain ⟨w1, rfl⟩ : ∃ w1 : World, w1 = wc := ⟨_, rfl⟩
    have HB1 := Lib.hid hcut; have HLB1 := Lib.hid (HLA1.out.below hcut); have HLB2 := Lib.hid (HLA2.out.below hcut); have HR1 := Lib.hid (HR.out.later hcut)
    clear hcut HLA1 HLA2 HR
    go_wp2_with fail
    refine (made_known A1 n1 c1 _ HQ1.out HLB1.out).mono ?_; rintro e w2 ⟨v1, K, B1, rfl, _, _, hr1, hK1, hK7, hKm, hb2⟩
    obtain ⟨Ak, ck, rfl, _, _⟩ := hr1.shape
    have HK2 := Lib.hid (show KnownAt w2 Ak ck K from (TermsRow.term hr1 0 ⟨#[]⟩ (by decide) (by decide)).at)
    have HLC2 := Lib.hid (HLB2.out.below hb2); have HB2 := Lib.hid (HB1.out.trans (hb2.mono HB1.out.size)); have HR2 := Lib.hid (HR1.out.later hb2); have HKM := Lib.hid hKm
    have hcn := cnt_made hKm hK7
    have hk0 : 0 < (cnt K).length := by rw [hcn]; omega
    have hKB : ∀ t ∈ K, t.bulk ≤ 1048576 := fun t ht => by have := (hKm t ht).1.bulk (by omega); omega
    have HCO := Lib.hid (fun W A c L (h1 : KnownAt W Ak ck K) (h2 : DedAt W A L) h3 => ocheckT (c := c) W h1 hk0 hKB h2 h3)
    have HCR := Lib.hid (fun W A c L (h1 : KnownAt W Ak ck K) (h2 : DedAt W A L) h3 => rcheckT (c := c) W h1 hKB h2 h3)
    have hco := HCO.out w2 Ar cr R HK2.out HR2.out HRB.out
    have hcr := fun W h1 h2 => HCR.out W Ar cr R h1 h2 HRB.out
    obtain ⟨qc, hqc⟩ : ∃ q, rchkB (cnt K) R = q := ⟨_, rfl⟩
    rw [hqc, HM.out] at hco
    rw [hqc, HM.out] at hcr
    have HCA := Lib.hid hco; have HCB := Lib.hid hcr; have HKB := Lib.hid hKB; have HK0 := Lib.hid hk0
    clear hr1 hb2 hKm hcn hk0 hKB hco hcr hqc HR1 HLB1 HLB2 HB1
    go_wp2_with fail
    refine HCA.out.mono ?_; rintro e w3 ⟨rfl, hb3⟩
    have HK3 := Lib.hid (HK2.out.later hb3); have HR3 := Lib.hid (HR2.out.later hb3); have HB3 := Lib.hid (HB2.out.trans (hb3.mono HB2.out.size)); have HLC3 := Lib.hid (HLC2.out.below hb3)
    clear hb3
    go_wp2_with fail
    refine (HCB.out _ HK3.out HR3.out).mono ?_; rintro e w4 ⟨rfl, hb4⟩
    have HK4 := Lib.hid (HK3.out.later hb4); have HB4 := Lib.hid (HB3.out.trans (hb4.mono HB3.out.size)); have HLC4 := Lib.hid (HLC3.out.below hb4)
    clear hb4 HCA HCB HK2 HK3 HR2 HR3 HB2 HB3 HLC2 HLC3
    have HCN := Lib.hid (cnt_made HKM.out hK7)
    obtain ⟨U0, hU0, hbU0, hKU0, _, hUl0⟩ := uni_made (K := K) (G := K[0]'hK1) (fun t ht => (HKM.out t ht).1) (maden_size (HKM.out _ (List.getElem_mem hK1))) (HKB.out _ (List.getElem_mem hK1)) hK7
    have hro := rclose_ok hU0 hKU0
    have hc0 := close_some hU0 hKU0 HK0.out
    have hcan := fun x hx => close_an hU0 hKU0 (x := x) hx
    have hrc := rcloseT hU0 hbU0 K Ak ck _ HK4.out HKB.out hKU0
    generalize rrun (U0.length + 1) (rfirst (cnt K)) = C at hro hc0 hcan hrc
    have hcb : ∀ t ∈ C, t.bulk ≤ 1048576 := fun t ht => hbU0 _ (hro.mem t ht)
    have hcl : C.length ≤ 4096 := Nat.le_trans hro.len hUl0
    have HRC := Lib.hid hrc; have HCB := Lib.hid hcb; have HCA := Lib.hid hcan; have HC0 := Lib.hid hc0; have HCL := Lib.hid hcl
    clear hro hc0 hcan hrc hcb hcl hU0 hbU0 hKU0 hUl0
    go_wp2_with fail
    refine HRC.out.mono ?_; rintro e w5 ⟨A5, c5, rfl, hc5, hb5⟩
    have HC5 := Lib.hid hc5; have HK5 := Lib.hid (HK4.out.later hb5); have HB5 := Lib.hid (HB4.out.trans (hb5.mono HB4.out.size)); have HLC5 := Lib.hid (HLC4.out.below hb5)
    clear hc5 hb5 HK4 HB4 HLC4 HRC
    have HD5 := Lib.hid (Nat.le_refl w5.heap.size)
    go_wp2_with fail
    refine (made_roll A2 n2 c2 _ HQ2.out HLC5.out).mono ?_; rintro e w6 ⟨g, hg, rfl, hd, hb6⟩
    have HD := Lib.hid hd; have HB6 := Lib.hid hb6; have HG := Lib.hid hg
    clear hd hb6 hg
    go_wp2_with fail
    refine (made_term 0 3 (by decide) (by decide) g g _ HD.out).mono ?_
    rintro e w7 ⟨G, AG, CG, hmd, rfl, hti, _, hg7⟩
    have hb7 : Below w5.heap.size w5 w7 := HB6.out.grown hg7 HB6.out.size (fun k hk => by have e' : g = k := Option.some.inj hk; have := HG.out; omega)
    have hwx := below_alloc1 w7 (.cells #[.int .i64 G.kind, .string G.name, .slice AG G.kids.length CG] 29)
    have hbx := Box.new w7 (.int .i64 G.kind) (.string G.name) (.slice AG G.kids.length CG)
    have hb8 := hb7.trans (hwx.mono hb7.size)
    have HG8 := Lib.hid (hti.at.later hwx); have HMD := Lib.hid hmd; have HB8 := Lib.hid hb8; have HGG := Lib.hid hb7.size
    clear hb7 hwx hb8 hti hg7 hmd HB6 HD HG
    go_upto_region 13 with fail
    generalize w7.alloc (.cells #[.int .i64 G.kind, .string G.name, .slice AG G.kids.length CG] 29) = w8 at hbx HG8 HB8 ⊢
    generalize w7.heap.size = gG at hbx HGG ⊢
    obtain ⟨k0, k1, k2⟩ := hbx.cells
    have HBX := Lib.hid hbx
    clear hbx
    have hGs : G.size ≤ 39 := by have h1 := HMD.out.1.2.1; have e : 5 * 2 ^ (3 - 1) = 20 := by decide
                                 omega
    have hGb : G.bulk ≤ 1048576 := by have := HMD.out.1.bulk (by decide); omega
    obtain ⟨U, hU, hbU, hKU, hGU, hUl⟩ := uni_made (K := K) (G := G) (fun t ht => (HKM.out t ht).1) hGs hGb hK7
    obtain ⟨q, hq⟩ : ∃ q, canB (Wb.fill U.length (cnt K)) G = q := ⟨_, rfl⟩
    have hcn := ocan hU hbU K Ak ck G (.agg #[.int .i64 G.kind, .string G.name, .slice AG G.kids.length CG]) w8 (HK5.out.later HB8.out) HKB.out hKU HG8.out hGb hGU
    rw [hq] at hcn
    have HCNN := Lib.hid hcn
    have HUU := Lib.hid (show G.bulk ≤ 1048576 ∧ Uni U ∧ (∀ t ∈ U, t.bulk ≤ 1048576) ∧ (∀ t ∈ cnt K, t ∈ U) ∧ (G.use = true → G ∈ U) ∧ canB (Wb.fill U.length (cnt K)) G = q ∧ U.length ≤ 4096 from ⟨hGb, hU, hbU, hKU, hGU, hq, hUl⟩)
    clear hcn hGb hU hbU hKU hGU hq hUl hGs
    go_wp2_with fail
    refine HCNN.out.mono ?_; rintro e w9 ⟨rfl, hb9⟩
    have HB9 := Lib.hid (HB8.out.trans (hb9.mono HB8.out.size)); have HG9 := Lib.hid (HG8.out.later hb9); have HBX9 := Lib.hid (HBX.out.later hb9)
    clear hb9 k0 k1 k2 HCNN HG8 HB8 HBX
    obtain ⟨m3, hm3⟩ : ∃ m3, C.length = m3 := ⟨_, rfl⟩
    have HM3 := Lib.hid hm3
    rw [hm3]
    clear hm3
    go_upto_if 75 with fail
    go_cut [] from 75 to 82 (fun W' => GoalAt K gG W' ∧ Below w5.heap.size w5 W')
    case first =>
      cases q with
      | true =>
        go_wp2_with fail
        go_meet
        exact ⟨⟨G, AG, CG, U, HBX9.out, HG9.out, HUU.out⟩, HB9.out⟩
      | false =>
        have hc0 := HC0.out
        have hcl := HCL.out
        rw [HM3.out] at hc0 hcl
        go_wp2_with fail
        refine (made_mod x (m3 : Int) _ HX.out.1 HX.out.2 (by omega) (by omega)).mono ?_; rintro e w0 ⟨rfl, rfl⟩
        obtain ⟨i, hi, him⟩ : ∃ i : Nat, x % (m3 : Int) = (i : Int) ∧ i < m3 := by
          have h1 := Int.emod_nonneg x (b := (m3 : Int)) (by omega)
          have h2 := Int.emod_lt_of_pos x (b := (m3 : Int)) (by omega)
          exact ⟨(x % (m3 : Int)).toNat, by omega, by omega⟩
        rw [hi]
        clear hi
        have hic : i < C.length := by rw [HM3.out]; exact him
        obtain ⟨bc, oc, Ax, cx, rfl, d0', d1', d2', hxt⟩ := HC5.out.get hic
        have hym : C[i] ∈ C := List.getElem_mem hic
        generalize C[i] = y at d0' d1' d2' hxt hym
        have d0 := cell_later HB9.out d0'; have d1 := cell_later HB9.out d1'; have d2 := cell_later HB9.out d2'
        have hi1 : (0 : Int) ≤ (i : Int) ∧ (i : Int) < (m3 : Int) := by omega
        obtain ⟨hi1, hi2⟩ := hi1
        obtain ⟨k0, k1, k2⟩ := HBX9.out.cells; obtain ⟨f0, f1, f2⟩ := HBX9.out.free
        have HYM := Lib.hid hym; have HXT := Lib.hid hxt
        clear hic d0' d1' d2' hym hxt him
        go_wp2_with fail
        go_meet
        have hbz := ((HB9.out.setCell (show w5.heap.size ≤ (⟨gG, 0, none⟩ : Addr).block from HGG.out) (.int .i64 y.kind)).setCell (show w5.heap.size ≤ (⟨gG, 1, none⟩ : Addr).block from HGG.out) (.string y.name)).setCell (show w5.heap.size ≤ (⟨gG, 2, none⟩ : Addr).block from HGG.out) (.slice Ax y.kids.length cx)
        obtain ⟨_, hU, hbU, hKU, _, _, hUl⟩ := HUU.out
        obtain ⟨e1, e2⟩ := an_der hU hKU (HCA.out y HYM.out)
        exact ⟨⟨y, Ax, cx, U, box_set3 HBX9.out _ _ _, HXT.out.later hbz, HCB.out y HYM.out, hU, hbU, hKU, fun _ => e2, e1, hUl⟩, hbz⟩
    case rest =>
    clear HBX9 HG9 HB9 HUU HMD
    obtain ⟨w9, rfl⟩ : ∃ w9 : World, w9 = wc := ⟨_, rfl⟩
    obtain ⟨⟨G, AG, CG, U, hbx, hG9, hGb, hU, hbU, hKU, hGU, hcb, hUl⟩, hb9⟩ := hcut
    obtain ⟨L, hL, hLp, hL4, hLm⟩ := can_der hU hKU hGU hcb hUl
    have hdr := oderive2 hU hbU K Ak ck G _ w9 (HK5.out.later hb9) HKB.out hKU hG9 hGb hGU
    rw [hL] at hdr
    have HDR := Lib.hid hdr
    have HLM := Lib.hid (show ∀ s ∈ L, s.t.bulk ≤ 1048576 ∧ s.frm.length ≤ 1048576 from fun s hs => ⟨hbU _ (hLm s hs).1, (hLm s hs).2⟩)
    obtain ⟨k0, k1, k2⟩ := hbx.cells
    have HB9 := Lib.hid hb9; have HK9 := Lib.hid (HK5.out.later hb9); have HBW9 := Lib.hid (HB5.out.trans (hb9.mono HB5.out.size))
    clear hbx hG9 hGb hU hbU hKU hGU hcb hUl hL hLm hdr hb9
    go_wp2_with fail
    refine HDR.out.mono ?_; rintro e w10 ⟨hb10, he⟩
    obtain ⟨Ar2, cr2, H, M, rfl, hH, hout⟩ := he
    obtain ⟨A', c', e', hded⟩ := hout.ded
    injection e' with e1 _ e3
    subst e1; subst e3
    obtain ⟨n, hn⟩ : ∃ n, L.length = n := ⟨_, rfl⟩
    have HOUT := Lib.hid hout; have HN := Lib.hid hn; have HDED := Lib.hid hded; have HB10 := Lib.hid hb10; have HHH := Lib.hid hH
    rw [hn] at hLp hL4 ⊢
    have hn0 : ((n : Int) == 0) = false := by rw [beq_eq_false_iff_ne]; omega
    clear hout hn hded hb10 hH k0 k1 k2 HDR
    go_wp2_with fail
    refine (made_mod x (n : Int) _ HX.out.1 HX.out.2 (by omega) (by omega)).mono ?_; rintro e w0 ⟨rfl, rfl⟩
    obtain ⟨k, hk, hkm⟩ : ∃ k : Nat, x % (n : Int) = (k : Int) ∧ k < n := by
      have h1 := Int.emod_nonneg x (b := (n : Int)) (by omega)
      have h2 := Int.emod_lt_of_pos x (b := (n : Int)) (by omega)
      exact ⟨(x % (n : Int)).toNat, by omega, by omega⟩
    rw [hk]
    clear hk
    go_wp2_with fail
    refine (made_mod y 13 _ HY.out.1 HY.out.2 (by omega) (by omega)).mono ?_; rintro e w0 ⟨rfl, rfl⟩
    obtain ⟨hv, hhv⟩ : ∃ hv, y % 13 = hv := ⟨_, rfl⟩
    have hhb : -9223372036854775808 ≤ hv ∧ hv ≤ 9223372036854775807 := by
      have h1 := Int.emod_nonneg y (b := 13) (by omega)
      have h2 := Int.emod_lt_of_pos y (b := 13) (by omega)
      omega
    rw [hhv]
    clear hhv
    have hkl : k < L.length := by rw [HN.out]; exact hkm
    obtain ⟨gb, off, F, fc, rfl, hgb, q3, qf, q4, hF⟩ := HOUT.out.store hkl
    generalize L[k].how = hw0 at q3
    generalize hfl : L[k].frm.length = fl at q4 hF
    have hk1 : (0 : Int) ≤ (k : Int) := by omega
    have hk2 : (k : Int) < (n : Int) := by omega
    have hpk := Poke.set q3 hhb
    have hbf := HB10.out.setCell (show w9.heap.size ≤ (⟨gb, off + k * 5 + 3, none⟩ : Addr).block from Nat.le_trans HHH.out hgb) (.int .i64 hv)
    have c4 : (w10.setCell ⟨gb, off + k * 5 + 3, none⟩ (.int .i64 hv)).cell? ⟨gb, off + k * 5 + 4, none⟩ = some (.slice F fl fc) := (World.cell?_setCell_other _ _ _ _ (by intro e; injection e; omega)).trans q4
    have hFF : 0 < fl → ∃ fb fo z, F = some ⟨fb, fo, none⟩ ∧ w9.heap.size ≤ fb ∧ (w10.setCell ⟨gb, off + k * 5 + 3, none⟩ (.int .i64 hv)).cell? ⟨fb, fo, none⟩ = some (.int .i64 z) ∧ (w10.setCell ⟨gb, off + k * 5 + 3, none⟩ (.int .i64 hv)).frozen? ⟨fb, fo, none⟩ = false := fun h => by
      obtain ⟨fb, fo, z, e, h1, h2, h3, h4⟩ := hF h
      exact ⟨fb, fo, z, e, Nat.le_trans HHH.out h1, (World.cell?_setCell_other _ _ _ _ (by intro e; injection e with e; exact h2 e.symm)).trans h3, (World.frozen?_setCell _ _ _ _).trans h4⟩
    have HFF := Lib.hid hFF; have HPK1 := Lib.hid hpk; have HBF1 := Lib.hid hbf
    clear hF hFF hpk hbf q4 hkl hfl hhb
    go_upto_region 20 with fail
    generalize w10.setCell ⟨gb, off + k * 5 + 3, none⟩ (.int .i64 hv) = w11 at c4 HFF HPK1 HBF1 ⊢
    clear q3 qf
    by_cases h0 : 0 < fl
    · obtain ⟨fb, fo, z0, rfl, hfb, e0, ef⟩ := HFF.out h0
      have h0' : (0 : Int) < (fl : Int) := by omega
      clear HFF
      by_cases hz2 : z.tmod 2 = 0
      · obtain ⟨j, hj, hj0, hjn⟩ : ∃ j : Int, z % ((n + 1 : Nat) : Int) = j ∧ 0 ≤ j ∧ j ≤ (n : Int) := by
          have h1 := Int.emod_nonneg z (b := ((n + 1 : Nat) : Int)) (by omega)
          have h2 := Int.emod_lt_of_pos z (b := ((n + 1 : Nat) : Int)) (by omega)
          exact ⟨_, rfl, h1, by omega⟩
        have hw1 : IntKind.i64.wrap ((n : Int) + 1) = ((n + 1 : Nat) : Int) := by rw [IntKind.wrap_i64]; omega
        have hw2 : IntKind.i64.wrap (j - 1) = j - 1 := by rw [IntKind.wrap_i64]; omega
        have HMO := Lib.hid (fun W => made_mod z ((n + 1 : Nat) : Int) W HZ.out.1 HZ.out.2 (by omega) (by omega))
        rw [hj] at HMO
        have hpk := (show Poke w10 (w11.setCell ⟨fb, fo, none⟩ (.int .i64 (j - 1))).drew from HPK1.out.trans (Poke.set e0 (z := j - 1) (by omega)))
        have hbf := (HBF1.out.setCell (show w9.heap.size ≤ (⟨fb, fo, none⟩ : Addr).block from hfb) (.int .i64 (j - 1))).drew
        go_upto_region 21 with fail
        refine wp_region_any (by kernel_rfl) ?_
        (try (change wpAny _ _ _ _ _ _ _ (World.drew _)))
        (refine wpAny_take (i := 0) (v := ?_) (by simp only [List.getElem?_toArray, List.getElem?_cons_zero]; rfl) (by kernel_rfl) (by kernel_rfl) (by kernel_rfl) (by exact fun _ _ _ h => h) (Or.inl ⟨by rfl, ?_⟩) ?_; rotate_left 1; · (intro w; go_simp; (try with_reducible rfl)))
        (refine wpAny_take (i := 1) (v := ?_) (by simp only [List.getElem?_toArray, List.getElem?_cons_succ, List.getElem?_cons_zero]; rfl) (by kernel_rfl) (by kernel_rfl) (by kernel_rfl) (by exact fun _ _ _ h => h) (Or.inl ⟨by rfl, ?_⟩) ?_; rotate_left 1; · (intro w; go_simp; (try with_reducible rfl)))
        (refine wpAny_take (i := 2) (v := ?_) (by simp only [List.getElem?_toArray, List.getElem?_cons_succ, List.getElem?_cons_zero]; rfl) (by kernel_rfl) (by kernel_rfl) (by kernel_rfl) (by exact fun _ _ _ h => h) (Or.inl ⟨by rfl, ?_⟩) ?_; rotate_left 1; · (intro w; go_simp; (try with_reducible rfl)))
        (refine wpAny_take (i := 3) (v := ?_) (by simp only [List.getElem?_toArray, List.getElem?_cons_succ, List.getElem?_cons_zero]; rfl) (by kernel_rfl) (by kernel_rfl) (by kernel_rfl) (by exact fun _ _ _ h => h) (Or.inl ⟨by rfl, ?_⟩) ?_; rotate_left 1; · (intro w; go_simp; (try with_reducible rfl)))
        (refine wpAny_take (i := 5) (v := ?_) (by simp only [List.getElem?_toArray, List.getElem?_cons_succ, List.getElem?_cons_zero]; rfl) (by kernel_rfl) (by kernel_rfl) (by kernel_rfl) (by exact fun _ _ _ h => h) (Or.inl ⟨by rfl, ?_⟩) ?_; rotate_left 1; · (intro w; go_simp; (try with_reducible rfl)))
        (refine wpAny_take (i := 6) (v := ?_) (by simp only [List.getElem?_toArray, List.getElem?_cons_succ, List.getElem?_cons_zero]; rfl) (by kernel_rfl) (by kernel_rfl) (by kernel_rfl) (by exact fun _ _ _ h => h) (Or.inl ⟨by rfl, ?_⟩) ?_; rotate_left 1; · (intro w; go_simp; (try with_reducible rfl)))
        (refine wpAny_take (i := 7) (v := ?_) (by simp only [List.getElem?_toArray, List.getElem?_cons_succ, List.getElem?_cons_zero]; rfl) (by kernel_rfl) (by kernel_rfl) (by kernel_rfl) (by exact fun _ _ _ h => h) (Or.inl ⟨by rfl, ?_⟩) ?_; rotate_left 1; · (intro w; go_simp; (try with_reducible rfl)))
        (refine wpAny_take (i := 8) (v := ?_) (by simp only [List.getElem?_toArray, List.getElem?_cons_succ, List.getElem?_cons_zero]; rfl) (by kernel_rfl) (by kernel_rfl) (by kernel_rfl) (by exact fun _ _ _ h => h) (Or.inl ⟨by rfl, ?_⟩) ?_; rotate_left 1; · (intro w; go_simp; (try with_reducible rfl)))
        refine wpAny_ready (rs := [4, 9]) (by kernel_rfl) (by simp) ?_
        refine AllReady.cons (by simp only [List.getElem?_toArray, List.getElem?_cons_succ, List.getElem?_cons_zero]; rfl) (fun K hK => ?_) ?_
        · go_simp
          (first | (refine hK _ _ ?_; clear hK K) | skip)
          refine wpAny_ready (rs := [9]) (by kernel_rfl) (by simp) ?_
          refine AllReady.cons (by simp only [List.getElem?_toArray, List.getElem?_cons_succ, List.getElem?_cons_zero]; rfl) (fun K hK => ?_) ?_
          · (go_simp; go_at_call 20; refine (HMO.out _).mono ?_; rintro e w0 ⟨rfl, rfl⟩)
            (first | (refine hK _ _ ?_; clear hK K) | skip)
            (refine wpAny_take (i := 10) (v := ?_) (by simp only [List.getElem?_toArray, List.getElem?_cons_succ, List.getElem?_cons_zero]; rfl) (by kernel_rfl) (by kernel_rfl) (by kernel_rfl) (by exact fun _ _ _ h => h) (Or.inl ⟨by rfl, ?_⟩) ?_; rotate_left 1; · (intro w; go_simp; (try with_reducible rfl)))
            (refine wpAny_take (i := 11) (v := ?_) (by simp only [List.getElem?_toArray, List.getElem?_cons_succ, List.getElem?_cons_zero]; rfl) (by kernel_rfl) (by kernel_rfl) (by kernel_rfl) (by exact fun _ _ _ h => h) (Or.inl ⟨by rfl, ?_⟩) ?_; rotate_left 1; · (intro w; go_simp; (try with_reducible rfl)))
            refine wpAny_ready (rs := [12]) (by kernel_rfl) (by simp) ?_
            refine AllReady.cons (by simp only [List.getElem?_toArray, List.getElem?_cons_succ, List.getElem?_cons_zero]; rfl) (fun K hK => ?_) ?_
            · go_simp
              (first | (refine hK _ _ ?_; clear hK K) | skip)
              refine wpAny_done (by kernel_rfl) ?_ _
              generalize (w11.setCell ⟨fb, fo, none⟩ (.int .i64 (j - 1))).drew = w15 at hpk hbf ⊢
              have HPK := Lib.hid hpk; have HBF := Lib.hid hbf
              clear hpk hbf
              obtain ⟨L', hl', hd', hb'⟩ := HDED.out.poke HPK.out HLM.out
              have hc1 := fun W (hw : Below w15.heap.size w15 W) => HCO.out W (some ⟨gb, off, none⟩) cr2 L' (HK9.out.later (HBF.out.trans (hw.mono HBF.out.size))) (hd'.later hw) hb'
              have hc2 := fun W (hw : Below w15.heap.size w15 W) => HCR.out W (some ⟨gb, off, none⟩) cr2 L' (HK9.out.later (HBF.out.trans (hw.mono HBF.out.size))) (hd'.later hw) hb'
              obtain ⟨qq, hqq⟩ : ∃ qq, rchkB (cnt K) L' = qq := ⟨_, rfl⟩
              rw [hqq, hl', HN.out] at hc1 hc2
              have HC1 := Lib.hid hc1; have HC2 := Lib.hid hc2
              clear hc1 hc2 hqq hd' hl' hb'
              go_wp2_with fail
              refine (HC1.out _ (Below.refl _ _)).mono ?_; rintro e w12 ⟨rfl, hb12⟩
              have HB12 := Lib.hid (hb12)
              clear hb12
              go_wp2_with fail
              refine (HC2.out _ HB12.out).mono ?_; rintro e w13 ⟨rfl, hb13⟩
              have HB13 := Lib.hid (HBF.out.trans ((HB12.out.trans (hb13.mono HB12.out.size)).mono HBF.out.size))
              clear hb13 HB12
              go_wp2_with fail
              refine (awake _).mono ?_; rintro e w14 ⟨rfl, hb14⟩
              have HB14 := Lib.hid (HB13.out.trans (hb14.mono HB13.out.size))
              clear hb14
              go_wp2_with fail
              go_ret
              exact ⟨rfl, HBW9.out.trans (HB14.out.mono HBW9.out.size)⟩
            exact AllReady.nil
          exact AllReady.nil
        refine AllReady.cons (by simp only [List.getElem?_toArray, List.getElem?_cons_succ, List.getElem?_cons_zero]; rfl) (fun K hK => ?_) ?_
        · (go_simp; go_at_call 20; refine (HMO.out _).mono ?_; rintro e w0 ⟨rfl, rfl⟩)
          (first | (refine hK _ _ ?_; clear hK K) | skip)
          (refine wpAny_take (i := 10) (v := ?_) (by simp only [List.getElem?_toArray, List.getElem?_cons_succ, List.getElem?_cons_zero]; rfl) (by kernel_rfl) (by kernel_rfl) (by kernel_rfl) (by exact fun _ _ _ h => h) (Or.inl ⟨by rfl, ?_⟩) ?_; rotate_left 1; · (intro w; go_simp; (try with_reducible rfl)))
          refine wpAny_ready (rs := [4]) (by kernel_rfl) (by simp) ?_
          refine AllReady.cons (by simp only [List.getElem?_toArray, List.getElem?_cons_succ, List.getElem?_cons_zero]; rfl) (fun K hK => ?_) ?_
          · go_simp
            (first | (refine hK _ _ ?_; clear hK K) | skip)
            (refine wpAny_take (i := 11) (v := ?_) (by simp only [List.getElem?_toArray, List.getElem?_cons_succ, List.getElem?_cons_zero]; rfl) (by kernel_rfl) (by kernel_rfl) (by kernel_rfl) (by exact fun _ _ _ h => h) (Or.inl ⟨by rfl, ?_⟩) ?_; rotate_left 1; · (intro w; go_simp; (try with_reducible rfl)))
            refine wpAny_ready (rs := [12]) (by kernel_rfl) (by simp) ?_
            refine AllReady.cons (by simp only [List.getElem?_toArray, List.getElem?_cons_succ, List.getElem?_cons_zero]; rfl) (fun K hK => ?_) ?_
            · go_simp
              (first | (refine hK _ _ ?_; clear hK K) | skip)
              refine wpAny_done (by kernel_rfl) ?_ _
              generalize (w11.setCell ⟨fb, fo, none⟩ (.int .i64 (j - 1))).drew = w15 at hpk hbf ⊢
              have HPK := Lib.hid hpk; have HBF := Lib.hid hbf
              clear hpk hbf
              obtain ⟨L', hl', hd', hb'⟩ := HDED.out.poke HPK.out HLM.out
              have hc1 := fun W (hw : Below w15.heap.size w15 W) => HCO.out W (some ⟨gb, off, none⟩) cr2 L' (HK9.out.later (HBF.out.trans (hw.mono HBF.out.size))) (hd'.later hw) hb'
              have hc2 := fun W (hw : Below w15.heap.size w15 W) => HCR.out W (some ⟨gb, off, none⟩) cr2 L' (HK9.out.later (HBF.out.trans (hw.mono HBF.out.size))) (hd'.later hw) hb'
              obtain ⟨qq, hqq⟩ : ∃ qq, rchkB (cnt K) L' = qq := ⟨_, rfl⟩
              rw [hqq, hl', HN.out] at hc1 hc2
              have HC1 := Lib.hid hc1; have HC2 := Lib.hid hc2
              clear hc1 hc2 hqq hd' hl' hb'
              go_wp2_with fail
              refine (HC1.out _ (Below.refl _ _)).mono ?_; rintro e w12 ⟨rfl, hb12⟩
              have HB12 := Lib.hid (hb12)
              clear hb12
              go_wp2_with fail
              refine (HC2.out _ HB12.out).mono ?_; rintro e w13 ⟨rfl, hb13⟩
              have HB13 := Lib.hid (HBF.out.trans ((HB12.out.trans (hb13.mono HB12.out.size)).mono HBF.out.size))
              clear hb13 HB12
              go_wp2_with fail
              refine (awake _).mono ?_; rintro e w14 ⟨rfl, hb14⟩
              have HB14 := Lib.hid (HB13.out.trans (hb14.mono HB13.out.size))
              clear hb14
              go_wp2_with fail
              go_ret
              exact ⟨rfl, HBW9.out.trans (HB14.out.mono HBW9.out.size)⟩
            exact AllReady.nil
          exact AllReady.nil
        exact AllReady.nil
      · have hpk := HPK1.out; have hbf := HBF1.out
        clear e0 ef
        have HPK := Lib.hid hpk; have HBF := Lib.hid hbf
        clear hpk hbf
        obtain ⟨L', hl', hd', hb'⟩ := HDED.out.poke HPK.out HLM.out
        have hc1 := fun W (hw : Below w11.heap.size w11 W) => HCO.out W (some ⟨gb, off, none⟩) cr2 L' (HK9.out.later (HBF.out.trans (hw.mono HBF.out.size))) (hd'.later hw) hb'
        have hc2 := fun W (hw : Below w11.heap.size w11 W) => HCR.out W (some ⟨gb, off, none⟩) cr2 L' (HK9.out.later (HBF.out.trans (hw.mono HBF.out.size))) (hd'.later hw) hb'
        obtain ⟨qq, hqq⟩ : ∃ qq, rchkB (cnt K) L' = qq := ⟨_, rfl⟩
        rw [hqq, hl', HN.out] at hc1 hc2
        have HC1 := Lib.hid hc1; have HC2 := Lib.hid hc2
        clear hc1 hc2 hqq hd' hl' hb'
        go_wp2_with fail
        refine (HC1.out _ (Below.refl _ _)).mono ?_; rintro e w12 ⟨rfl, hb12⟩
        have HB12 := Lib.hid (hb12)
        clear hb12
        go_wp2_with fail
        refine (HC2.out _ HB12.out).mono ?_; rintro e w13 ⟨rfl, hb13⟩
        have HB13 := Lib.hid (HBF.out.trans ((HB12.out.trans (hb13.mono HB12.out.size)).mono HBF.out.size))
        clear hb13 HB12
        go_wp2_with fail
        refine (awake _).mono ?_; rintro e w14 ⟨rfl, hb14⟩
        have HB14 := Lib.hid (HB13.out.trans (hb14.mono HB13.out.size))
        clear hb14
        go_wp2_with fail
        go_ret
        exact ⟨rfl, HBW9.out.trans (HB14.out.mono HBW9.out.size)⟩
    · obtain rfl : fl = 0 := by omega
      have hpk := HPK1.out; have hbf := HBF1.out
      clear HFF
      have HPK := Lib.hid hpk; have HBF := Lib.hid hbf
      clear hpk hbf
      obtain ⟨L', hl', hd', hb'⟩ := HDED.out.poke HPK.out HLM.out
      have hc1 := fun W (hw : Below w11.heap.size w11 W) => HCO.out W (some ⟨gb, off, none⟩) cr2 L' (HK9.out.later (HBF.out.trans (hw.mono HBF.out.size))) (hd'.later hw) hb'
      have hc2 := fun W (hw : Below w11.heap.size w11 W) => HCR.out W (some ⟨gb, off, none⟩) cr2 L' (HK9.out.later (HBF.out.trans (hw.mono HBF.out.size))) (hd'.later hw) hb'
      obtain ⟨qq, hqq⟩ : ∃ qq, rchkB (cnt K) L' = qq := ⟨_, rfl⟩
      rw [hqq, hl', HN.out] at hc1 hc2
      have HC1 := Lib.hid hc1; have HC2 := Lib.hid hc2
      clear hc1 hc2 hqq hd' hl' hb'
      go_wp2_with fail
      refine (HC1.out _ (Below.refl _ _)).mono ?_; rintro e w12 ⟨rfl, hb12⟩
      have HB12 := Lib.hid (hb12)
      clear hb12
      go_wp2_with fail
      refine (HC2.out _ HB12.out).mono ?_; rintro e w13 ⟨rfl, hb13⟩
      have HB13 := Lib.hid (HBF.out.trans ((HB12.out.trans (hb13.mono HB12.out.size)).mono HBF.out.size))
      clear hb13 HB12
      go_wp2_with fail
      refine (awake _).mono ?_; rintro e w14 ⟨rfl, hb14⟩
      have HB14 := Lib.hid (HB13.out.trans (hb14.mono HB13.out.size))
      clear hb14
      go_wp2_with fail
      go_ret
      exact ⟨rfl, HBW9.out.trans (HB14.out.mono HBW9.out.size)⟩
end Go.Proofs.YtihbmgkbipeakaaGreat

namespace Go.Proofs.YtihbmgkbipeakaaGreat
open Go.RowKit Go.ChangeShapes Go.WideShapes Go.Deep

theorem upto_mem {H : Type} {l : List (DataW H)} {d : DataW H} (h : Rows.uptoSmall H (l ++ []) = true) (hd : d ∈ l) : Rows.uptoBulk d ≤ 1048576 := by
  have h1 := of_decide_eq_true h
  rw [List.append_nil] at h1
  exact Nat.le_trans (uptoAll_mem hd) h1
set_option maxRecDepth 100000 in
theorem walkDeductionChecks {H : Type} {enc : TypeId × Value → H} {X Y Z : Prop} (w : World) (v0 : Value) (d0 : DataW H) {b0 : Nat} {p0 : List MemPlace} {r0 : Reach} (hv0 : Value.okWide Tryz.prog w r0 b0 22 v0) (hd0 : DataW.Trod enc Tryz.prog w 0 (fun _ => true) true 22 v0 d0 p0)
    (v1 : Value) (d1 : DataW H) {b1 : Nat} {p1 : List MemPlace} {r1 : Reach} (hv1 : Value.okWide Tryz.prog w r1 b1 22 v1) (hd1 : DataW.Trod enc Tryz.prog w 0 (fun _ => true) true 22 v1 d1 p1)
    (v2 : Value) (d2 : DataW H) {b2 : Nat} {p2 : List MemPlace} {r2 : Reach} (hv2 : Value.okWide Tryz.prog w r2 b2 23 v2) (hd2 : DataW.Trod enc Tryz.prog w 0 (fun _ => true) true 23 v2 d2 p2)
    (x : Int) (w3 : (Lit.int .i64 x).wf = true) (y : Int) (w4 : (Lit.int .i64 y).wf = true) (z : Int) (w5 : (Lit.int .i64 z).wf = true) (_hsz : X) (hcond : Rows.uptoSmall H ([d0, d1, d2, .lit (.int .i64 x), .lit (.int .i64 y), .lit (.int .i64 z)] ++ []) = true) (_hL : Y) (_hsh : Z) :
    Calls Tryz.prog 3 #[v0, v1, v2, .int .i64 x, .int .i64 y, .int .i64 z] w fun e w' => e = .returned (.bool true) ∧ Below w.heap.size w w' := by
  obtain ⟨A1, n1, c1, rfl, a1, a2, a3⟩ := open_list hv0 hd0
  obtain ⟨A2, n2, c2, rfl, e1, e2, e3⟩ := open_list hv1 hd1
  obtain ⟨Ar, cr, R, rfl, hR, _, _, hb⟩ := open_reasons hv2 hd2
  have hc : Rows.uptoBulk d2 ≤ 1048576 := upto_mem hcond (by simp)
  exact ded_checks A1 A2 n1 n2 c1 c2 Ar cr R x y z w (Nat.le_trans a1 a2) (Nat.le_trans e1 e2) a3 e3 hR (fun s hs => ⟨Nat.le_trans (hb s hs).1 hc, Nat.le_trans (hb s hs).2 hc⟩) (int_bounds w3) (int_bounds w4) (int_bounds w5)
end Go.Proofs.YtihbmgkbipeakaaGreat
