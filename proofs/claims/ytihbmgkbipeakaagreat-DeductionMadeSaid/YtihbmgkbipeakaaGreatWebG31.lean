/- Several texts in one: WebMd, WebMe. -/
import Derived.Test.YtihbmgkbipeakaaGreatWebG30
import Derived.Test.YtihbmgkbipeakaaGreatWebG28
import Derived.Test.YtihbmgkbipeakaaGreatWebG23
import Derived.Test.YtihbmgkbipeakaaGreatWebG0
namespace Go.Proofs.YtihbmgkbipeakaaGreat
open Go.RowKit Go.ChangeShapes Go.WideShapes

namespace T
mutual
/-- How many terms a term is made of. -/
theorem subs_len5 : ∀ (t : T), t.shape = true → (subs t).length ≤ 5 * t.size
  | .mk k s ks, h => by
    have hsk := shapeK h
    have h' := h
    simp only [shape] at h'
    split at h'
    · rename_i h12
      rw [Bool.and_eq_true, beq_iff_eq] at h'
      rw [List.eq_nil_of_length_eq_zero h'.2]
      have h7 : ¬ k = 7 := by omega
      simp only [subs, subsAll, size, sizeAll, if_neg h7, List.append_nil, List.length_singleton]; omega
    · rename_i h12
      rw [Bool.and_eq_true] at h'
      have h1 := subsAll_len5 ks h'.2
      simp only [subs, size, List.length_cons, List.length_append]
      simp only [kind, kids] at hsk
      split
      · rename_i h7
        have hat : ∀ (l : List T), (∀ x ∈ l, x.kind = 1 ∨ x.kind = 2) → (∀ x ∈ l, x.shape = true) → (subsAll l).length ≤ l.length ∧ sizeAll l = l.length := fun l => by
          induction l with
          | nil => intro _ _; exact ⟨Nat.le_refl _, rfl⟩
          | cons a r ih =>
            intro hk hs
            obtain ⟨g1, g2⟩ := ih (fun x hx => hk x (List.mem_cons_of_mem _ hx)) (fun x hx => hs x (List.mem_cons_of_mem _ hx))
            have ha := hk a (by simp); have hsa := hs a (by simp)
            obtain ⟨k', s', ks'⟩ := a
            rw [T.shape_atom k' s' ks' ha, Bool.and_eq_true, beq_iff_eq] at hsa
            have e := List.eq_nil_of_length_eq_zero hsa.2
            subst e
            have ha' : k' = 1 ∨ k' = 2 := ha
            have h77 : ¬ k' = 7 := by omega
            simp only [subsAll, sizeAll, subs, size, if_neg h77, List.length_append, List.length_cons, List.append_nil, List.length_nil]
            omega
        have hks : ∀ x ∈ ks, x.kind = 1 ∨ x.kind = 2 := fun x hx => by
          obtain ⟨i, hi, rfl⟩ := List.getElem_of_mem hx
          have := exp_atom h h7 (i := i) hi
          rw [kid_eq (t := .mk k s ks) hi] at this
          exact this
        obtain ⟨g1, g2⟩ := hat ks hks ((shapeAll_iff ks).1 h'.2)
        have h2 : (((subl ks).filter fun l => !l.isEmpty).map (T.mk 7 ⟨#[]⟩)).length ≤ 2 ^ ks.length := by
          rw [List.length_map]
          refine Nat.le_trans (List.length_filter_le _ _) ?_
          rw [subl_len]; exact Nat.le_refl _
        have h3 : 2 ^ ks.length + ks.length + 1 ≤ 5 * (ks.length + 1) := by
          have : ks.length = 0 ∨ ks.length = 1 ∨ ks.length = 2 ∨ ks.length = 3 ∨ ks.length = 4 := by omega
          rcases this with e | e | e | e | e <;> rw [e] <;> decide
        omega
      · simp only [List.length_nil]; omega
theorem subsAll_len5 : ∀ (l : List T), shapeAll l = true → (subsAll l).length ≤ 5 * sizeAll l
  | [], _ => by simp [subsAll, sizeAll]
  | t :: r, h => by
    simp only [shapeAll, Bool.and_eq_true] at h
    have h1 := subs_len5 t h.1
    have h2 := subsAll_len5 r h.2
    simp only [subsAll, sizeAll, List.length_append]; omega
end
end T
/-- A set for terms that are made. -/
theorem uni_made {K : List T} {G : T} (hK : ∀ t ∈ K, T.Made 4 t) (hG : G.size ≤ 39) (hGb : G.bulk ≤ 1048576) (h7 : K.length ≤ 7) :
    ∃ U, Uni U ∧ (∀ t ∈ U, t.bulk ≤ 1048576) ∧ (∀ t ∈ cnt K, t ∈ U) ∧ (G.use = true → G ∈ U) ∧ U.length ≤ 4096 := by
  have hc : (cnt K).length ≤ 7 := by unfold cnt; exact Nat.le_trans (List.length_filter_le _ _) (by rw [List.length_take]; omega)
  have hv : ∀ t ∈ (G :: cnt K).filter T.use, t.valid = true := fun t ht => T.use_valid (List.mem_filter.1 ht).2
  have hl : ((G :: cnt K).filter T.use).length ≤ 8 := Nat.le_trans (List.length_filter_le _ _) (by simp; omega)
  obtain ⟨hU, hbU⟩ := uni_few ((G :: cnt K).filter T.use) hv (by omega) (fun t ht => by
      rcases List.mem_cons.1 (List.mem_filter.1 ht).1 with rfl | h
      · exact hGb
      · have := (hK t (mem_of_cnt t h)).bulk (by omega); omega)
  refine ⟨_, hU, hbU, fun t ht => in_subs (List.mem_filter.2 ⟨List.mem_cons_of_mem _ ht, use_of t ht⟩), fun hu => in_subs (List.mem_filter.2 ⟨by simp, hu⟩), ?_⟩
  have h1 := T.subsAll_len5 ((G :: cnt K).filter T.use) ((T.shapeAll_iff _).2 fun t ht => (Bool.and_eq_true_iff.1 (hv t ht)).2)
  have h2 := sizeAll_le_ ((G :: cnt K).filter T.use) fun t ht => by
    rcases List.mem_cons.1 (List.mem_filter.1 ht).1 with rfl | h
    · omega
    · have := (hK t (mem_of_cnt t h)).2.1
      have : 5 * 2 ^ (4 - 1) = 40 := by decide
      omega
  omega
theorem der_can (W : List Stp) (t : T) : (derV W t).isSome = canB W t := by
  unfold derV canB
  cases t.use with
  | false => rfl
  | true => simp
theorem ded_known {K : List T} {L : List Rsn} {t : T} (h : DedOk (· ∈ K) L t) : 0 < K.length := by
  obtain ⟨how, frm, _, _, h3, h4⟩ := h.right 0 h.pos
  have : ∃ x, x ∈ K := by
    cases h4 with
    | known h => exact ⟨_, h⟩
    | first _ _ => exact absurd (h3 _ List.mem_cons_self) (Nat.not_lt_zero _)
    | second _ _ => exact absurd (h3 _ List.mem_cons_self) (Nat.not_lt_zero _)
    | opened _ _ _ => exact absurd (h3 _ List.mem_cons_self) (Nat.not_lt_zero _)
    | signed _ _ => exact absurd (h3 _ List.mem_cons_self) (Nat.not_lt_zero _)
    | pair _ _ _ => exact absurd (h3 _ List.mem_cons_self) (Nat.not_lt_zero _)
    | hash _ _ => exact absurd (h3 _ List.mem_cons_self) (Nat.not_lt_zero _)
    | seal_ _ _ _ => exact absurd (h3 _ List.mem_cons_self) (Nat.not_lt_zero _)
    | sign _ _ _ => exact absurd (h3 _ List.mem_cons_self) (Nat.not_lt_zero _)
    | power _ _ _ _ _ => exact absurd (h3 _ List.mem_cons_self) (Nat.not_lt_zero _)
    | raise _ _ _ => exact absurd (h3 _ List.mem_cons_self) (Nat.not_lt_zero _)
  obtain ⟨x, hx⟩ := this
  exact List.length_pos_of_mem hx
theorem rto_frm {K : T → Prop} {L : List Rsn} {s : Rsn} {k : Nat} (h : Wb.RtO K L s k) : s.frm.length ≤ 2 := by
  obtain ⟨how, frm, _, h2, _, h4⟩ := h
  rw [h2, List.length_map]
  cases h4 <;> simp
/-- The program's check, whatever the list of steps. -/
theorem ocheckT {Ak A : Option Addr} {ck c : Nat} {K : List T} {L : List Rsn} (w : World) (hK : KnownAt w Ak ck K) (h0 : 0 < (cnt K).length) (hKb : ∀ t ∈ K, t.bulk ≤ 1048576) (hL : DedAt w A L) (hLb : ∀ s ∈ L, s.t.bulk ≤ 1048576 ∧ s.frm.length ≤ 1048576) :
    Calls Tryz.prog 14 #[.slice Ak K.length ck, .slice A L.length c] w fun e w' => e = .returned (.bool (rchkB (cnt K) L)) ∧ Below w.heap.size w w' := by
  rw [← chk_same]
  have hprev : ∀ i (hi : i < L.length), (∀ j, j < i → rightB oneF pairF (cnt K) L j = true) → ∀ x, offB i x = false → (tAt L x).use = true := fun i hi hp x hx => by
    obtain ⟨j, rfl, hj⟩ := off_false hx
    have hjl : j < L.length := Nat.lt_trans hj hi
    rw [t_at hjl]
    exact right_use (hp j hj) hjl
  exact ocheck w hK h0 hKb hL hLb
    (fun i hi hp hu x _ hx => oone _ _ _ (hLb _ (List.getElem_mem hi)).1 (Nat.le_trans (use_bulk (hprev i hi hp x hx)) (by omega)) hu (hprev i hi hp x hx))
    (fun i hi hp hu x y _ hx hy => opair _ _ _ _ (hLb _ (List.getElem_mem hi)).1 hu (hprev i hi hp x hx) (hprev i hi hp y hy))
end Go.Proofs.YtihbmgkbipeakaaGreat

namespace Go.Proofs.YtihbmgkbipeakaaGreat
open Go.RowKit Go.ChangeShapes Go.WideShapes

theorem DedAt.get {w : World} {A : Option Addr} {L : List Rsn} (h : DedAt w A L) {i : Nat} (hi : i < L.length) : ∃ b off A' c', A = some ⟨b, off, none⟩ ∧ w.cell? ⟨b, off + i * 5, none⟩ = some (.int .i64 L[i].t.kind) ∧ w.cell? ⟨b, off + i * 5 + 1, none⟩ = some (.string L[i].t.name) ∧
    w.cell? ⟨b, off + i * 5 + 2, none⟩ = some (.slice A' L[i].t.kids.length c') ∧ TermAt w (.agg #[.int .i64 L[i].t.kind, .string L[i].t.name, .slice A' L[i].t.kids.length c']) L[i].t := by
  rcases h with h | ⟨b, off, e, h⟩
  · omega
  · obtain ⟨A', c', _, _, c0, c1, c2, _, _, ht, _⟩ := h i hi
    exact ⟨b, off, A', c', e, c0, c1, c2, ht⟩

set_option maxRecDepth 100000 in
set_option maxHeartbeats 16000000 in
theorem ded_made (A1 A2 : Option Addr) (n1 n2 c1 c2 : Nat) (x : Int) (w : World) (hn1 : n1 ≤ maxLen) (hn2 : n2 ≤ maxLen) (hl1 : ListAt w A1 n1) (hl2 : ListAt w A2 n2) (hx : -9223372036854775808 ≤ x ∧ x ≤ 9223372036854775807) :
    Calls Tryz.prog 5 #[.slice A1 n1 c1, .slice A2 n2 c2, .int .i64 x] w fun e w' => e = .returned (.bool true) ∧ Below w.heap.size w w' := by
  have HL1 := Lib.hid (fun W => made_light A1 n1 c1 W hn1); have HL2 := Lib.hid (fun W => made_light A2 n2 c2 W hn2)
  obtain ⟨q1, hq1⟩ : ∃ q, decide (n1 ≤ 80) = q := ⟨_, rfl⟩
  obtain ⟨q2, hq2⟩ : ∃ q, decide (n2 ≤ 80) = q := ⟨_, rfl⟩
  rw [hq1] at HL1; rw [hq2] at HL2
  have HLA1 := Lib.hid hl1; have HLA2 := Lib.hid hl2; have HX := Lib.hid hx
  clear hl1 hl2 hx hn1 hn2
  go_enter Tryz.func5, Tryz.ntmps5
  go_wp2_with fail
  refine (HL1.out _).mono ?_; rintro e w1 ⟨rfl, rfl⟩
  cases q1
  · go_wp2_with fail
    refine (awake _).mono ?_; rintro e w3 ⟨rfl, hb⟩
    have HB := Lib.hid hb
    clear hb
    go_wp2_with fail
    go_ret
    exact ⟨rfl, HB.out⟩
  go_wp2_with fail
  refine (HL2.out _).mono ?_; rintro e w1 ⟨rfl, rfl⟩
  cases q2
  · go_wp2_with fail
    refine (awake _).mono ?_; rintro e w3 ⟨rfl, hb⟩
    have HB := Lib.hid hb
    clear hb
    go_wp2_with fail
    go_ret
    exact ⟨rfl, HB.out⟩
  have HQ1 := Lib.hid (of_decide_eq_true hq1); have HQ2 := Lib.hid (of_decide_eq_true hq2)
  clear hq1 hq2 HL1 HL2
  go_wp2_with fail
  refine (made_known A1 n1 c1 _ HQ1.out HLA1.out).mono ?_; rintro e w2 ⟨v1, K, B1, rfl, _, _, hr1, hK1, hK7, hKm, hb2⟩
  obtain ⟨Ak, ck, rfl, _, _⟩ := hr1.shape
  have HK2 := Lib.hid (show KnownAt w2 Ak ck K from (TermsRow.term hr1 0 ⟨#[]⟩ (by decide) (by decide)).at)
  have HLB2 := Lib.hid (HLA2.out.below hb2); have HB2 := Lib.hid hb2; have HKM := Lib.hid hKm
  clear hr1 hKm hb2 HLA1 HLA2
  go_wp2_with fail
  refine (made_roll A2 n2 c2 _ HQ2.out HLB2.out).mono ?_; rintro e w4 ⟨g, hg, rfl, hd, hb4⟩
  have HD := Lib.hid hd; have HB4 := Lib.hid hb4; have HG := Lib.hid hg
  clear hd hb4 hg
  go_wp2_with fail
  refine (made_mod x 4 _ HX.out.1 HX.out.2 (by omega) (by omega)).mono ?_; rintro e w0 ⟨rfl, rfl⟩
  obtain ⟨i, hi, him⟩ : ∃ i : Nat, x % 4 = (i : Int) ∧ i < 4 := by
    have h1 := Int.emod_nonneg x (b := 4) (by omega)
    have h2 := Int.emod_lt_of_pos x (b := 4) (by omega)
    exact ⟨(x % 4).toNat, by omega, by omega⟩
  rw [hi]
  clear hi
  obtain ⟨D, hD, hD1, hD4⟩ : ∃ D : Nat, (1 : Int) + (i : Int) = (D : Int) ∧ 1 ≤ D ∧ D ≤ 4 := ⟨i + 1, by omega, by omega, by omega⟩
  have hwr : IntKind.i64.wrap (1 + (i : Int)) = (D : Int) := by rw [IntWalk.i64_in _ (by omega)]; exact hD
  have HD1 := Lib.hid hD1; have HD4 := Lib.hid hD4
  clear hD1 hD4
  go_wp2_with fail
  have HTE := Lib.hid (made_term 0 D HD1.out HD4.out g g _ HD.out)
  first | (refine HTE.out.mono ?_) | (rw [hD]; refine HTE.out.mono ?_)
  rintro e w5 ⟨G, A5, C5, hmd, rfl, hti, _, hg5⟩
  have hb5 : Below w2.heap.size w2 w5 := HB4.out.grown hg5 HB4.out.size (fun k hk => by have e' : g = k := Option.some.inj hk; have := HG.out; omega)
  have hwx := below_alloc1 w5 (.cells #[.int .i64 G.kind, .string G.name, .slice A5 G.kids.length C5] 29)
  have hbx := Box.new w5 (.int .i64 G.kind) (.string G.name) (.slice A5 G.kids.length C5)
  have hb6 := hb5.trans (hwx.mono hb5.size)
  have HK6 := Lib.hid (HK2.out.later hb6); have HG6 := Lib.hid (hti.at.later hwx); have HB6 := Lib.hid (HB2.out.trans (hb6.mono HB2.out.size)); have HMD := Lib.hid hmd
  clear hb5 hwx hb6 hti hg5 hmd HK2 HB2 HB4 HD HG HTE hD hwr
  go_upto_region 5 with fail
  generalize w5.alloc (.cells #[.int .i64 G.kind, .string G.name, .slice A5 G.kids.length C5] 29) = w6 at hbx HK6 HG6 HB6 ⊢
  generalize w5.heap.size = gG at hbx ⊢
  obtain ⟨k0, k1, k2⟩ := hbx.cells
  have HBX := Lib.hid hbx
  clear hbx
  have hGs : G.size ≤ 39 := by
    have h1 := HMD.out.2.1
    have h2 : 2 ^ (D - 1) ≤ 2 ^ 3 := Nat.pow_le_pow_right (by decide) (by have := HD4.out; omega)
    omega
  have hGb : G.bulk ≤ 1048576 := by have := HMD.out.bulk HD4.out; omega
  obtain ⟨U, hU, hbU, hKU, hGU, hUl⟩ := uni_made HKM.out hGs hGb hK7
  have hKB : ∀ t ∈ K, t.bulk ≤ 1048576 := fun t ht => by have := (HKM.out t ht).bulk (by omega); omega
  have HDV := Lib.hid (fun v W (h1 : KnownAt W Ak ck K) (h2 : TermAt W v G) => oderive hU hbU K Ak ck G v W h1 hKB hKU h2 hGb hGU)
  have hro := rclose_ok hU hKU
  have hsame := fun L' (hc : CloseIs (cnt K) L') => close_same hU hKU hc (Nat.lt_succ_self _)
  have HOC := Lib.hid (fun W (h : KnownAt W Ak ck K) => oclose hU hbU K Ak ck W h hKB hKU)
  have HRC := Lib.hid (fun W (h : KnownAt W Ak ck K) => rcloseT hU hbU K Ak ck W h hKB hKU)
  generalize hRR : rrun (U.length + 1) (rfirst (cnt K)) = RR at hro hsame HRC
  have HSA := Lib.hid (fun W A1 A2 c1 c2 (h1 : KnownAt W A1 c1 RR) (h2 : KnownAt W A2 c2 RR) => same_all W h1 h2 (fun x hx => hbU x (hro.mem x hx)))
  have HSM := Lib.hid hsame
  obtain ⟨q, hq⟩ : ∃ q, canB (Wb.fill U.length (cnt K)) G = q := ⟨_, rfl⟩
  have hcs : rcanB U K G = q := by
    rw [← hq]
    exact (can_same hU hKU hGU (Nat.lt_succ_self _) (Nat.lt_succ_self _)).symm
  have HCN := Lib.hid (show ∀ W v', KnownAt W Ak ck K → TermAt W v' G → Calls Tryz.prog 19 #[.slice Ak K.length ck, v'] W fun e w' => e = .returned (.bool q) ∧ Below W.heap.size W w' from fun W v' h1 h2 => by
    have := ocan hU hbU K Ak ck G v' W h1 hKB hKU h2 hGb hGU
    rw [hq] at this; exact this)
  have HRN := Lib.hid (show ∀ W v', KnownAt W Ak ck K → TermAt W v' G → Calls Tryz.prog 24 #[.slice Ak K.length ck, v'] W fun e w' => e = .returned (.bool q) ∧ Below W.heap.size W w' from fun W v' h1 h2 => by
    have := rcanT hU hbU K Ak ck G v' W h1 h2 hKB hGb hKU
    rw [hcs] at this; exact this)
  have hdc := der_can (Wb.fill U.length (cnt K)) G
  rw [hq] at hdc
  have HMA := Lib.hid (fun L (h : derV (Wb.fill U.length (cnt K)) G = some L) => der_made hU hKU (fun t ht => use_of t ht) hGU h hUl)
  have HBU := Lib.hid hbU
  obtain ⟨rr, hrr⟩ : ∃ rr, derV (Wb.fill U.length (cnt K)) G = rr := ⟨_, rfl⟩
  rw [hrr] at HDV hdc HMA
  have HKBB := Lib.hid hKB
  clear hU hbU hKU hGU hUl hRR hro hsame hq hcs hrr hGs hKB HKM HMD
  go_wp2_with fail
  refine (HDV.out _ _ HK6.out HG6.out).mono ?_; rintro e w7 ⟨hb7, he⟩
  have HK7 := Lib.hid (HK6.out.later hb7); have HG7 := Lib.hid (HG6.out.later hb7); have HB7 := Lib.hid (HB6.out.trans (hb7.mono HB6.out.size))
  obtain ⟨l0, l1, l2⟩ := (HBX.out.later hb7).cells
  have HBX7 := Lib.hid (HBX.out.later hb7)
  clear hb7 k0 k1 k2 HDV
  cases rr with
  | none =>
    obtain rfl : q = false := hdc.symm
    subst he
    clear HMA
    go_upto_region 6 with fail
    (refine wp_region_held_drew (S := (fun Wq => Wq.cell? ⟨gG, 0, none⟩ = some (.int .i64 G.kind) ∧ Wq.cell? ⟨gG, 1, none⟩ = some (.string G.name) ∧ Wq.cell? ⟨gG, 2, none⟩ = some (.slice A5 G.kids.length C5) ∧ Below w7.heap.size w7 Wq)) (by kernel_rfl) (show _ ∧ _ ∧ _ ∧ _ from ⟨l0, l1, l2, (Below.refl _ w7).drew⟩) (fun hHeld => ?_))
    (refine tkJ 0 _ (h := ?_))
    (refine tkJ 2 _ (h := ?_))
    (refine rdJ 1 (h := fun K hK => ?_); go_simp; go_at_call 23; refine (HOC.out _ (HK7.out.later hHeld.2.2.2)).mono ?_; rintro e wz2 ⟨A6, c6, L6, rfl, hcl, _, hk6, hb4⟩; have e6 := HSM.out L6 hcl; subst e6; clear hcl; refine shK hK (held3 hHeld hb4) (h := fun hHeld => ?_); clear hK K)
    (refine rdJ 3 (h := fun K hK => ?_); go_simp; go_at_call 16; refine (HRC.out _ (HK7.out.later hHeld.2.2.2)).mono ?_; rintro e wz3 ⟨A7, c7, rfl, hk7, hb4⟩; have hk6 := hk6.later hb4; refine shK hK (held3 hHeld hb4) (h := fun hHeld => ?_); clear hK K)
    (refine rdJ 4 (h := fun K hK => ?_); go_simp; go_at_call 22; refine (HSA.out _ _ _ _ _ hk6 hk7).mono ?_; rintro e wz4 ⟨rfl, hb4⟩; refine shK hK (held3 hHeld hb4) (h := fun hHeld => ?_); clear hK K)
    (refine tkJ 5 _ (h := ?_))
    (refine tkJ 6 _ (h := ?_))
    (first | (refine tkJ 7 _ (h := ?_)) | (refine tkM 7 (h := ?_)))
    (first | (refine tkJ 8 _ (h := ?_)) | (refine tkM 8 (h := ?_)))
    (first | (refine tkJ 10 _ (h := ?_)) | (refine tkM 10 (h := ?_)))
    (first | (refine tkJ 11 _ (h := ?_)) | (refine tkM 11 (h := ?_)))
    (refine rdJ 9 (h := fun K hK => ?_); go_simp; go_at_call 19; refine (HCN.out _ _ (HK7.out.later hHeld.2.2.2) (HG7.out.later hHeld.2.2.2)).mono ?_; rintro e wz5 ⟨rfl, hb4⟩; refine shK hK (held3 hHeld hb4) (h := fun hHeld => ?_); clear hK K)
    (refine rdJ 12 (h := fun K hK => ?_); go_simp; go_at_call 24; refine (HRN.out _ _ (HK7.out.later hHeld.2.2.2) (HG7.out.later hHeld.2.2.2)).mono ?_; rintro e wz6 ⟨rfl, hb4⟩; refine shK hK (held3 hHeld hb4) (h := fun hHeld => ?_); clear hK K)
    (first | (refine tkJ 13 _ (h := ?_)) | (refine tkM 13 (h := ?_)))
    (refine tkJ 14 _ (h := ?_))
    (refine tkJ 15 _ (h := ?_))
    (first | (refine tkJ 16 _ (h := ?_)) | (refine tkM 16 (h := ?_)))
    (first | (refine tkJ 17 _ (h := ?_)) | (refine tkM 17 (h := ?_)))
    (first | (refine tkJ 18 _ (h := ?_)) | (refine tkM 18 (h := ?_)))
    (refine rdJ 19 (h := fun K hK => ?_); go_simp; go_at_call 24; refine (HRN.out _ _ (HK7.out.later hHeld.2.2.2) (HG7.out.later hHeld.2.2.2)).mono ?_; rintro e wz7 ⟨rfl, hb4⟩; refine shK hK (held3 hHeld hb4) (h := fun hHeld => ?_); clear hK K)
    (first | (refine tkJ 20 _ (h := ?_)) | (refine tkM 20 (h := ?_)))
    (refine tkJ 21 _ (h := ?_))
    (refine wpAnyH_done (by kernel_rfl) ?_ _)
    have HB8 := Lib.hid (HB7.out.trans (hHeld.2.2.2.mono HB7.out.size))
    go_wp2_with fail
    refine (awake _).mono ?_; rintro e w9 ⟨rfl, hb9⟩
    have HB9 := Lib.hid (HB8.out.trans (hb9.mono HB8.out.size))
    clear hb9
    go_wp2_with fail
    go_ret
    exact ⟨rfl, HB9.out⟩
  | some L =>
    obtain rfl : q = true := hdc.symm
    obtain ⟨Ar, cr, rfl, hded⟩ := he
    obtain ⟨hok, hchk, hrchk, hmem⟩ := HMA.out L rfl
    have HDA := Lib.hid hded; have HOK := Lib.hid hok; have HRCK := Lib.hid hrchk
    have HLB := Lib.hid (show ∀ s ∈ L, s.t.bulk ≤ 1048576 ∧ s.frm.length ≤ 1048576 from fun s hs => ⟨HBU.out _ (hmem s hs), by
      obtain ⟨k, hk, rfl⟩ := List.getElem_of_mem hs
      have := rto_frm (hok.right k hk)
      omega⟩)
    have HK0 := Lib.hid (ded_known hok)
    have hLp := hok.pos
    have hL4 : L.length ≤ 4096 := by
      unfold rchkB at hrchk
      have := (Bool.and_eq_true_iff.1 (Bool.and_eq_true_iff.1 hrchk).2).1
      exact of_decide_eq_true this
    clear HMA hded hok hchk hrchk hmem
    go_upto_region 6 with fail
    (refine wp_region_held_drew (S := (fun Wq => Wq.cell? ⟨gG, 0, none⟩ = some (.int .i64 G.kind) ∧ Wq.cell? ⟨gG, 1, none⟩ = some (.string G.name) ∧ Wq.cell? ⟨gG, 2, none⟩ = some (.slice A5 G.kids.length C5) ∧ Below w7.heap.size w7 Wq)) (by kernel_rfl) (show _ ∧ _ ∧ _ ∧ _ from ⟨l0, l1, l2, (Below.refl _ w7).drew⟩) (fun hHeld => ?_))
    (refine tkJ 0 _ (h := ?_))
    (refine tkJ 2 _ (h := ?_))
    (refine rdJ 1 (h := fun K hK => ?_); go_simp; go_at_call 23; refine (HOC.out _ (HK7.out.later hHeld.2.2.2)).mono ?_; rintro e wz2 ⟨A6, c6, L6, rfl, hcl, _, hk6, hb4⟩; have e6 := HSM.out L6 hcl; subst e6; clear hcl; refine shK hK (held3 hHeld hb4) (h := fun hHeld => ?_); clear hK K)
    (refine rdJ 3 (h := fun K hK => ?_); go_simp; go_at_call 16; refine (HRC.out _ (HK7.out.later hHeld.2.2.2)).mono ?_; rintro e wz3 ⟨A7, c7, rfl, hk7, hb4⟩; have hk6 := hk6.later hb4; refine shK hK (held3 hHeld hb4) (h := fun hHeld => ?_); clear hK K)
    (refine rdJ 4 (h := fun K hK => ?_); go_simp; go_at_call 22; refine (HSA.out _ _ _ _ _ hk6 hk7).mono ?_; rintro e wz4 ⟨rfl, hb4⟩; refine shK hK (held3 hHeld hb4) (h := fun hHeld => ?_); clear hK K)
    (refine tkJ 5 _ (h := ?_))
    (refine tkJ 6 _ (h := ?_))
    (first | (refine tkJ 7 _ (h := ?_)) | (refine tkM 7 (h := ?_)))
    (first | (refine tkJ 8 _ (h := ?_)) | (refine tkM 8 (h := ?_)))
    (first | (refine tkJ 10 _ (h := ?_)) | (refine tkM 10 (h := ?_)))
    (first | (refine tkJ 11 _ (h := ?_)) | (refine tkM 11 (h := ?_)))
    (refine rdJ 9 (h := fun K hK => ?_); go_simp; go_at_call 19; refine (HCN.out _ _ (HK7.out.later hHeld.2.2.2) (HG7.out.later hHeld.2.2.2)).mono ?_; rintro e wz5 ⟨rfl, hb4⟩; refine shK hK (held3 hHeld hb4) (h := fun hHeld => ?_); clear hK K)
    (refine rdJ 12 (h := fun K hK => ?_); go_simp; go_at_call 24; refine (HRN.out _ _ (HK7.out.later hHeld.2.2.2) (HG7.out.later hHeld.2.2.2)).mono ?_; rintro e wz6 ⟨rfl, hb4⟩; refine shK hK (held3 hHeld hb4) (h := fun hHeld => ?_); clear hK K)
    (first | (refine tkJ 13 _ (h := ?_)) | (refine tkM 13 (h := ?_)))
    (refine tkJ 14 _ (h := ?_))
    (refine tkJ 15 _ (h := ?_))
    (first | (refine tkJ 16 _ (h := ?_)) | (refine tkM 16 (h := ?_)))
    (first | (refine tkJ 17 _ (h := ?_)) | (refine tkM 17 (h := ?_)))
    (first | (refine tkJ 18 _ (h := ?_)) | (refine tkM 18 (h := ?_)))
    (refine rdJ 19 (h := fun K hK => ?_); go_simp; go_at_call 24; refine (HRN.out _ _ (HK7.out.later hHeld.2.2.2) (HG7.out.later hHeld.2.2.2)).mono ?_; rintro e wz7 ⟨rfl, hb4⟩; refine shK hK (held3 hHeld hb4) (h := fun hHeld => ?_); clear hK K)
    (first | (refine tkJ 20 _ (h := ?_)) | (refine tkM 20 (h := ?_)))
    (refine tkJ 21 _ (h := ?_))
    (refine wpAnyH_done (by kernel_rfl) ?_ _)
    have HB8 := Lib.hid (HB7.out.trans (hHeld.2.2.2.mono HB7.out.size)); have HX8 := Lib.hid hHeld.2.2.2
    obtain ⟨w8, rfl⟩ : ∃ w8 : World, w8 = wz7 := ⟨_, rfl⟩
    have HD8 := Lib.hid (HDA.out.later HX8.out); have HK8 := Lib.hid (HK7.out.later HX8.out); have HG8 := Lib.hid (HG7.out.later HX8.out); have HBX8 := Lib.hid (HBX7.out.later HX8.out)
    clear l0 l1 l2 HOC HRC HSA HSM HCN HRN
    obtain ⟨n, hn⟩ : ∃ n, L.length = n := ⟨_, rfl⟩
    have HN := Lib.hid hn
    rw [hn] at hLp hL4 ⊢
    clear hn
    go_upto_block 0 with fail
    go_cut [] from 66 to 87 (fun W' => Below w8.heap.size w8 W')
    case first =>
      go_upto_region 11 with fail
      go_loopw [11] (fun s11 wr => ∃ i : Nat, i ≤ n ∧ s11 = .int .i64 i ∧ Below w8.heap.size w8 wr) (fun s11 _ => n - (intOf s11).toNat)
      case atStart => exact ⟨0, Nat.zero_le _, rfl, Below.refl _ _⟩
      case round =>
        obtain ⟨i, hi, rfl, hbi⟩ := hrel
        obtain ⟨wo, rfl⟩ : ∃ wo : World, wo = wr := ⟨_, rfl⟩
        have HBI := Lib.hid hbi
        by_cases hin : i < n
        · have hii : (0 : Int) ≤ (i : Int) ∧ (i : Int) < (n : Int) := by omega
          obtain ⟨hii1, hii2⟩ := hii
          have HIN := Lib.hid hin
          clear hbi hin
          go_upto_region 14 with fail
          go_loopw [12] (fun s12 wr => ∃ k : Nat, k ≤ i ∧ s12 = .int .i64 k ∧ Below wo.heap.size wo wr) (fun s12 _ => i - (intOf s12).toNat)
          case atStart => exact ⟨0, Nat.zero_le _, rfl, Below.refl _ _⟩
          case round =>
            obtain ⟨k, hk, rfl, hbk⟩ := hrel
            have HBK := Lib.hid hbk
            by_cases hki : k < i
            · have hkk : (0 : Int) ≤ (k : Int) ∧ (k : Int) < (i : Int) ∧ (k : Int) < (n : Int) := by omega
              obtain ⟨hkk1, hkk2, hkk3⟩ := hkk
              have hil : i < L.length := by have := HN.out; have := HIN.out; omega
              have hkl : k < L.length := by omega
              have hba := HBI.out.trans (hbk.mono HBI.out.size)
              obtain ⟨b, off, A1, c1, rfl, d0, d1, d2, hti⟩ := (HD8.out.later hba).get hil
              obtain ⟨b', off', A2, c2, eA, e0, e1, e2, htk⟩ := (HD8.out.later hba).get hkl
              injection eA with eA; injection eA with eA eA'; subst eA; subst eA'
              have hne : ¬ (L[i]'hil).t = (L[k]'hkl).t := fun e => by have := HOK.out.apart i k hil hkl e; omega
              have hb1 := (HLB.out _ (List.getElem_mem hil)).1
              have hb2 := (HLB.out _ (List.getElem_mem hkl)).1
              generalize (L[i]'hil).t = ti at d0 d1 d2 hti hne hb1
              generalize (L[k]'hkl).t = tk at e0 e1 e2 htk hne hb2
              have HS := Lib.hid (show ∀ v v' W', TermAt W' v ti → TermAt W' v' tk → Calls Tryz.prog 25 #[v, v'] W' fun e w' => e = .returned (.bool false) ∧ Below W'.heap.size W' w' from fun v v' W' h1 h2 => by
                have := rsame ti tk v v' W' h1 h2 hb1 hb2
                rw [decide_eq_false (fun h => hne (T.cmp_eq _ _ h))] at this; exact this)
              have HTI := Lib.hid hti; have HTK := Lib.hid htk; have HKI := Lib.hid hki
              clear hti htk hne hba hbk hki hil hkl
              go_upto_region 16 with fail
              (refine wp_region_held_drew (S := (fun Wq => Wq.cell? ⟨b, off + i * 5, none⟩ = some (.int .i64 ti.kind) ∧ Wq.cell? ⟨b, off + i * 5 + 1, none⟩ = some (.string ti.name) ∧ Wq.cell? ⟨b, off + i * 5 + 2, none⟩ = some (.slice A1 ti.kids.length c1) ∧ Wq.cell? ⟨b, off + k * 5, none⟩ = some (.int .i64 tk.kind) ∧ Wq.cell? ⟨b, off + k * 5 + 1, none⟩ = some (.string tk.name) ∧ Wq.cell? ⟨b, off + k * 5 + 2, none⟩ = some (.slice A2 tk.kids.length c2) ∧ Below wr.heap.size wr Wq)) (by kernel_rfl) (show _ ∧ _ ∧ _ ∧ _ ∧ _ ∧ _ ∧ _ from ⟨d0, d1, d2, e0, e1, e2, (Below.refl _ wr).drew⟩) (fun hHeld => ?_))
              (refine tkJ 0 _ (h := ?_))
              (refine tkJ 1 _ (h := ?_))
              (refine tkJ 2 _ (h := ?_))
              (refine tkJ 3 _ (h := ?_))
              (refine tkJ 4 _ (h := ?_))
              (refine tkJ 5 _ (h := ?_))
              (refine tkJ 6 _ (h := ?_))
              (refine tkJ 7 _ (h := ?_))
              (refine tkJ 8 _ (h := ?_))
              (refine tkJ 9 _ (h := ?_))
              (refine rdJ 10 (h := fun K hK => ?_); go_simp; go_at_call 25; refine (HS.out _ _ _ (HTI.out.later hHeld.2.2.2.2.2.2) (HTK.out.later hHeld.2.2.2.2.2.2)).mono ?_; rintro e wz ⟨rfl, hb4⟩; refine shK hK (held6 hHeld hb4) (h := fun hHeld => ?_); clear hK K)
              (refine wpAnyH_done (by kernel_rfl) ?_ _)
              go_wp2_with fail
              go_roundw
              case rel => exact ⟨k + 1, HKI.out, by go_num, HBK.out.trans (hHeld.2.2.2.2.2.2.mono HBK.out.size)⟩
              case measure => have := HKI.out; simp [intOf]; omega
            · have hki' : ¬ (k : Int) < (i : Int) := by omega
              go_wp2_with fail
              go_roundw
              case rel => exact ⟨i + 1, HIN.out, by go_num, HBI.out.trans (HBK.out.mono HBI.out.size)⟩
              case measure => have := HIN.out; simp [intOf]; omega
        · have hin' : ¬ (i : Int) < (n : Int) := by omega
          go_wp2_with fail
          go_meet
          exact HBI.out
    case rest =>
      obtain ⟨w9, rfl⟩ : ∃ w9 : World, w9 = wc := ⟨_, rfl⟩
      have HB9 := Lib.hid hcut
      have HD9 := Lib.hid (HD8.out.later hcut); have HK9 := Lib.hid (HK8.out.later hcut); have HG9 := Lib.hid (HG8.out.later hcut)
      obtain ⟨l0, l1, l2⟩ := (HBX8.out.later hcut).cells
      have hlast : n - 1 < L.length := by have := HN.out; omega
      have hlt := HOK.out.last (by have := HN.out; omega)
      have hlt' : (L[n - 1]'hlast).t = G := by
        have e := HN.out
        subst e
        exact hlt
      obtain ⟨b, off, A1, c1, rfl, d0, d1, d2, hti⟩ := HD9.out.get hlast
      rw [hlt'] at d0 d1 d2 hti
      have HTI := Lib.hid hti
      obtain ⟨m, hm⟩ : ∃ m, n - 1 = m := ⟨_, rfl⟩
      rw [hm] at d0 d1 d2
      have hwr : IntKind.i64.wrap ((n : Int) - 1) = (m : Int) := by rw [IntWalk.i64_in _ (by omega)]; omega
      have hmi : (0 : Int) ≤ (m : Int) ∧ (m : Int) < (n : Int) := by omega
      obtain ⟨hmi1, hmi2⟩ := hmi
      have HRK := Lib.hid (show ∀ W, KnownAt W Ak ck K → DedAt W (some ⟨b, off, none⟩) L → Calls Tryz.prog 15 #[.slice Ak K.length ck, .slice (some ⟨b, off, none⟩) n cr] W fun e w' => e = .returned (.bool true) ∧ Below W.heap.size W w' from fun W h1 h2 => by
        have := rcheckT (c := cr) W h1 HKBB.out h2 HLB.out
        rw [HRCK.out, HN.out] at this; exact this)
      have HOKC := Lib.hid (show ∀ W, KnownAt W Ak ck K → DedAt W (some ⟨b, off, none⟩) L → Calls Tryz.prog 14 #[.slice Ak K.length ck, .slice (some ⟨b, off, none⟩) n cr] W fun e w' => e = .returned (.bool true) ∧ Below W.heap.size W w' from fun W h1 h2 => by
        have := ocheckT (c := cr) W h1 HK0.out HKBB.out h2 HLB.out
        rw [HRCK.out, HN.out] at this; exact this)
      have HSG := Lib.hid (show ∀ v v' W', TermAt W' v G → TermAt W' v' G → Calls Tryz.prog 25 #[v, v'] W' fun e w' => e = .returned (.bool true) ∧ Below W'.heap.size W' w' from fun v v' W' h1 h2 => by
        have := rsame G G v v' W' h1 h2 hGb hGb
        rw [T.cmp_self] at this; exact this)
      clear hcut hti hlast hlt hlt' hm
      go_upto_region 18 with fail
      (refine wp_region_held_drew (S := (fun Wq => Wq.cell? ⟨b, off + m * 5, none⟩ = some (.int .i64 G.kind) ∧ Wq.cell? ⟨b, off + m * 5 + 1, none⟩ = some (.string G.name) ∧ Wq.cell? ⟨b, off + m * 5 + 2, none⟩ = some (.slice A1 G.kids.length c1) ∧ Wq.cell? ⟨gG, 0, none⟩ = some (.int .i64 G.kind) ∧ Wq.cell? ⟨gG, 1, none⟩ = some (.string G.name) ∧ Wq.cell? ⟨gG, 2, none⟩ = some (.slice A5 G.kids.length C5) ∧ Below w9.heap.size w9 Wq)) (by kernel_rfl) (show _ ∧ _ ∧ _ ∧ _ ∧ _ ∧ _ ∧ _ from ⟨d0, d1, d2, l0, l1, l2, (Below.refl _ w9).drew⟩) (fun hHeld => ?_))
      (refine tkJ 0 _ (h := ?_))
      (refine tkJ 1 _ (h := ?_))
      (refine rdJ 2 (h := fun K hK => ?_); go_simp; go_at_call 15; refine (HRK.out _ (HK9.out.later hHeld.2.2.2.2.2.2) (HD9.out.later hHeld.2.2.2.2.2.2)).mono ?_; rintro e wz2 ⟨rfl, hb4⟩; refine shK hK (held6 hHeld hb4) (h := fun hHeld => ?_); clear hK K)
      (refine tkJ 3 _ (h := ?_))
      (refine tkJ 4 _ (h := ?_))
      (refine tkJ 5 _ (h := ?_))
      (refine rdJ 6 (h := fun K hK => ?_); go_simp; go_at_call 14; refine (HOKC.out _ (HK9.out.later hHeld.2.2.2.2.2.2) (HD9.out.later hHeld.2.2.2.2.2.2)).mono ?_; rintro e wz3 ⟨rfl, hb4⟩; refine shK hK (held6 hHeld hb4) (h := fun hHeld => ?_); clear hK K)
      (refine tkJ 7 _ (h := ?_))
      (refine tkJ 8 _ (h := ?_))
      (refine tkJ 9 _ (h := ?_))
      (refine tkJ 10 _ (h := ?_))
      (refine tkJ 11 _ (h := ?_))
      (refine tkJ 12 _ (h := ?_))
      (refine tkJ 13 _ (h := ?_))
      (refine tkJ 14 _ (h := ?_))
      (refine tkJ 15 _ (h := ?_))
      (refine tkJ 16 _ (h := ?_))
      (refine rdJ 17 (h := fun K hK => ?_); go_simp; go_at_call 25; refine (HSG.out _ _ _ (HTI.out.later hHeld.2.2.2.2.2.2) (HG9.out.later hHeld.2.2.2.2.2.2)).mono ?_; rintro e wz4 ⟨rfl, hb4⟩; refine shK hK (held6 hHeld hb4) (h := fun hHeld => ?_); clear hK K)
      (refine tkJ 18 _ (h := ?_))
      (refine tkJ 19 _ (h := ?_))
      (refine rdJ 20 (h := fun K hK => ?_); go_simp; go_at_call 11; refine (awake _).mono ?_; rintro e wz5 ⟨rfl, hb4⟩; refine shK hK (held6 hHeld hb4) (h := fun hHeld => ?_); clear hK K)
      (refine tkJ 21 _ (h := ?_))
      (refine tkJ 22 _ (h := ?_))
      (refine wpAnyH_done (by kernel_rfl) ?_ _)
      go_wp2_with fail
      go_ret
      exact ⟨rfl, HB8.out.trans ((HB9.out.trans (hHeld.2.2.2.2.2.2.mono HB9.out.size)).mono HB8.out.size)⟩
set_option maxRecDepth 100000 in
theorem walkDeductionMade {H : Type} {enc : TypeId × Value → H} {X Y Z : Prop} (w : World) (v0 : Value) (d0 : DataW H) {b0 : Nat} {p0 : List MemPlace} {r0 : Reach} (hv0 : Value.okWide Tryz.prog w r0 b0 22 v0) (hd0 : DataW.Trod enc Tryz.prog w 0 (fun _ => true) true 22 v0 d0 p0)
    (v1 : Value) (d1 : DataW H) {b1 : Nat} {p1 : List MemPlace} {r1 : Reach} (hv1 : Value.okWide Tryz.prog w r1 b1 22 v1) (hd1 : DataW.Trod enc Tryz.prog w 0 (fun _ => true) true 22 v1 d1 p1) (x : Int) (w3 : (Lit.int .i64 x).wf = true) (_hsz : X) (_hL : Y) (_hsh : Z) :
    Calls Tryz.prog 5 #[v0, v1, .int .i64 x] w fun e w' => e = .returned (.bool true) ∧ Below w.heap.size w w' := by
  obtain ⟨A1, n1, c1, rfl, a1, a2, a3⟩ := open_list hv0 hd0
  obtain ⟨A2, n2, c2, rfl, e1, e2, e3⟩ := open_list hv1 hd1
  exact ded_made A1 A2 n1 n2 c1 c2 x w (Nat.le_trans a1 a2) (Nat.le_trans e1 e2) a3 e3 (int_bounds w3)
end Go.Proofs.YtihbmgkbipeakaaGreat
