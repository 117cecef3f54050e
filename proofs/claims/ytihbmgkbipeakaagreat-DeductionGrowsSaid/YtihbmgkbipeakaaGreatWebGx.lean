/- Chapter 41: the walk of the law on growing. -/
import Derived.Test.YtihbmgkbipeakaaGreatWebG23
import Derived.Test.YtihbmgkbipeakaaGreatWebG22
import Derived.Deep.RegionHeld
namespace Go.Proofs.YtihbmgkbipeakaaGreat
open Go.RowKit Go.ChangeShapes Go.WideShapes

theorem KnownAt.src {w : World} {A : Option Addr} {cap : Nat} {L : List T} (h : KnownAt w A cap L) (h0 : 0 < L.length) : ∃ xs, Src w 3 A L.length xs ∧ CT (fun _ => true) w xs L ∧ ∀ u ∈ xs, u.oneCell' = true := by
  obtain ⟨b, off, _, _, rfl, _⟩ := h.get (i := 0) h0
  obtain ⟨xs, h1, h2⟩ := CT.of_term (TermAt.inAll h)
  exact ⟨xs, ⟨h1.1, .inr ⟨b, off, rfl, h2⟩⟩, h1.keep (fun _ _ _ => ⟨rfl, rfl⟩), h1.one'⟩
theorem own_ge {w : World} {base size n c : Nat} {e : TypeId} {A : Option Addr} {xs : List Value} (h : w.ownsRow base e size (.slice A n c) n xs) (h0 : 0 < n) : ∀ k, (Value.slice A n c).ownBlock = some k → base ≤ k := by
  obtain ⟨b, cap, e, hb⟩ := h.form h0
  injection e with e1 _ _
  subst e1
  intro k hk
  have e' : b = k := Option.some.inj hk
  omega
theorem KnownAt.both {wE w8 : World} {B n8 c8 : Nat} {A8 : Option Addr} {xs2 xs1 : List Value} {M K : List T} (hown : w8.ownsRow B 29 3 (.slice A8 n8 c8) n8 (xs2 ++ xs1)) (hb : Below wE.heap.size wE w8)
    (h2 : CT (fun _ => true) wE xs2 M) (h1 : CT (fun _ => true) wE xs1 K) (hn : n8 = (M ++ K).length) (h0 : 0 < n8) : KnownAt w8 A8 c8 (M ++ K) := by
  obtain ⟨b, cap, e, _⟩ := hown.form h0
  injection e with e1 e2 e3
  subst e1; subst e3
  have hct := (h2.append h1).keep (w' := w8) (S' := fun _ => true) fun b _ hl => ⟨rfl, hb.block b hl⟩
  have hcc : n8 ≤ c8 ∧ c8 ≤ maxLen := by
    rcases hown.2 with ⟨e, _⟩ | ⟨g, cap', cur, e, _, _, hc, hm, _⟩
    · injection e with e _ _; cases e
    · injection e with _ _ e
      subst e; exact ⟨hc, hm⟩
  subst hn
  exact (CT.term (b := b) hct (fun j u hu => by
    have hj := (List.getElem?_eq_some_iff.1 hu).1
    have hl := hct.1
    rw [hown.cellAt j (by omega)]; exact hu) rfl 0 ⟨#[]⟩ (by decide) (by decide) hcc.1 hcc.2).at

set_option maxRecDepth 100000 in
set_option maxHeartbeats 16000000 in
theorem ded_grows (A1 A2 A3 : Option Addr) (n1 n2 n3 c1 c2 c3 : Nat) (x : Int) (w : World) (hn1 : n1 ≤ maxLen) (hn2 : n2 ≤ maxLen) (hn3 : n3 ≤ maxLen) (hl1 : ListAt w A1 n1) (hl2 : ListAt w A2 n2) (hl3 : ListAt w A3 n3) (hx : -9223372036854775808 ≤ x ∧ x ≤ 9223372036854775807) :
    Calls Tryz.prog 6 #[.slice A1 n1 c1, .slice A2 n2 c2, .slice A3 n3 c3, .int .i64 x] w fun e w' => e = .returned (.bool true) ∧ Below w.heap.size w w' := by
  have HL1 := Lib.hid (fun W => made_light A1 n1 c1 W hn1); have HL2 := Lib.hid (fun W => made_light A2 n2 c2 W hn2); have HL3 := Lib.hid (fun W => made_light A3 n3 c3 W hn3)
  obtain ⟨q1, hq1⟩ : ∃ q, decide (n1 ≤ 80) = q := ⟨_, rfl⟩
  obtain ⟨q2, hq2⟩ : ∃ q, decide (n2 ≤ 80) = q := ⟨_, rfl⟩
  obtain ⟨q3, hq3⟩ : ∃ q, decide (n3 ≤ 80) = q := ⟨_, rfl⟩
  rw [hq1] at HL1; rw [hq2] at HL2; rw [hq3] at HL3
  have HLA1 := Lib.hid hl1; have HLA2 := Lib.hid hl2; have HLA3 := Lib.hid hl3; have HX := Lib.hid hx
  obtain ⟨i0, hi0, hz0, hz1, hz2⟩ := info_parts Tryz.infoT
  clear hl1 hl2 hl3 hx hn1 hn2 hn3
  go_enter Tryz.func6, Tryz.ntmps6
  go_wp2_with fail
  refine (HL1.out _).mono ?_; rintro e w1 ⟨rfl, rfl⟩
  cases q1
  · go_wp2_with fail
    refine (awake _).mono ?_; rintro e w3 ⟨rfl, hb⟩
    have HB := Lib.hid hb
    clear hb
    go_wp2_with fail
    go_ret
    exact ⟨rfl, HB.out⟩
  go_wp2_with fail
  refine (HL2.out _).mono ?_; rintro e w1 ⟨rfl, rfl⟩
  cases q2
  · go_wp2_with fail
    refine (awake _).mono ?_; rintro e w3 ⟨rfl, hb⟩
    have HB := Lib.hid hb
    clear hb
    go_wp2_with fail
    go_ret
    exact ⟨rfl, HB.out⟩
  go_wp2_with fail
  refine (HL3.out _).mono ?_; rintro e w1 ⟨rfl, rfl⟩
  cases q3
  · go_wp2_with fail
    refine (awake _).mono ?_; rintro e w3 ⟨rfl, hb⟩
    have HB := Lib.hid hb
    clear hb
    go_wp2_with fail
    go_ret
    exact ⟨rfl, HB.out⟩
  have HQ1 := Lib.hid (of_decide_eq_true hq1); have HQ2 := Lib.hid (of_decide_eq_true hq2); have HQ3 := Lib.hid (of_decide_eq_true hq3)
  clear hq1 hq2 hq3 HL1 HL2 HL3
  go_wp2_with fail
  refine (made_known A1 n1 c1 _ HQ1.out HLA1.out).mono ?_; rintro e w2 ⟨v1, K, B1, rfl, _, _, hr1, hK1, hK7, hKm, hb2⟩
  obtain ⟨Ak, ck, rfl, _, _⟩ := hr1.shape
  have HK2 := Lib.hid (show KnownAt w2 Ak ck K from (TermsRow.term hr1 0 ⟨#[]⟩ (by decide) (by decide)).at)
  have HLB2 := Lib.hid (HLA2.out.below hb2); have HLB3 := Lib.hid (HLA3.out.below hb2); have HB2 := Lib.hid hb2; have HKM := Lib.hid hKm
  clear hr1 hKm hb2 HLA1 HLA2 HLA3
  go_wp2_with fail
  refine (made_known A2 n2 c2 _ HQ2.out HLB2.out).mono ?_; rintro e w3 ⟨v2, M, B2, rfl, _, _, hr2, hM1, hM7, hMm, hb3⟩
  obtain ⟨Am, cm, rfl, _, _⟩ := hr2.shape
  have HM3 := Lib.hid (show KnownAt w3 Am cm M from (TermsRow.term hr2 0 ⟨#[]⟩ (by decide) (by decide)).at)
  have HK3 := Lib.hid (HK2.out.later hb3); have HLC3 := Lib.hid (HLB3.out.below hb3); have HB3 := Lib.hid (HB2.out.trans (hb3.mono HB2.out.size)); have HMM := Lib.hid hMm
  clear hr2 hMm hb3 HK2 HLB2 HLB3 HB2
  go_upto_region 4 with fail
  go_wp2_with fail
  refine (made_roll A3 n3 c3 _ HQ3.out HLC3.out).mono ?_; rintro e w4 ⟨g, hg, rfl, hd, hb4⟩
  have HD := Lib.hid hd; have HB4 := Lib.hid hb4; have HG := Lib.hid hg
  clear hd hb4 hg
  go_wp2_with fail
  refine (made_term 0 3 (by omega) (by omega) g g _ HD.out).mono ?_; rintro e w5 ⟨G, A5, C5, hmd, rfl, hti, _, hg5⟩
  have hb5 : Below w3.heap.size w3 w5 := HB4.out.grown hg5 HB4.out.size (fun k hk => by have e' : g = k := Option.some.inj hk; have := HG.out; omega)
  have hwx := below_alloc1 w5 (.cells #[.int .i64 G.kind, .string G.name, .slice A5 G.kids.length C5] 29)
  have hbx := Box.new w5 (.int .i64 G.kind) (.string G.name) (.slice A5 G.kids.length C5)
  have hb6 := hb5.trans (hwx.mono hb5.size)
  have HK6 := Lib.hid (HK3.out.later hb6); have HM6 := Lib.hid (HM3.out.later hb6); have HG6 := Lib.hid (hti.at.later hwx); have HB6 := Lib.hid (HB3.out.trans (hb6.mono HB3.out.size)); have HMD := Lib.hid hmd
  clear hb5 hwx hb6 hti hg5 hmd HK3 HM3 HB3 HB4 HD HG
  go_upto_region 5 with fail
  generalize w5.alloc (.cells #[.int .i64 G.kind, .string G.name, .slice A5 G.kids.length C5] 29) = w6 at hbx HK6 HM6 HG6 HB6 ⊢
  generalize w5.heap.size = gG at hbx ⊢
  have HBX := Lib.hid hbx
  clear hbx
  obtain ⟨U, hU, hbU, hKU, hAU, hGU⟩ := uni_grow (K := K) (M := M) (G := G) (by omega) (by omega) (fun t ht => by
    rcases List.mem_cons.1 ht with rfl | ht
    · have := HMD.out.bulk (by omega); omega
    · rcases List.mem_append.1 ht with ht | ht
      · have := (HMM.out t ht).bulk (by omega); omega
      · have := (HKM.out t ht).bulk (by omega); omega)
  have HKB := Lib.hid (show ∀ t ∈ K, t.bulk ≤ 1048576 from fun t ht => by have := (HKM.out t ht).bulk (by omega); omega)
  have HMB := Lib.hid (show ∀ t ∈ M ++ K, t.bulk ≤ 1048576 from fun t ht => by
    rcases List.mem_append.1 ht with ht | ht
    · have := (HMM.out t ht).bulk (by omega); omega
    · have := (HKM.out t ht).bulk (by omega); omega)
  have HGB := Lib.hid (show G.bulk ≤ 1048576 by have := HMD.out.bulk (by omega); omega)
  have HU := Lib.hid hU; have HBU := Lib.hid hbU; have HKU := Lib.hid hKU; have HAU := Lib.hid hAU; have HGU := Lib.hid hGU
  clear hU hbU hKU hAU hGU HMM HKM HMD
  go_wp2_with fail
  refine (oclose HU.out HBU.out K Ak ck _ HK6.out HKB.out HKU.out).mono ?_; rintro e w7 ⟨Ac, cc, c, rfl, hcl, _, hkc, hb7⟩
  have HCL := Lib.hid hcl; have HC7 := Lib.hid hkc; have HB7 := Lib.hid (HB6.out.trans (hb7.mono HB6.out.size)); have HK7 := Lib.hid (HK6.out.later hb7); have HM7 := Lib.hid (HM6.out.later hb7); have HG7 := Lib.hid (HG6.out.later hb7); have HBX7 := Lib.hid (HBX.out.later hb7)
  clear hcl hkc hb7 HB6 HK6 HM6 HG6 HBX
  obtain ⟨m, hm⟩ : ∃ m, c.length = m := ⟨_, rfl⟩
  have HMC := Lib.hid hm
  rw [hm]
  clear hm
  by_cases h0 : m = 0
  · subst h0
    go_wp2_with fail
    refine (awake _).mono ?_; rintro e w8 ⟨rfl, hb⟩
    have HB := Lib.hid (HB7.out.trans (hb.mono HB7.out.size))
    clear hb
    go_wp2_with fail
    go_ret
    exact ⟨rfl, HB.out⟩
  have h0' : ((m : Int) == 0) = false := by rw [beq_eq_false_iff_ne]; omega
  by_cases h64 : 64 < m
  · have h64' : (64 : Int) < (m : Int) := by omega
    go_wp2_with fail
    refine (awake _).mono ?_; rintro e w8 ⟨rfl, hb⟩
    have HB := Lib.hid (HB7.out.trans (hb.mono HB7.out.size))
    clear hb
    go_wp2_with fail
    go_ret
    exact ⟨rfl, HB.out⟩
  have h64' : ¬ (64 : Int) < (m : Int) := by omega
  go_upto_region 8 with fail
  obtain ⟨xs2, hs2, ht2, ho2⟩ := HM7.out.src hM1
  obtain ⟨xs1, hs1, ht1, ho1⟩ := HK7.out.src hK1
  have hwe := below_alloc1 w7 (.cells #[] 29)
  have HS2 := Lib.hid (hs2.later hwe); have HT2 := Lib.hid ht2; have HT1 := Lib.hid ht1; have HO2 := Lib.hid ho2; have HO1 := Lib.hid ho1
  have HS1 := Lib.hid hs1
  have HOWNE := Lib.hid (World.ownsRow_made (size := 3) (e := 29) w7 #[] 0 (base := w7.heap.size) (Nat.le_refl _) (Nat.zero_le _) rfl)
  have HWE := Lib.hid hwe
  clear hs2 hs1 ht2 ht1 ho2 ho1 hwe
  go_wp2_with (first | (at_builtin; refine wpList_append_src _ rfl _ _ 27 rfl w7.heap.size 29 i0 _ 3 48 Tryz.underlying27 hi0 hz0 hz1 hz2 rfl (by omega) _ 0 [] rfl HOWNE.out _ M.length cm xs2 rfl HS2.out HO2.out (by unfold maxLen; omega) (by omega) (by rw [size_alloc1]; omega) ?_; intro A8 c8 w8 hown8 hg8 hat8; simp only [Nat.zero_add, List.nil_append] at hown8 ⊢; have HOWN8 := Lib.hid hown8; have HGE8 := Lib.hid (own_ge hown8 hM1); have HB8 := Lib.hid (show Below w7.heap.size w7 w8 from HWE.out.grown hg8 (by rw [size_alloc1]; omega) (fun k hk => by have e : w7.heap.size = k := Option.some.inj hk; omega)); have HS8 := Lib.hid (HS1.out.later HB8.out); clear hown8 hg8 hat8) | (at_builtin; refine wpList_append_src _ rfl _ _ 27 rfl w7.heap.size 29 i0 _ 3 48 Tryz.underlying27 hi0 hz0 hz1 hz2 rfl (by omega) _ M.length xs2 rfl HOWN8.out _ K.length ck xs1 rfl HS8.out HO1.out (by unfold maxLen; omega) (by omega) HB8.out.size ?_; intro A9 c9 w9 hown9 hg9 hat9; have HB9 := Lib.hid (HB8.out.grown hg9 HB8.out.size HGE8.out); have HALL := Lib.hid (KnownAt.both hown9 HB9.out HT2.out HT1.out (by rw [List.length_append]) (by omega)); clear hown9 hg9 hat9))
  clear HOWNE HWE HS1 HS2 HS8 HT1 HT2 HO1 HO2 HOWN8 HGE8 HB8
  have HBW9 := Lib.hid (HB7.out.trans (HB9.out.mono HB7.out.size))
  have HK9 := Lib.hid (HK7.out.later HB9.out); have HG9 := Lib.hid (HG7.out.later HB9.out); have HBX9 := Lib.hid (HBX7.out.later HB9.out); have HC9 := Lib.hid (HC7.out.later HB9.out)
  clear HB7 HK7 HM7 HG7 HBX7 HC7 HB9
  refine (made_mod x (m : Int) _ HX.out.1 HX.out.2 (by omega) (by omega)).mono ?_; rintro e w0 ⟨rfl, rfl⟩
  obtain ⟨i, hi, him⟩ : ∃ i : Nat, x % (m : Int) = (i : Int) ∧ i < m := by
    have h1 := Int.emod_nonneg x (b := (m : Int)) (by omega)
    have h2 := Int.emod_lt_of_pos x (b := (m : Int)) (by omega)
    exact ⟨(x % (m : Int)).toNat, by omega, by omega⟩
  rw [hi]
  clear hi
  have hic : i < c.length := by rw [HMC.out]; exact him
  obtain ⟨bc, oc, Ax, cx, rfl, d0, d1, d2, hxt⟩ := HC9.out.get hic
  have hym : c[i] ∈ c := List.getElem_mem hic
  generalize c[i] = y at d0 d1 d2 hxt hym
  have hi1 : (0 : Int) ≤ (i : Int) ∧ (i : Int) < (m : Int) := by omega
  obtain ⟨hi1, hi2⟩ := hi1
  have hi3 : (i : Int) ≤ 64 := by omega
  have hwx := below_alloc1 w9 (.cells #[.int .i64 y.kind, .string y.name, .slice Ax y.kids.length cx] 29)
  have hbx := Box.new w9 (.int .i64 y.kind) (.string y.name) (.slice Ax y.kids.length cx)
  have HYM := Lib.hid hym; have HX10 := Lib.hid (hxt.later hwx); have HK10 := Lib.hid (HK9.out.later hwx); have HG10 := Lib.hid (HG9.out.later hwx); have HC10' := HC9.out.later hwx; have HALL10 := Lib.hid (HALL.out.later hwx); have HB10 := Lib.hid (HBW9.out.trans (hwx.mono HBW9.out.size)); have hbg := HBX9.out.later hwx
  have HC10 := Lib.hid HC10'
  clear hxt hym hwx HC10' HBX9 HC9 HALL HBW9 HK9 HG9
  go_upto_region 10 with fail
  generalize w9.alloc (.cells #[.int .i64 y.kind, .string y.name, .slice Ax y.kids.length cx] 29) = w10 at hbx hbg HX10 HK10 HG10 HC10 HALL10 HB10 ⊢
  generalize w9.heap.size = gX at hbx ⊢
  obtain ⟨g0, g1, g2⟩ := hbg.cells
  obtain ⟨x0, x1, x2⟩ := hbx.cells
  have hcp := can_part HU.out HKU.out HCL.out HYM.out
  have hc64 : c.length ≤ 64 := by rw [HMC.out]; omega
  obtain ⟨a, ha⟩ : ∃ a, canB (Wb.fill U.length (cnt K)) G = a := ⟨_, rfl⟩
  have HF1 := Lib.hid (show ∀ v W, KnownAt W Ak ck K → TermAt W v G → Calls Tryz.prog 19 #[.slice Ak K.length ck, v] W fun e w' => e = .returned (.bool a) ∧ Below W.heap.size W w' from fun v W hk hg => by
    have := ocan HU.out HBU.out K Ak ck G v W hk HKB.out HKU.out hg HGB.out HGU.out
    rw [ha] at this; exact this)
  have HF3 := Lib.hid (show ∀ v W, KnownAt W Ak ck K → TermAt W v y → Calls Tryz.prog 19 #[.slice Ak K.length ck, v] W fun e w' => e = .returned (.bool true) ∧ Below W.heap.size W w' from fun v W hk hg => by
    have := ocan HU.out HBU.out K Ak ck y v W hk HKB.out HKU.out hg (HBU.out y hcp.2) (fun _ => hcp.2)
    rw [hcp.1] at this; exact this)
  have HF4 := Lib.hid (show ∀ v W, KnownAt W (some ⟨bc, oc, none⟩) cc c → TermAt W v G → Calls Tryz.prog 19 #[.slice (some ⟨bc, oc, none⟩) m cc, v] W fun e w' => e = .returned (.bool a) ∧ Below W.heap.size W w' from fun v W hk hg => by
    have := ocan HU.out HBU.out c (some ⟨bc, oc, none⟩) cc G v W hk (fun t ht => HBU.out t (can_part HU.out HKU.out HCL.out ht).2) (fun t ht => (can_part HU.out HKU.out HCL.out (mem_of_cnt t ht)).2) hg HGB.out HGU.out
    rw [can_parts HU.out HKU.out HCL.out hc64 HGU.out, ha, HMC.out] at this; exact this)
  have HF2 := Lib.hid (show a = true → ∀ v W, KnownAt W A9 c9 (M ++ K) → TermAt W v G → Calls Tryz.prog 19 #[.slice A9 (M.length + K.length) c9, v] W fun e w' => e = .returned (.bool true) ∧ Below W.heap.size W w' from fun hat v W hk hg => by
    have := ocan HU.out HBU.out (M ++ K) A9 c9 G v W hk HMB.out HAU.out hg HGB.out HGU.out
    rw [can_more HU.out (by omega) HAU.out HGU.out (ha.trans hat), List.length_append] at this; exact this)
  clear hbx hbg hcp hc64 ha d0 d1 d2 hic HYM
  cases a with
  | false =>
    clear HF2
    (refine wp_region_held_drew (S := (fun Wq => Wq.cell? ⟨gG, 0, none⟩ = some (.int .i64 G.kind) ∧ Wq.cell? ⟨gG, 1, none⟩ = some (.string G.name) ∧ Wq.cell? ⟨gG, 2, none⟩ = some (.slice A5 G.kids.length C5) ∧ Wq.cell? ⟨gX, 0, none⟩ = some (.int .i64 y.kind) ∧ Wq.cell? ⟨gX, 1, none⟩ = some (.string y.name) ∧ Wq.cell? ⟨gX, 2, none⟩ = some (.slice Ax y.kids.length cx) ∧ Below w10.heap.size w10 Wq)) (by kernel_rfl) (show _ ∧ _ ∧ _ ∧ _ ∧ _ ∧ _ ∧ _ from ⟨g0, g1, g2, x0, x1, x2, (Below.refl _ w10).drew⟩) (fun hHeld => ?_))
    (refine wpAnyH_ready (rs := [0]) (by kernel_rfl) (by simp) ?_; refine AllReadyH.cons (by simp only [List.getElem?_toArray, List.getElem?_cons_zero]; rfl) (fun K hK => ?_) AllReadyH.nil; go_simp; go_at_call 11; refine (awake _).mono ?_; rintro e wz ⟨rfl, hb4⟩; refine hK.out _ _ (⟨cell_later hb4 hHeld.1, cell_later hb4 hHeld.2.1, cell_later hb4 hHeld.2.2.1, cell_later hb4 hHeld.2.2.2.1, cell_later hb4 hHeld.2.2.2.2.1, cell_later hb4 hHeld.2.2.2.2.2.1, hHeld.2.2.2.2.2.2.trans (hb4.mono hHeld.2.2.2.2.2.2.size)⟩) (fun hHeld => ?_); clear hK K; (try simp only [Act.put, List.setIfInBounds_toArray, List.set_cons_zero, List.set_cons_succ]))
    ((first | (refine wpAnyH_take (i := 1) (v := ?_) (by simp only [List.getElem?_toArray, List.getElem?_cons_succ, List.getElem?_cons_zero]; rfl) (by kernel_rfl) (by kernel_rfl) (by kernel_rfl) (by exact fun _ _ _ h => h) (Or.inl ⟨by rfl, ?_⟩) (by assumption) ?_; rotate_left 1; · (intro w hSw; (try dsimp only at hSw); go_simp; (try with_reducible rfl))) | (refine wpAnyH_take (i := 1) (v := undef) (by simp only [List.getElem?_toArray, List.getElem?_cons_succ, List.getElem?_cons_zero]; rfl) (by kernel_rfl) (by kernel_rfl) (by kernel_rfl) (by exact fun _ _ _ h => h) (Or.inr ⟨by rfl, rfl⟩) (by assumption) ?_)); (try simp only [Act.put, List.setIfInBounds_toArray, List.set_cons_zero, List.set_cons_succ]))
    ((first | (refine wpAnyH_take (i := 2) (v := ?_) (by simp only [List.getElem?_toArray, List.getElem?_cons_succ, List.getElem?_cons_zero]; rfl) (by kernel_rfl) (by kernel_rfl) (by kernel_rfl) (by exact fun _ _ _ h => h) (Or.inl ⟨by rfl, ?_⟩) (by assumption) ?_; rotate_left 1; · (intro w hSw; (try dsimp only at hSw); go_simp; (try with_reducible rfl))) | (refine wpAnyH_take (i := 2) (v := undef) (by simp only [List.getElem?_toArray, List.getElem?_cons_succ, List.getElem?_cons_zero]; rfl) (by kernel_rfl) (by kernel_rfl) (by kernel_rfl) (by exact fun _ _ _ h => h) (Or.inr ⟨by rfl, rfl⟩) (by assumption) ?_)); (try simp only [Act.put, List.setIfInBounds_toArray, List.set_cons_zero, List.set_cons_succ]))
    ((first | (refine wpAnyH_take (i := 3) (v := ?_) (by simp only [List.getElem?_toArray, List.getElem?_cons_succ, List.getElem?_cons_zero]; rfl) (by kernel_rfl) (by kernel_rfl) (by kernel_rfl) (by exact fun _ _ _ h => h) (Or.inl ⟨by rfl, ?_⟩) (by assumption) ?_; rotate_left 1; · (intro w hSw; (try dsimp only at hSw); go_simp; (try with_reducible rfl))) | (refine wpAnyH_take (i := 3) (v := undef) (by simp only [List.getElem?_toArray, List.getElem?_cons_succ, List.getElem?_cons_zero]; rfl) (by kernel_rfl) (by kernel_rfl) (by kernel_rfl) (by exact fun _ _ _ h => h) (Or.inr ⟨by rfl, rfl⟩) (by assumption) ?_)); (try simp only [Act.put, List.setIfInBounds_toArray, List.set_cons_zero, List.set_cons_succ]))
    (refine wpAnyH_ready (rs := [4]) (by kernel_rfl) (by simp) ?_; refine AllReadyH.cons (by simp only [List.getElem?_toArray, List.getElem?_cons_succ, List.getElem?_cons_zero]; rfl) (fun K hK => ?_) AllReadyH.nil; go_simp; go_at_call 19; refine (HF1.out _ _ (HK10.out.later hHeld.2.2.2.2.2.2) (HG10.out.later hHeld.2.2.2.2.2.2)).mono ?_; rintro e wz ⟨rfl, hb4⟩; refine hK.out _ _ (⟨cell_later hb4 hHeld.1, cell_later hb4 hHeld.2.1, cell_later hb4 hHeld.2.2.1, cell_later hb4 hHeld.2.2.2.1, cell_later hb4 hHeld.2.2.2.2.1, cell_later hb4 hHeld.2.2.2.2.2.1, hHeld.2.2.2.2.2.2.trans (hb4.mono hHeld.2.2.2.2.2.2.size)⟩) (fun hHeld => ?_); clear hK K; (try simp only [Act.put, List.setIfInBounds_toArray, List.set_cons_zero, List.set_cons_succ]))
    ((first | (refine wpAnyH_take (i := 5) (v := ?_) (by simp only [List.getElem?_toArray, List.getElem?_cons_succ, List.getElem?_cons_zero]; rfl) (by kernel_rfl) (by kernel_rfl) (by kernel_rfl) (by exact fun _ _ _ h => h) (Or.inl ⟨by rfl, ?_⟩) (by assumption) ?_; rotate_left 1; · (intro w hSw; (try dsimp only at hSw); go_simp; (try with_reducible rfl))) | (refine wpAnyH_take (i := 5) (v := undef) (by simp only [List.getElem?_toArray, List.getElem?_cons_succ, List.getElem?_cons_zero]; rfl) (by kernel_rfl) (by kernel_rfl) (by kernel_rfl) (by exact fun _ _ _ h => h) (Or.inr ⟨by rfl, rfl⟩) (by assumption) ?_)); (try simp only [Act.put, List.setIfInBounds_toArray, List.set_cons_zero, List.set_cons_succ]))
    ((first | (refine wpAnyH_take (i := 6) (v := ?_) (by simp only [List.getElem?_toArray, List.getElem?_cons_succ, List.getElem?_cons_zero]; rfl) (by kernel_rfl) (by kernel_rfl) (by kernel_rfl) (by exact fun _ _ _ h => h) (Or.inl ⟨by rfl, ?_⟩) (by assumption) ?_; rotate_left 1; · (intro w hSw; (try dsimp only at hSw); go_simp; (try with_reducible rfl))) | (refine wpAnyH_take (i := 6) (v := undef) (by simp only [List.getElem?_toArray, List.getElem?_cons_succ, List.getElem?_cons_zero]; rfl) (by kernel_rfl) (by kernel_rfl) (by kernel_rfl) (by exact fun _ _ _ h => h) (Or.inr ⟨by rfl, rfl⟩) (by assumption) ?_)); (try simp only [Act.put, List.setIfInBounds_toArray, List.set_cons_zero, List.set_cons_succ]))
    ((first | (refine wpAnyH_take (i := 7) (v := ?_) (by simp only [List.getElem?_toArray, List.getElem?_cons_succ, List.getElem?_cons_zero]; rfl) (by kernel_rfl) (by kernel_rfl) (by kernel_rfl) (by exact fun _ _ _ h => h) (Or.inl ⟨by rfl, ?_⟩) (by assumption) ?_; rotate_left 1; · (intro w hSw; (try dsimp only at hSw); go_simp; (try with_reducible rfl))) | (refine wpAnyH_take (i := 7) (v := undef) (by simp only [List.getElem?_toArray, List.getElem?_cons_succ, List.getElem?_cons_zero]; rfl) (by kernel_rfl) (by kernel_rfl) (by kernel_rfl) (by exact fun _ _ _ h => h) (Or.inr ⟨by rfl, rfl⟩) (by assumption) ?_)); (try simp only [Act.put, List.setIfInBounds_toArray, List.set_cons_zero, List.set_cons_succ]))
    ((first | (refine wpAnyH_take (i := 8) (v := ?_) (by simp only [List.getElem?_toArray, List.getElem?_cons_succ, List.getElem?_cons_zero]; rfl) (by kernel_rfl) (by kernel_rfl) (by kernel_rfl) (by exact fun _ _ _ h => h) (Or.inl ⟨by rfl, ?_⟩) (by assumption) ?_; rotate_left 1; · (intro w hSw; (try dsimp only at hSw); go_simp; (try with_reducible rfl))) | (refine wpAnyH_take (i := 8) (v := undef) (by simp only [List.getElem?_toArray, List.getElem?_cons_succ, List.getElem?_cons_zero]; rfl) (by kernel_rfl) (by kernel_rfl) (by kernel_rfl) (by exact fun _ _ _ h => h) (Or.inr ⟨by rfl, rfl⟩) (by assumption) ?_)); (try simp only [Act.put, List.setIfInBounds_toArray, List.set_cons_zero, List.set_cons_succ]))
    ((first | (refine wpAnyH_take (i := 9) (v := ?_) (by simp only [List.getElem?_toArray, List.getElem?_cons_succ, List.getElem?_cons_zero]; rfl) (by kernel_rfl) (by kernel_rfl) (by kernel_rfl) (by exact fun _ _ _ h => h) (Or.inl ⟨by rfl, ?_⟩) (by assumption) ?_; rotate_left 1; · (intro w hSw; (try dsimp only at hSw); go_simp; (try with_reducible rfl))) | (refine wpAnyH_take (i := 9) (v := undef) (by simp only [List.getElem?_toArray, List.getElem?_cons_succ, List.getElem?_cons_zero]; rfl) (by kernel_rfl) (by kernel_rfl) (by kernel_rfl) (by exact fun _ _ _ h => h) (Or.inr ⟨by rfl, rfl⟩) (by assumption) ?_)); (try simp only [Act.put, List.setIfInBounds_toArray, List.set_cons_zero, List.set_cons_succ]))
    ((first | (refine wpAnyH_take (i := 10) (v := ?_) (by simp only [List.getElem?_toArray, List.getElem?_cons_succ, List.getElem?_cons_zero]; rfl) (by kernel_rfl) (by kernel_rfl) (by kernel_rfl) (by exact fun _ _ _ h => h) (Or.inl ⟨by rfl, ?_⟩) (by assumption) ?_; rotate_left 1; · (intro w hSw; (try dsimp only at hSw); go_simp; (try with_reducible rfl))) | (refine wpAnyH_take (i := 10) (v := undef) (by simp only [List.getElem?_toArray, List.getElem?_cons_succ, List.getElem?_cons_zero]; rfl) (by kernel_rfl) (by kernel_rfl) (by kernel_rfl) (by exact fun _ _ _ h => h) (Or.inr ⟨by rfl, rfl⟩) (by assumption) ?_)); (try simp only [Act.put, List.setIfInBounds_toArray, List.set_cons_zero, List.set_cons_succ]))
    ((first | (refine wpAnyH_take (i := 11) (v := ?_) (by simp only [List.getElem?_toArray, List.getElem?_cons_succ, List.getElem?_cons_zero]; rfl) (by kernel_rfl) (by kernel_rfl) (by kernel_rfl) (by exact fun _ _ _ h => h) (Or.inl ⟨by rfl, ?_⟩) (by assumption) ?_; rotate_left 1; · (intro w hSw; (try dsimp only at hSw); go_simp; (try with_reducible rfl))) | (refine wpAnyH_take (i := 11) (v := undef) (by simp only [List.getElem?_toArray, List.getElem?_cons_succ, List.getElem?_cons_zero]; rfl) (by kernel_rfl) (by kernel_rfl) (by kernel_rfl) (by exact fun _ _ _ h => h) (Or.inr ⟨by rfl, rfl⟩) (by assumption) ?_)); (try simp only [Act.put, List.setIfInBounds_toArray, List.set_cons_zero, List.set_cons_succ]))
    ((first | (refine wpAnyH_take (i := 12) (v := ?_) (by simp only [List.getElem?_toArray, List.getElem?_cons_succ, List.getElem?_cons_zero]; rfl) (by kernel_rfl) (by kernel_rfl) (by kernel_rfl) (by exact fun _ _ _ h => h) (Or.inl ⟨by rfl, ?_⟩) (by assumption) ?_; rotate_left 1; · (intro w hSw; (try dsimp only at hSw); go_simp; (try with_reducible rfl))) | (refine wpAnyH_take (i := 12) (v := undef) (by simp only [List.getElem?_toArray, List.getElem?_cons_succ, List.getElem?_cons_zero]; rfl) (by kernel_rfl) (by kernel_rfl) (by kernel_rfl) (by exact fun _ _ _ h => h) (Or.inr ⟨by rfl, rfl⟩) (by assumption) ?_)); (try simp only [Act.put, List.setIfInBounds_toArray, List.set_cons_zero, List.set_cons_succ]))
    ((first | (refine wpAnyH_take (i := 13) (v := ?_) (by simp only [List.getElem?_toArray, List.getElem?_cons_succ, List.getElem?_cons_zero]; rfl) (by kernel_rfl) (by kernel_rfl) (by kernel_rfl) (by exact fun _ _ _ h => h) (Or.inl ⟨by rfl, ?_⟩) (by assumption) ?_; rotate_left 1; · (intro w hSw; (try dsimp only at hSw); go_simp; (try with_reducible rfl))) | (refine wpAnyH_take (i := 13) (v := undef) (by simp only [List.getElem?_toArray, List.getElem?_cons_succ, List.getElem?_cons_zero]; rfl) (by kernel_rfl) (by kernel_rfl) (by kernel_rfl) (by exact fun _ _ _ h => h) (Or.inr ⟨by rfl, rfl⟩) (by assumption) ?_)); (try simp only [Act.put, List.setIfInBounds_toArray, List.set_cons_zero, List.set_cons_succ]))
    ((first | (refine wpAnyH_take (i := 14) (v := ?_) (by simp only [List.getElem?_toArray, List.getElem?_cons_succ, List.getElem?_cons_zero]; rfl) (by kernel_rfl) (by kernel_rfl) (by kernel_rfl) (by exact fun _ _ _ h => h) (Or.inl ⟨by rfl, ?_⟩) (by assumption) ?_; rotate_left 1; · (intro w hSw; (try dsimp only at hSw); go_simp; (try with_reducible rfl))) | (refine wpAnyH_take (i := 14) (v := undef) (by simp only [List.getElem?_toArray, List.getElem?_cons_succ, List.getElem?_cons_zero]; rfl) (by kernel_rfl) (by kernel_rfl) (by kernel_rfl) (by exact fun _ _ _ h => h) (Or.inr ⟨by rfl, rfl⟩) (by assumption) ?_)); (try simp only [Act.put, List.setIfInBounds_toArray, List.set_cons_zero, List.set_cons_succ]))
    (refine wpAnyH_ready (rs := [15]) (by kernel_rfl) (by simp) ?_; refine AllReadyH.cons (by simp only [List.getElem?_toArray, List.getElem?_cons_succ, List.getElem?_cons_zero]; rfl) (fun K hK => ?_) AllReadyH.nil; go_simp; go_at_call 19; refine (HF3.out _ _ (HK10.out.later hHeld.2.2.2.2.2.2) (HX10.out.later hHeld.2.2.2.2.2.2)).mono ?_; rintro e wz ⟨rfl, hb4⟩; refine hK.out _ _ (⟨cell_later hb4 hHeld.1, cell_later hb4 hHeld.2.1, cell_later hb4 hHeld.2.2.1, cell_later hb4 hHeld.2.2.2.1, cell_later hb4 hHeld.2.2.2.2.1, cell_later hb4 hHeld.2.2.2.2.2.1, hHeld.2.2.2.2.2.2.trans (hb4.mono hHeld.2.2.2.2.2.2.size)⟩) (fun hHeld => ?_); clear hK K; (try simp only [Act.put, List.setIfInBounds_toArray, List.set_cons_zero, List.set_cons_succ]))
    ((first | (refine wpAnyH_take (i := 16) (v := ?_) (by simp only [List.getElem?_toArray, List.getElem?_cons_succ, List.getElem?_cons_zero]; rfl) (by kernel_rfl) (by kernel_rfl) (by kernel_rfl) (by exact fun _ _ _ h => h) (Or.inl ⟨by rfl, ?_⟩) (by assumption) ?_; rotate_left 1; · (intro w hSw; (try dsimp only at hSw); go_simp; (try with_reducible rfl))) | (refine wpAnyH_take (i := 16) (v := undef) (by simp only [List.getElem?_toArray, List.getElem?_cons_succ, List.getElem?_cons_zero]; rfl) (by kernel_rfl) (by kernel_rfl) (by kernel_rfl) (by exact fun _ _ _ h => h) (Or.inr ⟨by rfl, rfl⟩) (by assumption) ?_)); (try simp only [Act.put, List.setIfInBounds_toArray, List.set_cons_zero, List.set_cons_succ]))
    ((first | (refine wpAnyH_take (i := 17) (v := ?_) (by simp only [List.getElem?_toArray, List.getElem?_cons_succ, List.getElem?_cons_zero]; rfl) (by kernel_rfl) (by kernel_rfl) (by kernel_rfl) (by exact fun _ _ _ h => h) (Or.inl ⟨by rfl, ?_⟩) (by assumption) ?_; rotate_left 1; · (intro w hSw; (try dsimp only at hSw); go_simp; (try with_reducible rfl))) | (refine wpAnyH_take (i := 17) (v := undef) (by simp only [List.getElem?_toArray, List.getElem?_cons_succ, List.getElem?_cons_zero]; rfl) (by kernel_rfl) (by kernel_rfl) (by kernel_rfl) (by exact fun _ _ _ h => h) (Or.inr ⟨by rfl, rfl⟩) (by assumption) ?_)); (try simp only [Act.put, List.setIfInBounds_toArray, List.set_cons_zero, List.set_cons_succ]))
    ((first | (refine wpAnyH_take (i := 18) (v := ?_) (by simp only [List.getElem?_toArray, List.getElem?_cons_succ, List.getElem?_cons_zero]; rfl) (by kernel_rfl) (by kernel_rfl) (by kernel_rfl) (by exact fun _ _ _ h => h) (Or.inl ⟨by rfl, ?_⟩) (by assumption) ?_; rotate_left 1; · (intro w hSw; (try dsimp only at hSw); go_simp; (try with_reducible rfl))) | (refine wpAnyH_take (i := 18) (v := undef) (by simp only [List.getElem?_toArray, List.getElem?_cons_succ, List.getElem?_cons_zero]; rfl) (by kernel_rfl) (by kernel_rfl) (by kernel_rfl) (by exact fun _ _ _ h => h) (Or.inr ⟨by rfl, rfl⟩) (by assumption) ?_)); (try simp only [Act.put, List.setIfInBounds_toArray, List.set_cons_zero, List.set_cons_succ]))
    ((first | (refine wpAnyH_take (i := 19) (v := ?_) (by simp only [List.getElem?_toArray, List.getElem?_cons_succ, List.getElem?_cons_zero]; rfl) (by kernel_rfl) (by kernel_rfl) (by kernel_rfl) (by exact fun _ _ _ h => h) (Or.inl ⟨by rfl, ?_⟩) (by assumption) ?_; rotate_left 1; · (intro w hSw; (try dsimp only at hSw); go_simp; (try with_reducible rfl))) | (refine wpAnyH_take (i := 19) (v := undef) (by simp only [List.getElem?_toArray, List.getElem?_cons_succ, List.getElem?_cons_zero]; rfl) (by kernel_rfl) (by kernel_rfl) (by kernel_rfl) (by exact fun _ _ _ h => h) (Or.inr ⟨by rfl, rfl⟩) (by assumption) ?_)); (try simp only [Act.put, List.setIfInBounds_toArray, List.set_cons_zero, List.set_cons_succ]))
    ((first | (refine wpAnyH_take (i := 21) (v := ?_) (by simp only [List.getElem?_toArray, List.getElem?_cons_succ, List.getElem?_cons_zero]; rfl) (by kernel_rfl) (by kernel_rfl) (by kernel_rfl) (by exact fun _ _ _ h => h) (Or.inl ⟨by rfl, ?_⟩) (by assumption) ?_; rotate_left 1; · (intro w hSw; (try dsimp only at hSw); go_simp; (try with_reducible rfl))) | (refine wpAnyH_take (i := 21) (v := undef) (by simp only [List.getElem?_toArray, List.getElem?_cons_succ, List.getElem?_cons_zero]; rfl) (by kernel_rfl) (by kernel_rfl) (by kernel_rfl) (by exact fun _ _ _ h => h) (Or.inr ⟨by rfl, rfl⟩) (by assumption) ?_)); (try simp only [Act.put, List.setIfInBounds_toArray, List.set_cons_zero, List.set_cons_succ]))
    ((first | (refine wpAnyH_take (i := 22) (v := ?_) (by simp only [List.getElem?_toArray, List.getElem?_cons_succ, List.getElem?_cons_zero]; rfl) (by kernel_rfl) (by kernel_rfl) (by kernel_rfl) (by exact fun _ _ _ h => h) (Or.inl ⟨by rfl, ?_⟩) (by assumption) ?_; rotate_left 1; · (intro w hSw; (try dsimp only at hSw); go_simp; (try with_reducible rfl))) | (refine wpAnyH_take (i := 22) (v := undef) (by simp only [List.getElem?_toArray, List.getElem?_cons_succ, List.getElem?_cons_zero]; rfl) (by kernel_rfl) (by kernel_rfl) (by kernel_rfl) (by exact fun _ _ _ h => h) (Or.inr ⟨by rfl, rfl⟩) (by assumption) ?_)); (try simp only [Act.put, List.setIfInBounds_toArray, List.set_cons_zero, List.set_cons_succ]))
    (refine wpAnyH_ready (rs := [20]) (by kernel_rfl) (by simp) ?_; refine AllReadyH.cons (by simp only [List.getElem?_toArray, List.getElem?_cons_succ, List.getElem?_cons_zero]; rfl) (fun K hK => ?_) AllReadyH.nil; go_simp; go_at_call 19; refine (HF4.out _ _ (HC10.out.later hHeld.2.2.2.2.2.2) (HG10.out.later hHeld.2.2.2.2.2.2)).mono ?_; rintro e wz ⟨rfl, hb4⟩; refine hK.out _ _ (⟨cell_later hb4 hHeld.1, cell_later hb4 hHeld.2.1, cell_later hb4 hHeld.2.2.1, cell_later hb4 hHeld.2.2.2.1, cell_later hb4 hHeld.2.2.2.2.1, cell_later hb4 hHeld.2.2.2.2.2.1, hHeld.2.2.2.2.2.2.trans (hb4.mono hHeld.2.2.2.2.2.2.size)⟩) (fun hHeld => ?_); clear hK K; (try simp only [Act.put, List.setIfInBounds_toArray, List.set_cons_zero, List.set_cons_succ]))
    (refine wpAnyH_ready (rs := [23]) (by kernel_rfl) (by simp) ?_; refine AllReadyH.cons (by simp only [List.getElem?_toArray, List.getElem?_cons_succ, List.getElem?_cons_zero]; rfl) (fun K hK => ?_) AllReadyH.nil; go_simp; go_at_call 19; refine (HF1.out _ _ (HK10.out.later hHeld.2.2.2.2.2.2) (HG10.out.later hHeld.2.2.2.2.2.2)).mono ?_; rintro e wz ⟨rfl, hb4⟩; refine hK.out _ _ (⟨cell_later hb4 hHeld.1, cell_later hb4 hHeld.2.1, cell_later hb4 hHeld.2.2.1, cell_later hb4 hHeld.2.2.2.1, cell_later hb4 hHeld.2.2.2.2.1, cell_later hb4 hHeld.2.2.2.2.2.1, hHeld.2.2.2.2.2.2.trans (hb4.mono hHeld.2.2.2.2.2.2.size)⟩) (fun hHeld => ?_); clear hK K; (try simp only [Act.put, List.setIfInBounds_toArray, List.set_cons_zero, List.set_cons_succ]))
    ((first | (refine wpAnyH_take (i := 24) (v := ?_) (by simp only [List.getElem?_toArray, List.getElem?_cons_succ, List.getElem?_cons_zero]; rfl) (by kernel_rfl) (by kernel_rfl) (by kernel_rfl) (by exact fun _ _ _ h => h) (Or.inl ⟨by rfl, ?_⟩) (by assumption) ?_; rotate_left 1; · (intro w hSw; (try dsimp only at hSw); go_simp; (try with_reducible rfl))) | (refine wpAnyH_take (i := 24) (v := undef) (by simp only [List.getElem?_toArray, List.getElem?_cons_succ, List.getElem?_cons_zero]; rfl) (by kernel_rfl) (by kernel_rfl) (by kernel_rfl) (by exact fun _ _ _ h => h) (Or.inr ⟨by rfl, rfl⟩) (by assumption) ?_)); (try simp only [Act.put, List.setIfInBounds_toArray, List.set_cons_zero, List.set_cons_succ]))
    ((first | (refine wpAnyH_take (i := 25) (v := ?_) (by simp only [List.getElem?_toArray, List.getElem?_cons_succ, List.getElem?_cons_zero]; rfl) (by kernel_rfl) (by kernel_rfl) (by kernel_rfl) (by exact fun _ _ _ h => h) (Or.inl ⟨by rfl, ?_⟩) (by assumption) ?_; rotate_left 1; · (intro w hSw; (try dsimp only at hSw); go_simp; (try with_reducible rfl))) | (refine wpAnyH_take (i := 25) (v := undef) (by simp only [List.getElem?_toArray, List.getElem?_cons_succ, List.getElem?_cons_zero]; rfl) (by kernel_rfl) (by kernel_rfl) (by kernel_rfl) (by exact fun _ _ _ h => h) (Or.inr ⟨by rfl, rfl⟩) (by assumption) ?_)); (try simp only [Act.put, List.setIfInBounds_toArray, List.set_cons_zero, List.set_cons_succ]))
    ((first | (refine wpAnyH_take (i := 26) (v := ?_) (by simp only [List.getElem?_toArray, List.getElem?_cons_succ, List.getElem?_cons_zero]; rfl) (by kernel_rfl) (by kernel_rfl) (by kernel_rfl) (by exact fun _ _ _ h => h) (Or.inl ⟨by rfl, ?_⟩) (by assumption) ?_; rotate_left 1; · (intro w hSw; (try dsimp only at hSw); go_simp; (try with_reducible rfl))) | (refine wpAnyH_take (i := 26) (v := undef) (by simp only [List.getElem?_toArray, List.getElem?_cons_succ, List.getElem?_cons_zero]; rfl) (by kernel_rfl) (by kernel_rfl) (by kernel_rfl) (by exact fun _ _ _ h => h) (Or.inr ⟨by rfl, rfl⟩) (by assumption) ?_)); (try simp only [Act.put, List.setIfInBounds_toArray, List.set_cons_zero, List.set_cons_succ]))
    (refine wpAnyH_done (by kernel_rfl) ?_ _)
    go_wp2_with fail
    go_ret
    exact ⟨rfl, HB10.out.trans (hHeld.2.2.2.2.2.2.mono HB10.out.size)⟩
  | true =>
    replace HF2 := Lib.hid (HF2.out rfl)
    (refine wp_region_held_drew (S := (fun Wq => Wq.cell? ⟨gG, 0, none⟩ = some (.int .i64 G.kind) ∧ Wq.cell? ⟨gG, 1, none⟩ = some (.string G.name) ∧ Wq.cell? ⟨gG, 2, none⟩ = some (.slice A5 G.kids.length C5) ∧ Wq.cell? ⟨gX, 0, none⟩ = some (.int .i64 y.kind) ∧ Wq.cell? ⟨gX, 1, none⟩ = some (.string y.name) ∧ Wq.cell? ⟨gX, 2, none⟩ = some (.slice Ax y.kids.length cx) ∧ Below w10.heap.size w10 Wq)) (by kernel_rfl) (show _ ∧ _ ∧ _ ∧ _ ∧ _ ∧ _ ∧ _ from ⟨g0, g1, g2, x0, x1, x2, (Below.refl _ w10).drew⟩) (fun hHeld => ?_))
    (refine wpAnyH_ready (rs := [0]) (by kernel_rfl) (by simp) ?_; refine AllReadyH.cons (by simp only [List.getElem?_toArray, List.getElem?_cons_zero]; rfl) (fun K hK => ?_) AllReadyH.nil; go_simp; go_at_call 11; refine (awake _).mono ?_; rintro e wz ⟨rfl, hb4⟩; refine hK.out _ _ (⟨cell_later hb4 hHeld.1, cell_later hb4 hHeld.2.1, cell_later hb4 hHeld.2.2.1, cell_later hb4 hHeld.2.2.2.1, cell_later hb4 hHeld.2.2.2.2.1, cell_later hb4 hHeld.2.2.2.2.2.1, hHeld.2.2.2.2.2.2.trans (hb4.mono hHeld.2.2.2.2.2.2.size)⟩) (fun hHeld => ?_); clear hK K; (try simp only [Act.put, List.setIfInBounds_toArray, List.set_cons_zero, List.set_cons_succ]))
    ((first | (refine wpAnyH_take (i := 1) (v := ?_) (by simp only [List.getElem?_toArray, List.getElem?_cons_succ, List.getElem?_cons_zero]; rfl) (by kernel_rfl) (by kernel_rfl) (by kernel_rfl) (by exact fun _ _ _ h => h) (Or.inl ⟨by rfl, ?_⟩) (by assumption) ?_; rotate_left 1; · (intro w hSw; (try dsimp only at hSw); go_simp; (try with_reducible rfl))) | (refine wpAnyH_take (i := 1) (v := undef) (by simp only [List.getElem?_toArray, List.getElem?_cons_succ, List.getElem?_cons_zero]; rfl) (by kernel_rfl) (by kernel_rfl) (by kernel_rfl) (by exact fun _ _ _ h => h) (Or.inr ⟨by rfl, rfl⟩) (by assumption) ?_)); (try simp only [Act.put, List.setIfInBounds_toArray, List.set_cons_zero, List.set_cons_succ]))
    ((first | (refine wpAnyH_take (i := 2) (v := ?_) (by simp only [List.getElem?_toArray, List.getElem?_cons_succ, List.getElem?_cons_zero]; rfl) (by kernel_rfl) (by kernel_rfl) (by kernel_rfl) (by exact fun _ _ _ h => h) (Or.inl ⟨by rfl, ?_⟩) (by assumption) ?_; rotate_left 1; · (intro w hSw; (try dsimp only at hSw); go_simp; (try with_reducible rfl))) | (refine wpAnyH_take (i := 2) (v := undef) (by simp only [List.getElem?_toArray, List.getElem?_cons_succ, List.getElem?_cons_zero]; rfl) (by kernel_rfl) (by kernel_rfl) (by kernel_rfl) (by exact fun _ _ _ h => h) (Or.inr ⟨by rfl, rfl⟩) (by assumption) ?_)); (try simp only [Act.put, List.setIfInBounds_toArray, List.set_cons_zero, List.set_cons_succ]))
    ((first | (refine wpAnyH_take (i := 3) (v := ?_) (by simp only [List.getElem?_toArray, List.getElem?_cons_succ, List.getElem?_cons_zero]; rfl) (by kernel_rfl) (by kernel_rfl) (by kernel_rfl) (by exact fun _ _ _ h => h) (Or.inl ⟨by rfl, ?_⟩) (by assumption) ?_; rotate_left 1; · (intro w hSw; (try dsimp only at hSw); go_simp; (try with_reducible rfl))) | (refine wpAnyH_take (i := 3) (v := undef) (by simp only [List.getElem?_toArray, List.getElem?_cons_succ, List.getElem?_cons_zero]; rfl) (by kernel_rfl) (by kernel_rfl) (by kernel_rfl) (by exact fun _ _ _ h => h) (Or.inr ⟨by rfl, rfl⟩) (by assumption) ?_)); (try simp only [Act.put, List.setIfInBounds_toArray, List.set_cons_zero, List.set_cons_succ]))
    (refine wpAnyH_ready (rs := [4]) (by kernel_rfl) (by simp) ?_; refine AllReadyH.cons (by simp only [List.getElem?_toArray, List.getElem?_cons_succ, List.getElem?_cons_zero]; rfl) (fun K hK => ?_) AllReadyH.nil; go_simp; go_at_call 19; refine (HF1.out _ _ (HK10.out.later hHeld.2.2.2.2.2.2) (HG10.out.later hHeld.2.2.2.2.2.2)).mono ?_; rintro e wz ⟨rfl, hb4⟩; refine hK.out _ _ (⟨cell_later hb4 hHeld.1, cell_later hb4 hHeld.2.1, cell_later hb4 hHeld.2.2.1, cell_later hb4 hHeld.2.2.2.1, cell_later hb4 hHeld.2.2.2.2.1, cell_later hb4 hHeld.2.2.2.2.2.1, hHeld.2.2.2.2.2.2.trans (hb4.mono hHeld.2.2.2.2.2.2.size)⟩) (fun hHeld => ?_); clear hK K; (try simp only [Act.put, List.setIfInBounds_toArray, List.set_cons_zero, List.set_cons_succ]))
    ((first | (refine wpAnyH_take (i := 5) (v := ?_) (by simp only [List.getElem?_toArray, List.getElem?_cons_succ, List.getElem?_cons_zero]; rfl) (by kernel_rfl) (by kernel_rfl) (by kernel_rfl) (by exact fun _ _ _ h => h) (Or.inl ⟨by rfl, ?_⟩) (by assumption) ?_; rotate_left 1; · (intro w hSw; (try dsimp only at hSw); go_simp; (try with_reducible rfl))) | (refine wpAnyH_take (i := 5) (v := undef) (by simp only [List.getElem?_toArray, List.getElem?_cons_succ, List.getElem?_cons_zero]; rfl) (by kernel_rfl) (by kernel_rfl) (by kernel_rfl) (by exact fun _ _ _ h => h) (Or.inr ⟨by rfl, rfl⟩) (by assumption) ?_)); (try simp only [Act.put, List.setIfInBounds_toArray, List.set_cons_zero, List.set_cons_succ]))
    ((first | (refine wpAnyH_take (i := 6) (v := ?_) (by simp only [List.getElem?_toArray, List.getElem?_cons_succ, List.getElem?_cons_zero]; rfl) (by kernel_rfl) (by kernel_rfl) (by kernel_rfl) (by exact fun _ _ _ h => h) (Or.inl ⟨by rfl, ?_⟩) (by assumption) ?_; rotate_left 1; · (intro w hSw; (try dsimp only at hSw); go_simp; (try with_reducible rfl))) | (refine wpAnyH_take (i := 6) (v := undef) (by simp only [List.getElem?_toArray, List.getElem?_cons_succ, List.getElem?_cons_zero]; rfl) (by kernel_rfl) (by kernel_rfl) (by kernel_rfl) (by exact fun _ _ _ h => h) (Or.inr ⟨by rfl, rfl⟩) (by assumption) ?_)); (try simp only [Act.put, List.setIfInBounds_toArray, List.set_cons_zero, List.set_cons_succ]))
    ((first | (refine wpAnyH_take (i := 7) (v := ?_) (by simp only [List.getElem?_toArray, List.getElem?_cons_succ, List.getElem?_cons_zero]; rfl) (by kernel_rfl) (by kernel_rfl) (by kernel_rfl) (by exact fun _ _ _ h => h) (Or.inl ⟨by rfl, ?_⟩) (by assumption) ?_; rotate_left 1; · (intro w hSw; (try dsimp only at hSw); go_simp; (try with_reducible rfl))) | (refine wpAnyH_take (i := 7) (v := undef) (by simp only [List.getElem?_toArray, List.getElem?_cons_succ, List.getElem?_cons_zero]; rfl) (by kernel_rfl) (by kernel_rfl) (by kernel_rfl) (by exact fun _ _ _ h => h) (Or.inr ⟨by rfl, rfl⟩) (by assumption) ?_)); (try simp only [Act.put, List.setIfInBounds_toArray, List.set_cons_zero, List.set_cons_succ]))
    ((first | (refine wpAnyH_take (i := 8) (v := ?_) (by simp only [List.getElem?_toArray, List.getElem?_cons_succ, List.getElem?_cons_zero]; rfl) (by kernel_rfl) (by kernel_rfl) (by kernel_rfl) (by exact fun _ _ _ h => h) (Or.inl ⟨by rfl, ?_⟩) (by assumption) ?_; rotate_left 1; · (intro w hSw; (try dsimp only at hSw); go_simp; (try with_reducible rfl))) | (refine wpAnyH_take (i := 8) (v := undef) (by simp only [List.getElem?_toArray, List.getElem?_cons_succ, List.getElem?_cons_zero]; rfl) (by kernel_rfl) (by kernel_rfl) (by kernel_rfl) (by exact fun _ _ _ h => h) (Or.inr ⟨by rfl, rfl⟩) (by assumption) ?_)); (try simp only [Act.put, List.setIfInBounds_toArray, List.set_cons_zero, List.set_cons_succ]))
    (refine wpAnyH_ready (rs := [9]) (by kernel_rfl) (by simp) ?_; refine AllReadyH.cons (by simp only [List.getElem?_toArray, List.getElem?_cons_succ, List.getElem?_cons_zero]; rfl) (fun K hK => ?_) AllReadyH.nil; go_simp; go_at_call 19; refine (HF2.out _ _ (HALL10.out.later hHeld.2.2.2.2.2.2) (HG10.out.later hHeld.2.2.2.2.2.2)).mono ?_; rintro e wz ⟨rfl, hb4⟩; refine hK.out _ _ (⟨cell_later hb4 hHeld.1, cell_later hb4 hHeld.2.1, cell_later hb4 hHeld.2.2.1, cell_later hb4 hHeld.2.2.2.1, cell_later hb4 hHeld.2.2.2.2.1, cell_later hb4 hHeld.2.2.2.2.2.1, hHeld.2.2.2.2.2.2.trans (hb4.mono hHeld.2.2.2.2.2.2.size)⟩) (fun hHeld => ?_); clear hK K; (try simp only [Act.put, List.setIfInBounds_toArray, List.set_cons_zero, List.set_cons_succ]))
    ((first | (refine wpAnyH_take (i := 10) (v := ?_) (by simp only [List.getElem?_toArray, List.getElem?_cons_succ, List.getElem?_cons_zero]; rfl) (by kernel_rfl) (by kernel_rfl) (by kernel_rfl) (by exact fun _ _ _ h => h) (Or.inl ⟨by rfl, ?_⟩) (by assumption) ?_; rotate_left 1; · (intro w hSw; (try dsimp only at hSw); go_simp; (try with_reducible rfl))) | (refine wpAnyH_take (i := 10) (v := undef) (by simp only [List.getElem?_toArray, List.getElem?_cons_succ, List.getElem?_cons_zero]; rfl) (by kernel_rfl) (by kernel_rfl) (by kernel_rfl) (by exact fun _ _ _ h => h) (Or.inr ⟨by rfl, rfl⟩) (by assumption) ?_)); (try simp only [Act.put, List.setIfInBounds_toArray, List.set_cons_zero, List.set_cons_succ]))
    ((first | (refine wpAnyH_take (i := 11) (v := ?_) (by simp only [List.getElem?_toArray, List.getElem?_cons_succ, List.getElem?_cons_zero]; rfl) (by kernel_rfl) (by kernel_rfl) (by kernel_rfl) (by exact fun _ _ _ h => h) (Or.inl ⟨by rfl, ?_⟩) (by assumption) ?_; rotate_left 1; · (intro w hSw; (try dsimp only at hSw); go_simp; (try with_reducible rfl))) | (refine wpAnyH_take (i := 11) (v := undef) (by simp only [List.getElem?_toArray, List.getElem?_cons_succ, List.getElem?_cons_zero]; rfl) (by kernel_rfl) (by kernel_rfl) (by kernel_rfl) (by exact fun _ _ _ h => h) (Or.inr ⟨by rfl, rfl⟩) (by assumption) ?_)); (try simp only [Act.put, List.setIfInBounds_toArray, List.set_cons_zero, List.set_cons_succ]))
    ((first | (refine wpAnyH_take (i := 12) (v := ?_) (by simp only [List.getElem?_toArray, List.getElem?_cons_succ, List.getElem?_cons_zero]; rfl) (by kernel_rfl) (by kernel_rfl) (by kernel_rfl) (by exact fun _ _ _ h => h) (Or.inl ⟨by rfl, ?_⟩) (by assumption) ?_; rotate_left 1; · (intro w hSw; (try dsimp only at hSw); go_simp; (try with_reducible rfl))) | (refine wpAnyH_take (i := 12) (v := undef) (by simp only [List.getElem?_toArray, List.getElem?_cons_succ, List.getElem?_cons_zero]; rfl) (by kernel_rfl) (by kernel_rfl) (by kernel_rfl) (by exact fun _ _ _ h => h) (Or.inr ⟨by rfl, rfl⟩) (by assumption) ?_)); (try simp only [Act.put, List.setIfInBounds_toArray, List.set_cons_zero, List.set_cons_succ]))
    ((first | (refine wpAnyH_take (i := 13) (v := ?_) (by simp only [List.getElem?_toArray, List.getElem?_cons_succ, List.getElem?_cons_zero]; rfl) (by kernel_rfl) (by kernel_rfl) (by kernel_rfl) (by exact fun _ _ _ h => h) (Or.inl ⟨by rfl, ?_⟩) (by assumption) ?_; rotate_left 1; · (intro w hSw; (try dsimp only at hSw); go_simp; (try with_reducible rfl))) | (refine wpAnyH_take (i := 13) (v := undef) (by simp only [List.getElem?_toArray, List.getElem?_cons_succ, List.getElem?_cons_zero]; rfl) (by kernel_rfl) (by kernel_rfl) (by kernel_rfl) (by exact fun _ _ _ h => h) (Or.inr ⟨by rfl, rfl⟩) (by assumption) ?_)); (try simp only [Act.put, List.setIfInBounds_toArray, List.set_cons_zero, List.set_cons_succ]))
    ((first | (refine wpAnyH_take (i := 14) (v := ?_) (by simp only [List.getElem?_toArray, List.getElem?_cons_succ, List.getElem?_cons_zero]; rfl) (by kernel_rfl) (by kernel_rfl) (by kernel_rfl) (by exact fun _ _ _ h => h) (Or.inl ⟨by rfl, ?_⟩) (by assumption) ?_; rotate_left 1; · (intro w hSw; (try dsimp only at hSw); go_simp; (try with_reducible rfl))) | (refine wpAnyH_take (i := 14) (v := undef) (by simp only [List.getElem?_toArray, List.getElem?_cons_succ, List.getElem?_cons_zero]; rfl) (by kernel_rfl) (by kernel_rfl) (by kernel_rfl) (by exact fun _ _ _ h => h) (Or.inr ⟨by rfl, rfl⟩) (by assumption) ?_)); (try simp only [Act.put, List.setIfInBounds_toArray, List.set_cons_zero, List.set_cons_succ]))
    (refine wpAnyH_ready (rs := [15]) (by kernel_rfl) (by simp) ?_; refine AllReadyH.cons (by simp only [List.getElem?_toArray, List.getElem?_cons_succ, List.getElem?_cons_zero]; rfl) (fun K hK => ?_) AllReadyH.nil; go_simp; go_at_call 19; refine (HF3.out _ _ (HK10.out.later hHeld.2.2.2.2.2.2) (HX10.out.later hHeld.2.2.2.2.2.2)).mono ?_; rintro e wz ⟨rfl, hb4⟩; refine hK.out _ _ (⟨cell_later hb4 hHeld.1, cell_later hb4 hHeld.2.1, cell_later hb4 hHeld.2.2.1, cell_later hb4 hHeld.2.2.2.1, cell_later hb4 hHeld.2.2.2.2.1, cell_later hb4 hHeld.2.2.2.2.2.1, hHeld.2.2.2.2.2.2.trans (hb4.mono hHeld.2.2.2.2.2.2.size)⟩) (fun hHeld => ?_); clear hK K; (try simp only [Act.put, List.setIfInBounds_toArray, List.set_cons_zero, List.set_cons_succ]))
    ((first | (refine wpAnyH_take (i := 16) (v := ?_) (by simp only [List.getElem?_toArray, List.getElem?_cons_succ, List.getElem?_cons_zero]; rfl) (by kernel_rfl) (by kernel_rfl) (by kernel_rfl) (by exact fun _ _ _ h => h) (Or.inl ⟨by rfl, ?_⟩) (by assumption) ?_; rotate_left 1; · (intro w hSw; (try dsimp only at hSw); go_simp; (try with_reducible rfl))) | (refine wpAnyH_take (i := 16) (v := undef) (by simp only [List.getElem?_toArray, List.getElem?_cons_succ, List.getElem?_cons_zero]; rfl) (by kernel_rfl) (by kernel_rfl) (by kernel_rfl) (by exact fun _ _ _ h => h) (Or.inr ⟨by rfl, rfl⟩) (by assumption) ?_)); (try simp only [Act.put, List.setIfInBounds_toArray, List.set_cons_zero, List.set_cons_succ]))
    ((first | (refine wpAnyH_take (i := 17) (v := ?_) (by simp only [List.getElem?_toArray, List.getElem?_cons_succ, List.getElem?_cons_zero]; rfl) (by kernel_rfl) (by kernel_rfl) (by kernel_rfl) (by exact fun _ _ _ h => h) (Or.inl ⟨by rfl, ?_⟩) (by assumption) ?_; rotate_left 1; · (intro w hSw; (try dsimp only at hSw); go_simp; (try with_reducible rfl))) | (refine wpAnyH_take (i := 17) (v := undef) (by simp only [List.getElem?_toArray, List.getElem?_cons_succ, List.getElem?_cons_zero]; rfl) (by kernel_rfl) (by kernel_rfl) (by kernel_rfl) (by exact fun _ _ _ h => h) (Or.inr ⟨by rfl, rfl⟩) (by assumption) ?_)); (try simp only [Act.put, List.setIfInBounds_toArray, List.set_cons_zero, List.set_cons_succ]))
    ((first | (refine wpAnyH_take (i := 18) (v := ?_) (by simp only [List.getElem?_toArray, List.getElem?_cons_succ, List.getElem?_cons_zero]; rfl) (by kernel_rfl) (by kernel_rfl) (by kernel_rfl) (by exact fun _ _ _ h => h) (Or.inl ⟨by rfl, ?_⟩) (by assumption) ?_; rotate_left 1; · (intro w hSw; (try dsimp only at hSw); go_simp; (try with_reducible rfl))) | (refine wpAnyH_take (i := 18) (v := undef) (by simp only [List.getElem?_toArray, List.getElem?_cons_succ, List.getElem?_cons_zero]; rfl) (by kernel_rfl) (by kernel_rfl) (by kernel_rfl) (by exact fun _ _ _ h => h) (Or.inr ⟨by rfl, rfl⟩) (by assumption) ?_)); (try simp only [Act.put, List.setIfInBounds_toArray, List.set_cons_zero, List.set_cons_succ]))
    ((first | (refine wpAnyH_take (i := 19) (v := ?_) (by simp only [List.getElem?_toArray, List.getElem?_cons_succ, List.getElem?_cons_zero]; rfl) (by kernel_rfl) (by kernel_rfl) (by kernel_rfl) (by exact fun _ _ _ h => h) (Or.inl ⟨by rfl, ?_⟩) (by assumption) ?_; rotate_left 1; · (intro w hSw; (try dsimp only at hSw); go_simp; (try with_reducible rfl))) | (refine wpAnyH_take (i := 19) (v := undef) (by simp only [List.getElem?_toArray, List.getElem?_cons_succ, List.getElem?_cons_zero]; rfl) (by kernel_rfl) (by kernel_rfl) (by kernel_rfl) (by exact fun _ _ _ h => h) (Or.inr ⟨by rfl, rfl⟩) (by assumption) ?_)); (try simp only [Act.put, List.setIfInBounds_toArray, List.set_cons_zero, List.set_cons_succ]))
    ((first | (refine wpAnyH_take (i := 21) (v := ?_) (by simp only [List.getElem?_toArray, List.getElem?_cons_succ, List.getElem?_cons_zero]; rfl) (by kernel_rfl) (by kernel_rfl) (by kernel_rfl) (by exact fun _ _ _ h => h) (Or.inl ⟨by rfl, ?_⟩) (by assumption) ?_; rotate_left 1; · (intro w hSw; (try dsimp only at hSw); go_simp; (try with_reducible rfl))) | (refine wpAnyH_take (i := 21) (v := undef) (by simp only [List.getElem?_toArray, List.getElem?_cons_succ, List.getElem?_cons_zero]; rfl) (by kernel_rfl) (by kernel_rfl) (by kernel_rfl) (by exact fun _ _ _ h => h) (Or.inr ⟨by rfl, rfl⟩) (by assumption) ?_)); (try simp only [Act.put, List.setIfInBounds_toArray, List.set_cons_zero, List.set_cons_succ]))
    ((first | (refine wpAnyH_take (i := 22) (v := ?_) (by simp only [List.getElem?_toArray, List.getElem?_cons_succ, List.getElem?_cons_zero]; rfl) (by kernel_rfl) (by kernel_rfl) (by kernel_rfl) (by exact fun _ _ _ h => h) (Or.inl ⟨by rfl, ?_⟩) (by assumption) ?_; rotate_left 1; · (intro w hSw; (try dsimp only at hSw); go_simp; (try with_reducible rfl))) | (refine wpAnyH_take (i := 22) (v := undef) (by simp only [List.getElem?_toArray, List.getElem?_cons_succ, List.getElem?_cons_zero]; rfl) (by kernel_rfl) (by kernel_rfl) (by kernel_rfl) (by exact fun _ _ _ h => h) (Or.inr ⟨by rfl, rfl⟩) (by assumption) ?_)); (try simp only [Act.put, List.setIfInBounds_toArray, List.set_cons_zero, List.set_cons_succ]))
    (refine wpAnyH_ready (rs := [20]) (by kernel_rfl) (by simp) ?_; refine AllReadyH.cons (by simp only [List.getElem?_toArray, List.getElem?_cons_succ, List.getElem?_cons_zero]; rfl) (fun K hK => ?_) AllReadyH.nil; go_simp; go_at_call 19; refine (HF4.out _ _ (HC10.out.later hHeld.2.2.2.2.2.2) (HG10.out.later hHeld.2.2.2.2.2.2)).mono ?_; rintro e wz ⟨rfl, hb4⟩; refine hK.out _ _ (⟨cell_later hb4 hHeld.1, cell_later hb4 hHeld.2.1, cell_later hb4 hHeld.2.2.1, cell_later hb4 hHeld.2.2.2.1, cell_later hb4 hHeld.2.2.2.2.1, cell_later hb4 hHeld.2.2.2.2.2.1, hHeld.2.2.2.2.2.2.trans (hb4.mono hHeld.2.2.2.2.2.2.size)⟩) (fun hHeld => ?_); clear hK K; (try simp only [Act.put, List.setIfInBounds_toArray, List.set_cons_zero, List.set_cons_succ]))
    (refine wpAnyH_ready (rs := [23]) (by kernel_rfl) (by simp) ?_; refine AllReadyH.cons (by simp only [List.getElem?_toArray, List.getElem?_cons_succ, List.getElem?_cons_zero]; rfl) (fun K hK => ?_) AllReadyH.nil; go_simp; go_at_call 19; refine (HF1.out _ _ (HK10.out.later hHeld.2.2.2.2.2.2) (HG10.out.later hHeld.2.2.2.2.2.2)).mono ?_; rintro e wz ⟨rfl, hb4⟩; refine hK.out _ _ (⟨cell_later hb4 hHeld.1, cell_later hb4 hHeld.2.1, cell_later hb4 hHeld.2.2.1, cell_later hb4 hHeld.2.2.2.1, cell_later hb4 hHeld.2.2.2.2.1, cell_later hb4 hHeld.2.2.2.2.2.1, hHeld.2.2.2.2.2.2.trans (hb4.mono hHeld.2.2.2.2.2.2.size)⟩) (fun hHeld => ?_); clear hK K; (try simp only [Act.put, List.setIfInBounds_toArray, List.set_cons_zero, List.set_cons_succ]))
    ((first | (refine wpAnyH_take (i := 24) (v := ?_) (by simp only [List.getElem?_toArray, List.getElem?_cons_succ, List.getElem?_cons_zero]; rfl) (by kernel_rfl) (by kernel_rfl) (by kernel_rfl) (by exact fun _ _ _ h => h) (Or.inl ⟨by rfl, ?_⟩) (by assumption) ?_; rotate_left 1; · (intro w hSw; (try dsimp only at hSw); go_simp; (try with_reducible rfl))) | (refine wpAnyH_take (i := 24) (v := undef) (by simp only [List.getElem?_toArray, List.getElem?_cons_succ, List.getElem?_cons_zero]; rfl) (by kernel_rfl) (by kernel_rfl) (by kernel_rfl) (by exact fun _ _ _ h => h) (Or.inr ⟨by rfl, rfl⟩) (by assumption) ?_)); (try simp only [Act.put, List.setIfInBounds_toArray, List.set_cons_zero, List.set_cons_succ]))
    ((first | (refine wpAnyH_take (i := 25) (v := ?_) (by simp only [List.getElem?_toArray, List.getElem?_cons_succ, List.getElem?_cons_zero]; rfl) (by kernel_rfl) (by kernel_rfl) (by kernel_rfl) (by exact fun _ _ _ h => h) (Or.inl ⟨by rfl, ?_⟩) (by assumption) ?_; rotate_left 1; · (intro w hSw; (try dsimp only at hSw); go_simp; (try with_reducible rfl))) | (refine wpAnyH_take (i := 25) (v := undef) (by simp only [List.getElem?_toArray, List.getElem?_cons_succ, List.getElem?_cons_zero]; rfl) (by kernel_rfl) (by kernel_rfl) (by kernel_rfl) (by exact fun _ _ _ h => h) (Or.inr ⟨by rfl, rfl⟩) (by assumption) ?_)); (try simp only [Act.put, List.setIfInBounds_toArray, List.set_cons_zero, List.set_cons_succ]))
    ((first | (refine wpAnyH_take (i := 26) (v := ?_) (by simp only [List.getElem?_toArray, List.getElem?_cons_succ, List.getElem?_cons_zero]; rfl) (by kernel_rfl) (by kernel_rfl) (by kernel_rfl) (by exact fun _ _ _ h => h) (Or.inl ⟨by rfl, ?_⟩) (by assumption) ?_; rotate_left 1; · (intro w hSw; (try dsimp only at hSw); go_simp; (try with_reducible rfl))) | (refine wpAnyH_take (i := 26) (v := undef) (by simp only [List.getElem?_toArray, List.getElem?_cons_succ, List.getElem?_cons_zero]; rfl) (by kernel_rfl) (by kernel_rfl) (by kernel_rfl) (by exact fun _ _ _ h => h) (Or.inr ⟨by rfl, rfl⟩) (by assumption) ?_)); (try simp only [Act.put, List.setIfInBounds_toArray, List.set_cons_zero, List.set_cons_succ]))
    (refine wpAnyH_done (by kernel_rfl) ?_ _)
    go_wp2_with fail
    go_ret
    exact ⟨rfl, HB10.out.trans (hHeld.2.2.2.2.2.2.mono HB10.out.size)⟩
theorem int_bounds {x : Int} (h : (Lit.int .i64 x).wf = true) : -9223372036854775808 ≤ x ∧ x ≤ 9223372036854775807 := bounds_i64 h
set_option maxRecDepth 100000 in
theorem walkDeductionGrows {H : Type} {enc : TypeId × Value → H} {X Y Z : Prop} (w : World) (v0 : Value) (d0 : DataW H) {b0 : Nat} {p0 : List MemPlace} {r0 : Reach} (hv0 : Value.okWide Tryz.prog w r0 b0 22 v0) (hd0 : DataW.Trod enc Tryz.prog w 0 (fun _ => true) true 22 v0 d0 p0)
    (v1 : Value) (d1 : DataW H) {b1 : Nat} {p1 : List MemPlace} {r1 : Reach} (hv1 : Value.okWide Tryz.prog w r1 b1 22 v1) (hd1 : DataW.Trod enc Tryz.prog w 0 (fun _ => true) true 22 v1 d1 p1)
    (v2 : Value) (d2 : DataW H) {b2 : Nat} {p2 : List MemPlace} {r2 : Reach} (hv2 : Value.okWide Tryz.prog w r2 b2 22 v2) (hd2 : DataW.Trod enc Tryz.prog w 0 (fun _ => true) true 22 v2 d2 p2) (x : Int) (w3 : (Lit.int .i64 x).wf = true) (_hsz : X) (_hL : Y) (_hsh : Z) :
    Calls Tryz.prog 6 #[v0, v1, v2, .int .i64 x] w fun e w' => e = .returned (.bool true) ∧ Below w.heap.size w w' := by
  obtain ⟨A1, n1, c1, rfl, a1, a2, a3⟩ := open_list hv0 hd0
  obtain ⟨A2, n2, c2, rfl, e1, e2, e3⟩ := open_list hv1 hd1
  obtain ⟨A3, n3, c3, rfl, f1, f2, f3⟩ := open_list hv2 hd2
  exact ded_grows A1 A2 A3 n1 n2 n3 c1 c2 c3 x w (Nat.le_trans a1 a2) (Nat.le_trans e1 e2) (Nat.le_trans f1 f2) a3 e3 f3 (int_bounds w3)
end Go.Proofs.YtihbmgkbipeakaaGreat
