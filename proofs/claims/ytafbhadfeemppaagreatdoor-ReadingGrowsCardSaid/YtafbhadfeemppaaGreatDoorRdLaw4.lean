/- Chapter 12: the walk of the law on further characters. -/
import Derived.Test.YtafbhadfeemppaaGreatDoorRdGB
import Derived.Test.YtafbhadfeemppaaGreatDoorRdGA
import Derived.BigQuiet
namespace Go.Proofs.YtafbhadfeemppaaGreatDoor
open Go.RowKit Go.ChangeShapes Go.WideShapes

theorem below_dice12 {w w1 w2 : World} {g : Nat} (hb : Below w.heap.size w w1) (hg : w1.grownBy w2 (some g)) (h : w.heap.size ≤ g) : Below w.heap.size w w2 :=
  hb.grown hg hb.size (fun k hk => by injection hk with hk; omega)
theorem OwnGrid.grid {w : World} {base c H : Nat} {A : Option Addr} {K : List (List ByteArray)} (h : OwnGrid w base A c K H) (hK : ∀ R ∈ K, R.length = H) : GridAt w A K := by
  obtain ⟨vs, h1, h2, h3⟩ := h
  exact own_grid h1 h2 h3 hK
theorem OwnGrid.set {w : World} {base c H ga k : Nat} {A : Option Addr} {K : List (List ByteArray)} (h : OwnGrid w base A c K H) (hg : ga < base) (x : Value) : OwnGrid (w.setCell ⟨ga, k, none⟩ x) base A c K H := by
  obtain ⟨vs, h1, h2, h3⟩ := h
  exact ⟨vs, ownsRow_setCell_below h1 hg x, h2, fun i a b => ownsRow_setCell_below (h3 i a b) hg x⟩
theorem rdK_row {G : List (List ByteArray)} {R : List ByteArray} (h : R ∈ rdK G) : R.length = G.length := KS_len h
theorem flat_small {R : List ByteArray} (hl : LinesOf R) {K : List (List ByteArray)} (h1 : K.length = R.length) (h2 : ∀ i (h : i < K.length) (h' : i < R.length), K[i].length = R[i].size) : K.flatten.length ≤ 4194304 := by
  have hs := hl.small
  have key : ∀ (K : List (List ByteArray)), (∀ r ∈ K, r.length ≤ 44) → K.flatten.length ≤ 44 * K.length := by
    intro K
    induction K with
    | nil => simp
    | cons a t ih =>
      intro h
      have := ih fun r hr => h r (List.mem_cons_of_mem _ hr)
      have := h a (by simp)
      rw [List.flatten_cons, List.length_append, List.length_cons]; omega
  have := key K fun r hr => by
    obtain ⟨i, hi, rfl⟩ := List.getElem_of_mem hr
    have hi' : i < R.length := by omega
    rw [h2 i hi hi']
    exact (hs.2 _ (List.getElem_mem hi')).2
  omega
set_option maxRecDepth 100000 in
set_option maxHeartbeats 8000000 in
theorem walkReadingGrows {H : Type} {enc : TypeId × Value → H} {X : Prop} (w : World) (v : Value) (d : DataW H) {b0 : Nat} {p : List MemPlace} {r : Reach} (hv : Value.okWide Tryz.prog w r b0 25 v) (hd : DataW.Trod enc Tryz.prog w 0 (fun _ => true) true 25 v d p)
    (a1 : Int) (w1 : (Lit.int .i64 a1).wf = true) (_hsz : X) (hL : laidMetH Tryz.prog Rows.readingGrowsRow.laid w) (hsh : w.ShapedOpen Tryz.prog) :
    Calls Tryz.prog 6 #[v, .int .i64 a1] w fun e w' => e = .returned (.bool true) ∧ Below w.heap.size w w' := by
  obtain ⟨A, n, c, rfl, hnc, hcm, hl⟩ := open_list hv hd
  have hb := bounds_i64 w1
  have hnm := Nat.le_trans hnc hcm
  have HDX := Lib.hid (And.intro (laid_dat (by kernel_rfl) hL) (Opt.lax_of hsh))
  have HAW := Lib.hid (fun W (h : Below w.heap.size w W) => oawake W (HDX.out.1.below h) (HDX.out.2.below h))
  have HL := Lib.hid hl
  clear hL hsh hv hd hl w1
  go_enter Tryz.func6, Tryz.ntmps6
  go_wp2_with fail
  refine (made_light _ _ _ _ hnm).mono ?_; rintro e w' ⟨rfl, rfl⟩
  by_cases hn : n ≤ 400
  · have e1 : decide (n ≤ 400) = true := decide_eq_true hn
    rw [e1]
    clear e1
    go_wp2_with fail
    refine (made_roll _ _ _ _ hn hnc HL.out).mono ?_; rintro e w2 ⟨rfl, hd2, hb2⟩
    obtain ⟨g, hg⟩ : ∃ g, w.heap.size = g := ⟨_, rfl⟩
    have HB2 := Lib.hid hb2
    rw [hg] at hd2 ⊢
    have HD2 := Lib.hid hd2; have HG := Lib.hid hg
    clear hd2 hb2 hg hnc hcm hnm
    go_wp2_with fail
    refine (made_lines g w2 HD2.out).mono ?_; rintro e w3 ⟨A3, c3, R, rfl, hlo, ht3, hd3, hg3⟩
    have HLO := Lib.hid hlo; have HB3 := Lib.hid (below_dice12 HB2.out hg3 (Nat.le_of_eq HG.out))
    have HSM := Lib.hid hlo.small
    have HOD := Lib.hid (odoubt g R A3 c3 3 w3 hd3 ht3 (by have := hlo.small.1; omega) (fun s hs => by have := hlo.small.2 s hs; omega) (by decide))
    clear hlo ht3 hd3 hg3
    go_wp2_with fail
    refine HOD.out.mono ?_; rintro e w4 ⟨v4, vs, K, inn, m, hm, rfl, hdb, hw4⟩
    have HDB := Lib.hid hdb; have HW4 := Lib.hid hw4
    have HB4 := Lib.hid (below_dice12 HB3.out hw4.2.2.1 (Nat.le_of_eq HG.out))
    obtain ⟨A4, c4, rfl, _, _⟩ := own_form hw4.1.1
    have hkl : K.length = R.length := hdb.1
    have HKL := Lib.hid hkl
    have hc0 := cnt_ok (dbt_ok HLO.out hdb) (Nat.le_trans hdb.2.2.2.1 (Nat.le_trans (Nat.pow_le_pow_right (by decide) hm) (by decide)))
    have HOR := Lib.hid (show Calls Tryz.prog 17 #[.slice A4 K.length c4] w4 fun e w' => ∃ A c, e = .returned (.tuple #[.slice A (rdK K).length c, .int .i64 0]) ∧ OwnGrid w' w4.heap.size A c (rdK K) K.length ∧ Below w4.heap.size w4 w' by
      refine (oreadings K A4 c4 w4 (hw4.1.grid rfl) (by have := HSM.out.1; omega) (flat_small HLO.out hkl hdb.2.1) (fun r hr s hs => by have := (hdb.2.2.1 r hr s hs).2; omega) (HDX.out.1.below HB4.out) (HDX.out.2.below HB4.out)).mono ?_
      rintro e w' ⟨_, h2, h3⟩
      obtain ⟨A, c, h4, _, h5⟩ := h2 hc0
      exact ⟨A, c, h4, h5, h3⟩)
    have hxl := rdK_le hc0
    obtain ⟨XS, hXS⟩ : ∃ XS, rdK K = XS := ⟨_, rfl⟩
    rw [hXS] at HOR hxl
    have HXS := Lib.hid hXS; have HXL := Lib.hid hxl
    have hm3 := hm
    clear hdb hw4 hkl hc0 hXS hxl hm
    go_wp2_with fail
    refine HOR.out.mono ?_; rintro e w5 ⟨A5, c5, rfl, ho5, hb5⟩
    have HO5 := Lib.hid ho5
    have HB5 := Lib.hid (HB4.out.trans (hb5.mono HB4.out.size))
    have HR5 := Lib.hid (HW4.out.1.later hb5); have HZ5 := Lib.hid hb5.size; have HB45 := Lib.hid hb5
    clear ho5 hb5
    have hKn : 0 < K.length ∧ K.length ≤ 3 := by have := HSM.out.1; have := HKL.out; omega
    obtain ⟨i, hi⟩ : ∃ i : Nat, a1 % (K.length : Int) = (i : Int) := ⟨(a1 % (K.length : Int)).toNat, by have := Int.emod_nonneg a1 (b := (K.length : Int)) (by omega); omega⟩
    have hik : i < K.length := by have := Int.emod_lt_of_pos a1 (b := (K.length : Int)) (by omega); omega
    have HMI := Lib.hid (show ∀ W, Calls Tryz.prog 25 #[.int .i64 a1, .int .i64 (K.length : Int)] W fun e w' => e = .returned (.int .i64 (i : Int)) ∧ W = w' from fun W => by
      have h := made_mod a1 (K.length : Int) W hb.1 hb.2 (by omega) (by omega)
      rw [hi] at h
      exact h)
    have HIK := Lib.hid hik
    have hrow := HDB.out.2.1 i hik (by rw [← HKL.out]; exact hik)
    have hrs := HSM.out.2 _ (List.getElem_mem (l := R) (n := i) (by rw [← HKL.out]; exact hik))
    obtain ⟨q, hq⟩ : ∃ q, (K[i]'HIK.out).length = q := ⟨_, rfl⟩
    have hq1 : 30 ≤ q ∧ q ≤ 44 := by rw [← hq, hrow]; exact hrs
    obtain ⟨k, hk⟩ : ∃ k : Nat, a1 / 8 % (q : Int) = (k : Int) := ⟨(a1 / 8 % (q : Int)).toNat, by have := Int.emod_nonneg (a1 / 8) (b := (q : Int)) (by omega); omega⟩
    have hkq : k < q := by have := Int.emod_lt_of_pos (a1 / 8) (b := (q : Int)) (by omega); omega
    have HMK := Lib.hid (show ∀ W, Calls Tryz.prog 25 #[.int .i64 (a1 / 8), .int .i64 (q : Int)] W fun e w' => e = .returned (.int .i64 (k : Int)) ∧ W = w' from fun W => by
      have h := made_mod (a1 / 8) (q : Int) W (by omega) (by omega) (by omega) (by omega)
      rw [hk] at h
      exact h)
    have HKQ := Lib.hid (show k < (K[i]'HIK.out).length by rw [hq]; exact hkq)
    obtain ⟨gl, cl, ga, ca, hv, e0, e1, e2, h3, h4, h5⟩ := HR5.out.place HIK.out HKQ.out
    have h44 : ga < w4.heap.size := by
      obtain ⟨g', c', ga', ca', hv', e0', -, -, -, h4', -⟩ := HW4.out.1.place HIK.out HKQ.out
      have e5 := cell_later HB45.out e0'
      rw [hv] at hv'
      simp only [Value.slice.injEq, Option.some.injEq, Addr.mk.injEq] at hv'
      obtain ⟨⟨rfl, -⟩, -⟩ := hv'
      rw [e0] at e5
      simp only [Option.some.injEq, Value.slice.injEq, Addr.mk.injEq] at e5
      omega
    rw [hq] at e0
    obtain ⟨rfl, rfl⟩ : A4 = some ⟨gl, 0, none⟩ ∧ c4 = cl := by
      simp only [Value.slice.injEq] at hv
      exact ⟨hv.1, hv.2.2⟩
    obtain ⟨old, hold⟩ : ∃ old, (K[i]'HIK.out)[k]'HKQ.out = old := ⟨_, rfl⟩
    rw [hold] at e1
    have hos := (HDB.out.2.2.1 _ (List.getElem_mem HIK.out) _ (List.getElem_mem HKQ.out)).2
    rw [hold] at hos
    have HGF := Lib.hid (grow_facts HLO.out HDB.out HIK.out HKQ.out ⟨#[48, 60, 53]⟩ (by decide))
    rw [hold] at HGF
    obtain ⟨S, hS⟩ : ∃ S : ByteArray, old ++ ⟨#[48, 60, 53]⟩ = S := ⟨_, rfl⟩
    rw [hS] at HGF
    have HRS := Lib.hid (h5 S)
    have HOS := Lib.hid (HO5.out.set (k := k) h44 (.string S))
    have hbase : w.heap.size ≤ ga := by have := HB3.out.size; omega
    have HBS := Lib.hid (set_below12 (k := k) HB5.out hbase (.string S))
    have hb8 : -9223372036854775808 ≤ a1 ∧ a1 ≤ 9223372036854775807 := hb
    clear hi hk hrow hrs hq hv h3 h4 h5 h44 hold hbase
    go_wp2_with fail
    refine (HMI.out _).mono ?_; rintro e w' ⟨rfl, rfl⟩
    go_wp2_with fail
    refine (HMK.out _).mono ?_; rintro e w' ⟨rfl, rfl⟩
    go_wp2_with fail
    generalize w5.setCell ⟨ga, k, none⟩ (.string S) = w6 at HRS HOS HBS ⊢
    clear e0 e1 e2
    have hpl : (putG K i k S).length = K.length := putG_len _ _ _ _
    have hc0 := cnt_ok HGF.out.1 (Nat.le_trans HGF.out.2.1 (Nat.le_trans (Nat.pow_le_pow_right (by decide) (show m + 1 ≤ 4 by omega)) (by decide)))
    have HOR2 := Lib.hid (show Calls Tryz.prog 17 #[.slice (some ⟨gl, 0, none⟩) K.length c4] w6 fun e w' => ∃ A c, e = .returned (.tuple #[.slice A (rdK (putG K i k S)).length c, .int .i64 0]) ∧ GridAt w' A (rdK (putG K i k S)) ∧ Below w6.heap.size w6 w' by
      have h := oreadings (putG K i k S) (some ⟨gl, 0, none⟩) c4 w6 (HRS.out.grid hpl.symm) (by rw [hpl]; omega) (flat_small HLO.out (by rw [hpl]; exact HKL.out) (fun a ha h' => by rw [putG_row ha (by rw [← hpl]; exact ha)]; exact HDB.out.2.1 a (by rw [← hpl]; exact ha) h')) (fun r hr s hs => by have := HGF.out.2.2.2 r hr s hs; omega) (HDX.out.1.below HBS.out) (HDX.out.2.below HBS.out)
      rw [hpl] at h
      refine h.mono ?_
      rintro e w' ⟨_, h2, h3⟩
      obtain ⟨A, c, h4, h5, _⟩ := h2 hc0
      exact ⟨A, c, h4, h5, h3⟩)
    have hyl := rdK_le hc0
    have hyr : ∀ Q ∈ rdK (putG K i k S), Q.length ≤ 1099511627776 := fun Q hQ => by rw [rdK_row hQ, hpl]; omega
    have hsub := HGF.out.2.2.1
    rw [HXS.out] at hsub
    have hxr : ∀ Q ∈ XS, Q.length = K.length := fun Q hQ => rdK_row (G := K) (by rw [HXS.out]; exact hQ)
    obtain ⟨YS, hYS⟩ : ∃ YS, rdK (putG K i k S) = YS := ⟨_, rfl⟩
    rw [hYS] at HOR2 hyl hyr hsub
    have HYR := Lib.hid hyr; have HSUB := Lib.hid hsub; have HXR := Lib.hid hxr
    have hxl := HXL.out
    clear hpl hc0 hyr hsub hxr hYS
    go_wp2_with fail
    refine HOR2.out.mono ?_; rintro e w7 ⟨A7, c7, rfl, hg7, hb7⟩
    have HG7 := Lib.hid hg7
    have HB7 := Lib.hid (HBS.out.trans (hb7.mono HBS.out.size))
    have HX7 := Lib.hid ((HOS.out.grid HXR.out).later hb7)
    clear hg7 hb7
    go_wp2_with fail
    refine (HAW.out _ HB7.out).mono ?_; rintro e w8 ⟨rfl, hb8⟩
    have HG8 := Lib.hid (And.intro (HX7.out.later hb8) (HG7.out.later hb8))
    have HB8 := Lib.hid (HB7.out.trans (hb8.mono HB7.out.size))
    clear hb8
    go_wp2_with fail
    go_loopw [14, 15] (fun v14 v15 wr => ∃ j i n : Nat, i ≤ XS.length ∧ j ≤ YS.length ∧ v14 = .int .i64 j ∧ v15 = .int .i64 i ∧ (XS.drop i).Sublist (YS.drop j) ∧ wr = w8.drewN n) (fun _ v15 _ => XS.length - (intOf v15).toNat)
    case atStart => exact ⟨0, 0, 0, Nat.zero_le _, Nat.zero_le _, rfl, rfl, HSUB.out, rfl⟩
    case round =>
      obtain ⟨j, i, n, hi, hj, rfl, rfl, hsb, rfl⟩ := hrel
      have HSB := Lib.hid hsb
      clear hsb
      by_cases hlt : i < XS.length
      · have HLT := Lib.hid hlt
        obtain ⟨b, off, rfl, hc⟩ : ∃ b off, A5 = some ⟨b, off, none⟩ ∧ ∀ i (h : i < XS.length), ∃ Ai ci, w8.cell? ⟨b, off + i, none⟩ = some (.slice Ai XS[i].length ci) ∧ TextsAt w8 Ai XS[i] := by
          rcases HG8.out.1 with h | h
          · omega
          · exact h
        obtain ⟨Ai, ci, d0, t0⟩ := hc i hlt
        obtain ⟨P, hP⟩ : ∃ P, XS[i]'hlt = P := ⟨_, rfl⟩
        have hpl := HXR.out _ (List.getElem_mem hlt)
        rw [hP] at d0 t0 hpl
        have HP := Lib.hid hP; have HT0 := Lib.hid t0; have HPL := Lib.hid (show P.length ≤ 1099511627776 by rw [hpl]; omega)
        clear hc t0 hpl hP
        go_wp2_with fail
        go_loopw [14] (fun v14 wr => ∃ j n : Nat, j ≤ YS.length ∧ v14 = .int .i64 j ∧ (XS.drop i).Sublist (YS.drop j) ∧ wr = w8.drewN n) (fun v14 _ => YS.length - (intOf v14).toNat)
        case atStart => exact ⟨j, n, hj, rfl, HSB.out, rfl⟩
        case round =>
          obtain ⟨j, n, hj, rfl, hsb, rfl⟩ := hrel
          have hxd : XS.drop i = P :: XS.drop (i + 1) := by rw [List.drop_eq_getElem_cons HLT.out, HP.out]
          have hjl : j < YS.length := by
            rcases Nat.lt_or_ge j YS.length with h | h
            · exact h
            · rw [List.drop_of_length_le h, hxd] at hsb
              cases hsb
          have hyd : YS.drop j = YS[j] :: YS.drop (j + 1) := List.drop_eq_getElem_cons hjl
          obtain ⟨b2, off2, rfl, hc2⟩ : ∃ b off, A7 = some ⟨b, off, none⟩ ∧ ∀ i (h : i < YS.length), ∃ Ai ci, w8.cell? ⟨b, off + i, none⟩ = some (.slice Ai YS[i].length ci) ∧ TextsAt w8 Ai YS[i] := by
            rcases HG8.out.2 with h | h
            · omega
            · exact h
          obtain ⟨Bi, di, d1, t1⟩ := hc2 j hjl
          have hql := HYR.out _ (List.getElem_mem hjl)
          obtain ⟨Q, hQ⟩ : ∃ Q, YS[j]'hjl = Q := ⟨_, rfl⟩
          rw [hQ] at d1 t1 hql hyd
          have HNX := Lib.hid (show P ≠ Q → (XS.drop i).Sublist (YS.drop (j + 1)) from fun hne => by
            rw [hyd] at hsb
            rw [hxd] at hsb ⊢
            cases hsb with
            | cons _ h => exact h
            | cons_cons _ h => exact absurd rfl hne)
          have HNY := Lib.hid (show (XS.drop (i + 1)).Sublist (YS.drop j) from by
            rw [hxd] at hsb
            exact (List.sublist_cons_self _ _).trans hsb)
          have HS := Lib.hid (show ∀ m, Calls Tryz.prog 22 #[.slice Ai P.length ci, .slice Bi Q.length di] (w8.drewN (n + m)) fun e w' => e = .returned (.bool (decide (P = Q))) ∧ ∃ k, w' = w8.drewN (n + k) from fun m => by
            have hb : Below w8.heap.size w8 (w8.drewN (n + m)) := below_drewN (Below.refl _ _) _
            refine (rsame _ Ai Bi P Q ci di (HT0.out.later hb) (t1.later hb) HPL.out hql).mono ?_
            rintro e w' ⟨h, k, h'⟩
            exact ⟨h, m + k, by rw [h', World.drewN_drewN, Nat.add_assoc]⟩)
          have HJL := Lib.hid hjl
          have hji : (j : Int) < (YS.length : Int) := by omega
          have hii : (i : Int) < (XS.length : Int) := by omega
          have hjd : decide ((j : Int) < (YS.length : Int)) = true := decide_eq_true hji
          have hje : ¬ ((j : Int) = (YS.length : Int)) := by omega
          clear hsb hxd hyd hc2 t1 hql hQ hjl hj
          by_cases hPQ : P = Q
          · have hdec : decide (P = Q) = true := decide_eq_true hPQ
            rw [hdec] at HS
            clear hdec hPQ
            go_wp2_with fail
            go_quiet (first | (go_at_call 22; exact HS.out _))
            go_wp2_with fail
            go_roundw
            case rel => exact ⟨j, i + 1, _, HLT.out, Nat.le_of_lt HJL.out, rfl, by go_num, HNY.out, rfl⟩
            case measure => have := HLT.out; simp [intOf]; omega
          · have hdec : decide (P = Q) = false := decide_eq_false hPQ
            rw [hdec] at HS
            have HNX2 := Lib.hid (HNX.out hPQ)
            clear hdec hPQ
            go_wp2_with fail
            go_quiet (first | (go_at_call 22; exact HS.out _))
            go_wp2_with fail
            go_roundw
            case rel => exact ⟨j + 1, _, HJL.out, by go_num, HNX2.out, rfl⟩
            case measure => have := HJL.out; simp [intOf]; omega
      · obtain rfl : i = XS.length := by omega
        have hii : ¬ ((XS.length : Int) < (XS.length : Int)) := by omega
        go_wp2_with fail
        go_ret
        exact ⟨rfl, below_drewN HB8.out n⟩
  · have e1 : decide (n ≤ 400) = false := decide_eq_false hn
    rw [e1]
    clear e1
    go_wp2_with fail
    refine (HAW.out _ (Below.refl _ _)).mono ?_; rintro e w2 ⟨rfl, hb2⟩
    have HB2 := Lib.hid hb2
    clear hb2
    go_wp2_with fail
    go_ret
    exact ⟨rfl, HB2.out⟩
end Go.Proofs.YtafbhadfeemppaaGreatDoor
