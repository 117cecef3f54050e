/- Chapter 12: several texts in one (RdLaw4, RdLaw6). -/
import Derived.Test.YtafbhadfeemppaaGreatDoorRdGU
import Derived.BigQuiet
namespace Go.Proofs.YtafbhadfeemppaaGreatDoor
open Go.RowKit Go.ChangeShapes Go.WideShapes

set_option maxRecDepth 100000 in
set_option maxHeartbeats 8000000 in
theorem walkReadingGrows {H : Type} {enc : TypeId × Value → H} {X : Prop} (w : World) (v : Value) (d : DataW H) {b0 : Nat} {p : List MemPlace} {r : Reach} (hv : Value.okWide Tryz.prog w r b0 25 v) (hd : DataW.Trod enc Tryz.prog w 0 (fun _ => true) true 25 v d p)
    (a1 : Int) (w1 : (Lit.int .i64 a1).wf = true) (_hsz : X) (hL : laidMetH Tryz.prog Rows.readingGrowsRow.laid w) (hsh : w.ShapedOpen Tryz.prog) :
    Calls Tryz.prog 6 #[v, .int .i64 a1] w fun e w' => e = .returned (.bool true) ∧ Below w.heap.size w w' := by
  obtain ⟨A, n, c, rfl, hnc, hcm, hl⟩ := open_list hv hd
  have hb := bounds_i64 w1
  have hnm := Nat.le_trans hnc hcm
  have HDX := Lib.hid (And.intro (laid_dat (by kernel_rfl) hL) (Opt.lax_of hsh))
  have HAW := Lib.hid (fun W (h : Below w.heap.size w W) => oawake W (HDX.out.1.below h) (HDX.out.2.below h))
  have HL := Lib.hid hl
  clear hL hsh hv hd hl w1
  go_enter Tryz.func6, Tryz.ntmps6
  go_wp2_with fail
  refine (made_light _ _ _ _ hnm).mono ?_; rintro e w' ⟨rfl, rfl⟩
  by_cases hn : n ≤ 400
  · have e1 : decide (n ≤ 400) = true := decide_eq_true hn
    rw [e1]
    clear e1
    go_wp2_with fail
    refine (made_roll _ _ _ _ hn hnc HL.out).mono ?_; rintro e w2 ⟨rfl, hd2, hb2⟩
    obtain ⟨g, hg⟩ : ∃ g, w.heap.size = g := ⟨_, rfl⟩
    have HB2 := Lib.hid hb2
    rw [hg] at hd2 ⊢
    have HD2 := Lib.hid hd2; have HG := Lib.hid hg
    clear hd2 hb2 hg hnc hcm hnm
    go_wp2_with fail
    refine (made_lines g w2 HD2.out).mono ?_; rintro e w3 ⟨A3, c3, R, rfl, hlo, ht3, hd3, hg3⟩
    have HLO := Lib.hid hlo; have HB3 := Lib.hid (below_dice12 HB2.out hg3 (Nat.le_of_eq HG.out))
    have HSM := Lib.hid hlo.small
    have HOD := Lib.hid (odoubt g R A3 c3 3 w3 hd3 ht3 (by have := hlo.small.1; omega) (fun s hs => by have := hlo.small.2 s hs; omega) (by decide))
    clear hlo ht3 hd3 hg3
    go_wp2_with fail
    refine HOD.out.mono ?_; rintro e w4 ⟨v4, vs, K, inn, m, hm, rfl, hdb, hw4⟩
    have HDB := Lib.hid hdb; have HW4 := Lib.hid hw4
    have HB4 := Lib.hid (below_dice12 HB3.out hw4.2.2.1 (Nat.le_of_eq HG.out))
    obtain ⟨A4, c4, rfl, _, _⟩ := own_form hw4.1.1
    have hkl : K.length = R.length := hdb.1
    have HKL := Lib.hid hkl
    have hc0 := cnt_ok (dbt_ok HLO.out hdb) (Nat.le_trans hdb.2.2.2.1 (Nat.le_trans (Nat.pow_le_pow_right (by decide) hm) (by decide)))
    have HOR := Lib.hid (show Calls Tryz.prog 17 #[.slice A4 K.length c4] w4 fun e w' => ∃ A c, e = .returned (.tuple #[.slice A (rdK K).length c, .int .i64 0]) ∧ OwnGrid w' w4.heap.size A c (rdK K) K.length ∧ Below w4.heap.size w4 w' by
      refine (oreadings K A4 c4 w4 (hw4.1.grid rfl) (by have := HSM.out.1; omega) (flat_small HLO.out hkl hdb.2.1) (fun r hr s hs => by have := (hdb.2.2.1 r hr s hs).2; omega) (HDX.out.1.below HB4.out) (HDX.out.2.below HB4.out)).mono ?_
      rintro e w' ⟨_, h2, h3⟩
      obtain ⟨A, c, h4, _, h5⟩ := h2 hc0
      exact ⟨A, c, h4, h5, h3⟩)
    have hxl := rdK_le hc0
    obtain ⟨XS, hXS⟩ : ∃ XS, rdK K = XS := ⟨_, rfl⟩
    rw [hXS] at HOR hxl
    have HXS := Lib.hid hXS; have HXL := Lib.hid hxl
    have hm3 := hm
    clear hdb hw4 hkl hc0 hXS hxl hm
    go_wp2_with fail
    refine HOR.out.mono ?_; rintro e w5 ⟨A5, c5, rfl, ho5, hb5⟩
    have HO5 := Lib.hid ho5
    have HB5 := Lib.hid (HB4.out.trans (hb5.mono HB4.out.size))
    have HR5 := Lib.hid (HW4.out.1.later hb5); have HZ5 := Lib.hid hb5.size; have HB45 := Lib.hid hb5
    clear ho5 hb5
    have hKn : 0 < K.length ∧ K.length ≤ 3 := by have := HSM.out.1; have := HKL.out; omega
    obtain ⟨i, hi⟩ : ∃ i : Nat, a1 % (K.length : Int) = (i : Int) := ⟨(a1 % (K.length : Int)).toNat, by have := Int.emod_nonneg a1 (b := (K.length : Int)) (by omega); omega⟩
    have hik : i < K.length := by have := Int.emod_lt_of_pos a1 (b := (K.length : Int)) (by omega); omega
    have HMI := Lib.hid (show ∀ W, Calls Tryz.prog 25 #[.int .i64 a1, .int .i64 (K.length : Int)] W fun e w' => e = .returned (.int .i64 (i : Int)) ∧ W = w' from fun W => by
      have h := made_mod a1 (K.length : Int) W hb.1 hb.2 (by omega) (by omega)
      rw [hi] at h
      exact h)
    have HIK := Lib.hid hik
    have hrow := HDB.out.2.1 i hik (by rw [← HKL.out]; exact hik)
    have hrs := HSM.out.2 _ (List.getElem_mem (l := R) (n := i) (by rw [← HKL.out]; exact hik))
    obtain ⟨q, hq⟩ : ∃ q, (K[i]'HIK.out).length = q := ⟨_, rfl⟩
    have hq1 : 30 ≤ q ∧ q ≤ 44 := by rw [← hq, hrow]; exact hrs
    obtain ⟨k, hk⟩ : ∃ k : Nat, a1 / 8 % (q : Int) = (k : Int) := ⟨(a1 / 8 % (q : Int)).toNat, by have := Int.emod_nonneg (a1 / 8) (b := (q : Int)) (by omega); omega⟩
    have hkq : k < q := by have := Int.emod_lt_of_pos (a1 / 8) (b := (q : Int)) (by omega); omega
    have HMK := Lib.hid (show ∀ W, Calls Tryz.prog 25 #[.int .i64 (a1 / 8), .int .i64 (q : Int)] W fun e w' => e = .returned (.int .i64 (k : Int)) ∧ W = w' from fun W => by
      have h := made_mod (a1 / 8) (q : Int) W (by omega) (by omega) (by omega) (by omega)
      rw [hk] at h
      exact h)
    have HKQ := Lib.hid (show k < (K[i]'HIK.out).length by rw [hq]; exact hkq)
    obtain ⟨gl, cl, ga, ca, hv, e0, e1, e2, h3, h4, h5⟩ := HR5.out.place HIK.out HKQ.out
    have h44 : ga < w4.heap.size := by
      obtain ⟨g', c', ga', ca', hv', e0', -, -, -, h4', -⟩ := HW4.out.1.place HIK.out HKQ.out
      have e5 := cell_later HB45.out e0'
      rw [hv] at hv'
      simp only [Value.slice.injEq, Option.some.injEq, Addr.mk.injEq] at hv'
      obtain ⟨⟨rfl, -⟩, -⟩ := hv'
      rw [e0] at e5
      simp only [Option.some.injEq, Value.slice.injEq, Addr.mk.injEq] at e5
      omega
    rw [hq] at e0
    obtain ⟨rfl, rfl⟩ : A4 = some ⟨gl, 0, none⟩ ∧ c4 = cl := by
      simp only [Value.slice.injEq] at hv
      exact ⟨hv.1, hv.2.2⟩
    obtain ⟨old, hold⟩ : ∃ old, (K[i]'HIK.out)[k]'HKQ.out = old := ⟨_, rfl⟩
    rw [hold] at e1
    have hos := (HDB.out.2.2.1 _ (List.getElem_mem HIK.out) _ (List.getElem_mem HKQ.out)).2
    rw [hold] at hos
    have HGF := Lib.hid (grow_facts HLO.out HDB.out HIK.out HKQ.out ⟨#[48, 60, 53]⟩ (by decide))
    rw [hold] at HGF
    obtain ⟨S, hS⟩ : ∃ S : ByteArray, old ++ ⟨#[48, 60, 53]⟩ = S := ⟨_, rfl⟩
    rw [hS] at HGF
    have HRS := Lib.hid (h5 S)
    have HOS := Lib.hid (HO5.out.set (k := k) h44 (.string S))
    have hbase : w.heap.size ≤ ga := by have := HB3.out.size; omega
    have HBS := Lib.hid (set_below12 (k := k) HB5.out hbase (.string S))
    have hb8 : -9223372036854775808 ≤ a1 ∧ a1 ≤ 9223372036854775807 := hb
    clear hi hk hrow hrs hq hv h3 h4 h5 h44 hold hbase
    go_wp2_with fail
    refine (HMI.out _).mono ?_; rintro e w' ⟨rfl, rfl⟩
    go_wp2_with fail
    refine (HMK.out _).mono ?_; rintro e w' ⟨rfl, rfl⟩
    go_wp2_with fail
    generalize w5.setCell ⟨ga, k, none⟩ (.string S) = w6 at HRS HOS HBS ⊢
    clear e0 e1 e2
    have hpl : (putG K i k S).length = K.length := putG_len _ _ _ _
    have hc0 := cnt_ok HGF.out.1 (Nat.le_trans HGF.out.2.1 (Nat.le_trans (Nat.pow_le_pow_right (by decide) (show m + 1 ≤ 4 by omega)) (by decide)))
    have HOR2 := Lib.hid (show Calls Tryz.prog 17 #[.slice (some ⟨gl, 0, none⟩) K.length c4] w6 fun e w' => ∃ A c, e = .returned (.tuple #[.slice A (rdK (putG K i k S)).length c, .int .i64 0]) ∧ GridAt w' A (rdK (putG K i k S)) ∧ Below w6.heap.size w6 w' by
      have h := oreadings (putG K i k S) (some ⟨gl, 0, none⟩) c4 w6 (HRS.out.grid hpl.symm) (by rw [hpl]; omega) (flat_small HLO.out (by rw [hpl]; exact HKL.out) (fun a ha h' => by rw [putG_row ha (by rw [← hpl]; exact ha)]; exact HDB.out.2.1 a (by rw [← hpl]; exact ha) h')) (fun r hr s hs => by have := HGF.out.2.2.2 r hr s hs; omega) (HDX.out.1.below HBS.out) (HDX.out.2.below HBS.out)
      rw [hpl] at h
      refine h.mono ?_
      rintro e w' ⟨_, h2, h3⟩
      obtain ⟨A, c, h4, h5, _⟩ := h2 hc0
      exact ⟨A, c, h4, h5, h3⟩)
    have hyl := rdK_le hc0
    have hyr : ∀ Q ∈ rdK (putG K i k S), Q.length ≤ 1099511627776 := fun Q hQ => by rw [rdK_row hQ, hpl]; omega
    have hsub := HGF.out.2.2.1
    rw [HXS.out] at hsub
    have hxr : ∀ Q ∈ XS, Q.length = K.length := fun Q hQ => rdK_row (G := K) (by rw [HXS.out]; exact hQ)
    obtain ⟨YS, hYS⟩ : ∃ YS, rdK (putG K i k S) = YS := ⟨_, rfl⟩
    rw [hYS] at HOR2 hyl hyr hsub
    have HYR := Lib.hid hyr; have HSUB := Lib.hid hsub; have HXR := Lib.hid hxr
    have hxl := HXL.out
    clear hpl hc0 hyr hsub hxr hYS
    go_wp2_with fail
    refine HOR2.out.mono ?_; rintro e w7 ⟨A7, c7, rfl, hg7, hb7⟩
    have HG7 := Lib.hid hg7
    have HB7 := Lib.hid (HBS.out.trans (hb7.mono HBS.out.size))
    have HX7 := Lib.hid ((HOS.out.grid HXR.out).later hb7)
    clear hg7 hb7
    go_wp2_with fail
    refine (HAW.out _ HB7.out).mono ?_; rintro e w8 ⟨rfl, hb8⟩
    have HG8 := Lib.hid (And.intro (HX7.out.later hb8) (HG7.out.later hb8))
    have HB8 := Lib.hid (HB7.out.trans (hb8.mono HB7.out.size))
    clear hb8
    go_wp2_with fail
    go_loopw [14, 15] (fun v14 v15 wr => ∃ j i n : Nat, i ≤ XS.length ∧ j ≤ YS.length ∧ v14 = .int .i64 j ∧ v15 = .int .i64 i ∧ (XS.drop i).Sublist (YS.drop j) ∧ wr = w8.drewN n) (fun _ v15 _ => XS.length - (intOf v15).toNat)
    case atStart => exact ⟨0, 0, 0, Nat.zero_le _, Nat.zero_le _, rfl, rfl, HSUB.out, rfl⟩
    case round =>
      obtain ⟨j, i, n, hi, hj, rfl, rfl, hsb, rfl⟩ := hrel
      have HSB := Lib.hid hsb
      clear hsb
      by_cases hlt : i < XS.length
      · have HLT := Lib.hid hlt
        obtain ⟨b, off, rfl, hc⟩ : ∃ b off, A5 = some ⟨b, off, none⟩ ∧ ∀ i (h : i < XS.length), ∃ Ai ci, w8.cell? ⟨b, off + i, none⟩ = some (.slice Ai XS[i].length ci) ∧ TextsAt w8 Ai XS[i] := by
          rcases HG8.out.1 with h | h
          · omega
          · exact h
        obtain ⟨Ai, ci, d0, t0⟩ := hc i hlt
        obtain ⟨P, hP⟩ : ∃ P, XS[i]'hlt = P := ⟨_, rfl⟩
        have hpl := HXR.out _ (List.getElem_mem hlt)
        rw [hP] at d0 t0 hpl
        have HP := Lib.hid hP; have HT0 := Lib.hid t0; have HPL := Lib.hid (show P.length ≤ 1099511627776 by rw [hpl]; omega)
        clear hc t0 hpl hP
        go_wp2_with fail
        go_loopw [14] (fun v14 wr => ∃ j n : Nat, j ≤ YS.length ∧ v14 = .int .i64 j ∧ (XS.drop i).Sublist (YS.drop j) ∧ wr = w8.drewN n) (fun v14 _ => YS.length - (intOf v14).toNat)
        case atStart => exact ⟨j, n, hj, rfl, HSB.out, rfl⟩
        case round =>
          obtain ⟨j, n, hj, rfl, hsb, rfl⟩ := hrel
          have hxd : XS.drop i = P :: XS.drop (i + 1) := by rw [List.drop_eq_getElem_cons HLT.out, HP.out]
          have hjl : j < YS.length := by
            rcases Nat.lt_or_ge j YS.length with h | h
            · exact h
            · rw [List.drop_of_length_le h, hxd] at hsb
              cases hsb
          have hyd : YS.drop j = YS[j] :: YS.drop (j + 1) := List.drop_eq_getElem_cons hjl
          obtain ⟨b2, off2, rfl, hc2⟩ : ∃ b off, A7 = some ⟨b, off, none⟩ ∧ ∀ i (h : i < YS.length), ∃ Ai ci, w8.cell? ⟨b, off + i, none⟩ = some (.slice Ai YS[i].length ci) ∧ TextsAt w8 Ai YS[i] := by
            rcases HG8.out.2 with h | h
            · omega
            · exact h
          obtain ⟨Bi, di, d1, t1⟩ := hc2 j hjl
          have hql := HYR.out _ (List.getElem_mem hjl)
          obtain ⟨Q, hQ⟩ : ∃ Q, YS[j]'hjl = Q := ⟨_, rfl⟩
          rw [hQ] at d1 t1 hql hyd
          have HNX := Lib.hid (show P ≠ Q → (XS.drop i).Sublist (YS.drop (j + 1)) from fun hne => by
            rw [hyd] at hsb
            rw [hxd] at hsb ⊢
            cases hsb with
            | cons _ h => exact h
            | cons_cons _ h => exact absurd rfl hne)
          have HNY := Lib.hid (show (XS.drop (i + 1)).Sublist (YS.drop j) from by
            rw [hxd] at hsb
            exact (List.sublist_cons_self _ _).trans hsb)
          have HS := Lib.hid (show ∀ m, Calls Tryz.prog 22 #[.slice Ai P.length ci, .slice Bi Q.length di] (w8.drewN (n + m)) fun e w' => e = .returned (.bool (decide (P = Q))) ∧ ∃ k, w' = w8.drewN (n + k) from fun m => by
            have hb : Below w8.heap.size w8 (w8.drewN (n + m)) := below_drewN (Below.refl _ _) _
            refine (rsame _ Ai Bi P Q ci di (HT0.out.later hb) (t1.later hb) HPL.out hql).mono ?_
            rintro e w' ⟨h, k, h'⟩
            exact ⟨h, m + k, by rw [h', World.drewN_drewN, Nat.add_assoc]⟩)
          have HJL := Lib.hid hjl
          have hji : (j : Int) < (YS.length : Int) := by omega
          have hii : (i : Int) < (XS.length : Int) := by omega
          have hjd : decide ((j : Int) < (YS.length : Int)) = true := decide_eq_true hji
          have hje : ¬ ((j : Int) = (YS.length : Int)) := by omega
          clear hsb hxd hyd hc2 t1 hql hQ hjl hj
          by_cases hPQ : P = Q
          · have hdec : decide (P = Q) = true := decide_eq_true hPQ
            rw [hdec] at HS
            clear hdec hPQ
            go_wp2_with fail
            go_quiet (first | (go_at_call 22; exact HS.out _))
            go_wp2_with fail
            go_roundw
            case rel => exact ⟨j, i + 1, _, HLT.out, Nat.le_of_lt HJL.out, rfl, by go_num, HNY.out, rfl⟩
            case measure => have := HLT.out; simp [intOf]; omega
          · have hdec : decide (P = Q) = false := decide_eq_false hPQ
            rw [hdec] at HS
            have HNX2 := Lib.hid (HNX.out hPQ)
            clear hdec hPQ
            go_wp2_with fail
            go_quiet (first | (go_at_call 22; exact HS.out _))
            go_wp2_with fail
            go_roundw
            case rel => exact ⟨j + 1, _, HJL.out, by go_num, HNX2.out, rfl⟩
            case measure => have := HJL.out; simp [intOf]; omega
      · obtain rfl : i = XS.length := by omega
        have hii : ¬ ((XS.length : Int) < (XS.length : Int)) := by omega
        go_wp2_with fail
        go_ret
        exact ⟨rfl, below_drewN HB8.out n⟩
  · have e1 : decide (n ≤ 400) = false := decide_eq_false hn
    rw [e1]
    clear e1
    go_wp2_with fail
    refine (HAW.out _ (Below.refl _ _)).mono ?_; rintro e w2 ⟨rfl, hb2⟩
    have HB2 := Lib.hid hb2
    clear hb2
    go_wp2_with fail
    go_ret
    exact ⟨rfl, HB2.out⟩
end Go.Proofs.YtafbhadfeemppaaGreatDoor

namespace Go.Proofs.YtafbhadfeemppaaGreatDoor
open Go.RowKit Go.ChangeShapes Go.WideShapes

theorem TextsAt.here {w : World} {b off : Nat} {K : List ByteArray} (h : TextsAt w (some ⟨b, off, none⟩) K) (i : Nat) (hi : i < K.length) : w.cell? ⟨b, off + i, none⟩ = some (.string K[i]) := by
  obtain ⟨b', off', e, hc⟩ := h.cell i hi
  injection e with e
  injection e with e1 e2
  subst e1; subst e2
  exact hc
set_option maxRecDepth 100000 in
set_option maxHeartbeats 8000000 in
theorem walkReadingReads {H : Type} {enc : TypeId × Value → H} {X : Prop} (w : World) (v : Value) (d : DataW H) {b0 : Nat} {p : List MemPlace} {r : Reach} (hv : Value.okWide Tryz.prog w r b0 25 v) (hd : DataW.Trod enc Tryz.prog w 0 (fun _ => true) true 25 v d p)
    (_hsz : X) (hL : laidMetH Tryz.prog Rows.readingReadsRow.laid w) (hsh : w.ShapedOpen Tryz.prog) :
    Calls Tryz.prog 7 #[v] w fun e w' => e = .returned (.bool true) ∧ Below w.heap.size w w' := by
  obtain ⟨A, n, c, rfl, hnc, hcm, hl⟩ := open_list hv hd
  have hnm := Nat.le_trans hnc hcm
  have HDX := Lib.hid (And.intro (laid_dat (by kernel_rfl) hL) (Opt.lax_of hsh))
  have HAW := Lib.hid (fun W (h : Below w.heap.size w W) => oawake W (HDX.out.1.below h) (HDX.out.2.below h))
  have HL := Lib.hid hl
  clear hL hsh hv hd hl
  go_enter Tryz.func7, Tryz.ntmps7
  go_wp2_with fail
  refine (made_light _ _ _ _ hnm).mono ?_; rintro e w' ⟨rfl, rfl⟩
  by_cases hn : n ≤ 400
  · have e1 : decide (n ≤ 400) = true := decide_eq_true hn
    rw [e1]
    clear e1
    go_wp2_with fail
    refine (made_roll _ _ _ _ hn hnc HL.out).mono ?_; rintro e w2 ⟨rfl, hd2, hb2⟩
    obtain ⟨g, hg⟩ : ∃ g, w.heap.size = g := ⟨_, rfl⟩
    have HB2 := Lib.hid hb2
    rw [hg] at hd2 ⊢
    have HD2 := Lib.hid hd2; have HG := Lib.hid hg
    clear hd2 hb2 hg hnc hcm hnm
    go_wp2_with fail
    refine (made_lines g w2 HD2.out).mono ?_; rintro e w3 ⟨A3, c3, R, rfl, hlo, ht3, hd3, hg3⟩
    have HLO := Lib.hid hlo; have HB3 := Lib.hid (below_dice12 HB2.out hg3 (Nat.le_of_eq HG.out))
    have HSM := Lib.hid hlo.small
    have HOD := Lib.hid (odoubt g R A3 c3 4 w3 hd3 ht3 (by have := hlo.small.1; omega) (fun s hs => by have := hlo.small.2 s hs; omega) (by decide))
    clear hlo ht3 hd3 hg3
    go_wp2_with fail
    refine HOD.out.mono ?_; rintro e w4 ⟨v4, vs, K, inn, m, hm, rfl, hdb, hw4⟩
    have HDB := Lib.hid hdb; have HW4 := Lib.hid hw4
    have HB4 := Lib.hid (below_dice12 HB3.out hw4.2.2.1 (Nat.le_of_eq HG.out))
    obtain ⟨A4, c4, rfl, _, _⟩ := own_form hw4.1.1
    have hkl : K.length = R.length := hdb.1
    have HKL := Lib.hid hkl
    have hc0 := cnt_ok (dbt_ok HLO.out hdb) (Nat.le_trans hdb.2.2.2.1 (Nat.le_trans (Nat.pow_le_pow_right (by decide) hm) (by decide)))
    have HOR := Lib.hid (show Calls Tryz.prog 17 #[.slice A4 K.length c4] w4 fun e w' => ∃ A c, e = .returned (.tuple #[.slice A (rdK K).length c, .int .i64 0]) ∧ OwnGrid w' w4.heap.size A c (rdK K) K.length ∧ Below w4.heap.size w4 w' by
      refine (oreadings K A4 c4 w4 (hw4.1.grid rfl) (by have := HSM.out.1; omega) (flat_small HLO.out hkl hdb.2.1) (fun r hr s hs => by have := (hdb.2.2.1 r hr s hs).2; omega) (HDX.out.1.below HB4.out) (HDX.out.2.below HB4.out)).mono ?_
      rintro e w' ⟨_, h2, h3⟩
      obtain ⟨A, c, h4, _, h5⟩ := h2 hc0
      exact ⟨A, c, h4, h5, h3⟩)
    have hxl := rdK_le hc0
    obtain ⟨XS, hXS⟩ : ∃ XS, rdK K = XS := ⟨_, rfl⟩
    rw [hXS] at HOR hxl
    have HXS := Lib.hid hXS; have HXL := Lib.hid hxl
    have hm3 := hm
    clear hdb hw4 hkl hc0 hXS hxl hm
    go_wp2_with fail
    refine HOR.out.mono ?_; rintro e w5 ⟨A5, c5, rfl, ho5, hb5⟩
    have HO5 := Lib.hid ho5
    have HB5 := Lib.hid (HB4.out.trans (hb5.mono HB4.out.size))
    have HOK := Lib.hid (dbt_ok HLO.out HDB.out)
    have HLG := Lib.hid ((HW4.out.1.grid rfl).later hb5)
    have HXR := Lib.hid (show ∀ Q ∈ XS, Q.length = K.length from fun Q hQ => rdK_row (G := K) (by rw [HXS.out]; exact hQ))
    have HXM := Lib.hid (show ∀ Q ∈ XS, _ from fun Q hQ => rdK_mem HOK.out (R := Q) (by rw [HXS.out]; exact hQ))
    have HXA := Lib.hid (show XS.Pairwise fun R S => (txts R).flatten < (txts S).flatten from by rw [← HXS.out]; exact rdK_asc HOK.out)
    have HGX := Lib.hid (ho5.grid HXR.out)
    clear ho5 hb5
    have hKn : 0 < K.length ∧ K.length ≤ 3 := by have := HSM.out.1; have := HKL.out; omega
    have HROW := Lib.hid (show ∀ i (h : i < K.length), K[i].length ≤ 44 from fun i h => by
      have h1 : i < R.length := by rw [← HKL.out]; exact h
      rw [HDB.out.2.1 i h h1]; exact (HSM.out.2 _ (List.getElem_mem h1)).2)
    have HCZ := Lib.hid (show ∀ i (h : i < K.length), ∀ s ∈ K[i], s.size ≤ 13 from fun i h s hs => by have := (HDB.out.2.2.1 _ (List.getElem_mem h) s hs).2; omega)
    go_wp2_with fail
    refine (HAW.out _ HB5.out).mono ?_; rintro e w8 ⟨rfl, hb8⟩
    have HG8 := Lib.hid (And.intro (HGX.out.later hb8) (HLG.out.later hb8))
    have HB8 := Lib.hid (HB5.out.trans (hb8.mono HB5.out.size))
    clear hb8
    have hxl := HXL.out
    go_wp2_with fail
    go_loopw [8, 9] (fun v8 v9 wr => ∃ (n : Nat) (L : ByteArray), n ≤ XS.length ∧ v9 = .int .i64 n ∧ v8 = .string L ∧ (0 < n → ∃ h : n - 1 < XS.length, L = catS XS[n - 1]) ∧ Below w8.heap.size w8 wr) (fun _ v9 _ => XS.length - (intOf v9).toNat)
    case atStart => exact ⟨0, ⟨#[]⟩, Nat.zero_le _, rfl, rfl, fun h => absurd h (by omega), Below.refl _ _⟩
    case round =>
      obtain ⟨n, L, hn2, rfl, rfl, hl1, hbr⟩ := hrel
      have HBR := Lib.hid hbr; have HL1 := Lib.hid hl1
      clear hl1
      by_cases hlt : n < XS.length
      · have HLT := Lib.hid hlt
        obtain ⟨b, off, rfl, hc⟩ : ∃ b off, A5 = some ⟨b, off, none⟩ ∧ ∀ i (h : i < XS.length), ∃ Ai ci, w8.cell? ⟨b, off + i, none⟩ = some (.slice Ai XS[i].length ci) ∧ TextsAt w8 Ai XS[i] := by
          rcases HG8.out.1 with h | h
          · omega
          · exact h
        obtain ⟨bl, offl, hA4, hcl⟩ : ∃ b off, A4 = some ⟨b, off, none⟩ ∧ ∀ i (h : i < K.length), ∃ Ai ci, w8.cell? ⟨b, off + i, none⟩ = some (.slice Ai K[i].length ci) ∧ TextsAt w8 Ai K[i] := by
          rcases HG8.out.2 with h | h
          · omega
          · exact h
        subst hA4
        obtain ⟨An, cn, d0, t0⟩ := hc n hlt
        obtain ⟨P, hP⟩ : ∃ P, XS[n]'hlt = P := ⟨_, rfl⟩
        have hPm := List.getElem_mem hlt
        rw [hP] at d0 t0 hPm
        have hPl := HXR.out P hPm
        obtain ⟨hPE, hPK⟩ := HXM.out P hPm
        obtain ⟨ba, offa, rfl, -⟩ := t0.cell 0 (by omega)
        have hPs : ∀ s ∈ P, s.size ≤ 44 := fun s hs => by
          obtain ⟨i, hi, rfl⟩ := List.getElem_of_mem hs
          have hi' : i < K.length := by omega
          rw [(hPK i hi' hi).1]; exact HROW.out i hi'
        obtain ⟨V, hV⟩ : ∃ V, Zn.prsV (txts P) = V := ⟨_, rfl⟩
        have HPZ := Lib.hid (show Calls Tryz.prog 26 #[.slice (some ⟨ba, offa, none⟩) K.length cn] wr fun e w' => e = .returned (.tuple #[.agg #[.int .i64 V.fmt, .string V.kind, .string V.state, .string V.sur, .string V.giv, .string V.num, .string V.nat, .string V.birth, .string V.sex, .string V.exp, .string V.opt, .string V.sec], .int .i64 0]) ∧ Below wr.heap.size wr w' from by
          have h := zparse P (some ⟨ba, offa, none⟩) cn wr (by omega) (fun s hs => by have := hPs s hs; omega) (t0.later hbr) (HDX.out.1.below (HB8.out.trans (hbr.mono HB8.out.size))) (HDX.out.2.below (HB8.out.trans (hbr.mono HB8.out.size)))
          rw [hV, hPE, hPl] at h
          exact h)
        rw [hPl] at d0
        have HD0 := Lib.hid (fun W (h : Below w8.heap.size w8 W) => cell_later h d0)
        have HT0 := Lib.hid (show ∀ W, Below w8.heap.size w8 W → ∀ i (h : i < P.length), W.cell? ⟨ba, offa + i, none⟩ = some (.string P[i]) from fun W h i hi => (t0.later h).here i hi)
        have HCL := Lib.hid (show ∀ i (h : i < K.length), ∃ bi offi ci, (∀ W, Below w8.heap.size w8 W → W.cell? ⟨bl, offl + i, none⟩ = some (.slice (some ⟨bi, offi, none⟩) K[i].length ci)) ∧ ∀ W, Below w8.heap.size w8 W → ∀ k (hk : k < K[i].length), W.cell? ⟨bi, offi + k, none⟩ = some (.string K[i][k]) from fun i hi => by
          obtain ⟨Ai, ci, h1, h2⟩ := hcl i hi
          have hpos : 0 < K[i].length := by
            obtain ⟨hsh, hall, _⟩ := okG_shape HOK.out
            rw [hall _ (List.getElem_mem hi)]; omega
          obtain ⟨bi, offi, rfl, _⟩ := h2.cell 0 hpos
          exact ⟨bi, offi, ci, fun W h => cell_later h h1, fun W h k hk => (h2.later h).here k hk⟩)
        have HPK := Lib.hid hPK; have HPL := Lib.hid hPl; have HP := Lib.hid hP; have HPS := Lib.hid hPs
        have d1 := HD0.out wr HBR.out
        have e1 : ((K.length : Int) != (K.length : Int)) = false := by rw [bne_eq_false_iff_eq]
        clear hc hcl d0 t0 hP hPm hPl hPE hPK hPs hV hbr
        go_wp2_with fail
        refine HPZ.out.mono ?_; rintro e w9 ⟨rfl, hb9⟩
        have hb10 := hb9.alloc hb9.size (.cells #[.int .i64 V.fmt, .string V.kind, .string V.state, .string V.sur, .string V.giv, .string V.num, .string V.nat, .string V.birth, .string V.sex, .string V.exp, .string V.opt, .string V.sec] 42)
        go_upto_region 13 with fail
        generalize w9.alloc (.cells #[.int .i64 V.fmt, .string V.kind, .string V.state, .string V.sur, .string V.giv, .string V.num, .string V.nat, .string V.birth, .string V.sex, .string V.exp, .string V.opt, .string V.sec] 42) = w10 at hb10 ⊢
        have HB10 := Lib.hid (HBR.out.trans (hb10.mono HBR.out.size))
        clear hb9 hb10 d1
        have d1 := HD0.out w10 HB10.out
        go_wp2_with fail
        clear e1 d1
        go_loopw [12, 13] (fun v12 v13 wr => ∃ i : Nat, i ≤ K.length ∧ v13 = .int .i64 i ∧ v12 = .string (catS (P.take i)) ∧ Below w8.heap.size w8 wr) (fun _ v13 _ => K.length - (intOf v13).toNat)
        case atStart => exact ⟨0, Nat.zero_le _, rfl, rfl, HB10.out⟩
        case round =>
          obtain ⟨i, hi, rfl, rfl, hbi⟩ := hrel
          have HBI := Lib.hid hbi
          clear hbi
          by_cases hik : i < K.length
          · have hiP : i < P.length := by rw [HPL.out]; exact hik
            obtain ⟨bi, offi, ci, g1, g2⟩ := HCL.out i hik
            obtain ⟨T, hT⟩ : ∃ T, P[i]'hiP = T := ⟨_, rfl⟩
            obtain ⟨hsz, hin⟩ := HPK.out i hik hiP
            obtain ⟨q, hq⟩ : ∃ q, (K[i]'hik).length = q := ⟨_, rfl⟩
            have hq44 : q ≤ 44 := by rw [← hq]; exact HROW.out i hik
            have d2 := HT0.out wr HBI.out i hiP
            have d3 := g1 wr HBI.out
            have d1 := HD0.out wr HBI.out
            rw [hT, hq] at hsz
            rw [hT] at d2
            rw [hq] at d3
            have HIK := Lib.hid hik
            have HT := Lib.hid (show P[i]'hiP = T from hT)
            have HG1 := Lib.hid (show ∀ W, Below w8.heap.size w8 W → W.cell? ⟨bl, offl + i, none⟩ = some (.slice (some ⟨bi, offi, none⟩) q ci) from fun W h => by have := g1 W h; rwa [hq] at this)
            have HT2 := Lib.hid (show ∀ W, Below w8.heap.size w8 W → W.cell? ⟨ba, offa + i, none⟩ = some (.string T) from fun W h => by have := HT0.out W h i hiP; rwa [hT] at this)
            have HQ := Lib.hid (show ∀ k (hk : k < q), ∃ s : ByteArray, s.size ≤ 13 ∧ (∀ W, Below w8.heap.size w8 W → W.cell? ⟨bi, offi + k, none⟩ = some (.string s)) ∧ ∃ (hk' : k < T.size) (a : Nat) (ha : a < s.size), s[a] = T[k] from fun k hk => by
              have hk2 : k < (K[i]'hik).length := by rw [hq]; exact hk
              have hk3 : k < (P[i]'hiP).size := by rw [hT, hsz]; exact hk
              refine ⟨(K[i]'hik)[k]'hk2, HCZ.out i hik _ (List.getElem_mem hk2), fun W h => g2 W h k hk2, by rw [hsz]; exact hk, ?_⟩
              obtain ⟨a, ha, e⟩ := List.getElem_of_mem (hin k hk2 hk3)
              refine ⟨a, by rw [← Opt.size_len]; exact ha, ?_⟩
              have : ∀ (S : ByteArray) (e : P[i]'hiP = S) (h1 : k < (P[i]'hiP).size) (h2 : k < S.size), (P[i]'hiP)[k] = S[k] := fun S e h1 h2 => by subst e; rfl
              rw [← this T hT hk3 (by rw [hsz]; exact hk), ← e]; rfl)
            have e1 : ((q : Int) != (q : Int)) = false := by rw [bne_eq_false_iff_eq]
            have hne : (n : Int) < (XS.length : Int) := by have := HLT.out; omega
            have hik2 : (i : Int) < (K.length : Int) := by omega
            have HCS := Lib.hid (catS_succ hiP)
            have hcz := Nat.le_trans (catS_size (P.take i) (fun s hs => HPS.out s (List.mem_of_mem_take hs))) (show 44 * (P.take i).length ≤ 200 by rw [List.length_take]; omega)
            obtain ⟨cs, hcs⟩ : ∃ cs, catS (P.take i) = cs := ⟨_, rfl⟩
            rw [hcs] at hcz HCS ⊢
            clear g1 g2 hT hin hq hcs hi
            have hszI : (T.size : Int) = (q : Int) := by rw [hsz]
            go_wp2_with fail
            rw [← hsz] at d3 e1
            go_quiet (fail)
            go_wp2_with fail
            clear e1 d1 d2 d3
            go_loopw [14] (fun v14 wr => ∃ k : Nat, k ≤ q ∧ v14 = .int .i64 k ∧ Below w8.heap.size w8 wr) (fun v14 _ => q - (intOf v14).toNat)
            case atStart => exact ⟨0, Nat.zero_le _, rfl, below_drewN HBI.out _⟩
            case round =>
              obtain ⟨k, hk, rfl, hbk⟩ := hrel
              have HBK := Lib.hid hbk
              have c1 := HD0.out wr hbk; have c2 := HT2.out wr hbk; have c3 := HG1.out wr hbk
              clear hbk
              by_cases hkq : k < q
              · obtain ⟨s, hs13, hsc, hkT, a, ha, hsa⟩ := HQ.out k hkq
                have c4 := hsc wr HBK.out
                have HKQ := Lib.hid hkq; have HSA := Lib.hid (show s[a]'ha = T[k]'hkT from hsa); have HSC := Lib.hid hsc
                have hkq2 : (k : Int) < (q : Int) := by omega
                have hkT2 : (k : Int) < (T.size : Int) := by omega
                obtain ⟨y, hy⟩ : ∃ y, T[k]'hkT = y := ⟨_, rfl⟩
                have HY := Lib.hid hy
                clear hsa hsc hy
                go_wp2_with fail
                clear c1 c2 c3 c4
                go_loopw [15, 16] (fun v15 v16 wr => ∃ (b : Bool) (j : Nat), j ≤ s.size ∧ v16 = .int .i64 j ∧ v15 = .bool b ∧ (∀ a (h : a < s.size), a < j → s[a] = y → b = true) ∧ Below w8.heap.size w8 wr) (fun _ v16 _ => s.size - (intOf v16).toNat)
                case atStart => exact ⟨false, 0, Nat.zero_le _, rfl, rfl, fun a _ h => absurd h (by omega), HBK.out⟩
                case round =>
                  obtain ⟨bb, j, hj, rfl, rfl, hbb, hbj⟩ := hrel
                  have HBJ := Lib.hid hbj; have HBB := Lib.hid hbb
                  have c1 := HD0.out wr hbj; have c2 := HT2.out wr hbj; have c3 := HG1.out wr hbj; have c4 := HSC.out wr hbj
                  clear hbj hbb
                  by_cases hjs : j < s.size
                  · obtain ⟨x, hx⟩ : ∃ x, s[j]'hjs = x := ⟨_, rfl⟩
                    have hjs2 : (j : Int) < (s.size : Int) := by omega
                    have hy := HY.out
                    have HX := Lib.hid hx; have HJS := Lib.hid hjs
                    cases bb with
                    | true =>
                      go_wp2_with fail
                      go_quiet (fail)
                      go_wp2_with fail
                      go_roundw
                      case rel => exact ⟨true, j + 1, HJS.out, by go_num, rfl, fun _ _ _ _ => rfl, below_drewN HBJ.out _⟩
                      case measure => have := HJS.out; simp [intOf]; omega
                    | false =>
                      by_cases hxy : x = y
                      · have f1 : ((x.toNat : Int) == (y.toNat : Int)) = true := by rw [hxy]; exact beq_self_eq_true _
                        clear hxy
                        go_wp2_with fail
                        go_quiet (fail)
                        go_wp2_with fail
                        go_roundw
                        case rel => exact ⟨true, j + 1, HJS.out, by go_num, rfl, fun _ _ _ _ => rfl, below_drewN HBJ.out _⟩
                        case measure => have := HJS.out; simp [intOf]; omega
                      · have f1 : ((x.toNat : Int) == (y.toNat : Int)) = false := by
                          rw [beq_eq_false_iff_ne]; intro h; exact hxy (UInt8.toNat_inj.1 (by omega))
                        have HXY := Lib.hid hxy
                        clear hxy
                        go_wp2_with fail
                        go_quiet (fail)
                        go_wp2_with fail
                        go_roundw
                        case rel =>
                          refine ⟨false, j + 1, HJS.out, by go_num, rfl, fun a h1 h2 h3 => ?_, below_drewN HBJ.out _⟩
                          by_cases e : a = j
                          · subst e; exact absurd (HX.out.symm.trans h3) HXY.out
                          · exact HBB.out a h1 (by omega) h3
                        case measure => have := HJS.out; simp [intOf]; omega
                  · obtain rfl : j = s.size := by omega
                    have hbt : bb = true := HBB.out a ha ha (HSA.out.trans HY.out)
                    subst hbt
                    go_wp2_with fail
                    go_roundw
                    case rel => exact ⟨k + 1, HKQ.out, by go_num, HBJ.out⟩
                    case measure => have := HKQ.out; simp [intOf]; omega
              · obtain rfl : k = q := by omega
                have hsum : (cs ++ T).size = cs.size + T.size := ByteArray.size_append ..
                have HSUM := Lib.hid hsum
                clear hsum
                go_wp2_with fail
                go_roundw
                case rel => exact ⟨i + 1, HIK.out, by go_num, by rw [HCS.out, HT.out], HBK.out⟩
                case measure => have := HIK.out; simp [intOf]; omega
          · obtain rfl : i = K.length := by omega
            have hcat : P.take K.length = P := List.take_of_length_le (by rw [HPL.out]; exact Nat.le_refl _)
            rw [hcat]
            have HP2 := Lib.hid (show catS P = catS (XS[n]'HLT.out) by rw [HP.out])
            obtain ⟨C, hC⟩ : ∃ C, catS P = C := ⟨_, rfl⟩
            rw [hC] at HP2 ⊢
            have HLC := Lib.hid (show 0 < n → Op.bytesLess C.toList L.toList = false ∧ (C.toList == L.toList) = false from fun h0 => by
              obtain ⟨h1, h2⟩ := HL1.out h0
              rw [h2, HP2.out]
              exact catS_lt (List.pairwise_iff_getElem.1 HXA.out (n - 1) n h1 HLT.out (by omega)))
            clear hcat hC
            by_cases hn0 : 0 < n
            · obtain ⟨f1, f2⟩ := HLC.out hn0
              have hn0' : (0 : Int) < (n : Int) := by omega
              go_wp2_with fail
              go_roundw
              case rel => exact ⟨n + 1, C, HLT.out, by go_num, rfl, fun _ => ⟨HLT.out, HP2.out⟩, HBI.out⟩
              case measure => have := HLT.out; simp [intOf]; omega
            · have hn0' : ¬ (0 : Int) < (n : Int) := by omega
              go_wp2_with fail
              go_roundw
              case rel => exact ⟨n + 1, C, HLT.out, by go_num, rfl, fun _ => ⟨HLT.out, HP2.out⟩, HBI.out⟩
              case measure => have := HLT.out; simp [intOf]; omega
      · obtain rfl : n = XS.length := by omega
        go_wp2_with fail
        go_ret
        exact ⟨rfl, HB8.out.trans (HBR.out.mono HB8.out.size)⟩
  · have e1 : decide (n ≤ 400) = false := decide_eq_false hn
    rw [e1]
    clear e1
    go_wp2_with fail
    refine (HAW.out _ (Below.refl _ _)).mono ?_; rintro e w2 ⟨rfl, hb2⟩
    have HB2 := Lib.hid hb2
    clear hb2
    go_wp2_with fail
    go_ret
    exact ⟨rfl, HB2.out⟩
end Go.Proofs.YtafbhadfeemppaaGreatDoor
