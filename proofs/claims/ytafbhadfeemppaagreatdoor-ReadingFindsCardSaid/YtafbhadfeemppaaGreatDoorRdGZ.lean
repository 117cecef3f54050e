/- Chapter 12: several texts in one (RdFindP, RdLaw8). -/
import Derived.Test.YtafbhadfeemppaaGreatDoorRdGU
import Derived.Test.YtafbhadfeemppaaGreatDoorZonRParse
import Derived.Test.YtafbhadfeemppaaGreatDoorRdGN
import Derived.Test.YtafbhadfeemppaaGreatDoorRdGQ
namespace Go.Proofs.YtafbhadfeemppaaGreatDoor
open Go.RowKit

theorem cut_back (w : Nat) : ∀ (K : List (List UInt8)), (∀ l ∈ K, l.length = w) → Rd.cut w K.length K.flatten = K
  | [], _ => rfl
  | a :: r, h => by
    have ha := h a (by simp)
    have hr := cut_back w r fun x hx => h x (List.mem_cons_of_mem _ hx)
    rw [List.flatten_cons, List.length_cons]
    unfold Rd.cut
    rw [List.take_left' ha, List.drop_left' ha, hr]
theorem lines_back {R : List ByteArray} {w : Nat} (h : ∀ s ∈ R, s.size = w) : lineS R.length w (txts R).flatten = R := by
  have hl : (txts R).length = R.length := by unfold txts; rw [List.length_map]
  unfold lineS
  rw [← hl, cut_back w (txts R) fun l hl => by
    obtain ⟨s, hs, rfl⟩ := List.mem_map.1 hl
    rw [Opt.size_len]; exact h s hs]
  unfold txts
  rw [List.map_map]
  conv => rhs; rw [← List.map_id R]
  apply List.map_congr_left
  intro s _
  exact str_eq rfl
theorem flat_len (w : Nat) : ∀ (K : List (List UInt8)), (∀ l ∈ K, l.length = w) → K.flatten.length = K.length * w
  | [], _ => by simp
  | a :: r, h => by
    rw [List.flatten_cons, List.length_append, flat_len w r fun x hx => h x (List.mem_cons_of_mem _ hx), h a (by simp), List.length_cons, Nat.succ_mul]; omega
theorem flat_get8 (w : Nat) : ∀ (K : List (List UInt8)), (∀ l ∈ K, l.length = w) → ∀ i k, (h : i < K.length) → (hk : k < w) → K.flatten[i * w + k]? = (K[i])[k]?
  | [], _, i, _, h, _ => by simp at h
  | a :: r, hh, i, k, h, hk => by
    have ha := hh a (by simp)
    rw [List.flatten_cons]
    cases i with
    | zero => rw [Nat.zero_mul, Nat.zero_add, List.getElem?_append_left (by omega)]; rfl
    | succ i =>
      rw [Nat.succ_mul, List.getElem?_append_right (by omega), show i * w + w + k - a.length = i * w + k by omega]
      exact flat_get8 w r (fun x hx => hh x (List.mem_cons_of_mem _ hx)) i k (by simpa using h) hk
/-- The lines are among the choices. -/
theorem dbt_in {R : List ByteArray} (hl : LinesOf R) {K : List (List ByteArray)} {n : Nat} (h : Dbt R K n true) (hp : Zn.prsE (txts R) = 0) : R ∈ rdK K := by
  obtain ⟨hsh, hall, hfl⟩ := okG_shape (dbt_ok hl h)
  have hd := (dbt_form hl h.1 h.2.1).2
  obtain ⟨f, hf, a1, a2⟩ := hl
  have hR : 0 < R.length := by rw [a1]; unfold Zn.nLines; split <;> omega
  have hw : (R.headD ByteArray.empty).size = Zn.wLine f := by
    cases R with
    | nil => simp at hR
    | cons a t => exact a2 a (by simp)
  rw [hw] at hd
  rw [hd] at hall hfl
  unfold rdK
  rw [ks_prod, hd]
  refine List.mem_filter.2 ⟨List.mem_map.2 ⟨(txts R).flatten, ?_, by rw [h.1]; exact lines_back a2⟩, decide_eq_true hp⟩
  have ht : ∀ l ∈ txts R, l.length = Zn.wLine f := fun l hl => by
    obtain ⟨s, hs, rfl⟩ := List.mem_map.1 hl
    rw [Opt.size_len]; exact a2 s hs
  have htl : (txts R).length = R.length := by unfold txts; rw [List.length_map]
  have hfl2 := flat_len _ _ ht
  rw [htl] at hfl2
  refine Rd.mem_prod.2 ⟨by rw [hfl2, hfl, h.1], fun j hj hj' => ?_⟩
  have hwp : 0 < Zn.wLine f := by
    rcases Nat.eq_zero_or_pos (Zn.wLine f) with e | e
    · rw [e] at hfl2; omega
    · exact e
  have hi : j / Zn.wLine f < R.length := by
    rw [Nat.div_lt_iff_lt_mul hwp]; omega
  have hk : j % Zn.wLine f < Zn.wLine f := Nat.mod_lt _ hwp
  have hj0 : j / Zn.wLine f * Zn.wLine f + j % Zn.wLine f = j := by rw [Nat.mul_comm]; exact Nat.div_add_mod _ _
  have hiK : j / Zn.wLine f < K.length := by rw [h.1]; exact hi
  have hkK : j % Zn.wLine f < K[j / Zn.wLine f].length := by rw [hall _ (List.getElem_mem hiK)]; exact hk
  have hkR : j % Zn.wLine f < R[j / Zn.wLine f].size := by rw [a2 _ (List.getElem_mem hi)]; exact hk
  have h1 := flat_at5 hall hiK hkK
  have h2 := flat_get8 _ _ ht (j / Zn.wLine f) (j % Zn.wLine f) (by rw [htl]; exact hi) hk
  rw [hj0] at h1 h2
  rw [List.getElem?_eq_getElem hj'] at h1
  injection h1 with h1
  rw [h1, Rd.mem_srt]
  have h3 := h.2.2.2.2 rfl _ _ hiK hkK hi hkR
  rw [List.getElem?_eq_getElem hj] at h2
  have h4 : (txts R)[j / Zn.wLine f]'(by rw [htl]; exact hi) = R[j / Zn.wLine f].data.toList := by unfold txts; rw [List.getElem_map]
  rw [h4, List.getElem?_eq_getElem (by rw [Opt.size_len]; exact hkR)] at h2
  injection h2 with h2
  rw [h2]
  exact h3
end Go.Proofs.YtafbhadfeemppaaGreatDoor

namespace Go.Proofs.YtafbhadfeemppaaGreatDoor
open Go.RowKit Go.ChangeShapes Go.WideShapes

/-- Lines stay while the dice turn. -/
theorem TextsAt.dice {w w' : World} {A : Option Addr} {R : List ByteArray} {g : Nat} (h : TextsAt w A R) (hd : DiceAt g g w) (hg : w.grownBy w' (some g)) : TextsAt w' A R := by
  obtain ⟨h1, h2⟩ := h
  refine ⟨h1, ?_⟩
  rcases h2 with h2 | ⟨b, off, e, hc⟩
  · exact .inl h2
  · refine .inr ⟨b, off, e, fun j x hx => ?_⟩
    have hbx := hc j x hx
    have hne : b ≠ g := fun e => by
      subst e
      obtain ⟨s, hs, rfl⟩ := List.mem_map.1 (List.mem_of_getElem? hx)
      obtain ⟨_, A2, n, c, k, hb, _⟩ := hd
      simp only [World.cell?, hb] at hbx
      have : ∀ q : Nat, (#[Value.slice A2 n c, Value.int .i64 (k : Int)] : Array Value)[q]? ≠ some (.string s) := fun q hq => by
        match q with
        | 0 => cases hq
        | 1 => cases hq
        | q + 2 => cases hq
      exact this _ hbx
    exact (World.cell?_of_block (hg.block b (World.block_lt_of_cell? w _ hbx) (fun e => hne (by injection e)))).trans hbx
theorem onlE_le (G : List (List ByteArray)) (hk : ∀ R ∈ rdK G, R.length ≤ 1099511627776) : (onlV G).length ≤ 1099511627776 := by
  unfold onlV
  split
  · cases hK : rdK G with
    | nil => exact Nat.zero_le _
    | cons a r => exact hk a (by rw [hK]; simp)
  · exact Nat.zero_le _
set_option maxRecDepth 100000 in
set_option maxHeartbeats 8000000 in
theorem walkReadingFinds {H : Type} {enc : TypeId × Value → H} {X : Prop} (w : World) (v : Value) (d : DataW H) {b0 : Nat} {p : List MemPlace} {r : Reach} (hv : Value.okWide Tryz.prog w r b0 25 v) (hd : DataW.Trod enc Tryz.prog w 0 (fun _ => true) true 25 v d p)
    (_hsz : X) (hL : laidMetH Tryz.prog Rows.readingFindsRow.laid w) (hsh : w.ShapedOpen Tryz.prog) :
    Calls Tryz.prog 4 #[v] w fun e w' => e = .returned (.bool true) ∧ Below w.heap.size w w' := by
  obtain ⟨A, n, c, rfl, hnc, hcm, hl⟩ := open_list hv hd
  have hnm := Nat.le_trans hnc hcm
  have HDX := Lib.hid (And.intro (laid_dat (by kernel_rfl) hL) (Opt.lax_of hsh))
  have HAW := Lib.hid (fun W (h : Below w.heap.size w W) => oawake W (HDX.out.1.below h) (HDX.out.2.below h))
  have HL := Lib.hid hl
  clear hL hsh hv hd hl
  go_enter Tryz.func4, Tryz.ntmps4
  go_wp2_with fail
  refine (made_light _ _ _ _ hnm).mono ?_; rintro e w' ⟨rfl, rfl⟩
  by_cases hn : n ≤ 400
  · have e1 : decide (n ≤ 400) = true := decide_eq_true hn
    rw [e1]
    clear e1
    go_wp2_with fail
    refine (made_roll _ _ _ _ hn hnc HL.out).mono ?_; rintro e w2 ⟨rfl, hd2, hb2⟩
    obtain ⟨g, hg⟩ : ∃ g, w.heap.size = g := ⟨_, rfl⟩
    have HB2 := Lib.hid hb2
    rw [hg] at hd2 ⊢
    have HD2 := Lib.hid hd2; have HG := Lib.hid hg
    clear hd2 hb2 hg hnc hcm hnm
    go_wp2_with fail
    refine (made_lines g w2 HD2.out).mono ?_; rintro e w3 ⟨A3, c3, R, rfl, hlo, ht3, hd3, hg3⟩
    have HLO := Lib.hid hlo; have HB3 := Lib.hid (below_dice12 HB2.out hg3 (Nat.le_of_eq HG.out))
    have HSM := Lib.hid hlo.small
    have HOD := Lib.hid (odoubt g R A3 c3 4 w3 hd3 ht3 (by have := hlo.small.1; omega) (fun s hs => by have := hlo.small.2 s hs; omega) (by decide))
    have HT3 := Lib.hid ht3; have HD3 := Lib.hid hd3
    clear hlo ht3 hd3 hg3
    go_wp2_with fail
    refine HOD.out.mono ?_; rintro e w4 ⟨v4, vs, K, inn, m, hm, rfl, hdb, hw4⟩
    have HT4 := Lib.hid (HT3.out.dice HD3.out hw4.2.2.1)
    have HB4 := Lib.hid (below_dice12 HB3.out hw4.2.2.1 (Nat.le_of_eq HG.out))
    obtain ⟨A4, c4, rfl, _, _⟩ := own_form hw4.1.1
    have hkl : K.length = R.length := hdb.1
    have HKL := Lib.hid hkl
    have hc0 := cnt_ok (dbt_ok HLO.out hdb) (Nat.le_trans hdb.2.2.2.1 (Nat.le_trans (Nat.pow_le_pow_right (by decide) hm) (by decide)))
    have hGA := hw4.1.grid (n := K.length) rfl
    have k1 : K.length ≤ 4194304 := by have := HSM.out.1; omega
    have k2 := flat_small HLO.out hkl hdb.2.1
    have k3 : ∀ r ∈ K, ∀ s ∈ r, s.size ≤ 140737488351232 := fun r hr s hs => by have := (hdb.2.2.1 r hr s hs).2; omega
    have k4 : ∀ r ∈ K, r.length ≤ 1099511627776 := fun r hr => by
      obtain ⟨i, hi, rfl⟩ := List.getElem_of_mem hr
      have hi' : i < R.length := by omega
      rw [hdb.2.1 i hi hi']
      have := (HSM.out.2 _ (List.getElem_mem hi')).2
      omega
    have HGD := Lib.hid (fun W (h : Below w4.heap.size w4 W) => hGA.later h)
    have HDW := Lib.hid (fun W (h : Below w4.heap.size w4 W) => And.intro (HDX.out.1.below (HB4.out.trans (h.mono HB4.out.size))) (HDX.out.2.below (HB4.out.trans (h.mono HB4.out.size))))
    have hp1 : ∀ W e w', RdPost K W e w' → ∃ A c, e = .returned (.tuple #[.slice A (rdK K).length c, .int .i64 0]) ∧ GridAt w' A (rdK K) ∧ Below W.heap.size W w' := fun W e w' h => by
      obtain ⟨A, c, h4, h5, _⟩ := h.2.1 hc0
      exact ⟨A, c, h4, h5, h.2.2⟩
    have HOR := Lib.hid (fun W (h : Below w4.heap.size w4 W) => (oreadings K A4 c4 W (HGD.out W h) k1 k2 k3 (HDW.out W h).1 (HDW.out W h).2).mono fun e w' => hp1 W e w')
    have HRR := Lib.hid (fun W (h : Below w4.heap.size w4 W) => (rreadings K A4 c4 W (HGD.out W h) (by omega) k4 k3).mono fun e w' => hp1 W e w')
    have HOO := Lib.hid (fun W (h : Below w4.heap.size w4 W) => oonly K A4 c4 W (HGD.out W h) k1 k2 k3 (HDW.out W h).1 (HDW.out W h).2)
    have HRO := Lib.hid (fun W (h : Below w4.heap.size w4 W) => ronly K A4 c4 W (HGD.out W h) (by omega) k4 k3)
    unfold OnlyPost at HOO HRO
    have hxl := rdK_le hc0
    have hxr : ∀ Q ∈ rdK K, Q.length ≤ 1099511627776 := fun Q hQ => by rw [rdK_row hQ]; omega
    have hol := onlE_le K hxr
    have hin : inn = true → Zn.prsE (txts R) = 0 → R ∈ rdK K := fun h1 h2 => dbt_in HLO.out (n := m) (by rw [h1] at hdb; exact hdb) h2
    have hrl : R.length ≤ 1099511627776 := by omega
    have HPR := Lib.hid (fun W (h : Below w4.heap.size w4 W) => rparse R A3 c3 W (by have := HSM.out.1; omega) (fun s hs => by have := HSM.out.2 s hs; omega) (HT4.out.later h))
    obtain ⟨XS, hXS⟩ : ∃ XS, rdK K = XS := ⟨_, rfl⟩
    obtain ⟨OE, hOE⟩ : ∃ OE, onlE K = OE := ⟨_, rfl⟩
    obtain ⟨OV, hOV⟩ : ∃ OV, onlV K = OV := ⟨_, rfl⟩
    obtain ⟨PE, hPE⟩ : ∃ PE, Zn.prsE (txts R) = PE := ⟨_, rfl⟩
    obtain ⟨V, hPV⟩ : ∃ V, Zn.prsV (txts R) = V := ⟨_, rfl⟩
    obtain ⟨kl, hkl2⟩ : ∃ kl, K.length = kl := ⟨_, rfl⟩
    obtain ⟨rl, hrl2⟩ : ∃ rl, R.length = rl := ⟨_, rfl⟩
    simp only [hXS, hOE, hOV, hPE, hPV, hkl2, hrl2] at HOR HRR HOO HRO hxl hxr hol hin HPR
    rw [hkl2, hrl2]
    have HXL := Lib.hid hxl; have HXR := Lib.hid hxr; have HOL := Lib.hid hol; have HIN := Lib.hid hin; have HRL := Lib.hid hrl
    have HR2 := Lib.hid hrl2
    clear hdb hw4 hkl hc0 hXS hxl hm hGA k1 k2 k3 k4 hp1 hxr hol hin hrl hOE hOV hPE hPV hkl2 hrl2
    go_wp2_with fail
    refine (HOR.out _ (Below.refl _ _)).mono ?_; rintro e w5 ⟨A5, c5, rfl, hg5, hb5⟩
    have HB5 := Lib.hid hb5; have HG5 := Lib.hid hg5
    clear hb5 hg5
    go_wp2_with fail
    refine (HRR.out _ HB5.out).mono ?_; rintro e w6 ⟨A6, c6, rfl, hg6, hb6⟩
    have HB6 := Lib.hid (HB5.out.trans (hb6.mono HB5.out.size)); have HG6 := Lib.hid (And.intro (HG5.out.later hb6) hg6)
    clear hb6 hg6
    go_wp2_with fail
    refine (HOO.out _ HB6.out).mono ?_; rintro e w7 ⟨A7, c7, rfl, ht7, hb7⟩
    have HB7 := Lib.hid (HB6.out.trans (hb7.mono HB6.out.size)); have HG7 := Lib.hid (And.intro (HG6.out.1.later hb7) (And.intro (HG6.out.2.later hb7) ht7))
    clear hb7 ht7
    go_wp2_with fail
    refine (HRO.out _ HB7.out).mono ?_; rintro e w8 ⟨A8, c8, rfl, ht8, hb8⟩
    have HB8 := Lib.hid (HB7.out.trans (hb8.mono HB7.out.size)); have HG8 := Lib.hid (And.intro (HG7.out.1.later hb8) (And.intro (HG7.out.2.1.later hb8) (And.intro (HG7.out.2.2.later hb8) ht8)))
    clear hb8 ht8
    go_wp2_with fail
    refine (HAW.out _ (HB4.out.trans (HB8.out.mono HB4.out.size))).mono ?_; rintro e w9 ⟨rfl, hb9⟩
    have HB9 := Lib.hid (HB8.out.trans (hb9.mono HB8.out.size)); have HG9 := Lib.hid (And.intro (HG8.out.1.later hb9) (And.intro (HG8.out.2.1.later hb9) (And.intro (HG8.out.2.2.1.later hb9) (HG8.out.2.2.2.later hb9))))
    clear hb9
    go_wp2_with fail
    refine (rsame12 w9 A5 A6 XS c5 c6 HG9.out.1 HG9.out.2.1 (Nat.le_trans HXL.out (by decide)) HXR.out).mono ?_; rintro e wa ⟨rfl, hba⟩
    have HBA := Lib.hid (HB9.out.trans (hba.mono HB9.out.size)); have HGA := Lib.hid (And.intro (HG9.out.1.later hba) (And.intro (HG9.out.2.2.1.later hba) (HG9.out.2.2.2.later hba)))
    clear hba
    have e1 : ((OE : Int) != (OE : Int)) = false := by rw [bne_eq_false_iff_eq]
    go_wp2_with fail
    refine (rsame_same wa A7 A8 OV c7 c8 HGA.out.2.1 HGA.out.2.2 HOL.out).mono ?_; rintro e wb ⟨rfl, hbb⟩
    have HBB := Lib.hid (HBA.out.trans (hbb.mono HBA.out.size)); have HGB := Lib.hid (HGA.out.1.later hbb)
    clear hbb e1
    have HTB := Lib.hid (HT4.out.later HBB.out)
    have hxl := HXL.out
    go_wp2_with fail
    have HPZ := Lib.hid (show ∀ W, Below w4.heap.size w4 W → Calls Tryz.prog 23 #[.slice A3 rl c3] W fun e w' => e = .returned (.tuple #[.agg #[.int .i64 V.fmt, .string V.kind, .string V.state, .string V.sur, .string V.giv, .string V.num, .string V.nat, .string V.birth, .string V.sex, .string V.exp, .string V.opt, .string V.sec], .int .i64 PE]) ∧ Below W.heap.size W w' from HPR.out)
    clear HPR
    go_loopw [15, 16] (fun v15 v16 wr => ∃ (i n : Nat), i ≤ XS.length ∧ v16 = .int .i64 i ∧ v15 = .bool ((XS.take i).any fun P => decide (P = R)) ∧ wr = wb.drewN n) (fun _ v16 _ => XS.length - (intOf v16).toNat)
    case atStart => exact ⟨0, 0, Nat.zero_le _, rfl, by simp, rfl⟩
    case round =>
      obtain ⟨i, n, hi, rfl, rfl, rfl⟩ := hrel
      obtain ⟨f, hf⟩ : ∃ f, ((XS.take i).any fun P => decide (P = R)) = f := ⟨_, rfl⟩
      rw [hf]
      by_cases hlt : i < XS.length
      · have HLT := Lib.hid hlt
        have hdec : ((XS.take (i + 1)).any fun P => decide (P = R)) = (f || decide (XS[i]'hlt = R)) := by
          rw [List.take_succ_eq_append_getElem hlt, List.any_append, hf]; simp
        have HDEC := Lib.hid hdec
        clear hf hdec
        cases f
        · obtain ⟨b, off, rfl, hc⟩ : ∃ b off, A5 = some ⟨b, off, none⟩ ∧ ∀ i (h : i < XS.length), ∃ Ai ci, wb.cell? ⟨b, off + i, none⟩ = some (.slice Ai XS[i].length ci) ∧ TextsAt wb Ai XS[i] := by
            rcases HGB.out with h | h
            · omega
            · exact h
          obtain ⟨Ai, ci, d0, t0⟩ := hc i hlt
          obtain ⟨P, hP⟩ : ∃ P, XS[i]'hlt = P := ⟨_, rfl⟩
          have hpl := HXR.out _ (List.getElem_mem hlt)
          rw [hP] at d0 t0 hpl
          have HP := Lib.hid hP
          have HS := Lib.hid (show ∀ m, Calls Tryz.prog 22 #[.slice Ai P.length ci, .slice A3 rl c3] (wb.drewN (n + m)) fun e w' => e = .returned (.bool (decide (P = R))) ∧ ∃ k, w' = wb.drewN (n + k) from fun m => by
            have hb : Below wb.heap.size wb (wb.drewN (n + m)) := below_drewN (Below.refl _ _) _
            have h := rsame _ Ai A3 P R ci c3 (t0.later hb) (HTB.out.later hb) hpl HRL.out
            rw [HR2.out] at h
            refine h.mono ?_
            rintro e w' ⟨h, k, h'⟩
            exact ⟨h, m + k, by rw [h', World.drewN_drewN, Nat.add_assoc]⟩)
          have HS0 := Lib.hid (HS.out 0)
          obtain ⟨g, hg⟩ : ∃ g, decide (P = R) = g := ⟨_, rfl⟩
          rw [hg] at HS0
          have HGG := Lib.hid hg
          have hii : (i : Int) < (XS.length : Int) := by omega
          clear hc t0 hpl hP hg
          go_wp2_with fail
          refine HS0.out.mono ?_; rintro e w' ⟨rfl, k, rfl⟩
          go_wp2_with fail
          go_roundw
          case rel => exact ⟨i + 1, _, HLT.out, by go_num, by rw [HDEC.out, HP.out, HGG.out]; simp, rfl⟩
          case measure => have := HLT.out; simp [intOf]; omega
        · have hii : (i : Int) < (XS.length : Int) := by omega
          go_wp2_with fail
          go_roundw
          case rel => exact ⟨i + 1, _, HLT.out, by go_num, by rw [HDEC.out]; rfl, rfl⟩
          case measure => have := HLT.out; simp [intOf]; omega
      · obtain rfl : i = XS.length := by omega
        rw [List.take_length] at hf
        have hii : ¬ ((XS.length : Int) < (XS.length : Int)) := by omega
        have HBD := Lib.hid (below_drewN HBB.out n)
        have HF := Lib.hid hf
        clear hf hi hlt
        go_wp2_with fail
        refine (HPZ.out _ HBD.out).mono ?_; rintro e wp ⟨rfl, hbp⟩
        have HBP := Lib.hid (HBD.out.trans (hbp.mono HBD.out.size))
        clear hbp
        cases f
        · cases inn
          · go_wp2_with fail
            go_ret
            exact ⟨rfl, HB4.out.trans ((HBP.out.trans ((below_alloc1 wp _).mono HBP.out.size)).mono HB4.out.size)⟩
          · have hpe : PE ≠ 0 := fun h => by
              have := List.any_eq_false.1 HF.out R (HIN.out rfl h)
              exact this (decide_eq_true rfl)
            have hpe2 : ((PE : Int) != 0) = true := by rw [bne_iff_ne]; exact hpe
            go_wp2_with fail
            go_ret
            exact ⟨rfl, HB4.out.trans ((HBP.out.trans ((below_alloc1 wp _).mono HBP.out.size)).mono HB4.out.size)⟩
        · go_wp2_with fail
          go_ret
          exact ⟨rfl, HB4.out.trans ((HBP.out.trans ((below_alloc1 wp _).mono HBP.out.size)).mono HB4.out.size)⟩
  · have e1 : decide (n ≤ 400) = false := decide_eq_false hn
    rw [e1]
    clear e1
    go_wp2_with fail
    refine (HAW.out _ (Below.refl _ _)).mono ?_; rintro e w2 ⟨rfl, hb2⟩
    have HB2 := Lib.hid hb2
    clear hb2
    go_wp2_with fail
    go_ret
    exact ⟨rfl, HB2.out⟩
end Go.Proofs.YtafbhadfeemppaaGreatDoor
