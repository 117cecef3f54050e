/- The walk of chapter 10's statement on one digit. -/
import Derived.Test.YtdejgomljelnlaaDoorOptLaws
import Derived.Test.YtdejgomljelnlaaDoorOptOne
import Derived.IntWalk
import Derived.Deep.RegionWith
import Derived.Deep.RegionLaw
namespace Go.Proofs.YtdejgomljelnlaaDoor
open Go.RowKit Go.ChangeShapes Go.WideShapes

theorem Below.of_grown {B g : Nat} {w w' : World} (h : w.grownBy w' (some g)) (hg : B ≤ g) (hB : B ≤ w.heap.size) : Below B w w' :=
  ⟨h.os, h.tape, h.output, h.size, fun i hi => h.block i (by omega) (by intro e; injection e with e; omega)⟩
theorem Below.of_own {B : Nat} {w w' : World} {v : Value} (h : w.grownBy w' v.ownBlock) (hg : ∀ k, v.ownBlock = some k → B ≤ k) (hB : B ≤ w.heap.size) : Below B w w' :=
  ⟨h.os, h.tape, h.output, h.size, fun i hi => h.block i (by omega) (by intro e; have := hg i e.symm; omega)⟩
theorem BytesAt.below {B g : Nat} {w w' : World} {l : List UInt8} (h : BytesAt w g l) (hb : Below B w w') (hg : g < B) : BytesAt w' g l := by
  intro i hi
  have e := hb.block g hg
  exact ⟨by rw [World.cell?_of_block e]; exact (h i hi).1, by rw [World.frozen?_of_block e]; exact (h i hi).2⟩
theorem BytesAt.cells {g : Nat} {w : World} {l : List UInt8} (h : BytesAt w g l) {j : Nat} {u : Value} (hu : (BL l)[j]? = some u) : w.cell? ((⟨g, 0, none⟩ : Addr).add j) = some u := by
  have hj : j < l.length := by
    rcases Nat.lt_or_ge j l.length with h' | h'
    · exact h'
    · rw [List.getElem?_eq_none (by rw [BL_length]; exact h')] at hu; cases hu
  have e0 : (⟨g, 0, none⟩ : Addr).add j = ⟨g, j, none⟩ := by simp [Addr.add]; omega
  rw [e0, (h j hj).1, ← hu]
  simp [BL, List.getElem?_eq_getElem hj]
theorem BL_at (l : List UInt8) (k : Nat) (h : k < l.length) : (BL l)[k]? = some (.int .u8 (l[k].toNat : Int)) := by simp [BL, List.getElem?_eq_getElem h]
theorem BL_set (l : List UInt8) (k : Nat) (z : Int) (h : 0 ≤ z ∧ z ≤ 255) : (BL l).set k (.int .u8 z) = BL (l.set k (b8 z)) := by
  simp [BL, List.map_set, b8_toNat z h.1 h.2]
theorem str_ne {a b : ByteArray} (h : a ≠ b) : (a.toList == b.toList) = false := by
  rw [beq_eq_false_iff_ne]; intro e; apply h; rw [ByteArray.toList_eq, ByteArray.toList_eq] at e; exact str_eq e
theorem own_row {w : World} {B e n : Nat} {v : Value} {xs : List Value} (h : w.ownsRow B e 1 v n xs) (hn : 1 ≤ n) :
    ∃ g cap, v = .slice (some ⟨g, 0, none⟩) n cap ∧ B ≤ g ∧ n ≤ cap ∧ g < w.heap.size := by
  rcases h.2 with ⟨_, h0⟩ | ⟨g, cap, cur, rfl, hB, hg, hc, _⟩
  · omega
  · refine ⟨g, cap, rfl, hB, hc, ?_⟩
    rcases Nat.lt_or_ge g w.heap.size with h' | h'
    · exact h'
    · rw [Array.getElem?_eq_none h'] at hg; cases hg

set_option maxRecDepth 100000 in
set_option maxHeartbeats 4000000 in
theorem walkOpticalOneDigit {H : Type} {enc : TypeId × Value → H} {X Y : Prop} (w : World) (v : Value) (d : DataW H) {b0 : Nat} {p : List MemPlace} {r : Reach} (hv : Value.okWide Tryd.prog w r b0 31 v) (hd : DataW.Trod enc Tryd.prog w 0 (fun _ => true) true 31 v d p)
    (n1 : Int) (w1 : (Lit.int .i64 n1).wf = true) (n2 : Int) (w2 : (Lit.int .i64 n2).wf = true) (_hsz : X) (_hL : Y) (hsh : w.ShapedOpen Tryd.prog) :
    Calls Tryd.prog 5 #[v, .int .i64 n1, .int .i64 n2] w fun e w' => e = .returned (.bool true) ∧ Below w.heap.size w w' := by
  obtain ⟨A, n, c, rfl, hnc, hcm, hl⟩ := open_list hv hd
  have hnm := Nat.le_trans hnc hcm
  clear hcm
  have hw := Opt.lax_of hsh
  have b1 := bounds_i64 w1
  have b2 := bounds_i64 w2
  clear hsh hv hd
  obtain ⟨i0, hi, hz0, hz1, hz2⟩ := info_parts u8_infoM
  go_enter Tryd.func5, Tryd.ntmps5
  go_wp2_with fail
  refine (made_light _ _ _ _ hnm).mono ?_; rintro e w' ⟨rfl, rfl⟩
  by_cases hn : n ≤ 400
  · rw [decide_eq_true hn]
    go_wp2_with fail
    refine (made_roll _ _ _ _ hn hnc hl).mono ?_; rintro e wa ⟨rfl, hda, hba⟩
    go_wp2_with fail
    refine (made_signs _ _ _ _ hda (by omega) (by omega)).mono ?_; rintro e wb ⟨l, l1, l2, hls, rfl, hdb, hgb⟩
    have hbb := hba.trans (Below.of_grown hgb (Nat.le_refl _) hba.size)
    clear hba hgb hdb hda
    have hcv := run_bytes_of_string (P := Tryd.prog) wb 9 35 5 ⟨l.toArray⟩ Tryd.underlying9 Tryd.underlying35 Tryd.underlying5
    have hB := BytesAt.of_string wb 5 ⟨l.toArray⟩ (grownCap wb (⟨l.toArray⟩ : ByteArray).size 0 5) (bytesRow_size _ _)
    generalize grownCap wb (⟨l.toArray⟩ : ByteArray).size 0 5 = cap at hcv hB
    generalize bytesRow ⟨l.toArray⟩ cap = row at hcv hB
    rw [str_size] at hcv
    have hbc : Below w.heap.size w (wb.drew.alloc (.cells row 5 (row.size, row.size + 1))) := hbb.trans (((Below.refl w.heap.size wb).drew).alloc hbb.size _)
    have hsz : wb.heap.size < (wb.drew.alloc (.cells row 5 (row.size, row.size + 1))).heap.size := by
      show _ < (wb.heap.push _).size; rw [Array.size_push]; omega
    generalize hwc : wb.drew.alloc (.cells row 5 (row.size, row.size + 1)) = wc at hcv hB hbc hsz
    clear hwc
    have hgW : w.heap.size ≤ wb.heap.size := hbb.size
    generalize wb.heap.size = g at hcv hB hsz hgW
    have hcb := hB.conv (P := Tryd.prog) 35 9 5 l.length cap rfl Tryd.underlying35 Tryd.underlying5 Tryd.underlying9
    have HB := Lib.hid hB
    clear hB hbb
    have hsl : (⟨l.toArray⟩ : ByteArray).size ≤ 140737488351232 := by rw [str_size]; omega
    go_wp2_with fail
    refine (odigit _ _ hsl).mono ?_; rintro e wd ⟨rfl, hbd⟩
    have hBd := HB.out.below hbd hsz
    have hszd : g < wd.heap.size := Nat.lt_of_lt_of_le hsz hbd.size
    replace hbd := hbc.trans (hbd.mono hbc.size)
    have HB := Lib.hid hBd
    rw [(Opt.digS_signs l hls).2]
    obtain ⟨D, hD⟩ : ∃ D, Opt.digS ⟨l.toArray⟩ = D := ⟨_, rfl⟩
    rw [hD]
    have HD := Lib.hid hD
    have HLS := Lib.hid hls
    clear hbc hcb hsl hcv hsz hBd hD hls
    go_wp2_with fail
    refine (made_mod _ _ _ b1.1 b1.2 (by omega) (by omega)).mono ?_; rintro e w' ⟨rfl, rfl⟩
    obtain ⟨k, hk, hkl⟩ : ∃ k : Nat, n1 % (l.length : Int) = k ∧ k < l.length := by
      have m1 := Int.emod_nonneg n1 (b := (l.length : Int)) (by omega)
      have m2 := Int.emod_lt_of_pos n1 (b := (l.length : Int)) (by omega)
      exact ⟨(n1 % (l.length : Int)).toNat, by omega, by omega⟩
    rw [hk]
    clear hk
    go_wp2_with fail
    refine (awake_any _ (hw.below hbd)).mono ?_; rintro e we ⟨rfl, hbe⟩
    have hBe := HB.out.below hbe hszd
    have hsze : g < we.heap.size := Nat.lt_of_lt_of_le hszd hbe.size
    replace hbe := hbd.trans (hbe.mono hbd.size)
    have HB' := Lib.hid hBe
    have ck := (hBe k hkl).1
    obtain ⟨x, hx⟩ : ∃ x : Int, (l[k].toNat : Int) = x := ⟨_, rfl⟩
    have hx0 := u8_le l[k]
    rw [hx] at ck hx0
    have HX := Lib.hid hx
    clear hx hbd HB hBe hszd
    by_cases h0 : 48 ≤ x ∧ x ≤ 57
    case' pos =>
        have h1 := h0.1; have h2 := h0.2
        go_wp2_with (at_builtin; refine wpList_append_own _ rfl _ _ 35 rfl we.heap.size 5 i0 (.int .u8 0) 1 1 Tryd.underlying35 hi hz0 hz1 hz2 rfl (by decide) (.slice none 0 0) 0 [] rfl ⟨rfl, .inl ⟨rfl, rfl⟩⟩ ⟨g, 0, none⟩ l.length cap (BL l) rfl (by rw [BL_length]; omega) (by intro j u hu; exact HB'.out.cells hu) (BL_one l) (by unfold maxLen; omega) (by omega) (Nat.le_refl _) ?_; intro v' wf hown hgf _)
        rw [Nat.zero_add, List.nil_append] at hown
        obtain ⟨g3, cap3, rfl, hg3, hc3, hs3⟩ := own_row hown (by omega)
        have hbf : Below we.heap.size we wf := Below.of_own hgf (by intro k' e; cases e) (Nat.le_refl _)
        have hBf := HB'.out.below hbf hsze
        have ck' := (hBf k hkl).1
        rw [HX.out] at ck'
        have hcs : wf.cell? ⟨g3, k, none⟩ = some (.int .u8 x) := by rw [hown.cellAt k (by omega), BL_at l k hkl, HX.out]
        have hfs := hown.frozenAt k
        have HO := Lib.hid hown
        have HBf := Lib.hid hBf
        have m1 := Int.emod_nonneg n2 (b := 9) (by omega)
        have m2 := Int.emod_lt_of_pos n2 (b := 9) (by omega)
        obtain ⟨y, hy⟩ : ∃ y, n2 % 9 = y := ⟨_, rfl⟩
        rw [hy] at m1 m2
        have hmod : ∀ W, Calls Tryd.prog 23 #[.int .i64 n2, .int .i64 9] W fun e w' => e = .returned (.int .i64 y) ∧ W = w' := fun W => by
          have := made_mod n2 9 W b2.1 b2.2 (by omega) (by omega); rwa [hy] at this
        have q1 : IntKind.u8.wrap (x - 48) = x - 48 := IntWalk.u8_in _ (by omega)
        have q2 : IntKind.i64.wrap (x - 48 + 1) = x - 48 + 1 := IntWalk.i64_in _ (by omega)
        have q3 : IntKind.i64.wrap (x - 48 + 1 + y) = x - 48 + 1 + y := IntWalk.i64_in _ (by omega)
        have q4 : (x - 48 + 1 + y).tmod 10 = (x - 48 + 1 + y) % 10 := Int.tmod_eq_emod_of_nonneg (by omega)
        have q5 : IntKind.i64.wrap (48 + (x - 48 + 1 + y) % 10) = 48 + (x - 48 + 1 + y) % 10 := IntWalk.i64_in _ (by omega)
        have q6 : IntKind.u8.wrap (48 + (x - 48 + 1 + y) % 10) = 48 + (x - 48 + 1 + y) % 10 := IntWalk.u8_in _ (by omega)
        have q7 : IntKind.i64.wrap (x - 48) = x - 48 := IntWalk.i64_in _ (by omega)
        have hkI : (k : Int) < (l.length : Int) := by omega
        have hst := hown.stored k (.int .u8 (48 + (x - 48 + 1 + y) % 10))
        rw [BL_set _ _ _ (by omega)] at hst
        have hone := Opt.one_digit l HLS.out k hkl (by rw [HX.out]; exact h1) (by rw [HX.out]; exact h2) y ⟨m1, m2⟩
        rw [HX.out] at hone
        obtain ⟨o1, o2, o3⟩ := hone
        rw [HD.out] at o2
        generalize b8 (48 + (x - 48 + 1 + y) % 10) = z at hst o1 o2 o3
        have hcv := conv_own (P := Tryd.prog) (w := (wf.setCell ⟨g3, k, none⟩ (.int .u8 (48 + (x - 48 + 1 + y) % 10))).drew) 35 9 5 (l.set k z) l.length (by simp) hst.1 Tryd.underlying35 Tryd.underlying5 Tryd.underlying9
        have hsl : (⟨(l.set k z).toArray⟩ : ByteArray).size ≤ 140737488351232 := by rw [str_size]; simp; omega
        have HO1 := Lib.hid o1; have HO2 := Lib.hid o2; have HO3 := Lib.hid o3; have HST := Lib.hid hst
        clear hy hown hBf hgf ck hst o1 o2 o3
        go_region_with (go_at_call 23; refine (hmod _).mono ?_; rintro e w' ⟨rfl, rfl⟩)
        all_goals
          go_wp2_with fail
          refine (odigit _ _ hsl).mono ?_; rintro e wg ⟨rfl, hbg⟩
          have hb4 := hbf.trans (Below.of_grown HST.out.2 hg3 hbf.size)
          have hb5 := hb4.drew.trans (hbg.mono hb4.size)
          rw [HO3.out]
          obtain ⟨D', hD'⟩ : ∃ D', Opt.digS ⟨(l.set k z).toArray⟩ = D' := ⟨_, rfl⟩
          rw [hD'] at HO2 ⊢
          have hDD := str_ne HO2.out
          clear hD'
          have hbz := hb5
          have HBz := Lib.hid (HB'.out.below hb5 hsze)
          clear hcv HST HBf HO HO1 HO2 HO3 hmod hbg hb4 hb5 hbf
          go_upto_region 15 with fail
    case' neg =>
          have h1 : (decide (48 ≤ x) && decide (x ≤ 57)) = false := by simp; omega
          have hbz := Below.refl we.heap.size we
          have HBz := HB'
          go_upto_region 15 with fail
    all_goals
      have hgz := Nat.lt_of_lt_of_le hsze hbz.size
      have hbw := hbe.trans (hbz.mono hbe.size)
      by_cases hk2 : (k : Int) + 1 < (l.length : Int)
      · have hk2' : k + 1 < l.length := by omega
        obtain ⟨x2, hx2⟩ : ∃ x2 : Int, (l[k+1].toNat : Int) = x2 := ⟨_, rfl⟩
        have hx20 := u8_le l[k+1]
        have hsw := Opt.swap_eq l HLS.out k hk2'
        rw [hx2, HX.out, HD.out] at hsw
        rw [hx2] at hx20
        have HX2 := Lib.hid hx2
        have HSW := Lib.hid hsw
        clear hx2 hsw h0
        go_wp2_with (at_builtin; refine wpList_append_own _ rfl _ _ 35 rfl _ 5 i0 (.int .u8 0) 1 1 Tryd.underlying35 hi hz0 hz1 hz2 rfl (by decide) (.slice none 0 0) 0 [] rfl ⟨rfl, .inl ⟨rfl, rfl⟩⟩ ⟨g, 0, none⟩ l.length cap (BL l) rfl (by rw [BL_length]; omega) (by intro j u hu; exact HBz.out.cells hu) (BL_one l) (by unfold maxLen; omega) (by omega) (Nat.le_refl _) ?_; intro v' wh hownh hgh _)
        rw [Nat.zero_add, List.nil_append] at hownh
        obtain ⟨g4, cap4, rfl, hg4, hc4, hs4⟩ := own_row hownh (by omega)
        have hbh := Below.of_own hgh (by intro k' e; cases e) (Nat.le_refl _)
        have hBh := HBz.out.below hbh hgz
        have ca := (hBh k hkl).1
        have cb := (hBh (k+1) hk2').1
        rw [HX.out] at ca
        rw [HX2.out] at cb
        have HBh := Lib.hid hBh
        have d1 : wh.cell? ⟨g4, k, none⟩ = some (.int .u8 x) := by rw [hownh.cellAt k (by omega), BL_at l k hkl, HX.out]
        have d2 : wh.cell? ⟨g4, k + 1, none⟩ = some (.int .u8 x2) := by rw [hownh.cellAt (k + 1) (by omega), BL_at l (k + 1) hk2', HX2.out]
        have f1 := hownh.frozenAt k
        have f2 := hownh.frozenAt (k + 1)
        have q1 : IntKind.i64.wrap ((k : Int) + 1) = (k : Int) + 1 := IntWalk.i64_in _ (by omega)
        have q2 : ((k : Int) + 1).toNat = k + 1 := by omega
        have st := hownh.stored k (.int .u8 x2)
        have st2 := st.1.stored (k + 1) (.int .u8 x)
        have e2 : ((BL l).set k (.int .u8 x2)).set (k + 1) (.int .u8 x) = BL (Opt.swap l k hk2') := by rw [← HX.out, ← HX2.out]; simp [Opt.swap, BL, List.map_set]
        rw [e2] at st2
        clear e2
        have hbS := ((hbh.trans (Below.of_grown st.2 hg4 hbh.size)).trans (Below.of_grown st2.2 hg4 (by have := hbh.size; have := st.2.size; omega))).drew
        have hcv2 := conv_own (P := Tryd.prog) (w := ((wh.setCell ⟨g4, k, none⟩ (.int .u8 x2)).setCell ⟨g4, k + 1, none⟩ (.int .u8 x)).drew) 35 9 5 (Opt.swap l k hk2') l.length (by simp [Opt.swap]) st2.1 Tryd.underlying35 Tryd.underlying5 Tryd.underlying9
        have hsl2 : (⟨(Opt.swap l k hk2').toArray⟩ : ByteArray).size ≤ 140737488351232 := by rw [str_size]; simp [Opt.swap]; omega
        clear hgh hownh hBh st st2
        go_wp2_with fail
        go_region
        generalize ((wh.setCell ⟨g4, k, none⟩ (.int .u8 x2)).setCell ⟨g4, k + 1, none⟩ (.int .u8 x)).drew = wS at hbS hcv2 ⊢
        clear f1 f2 d1 d2 ca cb
        go_wp2_with fail
        refine (odigit _ _ hsl2).mono ?_; rintro e wj ⟨rfl, hbj⟩
        replace hbj := hbS.trans (hbj.mono hbS.size)
        have hBj := HBz.out.below hbj hgz
        have ca := (hBj k hkl).1
        have cb := (hBj (k+1) hk2').1
        rw [HX.out] at ca
        rw [HX2.out] at cb
        replace hbj := hbw.trans (hbj.mono hbw.size)
        clear hBj hbS hcv2 hsl2 hbh HBh
        rw [HSW.out.2]
        obtain ⟨D2, hD2⟩ : ∃ D2, Opt.digS ⟨(Opt.swap l k hk2').toArray⟩ = D2 := ⟨_, rfl⟩
        have hsw := HSW.out.1
        rw [hD2] at hsw ⊢
        clear HSW hD2
        have bv1 := Opt.val_bd x
        have bv2 := Opt.val_bd x2
        have q3 : IntKind.i64.wrap (Opt.val x - Opt.val x2) = Opt.val x - Opt.val x2 := IntWalk.i64_in _ (by omega)
        by_cases ht : (Opt.val x - Opt.val x2).tmod 5 = 0
        · obtain rfl := hsw.2 ht
          have ht' : ((Opt.val x - Opt.val x2).tmod 5 == 0) = true := by rw [beq_iff_eq]; exact ht
          have hse : (D.toList == D.toList) = true := by rw [beq_iff_eq]
          clear hsw ht
          go_wp2_with fail
          go_quiet (first | (go_at_call_of 13 (Value.int IntKind.u8 x); exact quiet_l (rvalue x _ hx0.1 hx0.2)) | (go_at_call_of 13 (Value.int IntKind.u8 x2); exact quiet_l (rvalue x2 _ hx20.1 hx20.2)))
          go_wp2_with fail
          go_ret
          exact ⟨rfl, below_drewN hbj _⟩
        · have hse := str_ne (fun e => ht (hsw.1 e))
          have ht' : ((Opt.val x - Opt.val x2).tmod 5 == 0) = false := by rw [beq_eq_false_iff_ne]; exact ht
          clear hsw ht
          go_wp2_with fail
          go_quiet (first | (go_at_call_of 13 (Value.int IntKind.u8 x); exact quiet_l (rvalue x _ hx0.1 hx0.2)) | (go_at_call_of 13 (Value.int IntKind.u8 x2); exact quiet_l (rvalue x2 _ hx20.1 hx20.2)))
          go_wp2_with fail
          go_ret
          exact ⟨rfl, below_drewN hbj _⟩
      · have hk2' : (l.length : Int) ≤ (k : Int) + 1 := by omega
        go_wp2_with fail
        go_ret
        exact ⟨rfl, hbw⟩
  · rw [decide_eq_false hn]
    go_wp2_with fail
    refine (awake_any _ hw).mono ?_; rintro e w3 ⟨rfl, hb3⟩
    go_wp2_with fail
    go_ret
    exact ⟨rfl, hb3⟩
end Go.Proofs.YtdejgomljelnlaaDoor
