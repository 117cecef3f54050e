/- Chapter 11: the walk of the law on spoiled lines. -/
import Derived.Test.YtelngghecmkipaaGreatDoorZonGW
import Derived.Test.YtelngghecmkipaaGreatDoorZonGD
import Derived.Deep.CutRange
namespace Go.Proofs.YtelngghecmkipaaGreatDoor
open Go.RowKit Go.ChangeShapes Go.WideShapes

theorem below_dice {w w1 w2 : World} {g : Nat} (hb : Below w.heap.size w w1) (hg : w1.grownBy w2 (some g)) (h : w.heap.size ≤ g) : Below w.heap.size w w2 :=
  hb.grown hg hb.size (fun k hk => by injection hk with hk; omega)
theorem fits_le {z : Zn.Z} {a b : Nat} (h : z.fits a) (hab : a ≤ b) : z.fits b := by unfold Zn.Z.fits at *; omega
theorem fits_good {z : Zn.Z} (h : Zn.Good z ∧ z.sur.size ≤ 33 ∧ z.giv.size ≤ 33) : z.fits 100 := by
  obtain ⟨h, h1, h2⟩ := h
  have a1 := Zn.letters_le h.kind; have a2 := Zn.letters_le h.state; have a3 := Zn.letters_le h.nat; have a4 := h.numLe20; have a5 := Zn.birth_size h.birth; have a6 := Zn.sex_le h.sex; have a7 := Zn.prE_size h.exp; have a8 := h.optLe; have a9 := h.secLe
  unfold Zn.Z.fits; omega
/-- Lines of a zone: two or three, none empty. -/
def Rows3 (K : List ByteArray) : Prop := (2 ≤ K.length ∧ K.length ≤ 3) ∧ ∀ s ∈ K, 30 ≤ s.size ∧ s.size ≤ 44
theorem bldK_rows {z : Zn.Z} (h : Zn.Good z) : Rows3 (Zn.bldK z) := by
  have hf := h.fmt
  have hS := Zn.asm_len z.fmt.toNat (by omega) _ (Zn.bld_wide z.fmt.toNat z)
  refine ⟨?_, fun s hs => ?_⟩
  · unfold Zn.bldK
    rw [List.length_map]
    have h1 := hS.1
    unfold Zn.nLines at h1
    split at h1 <;> (unfold Zn.bld; omega)
  · obtain ⟨l, hl, rfl⟩ := List.mem_map.1 hs
    have h1 := hS.2 l hl
    rw [arr_size, h1]
    unfold Zn.wLine
    repeat' split
    all_goals omega
theorem rows_set {K : List ByteArray} (h : Rows3 K) (i : Nat) (s : ByteArray) (hs : 30 ≤ s.size ∧ s.size ≤ 44) : Rows3 (K.set i s) := by
  refine ⟨by rw [List.length_set]; exact h.1, fun t ht => ?_⟩
  rcases List.mem_or_eq_of_mem_set ht with h1 | h1
  · exact h.2 t h1
  · rw [h1]; exact hs
/-- A cell of an owned row is stored. -/
theorem own_set {w : World} {base e n c g : Nat} {xs : List Value} (h : w.ownsRow base e 1 (.slice (some ⟨g, 0, none⟩) n c) n xs) (i : Nat) (v : Value) :
    (w.setCell ⟨g, i, none⟩ v).ownsRow base e 1 (.slice (some ⟨g, 0, none⟩) n c) n (xs.set i v) := by
  obtain ⟨h0, h1⟩ := h
  refine ⟨by rw [List.length_set]; exact h0, ?_⟩
  rcases h1 with ⟨h1, _⟩ | ⟨g', cap, cur, h2, h3, h4, h5, h6, h7, h8⟩
  · cases h1
  · injection h2 with e1 e2 e3
    injection e1 with e1
    injection e1 with e1
    subst e1; subst e3
    refine .inr ⟨g, c, cur.setIfInBounds i v, rfl, h3, heap_setCell_same w g i _ _ v h4, h5, h6, by simpa using h7, ?_⟩
    rw [Array.toList_setIfInBounds, List.take_set, h8]
theorem own_free {w : World} {base e n c g : Nat} {xs : List Value} (h : w.ownsRow base e 1 (.slice (some ⟨g, 0, none⟩) n c) n xs) (i : Nat) : w.frozen? ⟨g, i, none⟩ = false := by
  rcases h.2 with ⟨h1, _⟩ | ⟨g', cap, cur, h2, h3, h4, h5⟩
  · cases h1
  · injection h2 with e1 e2 e3
    injection e1 with e1
    injection e1 with e1
    subst e1
    exact frozen_of_row w g i _ _ h4
theorem bytes_set {w : World} {k : Nat} {l : List UInt8} (hb : BytesAt w k l) (m : Nat) (x : UInt8) : BytesAt (w.setCell ⟨k, m, none⟩ (.int .u8 (x.toNat : Int))) k (l.set m x) := by
  intro i hi
  rw [List.length_set] at hi
  have h0 := hb i hi
  refine ⟨?_, by rw [World.frozen?_setCell]; exact h0.2⟩
  by_cases e : m = i
  · subst e
    rw [World.cell?_setCell_same _ _ _ h0.1, List.getElem_set_self]
  · rw [World.cell?_setCell_other _ _ _ _ (by intro h; injection h with _ h; exact e h), h0.1, List.getElem_set_ne e]
/-- A byte of the copy of a line is written. -/
theorem lines_put {w wr Wc : World} {lb lc N q gb : Nat} {K : List ByteArray} {s : ByteArray} (ho : wr.ownsRow w.heap.size 9 1 (.slice (some ⟨lb, 0, none⟩) N lc) N (K.map .string)) (hw : Below w.heap.size w wr) (hc : Below wr.heap.size wr Wc) (hg : wr.heap.size = gb)
    (hcl : wr.cell? ⟨lb, q, none⟩ = some (.string s)) (m : Nat) (y : UInt8) :
    (Wc.setCell ⟨gb, m, none⟩ (.int .u8 (y.toNat : Int))).ownsRow w.heap.size 9 1 (.slice (some ⟨lb, 0, none⟩) N lc) N (K.map .string) ∧ (Wc.setCell ⟨gb, m, none⟩ (.int .u8 (y.toNat : Int))).cell? ⟨lb, q, none⟩ = some (.string s) ∧ Below w.heap.size w (Wc.setCell ⟨gb, m, none⟩ (.int .u8 (y.toNat : Int))) := by
  have hlt := ho.lt lb rfl
  have hne : lb ≠ gb := by omega
  refine ⟨ownsRow_setCell_other (ownsRow_later ho hc) (by intro e; injection e with e; exact hne e) _, ?_, (hw.trans (hc.mono hw.size)).setCell (p := ⟨gb, m, none⟩) (by show w.heap.size ≤ gb; have := hw.size; omega) _⟩
  rw [World.cell?_setCell_other _ _ _ _ (by intro e; injection e with e _; exact hne e.symm)]
  exact cell_later hc hcl
theorem lines_fin {w W : World} {lb lc N : Nat} {K : List ByteArray} (ho : W.ownsRow w.heap.size 9 1 (.slice (some ⟨lb, 0, none⟩) N lc) N (K.map .string)) (hw : Below w.heap.size w W) (q : Nat) (T : ByteArray) :
    (W.setCell ⟨lb, q, none⟩ (.string T)).ownsRow w.heap.size 9 1 (.slice (some ⟨lb, 0, none⟩) N lc) N ((K.set q T).map .string) ∧ Below w.heap.size w (W.setCell ⟨lb, q, none⟩ (.string T)) := by
  have hlt := ho.lt lb rfl
  exact ⟨by rw [List.map_set]; exact own_set ho q _, hw.setCell (p := ⟨lb, q, none⟩) hlt.1 _⟩
theorem own_texts3 {w W : World} {lb lc N : Nat} {K : List ByteArray} (hN : K.length = N) (ho : W.ownsRow w.heap.size 9 1 (.slice (some ⟨lb, 0, none⟩) N lc) N (K.map .string)) : TextsAt W (some ⟨lb, 0, none⟩) K := by
  rw [← hN] at ho
  obtain ⟨A, c, e, _, h⟩ := own_texts ho
  injection e with e1 e2 e3
  rw [e1]; exact h
set_option maxRecDepth 100000 in
set_option maxHeartbeats 4000000 in
/-- The maker's lines. -/
theorem made_lines (g : Nat) (w : World) (hd : DiceAt g g w) :
    Calls Tryz.prog 18 #[.pointer (some ⟨g, 0, none⟩)] w fun e w' => ∃ b c K, e = .returned (.slice (some ⟨b, 0, none⟩) (K : List ByteArray).length c) ∧ Rows3 K ∧ w'.ownsRow w.heap.size 9 1 (.slice (some ⟨b, 0, none⟩) K.length c) K.length (K.map .string) ∧ w.grownBy w' (some g) := by
  go_enter Tryz.func18, Tryz.ntmps18
  go_wp2_with fail
  refine (made_zone g g w hd).mono ?_; rintro e w1 ⟨z, rfl, hz, hd1, hg1⟩
  have HG := Lib.hid hg1
  have HZ := Lib.hid hz
  clear hd hd1 hg1 hz
  have HRB := Lib.hid (rbuild z w1 (fits_le (fits_good HZ.out) (by decide)) (by have h1 := HZ.out.2.1; have h2 := HZ.out.2.2; omega))
  go_wp2_with fail
  refine HRB.out.mono ?_; rintro e w2 ⟨v, rfl, _, hown, hb⟩
  have ho := hown HZ.out.1.vld
  have hr := bldK_rows HZ.out.1
  obtain ⟨n, hn⟩ : ∃ n, (Zn.bldK z).length = n + 1 := ⟨(Zn.bldK z).length - 1, by have := hr.1; omega⟩
  have ho' := ho
  rw [hn] at ho'
  obtain ⟨b, c, rfl⟩ := own_some ho'
  rw [← hn] at ho' ⊢
  have HO := Lib.hid (show w2.ownsRow w.heap.size 9 1 (.slice (some ⟨b, 0, none⟩) (Zn.bldK z).length c) (Zn.bldK z).length ((Zn.bldK z).map .string) from ownsRow_base ho' HG.out.size)
  have HGR := Lib.hid (grown_trans HG.out (grown_of_below hb (some g)))
  have HR := Lib.hid hr
  clear hown hb ho ho' hr hn
  go_wp2_with fail
  go_ret
  exact ⟨b, c, _, rfl, HR.out, HO.out, HGR.out⟩
set_option maxRecDepth 100000 in
set_option maxHeartbeats 8000000 in
theorem walkZoneSpoiled {H : Type} {enc : TypeId × Value → H} {X : Prop} (w : World) (v : Value) (d : DataW H) {b0 : Nat} {p : List MemPlace} {r : Reach} (hv : Value.okWide Tryz.prog w r b0 30 v) (hd : DataW.Trod enc Tryz.prog w 0 (fun _ => true) true 30 v d p)
    (v1 : Value) (d1 : DataW H) {b1 : Nat} {p1 : List MemPlace} {r1 : Reach} (hv1 : Value.okWide Tryz.prog w r1 b1 30 v1) (hd1 : DataW.Trod enc Tryz.prog w 0 (fun _ => true) true 30 v1 d1 p1)
    (v2 : Value) (d2 : DataW H) {b2 : Nat} {p2 : List MemPlace} {r2 : Reach} (hv2 : Value.okWide Tryz.prog w r2 b2 30 v2) (hd2 : DataW.Trod enc Tryz.prog w 0 (fun _ => true) true 30 v2 d2 p2)
    (_hsz : X) (hL : laidMetH Tryz.prog Rows.zoneParsesRow.laid w) (hsh : w.ShapedOpen Tryz.prog) :
    Calls Tryz.prog 5 #[v, v1, v2] w fun e w' => e = .returned (.bool true) ∧ Below w.heap.size w w' := by
  obtain ⟨A, n, c, rfl, hnc, hcm, hl⟩ := open_list hv hd
  obtain ⟨A1, n1, c1, rfl, hnc1, hcm1, hl1⟩ := open_list hv1 hd1
  obtain ⟨A2, n2, c2, rfl, hnc2, hcm2, hl2⟩ := open_list hv2 hd2
  have hnm := Nat.le_trans hnc hcm; have hnm1 := Nat.le_trans hnc1 hcm1; have hnm2 := Nat.le_trans hnc2 hcm2
  have HDX := Lib.hid (And.intro (Dat.at_of hL) (Opt.lax_of hsh))
  have HL1 := Lib.hid hl1; have HL2 := Lib.hid hl2
  have hm2 : n2 ≤ 9223372036854775807 := by unfold maxLen at hnm2; exact hnm2
  clear hcm hcm1 hcm2 hnc1 hnc2 hL hsh hv hd hv1 hd1 hv2 hd2 hl1 hl2 hnm2
  have HAW := Lib.hid (zawake w HDX.out.1 HDX.out.2)
  go_enter Tryz.func5, Tryz.ntmps5
  go_wp2_with fail
  refine (made_light _ _ _ _ hnm).mono ?_; rintro e w' ⟨rfl, rfl⟩
  by_cases hn : n ≤ 400
  · have e1 : decide (n ≤ 400) = true := decide_eq_true hn
    rw [e1]
    have HRL := Lib.hid (made_roll A n c w hn hnc hl)
    clear e1 hn hnc hl hnm
    go_wp2_with fail
    refine (made_light _ _ _ _ hnm1).mono ?_; rintro e w' ⟨rfl, rfl⟩
    clear hnm1
    by_cases hn1 : n1 ≤ 400
    · have e1 : decide (n1 ≤ 400) = true := decide_eq_true hn1
      rw [e1]
      clear e1
      go_wp2_with fail
      refine HRL.out.mono ?_; rintro e w1 ⟨rfl, hd1, hb1⟩
      have HB1 := Lib.hid hb1
      obtain ⟨g, hg⟩ : ∃ q, w.heap.size = q := ⟨_, rfl⟩
      rw [hg] at hd1 ⊢
      have HG := Lib.hid hg
      clear hb1 hg HRL HAW
      go_wp2_with fail
      refine (made_lines g w1 hd1).mono ?_; rintro e w2 ⟨lb, lc, K, rfl, hK, hown, hg2⟩
      have HB2 := Lib.hid (below_dice HB1.out hg2 (Nat.le_of_eq HG.out))
      have HO := Lib.hid (ownsRow_base hown HB1.out.size)
      have HK := Lib.hid hK
      obtain ⟨N, hN⟩ : ∃ q, K.length = q := ⟨_, rfl⟩
      rw [hN] at HO ⊢
      have hN3 : 2 ≤ N ∧ N ≤ 3 := by rw [← hN]; exact hK.1
      have HN := Lib.hid hN
      clear hd1 hg2 hown hK hN
      go_wp2_with fail
      go_loopw [8, 9, 10, 11] (fun i _ _ _ wr => ∃ (k : Nat) (K' : List ByteArray), k ≤ 6 ∧ i = .int .i64 k ∧ K'.length = N ∧ Rows3 K' ∧ wr.ownsRow w.heap.size 9 1 (.slice (some ⟨lb, 0, none⟩) N lc) N (K'.map .string) ∧ Below w.heap.size w wr) (fun i _ _ _ _ => 6 - (intOf i).toNat)
      case atStart => exact ⟨0, K, by omega, rfl, HN.out, HK.out, HO.out, HB2.out⟩
      case round =>
        obtain ⟨k, K', hk, rfl, hKN, hKR, hown, hbw⟩ := hrel
        have HOWN := Lib.hid hown; have HBW := Lib.hid hbw; have HKR := Lib.hid hKR; have HKN := Lib.hid hKN
        by_cases hlt : k < n1 ∧ k < 6
        · obtain ⟨h1, h6⟩ := hlt
          have i1 : (k : Int) < (n1 : Int) := by omega
          have i2 : (k : Int) < 6 := by omega
          rcases HL1.out with h0 | ⟨ab, ao, rfl, hc⟩
          · omega
          obtain ⟨za, ca, za1, za2⟩ := hc k h1
          have ca1 := cell_later hbw ca
          have hq0 := Int.emod_nonneg za (b := (N : Int)) (by omega)
          have hq1 := Int.emod_lt_of_pos za (b := (N : Int)) (by omega)
          obtain ⟨q, hq⟩ : ∃ q : Nat, za % (N : Int) = q := ⟨(za % (N : Int)).toNat, (Int.toNat_of_nonneg hq0).symm⟩
          rw [hq] at hq1
          have hqn : q < N := by omega
          have hqk : q < K'.length := by omega
          obtain ⟨s, hs⟩ : ∃ s, K'[q]'hqk = s := ⟨_, rfl⟩
          have hss := hKR.2 s (by rw [← hs]; exact List.getElem_mem hqk)
          have hcl : wr.cell? ⟨lb, q, none⟩ = some (.string s) := by
            rw [hown.cellAt q (by omega), List.getElem?_map, List.getElem?_eq_getElem hqk, hs]; rfl
          have hfl := own_free hown q
          obtain ⟨Wc, cap, hcv, hcv2⟩ := conv_line2 wr s
          have HCV := Lib.hid hcv2
          have HM := Lib.hid (made_mod za N wr za1 za2 (by omega) (by omega))
          rw [hq] at HM
          have ca2 := cell_later hcv2.1 ca1
          have iq : (q : Int) < (N : Int) := by omega
          have HHS := Lib.hid hss
          clear hq hq0 hq1 hs hc ca hcv2 hown hbw hKR hKN hqk HB2 HO HK HN
          go_wp2_with fail
          refine HM.out.mono ?_; rintro e w' ⟨rfl, rfl⟩
          clear HM
          go_upto_if 49 with fail
          go_cut [11] from 46 to 53 (fun y W' => ∃ cz : Int, y = .int .i64 cz ∧ -9223372036854775808 ≤ cz ∧ cz ≤ 9223372036854775807 ∧ Wc = W')
          case first =>
            by_cases hb2 : k < n2
            · have e2 : decide ((k : Int) < (n2 : Int)) = true := decide_eq_true (by omega)
              have i3 : (k : Int) < (n2 : Int) := by omega
              rcases HL2.out with h0 | ⟨bb, bo, rfl, hc2⟩
              · omega
              obtain ⟨zb, cb, zb1, zb2⟩ := hc2 k hb2
              have cb1 := cell_later (HBW.out.trans (HCV.out.1.mono HBW.out.size)) cb
              clear hc2 cb hb2
              go_wp2_with fail
              go_meet
              exact ⟨zb, rfl, zb1, zb2, rfl⟩
            · have e2 : decide ((k : Int) < (n2 : Int)) = false := decide_eq_false (by omega)
              have i3 : ¬ ((k : Int) < (n2 : Int)) := by omega
              clear hb2
              go_wp2_with fail
              go_meet
              exact ⟨0, rfl, by decide, by decide, rfl⟩
          case rest =>
          obtain ⟨cz, rfl, cz1, cz2, rfl⟩ := hcut
          clear hcv ca1 hfl
          have HCL := Lib.hid hcl
          clear hcl
          have h30 := HHS.out
          have r0 := Int.emod_nonneg (za / 16) (b := (s.size : Int)) (by omega)
          have r1 := Int.emod_lt_of_pos (za / 16) (b := (s.size : Int)) (by omega)
          obtain ⟨m, hm⟩ : ∃ m : Nat, (za / 16) % (s.size : Int) = m := ⟨((za / 16) % (s.size : Int)).toNat, (Int.toNat_of_nonneg r0).symm⟩
          have HM1 := Lib.hid (made_mod (za / 16) s.size Wc (by omega) (by omega) (by omega) (by omega))
          rw [hm] at HM1 r1
          have u0 := Int.emod_nonneg cz (b := 39) (by omega)
          have u1 := Int.emod_lt_of_pos cz (b := 39) (by omega)
          obtain ⟨t, ht⟩ : ∃ t : Nat, cz % 39 = t := ⟨(cz % 39).toNat, (Int.toNat_of_nonneg u0).symm⟩
          have HM2 := Lib.hid (made_mod cz 39 Wc cz1 cz2 (by decide) (by decide))
          rw [ht] at HM2 u1
          have t39 : (t : Int) < 39 := u1
          have t39n : t < 39 := by omega
          have ms : (m : Int) < (s.size : Int) := r1
          have hmn : m < s.data.toList.length := by rw [Opt.size_len]; omega
          obtain ⟨gb, hgb⟩ : ∃ q, wr.heap.size = q := ⟨_, rfl⟩
          have hby := HCV.out.2.2.1
          rw [hgb] at hby ⊢
          have hbc := hby m hmn
          have d0 := hbc.1
          have f0 := hbc.2
          have HGB := Lib.hid hgb
          have HBY := Lib.hid hby
          clear hm r0 r1 ht u0 u1 hgb hby hbc h30
          go_wp2_with fail
          refine HM1.out.mono ?_; rintro e w' ⟨rfl, rfl⟩
          go_wp2_with fail
          refine HM2.out.mono ?_; rintro e w' ⟨rfl, rfl⟩
          clear HM1 HM2
          go_upto_region 13 with fail
          generalize (⟨#[60, 48, 49, 50, 51, 52, 53, 54, 55, 56, 57, 65, 66, 67, 68, 69, 70, 71, 72, 73, 74, 75, 76, 77, 78, 79, 80, 81, 82, 83, 84, 85, 86, 87, 88, 89, 90, 97, 32]⟩ : ByteArray)[t]'(by show t < 39; omega) = y
          clear d0 f0
          have hbq := bytes_set HBY.out m y
          have hlq := lines_put HOWN.out HBW.out HCV.out.1 HGB.out HCL.out m y
          generalize Wc.setCell ⟨gb, m, none⟩ (.int .u8 ↑y.toNat) = Wq at hbq hlq ⊢
          obtain ⟨hoq, hclq, hbwq⟩ := hlq
          have hfq := own_free hoq q
          have hln : (s.data.toList.set m y).length = s.size := by rw [List.length_set, Opt.size_len]
          have hcv := drop_bytes (P := Tryz.prog) hbq 0 (s.data.toList.set m y).length (by omega) cap 41 9 5 Tryz.underlying41 Tryz.underlying5 Tryz.underlying9
          rw [List.drop_zero, List.take_length, hln] at hcv
          obtain ⟨T, hT⟩ : ∃ T : ByteArray, (⟨(s.data.toList.set m y).toArray⟩ : ByteArray) = T := ⟨_, rfl⟩
          have hTs : 30 ≤ T.size ∧ T.size ≤ 44 := by rw [← hT, arr_size, hln]; exact HHS.out
          rw [hT] at hcv
          have HTS := Lib.hid hTs
          have HFIN := Lib.hid (lines_fin hoq hbwq q T)
          clear hbq hln hT hTs hoq hbwq
          go_wp2_with fail
          go_roundw
          case rel => exact ⟨k + 1, K'.set q T, by omega, by go_num, by rw [List.length_set]; exact HKN.out, rows_set HKR.out q T HTS.out, HFIN.out.1, HFIN.out.2⟩
          case measure => simp [intOf]; omega
        · have HZP := Lib.hid (fun W (hT : TextsAt W (some ⟨lb, 0, none⟩) K') (hb : Below w.heap.size w W) => zone_parses K' (some ⟨lb, 0, none⟩) lc W (by have := HKN.out; omega) (fun s hs => by have := HKR.out.2 s hs; omega) hT (HDX.out.1.below hb) (HDX.out.2.below hb))
          have HTX := Lib.hid (show TextsAt wr (some ⟨lb, 0, none⟩) K' from own_texts3 HKN.out HOWN.out)
          rw [HKN.out] at HZP
          clear hown hbw hKR hKN HB2 HO HK HN
          by_cases h1 : k < n1
          · have i1 : (k : Int) < (n1 : Int) := by omega
            have i2 : ¬ ((k : Int) < 6) := by omega
            clear hlt h1
            go_wp2_with fail
            refine (HZP.out _ HTX.out HBW.out).mono ?_; rintro e W9 ⟨rfl, hb9⟩
            have HBE := Lib.hid (HBW.out.trans (hb9.mono HBW.out.size))
            clear hb9
            go_wp2_with fail
            go_ret
            exact ⟨rfl, HBE.out⟩
          · have i1 : ¬ ((k : Int) < (n1 : Int)) := by omega
            clear hlt h1
            go_wp2_with fail
            refine (HZP.out _ HTX.out HBW.out).mono ?_; rintro e W9 ⟨rfl, hb9⟩
            have HBE := Lib.hid (HBW.out.trans (hb9.mono HBW.out.size))
            clear hb9
            go_wp2_with fail
            go_ret
            exact ⟨rfl, HBE.out⟩
    · have e1 : decide (n1 ≤ 400) = false := decide_eq_false hn1
      rw [e1]
      clear e1 hn1
      go_wp2_with fail
      refine HAW.out.mono ?_; rintro e w1 ⟨rfl, hb1⟩
      go_wp2_with fail
      go_ret
      exact ⟨rfl, hb1⟩
  · have e1 : decide (n ≤ 400) = false := decide_eq_false hn
    rw [e1]
    clear e1 hn hnc hl hnm
    go_wp2_with fail
    refine HAW.out.mono ?_; rintro e w1 ⟨rfl, hb1⟩
    go_wp2_with fail
    go_ret
    exact ⟨rfl, hb1⟩
end Go.Proofs.YtelngghecmkipaaGreatDoor
