/- Chapter 11: the walk of the law that a replaced digit is noticed. -/
import Derived.Test.YtelngghecmkipaaGreatDoorZonLaw6
import Derived.Test.YtelngghecmkipaaGreatDoorZonNotP
import Derived.Deep.CutRange
namespace Go.Proofs.YtelngghecmkipaaGreatDoor
open Go.RowKit Go.ChangeShapes Go.WideShapes

/-- Lines of a zone: two or three, none empty. -/
def Rows3 (K : List ByteArray) : Prop := (2 ≤ K.length ∧ K.length ≤ 3) ∧ ∀ s ∈ K, 30 ≤ s.size ∧ s.size ≤ 44
theorem bldK_rows {z : Zn.Z} (h : Zn.Good z) : Rows3 (Zn.bldK z) := by
  have hf := h.fmt
  have hS := Zn.asm_len z.fmt.toNat (by omega) _ (Zn.bld_wide z.fmt.toNat z)
  refine ⟨?_, fun s hs => ?_⟩
  · unfold Zn.bldK
    rw [List.length_map]
    have h1 := hS.1
    unfold Zn.nLines at h1
    split at h1 <;> (unfold Zn.bld; omega)
  · obtain ⟨l, hl, rfl⟩ := List.mem_map.1 hs
    have h1 := hS.2 l hl
    rw [arr_size, h1]
    unfold Zn.wLine
    repeat' split
    all_goals omega
theorem own_set {w : World} {base e n c g : Nat} {xs : List Value} (h : w.ownsRow base e 1 (.slice (some ⟨g, 0, none⟩) n c) n xs) (i : Nat) (v : Value) :
    (w.setCell ⟨g, i, none⟩ v).ownsRow base e 1 (.slice (some ⟨g, 0, none⟩) n c) n (xs.set i v) := by
  obtain ⟨h0, h1⟩ := h
  refine ⟨by rw [List.length_set]; exact h0, ?_⟩
  rcases h1 with ⟨h1, _⟩ | ⟨g', cap, cur, h2, h3, h4, h5, h6, h7, h8⟩
  · cases h1
  · injection h2 with e1 e2 e3
    injection e1 with e1
    injection e1 with e1
    subst e1; subst e3
    refine .inr ⟨g, c, cur.setIfInBounds i v, rfl, h3, heap_setCell_same w g i _ _ v h4, h5, h6, by simpa using h7, ?_⟩
    rw [Array.toList_setIfInBounds, List.take_set, h8]
theorem own_free {w : World} {base e n c g : Nat} {xs : List Value} (h : w.ownsRow base e 1 (.slice (some ⟨g, 0, none⟩) n c) n xs) (i : Nat) : w.frozen? ⟨g, i, none⟩ = false := by
  rcases h.2 with ⟨h1, _⟩ | ⟨g', cap, cur, h2, h3, h4, h5⟩
  · cases h1
  · injection h2 with e1 e2 e3
    injection e1 with e1
    injection e1 with e1
    subst e1
    exact frozen_of_row w g i _ _ h4
theorem bytes_set {w : World} {k : Nat} {l : List UInt8} (hb : BytesAt w k l) (m : Nat) (x : UInt8) : BytesAt (w.setCell ⟨k, m, none⟩ (.int .u8 (x.toNat : Int))) k (l.set m x) := by
  intro i hi
  rw [List.length_set] at hi
  have h0 := hb i hi
  refine ⟨?_, by rw [World.frozen?_setCell]; exact h0.2⟩
  by_cases e : m = i
  · subst e
    rw [World.cell?_setCell_same _ _ _ h0.1, List.getElem_set_self]
  · rw [World.cell?_setCell_other _ _ _ _ (by intro h; injection h with _ h; exact e h), h0.1, List.getElem_set_ne e]
theorem lines_put {w wr Wc : World} {lb lc N q gb : Nat} {K : List ByteArray} {s : ByteArray} (ho : wr.ownsRow w.heap.size 9 1 (.slice (some ⟨lb, 0, none⟩) N lc) N (K.map .string)) (hw : Below w.heap.size w wr) (hc : Below wr.heap.size wr Wc) (hg : wr.heap.size = gb)
    (hcl : wr.cell? ⟨lb, q, none⟩ = some (.string s)) (m : Nat) (y : UInt8) :
    (Wc.setCell ⟨gb, m, none⟩ (.int .u8 (y.toNat : Int))).ownsRow w.heap.size 9 1 (.slice (some ⟨lb, 0, none⟩) N lc) N (K.map .string) ∧ (Wc.setCell ⟨gb, m, none⟩ (.int .u8 (y.toNat : Int))).cell? ⟨lb, q, none⟩ = some (.string s) ∧ Below w.heap.size w (Wc.setCell ⟨gb, m, none⟩ (.int .u8 (y.toNat : Int))) := by
  have hlt := ho.lt lb rfl
  have hne : lb ≠ gb := by omega
  refine ⟨ownsRow_setCell_other (ownsRow_later ho hc) (by intro e; injection e with e; exact hne e) _, ?_, (hw.trans (hc.mono hw.size)).setCell (p := ⟨gb, m, none⟩) (by show w.heap.size ≤ gb; have := hw.size; omega) _⟩
  rw [World.cell?_setCell_other _ _ _ _ (by intro e; injection e with e _; exact hne e.symm)]
  exact cell_later hc hcl
theorem lines_fin {w W : World} {lb lc N : Nat} {K : List ByteArray} (ho : W.ownsRow w.heap.size 9 1 (.slice (some ⟨lb, 0, none⟩) N lc) N (K.map .string)) (hw : Below w.heap.size w W) (q : Nat) (T : ByteArray) :
    (W.setCell ⟨lb, q, none⟩ (.string T)).ownsRow w.heap.size 9 1 (.slice (some ⟨lb, 0, none⟩) N lc) N ((K.set q T).map .string) ∧ Below w.heap.size w (W.setCell ⟨lb, q, none⟩ (.string T)) := by
  have hlt := ho.lt lb rfl
  exact ⟨by rw [List.map_set]; exact own_set ho q _, hw.setCell (p := ⟨lb, q, none⟩) hlt.1 _⟩
theorem own_texts3 {w W : World} {lb lc N : Nat} {K : List ByteArray} (hN : K.length = N) (ho : W.ownsRow w.heap.size 9 1 (.slice (some ⟨lb, 0, none⟩) N lc) N (K.map .string)) : TextsAt W (some ⟨lb, 0, none⟩) K := by
  rw [← hN] at ho
  obtain ⟨A, c, e, _, h⟩ := own_texts ho
  injection e with e1 e2 e3
  rw [e1]; exact h
theorem drew_q {w W : World} {gb lb i : Nat} {l : List UInt8} {v v2 : Value} {N : Nat} {xs : List Value} (h : BytesAt W gb l ∧ W.ownsRow w.heap.size 9 1 v N xs ∧ W.cell? ⟨lb, i, none⟩ = some v2 ∧ Below w.heap.size w W) :
    BytesAt W.drew gb l ∧ W.drew.ownsRow w.heap.size 9 1 v N xs ∧ W.drew.cell? ⟨lb, i, none⟩ = some v2 ∧ Below w.heap.size w W.drew :=
  ⟨fun i hi => h.1 i hi, ownsRow_later h.2.1 (Below.refl _ _).drew, h.2.2.1, h.2.2.2.drew⟩
theorem parse13 {w W : World} {TL : List ByteArray} {N i lb lc : Nat} {T : ByteArray} (hN : TL.length = N) (hN3 : N ≤ 3) (hR : ∀ s ∈ TL, 30 ≤ s.size ∧ s.size ≤ 44) (hT : 30 ≤ T.size ∧ T.size ≤ 44) (h13 : Zn.prsE (txts (TL.set i T)) = 13)
    (ho : W.ownsRow w.heap.size 9 1 (.slice (some ⟨lb, 0, none⟩) N lc) N ((TL.set i T).map .string)) (hb : Below w.heap.size w W) (h1 : Dat.At w) (h2 : Opt.Lax w) :
    Calls Tryz.prog 10 #[.slice (some ⟨lb, 0, none⟩) N lc] W fun e w' => ∃ zz : Zn.Z, e = .returned (.tuple #[zz.val, .int .i64 13]) ∧ Below w.heap.size w w' := by
  have hl : (TL.set i T).length = N := by rw [List.length_set]; exact hN
  have h := zparse (TL.set i T) (some ⟨lb, 0, none⟩) lc W (by omega) (fun s hs => by
    rcases List.mem_or_eq_of_mem_set hs with h | h
    · have := hR s h; omega
    · rw [h]; omega) (own_texts3 hl ho) (h1.below hb) (h2.below hb)
  rw [hl, h13] at h
  refine h.mono ?_; rintro e w' ⟨rfl, hb'⟩
  exact ⟨_, rfl, hb.trans (hb'.mono hb.size)⟩
set_option maxRecDepth 100000 in
set_option maxHeartbeats 8000000 in
theorem walkZoneNotices {H : Type} {enc : TypeId × Value → H} {X : Prop} (w : World) (v : Value) (d : DataW H) {b0 : Nat} {p : List MemPlace} {r : Reach} (hv : Value.okWide Tryz.prog w r b0 30 v) (hd : DataW.Trod enc Tryz.prog w 0 (fun _ => true) true 30 v d p)
    (n1 : Int) (w1 : (Lit.int .i64 n1).wf = true) (n2 : Int) (w2 : (Lit.int .i64 n2).wf = true)
    (_hsz : X) (hL : laidMetH Tryz.prog Rows.zoneParsesRow.laid w) (hsh : w.ShapedOpen Tryz.prog) :
    Calls Tryz.prog 6 #[v, .int .i64 n1, .int .i64 n2] w fun e w' => e = .returned (.bool true) ∧ Below w.heap.size w w' := by
  obtain ⟨A, n, c, rfl, hnc, hcm, hl⟩ := open_list hv hd
  have hnm := Nat.le_trans hnc hcm
  have HDX := Lib.hid (And.intro (Dat.at_of hL) (Opt.lax_of hsh))
  have B1 := Lib.hid (bounds_i64 w1)
  have B2 := Lib.hid (bounds_i64 w2)
  clear hcm hL hsh hv hd w1 w2
  go_enter Tryz.func6, Tryz.ntmps6
  go_wp2_with fail
  refine (made_light _ _ _ _ hnm).mono ?_; rintro e w' ⟨rfl, rfl⟩
  by_cases hn : n ≤ 400
  · have e1 : decide (n ≤ 400) = true := decide_eq_true hn
    rw [e1]
    have HRL := Lib.hid (made_roll A n c w hn hnc hl)
    clear e1 hn hnc hl hnm
    go_wp2_with fail
    refine HRL.out.mono ?_; rintro e w1 ⟨rfl, hd1, hb1⟩
    have HB1 := Lib.hid hb1
    obtain ⟨g, hg⟩ : ∃ q, w.heap.size = q := ⟨_, rfl⟩
    rw [hg] at hd1 ⊢
    have HG := Lib.hid hg
    clear hb1 hg HRL
    go_wp2_with fail
    refine (made_zone g g w1 hd1).mono ?_; rintro e w2 ⟨z, rfl, hz, hd2, hg2⟩
    have HB2 := Lib.hid (below_dice HB1.out hg2 (Nat.le_of_eq HG.out))
    have HZ := Lib.hid hz
    clear hg2 hd1 hd2 hz
    unfold Zn.Z.val
    go_upto_region 4 with fail
    have ha := below_alloc1 w2 (.cells #[.int .i64 z.fmt, .string z.kind, .string z.state, .string z.sur, .string z.giv, .string z.num, .string z.nat, .string z.birth, .string z.sex, .string z.exp, .string z.opt, .string z.sec] 24)
    have hW : Z1 w w2.heap.size z (w2.alloc (.cells #[.int .i64 z.fmt, .string z.kind, .string z.state, .string z.sur, .string z.giv, .string z.num, .string z.nat, .string z.birth, .string z.sex, .string z.exp, .string z.opt, .string z.sec] 24)) := ⟨ZBox.new w2 z, HB2.out.trans (ha.mono HB2.out.size)⟩
    clear ha
    generalize w2.alloc (.cells #[.int .i64 z.fmt, .string z.kind, .string z.state, .string z.sur, .string z.giv, .string z.num, .string z.nat, .string z.birth, .string z.sex, .string z.exp, .string z.opt, .string z.sec] 24) = W3 at hW ⊢
    obtain ⟨g3, hg3⟩ : ∃ q, w2.heap.size = q := ⟨_, rfl⟩
    rw [hg3] at hW ⊢
    clear hg3
    have HFI := Lib.hid (fits_le (fits_good HZ.out) (show 100 ≤ 140737488355328 by decide))
    have HVE := Lib.hid HZ.out.1.vld
    have HAB := Lib.hid (show z.sur.size + z.giv.size ≤ 4294967000 by have h1 := HZ.out.2.1; have h2 := HZ.out.2.2; omega)
    obtain ⟨F, hF, hF1⟩ := Zn.vld_fmt HVE.out
    have hR := bldK_rows HZ.out.1
    obtain ⟨TL, hTL⟩ : ∃ q, Zn.bldK z = q := ⟨_, rfl⟩
    rw [hTL] at hR
    have HR := Lib.hid hR
    have HF := Lib.hid (And.intro hF hF1); have HK := Lib.hid hTL
    clear hF hF1 hTL hR
    obtain ⟨x0, x1, x2, x3, x4, x5, x6, x7, x8, x9, x10, x11⟩ := hW.1.cells
    go_wp2_with fail
    refine (zbuild z _ HFI.out (HDX.out.1.below hW.2) (HDX.out.2.below hW.2) HAB.out).mono ?_; rintro e W4 ⟨lv, rfl, _, hown, hb4⟩
    have ho := hown HVE.out
    rw [HVE.out]
    have hle := hW.2.size
    replace hW := hW.later hb4
    rw [HK.out] at ho
    have ho2 := ownsRow_base ho hle
    obtain ⟨N, hN⟩ : ∃ q, TL.length = q := ⟨_, rfl⟩
    obtain ⟨n', hn'⟩ : ∃ n', N = n' + 1 := ⟨N - 1, by have := HR.out.1; omega⟩
    rw [hN, hn'] at ho2
    obtain ⟨lb, lc, rfl⟩ := own_some ho2
    rw [← hn'] at ho2 ⊢
    have hN2 : 2 ≤ N ∧ N ≤ 3 := by rw [← hN]; exact HR.out.1
    have HN := Lib.hid (And.intro hN hN2)
    have HO := Lib.hid ho2
    clear hb4 hown ho ho2 hN hn' hle x0 x1 x2 x3 x4 x5 x6 x7 x8 x9 x10 x11
    go_wp2_with fail
    refine (zawake _ (HDX.out.1.below hW.2) (HDX.out.2.below hW.2)).mono ?_; rintro e W5 ⟨rfl, hb5⟩
    replace hW := hW.later hb5
    have HLZ := Lib.hid (And.intro (ownsRow_later HO.out hb5) hW.2)
    obtain ⟨x0, x1, x2, x3, x4, x5, x6, x7, x8, x9, x10, x11⟩ := hW.1.cells
    obtain ⟨s0, hs0, t0, t0'⟩ : ∃ s, TL[0]? = some s ∧ 30 ≤ s.size ∧ s.size ≤ 44 := ⟨TL[0]'(by have := HN.out; omega), List.getElem?_eq_getElem _, HR.out.2 _ (List.getElem_mem _)⟩
    obtain ⟨s1, hs1, t1, t1'⟩ : ∃ s, TL[1]? = some s ∧ 30 ≤ s.size ∧ s.size ≤ 44 := ⟨TL[1]'(by have := HN.out; omega), List.getElem?_eq_getElem _, HR.out.2 _ (List.getElem_mem _)⟩
    have c0 : W5.cell? ⟨lb, 0, none⟩ = some (.string s0) := by rw [HLZ.out.1.cellAt 0 (by omega), List.getElem?_map, hs0]; rfl
    have c1 : W5.cell? ⟨lb, 1, none⟩ = some (.string s1) := by rw [HLZ.out.1.cellAt 1 (by omega), List.getElem?_map, hs1]; rfl
    have u0 : ¬ ((s0.size : Int) < 30) := by omega
    have u1 : ¬ ((s1.size : Int) < 30) := by omega
    have uN : ¬ ((N : Int) < 2) := by omega
    have uN1 : (1 : Int) < (N : Int) := by omega
    have uN0 : (0 : Int) < (N : Int) := by omega
    clear hb5 HO hs0 hs1
    go_wp2_with fail
    refine (made_mod _ _ _ B1.out.1 B1.out.2 (by omega) (by omega)).mono ?_; rintro e w' ⟨rfl, rfl⟩
    obtain ⟨m, hm, hml⟩ : ∃ m : Nat, n1 % 28 = m ∧ m < 28 := by
      have m1 := Int.emod_nonneg n1 (b := 28) (by omega)
      have m2 := Int.emod_lt_of_pos n1 (b := 28) (by omega)
      exact ⟨(n1 % 28).toNat, by omega, by omega⟩
    rw [hm]
    clear hm
    by_cases hF1 : F = 1
    · have hz1 : z.fmt = 1 := by rw [HF.out.1, hF1]; rfl
      by_cases hm : m < 14
      · have im : (m : Int) < 14 := by omega
        obtain ⟨k, hk⟩ : ∃ k : Nat, 5 + m = k := ⟨_, rfl⟩
        have q0 : IntKind.i64.wrap (5 + (m : Int)) = (k : Int) := (IntWalk.i64_in _ (by omega)).trans (by omega)
        have hk28 : k < 28 := by omega
        go_upto_region 12 with fail
        try rw [q0]
        clear c0 c1 u0 u1 t0 t0' t1 t1' q0 hz1 x0 x1 x2 x3 x4 x5 x6 x7 x8 x9 x10 x11
        obtain ⟨s, hs, hss⟩ : ∃ s, TL[0]? = some s ∧ 30 ≤ s.size ∧ s.size ≤ 44 := ⟨TL[0]'(by have := HN.out; omega), List.getElem?_eq_getElem _, HR.out.2 _ (List.getElem_mem _)⟩
        have hcl : W5.cell? ⟨lb, 0, none⟩ = some (.string s) := by
          rw [HLZ.out.1.cellAt 0 (by omega), List.getElem?_map, hs]; rfl
        have hkl : k < s.data.toList.length := by rw [Opt.size_len]; omega
        obtain ⟨Wc, cap, hcv, hcv2⟩ := conv_line2 W5 s
        have HCV := Lib.hid hcv2
        obtain ⟨gb, hgb⟩ : ∃ q, W5.heap.size = q := ⟨_, rfl⟩
        have hby := hcv2.2.2.1
        rw [hgb] at hby
        have HBY := Lib.hid hby
        have HCL := Lib.hid hcl
        have hfl := own_free HLZ.out.1 0
        have d0 := (hby k hkl).1
        have f0 := (hby k hkl).2
        obtain ⟨x, hx⟩ : ∃ x : Int, ((s.data.toList[k]'hkl).toNat : Int) = x := ⟨_, rfl⟩
        have hx0 := u8_le (s.data.toList[k]'hkl)
        rw [hx] at d0 hx0
        have HC := Lib.hid (List.getElem?_eq_getElem hkl)
        have HX := Lib.hid hx
        have HS := Lib.hid hs; have HSS := Lib.hid hss; have HGB := Lib.hid hgb
        have hkI : (k : Int) < (s.size : Int) := by omega
        rw [hgb] at hcv
        clear hx hs hss hby hcv2 hgb
        by_cases h0 : 48 ≤ x ∧ x ≤ 57
        · have h1 := h0.1; have h2 := h0.2
          have m1 := Int.emod_nonneg n2 (b := 9) (by omega)
          have m2 := Int.emod_lt_of_pos n2 (b := 9) (by omega)
          obtain ⟨y, hy⟩ : ∃ y, n2 % 9 = y := ⟨_, rfl⟩
          rw [hy] at m1 m2
          have hmod : ∀ W, Calls Tryz.prog 19 #[.int .i64 n2, .int .i64 9] W fun e w' => e = .returned (.int .i64 y) ∧ W = w' := fun W => by
            have := made_mod n2 9 W B2.out.1 B2.out.2 (by omega) (by omega); rwa [hy] at this
          have q1 : IntKind.u8.wrap (x - 48) = x - 48 := IntWalk.u8_in _ (by omega)
          have q2 : IntKind.i64.wrap (x - 48 + 1) = x - 48 + 1 := IntWalk.i64_in _ (by omega)
          have q3 : IntKind.i64.wrap (x - 48 + 1 + y) = x - 48 + 1 + y := IntWalk.i64_in _ (by omega)
          have q4 : (x - 48 + 1 + y).tmod 10 = (x - 48 + 1 + y) % 10 := Int.tmod_eq_emod_of_nonneg (by omega)
          have q5 : IntKind.i64.wrap (48 + (x - 48 + 1 + y) % 10) = 48 + (x - 48 + 1 + y) % 10 := IntWalk.i64_in _ (by omega)
          have q6 : IntKind.u8.wrap (48 + (x - 48 + 1 + y) % 10) = 48 + (x - 48 + 1 + y) % 10 := IntWalk.u8_in _ (by omega)
          have q7 : IntKind.i64.wrap (x - 48) = x - 48 := IntWalk.i64_in _ (by omega)
          have hnt := Zn.notice_K HZ.out.1 F HF.out.2 HF.out.1 (by omega) (i := 0) (k := k) (by rw [HK.out]; exact HS.out) HC.out (by rw [HX.out]; exact h1) (by rw [HX.out]; exact h2) y ⟨m1, m2⟩
          rw [HX.out, HK.out] at hnt
          have hyt := b8_toNat (48 + (x - 48 + 1 + y) % 10) (by omega) (by omega)
          have HNT := Lib.hid hnt
          clear hy hnt
          go_upto_region 15 with fail
          have HQ := Lib.hid (And.intro (bytes_set HBY.out k (b8 (48 + (x - 48 + 1 + y) % 10))) (lines_put HLZ.out.1 HLZ.out.2 HCV.out.1 HGB.out HCL.out k (b8 (48 + (x - 48 + 1 + y) % 10))))
          rw [hyt] at HQ
          clear hyt
          go_region_with (go_at_call 19; refine (hmod _).mono ?_; rintro e w' ⟨rfl, rfl⟩)
          all_goals
            replace HQ := Lib.hid (drew_q HQ.out)
            generalize (Wc.setCell ⟨gb, k, none⟩ (.int .u8 (48 + (x - 48 + 1 + y) % 10))).drew = Wq at HQ ⊢
            generalize b8 (48 + (x - 48 + 1 + y) % 10) = y8 at HQ HNT
            clear hcv d0 f0 hcl q1 q2 q3 q4 q5 q6 q7 hmod
            obtain ⟨hbq, hoq, hclq, hbwq⟩ := HQ.out
            have hfq := own_free hoq 0
            have hln : (s.data.toList.set k y8).length = s.size := by rw [List.length_set, Opt.size_len]
            have hcv := drop_bytes (P := Tryz.prog) hbq 0 (s.data.toList.set k y8).length (by omega) cap 41 9 5 Tryz.underlying41 Tryz.underlying5 Tryz.underlying9
            rw [List.drop_zero, List.take_length, hln] at hcv
            obtain ⟨T, hT⟩ : ∃ T : ByteArray, (⟨(s.data.toList.set k y8).toArray⟩ : ByteArray) = T := ⟨_, rfl⟩
            have hTs : 30 ≤ T.size ∧ T.size ≤ 44 := by rw [← hT, arr_size, hln]; exact HSS.out
            rw [hT] at hcv HNT
            have HFIN := Lib.hid (lines_fin hoq hbwq 0 T)
            have HPZ := Lib.hid (parse13 (HN.out.1) (by have := HN.out.2; omega) HR.out.2 hTs HNT.out HFIN.out.1 HFIN.out.2 HDX.out.1 HDX.out.2)
            clear hbq hln hT hTs hoq hbwq HQ HNT 
            go_wp2_with fail
            refine HPZ.out.mono ?_; rintro e W9 ⟨zz, rfl, hb9⟩
            have HBE := Lib.hid hb9
            clear hb9 HPZ HFIN
            unfold Zn.Z.val
            go_wp2_with fail
            go_ret
            (first | exact ⟨rfl, HBE.out⟩ | exact ⟨rfl, HBE.out.trans ((below_alloc1 _ _).mono HBE.out.size)⟩ | exact ⟨rfl, (HBE.out.trans ((below_alloc1 _ _).mono HBE.out.size)).drew⟩)
        · have HBE := Lib.hid (HLZ.out.2.trans (HCV.out.1.mono HLZ.out.2.size))
          by_cases h1 : x < 48
          · clear h0
            go_wp2_with fail
            go_ret
            exact ⟨rfl, HBE.out⟩
          · have h2 : 57 < x := by omega
            have h3 : x > 57 := h2
            clear h0
            go_wp2_with fail
            go_ret
            exact ⟨rfl, HBE.out⟩
      · have im : ¬ ((m : Int) < 14) := by omega
        obtain ⟨k, hk⟩ : ∃ k : Nat, m - 14 = k := ⟨_, rfl⟩
        have q0 : IntKind.i64.wrap ((m : Int) - 14) = (k : Int) := (IntWalk.i64_in _ (by omega)).trans (by omega)
        have hk28 : k < 28 := by omega
        go_upto_region 12 with fail
        try rw [q0]
        clear c0 c1 u0 u1 t0 t0' t1 t1' q0 hz1 x0 x1 x2 x3 x4 x5 x6 x7 x8 x9 x10 x11
        obtain ⟨s, hs, hss⟩ : ∃ s, TL[1]? = some s ∧ 30 ≤ s.size ∧ s.size ≤ 44 := ⟨TL[1]'(by have := HN.out; omega), List.getElem?_eq_getElem _, HR.out.2 _ (List.getElem_mem _)⟩
        have hcl : W5.cell? ⟨lb, 1, none⟩ = some (.string s) := by
          rw [HLZ.out.1.cellAt 1 (by omega), List.getElem?_map, hs]; rfl
        have hkl : k < s.data.toList.length := by rw [Opt.size_len]; omega
        obtain ⟨Wc, cap, hcv, hcv2⟩ := conv_line2 W5 s
        have HCV := Lib.hid hcv2
        obtain ⟨gb, hgb⟩ : ∃ q, W5.heap.size = q := ⟨_, rfl⟩
        have hby := hcv2.2.2.1
        rw [hgb] at hby
        have HBY := Lib.hid hby
        have HCL := Lib.hid hcl
        have hfl := own_free HLZ.out.1 1
        have d0 := (hby k hkl).1
        have f0 := (hby k hkl).2
        obtain ⟨x, hx⟩ : ∃ x : Int, ((s.data.toList[k]'hkl).toNat : Int) = x := ⟨_, rfl⟩
        have hx0 := u8_le (s.data.toList[k]'hkl)
        rw [hx] at d0 hx0
        have HC := Lib.hid (List.getElem?_eq_getElem hkl)
        have HX := Lib.hid hx
        have HS := Lib.hid hs; have HSS := Lib.hid hss; have HGB := Lib.hid hgb
        have hkI : (k : Int) < (s.size : Int) := by omega
        rw [hgb] at hcv
        clear hx hs hss hby hcv2 hgb
        by_cases h0 : 48 ≤ x ∧ x ≤ 57
        · have h1 := h0.1; have h2 := h0.2
          have m1 := Int.emod_nonneg n2 (b := 9) (by omega)
          have m2 := Int.emod_lt_of_pos n2 (b := 9) (by omega)
          obtain ⟨y, hy⟩ : ∃ y, n2 % 9 = y := ⟨_, rfl⟩
          rw [hy] at m1 m2
          have hmod : ∀ W, Calls Tryz.prog 19 #[.int .i64 n2, .int .i64 9] W fun e w' => e = .returned (.int .i64 y) ∧ W = w' := fun W => by
            have := made_mod n2 9 W B2.out.1 B2.out.2 (by omega) (by omega); rwa [hy] at this
          have q1 : IntKind.u8.wrap (x - 48) = x - 48 := IntWalk.u8_in _ (by omega)
          have q2 : IntKind.i64.wrap (x - 48 + 1) = x - 48 + 1 := IntWalk.i64_in _ (by omega)
          have q3 : IntKind.i64.wrap (x - 48 + 1 + y) = x - 48 + 1 + y := IntWalk.i64_in _ (by omega)
          have q4 : (x - 48 + 1 + y).tmod 10 = (x - 48 + 1 + y) % 10 := Int.tmod_eq_emod_of_nonneg (by omega)
          have q5 : IntKind.i64.wrap (48 + (x - 48 + 1 + y) % 10) = 48 + (x - 48 + 1 + y) % 10 := IntWalk.i64_in _ (by omega)
          have q6 : IntKind.u8.wrap (48 + (x - 48 + 1 + y) % 10) = 48 + (x - 48 + 1 + y) % 10 := IntWalk.u8_in _ (by omega)
          have q7 : IntKind.i64.wrap (x - 48) = x - 48 := IntWalk.i64_in _ (by omega)
          have hnt := Zn.notice_K HZ.out.1 F HF.out.2 HF.out.1 (by omega) (i := 1) (k := k) (by rw [HK.out]; exact HS.out) HC.out (by rw [HX.out]; exact h1) (by rw [HX.out]; exact h2) y ⟨m1, m2⟩
          rw [HX.out, HK.out] at hnt
          have hyt := b8_toNat (48 + (x - 48 + 1 + y) % 10) (by omega) (by omega)
          have HNT := Lib.hid hnt
          clear hy hnt
          go_upto_region 15 with fail
          have HQ := Lib.hid (And.intro (bytes_set HBY.out k (b8 (48 + (x - 48 + 1 + y) % 10))) (lines_put HLZ.out.1 HLZ.out.2 HCV.out.1 HGB.out HCL.out k (b8 (48 + (x - 48 + 1 + y) % 10))))
          rw [hyt] at HQ
          clear hyt
          go_region_with (go_at_call 19; refine (hmod _).mono ?_; rintro e w' ⟨rfl, rfl⟩)
          all_goals
            replace HQ := Lib.hid (drew_q HQ.out)
            generalize (Wc.setCell ⟨gb, k, none⟩ (.int .u8 (48 + (x - 48 + 1 + y) % 10))).drew = Wq at HQ ⊢
            generalize b8 (48 + (x - 48 + 1 + y) % 10) = y8 at HQ HNT
            clear hcv d0 f0 hcl q1 q2 q3 q4 q5 q6 q7 hmod
            obtain ⟨hbq, hoq, hclq, hbwq⟩ := HQ.out
            have hfq := own_free hoq 1
            have hln : (s.data.toList.set k y8).length = s.size := by rw [List.length_set, Opt.size_len]
            have hcv := drop_bytes (P := Tryz.prog) hbq 0 (s.data.toList.set k y8).length (by omega) cap 41 9 5 Tryz.underlying41 Tryz.underlying5 Tryz.underlying9
            rw [List.drop_zero, List.take_length, hln] at hcv
            obtain ⟨T, hT⟩ : ∃ T : ByteArray, (⟨(s.data.toList.set k y8).toArray⟩ : ByteArray) = T := ⟨_, rfl⟩
            have hTs : 30 ≤ T.size ∧ T.size ≤ 44 := by rw [← hT, arr_size, hln]; exact HSS.out
            rw [hT] at hcv HNT
            have HFIN := Lib.hid (lines_fin hoq hbwq 1 T)
            have HPZ := Lib.hid (parse13 (HN.out.1) (by have := HN.out.2; omega) HR.out.2 hTs HNT.out HFIN.out.1 HFIN.out.2 HDX.out.1 HDX.out.2)
            clear hbq hln hT hTs hoq hbwq HQ HNT 
            go_wp2_with fail
            refine HPZ.out.mono ?_; rintro e W9 ⟨zz, rfl, hb9⟩
            have HBE := Lib.hid hb9
            clear hb9 HPZ HFIN
            unfold Zn.Z.val
            go_wp2_with fail
            go_ret
            (first | exact ⟨rfl, HBE.out⟩ | exact ⟨rfl, HBE.out.trans ((below_alloc1 _ _).mono HBE.out.size)⟩ | exact ⟨rfl, (HBE.out.trans ((below_alloc1 _ _).mono HBE.out.size)).drew⟩)
        · have HBE := Lib.hid (HLZ.out.2.trans (HCV.out.1.mono HLZ.out.2.size))
          by_cases h1 : x < 48
          · clear h0
            go_wp2_with fail
            go_ret
            exact ⟨rfl, HBE.out⟩
          · have h2 : 57 < x := by omega
            have h3 : x > 57 := h2
            clear h0
            go_wp2_with fail
            go_ret
            exact ⟨rfl, HBE.out⟩
    · have hz1 : ¬ (z.fmt = 1) := by rw [HF.out.1]; omega
      obtain ⟨k, hk⟩ : ∃ k : Nat, m = k := ⟨_, rfl⟩
      rw [hk]
      have hk28 : k < 28 := by omega
      have q0 : (k : Int) = k := rfl
      go_upto_region 12 with fail
      try rw [q0]
      clear c0 c1 u0 u1 t0 t0' t1 t1' q0 hz1 x0 x1 x2 x3 x4 x5 x6 x7 x8 x9 x10 x11
      obtain ⟨s, hs, hss⟩ : ∃ s, TL[1]? = some s ∧ 30 ≤ s.size ∧ s.size ≤ 44 := ⟨TL[1]'(by have := HN.out; omega), List.getElem?_eq_getElem _, HR.out.2 _ (List.getElem_mem _)⟩
      have hcl : W5.cell? ⟨lb, 1, none⟩ = some (.string s) := by
        rw [HLZ.out.1.cellAt 1 (by omega), List.getElem?_map, hs]; rfl
      have hkl : k < s.data.toList.length := by rw [Opt.size_len]; omega
      obtain ⟨Wc, cap, hcv, hcv2⟩ := conv_line2 W5 s
      have HCV := Lib.hid hcv2
      obtain ⟨gb, hgb⟩ : ∃ q, W5.heap.size = q := ⟨_, rfl⟩
      have hby := hcv2.2.2.1
      rw [hgb] at hby
      have HBY := Lib.hid hby
      have HCL := Lib.hid hcl
      have hfl := own_free HLZ.out.1 1
      have d0 := (hby k hkl).1
      have f0 := (hby k hkl).2
      obtain ⟨x, hx⟩ : ∃ x : Int, ((s.data.toList[k]'hkl).toNat : Int) = x := ⟨_, rfl⟩
      have hx0 := u8_le (s.data.toList[k]'hkl)
      rw [hx] at d0 hx0
      have HC := Lib.hid (List.getElem?_eq_getElem hkl)
      have HX := Lib.hid hx
      have HS := Lib.hid hs; have HSS := Lib.hid hss; have HGB := Lib.hid hgb
      have hkI : (k : Int) < (s.size : Int) := by omega
      rw [hgb] at hcv
      clear hx hs hss hby hcv2 hgb
      by_cases h0 : 48 ≤ x ∧ x ≤ 57
      · have h1 := h0.1; have h2 := h0.2
        have m1 := Int.emod_nonneg n2 (b := 9) (by omega)
        have m2 := Int.emod_lt_of_pos n2 (b := 9) (by omega)
        obtain ⟨y, hy⟩ : ∃ y, n2 % 9 = y := ⟨_, rfl⟩
        rw [hy] at m1 m2
        have hmod : ∀ W, Calls Tryz.prog 19 #[.int .i64 n2, .int .i64 9] W fun e w' => e = .returned (.int .i64 y) ∧ W = w' := fun W => by
          have := made_mod n2 9 W B2.out.1 B2.out.2 (by omega) (by omega); rwa [hy] at this
        have q1 : IntKind.u8.wrap (x - 48) = x - 48 := IntWalk.u8_in _ (by omega)
        have q2 : IntKind.i64.wrap (x - 48 + 1) = x - 48 + 1 := IntWalk.i64_in _ (by omega)
        have q3 : IntKind.i64.wrap (x - 48 + 1 + y) = x - 48 + 1 + y := IntWalk.i64_in _ (by omega)
        have q4 : (x - 48 + 1 + y).tmod 10 = (x - 48 + 1 + y) % 10 := Int.tmod_eq_emod_of_nonneg (by omega)
        have q5 : IntKind.i64.wrap (48 + (x - 48 + 1 + y) % 10) = 48 + (x - 48 + 1 + y) % 10 := IntWalk.i64_in _ (by omega)
        have q6 : IntKind.u8.wrap (48 + (x - 48 + 1 + y) % 10) = 48 + (x - 48 + 1 + y) % 10 := IntWalk.u8_in _ (by omega)
        have q7 : IntKind.i64.wrap (x - 48) = x - 48 := IntWalk.i64_in _ (by omega)
        have hnt := Zn.notice_K HZ.out.1 F HF.out.2 HF.out.1 (by omega) (i := 1) (k := k) (by rw [HK.out]; exact HS.out) HC.out (by rw [HX.out]; exact h1) (by rw [HX.out]; exact h2) y ⟨m1, m2⟩
        rw [HX.out, HK.out] at hnt
        have hyt := b8_toNat (48 + (x - 48 + 1 + y) % 10) (by omega) (by omega)
        have HNT := Lib.hid hnt
        clear hy hnt
        go_upto_region 15 with fail
        have HQ := Lib.hid (And.intro (bytes_set HBY.out k (b8 (48 + (x - 48 + 1 + y) % 10))) (lines_put HLZ.out.1 HLZ.out.2 HCV.out.1 HGB.out HCL.out k (b8 (48 + (x - 48 + 1 + y) % 10))))
        rw [hyt] at HQ
        clear hyt
        go_region_with (go_at_call 19; refine (hmod _).mono ?_; rintro e w' ⟨rfl, rfl⟩)
        all_goals
          replace HQ := Lib.hid (drew_q HQ.out)
          generalize (Wc.setCell ⟨gb, k, none⟩ (.int .u8 (48 + (x - 48 + 1 + y) % 10))).drew = Wq at HQ ⊢
          generalize b8 (48 + (x - 48 + 1 + y) % 10) = y8 at HQ HNT
          clear hcv d0 f0 hcl q1 q2 q3 q4 q5 q6 q7 hmod
          obtain ⟨hbq, hoq, hclq, hbwq⟩ := HQ.out
          have hfq := own_free hoq 1
          have hln : (s.data.toList.set k y8).length = s.size := by rw [List.length_set, Opt.size_len]
          have hcv := drop_bytes (P := Tryz.prog) hbq 0 (s.data.toList.set k y8).length (by omega) cap 41 9 5 Tryz.underlying41 Tryz.underlying5 Tryz.underlying9
          rw [List.drop_zero, List.take_length, hln] at hcv
          obtain ⟨T, hT⟩ : ∃ T : ByteArray, (⟨(s.data.toList.set k y8).toArray⟩ : ByteArray) = T := ⟨_, rfl⟩
          have hTs : 30 ≤ T.size ∧ T.size ≤ 44 := by rw [← hT, arr_size, hln]; exact HSS.out
          rw [hT] at hcv HNT
          have HFIN := Lib.hid (lines_fin hoq hbwq 1 T)
          have HPZ := Lib.hid (parse13 (HN.out.1) (by have := HN.out.2; omega) HR.out.2 hTs HNT.out HFIN.out.1 HFIN.out.2 HDX.out.1 HDX.out.2)
          clear hbq hln hT hTs hoq hbwq HQ HNT 
          go_wp2_with fail
          refine HPZ.out.mono ?_; rintro e W9 ⟨zz, rfl, hb9⟩
          have HBE := Lib.hid hb9
          clear hb9 HPZ HFIN
          unfold Zn.Z.val
          go_wp2_with fail
          go_ret
          (first | exact ⟨rfl, HBE.out⟩ | exact ⟨rfl, HBE.out.trans ((below_alloc1 _ _).mono HBE.out.size)⟩ | exact ⟨rfl, (HBE.out.trans ((below_alloc1 _ _).mono HBE.out.size)).drew⟩)
      · have HBE := Lib.hid (HLZ.out.2.trans (HCV.out.1.mono HLZ.out.2.size))
        by_cases h1 : x < 48
        · clear h0
          go_wp2_with fail
          go_ret
          exact ⟨rfl, HBE.out⟩
        · have h2 : 57 < x := by omega
          have h3 : x > 57 := h2
          clear h0
          go_wp2_with fail
          go_ret
          exact ⟨rfl, HBE.out⟩
  · have e1 : decide (n ≤ 400) = false := decide_eq_false hn
    rw [e1]
    clear e1 hn hnc hl hnm
    have HAW := Lib.hid (zawake w HDX.out.1 HDX.out.2)
    go_wp2_with fail
    refine HAW.out.mono ?_; rintro e w1 ⟨rfl, hb1⟩
    go_wp2_with fail
    go_ret
    exact ⟨rfl, hb1⟩
end Go.Proofs.YtelngghecmkipaaGreatDoor
