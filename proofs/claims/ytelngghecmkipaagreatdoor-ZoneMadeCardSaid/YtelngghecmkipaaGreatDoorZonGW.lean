/- Chapter 11: several texts in one (ZonLaw1, ZonLaw2). -/
import Derived.Test.YtelngghecmkipaaGreatDoorTake
import Derived.Test.YtelngghecmkipaaGreatDoorZonGL
import Derived.Test.YtelngghecmkipaaGreatDoorZonRParse
import Derived.Test.YtelngghecmkipaaGreatDoorZonGR
namespace Go.Proofs.YtelngghecmkipaaGreatDoor
open Go.RowKit Go.ChangeShapes Go.WideShapes

set_option maxRecDepth 100000 in
set_option maxHeartbeats 4000000 in
theorem zone_parses (R : List ByteArray) (A : Option Addr) (c : Nat) (w : World) (hR : R.length ≤ 8796093022208) (hRs : ∀ s ∈ R, s.size ≤ 140737488351232) (hA : TextsAt w A R) (hd : Dat.At w) (hx : Opt.Lax w) :
    Calls Tryz.prog 3 #[.slice A R.length c] w fun e w' => e = .returned (.bool true) ∧ Below w.heap.size w w' := by
  have HDX := Lib.hid (And.intro hd hx)
  have HA := Lib.hid hA
  obtain ⟨V, hV⟩ : ∃ q, Zn.prsV (txts R) = q := ⟨_, rfl⟩
  obtain ⟨E, hE⟩ : ∃ q, Zn.prsE (txts R) = q := ⟨_, rfl⟩
  have HP := Lib.hid (show ∀ W, TextsAt W A R → Dat.At W → Opt.Lax W → Calls Tryz.prog 10 #[.slice A R.length c] W fun e w' => e = .returned (.tuple #[.agg #[.int .i64 V.fmt, .string V.kind, .string V.state, .string V.sur, .string V.giv, .string V.num, .string V.nat, .string V.birth, .string V.sex, .string V.exp, .string V.opt, .string V.sec], .int .i64 E]) ∧ Below W.heap.size W w' from fun W h1 h2 h3 => by
    have h := zparse R A c W hR hRs h1 h2 h3
    rw [hV, hE] at h
    exact h)
  have HQ := Lib.hid (show ∀ W, TextsAt W A R → Calls Tryz.prog 11 #[.slice A R.length c] W fun e w' => e = .returned (.tuple #[.agg #[.int .i64 V.fmt, .string V.kind, .string V.state, .string V.sur, .string V.giv, .string V.num, .string V.nat, .string V.birth, .string V.sex, .string V.exp, .string V.opt, .string V.sec], .int .i64 E]) ∧ Below W.heap.size W w' from fun W h1 => by
    have h := rparse R A c W hR hRs h1
    rw [hV, hE] at h
    exact h)
  clear hd hx hA hV hE hRs hR
  go_enter Tryz.func3, Tryz.ntmps3
  go_wp2_with fail
  refine (HP.out _ HA.out HDX.out.1 HDX.out.2).mono ?_; rintro e w1 ⟨rfl, hb1⟩
  have HB1 := Lib.hid hb1; clear hb1
  go_upto_region 2 with fail
  have hb2 := below_alloc1 w1 (.cells #[.int .i64 V.fmt, .string V.kind, .string V.state, .string V.sur, .string V.giv, .string V.num, .string V.nat, .string V.birth, .string V.sex, .string V.exp, .string V.opt, .string V.sec] 24)
  have hx1 : ZBox (w1.alloc (.cells #[.int .i64 V.fmt, .string V.kind, .string V.state, .string V.sur, .string V.giv, .string V.num, .string V.nat, .string V.birth, .string V.sex, .string V.exp, .string V.opt, .string V.sec] 24)) w1.heap.size V := ZBox.new w1 V
  generalize w1.alloc (.cells #[.int .i64 V.fmt, .string V.kind, .string V.state, .string V.sur, .string V.giv, .string V.num, .string V.nat, .string V.birth, .string V.sex, .string V.exp, .string V.opt, .string V.sec] 24) = w2 at hb2 hx1 ⊢
  obtain ⟨g1, hg1⟩ : ∃ q, w1.heap.size = q := ⟨_, rfl⟩
  have HB2 := Lib.hid (HB1.out.trans (hb2.mono HB1.out.size))
  rw [hg1] at hx1 ⊢
  have HX1 := Lib.hid hx1
  clear hb2 hx1 hg1
  go_wp2_with fail
  refine (HQ.out _ (HA.out.later HB2.out)).mono ?_; rintro e w3 ⟨rfl, hb3⟩
  have HB3 := Lib.hid (HB2.out.trans (hb3.mono HB2.out.size)); have HX3 := Lib.hid (HX1.out.later hb3); clear hb3
  go_upto_region 3 with fail
  have hb4 := below_alloc1 w3 (.cells #[.int .i64 V.fmt, .string V.kind, .string V.state, .string V.sur, .string V.giv, .string V.num, .string V.nat, .string V.birth, .string V.sex, .string V.exp, .string V.opt, .string V.sec] 24)
  have hx4 : ZBox (w3.alloc (.cells #[.int .i64 V.fmt, .string V.kind, .string V.state, .string V.sur, .string V.giv, .string V.num, .string V.nat, .string V.birth, .string V.sex, .string V.exp, .string V.opt, .string V.sec] 24)) w3.heap.size V := ZBox.new w3 V
  generalize w3.alloc (.cells #[.int .i64 V.fmt, .string V.kind, .string V.state, .string V.sur, .string V.giv, .string V.num, .string V.nat, .string V.birth, .string V.sex, .string V.exp, .string V.opt, .string V.sec] 24) = w4 at hb4 hx4 ⊢
  obtain ⟨g2, hg2⟩ : ∃ q, w3.heap.size = q := ⟨_, rfl⟩
  have HB4 := Lib.hid (HB3.out.trans (hb4.mono HB3.out.size))
  have HX5 := Lib.hid (HX3.out.later hb4)
  rw [hg2] at hx4 ⊢
  have HX4 := Lib.hid hx4
  clear hb4 hx4 hg2
  go_wp2_with fail
  refine (zawake _ (HDX.out.1.below HB4.out) (HDX.out.2.below HB4.out)).mono ?_; rintro e w5 ⟨rfl, hb5⟩
  have HB5 := Lib.hid (HB4.out.trans (hb5.mono HB4.out.size))
  obtain ⟨x0, x1, x2, x3, x4, x5, x6, x7, x8, x9, x10, x11⟩ := (HX4.out.later hb5).cells
  obtain ⟨y0, y1, y2, y3, y4, y5, y6, y7, y8, y9, y10, y11⟩ := (HX5.out.later hb5).cells
  clear hb5
  go_wp2_with fail
  go_ret
  exact ⟨rfl, HB5.out⟩
set_option maxRecDepth 100000 in
theorem walkZoneParses {H : Type} {enc : TypeId × Value → H} (w : World) (v : Value) (d : DataW H) {b0 : Nat} {p : List MemPlace} {r : Reach} (hv : Value.okWide Tryz.prog w r b0 22 v) (hd : DataW.Trod enc Tryz.prog w 0 (fun _ => true) true 22 v d p)
    {ts : List TypeId} {ds : List (DataW H)} (hsz : (DataW.weightsEach Tryz.prog (22 :: ts) (d :: ds)).all (· ≤ reachBytes) = true) (hL : laidMetH Tryz.prog Rows.zoneParsesRow.laid w) (hsh : w.ShapedOpen Tryz.prog) :
    Calls Tryz.prog 3 #[v] w fun e w' => e = .returned (.bool true) ∧ Below w.heap.size w w' := by
  obtain ⟨A, R, c, rfl, hc, hl, hT, hs⟩ := open_texts (j := 0) hv hd hsz rfl rfl
  exact zone_parses R A c w (by omega) hs hT (Dat.at_of hL) (Opt.lax_of hsh)
end Go.Proofs.YtelngghecmkipaaGreatDoor

namespace Go.Proofs.YtelngghecmkipaaGreatDoor
open Go.RowKit Go.ChangeShapes Go.WideShapes

set_option maxRecDepth 100000 in
set_option maxHeartbeats 4000000 in
/-- Same of two rows of texts. -/
theorem rsame (w : World) (A B : Option Addr) (K M : List ByteArray) (c d : Nat) (hA : TextsAt w A K) (hB : TextsAt w B M) (hK : K.length ≤ 1099511627776) (hM : M.length ≤ 1099511627776) :
    Calls Tryz.prog 17 #[.slice A K.length c, .slice B M.length d] w fun e w' => e = .returned (.bool (decide (K = M))) ∧ ∃ n, w' = w.drewN n := by
  have HA := Lib.hid hA; have HB := Lib.hid hB
  clear hA hB
  by_cases hl : K.length = M.length
  · have HL := Lib.hid hl
    have e1 : ((K.length : Int) != (M.length : Int)) = false := by rw [bne_eq_false_iff_eq]; omega
    obtain ⟨q, hq⟩ : ∃ q, decide (K = M) = q := ⟨_, rfl⟩
    rw [hq]
    have HQ := Lib.hid hq
    clear hq hl
    go_enter Tryz.func17, Tryz.ntmps17
    go_wp2_with fail
    clear e1
    go_loopw [5] (fun i wr => ∃ j : Nat, j ≤ K.length ∧ i = .int .i64 j ∧ (∀ m (h : m < j) (h1 : m < K.length) (h2 : m < M.length), K[m] = M[m]) ∧ ∃ n, wr = w.drewN n) (fun i _ => K.length - (intOf i).toNat)
    case atStart => exact ⟨0, Nat.zero_le _, rfl, fun m h => absurd h (by omega), 0, rfl⟩
    case round =>
      obtain ⟨j, hj, rfl, heq, n, rfl⟩ := hrel
      have HEQ := Lib.hid heq
      clear heq
      by_cases hlt : j < K.length
      · have hlt2 : j < M.length := by have := HL.out; omega
        obtain ⟨b1, o1, rfl, d1⟩ := HA.out.cell j hlt
        obtain ⟨b2, o2, rfl, d2⟩ := HB.out.cell j hlt2
        have i1 : (j : Int) < (K.length : Int) := by omega
        have i2 : (j : Int) < (M.length : Int) := by omega
        obtain ⟨s, hs⟩ : ∃ s, K[j]'hlt = s := ⟨_, rfl⟩
        obtain ⟨t, ht⟩ : ∃ t, M[j]'hlt2 = t := ⟨_, rfl⟩
        rw [hs] at d1; rw [ht] at d2
        have HS := Lib.hid (And.intro hs ht); have HLT := Lib.hid (And.intro hlt hlt2)
        clear hs ht
        by_cases hst : s = t
        · subst hst
          have e2 : (s.toList != s.toList) = false := by rw [bne_eq_false_iff_eq]
          go_wp2_with fail
          go_quiet (fail)
          go_wp2_with fail
          go_roundw
          case rel =>
            refine ⟨j + 1, HLT.out.1, by go_num, fun m h h1 h2 => ?_, _, rfl⟩
            rcases Nat.lt_or_ge m j with g | g
            · exact HEQ.out m g h1 h2
            · obtain rfl : m = j := by omega
              exact HS.out.1.trans HS.out.2.symm
          case measure => have := HLT.out.1; simp [intOf]; omega
        · have e2 : (s.toList != t.toList) = true := by
            rw [bne_iff_ne]; intro h; apply hst
            rw [ByteArray.toList_eq, ByteArray.toList_eq] at h
            exact Zn.bl_ext h
          have e3 : (s.toList == t.toList) = false := by rw [bne, Bool.not_eq_true'] at e2; exact e2
          have HR := Lib.hid (show q = false by
            rw [← HQ.out, decide_eq_false_iff_not]
            intro h
            subst h
            exact hst (HS.out.1.symm.trans HS.out.2))
          clear hst
          go_wp2_with fail
          go_quiet (fail)
          go_wp2_with fail
          go_ret
          have hr := HR.out
          subst hr
          exact ⟨rfl, _, World.drewN_drewN _ _ _⟩
      · obtain rfl : j = K.length := by omega
        have hi : ¬ ((K.length : Int) < (K.length : Int)) := by omega
        have HR := Lib.hid (show q = true by
          rw [← HQ.out, decide_eq_true_eq]
          exact List.ext_getElem HL.out fun m h1 h2 => HEQ.out m h1 h1 h2)
        clear hlt hj
        go_wp2_with fail
        go_ret
        have hr := HR.out
        subst hr
        exact ⟨rfl, _, rfl⟩
  · have e1 : ((K.length : Int) != (M.length : Int)) = true := by rw [bne_iff_ne]; omega
    have HR := Lib.hid (show decide (K = M) = false by rw [decide_eq_false_iff_not]; intro h; exact hl (by rw [h]))
    clear hl
    rw [HR.out]
    go_enter Tryz.func17, Tryz.ntmps17
    go_wp2_with fail
    go_ret
    exact ⟨rfl, 0, rfl⟩
theorem rsame_same (w : World) (A B : Option Addr) (K : List ByteArray) (c d : Nat) (hA : TextsAt w A K) (hB : TextsAt w B K) (hK : K.length ≤ 1099511627776) :
    Calls Tryz.prog 17 #[.slice A K.length c, .slice B K.length d] w fun e w' => e = .returned (.bool true) ∧ Below w.heap.size w w' :=
  (rsame w A B K K c d hA hB hK hK).mono fun e w' ⟨h1, n, h2⟩ => ⟨by rw [h1, decide_eq_true rfl], by rw [h2]; exact below_drewN (Below.refl _ _) n⟩
theorem own_texts {w : World} {base : Nat} {v : Value} {K : List ByteArray} (h : w.ownsRow base 9 1 v K.length (K.map .string)) : ∃ A c, v = .slice A K.length c ∧ K.length ≤ c ∧ TextsAt w A K := by
  rcases h.2 with ⟨rfl, h0⟩ | ⟨g, cap, cur, rfl, h1, h2, h3, h4, h5, h6⟩
  · have : K = [] := List.eq_nil_of_length_eq_zero h0
    subst this
    exact ⟨none, 0, rfl, Nat.le_refl _, ⟨by simp, .inl rfl⟩⟩
  · refine ⟨_, cap, rfl, h3, ⟨by simp, .inr ⟨g, 0, rfl, fun j u hu => ?_⟩⟩⟩
    have hj : j < K.length := by have := (List.getElem?_eq_some_iff.1 hu).1; rwa [List.length_map] at this
    rw [Nat.zero_add]
    exact (World.ownsRow.cellAt h j (by omega)).trans hu
theorem Zn.bldK_len (z : Zn.Z) : (Zn.bldK z).length ≤ 3 := by
  unfold Zn.bldK Zn.bld Zn.asm Zn.order
  rw [List.length_map, List.length_map]
  split
  · decide
  · split <;> decide
/-- The texts that Build gives, no texts in the case of an error. -/
noncomputable def Zn.bldR (z : Zn.Z) : List ByteArray := if Zn.vldE z = 0 then Zn.bldK z else []
theorem BldPost.texts {z : Zn.Z} {w w' : World} {e : Ending} (h : BldPost z w e w') : ∃ A c, e = .returned (.tuple #[.slice A (Zn.bldR z).length c, .int .i64 (Zn.vldE z)]) ∧ TextsAt w' A (Zn.bldR z) ∧ Below w.heap.size w w' := by
  obtain ⟨v, rfl, h1, h2, h3⟩ := h
  unfold Zn.bldR
  by_cases hv : Zn.vldE z = 0
  · rw [if_pos hv]
    obtain ⟨A, c, rfl, _, hT⟩ := own_texts (h2 hv)
    exact ⟨A, c, rfl, hT, h3⟩
  · rw [if_neg hv, h1 hv]
    exact ⟨none, 0, rfl, ⟨by simp, .inl rfl⟩, h3⟩
theorem Zn.bldR_len (z : Zn.Z) : (Zn.bldR z).length ≤ 3 := by
  unfold Zn.bldR
  by_cases h : Zn.vldE z = 0
  · rw [if_pos h]; exact Zn.bldK_len z
  · rw [if_neg h]; decide
set_option maxRecDepth 100000 in
set_option maxHeartbeats 8000000 in
theorem zone_builds (z : Zn.Z) (w : World) (hz : z.fits 140737488355328) (hd : Dat.At w) (hx : Opt.Lax w) (hab : z.sur.size + z.giv.size ≤ 4294967000) :
    Calls Tryz.prog 7 #[z.val] w fun e w' => e = .returned (.bool true) ∧ Below w.heap.size w w' := by
  have HDX := Lib.hid (And.intro hd hx)
  obtain ⟨TL, hK⟩ : ∃ q, Zn.bldR z = q := ⟨_, rfl⟩
  have HKL := Lib.hid (show TL.length ≤ 1099511627776 by rw [← hK]; have := Zn.bldR_len z; omega)
  obtain ⟨vE, hvE⟩ : ∃ q, Zn.vldE z = q := ⟨_, rfl⟩
  obtain ⟨KY, hKY⟩ : ∃ q, Zn.keyS z = q := ⟨_, rfl⟩
  have HB := Lib.hid (show ∀ W, Dat.At W → Opt.Lax W → Calls Tryz.prog 16 #[.agg #[.int .i64 z.fmt, .string z.kind, .string z.state, .string z.sur, .string z.giv, .string z.num, .string z.nat, .string z.birth, .string z.sex, .string z.exp, .string z.opt, .string z.sec]] W fun e w' => ∃ A c, e = .returned (.tuple #[.slice A TL.length c, .int .i64 vE]) ∧ TextsAt w' A TL ∧ Below W.heap.size W w' from fun W h1 h2 => (zbuild z W hz h1 h2 hab).mono fun e w' h => hK ▸ hvE ▸ h.texts)
  have HBR := Lib.hid (show ∀ W, Calls Tryz.prog 20 #[.agg #[.int .i64 z.fmt, .string z.kind, .string z.state, .string z.sur, .string z.giv, .string z.num, .string z.nat, .string z.birth, .string z.sex, .string z.exp, .string z.opt, .string z.sec]] W fun e w' => ∃ A c, e = .returned (.tuple #[.slice A TL.length c, .int .i64 vE]) ∧ TextsAt w' A TL ∧ Below W.heap.size W w' from fun W => (rbuild z W hz (by omega)).mono fun e w' h => hK ▸ hvE ▸ h.texts)
  have HK1 := Lib.hid (show ∀ W, Dat.At W → Calls Tryz.prog 21 #[.agg #[.int .i64 z.fmt, .string z.kind, .string z.state, .string z.sur, .string z.giv, .string z.num, .string z.nat, .string z.birth, .string z.sex, .string z.exp, .string z.opt, .string z.sec]] W fun e w' => e = .returned (.tuple #[.string KY, .int .i64 vE]) ∧ Below W.heap.size W w' from fun W h1 => (zkey z W hz h1).mono fun e w' h => hKY ▸ hvE ▸ h)
  have HK2 := Lib.hid (show ∀ W, Calls Tryz.prog 22 #[.agg #[.int .i64 z.fmt, .string z.kind, .string z.state, .string z.sur, .string z.giv, .string z.num, .string z.nat, .string z.birth, .string z.sex, .string z.exp, .string z.opt, .string z.sec]] W fun e w' => e = .returned (.tuple #[.string KY, .int .i64 vE]) ∧ Below W.heap.size W w' from fun W => (rkey z W hz).mono fun e w' h => hKY ▸ hvE ▸ h)
  have HV := Lib.hid (show ∀ W, Dat.At W → Calls Tryz.prog 23 #[.agg #[.int .i64 z.fmt, .string z.kind, .string z.state, .string z.sur, .string z.giv, .string z.num, .string z.nat, .string z.birth, .string z.sex, .string z.exp, .string z.opt, .string z.sec]] W fun e w' => e = .returned (.int .i64 vE) ∧ Below W.heap.size W w' from fun W h1 => (zvalidZ z W hz h1).mono fun e w' h => hvE ▸ h)
  have HR := Lib.hid (show ∀ W, Calls Tryz.prog 24 #[.agg #[.int .i64 z.fmt, .string z.kind, .string z.state, .string z.sur, .string z.giv, .string z.num, .string z.nat, .string z.birth, .string z.sex, .string z.exp, .string z.opt, .string z.sec]] W fun e w' => e = .returned (.int .i64 vE) ∧ Below W.heap.size W w' from fun W => (rvalidZ z W (Zn.fits_max hz)).mono fun e w' h => hvE ▸ h)
  have hb1 := below_alloc1 w (.cells #[.int .i64 z.fmt, .string z.kind, .string z.state, .string z.sur, .string z.giv, .string z.num, .string z.nat, .string z.birth, .string z.sex, .string z.exp, .string z.opt, .string z.sec] 24)
  have hHeld := zbox_new_at w z z.fmt rfl
  clear hd hx hK hvE hKY hz hab
  unfold Zn.Z.val
  go_enter Tryz.func7, Tryz.ntmps7
  go_upto_region 1 with fail
  generalize w.alloc (.cells #[.int .i64 z.fmt, .string z.kind, .string z.state, .string z.sur, .string z.giv, .string z.num, .string z.nat, .string z.birth, .string z.sex, .string z.exp, .string z.opt, .string z.sec] 24) = w1 at hb1 hHeld ⊢
  have HBL := Lib.hid hb1
  obtain ⟨g1, hg1⟩ : ∃ q, w.heap.size = q := ⟨_, rfl⟩
  rw [hg1] at hHeld ⊢
  have HG1 := Lib.hid hg1
  clear hb1 hg1
  obtain ⟨x0, x1, x2, x3, x4, x5, x6, x7, x8, x9, x10, x11⟩ := hHeld
  go_wp2_with fail
  refine (HB.out _ (HDX.out.1.below HBL.out) (HDX.out.2.below HBL.out)).mono ?_; rintro e w5 ⟨A1, c1, rfl, ht, hb4⟩
  have hHeld := zcells_later hb4 ⟨x0, x1, x2, x3, x4, x5, x6, x7, x8, x9, x10, x11⟩
  have HT1 := Lib.hid ht
  clear ht x0 x1 x2 x3 x4 x5 x6 x7 x8 x9 x10 x11
  (first | have HBN := Lib.hid (HBL.out.trans ((below_undrew2 hb4).mono HBL.out.size)) | have HBN := Lib.hid (HBL.out.trans (hb4.mono HBL.out.size))); replace HBL := HBN; clear HBN
  clear hb4
  obtain ⟨x0, x1, x2, x3, x4, x5, x6, x7, x8, x9, x10, x11⟩ := hHeld
  go_wp2_with fail
  refine (HBR.out _).mono ?_; rintro e w5 ⟨A2, c2, rfl, ht, hb4⟩
  have hHeld := zcells_later hb4 ⟨x0, x1, x2, x3, x4, x5, x6, x7, x8, x9, x10, x11⟩
  have HT := Lib.hid (And.intro (HT1.out.later hb4) ht)
  clear ht HT1 x0 x1 x2 x3 x4 x5 x6 x7 x8 x9 x10 x11
  (first | have HBN := Lib.hid (HBL.out.trans ((below_undrew2 hb4).mono HBL.out.size)) | have HBN := Lib.hid (HBL.out.trans (hb4.mono HBL.out.size))); replace HBL := HBN; clear HBN
  clear hb4
  obtain ⟨x0, x1, x2, x3, x4, x5, x6, x7, x8, x9, x10, x11⟩ := hHeld
  go_wp2_with fail
  refine (HK1.out _ (HDX.out.1.below HBL.out)).mono ?_; rintro e w5 ⟨rfl, hb4⟩
  have hHeld := zcells_later hb4 ⟨x0, x1, x2, x3, x4, x5, x6, x7, x8, x9, x10, x11⟩
  clear x0 x1 x2 x3 x4 x5 x6 x7 x8 x9 x10 x11
  (first | have HBN := Lib.hid (HBL.out.trans ((below_undrew2 hb4).mono HBL.out.size)) | have HBN := Lib.hid (HBL.out.trans (hb4.mono HBL.out.size))); replace HBL := HBN; clear HBN
  (first | (replace HT := Lib.hid (And.intro (HT.out.1.later (below_undrew2 hb4)) (HT.out.2.later (below_undrew2 hb4)))) | (replace HT := Lib.hid (And.intro (HT.out.1.later hb4) (HT.out.2.later hb4))))
  clear hb4
  obtain ⟨x0, x1, x2, x3, x4, x5, x6, x7, x8, x9, x10, x11⟩ := hHeld
  go_wp2_with fail
  refine (HK2.out _).mono ?_; rintro e w5 ⟨rfl, hb4⟩
  have hHeld := zcells_later hb4 ⟨x0, x1, x2, x3, x4, x5, x6, x7, x8, x9, x10, x11⟩
  clear x0 x1 x2 x3 x4 x5 x6 x7 x8 x9 x10 x11
  (first | have HBN := Lib.hid (HBL.out.trans ((below_undrew2 hb4).mono HBL.out.size)) | have HBN := Lib.hid (HBL.out.trans (hb4.mono HBL.out.size))); replace HBL := HBN; clear HBN
  (first | (replace HT := Lib.hid (And.intro (HT.out.1.later (below_undrew2 hb4)) (HT.out.2.later (below_undrew2 hb4)))) | (replace HT := Lib.hid (And.intro (HT.out.1.later hb4) (HT.out.2.later hb4))))
  clear hb4
  go_upto_region 5 with fail
  (refine wp_region_held_drew (S := (fun W => W.cell? ⟨g1, 0, none⟩ = some (.int .i64 z.fmt) ∧ W.cell? ⟨g1, 1, none⟩ = some (.string z.kind) ∧ W.cell? ⟨g1, 2, none⟩ = some (.string z.state) ∧ W.cell? ⟨g1, 3, none⟩ = some (.string z.sur) ∧ W.cell? ⟨g1, 4, none⟩ = some (.string z.giv) ∧ W.cell? ⟨g1, 5, none⟩ = some (.string z.num) ∧ W.cell? ⟨g1, 6, none⟩ = some (.string z.nat) ∧ W.cell? ⟨g1, 7, none⟩ = some (.string z.birth) ∧ W.cell? ⟨g1, 8, none⟩ = some (.string z.sex) ∧ W.cell? ⟨g1, 9, none⟩ = some (.string z.exp) ∧ W.cell? ⟨g1, 10, none⟩ = some (.string z.opt) ∧ W.cell? ⟨g1, 11, none⟩ = some (.string z.sec))) (by kernel_rfl) (hHeld) (fun hHeld => ?_))
  (refine wpAnyH_ready (rs := [0]) (by kernel_rfl) (by simp) ?_; refine AllReadyH.cons (by simp only [List.getElem?_toArray, List.getElem?_cons_zero]; rfl) (fun K hK => ?_) AllReadyH.nil; go_simp; go_at_call 12; refine (zawake _ (HDX.out.1.below HBL.out.drew) (HDX.out.2.below HBL.out.drew)).mono ?_; rintro e w5 ⟨rfl, hb4⟩; (first | have HBN := Lib.hid (HBL.out.trans ((below_undrew2 hb4).mono HBL.out.size)) | have HBN := Lib.hid (HBL.out.trans (hb4.mono HBL.out.size))); replace HBL := HBN; clear HBN; (first | (replace HT := Lib.hid (And.intro (HT.out.1.later (below_undrew2 hb4)) (HT.out.2.later (below_undrew2 hb4)))) | (replace HT := Lib.hid (And.intro (HT.out.1.later hb4) (HT.out.2.later hb4)))); refine hK.out _ _ (⟨cell_later hb4 hHeld.1, cell_later hb4 hHeld.2.1, cell_later hb4 hHeld.2.2.1, cell_later hb4 hHeld.2.2.2.1, cell_later hb4 hHeld.2.2.2.2.1, cell_later hb4 hHeld.2.2.2.2.2.1, cell_later hb4 hHeld.2.2.2.2.2.2.1, cell_later hb4 hHeld.2.2.2.2.2.2.2.1, cell_later hb4 hHeld.2.2.2.2.2.2.2.2.1, cell_later hb4 hHeld.2.2.2.2.2.2.2.2.2.1, cell_later hb4 hHeld.2.2.2.2.2.2.2.2.2.2.1, cell_later hb4 hHeld.2.2.2.2.2.2.2.2.2.2.2⟩) (fun hHeld => ?_); clear hK K; (try simp only [Act.put, List.setIfInBounds_toArray, List.set_cons_zero, List.set_cons_succ]))
  ((refine tkI 1 ?_ (hy := ?_) (h := ?_); rotate_left 1; · (intro w hSw; (try dsimp only at hSw); go_simp; (try with_reducible rfl))); (try simp only [Act.put, List.setIfInBounds_toArray, List.set_cons_zero, List.set_cons_succ]))
  ((refine tkI 2 ?_ (hy := ?_) (h := ?_); rotate_left 1; · (intro w hSw; (try dsimp only at hSw); go_simp; (try with_reducible rfl))); (try simp only [Act.put, List.setIfInBounds_toArray, List.set_cons_zero, List.set_cons_succ]))
  ((refine tkI 4 ?_ (hy := ?_) (h := ?_); rotate_left 1; · (intro w hSw; (try dsimp only at hSw); go_simp; (try with_reducible rfl))); (try simp only [Act.put, List.setIfInBounds_toArray, List.set_cons_zero, List.set_cons_succ]))
  (refine wpAnyH_ready (rs := [3]) (by kernel_rfl) (by simp) ?_; refine AllReadyH.cons (by simp only [List.getElem?_toArray, List.getElem?_cons_succ, List.getElem?_cons_zero]; rfl) (fun K hK => ?_) AllReadyH.nil; go_simp; go_at_call 23; refine (HV.out _ (HDX.out.1.below HBL.out)).mono ?_; rintro e w5 ⟨rfl, hb4⟩; (first | have HBN := Lib.hid (HBL.out.trans ((below_undrew2 hb4).mono HBL.out.size)) | have HBN := Lib.hid (HBL.out.trans (hb4.mono HBL.out.size))); replace HBL := HBN; clear HBN; (first | (replace HT := Lib.hid (And.intro (HT.out.1.later (below_undrew2 hb4)) (HT.out.2.later (below_undrew2 hb4)))) | (replace HT := Lib.hid (And.intro (HT.out.1.later hb4) (HT.out.2.later hb4)))); refine hK.out _ _ (⟨cell_later hb4 hHeld.1, cell_later hb4 hHeld.2.1, cell_later hb4 hHeld.2.2.1, cell_later hb4 hHeld.2.2.2.1, cell_later hb4 hHeld.2.2.2.2.1, cell_later hb4 hHeld.2.2.2.2.2.1, cell_later hb4 hHeld.2.2.2.2.2.2.1, cell_later hb4 hHeld.2.2.2.2.2.2.2.1, cell_later hb4 hHeld.2.2.2.2.2.2.2.2.1, cell_later hb4 hHeld.2.2.2.2.2.2.2.2.2.1, cell_later hb4 hHeld.2.2.2.2.2.2.2.2.2.2.1, cell_later hb4 hHeld.2.2.2.2.2.2.2.2.2.2.2⟩) (fun hHeld => ?_); clear hK K; (try simp only [Act.put, List.setIfInBounds_toArray, List.set_cons_zero, List.set_cons_succ]))
  (refine wpAnyH_ready (rs := [5]) (by kernel_rfl) (by simp) ?_; refine AllReadyH.cons (by simp only [List.getElem?_toArray, List.getElem?_cons_succ, List.getElem?_cons_zero]; rfl) (fun K hK => ?_) AllReadyH.nil; go_simp; go_at_call 24; refine (HR.out _).mono ?_; rintro e w5 ⟨rfl, hb4⟩; (first | have HBN := Lib.hid (HBL.out.trans ((below_undrew2 hb4).mono HBL.out.size)) | have HBN := Lib.hid (HBL.out.trans (hb4.mono HBL.out.size))); replace HBL := HBN; clear HBN; (first | (replace HT := Lib.hid (And.intro (HT.out.1.later (below_undrew2 hb4)) (HT.out.2.later (below_undrew2 hb4)))) | (replace HT := Lib.hid (And.intro (HT.out.1.later hb4) (HT.out.2.later hb4)))); refine hK.out _ _ (⟨cell_later hb4 hHeld.1, cell_later hb4 hHeld.2.1, cell_later hb4 hHeld.2.2.1, cell_later hb4 hHeld.2.2.2.1, cell_later hb4 hHeld.2.2.2.2.1, cell_later hb4 hHeld.2.2.2.2.2.1, cell_later hb4 hHeld.2.2.2.2.2.2.1, cell_later hb4 hHeld.2.2.2.2.2.2.2.1, cell_later hb4 hHeld.2.2.2.2.2.2.2.2.1, cell_later hb4 hHeld.2.2.2.2.2.2.2.2.2.1, cell_later hb4 hHeld.2.2.2.2.2.2.2.2.2.2.1, cell_later hb4 hHeld.2.2.2.2.2.2.2.2.2.2.2⟩) (fun hHeld => ?_); clear hK K; (try simp only [Act.put, List.setIfInBounds_toArray, List.set_cons_zero, List.set_cons_succ]))
  ((refine tkI 6 ?_ (hy := ?_) (h := ?_); rotate_left 1; · (intro w hSw; (try dsimp only at hSw); go_simp; (try with_reducible rfl))); (try simp only [Act.put, List.setIfInBounds_toArray, List.set_cons_zero, List.set_cons_succ]))
  ((refine tkI 7 ?_ (hy := ?_) (h := ?_); rotate_left 1; · (intro w hSw; (try dsimp only at hSw); go_simp; (try with_reducible rfl))); (try simp only [Act.put, List.setIfInBounds_toArray, List.set_cons_zero, List.set_cons_succ]))
  ((refine tkI 8 ?_ (hy := ?_) (h := ?_); rotate_left 1; · (intro w hSw; (try dsimp only at hSw); go_simp; (try with_reducible rfl))); (try simp only [Act.put, List.setIfInBounds_toArray, List.set_cons_zero, List.set_cons_succ]))
  ((refine tkI 9 ?_ (hy := ?_) (h := ?_); rotate_left 1; · (intro w hSw; (try dsimp only at hSw); go_simp; (try with_reducible rfl))); (try simp only [Act.put, List.setIfInBounds_toArray, List.set_cons_zero, List.set_cons_succ]))
  ((refine tkI 10 ?_ (hy := ?_) (h := ?_); rotate_left 1; · (intro w hSw; (try dsimp only at hSw); go_simp; (try with_reducible rfl))); (try simp only [Act.put, List.setIfInBounds_toArray, List.set_cons_zero, List.set_cons_succ]))
  ((refine tkI 11 ?_ (hy := ?_) (h := ?_); rotate_left 1; · (intro w hSw; (try dsimp only at hSw); go_simp; (try with_reducible rfl))); (try simp only [Act.put, List.setIfInBounds_toArray, List.set_cons_zero, List.set_cons_succ]))
  ((refine tkI 12 ?_ (hy := ?_) (h := ?_); rotate_left 1; · (intro w hSw; (try dsimp only at hSw); go_simp; (try with_reducible rfl))); (try simp only [Act.put, List.setIfInBounds_toArray, List.set_cons_zero, List.set_cons_succ]))
  ((refine tkI 13 ?_ (hy := ?_) (h := ?_); rotate_left 1; · (intro w hSw; (try dsimp only at hSw); go_simp; (try with_reducible rfl))); (try simp only [Act.put, List.setIfInBounds_toArray, List.set_cons_zero, List.set_cons_succ]))
  ((refine tkI 14 ?_ (hy := ?_) (h := ?_); rotate_left 1; · (intro w hSw; (try dsimp only at hSw); go_simp; (try with_reducible rfl))); (try simp only [Act.put, List.setIfInBounds_toArray, List.set_cons_zero, List.set_cons_succ]))
  ((refine tkI 15 ?_ (hy := ?_) (h := ?_); rotate_left 1; · (intro w hSw; (try dsimp only at hSw); go_simp; (try with_reducible rfl))); (try simp only [Act.put, List.setIfInBounds_toArray, List.set_cons_zero, List.set_cons_succ]))
  (refine wpAnyH_ready (rs := [16]) (by kernel_rfl) (by simp) ?_; refine AllReadyH.cons (by simp only [List.getElem?_toArray, List.getElem?_cons_succ, List.getElem?_cons_zero]; rfl) (fun K hK => ?_) AllReadyH.nil; go_simp; go_at_call 17; refine (rsame_same _ A1 A2 TL c1 c2 HT.out.1 HT.out.2 HKL.out).mono ?_; rintro e w5 ⟨rfl, hb4⟩; (first | have HBN := Lib.hid (HBL.out.trans ((below_undrew2 hb4).mono HBL.out.size)) | have HBN := Lib.hid (HBL.out.trans (hb4.mono HBL.out.size))); replace HBL := HBN; clear HBN; (first | (replace HT := Lib.hid (And.intro (HT.out.1.later (below_undrew2 hb4)) (HT.out.2.later (below_undrew2 hb4)))) | (replace HT := Lib.hid (And.intro (HT.out.1.later hb4) (HT.out.2.later hb4)))); refine hK.out _ _ (⟨cell_later hb4 hHeld.1, cell_later hb4 hHeld.2.1, cell_later hb4 hHeld.2.2.1, cell_later hb4 hHeld.2.2.2.1, cell_later hb4 hHeld.2.2.2.2.1, cell_later hb4 hHeld.2.2.2.2.2.1, cell_later hb4 hHeld.2.2.2.2.2.2.1, cell_later hb4 hHeld.2.2.2.2.2.2.2.1, cell_later hb4 hHeld.2.2.2.2.2.2.2.2.1, cell_later hb4 hHeld.2.2.2.2.2.2.2.2.2.1, cell_later hb4 hHeld.2.2.2.2.2.2.2.2.2.2.1, cell_later hb4 hHeld.2.2.2.2.2.2.2.2.2.2.2⟩) (fun hHeld => ?_); clear hK K; (try simp only [Act.put, List.setIfInBounds_toArray, List.set_cons_zero, List.set_cons_succ]))
  ((refine tkI 17 ?_ (hy := ?_) (h := ?_); rotate_left 1; · (intro w hSw; (try dsimp only at hSw); go_simp; (try with_reducible rfl))); (try simp only [Act.put, List.setIfInBounds_toArray, List.set_cons_zero, List.set_cons_succ]))
  ((refine tkI 18 ?_ (hy := ?_) (h := ?_); rotate_left 1; · (intro w hSw; (try dsimp only at hSw); go_simp; (try with_reducible rfl))); (try simp only [Act.put, List.setIfInBounds_toArray, List.set_cons_zero, List.set_cons_succ]))
  ((refine tkI 19 ?_ (hy := ?_) (h := ?_); rotate_left 1; · (intro w hSw; (try dsimp only at hSw); go_simp; (try with_reducible rfl))); (try simp only [Act.put, List.setIfInBounds_toArray, List.set_cons_zero, List.set_cons_succ]))
  ((refine tkI 20 ?_ (hy := ?_) (h := ?_); rotate_left 1; · (intro w hSw; (try dsimp only at hSw); go_simp; (try with_reducible rfl))); (try simp only [Act.put, List.setIfInBounds_toArray, List.set_cons_zero, List.set_cons_succ]))
  ((refine tkI 21 ?_ (hy := ?_) (h := ?_); rotate_left 1; · (intro w hSw; (try dsimp only at hSw); go_simp; (try with_reducible rfl))); (try simp only [Act.put, List.setIfInBounds_toArray, List.set_cons_zero, List.set_cons_succ]))
  ((refine tkI 22 ?_ (hy := ?_) (h := ?_); rotate_left 1; · (intro w hSw; (try dsimp only at hSw); go_simp; (try with_reducible rfl))); (try simp only [Act.put, List.setIfInBounds_toArray, List.set_cons_zero, List.set_cons_succ]))
  ((refine tkI 23 ?_ (hy := ?_) (h := ?_); rotate_left 1; · (intro w hSw; (try dsimp only at hSw); go_simp; (try with_reducible rfl))); (try simp only [Act.put, List.setIfInBounds_toArray, List.set_cons_zero, List.set_cons_succ]))
  ((refine tkI 24 ?_ (hy := ?_) (h := ?_); rotate_left 1; · (intro w hSw; (try dsimp only at hSw); go_simp; (try with_reducible rfl))); (try simp only [Act.put, List.setIfInBounds_toArray, List.set_cons_zero, List.set_cons_succ]))
  ((refine tkI 25 ?_ (hy := ?_) (h := ?_); rotate_left 1; · (intro w hSw; (try dsimp only at hSw); go_simp; (try with_reducible rfl))); (try simp only [Act.put, List.setIfInBounds_toArray, List.set_cons_zero, List.set_cons_succ]))
  ((refine tkI 26 ?_ (hy := ?_) (h := ?_); rotate_left 1; · (intro w hSw; (try dsimp only at hSw); go_simp; (try with_reducible rfl))); (try simp only [Act.put, List.setIfInBounds_toArray, List.set_cons_zero, List.set_cons_succ]))
  ((refine tkI 27 ?_ (hy := ?_) (h := ?_); rotate_left 1; · (intro w hSw; (try dsimp only at hSw); go_simp; (try with_reducible rfl))); (try simp only [Act.put, List.setIfInBounds_toArray, List.set_cons_zero, List.set_cons_succ]))
  ((refine tkI 28 ?_ (hy := ?_) (h := ?_); rotate_left 1; · (intro w hSw; (try dsimp only at hSw); go_simp; (try with_reducible rfl))); (try simp only [Act.put, List.setIfInBounds_toArray, List.set_cons_zero, List.set_cons_succ]))
  (refine wpAnyH_done (by kernel_rfl) ?_ _)
  go_wp2_with fail
  go_ret
  exact ⟨rfl, HBL.out⟩
end Go.Proofs.YtelngghecmkipaaGreatDoor
