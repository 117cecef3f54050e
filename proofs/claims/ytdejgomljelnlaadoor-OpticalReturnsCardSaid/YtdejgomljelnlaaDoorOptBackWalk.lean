/- The walk of chapter 10's statement on names read back. -/
import Derived.Test.YtdejgomljelnlaaDoorOptSplitLaw
import Derived.Test.YtdejgomljelnlaaDoorMadeName
import Derived.Test.YtdejgomljelnlaaDoorOptOneWalk
namespace Go.Proofs.YtdejgomljelnlaaDoor
open Go.RowKit Go.ChangeShapes Go.WideShapes

theorem Opt.nmV_fld {a b : List UInt8} (ha : Opt.words 32 a = true) (hne : a ≠ []) (hb : Opt.words 32 b = true) (w : Nat) (h1 : 1 ≤ w) (h2 : w ≤ 64) : Opt.nmV a b w = Opt.fld a b w ∧ Opt.nmE a b w = 0 := by
  have e32 : b8 32 = 32 := by decide
  have hok : Opt.nmOk a b := ⟨by rw [e32]; exact ha, by rw [e32]; exact hb, hne⟩
  constructor
  · unfold Opt.nmV; rw [if_neg (by rintro (h | h | h); exact h hok; omega; omega)]; unfold Opt.fld; rw [Int.toNat_natCast]
  · unfold Opt.nmE; rw [if_neg (fun h => h hok), if_neg (by omega)]
theorem Opt.split_fits {a b : List UInt8} {S A B : ByteArray} (ha : Opt.words 32 a = true) (hne : a ≠ []) (hb : Opt.words 32 b = true) (w : Nat) (h1 : 1 ≤ w) (h2 : w ≤ 64) (hS : S.data.toList = Opt.fld a b w)
    (hA : (⟨a.toArray⟩ : ByteArray) = A) (hB : (⟨b.toArray⟩ : ByteArray) = B) (hw : (Opt.nmL a b).length ≤ w) : Opt.splV S = (A, B, decide ((Opt.nmL a b).length = w), 0) := by
  have hs : S.size = w := by rw [← Opt.size_len, hS, Opt.fld_length]
  obtain ⟨f1, f2⟩ := Opt.fld_fits ha hne hb w hw
  rw [Opt.splV_some (x := a) (y := b) (by omega) (by rw [hS]; exact Opt.fld_chars ha hb w) (by rw [hS, f1, f2]), hS, f1, hs, hA, hB]
theorem Opt.split_short {a b : List UInt8} {S A : ByteArray} (ha : Opt.words 32 a = true) (hne : a ≠ []) (hb : Opt.words 32 b = true) (w : Nat) (h1 : 1 ≤ w) (h2 : w ≤ 64) (hS : S.data.toList = Opt.fld a b w)
    (hA : (⟨a.toArray⟩ : ByteArray) = A) (hw : w < (Opt.nmL a b).length) (hk : w - 1 < S.size) :
    ∃ X Y : ByteArray, Opt.splV S = (X, Y, decide (S[w - 1] ≠ 60), 0) ∧ X.size ≤ A.size ∧ A.extract 0 X.size = X := by
  have hs : S.size = w := by rw [← Opt.size_len, hS, Opt.fld_length]
  obtain ⟨x, y, f1, f2, f3⟩ := Opt.fld_short ha hne hb w h1 hw
  have hne' : Opt.fld a b w ≠ [] := by intro e; have := Opt.fld_length a b w; rw [e] at this; simp at this; omega
  have hf := Opt.trim_full (Opt.fld a b w) hne'
  have hg := Opt.getD_at S (w - 1) hk
  rw [Opt.fld_length, ← hS, hg] at hf
  refine ⟨⟨x.toArray⟩, ⟨y.toArray⟩, ?_, ?_, ?_⟩
  · rw [Opt.splV_some (x := x) (y := y) (by omega) (by rw [hS]; exact Opt.fld_chars ha hb w) (by rw [hS]; exact f1), hs]
    congr 3
    exact decide_eq_decide.2 hf
  · rw [← hA, str_size, str_size]; exact f2
  · rw [← hA, str_size, str_take, f3]

set_option maxRecDepth 100000 in
set_option maxHeartbeats 4000000 in
theorem walkOpticalReturns {H : Type} {enc : TypeId × Value → H} {X Y : Prop} (w : World) (v : Value) (d : DataW H) {b0 : Nat} {p : List MemPlace} {r : Reach} (hv : Value.okWide Tryd.prog w r b0 31 v) (hd : DataW.Trod enc Tryd.prog w 0 (fun _ => true) true 31 v d p)
    (n1 : Int) (w1 : (Lit.int .i64 n1).wf = true) (_hsz : X) (_hL : Y) (hsh : w.ShapedOpen Tryd.prog) :
    Calls Tryd.prog 7 #[v, .int .i64 n1] w fun e w' => e = .returned (.bool true) ∧ Below w.heap.size w w' := by
  obtain ⟨A, n, c, rfl, hnc, hcm, hl⟩ := open_list hv hd
  have hnm := Nat.le_trans hnc hcm
  clear hcm
  have hw := Opt.lax_of hsh
  have b1 := bounds_i64 w1
  clear hsh hv hd
  go_enter Tryd.func7, Tryd.ntmps7
  go_wp2_with fail
  refine (made_light _ _ _ _ hnm).mono ?_; rintro e w' ⟨rfl, rfl⟩
  by_cases hn : n ≤ 400
  · rw [decide_eq_true hn]
    go_wp2_with fail
    refine (made_roll _ _ _ _ hn hnc hl).mono ?_; rintro e wa ⟨rfl, hda, hba⟩
    go_wp2_with fail
    refine (made_name _ _ _ _ hda (by omega) (by omega)).mono ?_; rintro e wb ⟨l, l1, l2, rfl, hdb, hgb⟩
    have hbb := hba.trans (Below.of_grown hgb (Nat.le_refl _) hba.size)
    have ha : Opt.words 32 (88 :: l) = true := Opt.wordsb_cons l1 (by decide)
    have hx : (⟨#[88]⟩ : ByteArray) ++ (⟨l.toArray⟩ : ByteArray) = ⟨(88 :: l).toArray⟩ := by have := str_add [88] l; simpa using this
    obtain ⟨A', hA'⟩ : ∃ A' : ByteArray, (⟨(88 :: l).toArray⟩ : ByteArray) = A' := ⟨_, rfl⟩
    obtain ⟨L, hL⟩ : ∃ L : ByteArray, (⟨l.toArray⟩ : ByteArray) = L := ⟨_, rfl⟩
    rw [hA', hL] at hx
    have hLs : L.size ≤ 11 := by rw [← hL, str_size]; omega
    have hone : (⟨#[88]⟩ : ByteArray).size = 1 := rfl
    have hz : (⟨#[88]⟩ : ByteArray).size + L.size ≤ 9223372036854775807 := by rw [hone]; omega
    have hAs : A'.size = l.length + 1 := by rw [← hA', str_size]; rfl
    have HAS := Lib.hid hAs
    have hAs2 : A'.size ≤ 12 := by omega
    rw [hL]
    have HX := Lib.hid hx; have HA' := Lib.hid hA'; have HWA := Lib.hid ha
    clear hx hA' hL ha hAs l1 l2 hba hgb
    go_wp2_with fail
    refine (made_name _ _ _ _ hdb (by omega) (by omega)).mono ?_; rintro e wc ⟨l', l1', l2', rfl, hdc, hgc⟩
    have hbc := hbb.trans (Below.of_grown hgc (Nat.le_refl _) hbb.size)
    obtain ⟨B', hB'⟩ : ∃ B' : ByteArray, (⟨l'.toArray⟩ : ByteArray) = B' := ⟨_, rfl⟩
    rw [hB']
    have hBs : B'.size = l'.length := by rw [← hB', str_size]
    have hBs2 : B'.size ≤ 44 := by omega
    have hem := fun (b : Bool) (h : l'.isEmpty = b) => (str_empty (s := B') (l := l') (by rw [← hB']) h)
    have HEM := Lib.hid hem
    have HBS := Lib.hid hBs; have HB' := Lib.hid hB'; have HWB := Lib.hid l1'
    clear hem hBs hB' l1' l2' hda hdb hdc hgc hbb
    have hxx := HX.out
    clear HX
    go_wp2_with fail
    refine (made_mod _ _ _ b1.1 b1.2 (by omega) (by omega)).mono ?_; rintro e w' ⟨rfl, rfl⟩
    obtain ⟨vv, hvv, hv64⟩ : ∃ vv : Nat, n1 % 64 = vv ∧ vv < 64 := ⟨(n1 % 64).toNat, by omega, by omega⟩
    rw [hvv]
    clear hvv
    have q1 : IntKind.i64.wrap (1 + (vv : Int)) = 1 + (vv : Int) := IntWalk.i64_in _ (by omega)
    go_wp2_with fail
    obtain ⟨W, hW⟩ : ∃ W : Nat, (1 + (vv : Int)) = W := ⟨1 + vv, by omega⟩
    rw [hW]
    have hW1 : 1 ≤ W := by omega
    have hW2 : W ≤ 64 := by omega
    clear hW q1 hv64
    refine (onames_any _ _ _ _ (hw.below hbc) (by omega)).mono ?_; rintro e wd ⟨rfl, hbd⟩
    replace hbd := hbc.trans (hbd.mono hbc.size)
    have ea : A'.data.toList = 88 :: l := by rw [← HA'.out]
    have eb : B'.data.toList = l' := by rw [← HB'.out]
    have hnf := Opt.nmV_fld HWA.out (by simp) HWB.out W hW1 hW2
    rw [ea, eb, hnf.1, hnf.2]
    obtain ⟨S, hS⟩ : ∃ S : ByteArray, (⟨(Opt.fld (88 :: l) l' W).toArray⟩ : ByteArray) = S := ⟨_, rfl⟩
    rw [hS]
    have hSd : S.data.toList = Opt.fld (88 :: l) l' W := by rw [← hS]
    have hSz : S.size = W := by rw [← Opt.size_len, hSd, Opt.fld_length]
    have hSn : ((S.size : Int) != (W : Int)) = false := by rw [hSz]; simp
    have HSD := Lib.hid hSd
    have HSZ := Lib.hid hSz
    have hnl := Opt.nmL_length (88 :: l) l'
    have HNL := Lib.hid hnl
    clear ea eb hnf hS hSd hbc hnl hxx hz hSz
    go_wp2_with fail
    refine (awake_any _ (hw.below hbd)).mono ?_; rintro e we ⟨rfl, hbe⟩
    replace hbe := hbd.trans (hbe.mono hbd.size)
    go_wp2_with fail
    refine (osplit _ _ (hw.below hbe) (by have := HSZ.out; omega)).mono ?_; rintro e wf ⟨rfl, hbf⟩
    replace hbf := hbe.trans (hbf.mono hbe.size)
    clear hbd hbe hSn
    by_cases hl' : l' = []
    · obtain ⟨g1, g2⟩ := HEM.out true (by rw [hl']; rfl)
      have hneed : (Opt.nmL (88 :: l) l').length = A'.size := by rw [HNL.out, if_pos hl', HAS.out]; rfl
      clear hl'
      by_cases hfit : (Opt.nmL (88 :: l) l').length ≤ W
      · have hsp := Opt.split_fits HWA.out (by simp) HWB.out W hW1 hW2 HSD.out HA'.out HB'.out (by omega)
        rcases Nat.lt_or_ge (Opt.nmL (88 :: l) l').length W with g | g
        · have e1 : decide ((Opt.nmL (88 :: l) l').length = W) = false := decide_eq_false (by omega)
          have e2 : (((A'.size : Int) : Int) == (W : Int)) = false := by rw [beq_eq_false_iff_ne]; omega
          have e3 : ((A'.size : Int) : Int) ≤ (W : Int) := by omega
          rw [hsp, e1]
          unfold Opt.splR
          clear hsp e1 g hneed hW1 hW2
          go_wp2_with fail
          go_ret
          exact ⟨rfl, hbf⟩
        · have e1 : decide ((Opt.nmL (88 :: l) l').length = W) = true := decide_eq_true (by omega)
          have e2 : (((A'.size : Int) : Int) == (W : Int)) = true := by rw [beq_iff_eq]; omega
          have e3 : ((A'.size : Int) : Int) ≤ (W : Int) := by omega
          rw [hsp, e1]
          unfold Opt.splR
          clear hsp e1 g hneed hW1 hW2
          go_wp2_with fail
          go_ret
          exact ⟨rfl, hbf⟩
      · have hk : W - 1 < S.size := by have := HSZ.out; omega
        obtain ⟨X, Y, hsp, hxs, hxe⟩ := Opt.split_short HWA.out (by simp) HWB.out W hW1 hW2 HSD.out HA'.out (by omega) hk
        have e3 : (W : Int) < ((A'.size : Int) : Int) := by omega
        have e4 : (X.size : Int) ≤ (A'.size : Int) := by omega
        have e5 : ((A'.extract 0 X.size).toList == X.toList) = true := by rw [hxe, beq_iff_eq]
        have e6 : IntKind.i64.wrap ((W : Int) - 1) = (W : Int) - 1 := IntWalk.i64_in _ (by omega)
        have e7 : ((W : Int) - 1).toNat = W - 1 := by omega
        have e8 : (W : Int) - 1 < (S.size : Int) := by have := HSZ.out; omega
        have e9 : 0 ≤ (W : Int) - 1 := by omega
        by_cases h60 : S[W - 1] = 60
        · have e1 : decide (S[W - 1] ≠ 60) = false := decide_eq_false (fun h => h h60)
          have e2 : ((S[W - 1].toNat : Int) != 60) = false := by rw [h60]; rfl
          rw [hsp, e1]
          unfold Opt.splR
          clear hsp e1 hneed hxe h60 hW2
          go_wp2_with fail
          go_ret
          exact ⟨rfl, hbf⟩
        · have e1 : decide (S[W - 1] ≠ 60) = true := decide_eq_true h60
          have e2 : ((S[W - 1].toNat : Int) != 60) = true := by
            rw [bne_iff_ne]; intro h; apply h60; apply UInt8.toNat_inj.1; show S[W - 1].toNat = 60; omega
          rw [hsp, e1]
          unfold Opt.splR
          clear hsp e1 hneed hxe h60 hW2
          go_wp2_with fail
          go_ret
          exact ⟨rfl, hbf⟩
    · obtain ⟨g1, g2⟩ := HEM.out false (by cases l' with | nil => exact absurd rfl hl' | cons _ _ => rfl)
      have hneed : (Opt.nmL (88 :: l) l').length = A'.size + (2 + B'.size) := by rw [HNL.out, if_neg hl', HAS.out, HBS.out]; rfl
      have q1 : IntKind.i64.wrap (2 + (B'.size : Int)) = 2 + (B'.size : Int) := IntWalk.i64_in _ (by omega)
      have q2 : IntKind.i64.wrap ((A'.size : Int) + (2 + (B'.size : Int))) = (A'.size : Int) + (2 + (B'.size : Int)) := IntWalk.i64_in _ (by omega)
      clear hl'
      by_cases hfit : (Opt.nmL (88 :: l) l').length ≤ W
      · have hsp := Opt.split_fits HWA.out (by simp) HWB.out W hW1 hW2 HSD.out HA'.out HB'.out (by omega)
        rcases Nat.lt_or_ge (Opt.nmL (88 :: l) l').length W with g | g
        · have e1 : decide ((Opt.nmL (88 :: l) l').length = W) = false := decide_eq_false (by omega)
          have e2 : ((((A'.size : Int) + (2 + (B'.size : Int))) : Int) == (W : Int)) = false := by rw [beq_eq_false_iff_ne]; omega
          have e3 : (((A'.size : Int) + (2 + (B'.size : Int))) : Int) ≤ (W : Int) := by omega
          rw [hsp, e1]
          unfold Opt.splR
          clear hsp e1 g hneed hW1 hW2
          go_wp2_with fail
          go_ret
          exact ⟨rfl, hbf⟩
        · have e1 : decide ((Opt.nmL (88 :: l) l').length = W) = true := decide_eq_true (by omega)
          have e2 : ((((A'.size : Int) + (2 + (B'.size : Int))) : Int) == (W : Int)) = true := by rw [beq_iff_eq]; omega
          have e3 : (((A'.size : Int) + (2 + (B'.size : Int))) : Int) ≤ (W : Int) := by omega
          rw [hsp, e1]
          unfold Opt.splR
          clear hsp e1 g hneed hW1 hW2
          go_wp2_with fail
          go_ret
          exact ⟨rfl, hbf⟩
      · have hk : W - 1 < S.size := by have := HSZ.out; omega
        obtain ⟨X, Y, hsp, hxs, hxe⟩ := Opt.split_short HWA.out (by simp) HWB.out W hW1 hW2 HSD.out HA'.out (by omega) hk
        have e3 : (W : Int) < (((A'.size : Int) + (2 + (B'.size : Int))) : Int) := by omega
        have e4 : (X.size : Int) ≤ (A'.size : Int) := by omega
        have e5 : ((A'.extract 0 X.size).toList == X.toList) = true := by rw [hxe, beq_iff_eq]
        have e6 : IntKind.i64.wrap ((W : Int) - 1) = (W : Int) - 1 := IntWalk.i64_in _ (by omega)
        have e7 : ((W : Int) - 1).toNat = W - 1 := by omega
        have e8 : (W : Int) - 1 < (S.size : Int) := by have := HSZ.out; omega
        have e9 : 0 ≤ (W : Int) - 1 := by omega
        by_cases h60 : S[W - 1] = 60
        · have e1 : decide (S[W - 1] ≠ 60) = false := decide_eq_false (fun h => h h60)
          have e2 : ((S[W - 1].toNat : Int) != 60) = false := by rw [h60]; rfl
          rw [hsp, e1]
          unfold Opt.splR
          clear hsp e1 hneed hxe h60 hW2
          go_wp2_with fail
          go_ret
          exact ⟨rfl, hbf⟩
        · have e1 : decide (S[W - 1] ≠ 60) = true := decide_eq_true h60
          have e2 : ((S[W - 1].toNat : Int) != 60) = true := by
            rw [bne_iff_ne]; intro h; apply h60; apply UInt8.toNat_inj.1; show S[W - 1].toNat = 60; omega
          rw [hsp, e1]
          unfold Opt.splR
          clear hsp e1 hneed hxe h60 hW2
          go_wp2_with fail
          go_ret
          exact ⟨rfl, hbf⟩
  · rw [decide_eq_false hn]
    go_wp2_with fail
    refine (awake_any _ hw).mono ?_; rintro e w3 ⟨rfl, hb3⟩
    go_wp2_with fail
    go_ret
    exact ⟨rfl, hb3⟩
end Go.Proofs.YtdejgomljelnlaaDoor
