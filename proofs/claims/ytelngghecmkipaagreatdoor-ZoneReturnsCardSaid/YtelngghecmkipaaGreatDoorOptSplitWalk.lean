/- The walk of chapter 10: Split of the program. -/
import Derived.Test.YtelngghecmkipaaGreatDoorOptSplit
namespace Go.Proofs.YtelngghecmkipaaGreatDoor
open Go.RowKit

theorem Opt.spl_ret {X Y : ByteArray} {x y : List UInt8} {t n : Nat} (hx : X.data.toList = x) (hy : Y.data.toList = y) :
    Ending.returned (.tuple #[.string ⟨(Opt.sub 60 32 X.data.toList).toArray⟩, .string ⟨(Opt.sub 60 32 Y.data.toList).toArray⟩, .bool ((t : Int) == (n : Int)), .int .i64 0]) =
      Opt.splR (⟨(Opt.sub 60 32 x).toArray⟩, ⟨(Opt.sub 60 32 y).toArray⟩, decide (t = n), 0) := by
  have e : ((t : Int) == (n : Int)) = decide (t = n) := by rw [Bool.eq_iff_iff, beq_iff_eq, decide_eq_true_eq]; omega
  rw [hx, hy, e]; rfl
theorem ospaced (s : ByteArray) (w : World) (hw : Opt.Lax w) (hs : s.size ≤ 4294967280) :
    Calls Tryz.prog 79 #[.string s] w fun e w' => e = .returned (.string ⟨(Opt.sub 60 32 s.data.toList).toArray⟩) ∧ Below w.heap.size w w' := by
  go_enter Tryz.func79, Tryz.ntmps79
  go_wp2_with fail
  refine (oreplace _ 60 32 (by decide) _ hw hs).mono ?_; rintro e w1 ⟨rfl, hb⟩
  go_wp2_with fail
  go_ret
  exact ⟨rfl, hb⟩

set_option maxHeartbeats 2000000 in
theorem osplit (s : ByteArray) (w : World) (hw : Opt.Lax w) (hs : s.size ≤ 140737488351232) :
    Calls Tryz.prog 33 #[.string s] w fun e w' => e = Opt.splR (Opt.splV s) ∧ Below w.heap.size w w' := by
  by_cases h1 : s.size < 1
  · rw [Opt.splV_size (.inl h1)]
    go_enter Tryz.func33, Tryz.ntmps33
    go_wp2_with fail
    refine bodyPost_ret (results_tmp4 rfl _ _ _) rfl ?_
    exact ⟨rfl, Below.refl _ _⟩
  by_cases h2 : 64 < s.size
  · rw [Opt.splV_size (.inr h2)]
    go_enter Tryz.func33, Tryz.ntmps33
    go_wp2_with fail
    refine bodyPost_ret (results_tmp4 rfl _ _ _) rfl ?_
    exact ⟨rfl, Below.refl _ _⟩
  have h12 : ¬ (s.size < 1 ∨ 64 < s.size) := by omega
  have H12 := Lib.hid h12; clear h12
  go_enter Tryz.func33, Tryz.ntmps33
  go_wp2_with fail
  go_loop [20] (fun i => ∃ k : Nat, k ≤ s.size ∧ i = .int .i64 k ∧ ∀ j, j < k → Opt.fchar (s.data.toList.getD j 0) = true) (fun i => s.size - (intOf i).toNat)
  case atStart => exact ⟨0, Nat.zero_le _, rfl, fun j hj => absurd hj (by omega)⟩
  case round =>
    obtain ⟨k, hk, rfl, hv⟩ := hrel
    have HV := Lib.hid hv; clear hv
    by_cases hlt : k < s.size
    · have hb := u8_le s[k]
      have hlen : k < s.data.toList.length := by simpa using hlt
      have hg := Opt.getD_at s k hlt
      have next : Opt.fchar s[k] = true → ∀ j, j < k + 1 → Opt.fchar (s.data.toList.getD j 0) = true := fun h j hj => by
        rcases Nat.lt_or_ge j k with g | g
        · exact HV.out j g
        · obtain rfl : j = k := by omega
          rw [hg]; exact h
      have NX := Lib.hid next; clear next
      by_cases hc : 65 ≤ (s[k].toNat : Int) ∧ (s[k].toNat : Int) ≤ 90
      · have hy : Opt.fchar s[k] = true := by simp [Opt.fchar, Opt.isL, hc.1, hc.2]
        have HY := Lib.hid hy; have HC := Lib.hid hc; clear hy hc hg
        go_wp2_with (go_at_call 77; refine (oletter_yes _ _ hb.1 hb.2 HC.out).mono ?_; rintro e w' ⟨rfl, rfl⟩)
        go_round
        case rel => exact ⟨k + 1, by omega, by go_num, NX.out HY.out⟩
        case measure => simp [intOf]; omega
      · rcases Bool.eq_false_or_eq_true ((s[k].toNat : Int) == 60) with h60 | h60
        · have hy : Opt.fchar s[k] = true := by
            have : s[k] = 60 := by have := beq_iff_eq.1 h60; apply UInt8.toNat_inj.1; show s[k].toNat = 60; omega
            rw [this]; decide
          have hne : ((s[k].toNat : Int) != 60) = false := by unfold bne; rw [h60]; rfl
          have HY := Lib.hid hy; have HC := Lib.hid hc; clear hy hc hg h60
          go_wp2_with (go_at_call 77; refine (oletter_no _ _ hb.1 hb.2 HC.out).mono ?_; rintro e w' ⟨rfl, rfl⟩)
          go_round
          case rel => exact ⟨k + 1, by omega, by go_num, NX.out HY.out⟩
          case measure => simp [intOf]; omega
        · have hy : Opt.chars s.data.toList = false := by
            refine Opt.chars_no hlen ?_
            rw [hg]
            have h1 : Opt.isL s[k] = false := by simp [Opt.isL]; omega
            have h2 : (s[k] == 60) = false := by rw [beq_eq_false_iff_ne]; rintro e; rw [e] at h60; simp at h60
            simp [Opt.fchar, h1, h2]
          have hne : ((s[k].toNat : Int) != 60) = true := by unfold bne; rw [h60]; rfl
          have HY := Lib.hid (Opt.splV_char H12.out hy); have HC := Lib.hid hc; clear hy hc hg h60
          go_wp2_with (go_at_call 77; refine (oletter_no _ _ hb.1 hb.2 HC.out).mono ?_; rintro e w' ⟨rfl, rfl⟩)
          refine bodyPost_ret (results_tmp4 rfl _ _ _) rfl ?_
          exact ⟨by rw [HY.out]; rfl, Below.refl _ _⟩
    · obtain rfl : k = s.size := by omega
      have hch : Opt.chars s.data.toList = true := Opt.chars_yes fun j hj => HV.out j (by simpa using hj)
      have hs1 := Opt.splV_none H12.out hch
      have hs2 := @Opt.splV_some s
      have hs3 := fun x y => @Opt.splV_some s x y H12.out hch
      have HS1 := Lib.hid hs1; have HS3 := Lib.hid hs3
      clear hs1 hs2 hs3 hch HV
      have htl := Opt.trim_le s.data.toList
      rw [Opt.size_len] at htl
      go_wp2_with fail
      refine (Tryz.strings_TrimRight_one s 60 (by decide) _ (by omega)).mono ?_; rintro e w1 ⟨rfl, rfl⟩
      generalize Lib.trimRightB s.data.toList 60 = t at htl HS1 HS3 ⊢
      have hts : (⟨t.toArray⟩ : ByteArray).size < 4294967281 := by rw [str_size]; omega
      go_wp2_with fail
      obtain ⟨m, hm⟩ := hw
      refine (Tryz.strings_Cut ⟨t.toArray⟩ ⟨#[60, 60]⟩ m _ hts hm).mono ?_; rintro e w2 ⟨rfl, q, rfl⟩
      have e1 : (⟨t.toArray⟩ : ByteArray).data.toList = t := rfl
      have e2 : (⟨#[60, 60]⟩ : ByteArray).data.toList = [60, 60] := rfl
      rw [e1, e2]
      clear e1 e2
      obtain ⟨x, y, b, hcut⟩ : ∃ x y b, Lib.cut t [60, 60] = (x, y, b) := ⟨_, _, _, rfl⟩
      have hsp : Opt.spl t = if x = [] ∨ (b = true ∧ y = []) ∨ Opt.words 60 x = false ∨ Opt.words 60 y = false then none else some (Opt.sub 60 32 x, Opt.sub 60 32 y) := by
        unfold Opt.spl; rw [hcut]
      have hlx : x.length ≤ 64 ∧ y.length ≤ 64 := by
        have hx : x = (Lib.cut t [60, 60]).1 := by rw [hcut]
        have hy : y = (Lib.cut t [60, 60]).2.1 := by rw [hcut]
        rw [hx, hy]
        unfold Lib.cut
        split
        · simp; omega
        · simp; omega
      rw [hcut]
      dsimp only
      obtain ⟨X, hX⟩ : ∃ X : ByteArray, (⟨x.toArray⟩ : ByteArray) = X := ⟨_, rfl⟩
      obtain ⟨Y, hY⟩ : ∃ Y : ByteArray, (⟨y.toArray⟩ : ByteArray) = Y := ⟨_, rfl⟩
      rw [hX, hY]
      have hXd : X.data.toList = x := by rw [← hX]
      have hYd : Y.data.toList = y := by rw [← hY]
      have hxs : X.size ≤ maxLen := by rw [← hX, str_size]; unfold maxLen; omega
      have hys : Y.size ≤ maxLen := by rw [← hY, str_size]; unfold maxLen; omega
      have hxs' : X.size ≤ 4294967280 := by rw [← hX, str_size]; omega
      have hys' : Y.size ≤ 4294967280 := by rw [← hY, str_size]; omega
      have wx := fun W => owords X 60 W hxs (by omega) (by omega)
      have wy := fun W => owords Y 60 W hys (by omega) (by omega)
      have e60 : b8 60 = 60 := by decide
      rw [e60] at wx wy
      rw [hXd] at wx
      rw [hYd] at wy
      have WX := Lib.hid wx; have WY := Lib.hid wy
      have HXD := Lib.hid hXd; have HYD := Lib.hid hYd
      have hem : (∀ v, x.isEmpty = v → X.toList.isEmpty = v) ∧ (∀ v, y.isEmpty = v → Y.toList.isEmpty = v) := ⟨fun v h => (str_empty hXd h).1, fun v h => (str_empty hYd h).1⟩
      have HEM := Lib.hid hem
      clear wx wy e60 hcut hxs hys hem hX hY hXd hYd
      by_cases c1 : x = []
      · have hn := HS1.out (by rw [hsp, if_pos (.inl c1)])
        have HN := Lib.hid hn
        have g1 := HEM.out.1 true (by rw [c1]; rfl)
        clear hn hsp c1 HEM
        go_wp2_with fail
        refine bodyPost_ret (results_tmp4 rfl _ _ _) rfl ?_
        exact ⟨by rw [HN.out]; rfl, below_drewN (Below.refl _ _) _⟩
      by_cases c2 : b = true ∧ y = []
      · have hn := HS1.out (by rw [hsp, if_pos (.inr (.inl c2))])
        have HN := Lib.hid hn
        have g1 := HEM.out.1 false (by cases x with | nil => exact absurd rfl c1 | cons _ _ => rfl)
        have g2 := HEM.out.2 true (by rw [c2.2]; rfl)
        obtain ⟨rfl, _⟩ := c2
        clear hn hsp c1 HEM
        go_wp2_with fail
        refine bodyPost_ret (results_tmp4 rfl _ _ _) rfl ?_
        exact ⟨by rw [HN.out]; rfl, below_drewN (Below.refl _ _) _⟩
      have g1 := HEM.out.1 false (by cases x with | nil => exact absurd rfl c1 | cons _ _ => rfl)
      have c2' : b = false ∨ (b = true ∧ Y.toList.isEmpty = false) := by
        cases b with
        | false => exact .inl rfl
        | true => exact .inr ⟨rfl, HEM.out.2 false (by cases y with | nil => exact absurd ⟨rfl, rfl⟩ c2 | cons _ _ => rfl)⟩
      clear HEM
      rcases Bool.eq_false_or_eq_true (Opt.words 60 x) with c3 | c3
      · rcases Bool.eq_false_or_eq_true (Opt.words 60 y) with c4 | c4
        · have hn := HS3.out _ _ (by rw [hsp, if_neg]; rintro (h | h | h | h); exact c1 h; exact c2 h; rw [c3] at h; cases h; rw [c4] at h; cases h)
          have HN := Lib.hid hn; have C3 := Lib.hid c3; have C4 := Lib.hid c4
          have hwL : Opt.Lax (w1.drewN q) := ⟨m, hm⟩
          clear hn hsp c1 c2 c3 c4
          rcases c2' with rfl | ⟨rfl, g2⟩
          all_goals
            go_wp2_with fail
            refine (WX.out _).mono ?_; rintro e w3 ⟨rfl, rfl⟩
            rw [C3.out]
            go_wp2_with fail
            refine (WY.out _).mono ?_; rintro e w3 ⟨rfl, rfl⟩
            rw [C4.out]
            go_wp2_with fail
            refine (ospaced _ _ hwL hxs').mono ?_; rintro e w4 ⟨rfl, hb4⟩
            have hw4 := hwL.below hb4
            go_wp2_with fail
            refine (ospaced _ _ hw4 hys').mono ?_; rintro e w5 ⟨rfl, hb5⟩
            go_wp2_with fail
            refine bodyPost_ret (results_tmp4 rfl _ _ _) rfl ?_
            refine ⟨?_, (below_drewN (Below.refl _ _) _).trans (hb4.trans (hb5.mono hb4.size))⟩
            rw [HN.out]
            exact Opt.spl_ret HXD.out HYD.out
        · have hn := HS1.out (by rw [hsp, if_pos (.inr (.inr (.inr c4)))])
          have HN := Lib.hid hn; have C3 := Lib.hid c3; have C4 := Lib.hid c4
          clear hn hsp c1 c2 c3 c4
          rcases c2' with rfl | ⟨rfl, g2⟩
          all_goals
            go_wp2_with fail
            refine (WX.out _).mono ?_; rintro e w3 ⟨rfl, rfl⟩
            rw [C3.out]
            go_wp2_with fail
            refine (WY.out _).mono ?_; rintro e w3 ⟨rfl, rfl⟩
            rw [C4.out]
            go_wp2_with fail
            refine bodyPost_ret (results_tmp4 rfl _ _ _) rfl ?_
            exact ⟨by rw [HN.out]; rfl, below_drewN (Below.refl _ _) _⟩
      · have hn := HS1.out (by rw [hsp, if_pos (.inr (.inr (.inl c3)))])
        have HN := Lib.hid hn; have C3 := Lib.hid c3
        clear hn hsp c1 c2 c3
        rcases c2' with rfl | ⟨rfl, g2⟩
        all_goals
          go_wp2_with fail
          refine (WX.out _).mono ?_; rintro e w3 ⟨rfl, rfl⟩
          rw [C3.out]
          go_wp2_with fail
          refine bodyPost_ret (results_tmp4 rfl _ _ _) rfl ?_
          exact ⟨by rw [HN.out]; rfl, below_drewN (Below.refl _ _) _⟩
end Go.Proofs.YtelngghecmkipaaGreatDoor
