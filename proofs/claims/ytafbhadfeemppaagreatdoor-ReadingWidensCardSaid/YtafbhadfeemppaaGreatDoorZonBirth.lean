/- Chapter 11: the walks of pair and birth of the reference. -/
import Derived.Test.YtafbhadfeemppaaGreatDoorZonSmall2
namespace Go.Proofs.YtafbhadfeemppaaGreatDoor
open Go.RowKit

theorem two_list (s : ByteArray) (hs : s.size = 2) : s.data.toList = [s[0]'(by omega), s[1]'(by omega)] := by
  obtain ⟨⟨l⟩⟩ := s
  match l, hs with
  | [a, b], _ => rfl
theorem two_is (s : ByteArray) (hs : s.size = 2) : (s.toList == [60, 60]) = decide (s[0]'(by omega) = 60 ∧ s[1]'(by omega) = 60) := by
  rw [ByteArray.toList_eq, two_list s hs, Bool.eq_iff_iff, beq_iff_eq, decide_eq_true_eq]
  simp
theorem dig_iff (c : UInt8) : Zn.isDig c = true ↔ 48 ≤ (c.toNat : Int) ∧ (c.toNat : Int) ≤ 57 := by
  unfold Zn.isDig; rw [Bool.and_eq_true, decide_eq_true_eq, decide_eq_true_eq]

set_option maxHeartbeats 1000000 in
theorem rpair (s : ByteArray) (hs : s.size = 2) (w : World) :
    Calls Tryz.prog 111 #[.string s] w fun e w' => e = .returned (.int .i64 (Zn.pair (s[0]'(by omega)) (s[1]'(by omega)))) ∧ ∃ n, w' = w.drewN n := by
  have h0 : 0 < s.size := by omega
  have h1 : 1 < s.size := by omega
  have i0 : (0 : Int) < (s.size : Int) := by omega
  have i1 : (1 : Int) < (s.size : Int) := by omega
  obtain ⟨q, hq⟩ : ∃ q, Zn.pair s[0] s[1] = q := ⟨_, rfl⟩
  rw [hq]
  have ht := two_is s hs
  have hd0 := u8_le s[0]
  have hd1 := u8_le s[1]
  by_cases hf : s[0] = 60 ∧ s[1] = 60
  · rw [decide_eq_true hf] at ht
    have hqq : (-1 : Int) = q := by rw [← hq]; unfold Zn.pair; rw [if_pos hf]
    subst hqq
    clear hq hf hs
    go_enter Tryz.func111, Tryz.ntmps111
    go_wp2_with fail
    go_ret
    exact ⟨rfl, 0, rfl⟩
  · rw [decide_eq_false hf] at ht
    unfold Zn.pair at hq
    rw [if_neg hf] at hq
    by_cases ha : 48 ≤ (s[0].toNat : Int) ∧ (s[0].toNat : Int) ≤ 57
    · by_cases hb : 48 ≤ (s[1].toNat : Int) ∧ (s[1].toNat : Int) ≤ 57
      · rw [(dig_iff _).2 ha, (dig_iff _).2 hb] at hq
        have HQ := Lib.hid (show 10 * ((s[0].toNat : Int) - 48) + ((s[1].toNat : Int) - 48) = q from hq)
        obtain ⟨a1, a2⟩ := ha
        obtain ⟨b1, b2⟩ := hb
        clear hq hf hs
        go_enter Tryz.func111, Tryz.ntmps111
        go_wp2_with fail
        go_quiet (fail)
        go_wp2_with fail
        go_ret
        exact ⟨ret_i64 HQ.out, _, rfl⟩
      · have hnb : Zn.isDig s[1] = false := by rw [Bool.eq_false_iff]; exact fun h => hb ((dig_iff _).1 h)
        rw [hnb, Bool.and_false] at hq
        have hqq : (-2 : Int) = q := hq
        subst hqq
        obtain ⟨a1, a2⟩ := ha
        clear hq hf hs hnb
        by_cases hb1 : (s[1].toNat : Int) < 48
        · go_enter Tryz.func111, Tryz.ntmps111
          go_wp2_with fail
          go_ret
          exact ⟨rfl, 0, rfl⟩
        · have hb2 : 57 < (s[1].toNat : Int) := by omega
          have hb3 : 48 ≤ (s[1].toNat : Int) := by omega
          clear hb
          go_enter Tryz.func111, Tryz.ntmps111
          go_wp2_with fail
          go_ret
          exact ⟨rfl, 0, rfl⟩
    · have hna : Zn.isDig s[0] = false := by rw [Bool.eq_false_iff]; exact fun h => ha ((dig_iff _).1 h)
      rw [hna, Bool.false_and] at hq
      have hqq : (-2 : Int) = q := hq
      subst hqq
      clear hq hf hs hna
      by_cases ha1 : (s[0].toNat : Int) < 48
      · go_enter Tryz.func111, Tryz.ntmps111
        go_wp2_with fail
        go_ret
        exact ⟨rfl, 0, rfl⟩
      · have ha2 : 57 < (s[0].toNat : Int) := by omega
        have ha3 : 48 ≤ (s[0].toNat : Int) := by omega
        clear ha
        go_enter Tryz.func111, Tryz.ntmps111
        go_wp2_with fail
        go_ret
        exact ⟨rfl, 0, rfl⟩

theorem cut_two (s : ByteArray) (i : Nat) (j : Nat) (hj : j = i + 2) (h : j ≤ s.size) : ∃ hz : (s.extract i j).size = 2, (s.extract i j)[0]'(by omega) = s[i]'(by omega) ∧ (s.extract i j)[1]'(by omega) = s[i + 1]'(by omega) := by
  subst hj
  have hz : (s.extract i (i + 2)).size = 2 := by rw [ByteArray.size_extract]; omega
  have hl : (s.extract i (i + 2)).data.toList = (s.data.toList.drop i).take 2 := by rw [Lib.extract_data]; congr 1; omega
  refine ⟨hz, ?_, ?_⟩
  · have h0 := Opt.getD_at (s.extract i (i + 2)) 0 (by omega)
    rw [← h0, hl]
    rw [← Opt.getD_at s i (by omega)]
    simp [List.getD]
  · have h0 := Opt.getD_at (s.extract i (i + 2)) 1 (by omega)
    rw [← h0, hl]
    rw [← Opt.getD_at s (i + 1) (by omega)]
    simp [List.getD]
/-- The pair at a place. -/
def pairAt (s : ByteArray) (i : Nat) : Int := Zn.pair (s.data.toList.getD i 0) (s.data.toList.getD (i + 1) 0)
theorem pairAt_eq (s : ByteArray) (i : Nat) (h : i + 1 < s.size) : Zn.pair (s[i]'(by omega)) (s[i + 1]'h) = pairAt s i := by
  unfold pairAt; rw [Opt.getD_at s i (by omega), Opt.getD_at s (i + 1) h]
theorem rpair_cut (s : ByteArray) (i j : Nat) (hj : j = i + 2) (h : j ≤ s.size) (w wq : World) (hq : ∃ m, wq = w.drewN m) :
    Calls Tryz.prog 111 #[.string (s.extract i j)] wq fun e w'' => e = .returned (.int .i64 (pairAt s i)) ∧ ∃ m, w'' = w.drewN m := by
  obtain ⟨hz, h0, h1⟩ := cut_two s i j hj h
  have hr := rpair (s.extract i j) hz wq
  rw [h0, h1, pairAt_eq s i (by omega)] at hr
  refine hr.mono ?_
  rintro e w' ⟨rfl, n, rfl⟩
  obtain ⟨m, rfl⟩ := hq
  exact ⟨rfl, m + n, World.drewN_drewN _ _ _⟩
theorem birth_pairs (s : ByteArray) (h : s.size = 6) : Zn.birthB s = (Zn.pairOk 0 (pairAt s 0) && (Zn.pairOk 1 (pairAt s 2) && Zn.pairOk 2 (pairAt s 4))) := by
  unfold Zn.birthB
  rw [dif_pos h, ← pairAt_eq s 0 (by omega), ← pairAt_eq s 2 (by omega), ← pairAt_eq s 4 (by omega)]

set_option maxRecDepth 100000 in
set_option maxHeartbeats 1000000 in
theorem rbirth (s : ByteArray) (w : World) :
    Calls Tryz.prog 82 #[.string s] w fun e w' => e = .returned (.bool (Zn.birthB s)) ∧ ∃ n, w' = w.drewN n := by
  by_cases h6 : s.size = 6
  · have hq := birth_pairs s h6
    have HPR := Lib.hid (fun i j w wq hj h hq => rpair_cut s i j hj h w wq hq)
    obtain ⟨y, hy⟩ : ∃ y, pairAt s 0 = y := ⟨_, rfl⟩
    obtain ⟨m, hm⟩ : ∃ m, pairAt s 2 = m := ⟨_, rfl⟩
    obtain ⟨d, hd⟩ : ∃ d, pairAt s 4 = d := ⟨_, rfl⟩
    rw [hy, hm, hd] at hq
    have HY := Lib.hid hy; have HM := Lib.hid hm; have HD := Lib.hid hd
    rw [hq]
    have hn : ((s.size : Int) != 6) = false := by simp; omega
    have k2 : (2 : Int) ≤ (s.size : Int) := by omega
    have k4 : (4 : Int) ≤ (s.size : Int) := by omega
    have k2' : 2 ≤ s.size := by omega
    have k4' : 4 ≤ s.size := by omega
    have H6 := Lib.hid h6
    clear hq h6 hy hm hd
    go_enter Tryz.func82, Tryz.ntmps82
    go_wp2_with fail
    go_quiet ((go_at_call 111; exact HPR.out _ _ _ _ (by have := H6.out; omega) (by have := H6.out; omega) ⟨_, rfl⟩))
    rw [HY.out, HM.out, HD.out]
    by_cases hy2 : -2 < y
    · by_cases hm1 : m = -1
      · subst hm1
        by_cases hd1 : d = -1
        · subst hd1
          go_wp2_with fail
          go_ret
          exact ⟨ret_bool (by simp [Zn.pairOk, hy2]), _, rfl⟩
        · have hd1' : (d == -1) = false := by rw [beq_eq_false_iff_ne]; exact hd1
          go_wp2_with fail
          all_goals
            go_ret
            exact ⟨ret_bool (by simp [Zn.pairOk, *]; try omega), _, rfl⟩
      · have hm1' : (m == -1) = false := by rw [beq_eq_false_iff_ne]; exact hm1
        by_cases hd1 : d = -1
        · subst hd1
          go_wp2_with fail
          all_goals
            go_ret
            exact ⟨ret_bool (by simp [Zn.pairOk, *]; try omega), _, rfl⟩
        · have hd1' : (d == -1) = false := by rw [beq_eq_false_iff_ne]; exact hd1
          go_wp2_with fail
          all_goals
            go_ret
            exact ⟨ret_bool (by simp [Zn.pairOk, *]; try omega), _, rfl⟩
    · go_wp2_with fail
      go_ret
      exact ⟨ret_bool (by simp [Zn.pairOk]; omega), _, rfl⟩
  · have hq : Zn.birthB s = false := by unfold Zn.birthB; rw [dif_neg h6]
    rw [hq]
    have hn : ((s.size : Int) != 6) = true := by simp; omega
    clear h6 hq
    go_enter Tryz.func82, Tryz.ntmps82
    go_wp2_with fail
    go_ret
    exact ⟨rfl, 0, rfl⟩
end Go.Proofs.YtafbhadfeemppaaGreatDoor
