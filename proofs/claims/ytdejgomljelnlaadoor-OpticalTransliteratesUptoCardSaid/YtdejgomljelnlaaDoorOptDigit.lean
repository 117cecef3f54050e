/- The walks of chapter 10: Value, Valid, Digit of the program and of the reference. -/
import Derived.Test.YtdejgomljelnlaaDoorRows
import Derived.Test.YtdejgomljelnlaaDoorOptPlain
import Derived.BigQuiet
import Derived.Deep.QuietTactic
namespace Go.Proofs.YtdejgomljelnlaaDoor
open Go.RowKit

set_option maxHeartbeats 400000 in
theorem oletter (n : Int) (w : World) (h0 : 0 ≤ n) (h1 : n ≤ 255) :
    Calls Tryd.prog 29 #[.int .u8 n] w fun e w' => e = .returned (.bool (decide (65 ≤ n) && decide (n ≤ 90))) ∧ w = w' := by
  by_cases c1 : 65 ≤ n
  · by_cases c2 : n ≤ 90
    · go_enter Tryd.func29, Tryd.ntmps29
      go_wp2
      go_ret
      exact ⟨by simp [c1, c2], rfl⟩
    · go_enter Tryd.func29, Tryd.ntmps29
      go_wp2
      go_ret
      exact ⟨by simp; omega, rfl⟩
  · go_enter Tryd.func29, Tryd.ntmps29
    go_wp2
    go_ret
    exact ⟨by simp; omega, rfl⟩

/-- The four kinds of a byte. -/
theorem Opt.kinds (n : Int) : (48 ≤ n ∧ n ≤ 57 ∧ Opt.val n = n - 48) ∨ (n < 48 ∧ (n == 60) = false ∧ Opt.val n = -1) ∨ (57 < n ∧ n < 65 ∧ (n == 60) = true ∧ Opt.val n = 0) ∨ (57 < n ∧ n < 65 ∧ (n == 60) = false ∧ Opt.val n = -1) ∨
    (65 ≤ n ∧ n ≤ 90 ∧ Opt.val n = n - 55) ∨ (90 < n ∧ (n == 60) = false ∧ Opt.val n = -1) := by
  simp only [beq_iff_eq, beq_eq_false_iff_ne]
  unfold Opt.val
  repeat' split
  all_goals omega

set_option maxHeartbeats 400000 in
theorem ovalue (n : Int) (w : World) (h0 : 0 ≤ n) (h1 : n ≤ 255) :
    Calls Tryd.prog 12 #[.int .u8 n] w fun e w' => e = .returned (.int .i64 (Opt.val n)) ∧ w = w' := by
  rcases Opt.kinds n with ⟨a, b, hv⟩ | ⟨a, b, hv⟩ | ⟨a, b, c, hv⟩ | ⟨a, b, c, hv⟩ | ⟨a, b, hv⟩ | ⟨a, b, hv⟩
  all_goals
    have HV := Lib.hid hv; clear hv
    go_enter Tryd.func12, Tryd.ntmps12
    go_wp2
    go_ret
    exact ⟨ret_i64 (by have := HV.out; omega), rfl⟩

set_option maxHeartbeats 400000 in
theorem rvalue (n : Int) (w : World) (h0 : 0 ≤ n) (h1 : n ≤ 255) :
    Calls Tryd.prog 13 #[.int .u8 n] w fun e w' => e = .returned (.int .i64 (Opt.val n)) ∧ w = w' := by
  rcases Opt.kinds n with ⟨a, b, hv⟩ | ⟨a, b, hv⟩ | ⟨a, b, c, hv⟩ | ⟨a, b, c, hv⟩ | ⟨a, b, hv⟩ | ⟨a, b, hv⟩
  all_goals
    have HV := Lib.hid hv; clear hv
    go_enter Tryd.func13, Tryd.ntmps13
    go_wp2
    go_ret
    exact ⟨ret_i64 (by have := HV.out; omega), rfl⟩

theorem u8_le (b : UInt8) : 0 ≤ (b.toNat : Int) ∧ (b.toNat : Int) ≤ 255 := by have := b.toNat_lt; omega

set_option maxHeartbeats 400000 in
theorem ovalid (s : ByteArray) (w : World) (hs : s.size ≤ maxLen) :
    Calls Tryd.prog 14 #[.string s] w fun e w' => e = .returned (.bool (Opt.valid s.data.toList)) ∧ w = w' := by
  unfold maxLen at hs
  go_enter Tryd.func14, Tryd.ntmps14
  go_wp2
  go_loop [6] (fun i => ∃ k : Nat, k ≤ s.size ∧ i = .int .i64 k ∧ Opt.valid (s.data.toList.take k) = true) (fun i => s.size - (intOf i).toNat)
  case atStart => exact ⟨0, Nat.zero_le _, rfl, rfl⟩
  case round =>
    obtain ⟨k, hk, rfl, hv⟩ := hrel
    have HV := Lib.hid hv; clear hv
    by_cases hlt : k < s.size
    · have hb := u8_le s[k]
      have hs := Opt.valid_take_snoc s k hlt
      by_cases hc : Opt.val (s[k].toNat : Int) < 0
      · have hn := Opt.not_valid s k hlt hc
        have HN := Lib.hid hn; clear hn hs
        go_wp2_with (go_at_call 12; refine (ovalue _ _ hb.1 hb.2).mono ?_; rintro e w' ⟨rfl, rfl⟩)
        go_ret
        exact ⟨ret_bool HN.out.symm, rfl⟩
      · have hn : Opt.valid (s.data.toList.take (k + 1)) = true := by rw [hs, HV.out]; simp; omega
        have HN := Lib.hid hn; clear hn hs
        go_wp2_with (go_at_call 12; refine (ovalue _ _ hb.1 hb.2).mono ?_; rintro e w' ⟨rfl, rfl⟩)
        go_round
        case rel => exact ⟨k + 1, by omega, by go_num, HN.out⟩
        case measure => simp [intOf]; omega
    · obtain rfl : k = s.size := by omega
      have e : Opt.valid s.data.toList = true := by rw [← Opt.take_all s]; exact HV.out
      have E := Lib.hid e; clear e
      go_wp2
      go_ret
      exact ⟨ret_bool E.out.symm, rfl⟩

set_option maxHeartbeats 400000 in
theorem rvalid10 (s : ByteArray) (w : World) (hs : s.size ≤ maxLen) :
    Calls Tryd.prog 15 #[.string s] w fun e w' => e = .returned (.bool (Opt.valid s.data.toList)) ∧ w = w' := by
  unfold maxLen at hs
  go_enter Tryd.func15, Tryd.ntmps15
  go_wp2
  go_loop [3] (fun i => ∃ k : Nat, k ≤ s.size ∧ i = .int .i64 k ∧ Opt.valid (s.data.toList.take k) = true) (fun i => s.size - (intOf i).toNat)
  case atStart => exact ⟨0, Nat.zero_le _, rfl, rfl⟩
  case round =>
    obtain ⟨k, hk, rfl, hv⟩ := hrel
    have HV := Lib.hid hv; clear hv
    by_cases hlt : k < s.size
    · have hb := u8_le s[k]
      have hs := Opt.valid_take_snoc s k hlt
      by_cases hc : Opt.val (s[k].toNat : Int) < 0
      · have hn := Opt.not_valid s k hlt hc
        have HN := Lib.hid hn; clear hn hs
        go_wp2_with (go_at_call 13; refine (rvalue _ _ hb.1 hb.2).mono ?_; rintro e w' ⟨rfl, rfl⟩)
        go_ret
        exact ⟨ret_bool HN.out.symm, rfl⟩
      · have hn : Opt.valid (s.data.toList.take (k + 1)) = true := by rw [hs, HV.out]; simp; omega
        have HN := Lib.hid hn; clear hn hs
        go_wp2_with (go_at_call 13; refine (rvalue _ _ hb.1 hb.2).mono ?_; rintro e w' ⟨rfl, rfl⟩)
        go_round
        case rel => exact ⟨k + 1, by omega, by go_num, HN.out⟩
        case measure => simp [intOf]; omega
    · obtain rfl : k = s.size := by omega
      have e : Opt.valid s.data.toList = true := by rw [← Opt.take_all s]; exact HV.out
      have E := Lib.hid e; clear e
      go_wp2
      go_ret
      exact ⟨ret_bool E.out.symm, rfl⟩
end Go.Proofs.YtdejgomljelnlaaDoor
