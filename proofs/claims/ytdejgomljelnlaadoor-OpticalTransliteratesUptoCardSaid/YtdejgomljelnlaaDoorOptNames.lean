/- The walks of chapter 10: words, Name of the program and of the reference, the reference's fill and Wide. -/
import Derived.Test.YtdejgomljelnlaaDoorOptDigit2
namespace Go.Proofs.YtdejgomljelnlaaDoor
open Go.RowKit

namespace Opt
def isL (c : UInt8) : Bool := decide (65 ≤ (c.toNat : Int)) && decide ((c.toNat : Int) ≤ 90)
/-- May the k-th byte stand there, where words have the byte b between them. -/
def wAt (b : UInt8) (l : List UInt8) (k : Nat) : Bool := isL (l.getD k 0) || ((l.getD k 0 == b) && decide (0 < k) && decide (k + 1 < l.length) && (l.getD (k - 1) 0 != b))
def words (b : UInt8) (l : List UInt8) : Bool := (List.range l.length).all (wAt b l)
theorem words_no {b : UInt8} {l : List UInt8} {k : Nat} (hk : k < l.length) (h : wAt b l k = false) : words b l = false := by
  rw [Bool.eq_false_iff]; intro hh
  have := List.all_eq_true.1 hh k (List.mem_range.2 hk)
  rw [h] at this; cases this
theorem words_yes {b : UInt8} {l : List UInt8} (h : ∀ k, k < l.length → wAt b l k = true) : words b l = true :=
  List.all_eq_true.2 fun k hk => h k (List.mem_range.1 hk)
theorem words_at {b : UInt8} {l : List UInt8} (h : words b l = true) (k : Nat) (hk : k < l.length) : wAt b l k = true :=
  List.all_eq_true.1 h k (List.mem_range.2 hk)
theorem getD_at (s : ByteArray) (k : Nat) (hk : k < s.size) : s.data.toList.getD k 0 = s[k] := by
  have h : k < s.data.toList.length := by simpa using hk
  simp only [List.getD, List.getElem?_eq_getElem h, Option.getD_some]; rfl
theorem b8_eq (c : UInt8) (n : Int) (h0 : 0 ≤ n) (h1 : n ≤ 255) : (c == b8 n) = ((c.toNat : Int) == n) := by
  have e := b8_toNat n h0 h1
  rw [Bool.eq_iff_iff, beq_iff_eq, beq_iff_eq]
  constructor
  · rintro rfl; exact e
  · intro h; apply UInt8.toNat_inj.1; omega
/-- A text with the byte a written as b. -/
def sub (a b : UInt8) (l : List UInt8) : List UInt8 := l.map fun c => if c == a then b else c
end Opt

theorem oletter_yes (n : Int) (w : World) (h0 : 0 ≤ n) (h1 : n ≤ 255) (h : 65 ≤ n ∧ n ≤ 90) :
    Calls Tryd.prog 29 #[.int .u8 n] w fun e w' => e = .returned (.bool true) ∧ w = w' := by
  have := oletter n w h0 h1
  simpa only [h.1, h.2, decide_true, Bool.and_self] using this
theorem oletter_no (n : Int) (w : World) (h0 : 0 ≤ n) (h1 : n ≤ 255) (h : ¬ (65 ≤ n ∧ n ≤ 90)) :
    Calls Tryd.prog 29 #[.int .u8 n] w fun e w' => e = .returned (.bool false) ∧ w = w' := by
  have := oletter n w h0 h1
  have e : (decide (65 ≤ n) && decide (n ≤ 90)) = false := by simp; omega
  rwa [e] at this

set_option maxHeartbeats 2000000 in
theorem owords (s : ByteArray) (n : Int) (w : World) (hs : s.size ≤ maxLen) (h0 : 0 ≤ n) (h1 : n ≤ 255) :
    Calls Tryd.prog 34 #[.string s, .int .u8 n] w fun e w' => e = .returned (.bool (Opt.words (b8 n) s.data.toList)) ∧ w = w' := by
  unfold maxLen at hs
  go_enter Tryd.func34, Tryd.ntmps34
  go_wp2_with fail
  go_loop [9] (fun i => ∃ k : Nat, k ≤ s.size ∧ i = .int .i64 k ∧ ∀ j, j < k → Opt.wAt (b8 n) s.data.toList j = true) (fun i => s.size - (intOf i).toNat)
  case atStart => exact ⟨0, Nat.zero_le _, rfl, fun j hj => absurd hj (by omega)⟩
  case round =>
    obtain ⟨k, hk, rfl, hv⟩ := hrel
    have HV := Lib.hid hv; clear hv
    by_cases hlt : k < s.size
    · have hb := u8_le s[k]
      have hlen : k < s.data.toList.length := by simpa using hlt
      have hp : k - 1 < s.size := by omega
      have hb' := u8_le s[k - 1]
      have hw : Opt.wAt (b8 n) s.data.toList k = (Opt.isL s[k] || (((s[k].toNat : Int) == n) && decide (0 < k) && decide (k + 1 < s.size) && ((s[k - 1].toNat : Int) != n))) := by
        unfold Opt.wAt
        rw [Opt.getD_at s k hlt, Opt.getD_at s (k - 1) hp, Opt.b8_eq _ _ h0 h1, Opt.size_len]
        unfold bne
        rw [Opt.b8_eq _ _ h0 h1]
      have hin : (k = 0) ∨ (0 < k ∧ ¬ k + 1 < s.size) ∨ (0 < k ∧ k + 1 < s.size ∧ ((s[k - 1].toNat : Int) != n) = false) ∨ (0 < k ∧ k + 1 < s.size ∧ ((s[k - 1].toNat : Int) != n) = true) := by
        by_cases g1 : k = 0
        · exact .inl g1
        by_cases g2 : k + 1 < s.size
        · rcases Bool.eq_false_or_eq_true ((s[k - 1].toNat : Int) != n) with g | g
          · exact .inr (.inr (.inr ⟨by omega, g2, g⟩))
          · exact .inr (.inr (.inl ⟨by omega, g2, g⟩))
        · exact .inr (.inl ⟨by omega, g2⟩)
      have hc : (65 ≤ (s[k].toNat : Int) ∧ (s[k].toNat : Int) ≤ 90) ∨ (¬ (65 ≤ (s[k].toNat : Int) ∧ (s[k].toNat : Int) ≤ 90) ∧ ((s[k].toNat : Int) == n) = true) ∨ (¬ (65 ≤ (s[k].toNat : Int) ∧ (s[k].toNat : Int) ≤ 90) ∧ ((s[k].toNat : Int) == n) = false) := by
        by_cases g : 65 ≤ (s[k].toNat : Int) ∧ (s[k].toNat : Int) ≤ 90
        · exact .inl g
        · rcases Bool.eq_false_or_eq_true ((s[k].toNat : Int) == n) with h | h
          · exact .inr (.inl ⟨g, h⟩)
          · exact .inr (.inr ⟨g, h⟩)
      have next : Opt.wAt (b8 n) s.data.toList k = true → ∀ j, j < k + 1 → Opt.wAt (b8 n) s.data.toList j = true := fun h j hj => by
        rcases Nat.lt_or_ge j k with g | g
        · exact HV.out j g
        · obtain rfl : j = k := by omega
          exact h
      have NX := Lib.hid next; clear next
      rcases hin with hin | ⟨hin, hin2⟩ | ⟨hin, hin2, hin3⟩ | ⟨hin, hin2, hin3⟩
      · subst hin
        rcases hc with hc | ⟨hc, hc2⟩ | ⟨hc, hc2⟩
        · have hy : Opt.wAt (b8 n) s.data.toList 0 = true := by rw [hw]; simp [Opt.isL, hc.1, hc.2]
          have HY := Lib.hid hy; clear hy hw
          have HC := Lib.hid hc; clear hc
          go_wp2_with (go_at_call 29; refine (oletter_yes _ _ hb.1 hb.2 HC.out).mono ?_; rintro e w' ⟨rfl, rfl⟩)
          go_round
          case rel => exact ⟨1, by omega, by go_num, NX.out HY.out⟩
          case measure => simp [intOf]; omega
        · have hy := Opt.words_no (b := b8 n) hlen (by rw [hw]; simp [Opt.isL]; omega)
          have HY := Lib.hid hy; clear hy hw
          have HC := Lib.hid hc; clear hc
          have hc3 : ((s[0].toNat : Int) != n) = false := by unfold bne; rw [hc2]; rfl
          go_wp2_with (go_at_call 29; refine (oletter_no _ _ hb.1 hb.2 HC.out).mono ?_; rintro e w' ⟨rfl, rfl⟩)
          go_ret
          exact ⟨ret_bool HY.out.symm, rfl⟩
        · have hy := Opt.words_no (b := b8 n) hlen (by rw [hw, hc2]; simp [Opt.isL]; omega)
          have HY := Lib.hid hy; clear hy hw
          have HC := Lib.hid hc; clear hc
          have hc3 : ((s[0].toNat : Int) != n) = true := by unfold bne; rw [hc2]; rfl
          go_wp2_with (go_at_call 29; refine (oletter_no _ _ hb.1 hb.2 HC.out).mono ?_; rintro e w' ⟨rfl, rfl⟩)
          go_ret
          exact ⟨ret_bool HY.out.symm, rfl⟩
      · rcases hc with hc | ⟨hc, hc2⟩ | ⟨hc, hc2⟩
        · have hy : Opt.wAt (b8 n) s.data.toList k = true := by rw [hw]; simp [Opt.isL, hc.1, hc.2]
          have HY := Lib.hid hy; clear hy hw
          have HC := Lib.hid hc; clear hc
          go_wp2_with (go_at_call 29; refine (oletter_yes _ _ hb.1 hb.2 HC.out).mono ?_; rintro e w' ⟨rfl, rfl⟩)
          go_round
          case rel => exact ⟨k + 1, by omega, by go_num, NX.out HY.out⟩
          case measure => simp [intOf]; omega
        · have hy := Opt.words_no (b := b8 n) hlen (by rw [hw]; simp [Opt.isL]; omega)
          have HY := Lib.hid hy; clear hy hw
          have HC := Lib.hid hc; clear hc
          have hc3 : ((s[k].toNat : Int) != n) = false := by unfold bne; rw [hc2]; rfl
          go_wp2_with (go_at_call 29; refine (oletter_no _ _ hb.1 hb.2 HC.out).mono ?_; rintro e w' ⟨rfl, rfl⟩)
          go_ret
          exact ⟨ret_bool HY.out.symm, rfl⟩
        · have hy := Opt.words_no (b := b8 n) hlen (by rw [hw, hc2]; simp [Opt.isL]; omega)
          have HY := Lib.hid hy; clear hy hw
          have HC := Lib.hid hc; clear hc
          have hc3 : ((s[k].toNat : Int) != n) = true := by unfold bne; rw [hc2]; rfl
          go_wp2_with (go_at_call 29; refine (oletter_no _ _ hb.1 hb.2 HC.out).mono ?_; rintro e w' ⟨rfl, rfl⟩)
          go_ret
          exact ⟨ret_bool HY.out.symm, rfl⟩
      · rcases hc with hc | ⟨hc, hc2⟩ | ⟨hc, hc2⟩
        · have hy : Opt.wAt (b8 n) s.data.toList k = true := by rw [hw]; simp [Opt.isL, hc.1, hc.2]
          have HY := Lib.hid hy; clear hy hw
          have HC := Lib.hid hc; clear hc
          go_wp2_with (go_at_call 29; refine (oletter_yes _ _ hb.1 hb.2 HC.out).mono ?_; rintro e w' ⟨rfl, rfl⟩)
          go_round
          case rel => exact ⟨k + 1, by omega, by go_num, NX.out HY.out⟩
          case measure => simp [intOf]; omega
        · have hy := Opt.words_no (b := b8 n) hlen (by rw [hw, hin3]; simp [Opt.isL]; omega)
          have HY := Lib.hid hy; clear hy hw
          have HC := Lib.hid hc; clear hc
          have hc3 : ((s[k].toNat : Int) != n) = false := by unfold bne; rw [hc2]; rfl
          go_wp2_with (go_at_call 29; refine (oletter_no _ _ hb.1 hb.2 HC.out).mono ?_; rintro e w' ⟨rfl, rfl⟩)
          go_ret
          exact ⟨ret_bool HY.out.symm, rfl⟩
        · have hy := Opt.words_no (b := b8 n) hlen (by rw [hw, hc2]; simp [Opt.isL]; omega)
          have HY := Lib.hid hy; clear hy hw
          have HC := Lib.hid hc; clear hc
          have hc3 : ((s[k].toNat : Int) != n) = true := by unfold bne; rw [hc2]; rfl
          go_wp2_with (go_at_call 29; refine (oletter_no _ _ hb.1 hb.2 HC.out).mono ?_; rintro e w' ⟨rfl, rfl⟩)
          go_ret
          exact ⟨ret_bool HY.out.symm, rfl⟩
      · rcases hc with hc | ⟨hc, hc2⟩ | ⟨hc, hc2⟩
        · have hy : Opt.wAt (b8 n) s.data.toList k = true := by rw [hw]; simp [Opt.isL, hc.1, hc.2]
          have HY := Lib.hid hy; clear hy hw
          have HC := Lib.hid hc; clear hc
          go_wp2_with (go_at_call 29; refine (oletter_yes _ _ hb.1 hb.2 HC.out).mono ?_; rintro e w' ⟨rfl, rfl⟩)
          go_round
          case rel => exact ⟨k + 1, by omega, by go_num, NX.out HY.out⟩
          case measure => simp [intOf]; omega
        · have hy : Opt.wAt (b8 n) s.data.toList k = true := by rw [hw, hc2, hin3]; simp [hin, hin2]
          have HY := Lib.hid hy; clear hy hw
          have HC := Lib.hid hc; clear hc
          have hc3 : ((s[k].toNat : Int) != n) = false := by unfold bne; rw [hc2]; rfl
          go_wp2_with (go_at_call 29; refine (oletter_no _ _ hb.1 hb.2 HC.out).mono ?_; rintro e w' ⟨rfl, rfl⟩)
          go_round
          case rel => exact ⟨k + 1, by omega, by go_num, NX.out HY.out⟩
          case measure => simp [intOf]; omega
        · have hy := Opt.words_no (b := b8 n) hlen (by rw [hw, hc2]; simp [Opt.isL]; omega)
          have HY := Lib.hid hy; clear hy hw
          have HC := Lib.hid hc; clear hc
          have hc3 : ((s[k].toNat : Int) != n) = true := by unfold bne; rw [hc2]; rfl
          go_wp2_with (go_at_call 29; refine (oletter_no _ _ hb.1 hb.2 HC.out).mono ?_; rintro e w' ⟨rfl, rfl⟩)
          go_ret
          exact ⟨ret_bool HY.out.symm, rfl⟩
    · obtain rfl : k = s.size := by omega
      have e : Opt.words (b8 n) s.data.toList = true := Opt.words_yes fun k hk => HV.out k (by simpa using hk)
      have E := Lib.hid e; clear e
      go_wp2_with fail
      go_ret
      exact ⟨ret_bool E.out.symm, rfl⟩

theorem oname (s : ByteArray) (w : World) (hs : s.size ≤ maxLen) :
    Calls Tryd.prog 18 #[.string s] w fun e w' => e = .returned (.bool (Opt.words (b8 32) s.data.toList)) ∧ w = w' := by
  go_enter Tryd.func18, Tryd.ntmps18
  go_wp2_with fail
  refine (owords _ _ _ hs (by omega) (by omega)).mono ?_; rintro e w' ⟨rfl, rfl⟩
  go_wp2_with fail
  go_ret
  exact ⟨rfl, rfl⟩

set_option maxHeartbeats 2000000 in
theorem rname (s : ByteArray) (w : World) (hs : s.size ≤ maxLen) :
    Calls Tryd.prog 19 #[.string s] w fun e w' => e = .returned (.bool (Opt.words (b8 32) s.data.toList)) ∧ w = w' := by
  unfold maxLen at hs
  go_enter Tryd.func19, Tryd.ntmps19
  go_wp2_with fail
  go_loop [3] (fun i => ∃ k : Nat, k ≤ s.size ∧ i = .int .i64 k ∧ ∀ j, j < k → Opt.wAt (b8 32) s.data.toList j = true) (fun i => s.size - (intOf i).toNat)
  case atStart => exact ⟨0, Nat.zero_le _, rfl, fun j hj => absurd hj (by omega)⟩
  case round =>
    obtain ⟨k, hk, rfl, hv⟩ := hrel
    have HV := Lib.hid hv; clear hv
    by_cases hlt : k < s.size
    · have hb := u8_le s[k]
      have hlen : k < s.data.toList.length := by simpa using hlt
      have hp : k - 1 < s.size := by omega
      have hb' := u8_le s[k - 1]
      have hw : Opt.wAt (b8 32) s.data.toList k = (Opt.isL s[k] || (((s[k].toNat : Int) == 32) && decide (0 < k) && decide (k + 1 < s.size) && ((s[k - 1].toNat : Int) != 32))) := by
        unfold Opt.wAt
        rw [Opt.getD_at s k hlt, Opt.getD_at s (k - 1) hp, Opt.b8_eq _ _ (by omega) (by omega), Opt.size_len]
        unfold bne
        rw [Opt.b8_eq _ _ (by omega) (by omega)]
      have hin : (k = 0) ∨ (0 < k ∧ ((k : Int) == 0) = false ∧ ¬ k + 1 < s.size ∧ ((k : Int) == (s.size : Int) - 1) = true) ∨ (0 < k ∧ ((k : Int) == 0) = false ∧ k + 1 < s.size ∧ ((k : Int) == (s.size : Int) - 1) = false ∧ ((s[k - 1].toNat : Int) == 32) = true) ∨ (0 < k ∧ ((k : Int) == 0) = false ∧ k + 1 < s.size ∧ ((k : Int) == (s.size : Int) - 1) = false ∧ ((s[k - 1].toNat : Int) == 32) = false) := by
        by_cases g1 : k = 0
        · exact .inl g1
        have e0 : ((k : Int) == 0) = false := by simp; omega
        by_cases g2 : k + 1 < s.size
        · have e1 : ((k : Int) == (s.size : Int) - 1) = false := by simp; omega
          rcases Bool.eq_false_or_eq_true ((s[k - 1].toNat : Int) == 32) with g | g
          · exact .inr (.inr (.inl ⟨by omega, e0, g2, e1, g⟩))
          · exact .inr (.inr (.inr ⟨by omega, e0, g2, e1, g⟩))
        · exact .inr (.inl ⟨by omega, e0, g2, by simp; omega⟩)
      have hc : (((s[k].toNat : Int) == 32) = true) ∨ (((s[k].toNat : Int) == 32) = false ∧ 65 ≤ (s[k].toNat : Int) ∧ (s[k].toNat : Int) ≤ 90) ∨ (((s[k].toNat : Int) == 32) = false ∧ (s[k].toNat : Int) < 65) ∨ (((s[k].toNat : Int) == 32) = false ∧ 90 < (s[k].toNat : Int)) := by
        rcases Bool.eq_false_or_eq_true ((s[k].toNat : Int) == 32) with h | h
        · exact .inl h
        · by_cases g : 65 ≤ (s[k].toNat : Int) ∧ (s[k].toNat : Int) ≤ 90
          · exact .inr (.inl ⟨h, g⟩)
          · by_cases g' : (s[k].toNat : Int) < 65
            · exact .inr (.inr (.inl ⟨h, g'⟩))
            · exact .inr (.inr (.inr ⟨h, by omega⟩))
      have next : Opt.wAt (b8 32) s.data.toList k = true → ∀ j, j < k + 1 → Opt.wAt (b8 32) s.data.toList j = true := fun h j hj => by
        rcases Nat.lt_or_ge j k with g | g
        · exact HV.out j g
        · obtain rfl : j = k := by omega
          exact h
      have NX := Lib.hid next; clear next
      have h32 : (s[k].toNat : Int) == 32 → Opt.isL s[k] = false := fun h => by have := beq_iff_eq.1 h; unfold Opt.isL; rw [this]; rfl
      rcases hc with hc | ⟨hc, hc2, hc3⟩ | ⟨hc, hc2⟩ | ⟨hc, hc2⟩
      · have hl := h32 hc
        rw [hl, hc] at hw
        have HL := Lib.hid hl; clear hl h32
        have hcn : ((s[k].toNat : Int) != 32) = false := by unfold bne; rw [hc]; rfl
        rcases hin with hin | ⟨hin, e0, hin2, e1⟩ | ⟨hin, e0, hin2, e1, hin3⟩ | ⟨hin, e0, hin2, e1, hin3⟩
        · subst hin
          have hy := Opt.words_no (b := b8 32) hlen (by rw [hw]; simp)
          have HY := Lib.hid hy; clear hy hw
          go_wp2_with fail
          go_ret
          exact ⟨ret_bool HY.out.symm, rfl⟩
        · have hy := Opt.words_no (b := b8 32) hlen (by rw [hw]; simp [hin2])
          have HY := Lib.hid hy; clear hy hw
          go_wp2_with fail
          go_ret
          exact ⟨ret_bool HY.out.symm, rfl⟩
        · have hin4 : ((s[k - 1].toNat : Int) != 32) = false := by unfold bne; rw [hin3]; rfl
          have hy := Opt.words_no (b := b8 32) hlen (by rw [hw, hin4]; simp)
          have HY := Lib.hid hy; clear hy hw hin4
          go_wp2_with fail
          go_ret
          exact ⟨ret_bool HY.out.symm, rfl⟩
        · have hin4 : ((s[k - 1].toNat : Int) != 32) = true := by unfold bne; rw [hin3]; rfl
          have hy : Opt.wAt (b8 32) s.data.toList k = true := by rw [hw, hin4]; simp [hin, hin2]
          have HY := Lib.hid hy; clear hy hw hin4
          go_wp2_with fail
          go_round
          case rel => exact ⟨k + 1, by omega, by go_num, NX.out HY.out⟩
          case measure => simp [intOf]; omega
      · have hy : Opt.wAt (b8 32) s.data.toList k = true := by rw [hw]; simp [Opt.isL, hc2, hc3]
        have HY := Lib.hid hy; clear hy hw h32 hin
        have hcn : ((s[k].toNat : Int) != 32) = true := by unfold bne; rw [hc]; rfl
        go_wp2_with fail
        go_round
        case rel => exact ⟨k + 1, by omega, by go_num, NX.out HY.out⟩
        case measure => simp [intOf]; omega
      · have hy := Opt.words_no (b := b8 32) hlen (by rw [hw, hc]; simp [Opt.isL]; omega)
        have HY := Lib.hid hy; clear hy hw h32 hin
        have hcn : ((s[k].toNat : Int) != 32) = true := by unfold bne; rw [hc]; rfl
        go_wp2_with fail
        go_ret
        exact ⟨ret_bool HY.out.symm, rfl⟩
      · have hy := Opt.words_no (b := b8 32) hlen (by rw [hw, hc]; simp [Opt.isL]; omega)
        have HY := Lib.hid hy; clear hy hw h32 hin
        have hcn : ((s[k].toNat : Int) != 32) = true := by unfold bne; rw [hc]; rfl
        go_wp2_with fail
        go_ret
        exact ⟨ret_bool HY.out.symm, rfl⟩
    · obtain rfl : k = s.size := by omega
      have e : Opt.words (b8 32) s.data.toList = true := Opt.words_yes fun k hk => HV.out k (by simpa using hk)
      have E := Lib.hid e; clear e
      go_wp2_with fail
      go_ret
      exact ⟨ret_bool E.out.symm, rfl⟩
end Go.Proofs.YtdejgomljelnlaaDoor
