/- Chapter 12: several texts in one (OptPlain, OptDigit, OptDigit2). -/
import Derived.Test.YtafbhadfeemppaaGreatDoorUtil
import Derived.Test.YtafbhadfeemppaaGreatDoorRows
import Derived.BigQuiet
import Derived.Deep.QuietTactic
namespace Go.Proofs.YtafbhadfeemppaaGreatDoor.Opt
open Go.RowKit

/-- The value of a character, -1 for another byte. -/
def val (n : Int) : Int := if 48 ≤ n ∧ n ≤ 57 then n - 48 else if 65 ≤ n ∧ n ≤ 90 then n - 55 else if n = 60 then 0 else -1
theorem val_bd (n : Int) : -1 ≤ val n ∧ val n ≤ 35 := by unfold val; repeat' split
                                                         all_goals omega
/-- The characters of a text. -/
def ok (c : UInt8) : Bool := decide (0 ≤ val (c.toNat : Int))
def valid (l : List UInt8) : Bool := l.all ok
/-- The weight of a place. -/
def wt (k : Nat) : Int := if k % 3 = 0 then 7 else if k % 3 = 1 then 3 else 1
theorem wt_bd (k : Nat) : 1 ≤ wt k ∧ wt k ≤ 7 := by unfold wt; repeat' split
                                                    all_goals omega
/-- The weighed sum of a text, from a place on. -/
def sumFrom : Nat → List UInt8 → Int
  | _, [] => 0
  | k, c :: r => wt k * val (c.toNat : Int) + sumFrom (k + 1) r
def sum (l : List UInt8) : Int := sumFrom 0 l
theorem sumFrom_append (l m : List UInt8) : ∀ k, sumFrom k (l ++ m) = sumFrom k l + sumFrom (k + l.length) m := by
  induction l with
  | nil => intro k; simp [sumFrom]
  | cons c r ih => intro k; simp only [List.cons_append, sumFrom, ih, List.length_cons]; rw [show k + 1 + r.length = k + (r.length + 1) by omega]; omega
theorem sum_snoc (l : List UInt8) (c : UInt8) : sum (l ++ [c]) = sum l + wt l.length * val (c.toNat : Int) := by
  unfold sum; rw [sumFrom_append]; simp [sumFrom]
theorem mul_bd {a b : Int} (ha : 0 ≤ a ∧ a ≤ 7) (hb : -1 ≤ b ∧ b ≤ 35) : -7 ≤ a * b ∧ a * b ≤ 245 := by
  have : a = 0 ∨ a = 1 ∨ a = 2 ∨ a = 3 ∨ a = 4 ∨ a = 5 ∨ a = 6 ∨ a = 7 := by omega
  rcases this with rfl | rfl | rfl | rfl | rfl | rfl | rfl | rfl <;> omega
theorem sumFrom_bd (l : List UInt8) (h : valid l = true) : ∀ k, 0 ≤ sumFrom k l ∧ sumFrom k l ≤ 245 * l.length := by
  induction l with
  | nil => intro k; simp [sumFrom]
  | cons c r ih =>
    intro k
    simp only [valid, List.all_cons, Bool.and_eq_true] at h
    have h1 := ih h.2 (k + 1)
    have h2 := val_bd (c.toNat : Int)
    have h3 : 0 ≤ val (c.toNat : Int) := by simpa [ok] using h.1
    have h4 := wt_bd k
    have h5 := mul_bd (a := wt k) (b := val (c.toNat : Int)) ⟨by omega, by omega⟩ h2
    have h6 : 0 ≤ wt k * val (c.toNat : Int) := Int.mul_nonneg (by omega) h3
    simp only [sumFrom, List.length_cons]
    omega
theorem sum_bd (l : List UInt8) (h : valid l = true) : 0 ≤ sum l ∧ sum l ≤ 245 * l.length := sumFrom_bd l h 0
/-- The check digit, as a byte. -/
def digit (l : List UInt8) : UInt8 := b8 (48 + sum l % 10)
def digS (s : ByteArray) : ByteArray := if valid s.data.toList = true then ⟨#[digit s.data.toList]⟩ else ⟨#[]⟩
def digE (s : ByteArray) : Int := if valid s.data.toList = true then 0 else 12
theorem take_snoc (s : ByteArray) (k : Nat) (h : k < s.size) : s.data.toList.take (k + 1) = s.data.toList.take k ++ [s[k]] := by
  rw [List.take_succ_eq_append_getElem (by simpa using h)]; rfl
theorem size_len (s : ByteArray) : s.data.toList.length = s.size := by simp
theorem take_all (s : ByteArray) : s.data.toList.take s.size = s.data.toList := List.take_of_length_le (by simp)
theorem take_len (s : ByteArray) (k : Nat) (h : k ≤ s.size) : (s.data.toList.take k).length = k := by simp; omega
theorem valid_get (l : List UInt8) (h : valid l = true) (k : Nat) (hk : k < l.length) : 0 ≤ val (l[k].toNat : Int) := by
  have := List.all_eq_true.1 h _ (List.getElem_mem hk)
  simpa [ok] using this
theorem valid_take (l : List UInt8) (h : valid l = true) (k : Nat) : valid (l.take k) = true :=
  List.all_eq_true.2 fun x hx => List.all_eq_true.1 h x (List.mem_of_mem_take hx)
theorem valid_take_snoc (s : ByteArray) (k : Nat) (h : k < s.size) : valid (s.data.toList.take (k + 1)) = (valid (s.data.toList.take k) && decide (0 ≤ val (s[k].toNat : Int))) := by
  rw [take_snoc s k h]; simp [valid, ok, List.all_append]
theorem not_valid (s : ByteArray) (k : Nat) (h : k < s.size) (hv : val (s[k].toNat : Int) < 0) : valid s.data.toList = false := by
  rw [Bool.eq_false_iff]; intro hh
  have := valid_get _ hh k (by simpa using h)
  have e : s.data.toList[k]'(by simpa using h) = s[k] := rfl
  rw [e] at this; omega
end Go.Proofs.YtafbhadfeemppaaGreatDoor.Opt

namespace Go.Proofs.YtafbhadfeemppaaGreatDoor
open Go.RowKit

set_option maxHeartbeats 400000 in
theorem oletter (n : Int) (w : World) (h0 : 0 ≤ n) (h1 : n ≤ 255) :
    Calls Tryz.prog 65 #[.int .u8 n] w fun e w' => e = .returned (.bool (decide (65 ≤ n) && decide (n ≤ 90))) ∧ w = w' := by
  by_cases c1 : 65 ≤ n
  · by_cases c2 : n ≤ 90
    · go_enter Tryz.func65, Tryz.ntmps65
      go_wp2
      go_ret
      exact ⟨by simp [c1, c2], rfl⟩
    · go_enter Tryz.func65, Tryz.ntmps65
      go_wp2
      go_ret
      exact ⟨by simp; omega, rfl⟩
  · go_enter Tryz.func65, Tryz.ntmps65
    go_wp2
    go_ret
    exact ⟨by simp; omega, rfl⟩

/-- The four kinds of a byte. -/
theorem Opt.kinds (n : Int) : (48 ≤ n ∧ n ≤ 57 ∧ Opt.val n = n - 48) ∨ (n < 48 ∧ (n == 60) = false ∧ Opt.val n = -1) ∨ (57 < n ∧ n < 65 ∧ (n == 60) = true ∧ Opt.val n = 0) ∨ (57 < n ∧ n < 65 ∧ (n == 60) = false ∧ Opt.val n = -1) ∨
    (65 ≤ n ∧ n ≤ 90 ∧ Opt.val n = n - 55) ∨ (90 < n ∧ (n == 60) = false ∧ Opt.val n = -1) := by
  simp only [beq_iff_eq, beq_eq_false_iff_ne]
  unfold Opt.val
  repeat' split
  all_goals omega

set_option maxHeartbeats 400000 in
theorem ovalue (n : Int) (w : World) (h0 : 0 ≤ n) (h1 : n ≤ 255) :
    Calls Tryz.prog 32 #[.int .u8 n] w fun e w' => e = .returned (.int .i64 (Opt.val n)) ∧ w = w' := by
  rcases Opt.kinds n with ⟨a, b, hv⟩ | ⟨a, b, hv⟩ | ⟨a, b, c, hv⟩ | ⟨a, b, c, hv⟩ | ⟨a, b, hv⟩ | ⟨a, b, hv⟩
  all_goals
    have HV := Lib.hid hv; clear hv
    go_enter Tryz.func32, Tryz.ntmps32
    go_wp2
    go_ret
    exact ⟨ret_i64 (by have := HV.out; omega), rfl⟩

set_option maxHeartbeats 400000 in
theorem rvalue (n : Int) (w : World) (h0 : 0 ≤ n) (h1 : n ≤ 255) :
    Calls Tryz.prog 34 #[.int .u8 n] w fun e w' => e = .returned (.int .i64 (Opt.val n)) ∧ w = w' := by
  rcases Opt.kinds n with ⟨a, b, hv⟩ | ⟨a, b, hv⟩ | ⟨a, b, c, hv⟩ | ⟨a, b, c, hv⟩ | ⟨a, b, hv⟩ | ⟨a, b, hv⟩
  all_goals
    have HV := Lib.hid hv; clear hv
    go_enter Tryz.func34, Tryz.ntmps34
    go_wp2
    go_ret
    exact ⟨ret_i64 (by have := HV.out; omega), rfl⟩

theorem u8_le (b : UInt8) : 0 ≤ (b.toNat : Int) ∧ (b.toNat : Int) ≤ 255 := by have := b.toNat_lt; omega

set_option maxHeartbeats 400000 in
theorem ovalid (s : ByteArray) (w : World) (hs : s.size ≤ maxLen) :
    Calls Tryz.prog 53 #[.string s] w fun e w' => e = .returned (.bool (Opt.valid s.data.toList)) ∧ w = w' := by
  unfold maxLen at hs
  go_enter Tryz.func53, Tryz.ntmps53
  go_wp2
  go_loop [6] (fun i => ∃ k : Nat, k ≤ s.size ∧ i = .int .i64 k ∧ Opt.valid (s.data.toList.take k) = true) (fun i => s.size - (intOf i).toNat)
  case atStart => exact ⟨0, Nat.zero_le _, rfl, rfl⟩
  case round =>
    obtain ⟨k, hk, rfl, hv⟩ := hrel
    have HV := Lib.hid hv; clear hv
    by_cases hlt : k < s.size
    · have hb := u8_le s[k]
      have hs := Opt.valid_take_snoc s k hlt
      by_cases hc : Opt.val (s[k].toNat : Int) < 0
      · have hn := Opt.not_valid s k hlt hc
        have HN := Lib.hid hn; clear hn hs
        go_wp2_with (go_at_call 32; refine (ovalue _ _ hb.1 hb.2).mono ?_; rintro e w' ⟨rfl, rfl⟩)
        go_ret
        exact ⟨ret_bool HN.out.symm, rfl⟩
      · have hn : Opt.valid (s.data.toList.take (k + 1)) = true := by rw [hs, HV.out]; simp; omega
        have HN := Lib.hid hn; clear hn hs
        go_wp2_with (go_at_call 32; refine (ovalue _ _ hb.1 hb.2).mono ?_; rintro e w' ⟨rfl, rfl⟩)
        go_round
        case rel => exact ⟨k + 1, by omega, by go_num, HN.out⟩
        case measure => simp [intOf]; omega
    · obtain rfl : k = s.size := by omega
      have e : Opt.valid s.data.toList = true := by rw [← Opt.take_all s]; exact HV.out
      have E := Lib.hid e; clear e
      go_wp2
      go_ret
      exact ⟨ret_bool E.out.symm, rfl⟩

set_option maxHeartbeats 400000 in
theorem rvalid10 (s : ByteArray) (w : World) (hs : s.size ≤ maxLen) :
    Calls Tryz.prog 44 #[.string s] w fun e w' => e = .returned (.bool (Opt.valid s.data.toList)) ∧ w = w' := by
  unfold maxLen at hs
  go_enter Tryz.func44, Tryz.ntmps44
  go_wp2
  go_loop [3] (fun i => ∃ k : Nat, k ≤ s.size ∧ i = .int .i64 k ∧ Opt.valid (s.data.toList.take k) = true) (fun i => s.size - (intOf i).toNat)
  case atStart => exact ⟨0, Nat.zero_le _, rfl, rfl⟩
  case round =>
    obtain ⟨k, hk, rfl, hv⟩ := hrel
    have HV := Lib.hid hv; clear hv
    by_cases hlt : k < s.size
    · have hb := u8_le s[k]
      have hs := Opt.valid_take_snoc s k hlt
      by_cases hc : Opt.val (s[k].toNat : Int) < 0
      · have hn := Opt.not_valid s k hlt hc
        have HN := Lib.hid hn; clear hn hs
        go_wp2_with (go_at_call 34; refine (rvalue _ _ hb.1 hb.2).mono ?_; rintro e w' ⟨rfl, rfl⟩)
        go_ret
        exact ⟨ret_bool HN.out.symm, rfl⟩
      · have hn : Opt.valid (s.data.toList.take (k + 1)) = true := by rw [hs, HV.out]; simp; omega
        have HN := Lib.hid hn; clear hn hs
        go_wp2_with (go_at_call 34; refine (rvalue _ _ hb.1 hb.2).mono ?_; rintro e w' ⟨rfl, rfl⟩)
        go_round
        case rel => exact ⟨k + 1, by omega, by go_num, HN.out⟩
        case measure => simp [intOf]; omega
    · obtain rfl : k = s.size := by omega
      have e : Opt.valid s.data.toList = true := by rw [← Opt.take_all s]; exact HV.out
      have E := Lib.hid e; clear e
      go_wp2
      go_ret
      exact ⟨ret_bool E.out.symm, rfl⟩
end Go.Proofs.YtafbhadfeemppaaGreatDoor

namespace Go.Proofs.YtafbhadfeemppaaGreatDoor
open Go.RowKit

theorem Opt.wt_mod (k : Nat) : (Opt.wt k = 7 ∧ k % 3 = 0) ∨ (Opt.wt k = 3 ∧ k % 3 = 1) ∨ (Opt.wt k = 1 ∧ k % 3 = 2) := by
  unfold Opt.wt; have : k % 3 < 3 := Nat.mod_lt _ (by omega); omega
def Opt.wv (j : Nat) : Value := .int .i64 (Opt.wt j)
theorem Opt.wt_of_mod (k : Nat) : Opt.wt (k % 3) = Opt.wt k := by unfold Opt.wt; rw [Nat.mod_mod]

theorem Opt.enc_ascii (n : Int) (h : 0 ≤ n) (h' : n < 128) : Utf8.encode n = ⟨#[b8 n]⟩ := by
  unfold Utf8.encode
  have hv : Utf8.valid n = true := by unfold Utf8.valid; simp; omega
  have hc : n.toNat < 128 := by omega
  simp only [hv, if_true, hc]
  rfl
theorem Opt.ret_si {a b : ByteArray} {c d : Int} (h : a = b) (h' : c = d) : Ending.returned (.tuple #[.string a, .int .i64 c]) = .returned (.tuple #[.string b, .int .i64 d]) := by rw [h, h']

set_option maxHeartbeats 800000 in
theorem odigit (s : ByteArray) (w : World) (hs : s.size ≤ 140737488351232) :
    Calls Tryz.prog 121 #[.string s] w fun e w' => e = .returned (.tuple #[.string (Opt.digS s), .int .i64 (Opt.digE s)]) ∧ Below w.heap.size w w' := by
  have hs' : s.size ≤ maxLen := by unfold maxLen; omega
  cases hv : Opt.valid s.data.toList with
  | false =>
    have e1 : Opt.digS s = ⟨#[]⟩ := by unfold Opt.digS; simp [hv]
    have e2 : Opt.digE s = 12 := by unfold Opt.digE; simp [hv]
    rw [e1, e2]; clear e1 e2
    have HV := Lib.hid hv; clear hv
    go_enter Tryz.func121, Tryz.ntmps121
    go_wp2_with fail
    refine (ovalid _ _ hs').mono ?_; rintro e w' ⟨rfl, rfl⟩; rw [HV.out]
    go_wp2_with fail
    go_ret2
    exact ⟨rfl, Below.refl _ _⟩
  | true =>
    have hsb := Opt.sum_bd _ hv
    rw [Opt.size_len] at hsb
    have e1 : Opt.digS s = ⟨#[Opt.digit s.data.toList]⟩ := by unfold Opt.digS; simp [hv]
    have e2 : Opt.digE s = 0 := by unfold Opt.digE; simp [hv]
    rw [e1, e2]; clear e1 e2
    have HV := Lib.hid hv; clear hv
    go_enter Tryz.func121, Tryz.ntmps121
    go_wp2_with fail
    refine (ovalid _ _ hs').mono ?_; rintro e w' ⟨rfl, rfl⟩; rw [HV.out]
    go_wp2_with fail
    go_loopw [5, 13] (fun sm i wr => ∃ k : Nat, k ≤ s.size ∧ i = .int .i64 k ∧ sm = .int .i64 (Opt.sum (s.data.toList.take k)) ∧ wr.rowIs w.heap.size 124 3 Opt.wv ∧ Below w.heap.size w wr) (fun _ i _ => s.size - (intOf i).toNat)
    case atStart =>
      refine ⟨0, Nat.zero_le _, rfl, rfl, World.rowIs_alloc _ _ _ _ ?_, (Below.refl _ _).alloc (Nat.le_refl _) _⟩
      intro i hi
      have : i = 0 ∨ i = 1 ∨ i = 2 := by simp at hi; omega
      rcases this with rfl | rfl | rfl <;> rfl
    case round =>
      obtain ⟨k, hk, rfl, rfl, hrow, hb⟩ := hrel
      have hsk := Opt.sum_bd _ (Opt.valid_take _ HV.out k)
      rw [Opt.take_len s k hk] at hsk
      by_cases hlt : k < s.size
      · have hcb := u8_le s[k]
        have hsn := Opt.take_snoc s k hlt
        have hsn2 : Opt.sum (s.data.toList.take (k + 1)) = Opt.sum (s.data.toList.take k) + Opt.wt k * Opt.val (s[k].toNat : Int) := by rw [hsn, Opt.sum_snoc, Opt.take_len s k hk]
        have HS := Lib.hid hsn2; clear hsn2 hsn
        have hvb := Opt.val_bd (s[k].toNat : Int)
        have hwb := Opt.wt_bd k
        have hm := Opt.mul_bd (a := Opt.wt k) (b := Opt.val (s[k].toNat : Int)) ⟨by omega, by omega⟩ hvb
        have hc : wr.cell? ⟨w.heap.size, k % 3, none⟩ = some (.int .i64 (Opt.wt k)) := by
          rw [← Opt.wt_of_mod]; exact hrow.cell (i := k % 3) (Nat.mod_lt _ (by omega))
        have l1 : IntKind.i64.wrap (Opt.wt k * Opt.val (s[k].toNat : Int)) = Opt.wt k * Opt.val (s[k].toNat : Int) := IntWalk.i64_in _ (by omega)
        have l2 : IntKind.i64.wrap (Opt.sum (s.data.toList.take k) + Opt.wt k * Opt.val (s[k].toNat : Int)) = Opt.sum (s.data.toList.take k) + Opt.wt k * Opt.val (s[k].toNat : Int) := IntWalk.i64_in _ (by omega)
        go_wp2_with fail
        go_quiet ((go_at_call 32; exact quiet_l (ovalue _ _ hcb.1 hcb.2)))
        go_wp2_with fail
        go_roundw
        case rel => exact ⟨k + 1, by omega, by go_num, by rw [HS.out], rowIs_drewN hrow _, below_drewN hb _⟩
        case measure => simp [intOf]; omega
      · obtain rfl : k = s.size := by omega
        have he : Utf8.encode (48 + Opt.sum (s.data.toList.take s.size) % 10) = ⟨#[Opt.digit s.data.toList]⟩ := by
          rw [Opt.enc_ascii _ (by omega) (by omega), Opt.take_all]; rfl
        have HE := Lib.hid he; clear he
        go_wp2_with fail
        go_ret2
        exact ⟨Opt.ret_si HE.out rfl, hb⟩

set_option maxHeartbeats 800000 in
theorem rdigit (s : ByteArray) (w : World) (hs : s.size ≤ 140737488351232) :
    Calls Tryz.prog 71 #[.string s] w fun e w' => e = .returned (.tuple #[.string (Opt.digS s), .int .i64 (Opt.digE s)]) ∧ Below w.heap.size w w' := by
  have hs' : s.size ≤ maxLen := by unfold maxLen; omega
  cases hv : Opt.valid s.data.toList with
  | false =>
    have e1 : Opt.digS s = ⟨#[]⟩ := by unfold Opt.digS; simp [hv]
    have e2 : Opt.digE s = 12 := by unfold Opt.digE; simp [hv]
    rw [e1, e2]; clear e1 e2
    have HV := Lib.hid hv; clear hv
    go_enter Tryz.func71, Tryz.ntmps71
    go_wp2_with fail
    refine (rvalid10 _ _ hs').mono ?_; rintro e w' ⟨rfl, rfl⟩; rw [HV.out]
    go_wp2_with fail
    go_ret2
    exact ⟨rfl, Below.refl _ _⟩
  | true =>
    have hsb := Opt.sum_bd _ hv
    rw [Opt.size_len] at hsb
    have e1 : Opt.digS s = ⟨#[Opt.digit s.data.toList]⟩ := by unfold Opt.digS; simp [hv]
    have e2 : Opt.digE s = 0 := by unfold Opt.digE; simp [hv]
    rw [e1, e2]; clear e1 e2
    have HV := Lib.hid hv; clear hv
    go_enter Tryz.func71, Tryz.ntmps71
    go_wp2_with fail
    refine (rvalid10 _ _ hs').mono ?_; rintro e w' ⟨rfl, rfl⟩; rw [HV.out]
    go_wp2_with fail
    go_loopw [4, 5] (fun sm i wr => ∃ k : Nat, k ≤ s.size ∧ i = .int .i64 k ∧ sm = .int .i64 (Opt.sum (s.data.toList.take k)) ∧ Below w.heap.size w wr) (fun _ i _ => s.size - (intOf i).toNat)
    case atStart => exact ⟨0, Nat.zero_le _, rfl, rfl, Below.refl _ _⟩
    case round =>
      obtain ⟨k, hk, rfl, rfl, hb⟩ := hrel
      have hsk := Opt.sum_bd _ (Opt.valid_take _ HV.out k)
      rw [Opt.take_len s k hk] at hsk
      by_cases hlt : k < s.size
      · have hcb := u8_le s[k]
        have hsn := Opt.take_snoc s k hlt
        have hsn2 : Opt.sum (s.data.toList.take (k + 1)) = Opt.sum (s.data.toList.take k) + Opt.val (s[k].toNat : Int) * Opt.wt k := by rw [hsn, Opt.sum_snoc, Opt.take_len s k hk, Int.mul_comm]
        have HS := Lib.hid hsn2; clear hsn2 hsn
        have hvb := Opt.val_bd (s[k].toNat : Int)
        have hwb := Opt.wt_bd k
        have hm := Opt.mul_bd (a := Opt.wt k) (b := Opt.val (s[k].toNat : Int)) ⟨by omega, by omega⟩ hvb
        rw [Int.mul_comm] at hm
        have hix : ∀ W : World, (Instr.index 124 (.agg #[.int .i64 7, .int .i64 3, .int .i64 1]) (.int .i64 ((k : Int) % 3))).run Tryz.prog W = .ok (.int .i64 (Opt.wt k)) W := fun W => by
          rcases Opt.wt_mod k with ⟨e, h⟩ | ⟨e, h⟩ | ⟨e, h⟩
          · rw [e, show (k : Int) % 3 = 0 by omega]; kernel_rfl
          · rw [e, show (k : Int) % 3 = 1 by omega]; kernel_rfl
          · rw [e, show (k : Int) % 3 = 2 by omega]; kernel_rfl
        have l1 : IntKind.i64.wrap (Opt.val (s[k].toNat : Int) * Opt.wt k) = Opt.val (s[k].toNat : Int) * Opt.wt k := IntWalk.i64_in _ (by omega)
        have l2 : IntKind.i64.wrap (Opt.sum (s.data.toList.take k) + Opt.val (s[k].toNat : Int) * Opt.wt k) = Opt.sum (s.data.toList.take k) + Opt.val (s[k].toNat : Int) * Opt.wt k := IntWalk.i64_in _ (by omega)
        go_wp2_with fail
        go_quiet ((go_at_call 34; exact quiet_l (rvalue _ _ hcb.1 hcb.2)))
        go_wp2_with fail
        go_roundw
        case rel => exact ⟨k + 1, by omega, by go_num, by rw [HS.out], below_drewN hb _⟩
        case measure => simp [intOf]; omega
      · obtain rfl : k = s.size := by omega
        have he : b8 (48 + Opt.sum (s.data.toList.take s.size) % 10) = Opt.digit s.data.toList := by rw [Opt.take_all]; rfl
        have hcv := conv_one (P := Tryz.prog) wr 59 9 5 (48 + Opt.sum (s.data.toList.take s.size) % 10) (by omega) 1 Tryz.underlying59 Tryz.underlying5 Tryz.underlying9
        have HE := Lib.hid he; clear he
        go_wp2_with fail
        go_ret2
        exact ⟨Opt.ret_si (by rw [HE.out]) rfl, hb.alloc hb.size _⟩
end Go.Proofs.YtafbhadfeemppaaGreatDoor
