/- Chapter 40: names. -/
import Derived.Test.YtihbmgkbipeakaaGreatTermSize
namespace Go.Proofs.YtihbmgkbipeakaaGreat
open Go.RowKit

theorem u8_le (b : UInt8) : 0 ≤ (b.toNat : Int) ∧ (b.toNat : Int) ≤ 255 := by have := b.toNat_lt; omega
namespace T
def low (c : UInt8) : Bool := decide (97 ≤ (c.toNat : Int)) && decide ((c.toNat : Int) ≤ 122)
def dig (c : UInt8) : Bool := decide (48 ≤ (c.toNat : Int)) && decide ((c.toNat : Int) ≤ 57)
/-- May the k-th byte of a name stand there. -/
def nmAt (l : List UInt8) (k : Nat) : Bool := low (l.getD k 0) || (decide (0 < k) && dig (l.getD k 0))
def nmAll (l : List UInt8) : Bool := (List.range l.length).all (nmAt l)
def isName (s : ByteArray) : Bool := nmAll s.data.toList && (decide (1 ≤ s.size) && decide (s.size ≤ 16))
theorem nmAll_no {l : List UInt8} {k : Nat} (hk : k < l.length) (h : nmAt l k = false) : nmAll l = false := by
  rw [Bool.eq_false_iff]; intro hh
  have := List.all_eq_true.1 hh k (List.mem_range.2 hk)
  rw [h] at this; cases this
theorem nmAll_yes {l : List UInt8} (h : ∀ k, k < l.length → nmAt l k = true) : nmAll l = true :=
  List.all_eq_true.2 fun k hk => h k (List.mem_range.1 hk)
theorem getD_at (s : ByteArray) (k : Nat) (hk : k < s.size) : s.data.toList.getD k 0 = s[k] := by
  have h : k < s.data.toList.length := by simpa using hk
  simp only [List.getD, List.getElem?_eq_getElem h, Option.getD_some]; rfl
theorem size_len (s : ByteArray) : s.data.toList.length = s.size := by simp
end T

theorem tletter (n : Int) (w : World) (h0 : 0 ≤ n) (h1 : n ≤ 255) (b : Bool) (hb : (decide (97 ≤ n) && decide (n ≤ 122)) = b) :
    Calls Tryz.prog 104 #[.int .u8 n] w fun e w' => e = .returned (.bool b) ∧ w = w' := by
  have hc : (97 ≤ n ∧ n ≤ 122 ∧ b = true) ∨ (97 ≤ n ∧ 122 < n ∧ b = false) ∨ (n < 97 ∧ b = false) := by
    subst hb; simp; omega
  clear hb
  rcases hc with ⟨c1, c2, rfl⟩ | ⟨c1, c2, rfl⟩ | ⟨c1, rfl⟩
  all_goals
    go_enter Tryz.func104, Tryz.ntmps104
    go_wp2
    go_ret
    exact ⟨ret_bool (by first | rfl | (simp; omega)), rfl⟩
theorem tdigit (n : Int) (w : World) (h0 : 0 ≤ n) (h1 : n ≤ 255) (b : Bool) (hb : (decide (48 ≤ n) && decide (n ≤ 57)) = b) :
    Calls Tryz.prog 105 #[.int .u8 n] w fun e w' => e = .returned (.bool b) ∧ w = w' := by
  have hc : (48 ≤ n ∧ n ≤ 57 ∧ b = true) ∨ (48 ≤ n ∧ 57 < n ∧ b = false) ∨ (n < 48 ∧ b = false) := by
    subst hb; simp; omega
  clear hb
  rcases hc with ⟨c1, c2, rfl⟩ | ⟨c1, c2, rfl⟩ | ⟨c1, rfl⟩
  all_goals
    go_enter Tryz.func105, Tryz.ntmps105
    go_wp2
    go_ret
    exact ⟨ret_bool (by first | rfl | (simp; omega)), rfl⟩
theorem rletter (n : Int) (w : World) (h0 : 0 ≤ n) (h1 : n ≤ 255) (b : Bool) (hb : (decide (97 ≤ n) && decide (n ≤ 122)) = b) :
    Calls Tryz.prog 112 #[.int .u8 n] w fun e w' => e = .returned (.bool b) ∧ w = w' := by
  have hc : (97 ≤ n ∧ n ≤ 122 ∧ b = true) ∨ (97 ≤ n ∧ 122 < n ∧ b = false) ∨ (n < 97 ∧ b = false) := by
    subst hb; simp; omega
  clear hb
  rcases hc with ⟨c1, c2, rfl⟩ | ⟨c1, c2, rfl⟩ | ⟨c1, rfl⟩
  all_goals
    go_enter Tryz.func112, Tryz.ntmps112
    go_wp2
    go_ret
    exact ⟨ret_bool (by first | rfl | (simp; omega)), rfl⟩

theorem T.name_end (s : ByteArray) (h : T.nmAll s.data.toList = true) : (1 ≤ (s.size : Int) ∧ (s.size : Int) ≤ 16 ∧ T.isName s = true) ∨ (1 ≤ (s.size : Int) ∧ 16 < (s.size : Int) ∧ T.isName s = false) ∨ ((s.size : Int) < 1 ∧ T.isName s = false) := by
  unfold T.isName; rw [h]; simp; omega
theorem T.name_no (s : ByteArray) (h : T.nmAll s.data.toList = false) : T.isName s = false := by unfold T.isName; rw [h]; rfl
theorem T.name_kinds (s : ByteArray) (k : Nat) (hk : k < s.size) :
    (T.low s[k] = true ∧ T.nmAt s.data.toList k = true) ∨ (T.low s[k] = false ∧ k = 0 ∧ T.nmAt s.data.toList k = false) ∨
    (T.low s[k] = false ∧ ((k : Int) == 0) = false ∧ T.dig s[k] = true ∧ T.nmAt s.data.toList k = true) ∨ (T.low s[k] = false ∧ ((k : Int) == 0) = false ∧ T.dig s[k] = false ∧ T.nmAt s.data.toList k = false) := by
  have hg := T.getD_at s k hk
  unfold T.nmAt; rw [hg]
  rcases Bool.eq_false_or_eq_true (T.low s[k]) with h1 | h1
  · left; rw [h1]; simp
  · rcases Nat.eq_zero_or_pos k with h0 | h0
    · subst h0; right; left; rw [h1]; simp
    · have e : ((k : Int) == 0) = false := by rw [beq_eq_false_iff_ne]; omega
      rcases Bool.eq_false_or_eq_true (T.dig s[k]) with h2 | h2
      · right; right; left; rw [h1, h2]; simp [h0]; omega
      · right; right; right; rw [h1, h2]; simp; omega

set_option maxHeartbeats 1000000 in
theorem oname (s : ByteArray) (w : World) (hs : s.size ≤ maxLen) :
    Calls Tryz.prog 58 #[.string s] w fun e w' => e = .returned (.bool (T.isName s)) ∧ w = w' := by
  unfold maxLen at hs
  go_enter Tryz.func58, Tryz.ntmps58
  go_wp2_with fail
  go_loop [6] (fun i => ∃ k : Nat, k ≤ s.size ∧ i = .int .i64 k ∧ ∀ j, j < k → T.nmAt s.data.toList j = true) (fun i => s.size - (intOf i).toNat)
  case atStart => exact ⟨0, Nat.zero_le _, rfl, fun j hj => absurd hj (by omega)⟩
  case round =>
    obtain ⟨k, hk, rfl, hv⟩ := hrel
    have HV := Lib.hid hv; clear hv
    by_cases hlt : k < s.size
    · have hb := u8_le s[k]
      have hlen : k < s.data.toList.length := by simpa using hlt
      have next : T.nmAt s.data.toList k = true → ∀ j, j < k + 1 → T.nmAt s.data.toList j = true := fun h j hj => by
        rcases Nat.lt_or_ge j k with g | g
        · exact HV.out j g
        · obtain rfl : j = k := by omega
          exact h
      have NX := Lib.hid next; clear next
      rcases T.name_kinds s k hlt with ⟨g1, g2⟩ | ⟨g1, rfl, g2⟩ | ⟨g1, e0, g3, g2⟩ | ⟨g1, e0, g3, g2⟩
      · have G1 := Lib.hid g1; have G2 := Lib.hid (NX.out g2); clear g1 g2
        go_wp2_with (go_at_call 104; refine (tletter _ _ hb.1 hb.2 true G1.out).mono ?_; rintro e w' ⟨rfl, rfl⟩)
        go_round
        case rel => exact ⟨k + 1, by omega, by go_num, G2.out⟩
        case measure => simp [intOf]; omega
      · have G1 := Lib.hid g1; have G2 := Lib.hid (T.name_no s (T.nmAll_no hlen g2)); clear g1 g2
        go_wp2_with (go_at_call 104; refine (tletter _ _ hb.1 hb.2 false G1.out).mono ?_; rintro e w' ⟨rfl, rfl⟩)
        go_ret
        exact ⟨ret_bool G2.out.symm, rfl⟩
      · have G1 := Lib.hid g1; have G3 := Lib.hid g3; have G2 := Lib.hid (NX.out g2); clear g1 g2 g3
        go_wp2_with (first | (go_at_call 104; refine (tletter _ _ hb.1 hb.2 false G1.out).mono ?_; rintro e w' ⟨rfl, rfl⟩) | (go_at_call 105; refine (tdigit _ _ hb.1 hb.2 true G3.out).mono ?_; rintro e w' ⟨rfl, rfl⟩))
        go_round
        case rel => exact ⟨k + 1, by omega, by go_num, G2.out⟩
        case measure => simp [intOf]; omega
      · have G1 := Lib.hid g1; have G3 := Lib.hid g3; have G2 := Lib.hid (T.name_no s (T.nmAll_no hlen g2)); clear g1 g2 g3
        go_wp2_with (first | (go_at_call 104; refine (tletter _ _ hb.1 hb.2 false G1.out).mono ?_; rintro e w' ⟨rfl, rfl⟩) | (go_at_call 105; refine (tdigit _ _ hb.1 hb.2 false G3.out).mono ?_; rintro e w' ⟨rfl, rfl⟩))
        go_ret
        exact ⟨ret_bool G2.out.symm, rfl⟩
    · obtain rfl : k = s.size := by omega
      have e : T.nmAll s.data.toList = true := T.nmAll_yes fun k hk => HV.out k (by simpa using hk)
      rcases T.name_end s e with ⟨a, b, c⟩ | ⟨a, b, c⟩ | ⟨a, c⟩
      all_goals
        have C := Lib.hid c; clear c e
        go_wp2_with fail
        go_ret
        exact ⟨ret_bool (by first | (rw [C.out]; done) | (rw [C.out]; simp; omega)), rfl⟩
set_option maxHeartbeats 1000000 in
theorem rname (s : ByteArray) (w : World) (hs : s.size ≤ maxLen) :
    Calls Tryz.prog 64 #[.string s] w fun e w' => e = .returned (.bool (T.isName s)) ∧ w = w' := by
  unfold maxLen at hs
  go_enter Tryz.func64, Tryz.ntmps64
  go_wp2_with fail
  go_loop [3] (fun i => ∃ k : Nat, k ≤ s.size ∧ i = .int .i64 k ∧ ∀ j, j < k → T.nmAt s.data.toList j = true) (fun i => s.size - (intOf i).toNat)
  case atStart => exact ⟨0, Nat.zero_le _, rfl, fun j hj => absurd hj (by omega)⟩
  case round =>
    obtain ⟨k, hk, rfl, hv⟩ := hrel
    have HV := Lib.hid hv; clear hv
    by_cases hlt : k < s.size
    · have hb := u8_le s[k]
      have hlen : k < s.data.toList.length := by simpa using hlt
      have next : T.nmAt s.data.toList k = true → ∀ j, j < k + 1 → T.nmAt s.data.toList j = true := fun h j hj => by
        rcases Nat.lt_or_ge j k with g | g
        · exact HV.out j g
        · obtain rfl : j = k := by omega
          exact h
      have NX := Lib.hid next; clear next
      have hdg : T.dig s[k] = (decide (48 ≤ (s[k].toNat : Int)) && decide ((s[k].toNat : Int) ≤ 57)) := rfl
      rcases T.name_kinds s k hlt with ⟨g1, g2⟩ | ⟨g1, rfl, g2⟩ | ⟨g1, e0, g3, g2⟩ | ⟨g1, e0, g3, g2⟩
      · have G1 := Lib.hid g1; have G2 := Lib.hid (NX.out g2); clear g1 g2
        go_wp2_with (go_at_call 112; refine (rletter _ _ hb.1 hb.2 true G1.out).mono ?_; rintro e w' ⟨rfl, rfl⟩)
        go_round
        case rel => exact ⟨k + 1, by omega, by go_num, G2.out⟩
        case measure => simp [intOf]; omega
      · have G1 := Lib.hid g1; have G2 := Lib.hid (T.name_no s (T.nmAll_no hlen g2)); clear g1 g2
        go_wp2_with (go_at_call 112; refine (rletter _ _ hb.1 hb.2 false G1.out).mono ?_; rintro e w' ⟨rfl, rfl⟩)
        go_ret
        exact ⟨ret_bool G2.out.symm, rfl⟩
      · have h48 : 48 ≤ (s[k].toNat : Int) ∧ (s[k].toNat : Int) ≤ 57 := by rw [hdg] at g3; simpa using g3
        have h48a := h48.1; have h48b := h48.2
        have G1 := Lib.hid g1; have G2 := Lib.hid (NX.out g2); clear g1 g2 g3 hdg h48
        go_wp2_with (go_at_call 112; refine (rletter _ _ hb.1 hb.2 false G1.out).mono ?_; rintro e w' ⟨rfl, rfl⟩)
        go_round
        case rel => exact ⟨k + 1, by omega, by go_num, G2.out⟩
        case measure => simp [intOf]; omega
      · have h48 : (s[k].toNat : Int) < 48 ∨ (48 ≤ (s[k].toNat : Int) ∧ 57 < (s[k].toNat : Int)) := by rw [hdg] at g3; simp at g3; omega
        have G1 := Lib.hid g1; have G2 := Lib.hid (T.name_no s (T.nmAll_no hlen g2)); clear g1 g2 g3 hdg
        rcases h48 with h48 | ⟨h48, h48b⟩
        all_goals
         go_wp2_with (go_at_call 112; refine (rletter _ _ hb.1 hb.2 false G1.out).mono ?_; rintro e w' ⟨rfl, rfl⟩)
         go_ret
         exact ⟨ret_bool G2.out.symm, rfl⟩
    · obtain rfl : k = s.size := by omega
      have e : T.nmAll s.data.toList = true := T.nmAll_yes fun k hk => HV.out k (by simpa using hk)
      rcases T.name_end s e with ⟨a, b, c⟩ | ⟨a, b, c⟩ | ⟨a, c⟩
      all_goals
        have C := Lib.hid c; clear c e
        go_wp2_with fail
        go_ret
        exact ⟨ret_bool (by first | (rw [C.out]; done) | (rw [C.out]; simp; omega)), rfl⟩
end Go.Proofs.YtihbmgkbipeakaaGreat
