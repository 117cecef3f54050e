/- Chapter 40: the library's comparisons of numbers and strings. -/
import Derived.Test.YtihbmgkbipeakaaGreatTermCmp
namespace Go.Proofs.YtihbmgkbipeakaaGreat
open Go.RowKit

namespace T
def ci (a b : Int) : Int := if a < b then -1 else if b < a then 1 else 0
def cs (a b : ByteArray) : Int := if less a b = true then -1 else if (a.toList == b.toList) = false then 1 else 0
end T
theorem nan_int (a : Int) (w : World) : Calls Tryz.prog 166 #[.int .i64 a] w fun e w' => e = .returned (.bool false) ∧ w = w' := by
  go_enter Tryz.func166, Tryz.ntmps166
  go_wp2
  go_ret
  exact ⟨ret_bool (by simp), rfl⟩
theorem nan_str (a : ByteArray) (w : World) : Calls Tryz.prog 167 #[.string a] w fun e w' => e = .returned (.bool false) ∧ w = w' := by
  go_enter Tryz.func167, Tryz.ntmps167
  go_wp2
  go_ret
  exact ⟨ret_bool (by simp), rfl⟩
theorem cmp_int (a b : Int) (w : World) : Calls Tryz.prog 135 #[.int .i64 a, .int .i64 b] w fun e w' => e = .returned (.int .i64 (T.ci a b)) ∧ w = w' := by
  have hc : (a < b ∧ T.ci a b = -1) ∨ (b ≤ a ∧ b < a ∧ T.ci a b = 1) ∨ (b ≤ a ∧ a ≤ b ∧ T.ci a b = 0) := by unfold T.ci; split <;> (try split) <;> omega
  rcases hc with ⟨c1, c2⟩ | ⟨c1, c1', c2⟩ | ⟨c1, c1', c2⟩
  all_goals
    have C2 := Lib.hid c2; clear c2
    go_enter Tryz.func135, Tryz.ntmps135
    go_wp2_with (go_at_call 166; refine (nan_int _ _).mono ?_; rintro e w' ⟨rfl, rfl⟩)
    go_ret
    exact ⟨ret_i64 C2.out.symm, rfl⟩
theorem cmp_str (a b : ByteArray) (w : World) : Calls Tryz.prog 136 #[.string a, .string b] w fun e w' => e = .returned (.int .i64 (T.cs a b)) ∧ w = w' := by
  have hc : (Op.bytesLess a.toList b.toList = true ∧ T.cs a b = -1) ∨ (Op.bytesLess a.toList b.toList = false ∧ (a.toList == b.toList) = false ∧ T.cs a b = 1) ∨ (Op.bytesLess a.toList b.toList = false ∧ (a.toList == b.toList) = true ∧ T.cs a b = 0) := by
    unfold T.cs T.less
    rcases Bool.eq_false_or_eq_true (Op.bytesLess a.toList b.toList) with h | h
    · left; exact ⟨h, by rw [if_pos h]⟩
    · rcases Bool.eq_false_or_eq_true (a.toList == b.toList) with h' | h'
      · right; right; exact ⟨h, h', by rw [h, h']; rfl⟩
      · right; left; exact ⟨h, h', by rw [h, h']; rfl⟩
  rcases hc with ⟨c1, c2⟩ | ⟨c1, c1', c2⟩ | ⟨c1, c1', c2⟩
  all_goals
    have C2 := Lib.hid c2; clear c2
    go_enter Tryz.func136, Tryz.ntmps136
    go_wp2_with (go_at_call 167; refine (nan_str _ _).mono ?_; rintro e w' ⟨rfl, rfl⟩)
    go_ret
    exact ⟨ret_i64 C2.out.symm, rfl⟩
def T.or3 (x y z : Int) : Int := if x ≠ 0 then x else if y ≠ 0 then y else z
set_option maxHeartbeats 800000 in
theorem cmp_or (b cap : Nat) (x y z : Int) (w : World) (h0 : w.cell? ⟨b, 0, none⟩ = some (.int .i64 x)) (h1 : w.cell? ⟨b, 1, none⟩ = some (.int .i64 y)) (h2 : w.cell? ⟨b, 2, none⟩ = some (.int .i64 z)) :
    Calls Tryz.prog 134 #[.slice (some ⟨b, 0, none⟩) 3 cap] w fun e w' => e = .returned (.int .i64 (T.or3 x y z)) ∧ w = w' := by
  obtain ⟨R, hR⟩ : ∃ R, T.or3 x y z = R := ⟨_, rfl⟩
  rw [hR]
  have HR := Lib.hid hR; clear hR
  go_enter Tryz.func134, Tryz.ntmps134
  go_wp2_with fail
  go_loop [8] (fun i => i = .int .i64 0 ∨ (i = .int .i64 1 ∧ x = 0) ∨ (i = .int .i64 2 ∧ x = 0 ∧ y = 0) ∨ (i = .int .i64 3 ∧ x = 0 ∧ y = 0 ∧ z = 0)) (fun i => 3 - (intOf i).toNat)
  case atStart => exact .inl rfl
  case round =>
    rcases hrel with rfl | ⟨rfl, rfl⟩ | ⟨rfl, rfl, rfl⟩ | ⟨rfl, rfl, rfl, rfl⟩
    · by_cases hx : x = 0
      · subst hx
        go_wp2_with fail
        go_round
        case rel => simp
        case measure => simp [intOf]
      · have hx' : (x != 0) = true := by rw [bne_iff_ne]; exact hx
        have e : R = x := by have := HR.out; unfold T.or3 at this; rw [if_pos hx] at this; exact this.symm
        have E := Lib.hid e; clear e hx
        go_wp2_with fail
        go_ret
        exact ⟨ret_i64 E.out.symm, rfl⟩
    · by_cases hx : y = 0
      · subst hx
        go_wp2_with fail
        go_round
        case rel => simp
        case measure => simp [intOf]
      · have hx' : (y != 0) = true := by rw [bne_iff_ne]; exact hx
        have e : R = y := by have := HR.out; unfold T.or3 at this; rw [if_neg (by simp), if_pos hx] at this; exact this.symm
        have E := Lib.hid e; clear e hx
        go_wp2_with fail
        go_ret
        exact ⟨ret_i64 E.out.symm, rfl⟩
    · have e : R = z := by have := HR.out; unfold T.or3 at this; rw [if_neg (by simp), if_neg (by simp)] at this; exact this.symm
      have E := Lib.hid e; clear e
      by_cases hx : z = 0
      · subst hx
        go_wp2_with fail
        go_round
        case rel => simp
        case measure => simp [intOf]
      · have hx' : (z != 0) = true := by rw [bne_iff_ne]; exact hx
        clear hx
        go_wp2_with fail
        go_ret
        exact ⟨ret_i64 E.out.symm, rfl⟩
    · have e : R = 0 := by have := HR.out; unfold T.or3 at this; simpa using this.symm
      have E := Lib.hid e; clear e
      go_wp2_with fail
      go_ret
      exact ⟨ret_i64 E.out.symm, rfl⟩
end Go.Proofs.YtihbmgkbipeakaaGreat
