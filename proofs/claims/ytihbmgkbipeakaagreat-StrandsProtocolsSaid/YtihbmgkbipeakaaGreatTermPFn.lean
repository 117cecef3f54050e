/- Chapter 40: which words are functions: the walks. -/
import Derived.Test.YtihbmgkbipeakaaGreatTermPKids
namespace Go.Proofs.YtihbmgkbipeakaaGreat
open Go.RowKit

theorem str_lit_ne {s : ByteArray} {l : List UInt8} (h : s ≠ ⟨l.toArray⟩) : (s.toList == l) = false := by
  rw [beq_eq_false_iff_ne]; intro e; apply h
  apply str_eq; rw [← ByteArray.toList_eq, e]

set_option maxHeartbeats 1000000 in
theorem ofn (s : ByteArray) (w : World) : Calls Tryz.prog 183 #[.string s] w fun e w' => e = .returned (.tuple #[.int .i64 (T.fnKind s), .int .i64 (T.fnKids s)]) ∧ w = w' := by
  by_cases h1 : s = ⟨#[104, 97, 115, 104]⟩
  · subst h1
    go_enter Tryz.func183, Tryz.ntmps183
    go_wp2
    go_ret2
    exact ⟨rfl, rfl⟩
  by_cases h2 : s = ⟨#[115, 101, 97, 108]⟩
  · subst h2
    go_enter Tryz.func183, Tryz.ntmps183
    go_wp2
    go_ret2
    exact ⟨rfl, rfl⟩
  by_cases h3 : s = ⟨#[115, 105, 103, 110]⟩
  · subst h3
    go_enter Tryz.func183, Tryz.ntmps183
    go_wp2
    go_ret2
    exact ⟨rfl, rfl⟩
  by_cases h4 : s = ⟨#[112, 111, 119, 101, 114]⟩
  · subst h4
    go_enter Tryz.func183, Tryz.ntmps183
    go_wp2
    go_ret2
    exact ⟨rfl, rfl⟩
  have E := Lib.hid (show T.fnKind s = 0 ∧ T.fnKids s = 0 by unfold T.fnKind T.fnKids; simp [h1, h2, h3, h4])
  have g1 : (s.toList == [104, 97, 115, 104]) = false := str_lit_ne h1
  have g2 : (s.toList == [115, 101, 97, 108]) = false := str_lit_ne h2
  have g3 : (s.toList == [115, 105, 103, 110]) = false := str_lit_ne h3
  have g4 : (s.toList == [112, 111, 119, 101, 114]) = false := str_lit_ne h4
  clear h1 h2 h3 h4
  go_enter Tryz.func183, Tryz.ntmps183
  go_wp2
  go_ret2
  exact ⟨by rw [E.out.1, E.out.2]; rfl, rfl⟩

set_option maxHeartbeats 1000000 in
theorem rfn (s : ByteArray) (w : World) : Calls Tryz.prog 153 #[.string s] w fun e w' => e = .returned (.tuple #[.int .i64 (T.fnKind s), .int .i64 (T.fnKids s)]) ∧ w = w' := by
  by_cases h1 : s = ⟨#[104, 97, 115, 104]⟩
  · subst h1
    go_enter Tryz.func153, Tryz.ntmps153
    go_wp2
    go_ret2
    exact ⟨rfl, rfl⟩
  by_cases h2 : s = ⟨#[115, 101, 97, 108]⟩
  · subst h2
    go_enter Tryz.func153, Tryz.ntmps153
    go_wp2
    go_ret2
    exact ⟨rfl, rfl⟩
  by_cases h3 : s = ⟨#[115, 105, 103, 110]⟩
  · subst h3
    go_enter Tryz.func153, Tryz.ntmps153
    go_wp2
    go_ret2
    exact ⟨rfl, rfl⟩
  by_cases h4 : s = ⟨#[112, 111, 119, 101, 114]⟩
  · subst h4
    go_enter Tryz.func153, Tryz.ntmps153
    go_wp2
    go_ret2
    exact ⟨rfl, rfl⟩
  have E := Lib.hid (show T.fnKind s = 0 ∧ T.fnKids s = 0 by unfold T.fnKind T.fnKids; simp [h1, h2, h3, h4])
  have g1 : (s.toList == [104, 97, 115, 104]) = false := str_lit_ne h1
  have g2 : (s.toList == [115, 101, 97, 108]) = false := str_lit_ne h2
  have g3 : (s.toList == [115, 105, 103, 110]) = false := str_lit_ne h3
  have g4 : (s.toList == [112, 111, 119, 101, 114]) = false := str_lit_ne h4
  clear h1 h2 h3 h4
  go_enter Tryz.func153, Tryz.ntmps153
  go_wp2
  go_ret2
  exact ⟨by rw [E.out.1, E.out.2]; rfl, rfl⟩
end Go.Proofs.YtihbmgkbipeakaaGreat
