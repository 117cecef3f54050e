/- Chapter 40: terms as text, plain, and the walks of head, write and text. -/
import Derived.Test.YtlecmcfmaneejaaTermNrm
import Derived.Test.YtlecmcfmaneejaaShelf
namespace Go.Proofs.Ytlecmcfmaneejaa
open Go.RowKit

namespace T
/-- What stands in front of the kids. -/
def headS (k : Int) : List UInt8 := if k = 4 then [104, 97, 115, 104] else if k = 5 then [115, 101, 97, 108] else if k = 6 then [115, 105, 103, 110] else [112, 111, 119, 101, 114]
mutual
/-- A term as text. -/
def text : T → List UInt8
  | .mk k s ks => if k = 1 then s.data.toList else if k = 2 then 63 :: s.data.toList else if k = 3 then [60] ++ textAll ks ++ [62] else headS k ++ [40] ++ textAll ks ++ [41]
def textAll : List T → List UInt8
  | [] => []
  | t :: r => text t ++ textTail r
/-- The further kids, each behind a comma. -/
def textTail : List T → List UInt8
  | [] => []
  | t :: r => [44, 32] ++ text t ++ textTail r
end
theorem textTail_join : ∀ l : List T, textTail l = Lib.joinTail [44, 32] (l.map text)
  | [] => rfl
  | t :: r => by simp [textTail, Lib.joinTail, textTail_join r]
theorem textAll_join : ∀ l : List T, textAll l = Lib.join (l.map text) [44, 32]
  | [] => rfl
  | t :: r => by rw [List.map_cons, Lib.join_cons, ← textTail_join]; rfl
theorem headS_len (k : Int) : (headS k).length ≤ 5 := by
  unfold headS; repeat' split
  all_goals simp
mutual
theorem text_len : ∀ t : T, t.text.length + 2 ≤ 3 * t.bulk
  | .mk k s ks => by
    have h := textAll_len ks
    have h' := headS_len k
    simp only [text, bulk]
    repeat' split
    all_goals simp <;> omega
theorem textAll_len : ∀ l : List T, (textAll l).length ≤ 3 * bulkAll l
  | [] => by simp [textAll]
  | t :: r => by
    have h := text_len t
    have h' := textTail_len r
    simp only [textAll, bulkAll, List.length_append]; omega
theorem textTail_len : ∀ l : List T, (textTail l).length ≤ 3 * bulkAll l
  | [] => by simp [textTail]
  | t :: r => by
    have h := text_len t
    have h' := textTail_len r
    simp only [textTail, bulkAll, List.length_append, List.length_cons, List.length_nil]; omega
end
theorem textTail_take (l : List T) : ∀ (j : Nat) (h : j < l.length), textTail (l.take (j + 1)) = textTail (l.take j) ++ [44, 32] ++ text l[j] := by
  induction l with
  | nil => intro j h; simp at h
  | cons t r ih =>
    intro j h
    cases j with
    | zero => simp [textTail]
    | succ j =>
      have := ih j (by simpa using h)
      simp only [List.take_succ_cons, List.getElem_cons_succ, textTail, this]; simp
theorem textAll_take (l : List T) (j : Nat) (h : j < l.length) : textAll (l.take (j + 1)) = if j = 0 then text l[j] else textAll (l.take j) ++ [44, 32] ++ text l[j] := by
  cases l with
  | nil => simp at h
  | cons t r =>
    cases j with
    | zero => simp [textAll, textTail]
    | succ j =>
      have := textTail_take r j (by simpa using h)
      rw [if_neg (by omega)]
      simp only [List.take_succ_cons, List.getElem_cons_succ, textAll, this]; simp
end T
theorem ohead (k : Int) (w : World) : Calls Try.prog 55 #[.int .i64 k] w fun e w' => e = .returned (.string ⟨(T.headS k).toArray⟩) ∧ w = w' := by
  have hc : (k = 4 ∧ T.headS k = [104, 97, 115, 104]) ∨ (k = 5 ∧ T.headS k = [115, 101, 97, 108]) ∨ (k = 6 ∧ T.headS k = [115, 105, 103, 110]) ∨ (((k == 4) = false ∧ (k == 5) = false ∧ (k == 6) = false) ∧ T.headS k = [112, 111, 119, 101, 114]) := by
    unfold T.headS
    by_cases h4 : k = 4
    · left; exact ⟨h4, by rw [if_pos h4]⟩
    by_cases h5 : k = 5
    · right; left; exact ⟨h5, by rw [if_neg h4, if_pos h5]⟩
    by_cases h6 : k = 6
    · right; right; left; exact ⟨h6, by rw [if_neg h4, if_neg h5, if_pos h6]⟩
    · right; right; right; refine ⟨⟨?_, ?_, ?_⟩, by rw [if_neg h4, if_neg h5, if_neg h6]⟩ <;> (rw [beq_eq_false_iff_ne]; assumption)
  rcases hc with ⟨rfl, e⟩ | ⟨rfl, e⟩ | ⟨rfl, e⟩ | ⟨⟨g4, g5, g6⟩, e⟩
  all_goals
    have E := Lib.hid e; clear e
    go_enter Try.func55, Try.ntmps55
    go_wp2
    go_ret
    exact ⟨ret_str (by rw [E.out]), rfl⟩
end Go.Proofs.Ytlecmcfmaneejaa
