/- The walk of chapter 10: Names of the program, with the library's ReplaceAll and Repeat taken by their contracts. -/
import Derived.Test.YtafbhadfeemppaaGreatDoorOptNames2
import Derived.Test.YtafbhadfeemppaaGreatDoorShelf
import Derived.Lib.Replace
import Derived.Lib.Repeat
namespace Go.Proofs.YtafbhadfeemppaaGreatDoor
open Go.RowKit

namespace Opt
open Go.Lib in
/-- ReplaceAll of one byte by another. -/
theorem replaceK_one (a b : UInt8) : ∀ l : List UInt8, Lib.replaceK [a] [b] (l.count a) l = sub a b l
  | [] => by simp [Lib.replaceK, sub]
  | x :: t => by
    have ih := replaceK_one a b t
    have hi : Lib.index (x :: t) [a] = if ([a] : List UInt8).isPrefixOf (x :: t) then 0 else if Lib.index t [a] == -1 then -1 else Lib.index t [a] + 1 := rfl
    by_cases e : x = a
    · subst e
      have h0 : Lib.index (x :: t) [x] = 0 := by rw [hi]; simp
      rw [List.count_cons_self, Lib.replaceK_hit [x] [b] _ (x :: t) 0 h0]
      simp [sub, ih]
    · have hp : ([a] : List UInt8).isPrefixOf (x :: t) = false := by simp [List.isPrefixOf]; exact fun h => e h.symm
      have hc : (x :: t).count a = t.count a := List.count_cons_of_ne e
      have hs : sub a b (x :: t) = x :: sub a b t := by simp [sub, e]
      rw [hc, hs]
      cases hk : t.count a with
      | zero =>
        rw [hk] at ih
        simp only [Lib.replaceK] at ih ⊢
        rw [← ih]
      | succ k =>
        have h1 := Lib.count_one a t
        have hpos : 0 < Lib.count t [a] := by rw [h1, hk]; omega
        obtain ⟨i, hix⟩ := Lib.index_of_count hpos
        have h2 : Lib.index (x :: t) [a] = ((i + 1 : Nat) : Int) := by
          rw [hi, hp, hix]; simp
        rw [hk, Lib.replaceK_hit [a] [b] k t i hix] at ih
        rw [Lib.replaceK_hit [a] [b] k (x :: t) (i + 1) h2]
        rw [← ih]
        simp
theorem replaceAll_one (a b : UInt8) (h : a ≠ b) (l : List UInt8) : Lib.replaceAll l [a] [b] = sub a b l := by
  unfold Lib.replaceAll Lib.replace
  have hne : (([a] : List UInt8) == [b]) = false := by simp [h]
  rw [hne]
  have hn : Lib.replaceNum l [a] (-1) = l.count a := by unfold Lib.replaceNum; rw [if_pos (.inl (by omega)), Lib.count_one]
  simp only [Bool.false_eq_true, if_false]
  rw [hn, replaceK_one]
end Opt

/-- The library's variable that its search reads holds some number. -/
def Opt.Lax (w : World) : Prop := ∃ m, w.cell? ⟨1, 0, none⟩ = some (.int .i64 m)
theorem Opt.Lax.below {w w' : World} (h : Opt.Lax w) (hb : Below w.heap.size w w') : Opt.Lax w' := by
  obtain ⟨m, hm⟩ := h; exact ⟨m, cell_later hb hm⟩

theorem oreplace (s : ByteArray) (a b : UInt8) (hab : a ≠ b) (w : World) (hw : Opt.Lax w) (hs : s.size ≤ 4294967280) :
    Calls Tryz.prog 95 #[.string s, .string ⟨#[a]⟩, .string ⟨#[b]⟩] w fun e w' => e = .returned (.string ⟨(Opt.sub a b s.data.toList).toArray⟩) ∧ Below w.heap.size w w' := by
  obtain ⟨m, hm⟩ := hw
  have hc : Lib.countB s ⟨#[a]⟩ ≤ s.size := by
    have := Lib.count_one a s.data.toList
    have h2 := List.count_le_length (a := a) (l := s.data.toList)
    have e : Lib.countB s ⟨#[a]⟩ = Lib.count s.data.toList [a] := rfl
    rw [e, this]; simpa using h2
  have h1 : (⟨#[a]⟩ : ByteArray).size = 1 := rfl
  have h2 : (⟨#[b]⟩ : ByteArray).size = 1 := rfl
  refine (Tryz.strings_ReplaceAll s ⟨#[a]⟩ ⟨#[b]⟩ m w (by omega) hm (by rw [h1]; omega) (by rw [h2]; omega)).mono ?_
  rintro e w' ⟨rfl, hb⟩
  refine ⟨?_, hb⟩
  have e1 : (⟨#[a]⟩ : ByteArray).data.toList = [a] := rfl
  have e2 : (⟨#[b]⟩ : ByteArray).data.toList = [b] := rfl
  rw [e1, e2, Opt.replaceAll_one a b hab]

end Go.Proofs.YtafbhadfeemppaaGreatDoor
