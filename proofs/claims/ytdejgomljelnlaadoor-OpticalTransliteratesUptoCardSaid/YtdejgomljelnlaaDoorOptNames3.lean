/- The walk of chapter 10: Names of the program, with the library's ReplaceAll and Repeat taken by their contracts. -/
import Derived.Test.YtdejgomljelnlaaDoorOptNames2
import Derived.Test.YtdejgomljelnlaaDoorShelf
import Derived.Lib.Replace
import Derived.Lib.Repeat
namespace Go.Proofs.YtdejgomljelnlaaDoor
open Go.RowKit

namespace Opt
open Go.Lib in
/-- ReplaceAll of one byte by another. -/
theorem replaceK_one (a b : UInt8) : ∀ l : List UInt8, Lib.replaceK [a] [b] (l.count a) l = sub a b l
  | [] => by simp [Lib.replaceK, sub]
  | x :: t => by
    have ih := replaceK_one a b t
    have hi : Lib.index (x :: t) [a] = if ([a] : List UInt8).isPrefixOf (x :: t) then 0 else if Lib.index t [a] == -1 then -1 else Lib.index t [a] + 1 := rfl
    by_cases e : x = a
    · subst e
      have h0 : Lib.index (x :: t) [x] = 0 := by rw [hi]; simp
      rw [List.count_cons_self, Lib.replaceK_hit [x] [b] _ (x :: t) 0 h0]
      simp [sub, ih]
    · have hp : ([a] : List UInt8).isPrefixOf (x :: t) = false := by simp [List.isPrefixOf]; exact fun h => e h.symm
      have hc : (x :: t).count a = t.count a := List.count_cons_of_ne e
      have hs : sub a b (x :: t) = x :: sub a b t := by simp [sub, e]
      rw [hc, hs]
      cases hk : t.count a with
      | zero =>
        rw [hk] at ih
        simp only [Lib.replaceK] at ih ⊢
        rw [← ih]
      | succ k =>
        have h1 := Lib.count_one a t
        have hpos : 0 < Lib.count t [a] := by rw [h1, hk]; omega
        obtain ⟨i, hix⟩ := Lib.index_of_count hpos
        have h2 : Lib.index (x :: t) [a] = ((i + 1 : Nat) : Int) := by
          rw [hi, hp, hix]; simp
        rw [hk, Lib.replaceK_hit [a] [b] k t i hix] at ih
        rw [Lib.replaceK_hit [a] [b] k (x :: t) (i + 1) h2]
        rw [← ih]
        simp
theorem replaceAll_one (a b : UInt8) (h : a ≠ b) (l : List UInt8) : Lib.replaceAll l [a] [b] = sub a b l := by
  unfold Lib.replaceAll Lib.replace
  have hne : (([a] : List UInt8) == [b]) = false := by simp [h]
  rw [hne]
  have hn : Lib.replaceNum l [a] (-1) = l.count a := by unfold Lib.replaceNum; rw [if_pos (.inl (by omega)), Lib.count_one]
  simp only [Bool.false_eq_true, if_false]
  rw [hn, replaceK_one]
theorem repeat_one (a : UInt8) : ∀ n, Lib.repeatL [a] n = List.replicate n a
  | 0 => rfl
  | n + 1 => by simp [Lib.repeatL, repeat_one a n, List.replicate_succ]
theorem sub_sep (b : List UInt8) : sub 32 60 ([32, 32] ++ b) = [60, 60] ++ sub 32 60 b := by simp [sub]
end Opt

/-- The library's variable that its search reads holds some number. -/
def Opt.Lax (w : World) : Prop := ∃ m, w.cell? ⟨5, 0, none⟩ = some (.int .i64 m)
theorem Opt.Lax.below {w w' : World} (h : Opt.Lax w) (hb : Below w.heap.size w w') : Opt.Lax w' := by
  obtain ⟨m, hm⟩ := h; exact ⟨m, cell_later hb hm⟩

theorem oreplace (s : ByteArray) (a b : UInt8) (hab : a ≠ b) (w : World) (hw : Opt.Lax w) (hs : s.size ≤ 4294967280) :
    Calls Tryd.prog 30 #[.string s, .string ⟨#[a]⟩, .string ⟨#[b]⟩] w fun e w' => e = .returned (.string ⟨(Opt.sub a b s.data.toList).toArray⟩) ∧ Below w.heap.size w w' := by
  obtain ⟨m, hm⟩ := hw
  have hc : Lib.countB s ⟨#[a]⟩ ≤ s.size := by
    have := Lib.count_one a s.data.toList
    have h2 := List.count_le_length (a := a) (l := s.data.toList)
    have e : Lib.countB s ⟨#[a]⟩ = Lib.count s.data.toList [a] := rfl
    rw [e, this]; simpa using h2
  have h1 : (⟨#[a]⟩ : ByteArray).size = 1 := rfl
  have h2 : (⟨#[b]⟩ : ByteArray).size = 1 := rfl
  refine (Tryd.strings_ReplaceAll s ⟨#[a]⟩ ⟨#[b]⟩ m w (by omega) hm (by rw [h1]; omega) (by rw [h2]; omega)).mono ?_
  rintro e w' ⟨rfl, hb⟩
  refine ⟨?_, hb⟩
  have e1 : (⟨#[a]⟩ : ByteArray).data.toList = [a] := rfl
  have e2 : (⟨#[b]⟩ : ByteArray).data.toList = [b] := rfl
  rw [e1, e2, Opt.replaceAll_one a b hab]

theorem orepeat (n : Int) (w : World) (h0 : 0 ≤ n) (h1 : n ≤ 64) :
    Calls Tryd.prog 31 #[.string ⟨#[60]⟩, .int .i64 n] w fun e w' => e = .returned (.string ⟨(List.replicate n.toNat (60 : UInt8)).toArray⟩) ∧ Below w.heap.size w w' := by
  obtain ⟨k, rfl⟩ := Int.eq_ofNat_of_zero_le h0
  have hz : (⟨#[60]⟩ : ByteArray).size = 1 := rfl
  refine (Tryd.strings_Repeat ⟨#[60]⟩ k w (by omega) (by rw [hz]; omega)).mono ?_
  rintro e w' ⟨rfl, hb⟩
  refine ⟨?_, hb⟩
  have e1 : (⟨#[60]⟩ : ByteArray).data.toList = [60] := rfl
  rw [e1, Opt.repeat_one]; rfl

set_option maxHeartbeats 1000000 in
theorem onames_any (a b : ByteArray) (n : Int) (w : World) (hw : Opt.Lax w) (hab : a.size + b.size ≤ 4294967000) :
    Calls Tryd.prog 16 #[.string a, .string b, .int .i64 n] w fun e w' =>
      e = .returned (.tuple #[.string ⟨(Opt.nmV a.data.toList b.data.toList n).toArray⟩, .int .i64 (Opt.nmE a.data.toList b.data.toList n)]) ∧ Below w.heap.size w w' := by
  have ha : a.size ≤ maxLen := by unfold maxLen; omega
  have hb : b.size ≤ maxLen := by unfold maxLen; omega
  by_cases c1 : ¬ Opt.nmOk a.data.toList b.data.toList
  · have e1 : Opt.nmV a.data.toList b.data.toList n = [] := if_pos (.inl c1)
    have e2 : Opt.nmE a.data.toList b.data.toList n = 14 := if_pos c1
    rw [e1, e2]; clear e1 e2
    cases w1 : Opt.words (b8 32) a.data.toList with
    | false =>
      have W1 := Lib.hid w1; clear w1 c1
      go_enter Tryd.func16, Tryd.ntmps16
      go_wp2_with fail
      refine (oname _ _ ha).mono ?_; rintro e w' ⟨rfl, rfl⟩; rw [W1.out]
      go_wp2_with fail
      go_ret2
      exact ⟨rfl, Below.refl _ _⟩
    | true =>
      cases w2 : Opt.words (b8 32) b.data.toList with
      | false =>
        have W1 := Lib.hid w1; have W2 := Lib.hid w2; clear w1 w2 c1
        go_enter Tryd.func16, Tryd.ntmps16
        go_wp2_with fail
        refine (oname _ _ ha).mono ?_; rintro e w' ⟨rfl, rfl⟩; rw [W1.out]
        go_wp2_with fail
        refine (oname _ _ hb).mono ?_; rintro e w' ⟨rfl, rfl⟩; rw [W2.out]
        go_wp2_with fail
        go_ret2
        exact ⟨rfl, Below.refl _ _⟩
      | true =>
        have hem : a.data.toList = [] := Classical.not_not.1 fun h => c1 ⟨w1, w2, h⟩
        obtain ⟨hem2, hem3⟩ := str_empty (b := true) hem rfl
        clear hem
        have W1 := Lib.hid w1; have W2 := Lib.hid w2; clear w1 w2 c1
        go_enter Tryd.func16, Tryd.ntmps16
        go_wp2_with fail
        refine (oname _ _ ha).mono ?_; rintro e w' ⟨rfl, rfl⟩; rw [W1.out]
        go_wp2_with fail
        refine (oname _ _ hb).mono ?_; rintro e w' ⟨rfl, rfl⟩; rw [W2.out]
        go_wp2_with fail
        go_ret2
        exact ⟨rfl, Below.refl _ _⟩
  replace c1 := Classical.not_not.1 c1
  obtain ⟨w1, w2, hne⟩ := c1
  have hne1 : a.data.toList.isEmpty = false := by simpa using hne
  obtain ⟨hem2, hem3⟩ := str_empty rfl hne1
  by_cases c2 : n < 1 ∨ 64 < n
  · have e1 : Opt.nmV a.data.toList b.data.toList n = [] := if_pos (.inr c2)
    have e2 : Opt.nmE a.data.toList b.data.toList n = 2 := (if_neg (fun h => h ⟨w1, w2, hne⟩)).trans (if_pos c2)
    rw [e1, e2]; clear e1 e2 hne1 hne
    have W1 := Lib.hid w1; have W2 := Lib.hid w2; clear w1 w2
    rcases c2 with c2 | c2
    all_goals
      go_enter Tryd.func16, Tryd.ntmps16
      go_wp2_with fail
      refine (oname _ _ ha).mono ?_; rintro e w' ⟨rfl, rfl⟩; rw [W1.out]
      go_wp2_with fail
      refine (oname _ _ hb).mono ?_; rintro e w' ⟨rfl, rfl⟩; rw [W2.out]
      go_wp2_with fail
      go_ret2
      exact ⟨rfl, Below.refl _ _⟩
  · have e1 : Opt.nmV a.data.toList b.data.toList n = (Opt.nmL a.data.toList b.data.toList ++ List.replicate n.toNat 60).take n.toNat :=
      if_neg (by rintro (h | h); exact h ⟨w1, w2, hne⟩; exact c2 h)
    have e2 : Opt.nmE a.data.toList b.data.toList n = 0 := (if_neg (fun h => h ⟨w1, w2, hne⟩)).trans (if_neg c2)
    rw [e1, e2]; clear e1 e2 hne1 hne
    have c3 : 1 ≤ n := by omega
    have c4 : n ≤ 64 := by omega
    clear c2
    have W1 := Lib.hid w1; have W2 := Lib.hid w2; clear w1 w2
    by_cases hb0 : b.data.toList = []
    · obtain ⟨hb2, hb3⟩ := str_empty (b := true) hb0 rfl
      have hL : Opt.nmL a.data.toList b.data.toList = Opt.sub 32 60 a.data.toList := if_pos hb0
      rw [hL]; clear hL hb0
      have ls : (Opt.sub 32 60 a.data.toList).length ≤ 4294967000 := by rw [Opt.sub_length, Opt.size_len]; omega
      have j1 := str_add (Opt.sub 32 60 a.data.toList) (List.replicate n.toNat 60)
      have hz' : n ≤ ((⟨(Opt.sub 32 60 a.data.toList ++ List.replicate n.toNat 60).toArray⟩ : ByteArray).size : Int) := by rw [str_size]; simp; omega
      rw [← j1] at hz'
      go_enter Tryd.func16, Tryd.ntmps16
      go_wp2_with fail
      refine (oname _ _ ha).mono ?_; rintro e w' ⟨rfl, rfl⟩; rw [W1.out]
      go_wp2_with fail
      refine (oname _ _ hb).mono ?_; rintro e w' ⟨rfl, rfl⟩; rw [W2.out]
      go_wp2_with fail
      refine (oreplace _ 32 60 (by decide) _ hw (by omega)).mono ?_; rintro e w2 ⟨rfl, hb2'⟩
      go_wp2_with fail
      refine (orepeat _ _ (by omega) c4).mono ?_; rintro e w3 ⟨rfl, hb3'⟩
      go_wp2_with fail
      go_ret2
      exact ⟨Opt.ret_si (by apply str_eq; rw [Lib.extract_data]; simp) rfl, hb2'.trans (hb3'.mono hb2'.size)⟩
    · have hb1 : b.data.toList.isEmpty = false := by simpa using hb0
      obtain ⟨hb2, hb3⟩ := str_empty rfl hb1
      have hL : Opt.nmL a.data.toList b.data.toList = Opt.sub 32 60 a.data.toList ++ (([60, 60] : List UInt8) ++ Opt.sub 32 60 b.data.toList) := if_neg hb0
      have hS : Opt.sub 32 60 (a ++ (⟨#[32, 32]⟩ ++ b)).data.toList = Opt.nmL a.data.toList b.data.toList := by
        rw [hL]
        have : (a ++ ((⟨#[32, 32]⟩ : ByteArray) ++ b)).data.toList = a.data.toList ++ (([32, 32] : List UInt8) ++ b.data.toList) := by simp
        rw [this, Opt.sub_append, Opt.sub_sep]
      have ls : (Opt.nmL a.data.toList b.data.toList).length ≤ 4294967200 := by
        rw [hL]; simp only [List.length_append, Opt.sub_length, Opt.size_len, List.length_cons, List.length_nil]; omega
      have hs : (a ++ ((⟨#[32, 32]⟩ : ByteArray) ++ b)).size ≤ 4294967200 := by
        have h1 : (a ++ ((⟨#[32, 32]⟩ : ByteArray) ++ b)).data.toList.length = (Opt.nmL a.data.toList b.data.toList).length := by rw [← hS, Opt.sub_length]
        rw [Opt.size_len] at h1; omega
      have j1 := str_add (Opt.nmL a.data.toList b.data.toList) (List.replicate n.toNat 60)
      have hz' : n ≤ ((⟨(Opt.nmL a.data.toList b.data.toList ++ List.replicate n.toNat 60).toArray⟩ : ByteArray).size : Int) := by rw [str_size]; simp; omega
      rw [← j1] at hz'
      have HS := Lib.hid hS; have HSZ := Lib.hid hs; clear j1 hL hS hb0 hb1 hs
      go_enter Tryd.func16, Tryd.ntmps16
      go_wp2_with fail
      refine (oname _ _ ha).mono ?_; rintro e w' ⟨rfl, rfl⟩; rw [W1.out]
      go_wp2_with fail
      refine (oname _ _ hb).mono ?_; rintro e w' ⟨rfl, rfl⟩; rw [W2.out]
      go_wp2_with fail
      refine (oreplace _ 32 60 (by decide) _ hw (by have := HSZ.out; omega)).mono ?_; rintro e w2 ⟨rfl, hb2'⟩
      rw [HS.out]
      go_wp2_with fail
      refine (orepeat _ _ (by omega) c4).mono ?_; rintro e w3 ⟨rfl, hb3'⟩
      go_wp2_with fail
      go_ret2
      exact ⟨Opt.ret_si (by apply str_eq; rw [Lib.extract_data]; simp) rfl, hb2'.trans (hb3'.mono hb2'.size)⟩
end Go.Proofs.YtdejgomljelnlaaDoor
