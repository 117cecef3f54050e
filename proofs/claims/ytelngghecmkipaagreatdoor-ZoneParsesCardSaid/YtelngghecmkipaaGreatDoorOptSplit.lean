/- Chapter 10, plain: the field of names and its parts. -/
import Derived.Test.YtelngghecmkipaaGreatDoorOptNames3
import Derived.Lib.TrimByte
import Derived.Lib.IndexMore
import Derived.Lib.IndexLaws
namespace Go.Proofs.YtelngghecmkipaaGreatDoor.Opt
open Go.RowKit Go.Lib

theorem isL_ne {c : UInt8} (h : isL c = true) : c ≠ 60 := by rintro rfl; exact absurd h (by decide)
theorem getD_eq (l : List UInt8) (k : Nat) (h : k < l.length) : l.getD k 0 = l[k] := by simp [List.getD, List.getElem?_eq_getElem h]
theorem getD_left (a m : List UInt8) (k : Nat) (h : k < a.length) : (a ++ m).getD k 0 = a.getD k 0 := by
  rw [getD_eq _ _ (by simp; omega), getD_eq _ _ h, List.getElem_append_left h]
theorem getD_right (a m : List UInt8) (k : Nat) : (a ++ m).getD (a.length + k) 0 = m.getD k 0 := by
  simp [List.getD, List.getElem?_append_right]
theorem wAt_append {a : List UInt8} (m : List UInt8) {k : Nat} (hk : k < a.length) (h : wAt 60 a k = true) : wAt 60 (a ++ m) k = true := by
  unfold wAt at *
  rw [getD_left a m k hk, getD_left a m (k - 1) (by omega)]
  simp only [Bool.or_eq_true, Bool.and_eq_true, decide_eq_true_eq, List.length_append] at *
  rcases h with h | ⟨⟨⟨h1, h2⟩, h3⟩, h4⟩
  · exact .inl h
  · exact .inr ⟨⟨⟨h1, h2⟩, by omega⟩, h4⟩
theorem words_nil : words 60 [] = true := by decide
theorem words_snoc {a : List UInt8} {c : UInt8} (h : words 60 a = true) (hc : isL c = true) : words 60 (a ++ [c]) = true := by
  refine words_yes fun k hk => ?_
  rcases Nat.lt_or_ge k a.length with g | g
  · exact wAt_append _ g (words_at h k g)
  · obtain rfl : k = a.length := by simp at hk; omega
    unfold wAt
    have := getD_right a [c] 0
    rw [Nat.add_zero] at this
    rw [this]; simp [hc]
theorem words_last {a : List UInt8} (h : words 60 a = true) (hne : a ≠ []) : a.getD (a.length - 1) 0 ≠ 60 := by
  have hl : 0 < a.length := List.length_pos_iff.2 hne
  have := words_at h (a.length - 1) (by omega)
  unfold wAt at this
  simp only [Bool.or_eq_true, Bool.and_eq_true, decide_eq_true_eq] at this
  rcases this with g | ⟨⟨_, g⟩, _⟩
  · exact isL_ne g
  · omega
theorem words_gap {a : List UInt8} {c : UInt8} (h : words 60 a = true) (hne : a ≠ []) (hc : isL c = true) : words 60 (a ++ [60, c]) = true := by
  have hl : 0 < a.length := List.length_pos_iff.2 hne
  refine words_yes fun k hk => ?_
  rcases Nat.lt_or_ge k a.length with g | g
  · exact wAt_append _ g (words_at h k g)
  · have hk' : k = a.length ∨ k = a.length + 1 := by simp at hk; omega
    unfold wAt
    rcases hk' with rfl | rfl
    · have e1 := getD_right a [60, c] 0
      rw [Nat.add_zero] at e1
      rw [e1, getD_left a _ (a.length - 1) (by omega)]
      have hn : (a.getD (a.length - 1) 0 == 60) = false := by rw [beq_eq_false_iff_ne]; exact words_last h hne
      unfold bne
      rw [hn]; simp [hl]
    · rw [getD_right a [60, c] 1]; simp [hc]
theorem words_double {a : List UInt8} (h : words 60 a = true) (j : Nat) (hj : j + 1 < a.length) : ¬ (a.getD j 0 = 60 ∧ a.getD (j + 1) 0 = 60) := by
  rintro ⟨h1, h2⟩
  have := words_at h (j + 1) hj
  unfold wAt at this
  rw [Nat.add_sub_cancel, h1, h2] at this
  simp [isL] at this
theorem occ_two (s : List UInt8) (j : Nat) (h : occAt s [60, 60] j = true) : j + 1 < s.length ∧ s.getD j 0 = 60 ∧ s.getD (j + 1) 0 = 60 := by
  unfold occAt at h
  have h' := List.isPrefixOf_iff_prefix.1 h
  obtain ⟨r, hr⟩ := h'
  have hl : (s.drop j).length = r.length + 2 := by rw [← hr]; simp
  simp at hl
  have e : ∀ i, (s.drop j).getD i 0 = s.getD (j + i) 0 := fun i => by simp [List.getD, List.getElem?_drop]
  refine ⟨by omega, ?_, ?_⟩
  · have := e 0; rw [← hr] at this; simpa using this.symm
  · have := e 1; rw [← hr] at this; simpa using this.symm
theorem cut_one {a : List UInt8} (h : words 60 a = true) : cut a [60, 60] = (a, [], false) := by
  have : index a [60, 60] = -1 := index_none fun j _ => by
    rw [Bool.eq_false_iff]; intro ho
    obtain ⟨h1, h2⟩ := occ_two a j ho
    exact words_double h j h1 h2
  unfold cut; rw [this]; rfl
theorem cut_two {a : List UInt8} (b : List UInt8) (h : words 60 a = true) (hne : a ≠ []) : cut (a ++ (60 :: 60 :: b)) [60, 60] = (a, b, true) := by
  have hl : 0 < a.length := List.length_pos_iff.2 hne
  have : index (a ++ (60 :: 60 :: b)) [60, 60] = (a.length : Int) := by
    refine index_first (by simp) ?_ fun j hj => ?_
    · unfold occAt; simp
    · rw [Bool.eq_false_iff]; intro ho
      obtain ⟨h1, h2, h3⟩ := occ_two _ j ho
      rw [getD_left _ _ _ hj] at h2
      rcases Nat.lt_or_ge (j + 1) a.length with g | g
      · rw [getD_left _ _ _ g] at h3
        exact words_double h j g ⟨h2, h3⟩
      · have : j = a.length - 1 := by omega
        subst this
        exact words_last h hne h2
  unfold cut; rw [this]
  simp
theorem cut_head (r : List UInt8) (h : (cut (60 :: r) [60, 60]).1 ≠ []) : words 60 (cut (60 :: r) [60, 60]).1 = false := by
  unfold cut at *
  have key : ∀ n, (60 :: r).take n ≠ [] → words 60 ((60 :: r).take n) = false := fun n hn => by
    cases n with
    | zero => simp at hn
    | succ n => exact words_no (k := 0) (by simp) (by simp [wAt, isL])
  split at h <;> rename_i hi
  · simp only [if_pos hi]; exact key _ h
  · simp only [if_neg hi]; have := key (r.length + 1) (by simp); simpa using this
theorem words_run {b : List UInt8} (r : List UInt8) : words 60 (b ++ (60 :: 60 :: r)) = false := by
  refine words_no (k := b.length + 1) (by simp) ?_
  unfold wAt
  have h1 := getD_right b (60 :: 60 :: r) 1
  have h0 := getD_right b (60 :: 60 :: r) 0
  rw [Nat.add_zero] at h0
  rw [Nat.add_sub_cancel, h0, h1]
  simp [isL]
theorem words_head (r : List UInt8) : words 60 (60 :: r) = false := words_no (k := 0) (by simp) (by simp [wAt, isL])

/-- The parts of a field without the fillers at its end. -/
def spl (t : List UInt8) : Option (List UInt8 × List UInt8) :=
  if (cut t [60, 60]).1 = [] ∨ ((cut t [60, 60]).2.2 = true ∧ (cut t [60, 60]).2.1 = []) ∨ words 60 (cut t [60, 60]).1 = false ∨ words 60 (cut t [60, 60]).2.1 = false then none
  else some (sub 60 32 (cut t [60, 60]).1, sub 60 32 (cut t [60, 60]).2.1)
theorem spl_head (r : List UInt8) : spl (60 :: r) = none := by
  unfold spl
  by_cases h : (cut (60 :: r) [60, 60]).1 = []
  · rw [if_pos (.inl h)]
  · rw [if_pos (.inr (.inr (.inl (cut_head r h))))]
theorem spl_three {a : List UInt8} (r : List UInt8) (h : words 60 a = true) (hne : a ≠ []) : spl (a ++ (60 :: 60 :: 60 :: r)) = none := by
  unfold spl; rw [cut_two _ h hne, if_pos (.inr (.inr (.inr (words_head r))))]
theorem spl_run {a b : List UInt8} (r : List UInt8) (h : words 60 a = true) (hne : a ≠ []) : spl (a ++ (60 :: 60 :: (b ++ (60 :: 60 :: r)))) = none := by
  unfold spl; rw [cut_two _ h hne, if_pos (.inr (.inr (.inr (words_run r))))]
theorem spl_one {a : List UInt8} (h : words 60 a = true) (hne : a ≠ []) : spl a = some (sub 60 32 a, []) := by
  unfold spl; rw [cut_one h, if_neg (by simp [h, hne, words_nil])]; rfl
theorem spl_nil : spl [] = none := by decide
theorem spl_two {a b : List UInt8} (h : words 60 a = true) (hne : a ≠ []) (h' : words 60 b = true) (hb : b ≠ []) : spl (a ++ (60 :: 60 :: b)) = some (sub 60 32 a, sub 60 32 b) := by
  unfold spl; rw [cut_two _ h hne, if_neg (by simp [h, hne, h', hb])]

theorem trim_snoc (m : List UInt8) : trimRightB (m ++ [60]) 60 = trimRightB m 60 := by simp [trimRightB]
theorem trim_stop (m : List UInt8) (c : UInt8) (h : c ≠ 60) : trimRightB (m ++ [c]) 60 = m ++ [c] := by
  simp [trimRightB, h]
theorem trim_nil : trimRightB [] 60 = [] := rfl
theorem trim_le (l : List UInt8) : (trimRightB l 60).length ≤ l.length := by
  unfold trimRightB; rw [List.length_reverse]
  have := (List.dropWhile_suffix (p := (· == (60 : UInt8))) (l := l.reverse)).length_le
  simpa using this
theorem trim_take (l : List UInt8) : ∃ n, n ≤ l.length ∧ trimRightB l 60 = l.take n ∧ (n = 0 ∨ l.getD (n - 1) 0 ≠ 60) := by
  suffices ∀ n, n ≤ l.length → trimRightB (l.take n) 60 = trimRightB l 60 → ∃ m, m ≤ l.length ∧ trimRightB l 60 = l.take m ∧ (m = 0 ∨ l.getD (m - 1) 0 ≠ 60) by
    exact this l.length (Nat.le_refl _) (by rw [List.take_length])
  intro n
  induction n with
  | zero => intro _ h; exact ⟨0, by omega, by rw [← h]; rfl, .inl rfl⟩
  | succ n ih =>
    intro hn h
    rw [List.take_succ_eq_append_getElem hn] at h
    by_cases e : l[n] = 60
    · rw [e, trim_snoc] at h; exact ih (by omega) h
    · refine ⟨n + 1, hn, ?_, .inr ?_⟩
      · rw [← h, trim_stop _ _ e, List.take_succ_eq_append_getElem hn]
      · rw [Nat.add_sub_cancel, getD_eq _ _ hn]; exact e
/-- Full is a field that does not end with a filler. -/
theorem trim_full (l : List UInt8) (h : l ≠ []) : ((trimRightB l 60).length = l.length) ↔ l.getD (l.length - 1) 0 ≠ 60 := by
  have hl : 0 < l.length := List.length_pos_iff.2 h
  have e : l = l.take (l.length - 1) ++ [l.getD (l.length - 1) 0] := by
    rw [getD_eq _ _ (by omega), ← List.take_succ_eq_append_getElem (by omega), show l.length - 1 + 1 = l.length by omega, List.take_length]
  constructor
  · intro g e60
    rw [e60] at e
    have h1 : trimRightB l 60 = trimRightB (l.take (l.length - 1)) 60 := by
      conv => lhs; rw [e]
      rw [trim_snoc]
    have h2 := trim_le (l.take (l.length - 1))
    rw [← h1, List.length_take] at h2
    omega
  · intro g
    have : trimRightB l 60 = l := by
      conv => lhs; rw [e]
      rw [trim_stop _ _ g, ← e]
    rw [this]
/-- What a field consists of. -/
def fchar (c : UInt8) : Bool := isL c || c == 60
def chars (l : List UInt8) : Bool := l.all fchar
theorem chars_no {l : List UInt8} {k : Nat} (hk : k < l.length) (h : fchar (l.getD k 0) = false) : chars l = false := by
  rw [Bool.eq_false_iff]; intro hh
  have := List.all_eq_true.1 hh _ (List.getElem_mem hk)
  rw [getD_eq _ _ hk, this] at h; cases h
theorem chars_yes {l : List UInt8} (h : ∀ k, k < l.length → fchar (l.getD k 0) = true) : chars l = true :=
  List.all_eq_true.2 fun c hc => by
    obtain ⟨k, hk, rfl⟩ := List.getElem_of_mem hc
    have := h k hk; rwa [getD_eq _ _ hk] at this
/-- What Split returns. -/
def splV (s : ByteArray) : ByteArray × ByteArray × Bool × Int :=
  if s.size < 1 ∨ 64 < s.size then (⟨#[]⟩, ⟨#[]⟩, false, 2) else if chars s.data.toList = false then (⟨#[]⟩, ⟨#[]⟩, false, 12)
  else match spl (trimRightB s.data.toList 60) with
    | none => (⟨#[]⟩, ⟨#[]⟩, false, 1)
    | some (x, y) => (⟨x.toArray⟩, ⟨y.toArray⟩, decide ((trimRightB s.data.toList 60).length = s.size), 0)
def splR (v : ByteArray × ByteArray × Bool × Int) : Ending := .returned (.tuple #[.string v.1, .string v.2.1, .bool v.2.2.1, .int .i64 v.2.2.2])
theorem splV_size {s : ByteArray} (h : s.size < 1 ∨ 64 < s.size) : splV s = (⟨#[]⟩, ⟨#[]⟩, false, 2) := by unfold splV; rw [if_pos h]
theorem splV_char {s : ByteArray} (h : ¬ (s.size < 1 ∨ 64 < s.size)) (h' : chars s.data.toList = false) : splV s = (⟨#[]⟩, ⟨#[]⟩, false, 12) := by unfold splV; rw [if_neg h, if_pos h']
theorem splV_none {s : ByteArray} (h : ¬ (s.size < 1 ∨ 64 < s.size)) (h' : chars s.data.toList = true) (h'' : spl (trimRightB s.data.toList 60) = none) : splV s = (⟨#[]⟩, ⟨#[]⟩, false, 1) := by
  unfold splV; rw [if_neg h, if_neg (by rw [h']; decide), h'']
theorem splV_some {s : ByteArray} {x y : List UInt8} (h : ¬ (s.size < 1 ∨ 64 < s.size)) (h' : chars s.data.toList = true) (h'' : spl (trimRightB s.data.toList 60) = some (x, y)) :
    splV s = (⟨x.toArray⟩, ⟨y.toArray⟩, decide ((trimRightB s.data.toList 60).length = s.size), 0) := by
  unfold splV; rw [if_neg h, if_neg (by rw [h']; decide), h'']
end Go.Proofs.YtelngghecmkipaaGreatDoor.Opt
