/- Chapter 10, plain: names are read as they were written. -/
import Derived.Test.YtdejgomljelnlaaDoorOptSplitRef
namespace Go.Proofs.YtdejgomljelnlaaDoor.Opt
open Go.RowKit Go.Lib

section
variable {b : UInt8} (hb : isL b = false)
include hb
theorem isL_neb {c : UInt8} (h : isL c = true) : c ≠ b := by rintro rfl; rw [hb] at h; cases h
omit hb in
theorem wAt_appendb {a : List UInt8} (m : List UInt8) {k : Nat} (hk : k < a.length) (h : wAt b a k = true) : wAt b (a ++ m) k = true := by
  unfold wAt at *
  rw [getD_left a m k hk, getD_left a m (k - 1) (by omega)]
  simp only [Bool.or_eq_true, Bool.and_eq_true, decide_eq_true_eq, List.length_append] at *
  rcases h with h | ⟨⟨⟨h1, h2⟩, h3⟩, h4⟩
  · exact .inl h
  · exact .inr ⟨⟨⟨h1, h2⟩, by omega⟩, h4⟩
omit hb in
theorem wordsb_snoc {a : List UInt8} {c : UInt8} (h : words b a = true) (hc : isL c = true) : words b (a ++ [c]) = true := by
  refine words_yes fun k hk => ?_
  rcases Nat.lt_or_ge k a.length with g | g
  · exact wAt_appendb _ g (words_at h k g)
  · obtain rfl : k = a.length := by simp at hk; omega
    unfold wAt
    have := getD_right a [c] 0
    rw [Nat.add_zero] at this
    rw [this]; simp [hc]
theorem wordsb_last {a : List UInt8} (h : words b a = true) (hne : a ≠ []) : a.getD (a.length - 1) 0 ≠ b := by
  have hl : 0 < a.length := List.length_pos_iff.2 hne
  have := words_at h (a.length - 1) (by omega)
  unfold wAt at this
  simp only [Bool.or_eq_true, Bool.and_eq_true, decide_eq_true_eq] at this
  rcases this with g | ⟨⟨_, g⟩, _⟩
  · exact isL_neb hb g
  · omega
theorem wordsb_gap {a : List UInt8} {c : UInt8} (h : words b a = true) (hne : a ≠ []) (hc : isL c = true) : words b (a ++ [b, c]) = true := by
  have hl : 0 < a.length := List.length_pos_iff.2 hne
  refine words_yes fun k hk => ?_
  rcases Nat.lt_or_ge k a.length with g | g
  · exact wAt_appendb _ g (words_at h k g)
  · have hk' : k = a.length ∨ k = a.length + 1 := by simp at hk; omega
    unfold wAt
    rcases hk' with rfl | rfl
    · have e1 := getD_right a [b, c] 0
      rw [Nat.add_zero] at e1
      rw [e1, getD_left a _ (a.length - 1) (by omega)]
      have hn : (a.getD (a.length - 1) 0 == b) = false := by rw [beq_eq_false_iff_ne]; exact wordsb_last hb h hne
      unfold bne
      rw [hn]; simp [hl]
    · rw [getD_right a [b, c] 1]; simp [hc]
omit hb in
theorem wordsb_letters {a m : List UInt8} (h : words b a = true) (hm : m.all isL = true) : words b (a ++ m) = true := by
  induction m generalizing a with
  | nil => simpa using h
  | cons c r ih =>
    simp only [List.all_cons, Bool.and_eq_true] at hm
    have := ih (wordsb_snoc h hm.1) hm.2
    simpa using this
/-- A further word. -/
theorem wordsb_word {a m : List UInt8} (h : words b a = true) (hne : a ≠ []) (hm : m.all isL = true) (hm' : m ≠ []) : words b (a ++ [b] ++ m) = true := by
  cases m with
  | nil => exact absurd rfl hm'
  | cons c r =>
    simp only [List.all_cons, Bool.and_eq_true] at hm
    have := wordsb_letters (wordsb_gap hb h hne hm.1) hm.2
    simpa using this
omit hb in
theorem wordsb_cons {a : List UInt8} {c : UInt8} (h : words b a = true) (hc : isL c = true) : words b (c :: a) = true := by
  refine words_yes fun k hk => ?_
  cases k with
  | zero => simp [wAt, hc]
  | succ k =>
    have hk' : k < a.length := by simpa using hk
    have := words_at h k hk'
    unfold wAt at *
    have e1 : (c :: a).getD (k + 1) 0 = a.getD k 0 := by simp [List.getD]
    rw [e1]
    simp only [Bool.or_eq_true, Bool.and_eq_true, decide_eq_true_eq, List.length_cons, Nat.add_sub_cancel] at *
    rcases this with h | ⟨⟨⟨h1, h2⟩, h3⟩, h4⟩
    · exact .inl h
    · refine .inr ⟨⟨⟨h1, by omega⟩, by omega⟩, ?_⟩
      obtain ⟨j, rfl⟩ : ∃ j, k = j + 1 := ⟨k - 1, by omega⟩
      have e2 : (c :: a).getD (j + 1) 0 = a.getD j 0 := by simp [List.getD]
      rw [e2]; exact h4
end
theorem words_mem {b : UInt8} {a : List UInt8} (h : words b a = true) {c : UInt8} (hc : c ∈ a) : isL c = true ∨ c = b := by
  obtain ⟨k, hk, rfl⟩ := List.getElem_of_mem hc
  have := words_at h k hk
  unfold wAt at this
  rw [getD_eq _ _ hk] at this
  simp only [Bool.or_eq_true, Bool.and_eq_true, beq_iff_eq] at this
  rcases this with h | ⟨⟨⟨h, _⟩, _⟩, _⟩
  · exact .inl h
  · exact .inr h
theorem sub_getD {a : List UInt8} (k : Nat) (hk : k < a.length) : (sub 32 60 a).getD k 0 = if a.getD k 0 = 32 then 60 else a.getD k 0 := by
  rw [getD_eq _ _ (by rw [sub_length]; exact hk), getD_eq _ _ hk]
  simp [sub]
theorem words_sub {a : List UInt8} (h : words 32 a = true) : words 60 (sub 32 60 a) = true := by
  refine words_yes fun k hk => ?_
  rw [sub_length] at hk
  have := words_at h k hk
  unfold wAt at *
  rw [sub_getD k hk, sub_getD (k - 1) (by omega), sub_length]
  simp only [Bool.or_eq_true, Bool.and_eq_true, decide_eq_true_eq, beq_iff_eq, bne_iff_ne] at *
  rcases this with h' | ⟨⟨⟨h1, h2⟩, h3⟩, h4⟩
  · left; rw [if_neg]; exact h'; exact isL_neb (by decide) h'
  · refine .inr ⟨⟨⟨by rw [if_pos h1], h2⟩, h3⟩, ?_⟩
    rw [if_neg h4]
    have hm : a.getD (k - 1) 0 ∈ a := by rw [getD_eq _ _ (by omega)]; exact List.getElem_mem _
    rcases words_mem h hm with g | g
    · exact isL_neb (by decide) g
    · exact absurd g h4
theorem sub_back {a : List UInt8} (h : words 32 a = true) : sub 60 32 (sub 32 60 a) = a := by
  unfold sub
  rw [List.map_map]
  have : ∀ c ∈ a, ((fun c => if (c == 60) = true then 32 else c) ∘ fun c => if (c == 32) = true then 60 else c) c = c := fun c hc => by
    rcases words_mem h hc with g | g
    · have h1 := isL_neb (b := 32) (by decide) g
      have h2 := isL_neb (b := 60) (by decide) g
      simp [h1, h2]
    · subst g; simp
  conv => rhs; rw [← List.map_id a]
  exact List.map_congr_left this
theorem words_take {a : List UInt8} {m : Nat} (h : words 60 a = true) (hm : m ≤ a.length) (hl : m = 0 ∨ a.getD (m - 1) 0 ≠ 60) : words 60 (a.take m) = true := by
  refine words_yes fun k hk => ?_
  have hk' : k < m := by simp at hk; omega
  have e : ∀ j, j < m → (a.take m).getD j 0 = a.getD j 0 := fun j hj => by
    rw [getD_eq _ _ (by simp; omega), getD_eq _ _ (by omega)]; simp
  have := words_at h k (by omega)
  unfold wAt at *
  rw [e k hk', e (k - 1) (by omega)]
  simp only [Bool.or_eq_true, Bool.and_eq_true, decide_eq_true_eq, beq_iff_eq, bne_iff_ne] at *
  rcases this with h' | ⟨⟨⟨h1, h2⟩, h3⟩, h4⟩
  · exact .inl h'
  · refine .inr ⟨⟨⟨h1, h2⟩, ?_⟩, h4⟩
    rcases Nat.lt_or_ge (k + 1) m with g | g
    · simp; omega
    · obtain rfl : m = k + 1 := by omega
      rcases hl with hl | hl
      · omega
      · rw [Nat.add_sub_cancel] at hl; exact absurd h1 hl
theorem drop_nil : ∀ l : List UInt8, l.dropWhile (· == (60 : UInt8)) = [] → ∀ x ∈ l, x = 60
  | [], _ => fun _ h => by cases h
  | c :: r, h => by
    by_cases e : c = 60
    · subst e
      rw [List.dropWhile_cons_of_pos (by decide)] at h
      intro x hx
      rcases List.mem_cons.1 hx with g | g
      · exact g
      · exact drop_nil r h x g
    · rw [List.dropWhile_cons_of_neg (by simpa using e)] at h; cases h
theorem trim_head {c : UInt8} (l : List UInt8) (h : c ≠ 60) : trimRightB (c :: l) 60 ≠ [] := by
  unfold trimRightB
  intro e
  rw [List.reverse_eq_nil_iff] at e
  exact h (drop_nil _ e c (by simp))
theorem trim_front (m l : List UInt8) (h : trimRightB l 60 ≠ []) : trimRightB (m ++ l) 60 = m ++ trimRightB l 60 := by
  unfold trimRightB at *
  rw [List.reverse_append, List.dropWhile_append, if_neg, List.reverse_append, List.reverse_reverse]
  simpa using h
theorem trim_fill (m : List UInt8) : ∀ k, trimRightB (m ++ List.replicate k 60) 60 = trimRightB m 60
  | 0 => by simp
  | k + 1 => by rw [List.replicate_succ', ← List.append_assoc, trim_snoc, trim_fill m k]
theorem trim_words {a : List UInt8} (h : words 60 a = true) : trimRightB a 60 = a := by
  by_cases ha : a = []
  · rw [ha]; rfl
  · have hl : 0 < a.length := List.length_pos_iff.2 ha
    have e : a = a.take (a.length - 1) ++ [a.getD (a.length - 1) 0] := by
      rw [getD_eq _ _ (by omega), ← List.take_succ_eq_append_getElem (by omega), show a.length - 1 + 1 = a.length by omega, List.take_length]
    conv => lhs; rw [e]
    rw [trim_stop _ _ (words_last h ha), ← e]
/-- The beginning of words. -/
theorem trim_begin {a : List UInt8} (h : words 60 a = true) (n : Nat) (hn : 1 ≤ n) (hn' : n ≤ a.length) : ∃ m, 1 ≤ m ∧ m ≤ n ∧ trimRightB (a.take n) 60 = a.take m ∧ words 60 (a.take m) = true := by
  obtain ⟨m, hm, e, hl⟩ := trim_take (a.take n)
  have hm' : m ≤ n := by simp at hm; omega
  have hne : trimRightB (a.take n) 60 ≠ [] := by
    cases a with
    | nil => simp at hn'; omega
    | cons c r =>
      obtain ⟨n', rfl⟩ : ∃ n', n = n' + 1 := ⟨n - 1, by omega⟩
      rw [List.take_succ_cons]
      apply trim_head
      have := words_at h 0 (by simp)
      simp [wAt] at this
      exact isL_ne this
  have e2 : (a.take n).take m = a.take m := by rw [List.take_take, Nat.min_eq_left hm']
  have hm1 : 1 ≤ m := by
    rcases Nat.eq_zero_or_pos m with h0 | h0
    · subst h0; rw [e] at hne; simp at hne
    · exact h0
  refine ⟨m, hm1, hm', by rw [e, e2], words_take h (by omega) (.inr ?_)⟩
  rcases hl with hl | hl
  · omega
  · have : (a.take n).getD (m - 1) 0 = a.getD (m - 1) 0 := by
      rw [getD_eq _ _ (by simp; omega), getD_eq _ _ (by omega)]; simp
    rwa [this] at hl
theorem chars_words {a : List UInt8} (h : words 60 a = true) : chars a = true := by
  refine List.all_eq_true.2 fun c hc => ?_
  rcases words_mem h hc with g | g
  · simp [fchar, g]
  · subst g; decide
theorem chars_append (a b : List UInt8) : chars (a ++ b) = (chars a && chars b) := by simp [chars]
theorem chars_take {a : List UInt8} (h : chars a = true) (n : Nat) : chars (a.take n) = true := List.all_eq_true.2 fun x hx => List.all_eq_true.1 h x (List.mem_of_mem_take hx)
theorem chars_fill (n : Nat) : chars (List.replicate n 60) = true := List.all_eq_true.2 fun x hx => by rw [(List.mem_replicate.1 hx).2]; decide

/-- The field of names. -/
def fld (a b : List UInt8) (w : Nat) : List UInt8 := (nmL a b ++ List.replicate w 60).take w
theorem fld_length (a b : List UInt8) (w : Nat) : (fld a b w).length = w := by unfold fld; simp
theorem nmL_length (a b : List UInt8) : (nmL a b).length = a.length + (if b = [] then 0 else 2 + b.length) := by
  unfold nmL
  split
  · rw [sub_length]; omega
  · simp [sub_length]; omega
theorem nmL_chars {a b : List UInt8} (ha : words 32 a = true) (hb : words 32 b = true) : chars (nmL a b) = true := by
  unfold nmL
  split
  · exact chars_words (words_sub ha)
  · rw [chars_append, chars_append, chars_words (words_sub ha), chars_words (words_sub hb)]; decide
theorem fld_chars {a b : List UInt8} (ha : words 32 a = true) (hb : words 32 b = true) (w : Nat) : chars (fld a b w) = true := by
  unfold fld
  refine chars_take ?_ w
  rw [chars_append, nmL_chars ha hb, chars_fill]; rfl
theorem sub_ne {x y : UInt8} {a : List UInt8} (h : a ≠ []) : sub x y a ≠ [] := by
  cases a with
  | nil => exact absurd rfl h
  | cons c r => simp [sub]
/-- The names fit. -/
theorem fld_fits {a b : List UInt8} (ha : words 32 a = true) (hne : a ≠ []) (hb : words 32 b = true) (w : Nat) (hw : (nmL a b).length ≤ w) :
    trimRightB (fld a b w) 60 = nmL a b ∧ spl (nmL a b) = some (a, b) := by
  have e : fld a b w = nmL a b ++ List.replicate (w - (nmL a b).length) 60 := by
    unfold fld
    rw [List.take_append, List.take_of_length_le hw, List.take_replicate]
    congr 2; omega
  have wa := words_sub ha; have wb := words_sub hb
  refine ⟨?_, ?_⟩
  · rw [e, trim_fill]
    unfold nmL
    split
    · exact trim_words wa
    · rename_i hbn
      have := trim_words wb
      rw [← List.append_assoc, trim_front _ _ (by rw [this]; exact sub_ne hbn), this]
  · unfold nmL
    split
    · rename_i hbn
      rw [spl_one wa (sub_ne hne), sub_back ha, hbn]
    · rename_i hbn
      have := spl_two wa (sub_ne hne) wb (sub_ne hbn)
      simp only [List.cons_append, List.nil_append]
      rw [this, sub_back ha, sub_back hb]
theorem sub_take (x y : UInt8) (a : List UInt8) (n : Nat) : sub x y (a.take n) = (sub x y a).take n := by simp [sub]
/-- The names do not fit. -/
theorem fld_short {a b : List UInt8} (ha : words 32 a = true) (hne : a ≠ []) (hb : words 32 b = true) (w : Nat) (hw1 : 1 ≤ w) (hw : w < (nmL a b).length) :
    ∃ x y, spl (trimRightB (fld a b w) 60) = some (x, y) ∧ x.length ≤ a.length ∧ a.take x.length = x := by
  have e : fld a b w = (nmL a b).take w := by
    unfold fld
    rw [List.take_append, Nat.sub_eq_zero_of_le (Nat.le_of_lt hw), List.take_zero, List.append_nil]
  have wa := words_sub ha; have wb := words_sub hb
  have hla : (sub 32 60 a).length = a.length := sub_length _ _ _
  rw [e]
  by_cases h1 : w ≤ a.length
  · have e1 : (nmL a b).take w = (sub 32 60 a).take w := by
      unfold nmL; split
      · rfl
      · rw [List.take_append_of_le_length (by omega)]
    obtain ⟨m, m1, m2, m3, m4⟩ := trim_begin wa w hw1 (by omega)
    have hl : ((sub 32 60 a).take m).length = m := by simp; omega
    rw [e1, m3, spl_one m4 (by intro e; rw [e] at hl; simp at hl; omega)]
    refine ⟨_, _, rfl, ?_, ?_⟩
    · rw [sub_length, hl]; omega
    · rw [sub_length, hl, sub_take, sub_back ha]
  · have hbn : b ≠ [] := by
      rintro rfl
      rw [nmL_length] at hw; simp at hw; omega
    have e0 : nmL a b = sub 32 60 a ++ ([60, 60] ++ sub 32 60 b) := by unfold nmL; rw [if_neg hbn]
    have e1 : (nmL a b).take w = sub 32 60 a ++ ([60, 60] ++ sub 32 60 b).take (w - a.length) := by
      rw [e0, List.take_append, List.take_of_length_le (by omega), hla]
    rw [nmL_length, if_neg hbn] at hw
    by_cases h2 : w - a.length ≤ 2
    · have e2 : ([60, 60] ++ sub 32 60 b).take (w - a.length) = List.replicate (w - a.length) 60 := by
        have : w - a.length = 1 ∨ w - a.length = 2 := by omega
        rcases this with h | h <;> rw [h] <;> rfl
      rw [e1, e2, trim_fill, trim_words wa, spl_one wa (sub_ne hne)]
      exact ⟨_, _, rfl, by rw [sub_back ha]; omega, by rw [sub_back ha, List.take_length]⟩
    · have e2 : ([60, 60] ++ sub 32 60 b).take (w - a.length) = [60, 60] ++ (sub 32 60 b).take (w - a.length - 2) := by
        rw [List.take_append, List.take_of_length_le (by simp; omega)]; simp
      have hlb : (sub 32 60 b).length = b.length := sub_length _ _ _
      obtain ⟨m, m1, m2, m3, m4⟩ := trim_begin wb (w - a.length - 2) (by omega) (by omega)
      have hl : ((sub 32 60 b).take m).length = m := by simp; omega
      have hne' : (sub 32 60 b).take m ≠ [] := by intro e; rw [e] at hl; simp at hl; omega
      rw [e1, e2, ← List.append_assoc, trim_front _ _ (by rw [m3]; exact hne'), m3]
      have := spl_two wa (sub_ne hne) m4 hne'
      simp only [List.append_assoc, List.cons_append, List.nil_append]
      rw [this]
      exact ⟨_, _, rfl, by rw [sub_back ha]; omega, by rw [sub_back ha, List.take_length]⟩
end Go.Proofs.YtdejgomljelnlaaDoor.Opt
