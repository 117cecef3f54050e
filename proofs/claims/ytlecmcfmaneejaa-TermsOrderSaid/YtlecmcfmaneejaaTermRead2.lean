/- Chapter 40: a term is read back from its text, plain. -/
import Derived.Test.YtlecmcfmaneejaaTermRead
import Derived.Test.YtlecmcfmaneejaaTermAnti
namespace Go.Proofs.Ytlecmcfmaneejaa

namespace T
/-- What may stand behind a term. -/
def Follow : List UInt8 → Prop
  | [] => True
  | c :: _ => c = 44 ∨ c = 41 ∨ c = 62
theorem Follow.stop {b : List UInt8} (h : Follow b) : Stop b := by
  cases b with
  | nil => trivial
  | cons c r => rcases h with rfl | rfl | rfl <;> exact ⟨by decide, by decide⟩
theorem now_behind (a q b : List UInt8) (d : UInt8) : now (a ++ q ++ b) (a.length + q.length) d = (b.head? == some d) := by
  unfold now
  rw [List.getElem?_append_right (by simp), List.length_append, Nat.sub_self]
  cases b <;> rfl
theorem Follow.now {b : List UInt8} (h : Follow b) (a q : List UInt8) : T.now (a ++ q ++ b) (a.length + q.length) 40 = false := by
  rw [now_behind]
  cases b with
  | nil => rfl
  | cons c r => rcases h with rfl | rfl | rfl <;> rfl
theorem close_mid {l : List UInt8} {k : Int} {c : UInt8} {r : Option (Except Nat (List T × Nat))} {ks : List T} {j : Nat} (h : r = some (.ok (ks, j))) (hn : need l [c] j = .ok (j + 1)) :
    close l k c r = some (.ok (.mk k ⟨#[]⟩ ks, j + 1)) := by
  subst h; simp only [close, hn]
theorem name_first {q : List UInt8} (h : nmAll q = true) (h1 : 1 ≤ q.length) : ∃ c r, q = c :: r ∧ low c = true := by
  cases q with
  | nil => simp at h1
  | cons c r =>
    have := List.all_eq_true.1 h 0 (List.mem_range.2 (by simp))
    refine ⟨c, r, rfl, ?_⟩
    simpa [nmAt] using this
theorem low_ne {c : UInt8} (h : low c = true) : (c == 60) = false ∧ (c == 63) = false := by
  constructor <;>
  · rw [beq_eq_false_iff_ne]
    rintro rfl
    revert h; decide
theorem now_name (a q b : List UInt8) (h : nmAll q = true) (h1 : 1 ≤ q.length) : now (a ++ q ++ b) a.length 60 = false ∧ now (a ++ q ++ b) a.length 63 = false := by
  obtain ⟨c, r, rfl, hc⟩ := name_first h h1
  rw [List.append_assoc, List.cons_append, now_mid, now_mid]
  exact low_ne hc
theorem empty_of {s : ByteArray} (h : s.toList.isEmpty = true) : s = ⟨#[]⟩ := ba_eq (by rw [List.isEmpty_iff.1 h, ByteArray.toList_eq])
theorem head_facts (k : Int) (ks : List T) (h : headOk k ks = true) (hk : ¬ (k = 1 ∨ k = 2)) (h3 : k ≠ 3) :
    nmAll (headS k) = true ∧ 1 ≤ (headS k).length ∧ (headS k).length ≤ 16 ∧ fnKind (strOf (headS k)) = k ∧ k ≠ 0 ∧ ks ≠ [] ∧ (fnKids (strOf (headS k)) = 0 ∨ 0 + ks.length = fnKids (strOf (headS k))) := by
  have hne : ∀ n, ks.length = n + 1 → ks ≠ [] := fun n h e => by rw [e] at h; simp at h
  unfold headOk at h
  by_cases h5 : k = 5
  · subst h5; have hl : ks.length = 2 := by simpa using h
    exact ⟨by kernel_rfl, by decide, by decide, by kernel_rfl, by decide, hne 1 hl, .inr (by rw [hl]; kernel_rfl)⟩
  by_cases h6 : k = 6
  · subst h6; have hl : ks.length = 2 := by simp at h; exact h.1
    exact ⟨by kernel_rfl, by decide, by decide, by kernel_rfl, by decide, hne 1 hl, .inr (by rw [hl]; kernel_rfl)⟩
  by_cases h4 : k = 4
  · subst h4; have hl : ks.length = 1 := by simpa using h
    exact ⟨by kernel_rfl, by decide, by decide, by kernel_rfl, by decide, hne 0 hl, .inr (by rw [hl]; kernel_rfl)⟩
  by_cases h7 : k = 7
  · subst h7
    have hl : 1 ≤ ks.length := by
      rw [if_neg (by decide), if_neg (by decide), if_neg (by decide), if_pos rfl] at h
      simp only [Bool.and_eq_true, decide_eq_true_eq] at h
      exact h.1.1
    exact ⟨by kernel_rfl, by decide, by decide, by kernel_rfl, by decide, (fun e => by rw [e] at hl; simp at hl), .inl (by kernel_rfl)⟩
  rw [if_neg (by omega), if_neg h6, if_neg h4, if_neg h7] at h
  cases h
theorem text_pos : ∀ t : T, t.shape = true → 1 ≤ t.text.length
  | .mk k s ks => fun h => by
    simp only [shape] at h
    simp only [text]
    by_cases h1 : k = 1
    · rw [if_pos (.inl h1), Bool.and_eq_true] at h
      have := h.1; unfold isName at this
      simp only [Bool.and_eq_true, decide_eq_true_eq] at this
      rw [if_pos h1, size_len]; exact this.2.1
    · rw [if_neg h1]
      split
      · simp
      · split
        · (first | (simp; done) | (simp; omega))
        · (first | (simp; done) | (simp; omega))
theorem read_back : ∀ f,
    (∀ t a b, t.shape = true → Follow b → 2 * t.text.length ≤ f → pterm (a ++ t.text ++ b) f a.length = some (.ok (t, a.length + t.text.length))) ∧
    (∀ ks n c a b, ks ≠ [] → shapeAll ks = true → Follow b → b.head? ≠ some 44 → (n = 0 ∨ c + ks.length = n) → 2 * (textAll ks).length + 1 ≤ f →
      pkids (a ++ textAll ks ++ b) f n c a.length = some (.ok (ks, a.length + (textAll ks).length)))
  | 0 => ⟨fun t a b h _ hf => by have := text_pos t h; omega, fun ks n c a b _ _ _ _ _ hf => by omega⟩
  | f + 1 => by
    obtain ⟨ih1, ih2⟩ := read_back f
    refine ⟨fun t a b hs hb hf => ?_, fun ks n c a b hne hs hb hb4 hn hf => ?_⟩
    · obtain ⟨k, s, ks⟩ := t
      simp only [shape] at hs
      simp only [text] at hf ⊢
      by_cases h12 : k = 1 ∨ k = 2
      · rw [if_pos h12, Bool.and_eq_true] at hs
        obtain ⟨hnm, hks⟩ := hs
        have hks : ks = [] := by simpa using hks
        subst hks
        unfold isName at hnm
        simp only [Bool.and_eq_true, decide_eq_true_eq] at hnm
        obtain ⟨hq, h1, h16⟩ := hnm
        have hst : strOf s.data.toList = s := by simp [strOf]
        rw [← size_len] at h1 h16
        rcases h12 with rfl | rfl
        · rw [if_pos rfl]
          obtain ⟨n60, n63⟩ := now_name a s.data.toList b hq h1
          have hend := nameEnd_mid a s.data.toList b hq h16 hb.stop
          simp only [pterm]
          rw [if_neg (by rw [n60]; decide), if_neg (by rw [n63]; decide), hend, if_neg (by omega), nameStr_mid, if_pos (.inr (hb.now a _)), hst]
        · rw [if_neg (by decide), if_pos rfl]
          have e : a ++ (63 :: s.data.toList) ++ b = (a ++ [63]) ++ s.data.toList ++ b := by simp
          have hend := nameEnd_mid (a ++ [63]) s.data.toList b hq h16 hb.stop
          have hstr := nameStr_mid (a ++ [63]) s.data.toList b
          have n60 : now (a ++ (63 :: s.data.toList) ++ b) a.length 60 = false := by rw [List.append_assoc, List.cons_append, now_mid]; decide
          have n63 : now (a ++ (63 :: s.data.toList) ++ b) a.length 63 = true := by rw [List.append_assoc, List.cons_append, now_mid]; decide
          simp only [List.length_append, List.length_cons, List.length_nil] at hend hstr
          rw [← e] at hend hstr
          simp only [pterm]
          rw [if_neg (by rw [n60]; decide), if_pos n63, hend, if_neg (by omega), hstr, hst]
          simp only [List.length_cons]
          congr 3; omega
      · rw [if_neg h12, Bool.and_eq_true, Bool.and_eq_true] at hs
        obtain ⟨⟨hh, he⟩, hsk⟩ := hs
        have hse := empty_of he
        subst hse
        have h1 : ¬ k = 1 := fun e => h12 (.inl e)
        have h2 : ¬ k = 2 := fun e => h12 (.inr e)
        rw [if_neg h1, if_neg h2] at hf ⊢
        by_cases h3 : k = 3
        · subst h3
          rw [if_pos rfl] at hf ⊢
          have hl : ks.length = 2 := by simpa [headOk] using hh
          have hkne : ks ≠ [] := fun e => by rw [e] at hl; simp at hl
          have e : a ++ ([60] ++ textAll ks ++ [62]) ++ b = (a ++ [60]) ++ textAll ks ++ (62 :: b) := by simp
          have n60 : now (a ++ ([60] ++ textAll ks ++ [62]) ++ b) a.length 60 = true := by
            rw [show a ++ ([60] ++ textAll ks ++ [62]) ++ b = a ++ 60 :: (textAll ks ++ [62] ++ b) by simp, now_mid]; decide
          have hk := ih2 ks 2 0 (a ++ [60]) (62 :: b) hkne hsk (.inr (.inr rfl)) (by simp) (.inr (by omega)) (by simp at hf; omega)
          have hnd := need_mid [62] (a ++ [60] ++ textAll ks) b
          have e' : a ++ [60] ++ textAll ks ++ [62] ++ b = a ++ ([60] ++ textAll ks ++ [62]) ++ b := by simp
          rw [e'] at hnd
          rw [← e] at hk
          simp only [List.length_append, List.length_cons, List.length_nil] at hk hnd
          simp only [pterm]
          rw [if_pos n60, close_mid hk hnd]
          simp only [List.length_append, List.length_cons, List.length_nil]
          congr 3; omega
        · rw [if_neg h3] at hf ⊢
          obtain ⟨g1, g2, g3, g4, g5, g6, g7⟩ := head_facts k ks hh h12 h3
          have e1 : a ++ (headS k ++ [40] ++ textAll ks ++ [41]) ++ b = a ++ headS k ++ (40 :: (textAll ks ++ [41] ++ b)) := by simp
          have e2 : a ++ (headS k ++ [40] ++ textAll ks ++ [41]) ++ b = (a ++ headS k ++ [40]) ++ textAll ks ++ (41 :: b) := by simp
          obtain ⟨n60, n63⟩ := now_name a (headS k) (40 :: (textAll ks ++ [41] ++ b)) g1 g2
          have hend := nameEnd_mid a (headS k) (40 :: (textAll ks ++ [41] ++ b)) g1 g3 ⟨by decide, by decide⟩
          have hstr := nameStr_mid a (headS k) (40 :: (textAll ks ++ [41] ++ b))
          have n40 : now (a ++ headS k ++ (40 :: (textAll ks ++ [41] ++ b))) (a.length + (headS k).length) 40 = true := by rw [now_behind]; simp
          have hk := ih2 ks (fnKids (strOf (headS k))) 0 (a ++ headS k ++ [40]) (41 :: b) g6 hsk (.inr (.inl rfl)) (by simp) g7 (by simp at hf; omega)
          have hnd := need_mid [41] (a ++ headS k ++ [40] ++ textAll ks) b
          have e' : a ++ headS k ++ [40] ++ textAll ks ++ [41] ++ b = a ++ (headS k ++ [40] ++ textAll ks ++ [41]) ++ b := by simp
          rw [e'] at hnd
          rw [← e2] at hk
          rw [← e1] at n60 n63 hend hstr n40
          simp only [List.length_append, List.length_cons, List.length_nil] at hk hnd
          simp only [pterm]
          rw [if_neg (by rw [n60]; decide), if_neg (by rw [n63]; decide), hend, if_neg (by omega), hstr, if_neg (by rw [g4, n40]; simp [g5]), g4, close_mid hk hnd]
          simp only [List.length_append, List.length_cons, List.length_nil]
          congr 3; omega
    · cases ks with
      | nil => exact absurd rfl hne
      | cons t r =>
        simp only [shapeAll, Bool.and_eq_true] at hs
        simp only [textAll] at hf ⊢
        cases r with
        | nil =>
          simp only [textTail, List.append_nil] at hf ⊢
          have h := ih1 t a b hs.1 hb (by omega)
          simp only [pkids]
          rw [h]
          have hc : (0 < n ∧ c + 1 = n) ∨ (n = 0 ∧ now (a ++ t.text ++ b) (a.length + t.text.length) 44 = false) := by
            rcases hn with hn | hn
            · refine .inr ⟨hn, ?_⟩
              rw [now_behind, beq_eq_false_iff_ne]; exact hb4
            · simp at hn; exact .inl ⟨by omega, hn⟩
          simp only [if_pos hc]
        | cons t' r' =>
          have e : a ++ (t.text ++ textTail (t' :: r')) ++ b = a ++ t.text ++ (44 :: 32 :: (textAll (t' :: r') ++ b)) := by simp [textTail, textAll]
          have e2 : a ++ (t.text ++ textTail (t' :: r')) ++ b = (a ++ t.text) ++ [44, 32] ++ (textAll (t' :: r') ++ b) := by simp [textTail, textAll]
          have e3 : a ++ (t.text ++ textTail (t' :: r')) ++ b = (a ++ t.text ++ [44, 32]) ++ textAll (t' :: r') ++ b := by simp [textTail, textAll]
          have hlen : (textTail (t' :: r')).length = 2 + (textAll (t' :: r')).length := by simp [textTail, textAll]; omega
          rw [List.length_append, hlen] at hf
          have h := ih1 t a (44 :: 32 :: (textAll (t' :: r') ++ b)) hs.1 (.inl rfl) (by omega)
          have h2 := ih2 (t' :: r') n (c + 1) (a ++ t.text ++ [44, 32]) b (by simp) hs.2 hb hb4 (by rcases hn with hn | hn; exact .inl hn; exact .inr (by simp at hn ⊢; omega)) (by omega)
          have hnd := need_mid [44, 32] (a ++ t.text) (textAll (t' :: r') ++ b)
          have n44 : now (a ++ t.text ++ (44 :: 32 :: (textAll (t' :: r') ++ b))) (a.length + t.text.length) 44 = true := by rw [now_behind]; simp
          rw [← e] at h n44
          rw [← e2] at hnd
          rw [← e3] at h2
          simp only [List.length_append, List.length_cons, List.length_nil] at h2 hnd
          simp only [pkids]
          rw [h]
          have hc : ¬ ((0 < n ∧ c + 1 = n) ∨ (n = 0 ∧ now (a ++ (t.text ++ textTail (t' :: r')) ++ b) (a.length + t.text.length) 44 = false)) := by
            rintro (⟨q1, q2⟩ | ⟨_, q⟩)
            · rcases hn with hn | hn
              · omega
              · simp at hn; omega
            · rw [n44] at q; cases q
          simp only [if_neg hc]
          rw [hnd]
          simp only []
          rw [h2]
          simp only [more, List.length_append, hlen]
          congr 3; omega
/-- What is written is read back. -/
theorem parse_text (t : T) (h : t.valid = true) (hl : t.text.length ≤ 1024) : parse (strOf t.text) = (t, 0, 0) := by
  have hs : t.shape = true := (Bool.and_eq_true_iff.1 h).2
  have hr := (read_back (2 * (strOf t.text).size + 1)).1 t [] [] hs trivial (by rw [strOf_size]; omega)
  simp only [List.nil_append, List.append_nil, List.length_nil, Nat.zero_add] at hr
  unfold parse
  rw [if_neg (by rw [strOf_size]; omega), strOf_data, hr]
  simp only [strOf_size, Nat.lt_irrefl, if_false, h, if_true]
end T
end Go.Proofs.Ytlecmcfmaneejaa
