/- Several texts in one: TermParse, TermRead, TermRead2, TermKeep, WebQ, StrGather. -/
import Derived.Test.YtihbmgkbipeakaaGreatWebG6
import Derived.Test.YtihbmgkbipeakaaGreatWebG3
import Derived.Test.YtihbmgkbipeakaaGreatWebG2
import Derived.Test.YtihbmgkbipeakaaGreatWebG4
namespace Go.Proofs.YtihbmgkbipeakaaGreat
open Go.RowKit

namespace T
/-- The next byte is c. -/
def now (l : List UInt8) (i : Nat) (c : UInt8) : Bool := l[i]? == some c
/-- Passing over a text: the place behind it, or the place of the first byte that differs. -/
def need (l : List UInt8) : List UInt8 → Nat → Except Nat Nat
  | [], i => .ok i
  | c :: cs, i => if now l i c = true then need l cs (i + 1) else .error i
/-- May the byte at i stand in a name that begins at fr? -/
def nameOk (l : List UInt8) (fr i : Nat) : Bool := low (l.getD i 0) || (decide (fr < i) && dig (l.getD i 0))
def nameRun (l : List UInt8) (fr : Nat) : Nat → Nat → Nat
  | 0, i => i
  | n + 1, i => if i < l.length ∧ nameOk l fr i = true then nameRun l fr n (i + 1) else i
def nameEnd (l : List UInt8) (i : Nat) : Nat := nameRun l i 16 i
def nameStr (l : List UInt8) (i j : Nat) : ByteArray := strOf ((l.drop i).take (j - i))
/-- What a word in front of a parenthesis means. -/
def fnKind (s : ByteArray) : Int := if s = ⟨#[104, 97, 115, 104]⟩ then 4 else if s = ⟨#[115, 101, 97, 108]⟩ then 5 else if s = ⟨#[115, 105, 103, 110]⟩ then 6 else if s = ⟨#[112, 111, 119, 101, 114]⟩ then 7 else 0
def fnKids (s : ByteArray) : Nat := if s = ⟨#[104, 97, 115, 104]⟩ then 1 else if s = ⟨#[115, 101, 97, 108]⟩ then 2 else if s = ⟨#[115, 105, 103, 110]⟩ then 2 else 0
/-- A term with kids that stand between two signs. -/
def close (l : List UInt8) (k : Int) (c : UInt8) : Option (Except Nat (List T × Nat)) → Option (Except Nat (T × Nat))
  | none => none
  | some (.error e) => some (.error e)
  | some (.ok (ks, j)) => match need l [c] j with
    | .error e => some (.error e)
    | .ok j' => some (.ok (.mk k ⟨#[]⟩ ks, j'))
/-- More kids behind a comma. -/
def more (t : T) : Option (Except Nat (List T × Nat)) → Option (Except Nat (List T × Nat))
  | none => none
  | some (.error e) => some (.error e)
  | some (.ok (ks, j)) => some (.ok (t :: ks, j))
mutual
def pterm (l : List UInt8) : Nat → Nat → Option (Except Nat (T × Nat))
  | 0, _ => none
  | f + 1, i =>
    if now l i 60 = true then close l 3 62 (pkids l f 2 0 (i + 1))
    else if now l i 63 = true then (if nameEnd l (i + 1) = i + 1 then some (.error (i + 1)) else some (.ok (.mk 2 (nameStr l (i + 1) (nameEnd l (i + 1))) [], nameEnd l (i + 1))))
    else if nameEnd l i = i then some (.error i)
    else if fnKind (nameStr l i (nameEnd l i)) = 0 ∨ now l (nameEnd l i) 40 = false then some (.ok (.mk 1 (nameStr l i (nameEnd l i)) [], nameEnd l i))
    else close l (fnKind (nameStr l i (nameEnd l i))) 41 (pkids l f (fnKids (nameStr l i (nameEnd l i))) 0 (nameEnd l i + 1))
def pkids (l : List UInt8) : Nat → Nat → Nat → Nat → Option (Except Nat (List T × Nat))
  | 0, _, _, _ => none
  | f + 1, n, c, i => match pterm l f i with
    | none => none
    | some (.error e) => some (.error e)
    | some (.ok (t, j)) =>
      if (0 < n ∧ c + 1 = n) ∨ (n = 0 ∧ now l j 44 = false) then some (.ok ([t], j))
      else match need l [44, 32] j with
        | .error e => some (.error e)
        | .ok j' => more t (pkids l f n (c + 1) j')
end
theorem now_lt {l : List UInt8} {i : Nat} {c : UInt8} (h : now l i c = true) : i < l.length := by
  unfold now at h
  rcases Nat.lt_or_ge i l.length with g | g
  · exact g
  · rw [List.getElem?_eq_none g] at h; cases h
theorem need_ok {l : List UInt8} : ∀ (q : List UInt8) (i j : Nat), need l q i = .ok j → j = i + q.length ∧ (q ≠ [] → j ≤ l.length)
  | [], i, j, h => by injection h with h; subst h; simp
  | c :: cs, i, j, h => by
    simp only [need] at h
    split at h
    · rename_i hn
      obtain ⟨h1, h2⟩ := need_ok cs (i + 1) j h
      refine ⟨by simp; omega, fun _ => ?_⟩
      have := now_lt hn
      cases cs with
      | nil => simp at h1; omega
      | cons d ds => exact h2 (by simp)
    · cases h
theorem nameRun_le (l : List UInt8) (fr : Nat) : ∀ n i, i ≤ nameRun l fr n i ∧ nameRun l fr n i ≤ i + n ∧ (i ≤ l.length → nameRun l fr n i ≤ l.length)
  | 0, i => by simp [nameRun]
  | n + 1, i => by
    simp only [nameRun]
    split
    · rename_i h
      obtain ⟨h1, h2, h3⟩ := nameRun_le l fr n (i + 1)
      exact ⟨by omega, by omega, fun _ => h3 (by omega)⟩
    · exact ⟨Nat.le_refl _, by omega, fun h => h⟩
theorem nameStr_size (l : List UInt8) (i j : Nat) (h : i ≤ j) (h' : j ≤ l.length) : (nameStr l i j).size = j - i := by
  unfold nameStr; rw [strOf_size, List.length_take, List.length_drop]; omega
theorem nameEnd_le (l : List UInt8) (i : Nat) : i ≤ nameEnd l i ∧ nameEnd l i ≤ i + 16 ∧ (i ≤ l.length → nameEnd l i ≤ l.length) := nameRun_le l i 16 i
theorem nameEnd_lt {l : List UInt8} {i : Nat} (h : nameEnd l i ≠ i) : nameEnd l i ≤ l.length := by
  obtain ⟨h1, h2, h3⟩ := nameEnd_le l i
  rcases Nat.le_total i l.length with g | g
  · exact h3 g
  · exfalso; apply h; unfold nameEnd nameRun; rw [if_neg (by omega)]
theorem close_ok {l : List UInt8} {k : Int} {c : UInt8} {r : Option (Except Nat (List T × Nat))} {t : T} {j : Nat} (h : close l k c r = some (.ok (t, j))) : ∃ ks j', r = some (.ok (ks, j')) ∧ need l [c] j' = .ok j ∧ t = .mk k ⟨#[]⟩ ks := by
  unfold close at h
  split at h
  · cases h
  · cases h
  · rename_i ks j'
    split at h
    · cases h
    · rename_i j'' hj
      simp only [Option.some.injEq, Except.ok.injEq, Prod.mk.injEq] at h
      obtain ⟨rfl, rfl⟩ := h
      exact ⟨ks, j', rfl, hj, rfl⟩
theorem more_ok {t : T} {r : Option (Except Nat (List T × Nat))} {ks : List T} {j : Nat} (h : more t r = some (.ok (ks, j))) : ∃ r', r = some (.ok (r', j)) ∧ ks = t :: r' := by
  unfold more at h
  split at h
  · cases h
  · cases h
  · simp only [Option.some.injEq, Except.ok.injEq, Prod.mk.injEq] at h
    obtain ⟨rfl, rfl⟩ := h
    exact ⟨_, rfl, rfl⟩
/-- How far a term goes, and how large it is at most. -/
theorem p_ok (l : List UInt8) : ∀ f, (∀ i t j, pterm l f i = some (.ok (t, j)) → i < j ∧ j ≤ l.length ∧ t.bulk ≤ 5 * (j - i)) ∧ (∀ n c i ks j, pkids l f n c i = some (.ok (ks, j)) → i < j ∧ j ≤ l.length ∧ bulkAll ks ≤ 5 * (j - i) ∧ ks ≠ [])
  | 0 => ⟨fun _ _ _ h => (by cases h), fun _ _ _ _ _ h => (by cases h)⟩
  | f + 1 => by
    obtain ⟨ih1, ih2⟩ := p_ok l f
    refine ⟨fun i t j h => ?_, fun n c i ks j h => ?_⟩
    · simp only [pterm] at h
      split at h
      · obtain ⟨ks, j', h1, h2, rfl⟩ := close_ok h
        obtain ⟨a1, a2, a3, _⟩ := ih2 _ _ _ _ _ h1
        obtain ⟨b1, b2⟩ := need_ok _ _ _ h2
        have := b2 (by simp)
        simp at b1
        refine ⟨by omega, this, ?_⟩
        simp only [bulk]; show 0 + 4 + _ ≤ _; omega
      · split at h
        · split at h
          · cases h
          · rename_i hne
            simp only [Option.some.injEq, Except.ok.injEq, Prod.mk.injEq] at h
            obtain ⟨rfl, rfl⟩ := h
            have h1 := nameEnd_le l (i + 1); have h2 := nameEnd_lt hne
            refine ⟨by omega, h2, ?_⟩
            simp only [bulk, bulkAll, nameStr_size l _ _ h1.1 h2]; omega
        · split at h
          · cases h
          · rename_i hne
            have h1 := nameEnd_le l i; have h2 := nameEnd_lt hne
            split at h
            · simp only [Option.some.injEq, Except.ok.injEq, Prod.mk.injEq] at h
              obtain ⟨rfl, rfl⟩ := h
              refine ⟨by omega, h2, ?_⟩
              simp only [bulk, bulkAll, nameStr_size l _ _ h1.1 h2]; omega
            · obtain ⟨ks, j', g1, g2, rfl⟩ := close_ok h
              obtain ⟨a1, a2, a3, _⟩ := ih2 _ _ _ _ _ g1
              obtain ⟨b1, b2⟩ := need_ok _ _ _ g2
              have := b2 (by simp)
              simp at b1
              refine ⟨by omega, this, ?_⟩
              simp only [bulk]; show 0 + 4 + _ ≤ _; omega
    · simp only [pkids] at h
      split at h
      · cases h
      · cases h
      · rename_i t j' ht
        obtain ⟨a1, a2, a3⟩ := ih1 _ _ _ ht
        split at h
        · simp only [Option.some.injEq, Except.ok.injEq, Prod.mk.injEq] at h
          obtain ⟨rfl, rfl⟩ := h
          refine ⟨a1, a2, by simp only [bulkAll]; omega, by simp⟩
        · split at h
          · cases h
          · rename_i j'' hn
            obtain ⟨r', h1, rfl⟩ := more_ok h
            obtain ⟨b1, b2⟩ := need_ok _ _ _ hn
            obtain ⟨c1, c2, c3, _⟩ := ih2 _ _ _ _ _ h1
            simp at b1
            refine ⟨by omega, c2, by simp only [bulkAll]; omega, by simp⟩
/-- There is fuel enough. -/
theorem p_some (l : List UInt8) : ∀ f, (∀ i, i ≤ l.length → 2 * (l.length - i) + 1 ≤ f → pterm l f i ≠ none) ∧ (∀ n c i, i ≤ l.length → 2 * (l.length - i) + 2 ≤ f → pkids l f n c i ≠ none)
  | 0 => ⟨fun i _ h => by omega, fun n c i _ h => by omega⟩
  | f + 1 => by
    obtain ⟨ih1, ih2⟩ := p_some l f
    have hclose : ∀ k c r, r ≠ none → close l k c r ≠ none := fun k c r hr => by
      unfold close; split
      · exact absurd rfl hr
      · simp
      · split <;> simp
    refine ⟨fun i hi hf => ?_, fun n c i hi hf => ?_⟩
    · simp only [pterm]
      split
      · rename_i h; have := now_lt h
        exact hclose _ _ _ (ih2 _ _ _ (by omega) (by omega))
      · split
        · split <;> simp
        · split
          · simp
          · rename_i hne
            have h1 := nameEnd_le l i
            split
            · simp
            · rename_i hk
              have := now_lt (show now l (nameEnd l i) 40 = true by rcases Bool.eq_false_or_eq_true (now l (nameEnd l i) 40) with h | h; exact h; exact absurd (.inr h) hk)
              exact hclose _ _ _ (ih2 _ _ _ (by omega) (by omega))
    · simp only [pkids]
      split
      · rename_i h; exact absurd h (ih1 i hi (by omega))
      · simp
      · rename_i t j ht
        obtain ⟨a1, a2, _⟩ := (p_ok l f).1 _ _ _ ht
        split
        · simp
        · split
          · simp
          · rename_i j' hn
            obtain ⟨b1, b2⟩ := need_ok _ _ _ hn
            have := b2 (by simp)
            simp at b1
            have h2 := ih2 n (c + 1) j' (by omega) (by omega)
            unfold more; split
            · rename_i h; exact absurd h h2
            · simp
            · simp
/-- Parse: the term, the place of the error, the error. -/
def parse (s : ByteArray) : T × Nat × Int :=
  if 1024 < s.size then (.mk 0 ⟨#[]⟩ [], 0, 72)
  else match pterm s.data.toList (2 * s.size + 1) 0 with
    | none => (.mk 0 ⟨#[]⟩ [], 0, 0)
    | some (.error e) => (.mk 0 ⟨#[]⟩ [], e, 71)
    | some (.ok (t, j)) => if j < s.size then (.mk 0 ⟨#[]⟩ [], j, 71) else if t.valid = true then (t, 0, 0) else (.mk 0 ⟨#[]⟩ [], 0, 76)
end T
end Go.Proofs.YtihbmgkbipeakaaGreat

namespace Go.Proofs.YtihbmgkbipeakaaGreat

namespace T
theorem at_mid (a q b : List UInt8) (j : Nat) (h : j < q.length) : (a ++ q ++ b)[a.length + j]? = q[j]? := by
  rw [List.append_assoc, List.getElem?_append_right (by omega), Nat.add_sub_cancel_left, List.getElem?_append_left h]
theorem now_mid (a b : List UInt8) (c d : UInt8) : now (a ++ c :: b) a.length d = (c == d) := by
  unfold now
  rw [List.getElem?_append_right (Nat.le_refl _), Nat.sub_self]
  simp
theorem need_mid : ∀ (q a b : List UInt8), need (a ++ q ++ b) q a.length = .ok (a.length + q.length)
  | [], a, b => by simp [need]
  | c :: cs, a, b => by
    have e : a ++ (c :: cs) ++ b = (a ++ [c]) ++ cs ++ b := by simp
    have h := need_mid cs (a ++ [c]) b
    simp only [need]
    rw [show now (a ++ (c :: cs) ++ b) a.length c = true by rw [List.append_assoc, List.cons_append, now_mid]; simp, if_pos rfl, e]
    rw [List.length_append] at h
    simp only [List.length_cons, List.length_nil] at h ⊢
    rw [h]; congr 1; omega
/-- Behind a name stands nothing that belongs to it. -/
def Stop : List UInt8 → Prop
  | [] => True
  | c :: _ => low c = false ∧ dig c = false
theorem nameRun_mid (a s b : List UInt8) (hs : nmAll s = true) (hb : Stop b) : ∀ n k, k ≤ s.length → s.length ≤ k + n → nameRun (a ++ s ++ b) a.length n (a.length + k) = a.length + s.length
  | 0, k, h1, h2 => by simp only [nameRun]; omega
  | n + 1, k, h1, h2 => by
    simp only [nameRun]
    rcases Nat.lt_or_ge k s.length with h | h
    · have hg : (a ++ s ++ b).getD (a.length + k) 0 = s.getD k 0 := by
        rw [List.getD_eq_getElem?_getD, List.getD_eq_getElem?_getD, at_mid a s b k h]
      have hok : nameOk (a ++ s ++ b) a.length (a.length + k) = true := by
        have := List.all_eq_true.1 hs k (List.mem_range.2 h)
        unfold nmAt at this
        unfold nameOk
        rw [hg, show decide (a.length < a.length + k) = decide (0 < k) by rw [decide_eq_decide]; omega]
        exact this
      rw [if_pos ⟨by simp; omega, hok⟩, Nat.add_assoc]
      exact nameRun_mid a s b hs hb n (k + 1) h (by omega)
    · have hk : k = s.length := by omega
      subst hk
      cases b with
      | nil => rw [if_neg (by simp)]
      | cons c r =>
        have hg : (a ++ s ++ c :: r).getD (a.length + s.length) 0 = c := by
          rw [List.getD_eq_getElem?_getD, List.getElem?_append_right (by simp), List.length_append, Nat.sub_self]; rfl
        rw [if_neg]
        rintro ⟨_, h⟩
        unfold nameOk at h
        rw [hg, hb.1, hb.2] at h
        simp at h
theorem nameEnd_mid (a s b : List UInt8) (hs : nmAll s = true) (h16 : s.length ≤ 16) (hb : Stop b) : nameEnd (a ++ s ++ b) a.length = a.length + s.length := by
  have := nameRun_mid a s b hs hb 16 0 (Nat.zero_le _) (by omega)
  exact this
theorem nameStr_mid (a s b : List UInt8) : nameStr (a ++ s ++ b) a.length (a.length + s.length) = strOf s := by
  unfold nameStr
  rw [List.append_assoc, List.drop_left, Nat.add_sub_cancel_left, List.take_left]
end T
end Go.Proofs.YtihbmgkbipeakaaGreat

namespace Go.Proofs.YtihbmgkbipeakaaGreat

namespace T
/-- What may stand behind a term. -/
def Follow : List UInt8 → Prop
  | [] => True
  | c :: _ => c = 44 ∨ c = 41 ∨ c = 62
theorem Follow.stop {b : List UInt8} (h : Follow b) : Stop b := by
  cases b with
  | nil => trivial
  | cons c r => rcases h with rfl | rfl | rfl <;> exact ⟨by decide, by decide⟩
theorem now_behind (a q b : List UInt8) (d : UInt8) : now (a ++ q ++ b) (a.length + q.length) d = (b.head? == some d) := by
  unfold now
  rw [List.getElem?_append_right (by simp), List.length_append, Nat.sub_self]
  cases b <;> rfl
theorem Follow.now {b : List UInt8} (h : Follow b) (a q : List UInt8) : T.now (a ++ q ++ b) (a.length + q.length) 40 = false := by
  rw [now_behind]
  cases b with
  | nil => rfl
  | cons c r => rcases h with rfl | rfl | rfl <;> rfl
theorem close_mid {l : List UInt8} {k : Int} {c : UInt8} {r : Option (Except Nat (List T × Nat))} {ks : List T} {j : Nat} (h : r = some (.ok (ks, j))) (hn : need l [c] j = .ok (j + 1)) :
    close l k c r = some (.ok (.mk k ⟨#[]⟩ ks, j + 1)) := by
  subst h; simp only [close, hn]
theorem name_first {q : List UInt8} (h : nmAll q = true) (h1 : 1 ≤ q.length) : ∃ c r, q = c :: r ∧ low c = true := by
  cases q with
  | nil => simp at h1
  | cons c r =>
    have := List.all_eq_true.1 h 0 (List.mem_range.2 (by simp))
    refine ⟨c, r, rfl, ?_⟩
    simpa [nmAt] using this
theorem low_ne {c : UInt8} (h : low c = true) : (c == 60) = false ∧ (c == 63) = false := by
  constructor <;>
  · rw [beq_eq_false_iff_ne]
    rintro rfl
    revert h; decide
theorem now_name (a q b : List UInt8) (h : nmAll q = true) (h1 : 1 ≤ q.length) : now (a ++ q ++ b) a.length 60 = false ∧ now (a ++ q ++ b) a.length 63 = false := by
  obtain ⟨c, r, rfl, hc⟩ := name_first h h1
  rw [List.append_assoc, List.cons_append, now_mid, now_mid]
  exact low_ne hc
theorem empty_of {s : ByteArray} (h : s.toList.isEmpty = true) : s = ⟨#[]⟩ := ba_eq (by rw [List.isEmpty_iff.1 h, ByteArray.toList_eq])
theorem head_facts (k : Int) (ks : List T) (h : headOk k ks = true) (hk : ¬ (k = 1 ∨ k = 2)) (h3 : k ≠ 3) :
    nmAll (headS k) = true ∧ 1 ≤ (headS k).length ∧ (headS k).length ≤ 16 ∧ fnKind (strOf (headS k)) = k ∧ k ≠ 0 ∧ ks ≠ [] ∧ (fnKids (strOf (headS k)) = 0 ∨ 0 + ks.length = fnKids (strOf (headS k))) := by
  have hne : ∀ n, ks.length = n + 1 → ks ≠ [] := fun n h e => by rw [e] at h; simp at h
  unfold headOk at h
  by_cases h5 : k = 5
  · subst h5; have hl : ks.length = 2 := by simpa using h
    exact ⟨by kernel_rfl, by decide, by decide, by kernel_rfl, by decide, hne 1 hl, .inr (by rw [hl]; kernel_rfl)⟩
  by_cases h6 : k = 6
  · subst h6; have hl : ks.length = 2 := by simp at h; exact h.1
    exact ⟨by kernel_rfl, by decide, by decide, by kernel_rfl, by decide, hne 1 hl, .inr (by rw [hl]; kernel_rfl)⟩
  by_cases h4 : k = 4
  · subst h4; have hl : ks.length = 1 := by simpa using h
    exact ⟨by kernel_rfl, by decide, by decide, by kernel_rfl, by decide, hne 0 hl, .inr (by rw [hl]; kernel_rfl)⟩
  by_cases h7 : k = 7
  · subst h7
    have hl : 1 ≤ ks.length := by
      rw [if_neg (by decide), if_neg (by decide), if_neg (by decide), if_pos rfl] at h
      simp only [Bool.and_eq_true, decide_eq_true_eq] at h
      exact h.1.1
    exact ⟨by kernel_rfl, by decide, by decide, by kernel_rfl, by decide, (fun e => by rw [e] at hl; simp at hl), .inl (by kernel_rfl)⟩
  rw [if_neg (by omega), if_neg h6, if_neg h4, if_neg h7] at h
  cases h
theorem text_pos : ∀ t : T, t.shape = true → 1 ≤ t.text.length
  | .mk k s ks => fun h => by
    simp only [shape] at h
    simp only [text]
    by_cases h1 : k = 1
    · rw [if_pos (.inl h1), Bool.and_eq_true] at h
      have := h.1; unfold isName at this
      simp only [Bool.and_eq_true, decide_eq_true_eq] at this
      rw [if_pos h1, size_len]; exact this.2.1
    · rw [if_neg h1]
      split
      · simp
      · split
        · (first | (simp; done) | (simp; omega))
        · (first | (simp; done) | (simp; omega))
theorem read_back : ∀ f,
    (∀ t a b, t.shape = true → Follow b → 2 * t.text.length ≤ f → pterm (a ++ t.text ++ b) f a.length = some (.ok (t, a.length + t.text.length))) ∧
    (∀ ks n c a b, ks ≠ [] → shapeAll ks = true → Follow b → b.head? ≠ some 44 → (n = 0 ∨ c + ks.length = n) → 2 * (textAll ks).length + 1 ≤ f →
      pkids (a ++ textAll ks ++ b) f n c a.length = some (.ok (ks, a.length + (textAll ks).length)))
  | 0 => ⟨fun t a b h _ hf => by have := text_pos t h; omega, fun ks n c a b _ _ _ _ _ hf => by omega⟩
  | f + 1 => by
    obtain ⟨ih1, ih2⟩ := read_back f
    refine ⟨fun t a b hs hb hf => ?_, fun ks n c a b hne hs hb hb4 hn hf => ?_⟩
    · obtain ⟨k, s, ks⟩ := t
      simp only [shape] at hs
      simp only [text] at hf ⊢
      by_cases h12 : k = 1 ∨ k = 2
      · rw [if_pos h12, Bool.and_eq_true] at hs
        obtain ⟨hnm, hks⟩ := hs
        have hks : ks = [] := by simpa using hks
        subst hks
        unfold isName at hnm
        simp only [Bool.and_eq_true, decide_eq_true_eq] at hnm
        obtain ⟨hq, h1, h16⟩ := hnm
        have hst : strOf s.data.toList = s := by simp [strOf]
        rw [← size_len] at h1 h16
        rcases h12 with rfl | rfl
        · rw [if_pos rfl]
          obtain ⟨n60, n63⟩ := now_name a s.data.toList b hq h1
          have hend := nameEnd_mid a s.data.toList b hq h16 hb.stop
          simp only [pterm]
          rw [if_neg (by rw [n60]; decide), if_neg (by rw [n63]; decide), hend, if_neg (by omega), nameStr_mid, if_pos (.inr (hb.now a _)), hst]
        · rw [if_neg (by decide), if_pos rfl]
          have e : a ++ (63 :: s.data.toList) ++ b = (a ++ [63]) ++ s.data.toList ++ b := by simp
          have hend := nameEnd_mid (a ++ [63]) s.data.toList b hq h16 hb.stop
          have hstr := nameStr_mid (a ++ [63]) s.data.toList b
          have n60 : now (a ++ (63 :: s.data.toList) ++ b) a.length 60 = false := by rw [List.append_assoc, List.cons_append, now_mid]; decide
          have n63 : now (a ++ (63 :: s.data.toList) ++ b) a.length 63 = true := by rw [List.append_assoc, List.cons_append, now_mid]; decide
          simp only [List.length_append, List.length_cons, List.length_nil] at hend hstr
          rw [← e] at hend hstr
          simp only [pterm]
          rw [if_neg (by rw [n60]; decide), if_pos n63, hend, if_neg (by omega), hstr, hst]
          simp only [List.length_cons]
          congr 3; omega
      · rw [if_neg h12, Bool.and_eq_true, Bool.and_eq_true] at hs
        obtain ⟨⟨hh, he⟩, hsk⟩ := hs
        have hse := empty_of he
        subst hse
        have h1 : ¬ k = 1 := fun e => h12 (.inl e)
        have h2 : ¬ k = 2 := fun e => h12 (.inr e)
        rw [if_neg h1, if_neg h2] at hf ⊢
        by_cases h3 : k = 3
        · subst h3
          rw [if_pos rfl] at hf ⊢
          have hl : ks.length = 2 := by simpa [headOk] using hh
          have hkne : ks ≠ [] := fun e => by rw [e] at hl; simp at hl
          have e : a ++ ([60] ++ textAll ks ++ [62]) ++ b = (a ++ [60]) ++ textAll ks ++ (62 :: b) := by simp
          have n60 : now (a ++ ([60] ++ textAll ks ++ [62]) ++ b) a.length 60 = true := by
            rw [show a ++ ([60] ++ textAll ks ++ [62]) ++ b = a ++ 60 :: (textAll ks ++ [62] ++ b) by simp, now_mid]; decide
          have hk := ih2 ks 2 0 (a ++ [60]) (62 :: b) hkne hsk (.inr (.inr rfl)) (by simp) (.inr (by omega)) (by simp at hf; omega)
          have hnd := need_mid [62] (a ++ [60] ++ textAll ks) b
          have e' : a ++ [60] ++ textAll ks ++ [62] ++ b = a ++ ([60] ++ textAll ks ++ [62]) ++ b := by simp
          rw [e'] at hnd
          rw [← e] at hk
          simp only [List.length_append, List.length_cons, List.length_nil] at hk hnd
          simp only [pterm]
          rw [if_pos n60, close_mid hk hnd]
          simp only [List.length_append, List.length_cons, List.length_nil]
          congr 3; omega
        · rw [if_neg h3] at hf ⊢
          obtain ⟨g1, g2, g3, g4, g5, g6, g7⟩ := head_facts k ks hh h12 h3
          have e1 : a ++ (headS k ++ [40] ++ textAll ks ++ [41]) ++ b = a ++ headS k ++ (40 :: (textAll ks ++ [41] ++ b)) := by simp
          have e2 : a ++ (headS k ++ [40] ++ textAll ks ++ [41]) ++ b = (a ++ headS k ++ [40]) ++ textAll ks ++ (41 :: b) := by simp
          obtain ⟨n60, n63⟩ := now_name a (headS k) (40 :: (textAll ks ++ [41] ++ b)) g1 g2
          have hend := nameEnd_mid a (headS k) (40 :: (textAll ks ++ [41] ++ b)) g1 g3 ⟨by decide, by decide⟩
          have hstr := nameStr_mid a (headS k) (40 :: (textAll ks ++ [41] ++ b))
          have n40 : now (a ++ headS k ++ (40 :: (textAll ks ++ [41] ++ b))) (a.length + (headS k).length) 40 = true := by rw [now_behind]; simp
          have hk := ih2 ks (fnKids (strOf (headS k))) 0 (a ++ headS k ++ [40]) (41 :: b) g6 hsk (.inr (.inl rfl)) (by simp) g7 (by simp at hf; omega)
          have hnd := need_mid [41] (a ++ headS k ++ [40] ++ textAll ks) b
          have e' : a ++ headS k ++ [40] ++ textAll ks ++ [41] ++ b = a ++ (headS k ++ [40] ++ textAll ks ++ [41]) ++ b := by simp
          rw [e'] at hnd
          rw [← e2] at hk
          rw [← e1] at n60 n63 hend hstr n40
          simp only [List.length_append, List.length_cons, List.length_nil] at hk hnd
          simp only [pterm]
          rw [if_neg (by rw [n60]; decide), if_neg (by rw [n63]; decide), hend, if_neg (by omega), hstr, if_neg (by rw [g4, n40]; simp [g5]), g4, close_mid hk hnd]
          simp only [List.length_append, List.length_cons, List.length_nil]
          congr 3; omega
    · cases ks with
      | nil => exact absurd rfl hne
      | cons t r =>
        simp only [shapeAll, Bool.and_eq_true] at hs
        simp only [textAll] at hf ⊢
        cases r with
        | nil =>
          simp only [textTail, List.append_nil] at hf ⊢
          have h := ih1 t a b hs.1 hb (by omega)
          simp only [pkids]
          rw [h]
          have hc : (0 < n ∧ c + 1 = n) ∨ (n = 0 ∧ now (a ++ t.text ++ b) (a.length + t.text.length) 44 = false) := by
            rcases hn with hn | hn
            · refine .inr ⟨hn, ?_⟩
              rw [now_behind, beq_eq_false_iff_ne]; exact hb4
            · simp at hn; exact .inl ⟨by omega, hn⟩
          simp only [if_pos hc]
        | cons t' r' =>
          have e : a ++ (t.text ++ textTail (t' :: r')) ++ b = a ++ t.text ++ (44 :: 32 :: (textAll (t' :: r') ++ b)) := by simp [textTail, textAll]
          have e2 : a ++ (t.text ++ textTail (t' :: r')) ++ b = (a ++ t.text) ++ [44, 32] ++ (textAll (t' :: r') ++ b) := by simp [textTail, textAll]
          have e3 : a ++ (t.text ++ textTail (t' :: r')) ++ b = (a ++ t.text ++ [44, 32]) ++ textAll (t' :: r') ++ b := by simp [textTail, textAll]
          have hlen : (textTail (t' :: r')).length = 2 + (textAll (t' :: r')).length := by simp [textTail, textAll]; omega
          rw [List.length_append, hlen] at hf
          have h := ih1 t a (44 :: 32 :: (textAll (t' :: r') ++ b)) hs.1 (.inl rfl) (by omega)
          have h2 := ih2 (t' :: r') n (c + 1) (a ++ t.text ++ [44, 32]) b (by simp) hs.2 hb hb4 (by rcases hn with hn | hn; exact .inl hn; exact .inr (by simp at hn ⊢; omega)) (by omega)
          have hnd := need_mid [44, 32] (a ++ t.text) (textAll (t' :: r') ++ b)
          have n44 : now (a ++ t.text ++ (44 :: 32 :: (textAll (t' :: r') ++ b))) (a.length + t.text.length) 44 = true := by rw [now_behind]; simp
          rw [← e] at h n44
          rw [← e2] at hnd
          rw [← e3] at h2
          simp only [List.length_append, List.length_cons, List.length_nil] at h2 hnd
          simp only [pkids]
          rw [h]
          have hc : ¬ ((0 < n ∧ c + 1 = n) ∨ (n = 0 ∧ now (a ++ (t.text ++ textTail (t' :: r')) ++ b) (a.length + t.text.length) 44 = false)) := by
            rintro (⟨q1, q2⟩ | ⟨_, q⟩)
            · rcases hn with hn | hn
              · omega
              · simp at hn; omega
            · rw [n44] at q; cases q
          simp only [if_neg hc]
          rw [hnd]
          simp only []
          rw [h2]
          simp only [more, List.length_append, hlen]
          congr 3; omega
end T
end Go.Proofs.YtihbmgkbipeakaaGreat

namespace Go.Proofs.YtihbmgkbipeakaaGreat

namespace T
theorem shapeAll_iff (l : List T) : shapeAll l = true ↔ ∀ t ∈ l, t.shape = true := by
  induction l with
  | nil => simp [shapeAll]
  | cons t r ih => simp [shapeAll, ih]
theorem headOk_map (f : T → T) (hf : ∀ t, (f t).atom = t.atom) (k : Int) (l : List T) : headOk k (l.map f) = headOk k l := by
  have e1 : ((l.map f)[0]?).map atom = (l[0]?).map atom := by cases l <;> simp [hf]
  have e2 : (l.map f).any (fun t => !t.atom) = l.any (fun t => !t.atom) := by
    rw [List.any_map]; congr 1; funext t; simp [hf]
  unfold headOk
  rw [e1, e2, List.length_map]
theorem headOk_perm {l m : List T} (h : l.Perm m) : headOk 7 l = headOk 7 m := by
  have e : l.any (fun t => !t.atom) = m.any (fun t => !t.atom) := by
    rw [Bool.eq_iff_iff, List.any_eq_true, List.any_eq_true]
    exact ⟨fun ⟨t, h1, h2⟩ => ⟨t, h.mem_iff.1 h1, h2⟩, fun ⟨t, h1, h2⟩ => ⟨t, h.mem_iff.2 h1, h2⟩⟩
  unfold headOk
  rw [e, h.length_eq]
  simp
theorem atom_norm (t : T) : t.norm.atom = t.atom := by cases t; rfl
theorem atom_turn (t : T) : t.turn.atom = t.atom := by cases t; rfl
theorem turnAll_map : ∀ l : List T, turnAll l = l.map turn
  | [] => rfl
  | t :: r => by simp only [turnAll, List.map_cons, turnAll_map r]
theorem sizeAll_perm {l m : List T} (h : l.Perm m) : sizeAll l = sizeAll m := by
  induction h with
  | nil => rfl
  | cons x _ ih => simp only [sizeAll, ih]
  | swap x y l => simp only [sizeAll]; omega
  | trans _ _ ih1 ih2 => exact ih1.trans ih2
theorem bulkAll_perm {l m : List T} (h : l.Perm m) : bulkAll l = bulkAll m := by
  induction h with
  | nil => rfl
  | cons x _ ih => simp only [bulkAll, ih]
  | swap x y l => simp only [bulkAll]; omega
  | trans _ _ ih1 ih2 => exact ih1.trans ih2
mutual
theorem size_norm : ∀ t : T, t.norm.size = t.size
  | .mk k s ks => by
    simp only [norm, size]
    split
    · rw [sizeAll_perm (isort_perm _), size_normAll ks]
    · rw [size_normAll ks]
theorem size_normAll : ∀ l : List T, sizeAll (normAll l) = sizeAll l
  | [] => rfl
  | t :: r => by simp only [normAll, sizeAll, size_norm t, size_normAll r]
end
mutual
theorem size_turn : ∀ t : T, t.turn.size = t.size
  | .mk k s ks => by
    simp only [turn, size]
    split
    · rw [sizeAll_perm (List.reverse_perm _)]
    · rw [size_turnAll ks]
theorem size_turnAll : ∀ l : List T, sizeAll (turnAll l) = sizeAll l
  | [] => rfl
  | t :: r => by simp only [turnAll, sizeAll, size_turn t, size_turnAll r]
end
mutual
theorem bulk_turn : ∀ t : T, t.turn.bulk = t.bulk
  | .mk k s ks => by
    simp only [turn, bulk]
    split
    · rw [bulkAll_perm (List.reverse_perm _)]
    · rw [bulk_turnAll ks]
theorem bulk_turnAll : ∀ l : List T, bulkAll (turnAll l) = bulkAll l
  | [] => rfl
  | t :: r => by simp only [turnAll, bulkAll, bulk_turn t, bulk_turnAll r]
end
mutual
theorem shape_norm : ∀ t : T, t.shape = true → t.norm.shape = true
  | .mk k s ks => fun h => by
    simp only [shape] at h
    simp only [norm, shape]
    by_cases h12 : k = 1 ∨ k = 2
    · rw [if_pos h12] at h ⊢
      have h7 : ¬ k = 7 := by omega
      rw [if_neg h7]
      rw [normAll_map, List.length_map]; exact h
    · rw [if_neg h12] at h ⊢
      simp only [Bool.and_eq_true] at h ⊢
      obtain ⟨⟨hh, he⟩, hk⟩ := h
      have hk' := shape_normAll ks hk
      have hh' : headOk k (normAll ks) = true := by rw [normAll_map, headOk_map norm atom_norm]; exact hh
      by_cases h7 : k = 7
      · subst h7
        rw [if_pos rfl]
        refine ⟨⟨by rw [headOk_perm (isort_perm _)]; exact hh', he⟩, ?_⟩
        rw [shapeAll_iff] at hk' ⊢
        exact fun t ht => hk' t ((isort_perm _).mem_iff.1 ht)
      · rw [if_neg h7]; exact ⟨⟨hh', he⟩, hk'⟩
theorem shape_normAll : ∀ l : List T, shapeAll l = true → shapeAll (normAll l) = true
  | [] => fun _ => rfl
  | t :: r => fun h => by
    simp only [shapeAll, normAll, Bool.and_eq_true] at h ⊢
    exact ⟨shape_norm t h.1, shape_normAll r h.2⟩
end
mutual
theorem shape_turn : ∀ t : T, t.shape = true → t.turn.shape = true
  | .mk k s ks => fun h => by
    simp only [shape] at h
    simp only [turn, shape]
    by_cases h12 : k = 1 ∨ k = 2
    · rw [if_pos h12] at h ⊢
      have h7 : ¬ k = 7 := by omega
      rw [if_neg h7]
      rw [turnAll_map, List.length_map]; exact h
    · rw [if_neg h12] at h ⊢
      simp only [Bool.and_eq_true] at h ⊢
      obtain ⟨⟨hh, he⟩, hk⟩ := h
      by_cases h7 : k = 7
      · subst h7
        rw [if_pos rfl]
        refine ⟨⟨by rw [headOk_perm (List.reverse_perm _)]; exact hh, he⟩, ?_⟩
        rw [shapeAll_iff] at hk ⊢
        exact fun t ht => hk t (List.mem_reverse.1 ht)
      · rw [if_neg h7]
        refine ⟨⟨by rw [turnAll_map, headOk_map turn atom_turn]; exact hh, he⟩, shape_turnAll ks hk⟩
theorem shape_turnAll : ∀ l : List T, shapeAll l = true → shapeAll (turnAll l) = true
  | [] => fun _ => rfl
  | t :: r => fun h => by
    simp only [shapeAll, turnAll, Bool.and_eq_true] at h ⊢
    exact ⟨shape_turn t h.1, shape_turnAll r h.2⟩
end
end T
end Go.Proofs.YtihbmgkbipeakaaGreat

namespace Go.Proofs.YtihbmgkbipeakaaGreat

namespace T
theorem key_inj {t t' : T} (h : t.valid = true) (h' : t'.valid = true) (e : t.key = t'.key) : t = t' := by
  unfold key at e
  rw [if_pos h, if_pos h'] at e
  have e2 : t.text = t'.text := by rw [← strOf_data t.text, e, strOf_data]
  have hs : t.shape = true := (Bool.and_eq_true_iff.1 h).2
  have hs' : t'.shape = true := (Bool.and_eq_true_iff.1 h').2
  have h1 := (read_back (2 * t.text.length)).1 t [] [] hs trivial (Nat.le_refl _)
  have h2 := (read_back (2 * t.text.length)).1 t' [] [] hs' trivial (by rw [e2]; exact Nat.le_refl _)
  rw [e2] at h1 h2
  rw [h1] at h2
  injection h2 with h2
  injection h2 with h2
  exact (Prod.mk.inj h2).1
/-- Lists without some elements. -/
def subl : List T → List (List T)
  | [] => [[]]
  | a :: r => subl r ++ (subl r).map (a :: ·)
theorem mem_subl : ∀ {l m : List T}, l.Sublist m → l ∈ subl m
  | _, _, .slnil => by simp [subl]
  | _, _, .cons a h => by simp only [subl]; exact List.mem_append_left _ (mem_subl h)
  | _, _, .cons_cons a h => by simp only [subl]; exact List.mem_append_right _ (List.mem_map.2 ⟨_, mem_subl h, rfl⟩)
theorem subl_mem : ∀ {m l : List T}, l ∈ subl m → l.Sublist m
  | [], l, h => by simp [subl] at h; subst h; exact List.Sublist.slnil
  | a :: r, l, h => by
    simp only [subl] at h
    rcases List.mem_append.1 h with h | h
    · exact (subl_mem h).cons a
    · obtain ⟨l', h', rfl⟩ := List.mem_map.1 h
      exact (subl_mem h').cons_cons a
theorem subl_len : ∀ m : List T, (subl m).length = 2 ^ m.length
  | [] => rfl
  | a :: r => by simp only [subl, List.length_append, List.length_map, subl_len r, List.length_cons, Nat.pow_succ]; omega
mutual
/-- All that a term is made of, and powers with less exponents. -/
def subs : T → List T
  | .mk k s ks => .mk k s ks :: (subsAll ks ++ if k = 7 then ((subl ks).filter fun l => !l.isEmpty).map (T.mk 7 ⟨#[]⟩) else [])
def subsAll : List T → List T
  | [] => []
  | t :: r => subs t ++ subsAll r
end
theorem mem_subsAll {l : List T} {x : T} : x ∈ subsAll l ↔ ∃ t ∈ l, x ∈ subs t := by
  induction l with
  | nil => simp [subsAll]
  | cons a r ih => simp only [subsAll, List.mem_append, ih, List.mem_cons]; constructor
                   · rintro (h | ⟨t, h1, h2⟩)
                     · exact ⟨a, .inl rfl, h⟩
                     · exact ⟨t, .inr h1, h2⟩
                   · rintro ⟨t, rfl | h1, h2⟩
                     · exact .inl h2
                     · exact .inr ⟨t, h1, h2⟩
theorem subs_self (t : T) : t ∈ subs t := by cases t; simp [subs]
theorem kid_mem {t : T} {i : Nat} (h : i < t.kids.length) : t.kid i ∈ t.kids := by
  unfold kid
  rw [List.getD_eq_getElem?_getD, List.getElem?_eq_getElem h]
  exact List.getElem_mem h
end T
/-- A set of terms with all their kids, and the powers with less exponents. -/
structure Uni (U : List T) : Prop where
  kid : ∀ t ∈ U, ∀ i, i < t.kids.length → t.kid i ∈ U
  less : ∀ t ∈ U, t.kind = 7 → 1 < t.kids.length → ∀ i, i < t.kids.length → t.lessOf i ∈ U
  ok : ∀ t ∈ U, t.valid = true
  size : U.length ≤ 1048576
mutual
theorem subs_closed : ∀ (t x : T), x ∈ T.subs t → (∀ i, i < x.kids.length → x.kid i ∈ T.subs t) ∧ (x.kind = 7 → 1 < x.kids.length → ∀ i, i < x.kids.length → x.lessOf i ∈ T.subs t)
  | .mk k s ks, x, h => by
    have hk : ∀ y ∈ ks, y ∈ T.subs (.mk k s ks) := fun y hy => by
      simp only [T.subs]
      exact List.mem_cons_of_mem _ (List.mem_append_left _ (T.mem_subsAll.2 ⟨y, hy, T.subs_self y⟩))
    have hl : ∀ l : List T, k = 7 → l.Sublist ks → l ≠ [] → T.mk 7 ⟨#[]⟩ l ∈ T.subs (.mk k s ks) := fun l h7 hs hn => by
      simp only [T.subs]
      rw [if_pos h7]
      exact List.mem_cons_of_mem _ (List.mem_append_right _ (List.mem_map.2 ⟨l, List.mem_filter.2 ⟨T.mem_subl hs, by cases l <;> simp at hn ⊢⟩, rfl⟩))
    have hle : ∀ l : List T, 1 < l.length → ∀ i, i < l.length → l.eraseIdx i ≠ [] := fun l h1 i hi e => by
      have := congrArg List.length e
      rw [List.length_eraseIdx_of_lt hi] at this
      simp at this
      omega
    have h' := h
    simp only [T.subs] at h'
    rcases List.mem_cons.1 h' with rfl | h'
    · refine ⟨fun i hi => hk _ (T.kid_mem hi), fun h7 h1 i hi => ?_⟩
      exact hl _ h7 (List.eraseIdx_sublist _ _) (hle _ h1 i hi)
    · rcases List.mem_append.1 h' with h' | h'
      · have := subsAll_closed ks x h'
        simp only [T.subs]
        exact ⟨fun i hi => List.mem_cons_of_mem _ (List.mem_append_left _ (this.1 i hi)), fun h7 h1 i hi => List.mem_cons_of_mem _ (List.mem_append_left _ (this.2 h7 h1 i hi))⟩
      · split at h'
        · rename_i h7
          obtain ⟨l, hl', rfl⟩ := List.mem_map.1 h'
          obtain ⟨h1, h2⟩ := List.mem_filter.1 hl'
          have hs := T.subl_mem h1
          refine ⟨fun i hi => hk _ (hs.subset (T.kid_mem hi)), fun _ hlen i hi => ?_⟩
          exact hl _ h7 ((List.eraseIdx_sublist _ _).trans hs) (hle _ hlen i hi)
        · cases h'
theorem subsAll_closed : ∀ (l : List T) (x : T), x ∈ T.subsAll l → (∀ i, i < x.kids.length → x.kid i ∈ T.subsAll l) ∧ (x.kind = 7 → 1 < x.kids.length → ∀ i, i < x.kids.length → x.lessOf i ∈ T.subsAll l)
  | [], x, h => by simp [T.subsAll] at h
  | t :: r, x, h => by
    simp only [T.subsAll] at h ⊢
    rcases List.mem_append.1 h with h | h
    · have := subs_closed t x h
      exact ⟨fun i hi => List.mem_append_left _ (this.1 i hi), fun h7 h1 i hi => List.mem_append_left _ (this.2 h7 h1 i hi)⟩
    · have := subsAll_closed r x h
      exact ⟨fun i hi => List.mem_append_right _ (this.1 i hi), fun h7 h1 i hi => List.mem_append_right _ (this.2 h7 h1 i hi)⟩
end
end Go.Proofs.YtihbmgkbipeakaaGreat

namespace Go.Proofs.YtihbmgkbipeakaaGreat
open Go.RowKit

namespace T
mutual
/-- The names of a term's variables, in the order in which they occur. -/
def vars : T → List ByteArray
  | .mk k s ks => (if k = 2 then [s] else []) ++ varsAll ks
def varsAll : List T → List ByteArray
  | [] => []
  | t :: r => vars t ++ varsAll r
end
mutual
theorem vars_len : ∀ t : T, t.vars.length ≤ t.bulk
  | .mk k s ks => by
    have := varsAll_len ks
    simp only [vars, bulk, List.length_append]
    split <;> simp <;> omega
theorem varsAll_len : ∀ l : List T, (varsAll l).length ≤ bulkAll l
  | [] => by simp [varsAll, bulkAll]
  | t :: r => by have := vars_len t; have := varsAll_len r; simp only [varsAll, bulkAll, List.length_append]; omega
end
end T
/-- Blocks below B. -/
def under (B : Nat) : Nat → Bool := fun b => decide (b < B)
/-- A kid's cells, below B. -/
theorem TermIn.cells {B : Nat} {w : World} {A : Option Addr} {ks : List T} {U : Nat → Value × Value × Value} {i : Nat} (h : i < ks.length)
    (hA : ks.length = 0 ∨ ∃ b off, A = some ⟨b, off, none⟩ ∧ ∀ i, i < ks.length → (only w (under B)).cell? ⟨b, off + i * 3, none⟩ = some (U i).1 ∧ (only w (under B)).cell? ⟨b, off + i * 3 + 1, none⟩ = some (U i).2.1 ∧ (only w (under B)).cell? ⟨b, off + i * 3 + 2, none⟩ = some (U i).2.2)
    (hU : ∀ i (h : i < ks.length), TermAt (only w (under B)) (.agg #[(U i).1, (U i).2.1, (U i).2.2]) ks[i]) :
    ∃ b off A' cap', b < B ∧ A = some ⟨b, off, none⟩ ∧ w.cell? ⟨b, off + i * 3, none⟩ = some (.int .i64 ks[i].kind) ∧ w.cell? ⟨b, off + i * 3 + 1, none⟩ = some (.string ks[i].name) ∧
      w.cell? ⟨b, off + i * 3 + 2, none⟩ = some (.slice A' ks[i].kids.length cap') ∧ TermIn (under B) w (.agg #[.int .i64 ks[i].kind, .string ks[i].name, .slice A' ks[i].kids.length cap']) ks[i] := by
  obtain ⟨b, off, A', cap', e, c0, c1, c2, hu⟩ := TermAt.cells h hA hU
  have key : ∀ {q : Addr} {v : Value}, (only w (under B)).cell? q = some v → q.block < B ∧ w.cell? q = some v := fun {q v} hq => by
    rw [cell_only] at hq
    split at hq
    · rename_i hS; exact ⟨of_decide_eq_true hS, hq⟩
    · cases hq
  exact ⟨b, off, A', cap', (key c0).1, e, (key c0).2, (key c1).2, (key c2).2, hu⟩
theorem cell_below {B : Nat} {w w' : World} {b o : Nat} {v : Value} (h : Below B w w') (hb : b < B) (hc : w.cell? ⟨b, o, none⟩ = some v) : w'.cell? ⟨b, o, none⟩ = some v := (h.cell (p := ⟨b, o, none⟩) hb).trans hc
end Go.Proofs.YtihbmgkbipeakaaGreat
