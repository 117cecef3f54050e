/- Several texts in one: TermParse, TermRead, TermRead2, TermKeep, WebQ, WebR. -/
import Derived.Test.YtihbmgkbipeakaaGreatWebG6
import Derived.Test.YtihbmgkbipeakaaGreatWebG7
import Derived.Test.YtihbmgkbipeakaaGreatWebG3
import Derived.Test.YtihbmgkbipeakaaGreatWebG5
import Derived.Test.YtihbmgkbipeakaaGreatWebG2
namespace Go.Proofs.YtihbmgkbipeakaaGreat
open Go.RowKit

namespace T
/-- The next byte is c. -/
def now (l : List UInt8) (i : Nat) (c : UInt8) : Bool := l[i]? == some c
/-- Passing over a text: the place behind it, or the place of the first byte that differs. -/
def need (l : List UInt8) : List UInt8 → Nat → Except Nat Nat
  | [], i => .ok i
  | c :: cs, i => if now l i c = true then need l cs (i + 1) else .error i
/-- May the byte at i stand in a name that begins at fr? -/
def nameOk (l : List UInt8) (fr i : Nat) : Bool := low (l.getD i 0) || (decide (fr < i) && dig (l.getD i 0))
def nameRun (l : List UInt8) (fr : Nat) : Nat → Nat → Nat
  | 0, i => i
  | n + 1, i => if i < l.length ∧ nameOk l fr i = true then nameRun l fr n (i + 1) else i
def nameEnd (l : List UInt8) (i : Nat) : Nat := nameRun l i 16 i
def nameStr (l : List UInt8) (i j : Nat) : ByteArray := strOf ((l.drop i).take (j - i))
/-- What a word in front of a parenthesis means. -/
def fnKind (s : ByteArray) : Int := if s = ⟨#[104, 97, 115, 104]⟩ then 4 else if s = ⟨#[115, 101, 97, 108]⟩ then 5 else if s = ⟨#[115, 105, 103, 110]⟩ then 6 else if s = ⟨#[112, 111, 119, 101, 114]⟩ then 7 else 0
def fnKids (s : ByteArray) : Nat := if s = ⟨#[104, 97, 115, 104]⟩ then 1 else if s = ⟨#[115, 101, 97, 108]⟩ then 2 else if s = ⟨#[115, 105, 103, 110]⟩ then 2 else 0
/-- A term with kids that stand between two signs. -/
def close (l : List UInt8) (k : Int) (c : UInt8) : Option (Except Nat (List T × Nat)) → Option (Except Nat (T × Nat))
  | none => none
  | some (.error e) => some (.error e)
  | some (.ok (ks, j)) => match need l [c] j with
    | .error e => some (.error e)
    | .ok j' => some (.ok (.mk k ⟨#[]⟩ ks, j'))
/-- More kids behind a comma. -/
def more (t : T) : Option (Except Nat (List T × Nat)) → Option (Except Nat (List T × Nat))
  | none => none
  | some (.error e) => some (.error e)
  | some (.ok (ks, j)) => some (.ok (t :: ks, j))
mutual
def pterm (l : List UInt8) : Nat → Nat → Option (Except Nat (T × Nat))
  | 0, _ => none
  | f + 1, i =>
    if now l i 60 = true then close l 3 62 (pkids l f 2 0 (i + 1))
    else if now l i 63 = true then (if nameEnd l (i + 1) = i + 1 then some (.error (i + 1)) else some (.ok (.mk 2 (nameStr l (i + 1) (nameEnd l (i + 1))) [], nameEnd l (i + 1))))
    else if nameEnd l i = i then some (.error i)
    else if fnKind (nameStr l i (nameEnd l i)) = 0 ∨ now l (nameEnd l i) 40 = false then some (.ok (.mk 1 (nameStr l i (nameEnd l i)) [], nameEnd l i))
    else close l (fnKind (nameStr l i (nameEnd l i))) 41 (pkids l f (fnKids (nameStr l i (nameEnd l i))) 0 (nameEnd l i + 1))
def pkids (l : List UInt8) : Nat → Nat → Nat → Nat → Option (Except Nat (List T × Nat))
  | 0, _, _, _ => none
  | f + 1, n, c, i => match pterm l f i with
    | none => none
    | some (.error e) => some (.error e)
    | some (.ok (t, j)) =>
      if (0 < n ∧ c + 1 = n) ∨ (n = 0 ∧ now l j 44 = false) then some (.ok ([t], j))
      else match need l [44, 32] j with
        | .error e => some (.error e)
        | .ok j' => more t (pkids l f n (c + 1) j')
end
theorem now_lt {l : List UInt8} {i : Nat} {c : UInt8} (h : now l i c = true) : i < l.length := by
  unfold now at h
  rcases Nat.lt_or_ge i l.length with g | g
  · exact g
  · rw [List.getElem?_eq_none g] at h; cases h
theorem need_ok {l : List UInt8} : ∀ (q : List UInt8) (i j : Nat), need l q i = .ok j → j = i + q.length ∧ (q ≠ [] → j ≤ l.length)
  | [], i, j, h => by injection h with h; subst h; simp
  | c :: cs, i, j, h => by
    simp only [need] at h
    split at h
    · rename_i hn
      obtain ⟨h1, h2⟩ := need_ok cs (i + 1) j h
      refine ⟨by simp; omega, fun _ => ?_⟩
      have := now_lt hn
      cases cs with
      | nil => simp at h1; omega
      | cons d ds => exact h2 (by simp)
    · cases h
theorem nameRun_le (l : List UInt8) (fr : Nat) : ∀ n i, i ≤ nameRun l fr n i ∧ nameRun l fr n i ≤ i + n ∧ (i ≤ l.length → nameRun l fr n i ≤ l.length)
  | 0, i => by simp [nameRun]
  | n + 1, i => by
    simp only [nameRun]
    split
    · rename_i h
      obtain ⟨h1, h2, h3⟩ := nameRun_le l fr n (i + 1)
      exact ⟨by omega, by omega, fun _ => h3 (by omega)⟩
    · exact ⟨Nat.le_refl _, by omega, fun h => h⟩
theorem nameStr_size (l : List UInt8) (i j : Nat) (h : i ≤ j) (h' : j ≤ l.length) : (nameStr l i j).size = j - i := by
  unfold nameStr; rw [strOf_size, List.length_take, List.length_drop]; omega
theorem nameEnd_le (l : List UInt8) (i : Nat) : i ≤ nameEnd l i ∧ nameEnd l i ≤ i + 16 ∧ (i ≤ l.length → nameEnd l i ≤ l.length) := nameRun_le l i 16 i
theorem nameEnd_lt {l : List UInt8} {i : Nat} (h : nameEnd l i ≠ i) : nameEnd l i ≤ l.length := by
  obtain ⟨h1, h2, h3⟩ := nameEnd_le l i
  rcases Nat.le_total i l.length with g | g
  · exact h3 g
  · exfalso; apply h; unfold nameEnd nameRun; rw [if_neg (by omega)]
theorem close_ok {l : List UInt8} {k : Int} {c : UInt8} {r : Option (Except Nat (List T × Nat))} {t : T} {j : Nat} (h : close l k c r = some (.ok (t, j))) : ∃ ks j', r = some (.ok (ks, j')) ∧ need l [c] j' = .ok j ∧ t = .mk k ⟨#[]⟩ ks := by
  unfold close at h
  split at h
  · cases h
  · cases h
  · rename_i ks j'
    split at h
    · cases h
    · rename_i j'' hj
      simp only [Option.some.injEq, Except.ok.injEq, Prod.mk.injEq] at h
      obtain ⟨rfl, rfl⟩ := h
      exact ⟨ks, j', rfl, hj, rfl⟩
theorem more_ok {t : T} {r : Option (Except Nat (List T × Nat))} {ks : List T} {j : Nat} (h : more t r = some (.ok (ks, j))) : ∃ r', r = some (.ok (r', j)) ∧ ks = t :: r' := by
  unfold more at h
  split at h
  · cases h
  · cases h
  · simp only [Option.some.injEq, Except.ok.injEq, Prod.mk.injEq] at h
    obtain ⟨rfl, rfl⟩ := h
    exact ⟨_, rfl, rfl⟩
/-- How far a term goes, and how large it is at most. -/
theorem p_ok (l : List UInt8) : ∀ f, (∀ i t j, pterm l f i = some (.ok (t, j)) → i < j ∧ j ≤ l.length ∧ t.bulk ≤ 5 * (j - i)) ∧ (∀ n c i ks j, pkids l f n c i = some (.ok (ks, j)) → i < j ∧ j ≤ l.length ∧ bulkAll ks ≤ 5 * (j - i) ∧ ks ≠ [])
  | 0 => ⟨fun _ _ _ h => (by cases h), fun _ _ _ _ _ h => (by cases h)⟩
  | f + 1 => by
    obtain ⟨ih1, ih2⟩ := p_ok l f
    refine ⟨fun i t j h => ?_, fun n c i ks j h => ?_⟩
    · simp only [pterm] at h
      split at h
      · obtain ⟨ks, j', h1, h2, rfl⟩ := close_ok h
        obtain ⟨a1, a2, a3, _⟩ := ih2 _ _ _ _ _ h1
        obtain ⟨b1, b2⟩ := need_ok _ _ _ h2
        have := b2 (by simp)
        simp at b1
        refine ⟨by omega, this, ?_⟩
        simp only [bulk]; show 0 + 4 + _ ≤ _; omega
      · split at h
        · split at h
          · cases h
          · rename_i hne
            simp only [Option.some.injEq, Except.ok.injEq, Prod.mk.injEq] at h
            obtain ⟨rfl, rfl⟩ := h
            have h1 := nameEnd_le l (i + 1); have h2 := nameEnd_lt hne
            refine ⟨by omega, h2, ?_⟩
            simp only [bulk, bulkAll, nameStr_size l _ _ h1.1 h2]; omega
        · split at h
          · cases h
          · rename_i hne
            have h1 := nameEnd_le l i; have h2 := nameEnd_lt hne
            split at h
            · simp only [Option.some.injEq, Except.ok.injEq, Prod.mk.injEq] at h
              obtain ⟨rfl, rfl⟩ := h
              refine ⟨by omega, h2, ?_⟩
              simp only [bulk, bulkAll, nameStr_size l _ _ h1.1 h2]; omega
            · obtain ⟨ks, j', g1, g2, rfl⟩ := close_ok h
              obtain ⟨a1, a2, a3, _⟩ := ih2 _ _ _ _ _ g1
              obtain ⟨b1, b2⟩ := need_ok _ _ _ g2
              have := b2 (by simp)
              simp at b1
              refine ⟨by omega, this, ?_⟩
              simp only [bulk]; show 0 + 4 + _ ≤ _; omega
    · simp only [pkids] at h
      split at h
      · cases h
      · cases h
      · rename_i t j' ht
        obtain ⟨a1, a2, a3⟩ := ih1 _ _ _ ht
        split at h
        · simp only [Option.some.injEq, Except.ok.injEq, Prod.mk.injEq] at h
          obtain ⟨rfl, rfl⟩ := h
          refine ⟨a1, a2, by simp only [bulkAll]; omega, by simp⟩
        · split at h
          · cases h
          · rename_i j'' hn
            obtain ⟨r', h1, rfl⟩ := more_ok h
            obtain ⟨b1, b2⟩ := need_ok _ _ _ hn
            obtain ⟨c1, c2, c3, _⟩ := ih2 _ _ _ _ _ h1
            simp at b1
            refine ⟨by omega, c2, by simp only [bulkAll]; omega, by simp⟩
/-- There is fuel enough. -/
theorem p_some (l : List UInt8) : ∀ f, (∀ i, i ≤ l.length → 2 * (l.length - i) + 1 ≤ f → pterm l f i ≠ none) ∧ (∀ n c i, i ≤ l.length → 2 * (l.length - i) + 2 ≤ f → pkids l f n c i ≠ none)
  | 0 => ⟨fun i _ h => by omega, fun n c i _ h => by omega⟩
  | f + 1 => by
    obtain ⟨ih1, ih2⟩ := p_some l f
    have hclose : ∀ k c r, r ≠ none → close l k c r ≠ none := fun k c r hr => by
      unfold close; split
      · exact absurd rfl hr
      · simp
      · split <;> simp
    refine ⟨fun i hi hf => ?_, fun n c i hi hf => ?_⟩
    · simp only [pterm]
      split
      · rename_i h; have := now_lt h
        exact hclose _ _ _ (ih2 _ _ _ (by omega) (by omega))
      · split
        · split <;> simp
        · split
          · simp
          · rename_i hne
            have h1 := nameEnd_le l i
            split
            · simp
            · rename_i hk
              have := now_lt (show now l (nameEnd l i) 40 = true by rcases Bool.eq_false_or_eq_true (now l (nameEnd l i) 40) with h | h; exact h; exact absurd (.inr h) hk)
              exact hclose _ _ _ (ih2 _ _ _ (by omega) (by omega))
    · simp only [pkids]
      split
      · rename_i h; exact absurd h (ih1 i hi (by omega))
      · simp
      · rename_i t j ht
        obtain ⟨a1, a2, _⟩ := (p_ok l f).1 _ _ _ ht
        split
        · simp
        · split
          · simp
          · rename_i j' hn
            obtain ⟨b1, b2⟩ := need_ok _ _ _ hn
            have := b2 (by simp)
            simp at b1
            have h2 := ih2 n (c + 1) j' (by omega) (by omega)
            unfold more; split
            · rename_i h; exact absurd h h2
            · simp
            · simp
/-- Parse: the term, the place of the error, the error. -/
def parse (s : ByteArray) : T × Nat × Int :=
  if 1024 < s.size then (.mk 0 ⟨#[]⟩ [], 0, 72)
  else match pterm s.data.toList (2 * s.size + 1) 0 with
    | none => (.mk 0 ⟨#[]⟩ [], 0, 0)
    | some (.error e) => (.mk 0 ⟨#[]⟩ [], e, 71)
    | some (.ok (t, j)) => if j < s.size then (.mk 0 ⟨#[]⟩ [], j, 71) else if t.valid = true then (t, 0, 0) else (.mk 0 ⟨#[]⟩ [], 0, 76)
end T
end Go.Proofs.YtihbmgkbipeakaaGreat

namespace Go.Proofs.YtihbmgkbipeakaaGreat

namespace T
theorem at_mid (a q b : List UInt8) (j : Nat) (h : j < q.length) : (a ++ q ++ b)[a.length + j]? = q[j]? := by
  rw [List.append_assoc, List.getElem?_append_right (by omega), Nat.add_sub_cancel_left, List.getElem?_append_left h]
theorem now_mid (a b : List UInt8) (c d : UInt8) : now (a ++ c :: b) a.length d = (c == d) := by
  unfold now
  rw [List.getElem?_append_right (Nat.le_refl _), Nat.sub_self]
  simp
theorem need_mid : ∀ (q a b : List UInt8), need (a ++ q ++ b) q a.length = .ok (a.length + q.length)
  | [], a, b => by simp [need]
  | c :: cs, a, b => by
    have e : a ++ (c :: cs) ++ b = (a ++ [c]) ++ cs ++ b := by simp
    have h := need_mid cs (a ++ [c]) b
    simp only [need]
    rw [show now (a ++ (c :: cs) ++ b) a.length c = true by rw [List.append_assoc, List.cons_append, now_mid]; simp, if_pos rfl, e]
    rw [List.length_append] at h
    simp only [List.length_cons, List.length_nil] at h ⊢
    rw [h]; congr 1; omega
/-- Behind a name stands nothing that belongs to it. -/
def Stop : List UInt8 → Prop
  | [] => True
  | c :: _ => low c = false ∧ dig c = false
theorem nameRun_mid (a s b : List UInt8) (hs : nmAll s = true) (hb : Stop b) : ∀ n k, k ≤ s.length → s.length ≤ k + n → nameRun (a ++ s ++ b) a.length n (a.length + k) = a.length + s.length
  | 0, k, h1, h2 => by simp only [nameRun]; omega
  | n + 1, k, h1, h2 => by
    simp only [nameRun]
    rcases Nat.lt_or_ge k s.length with h | h
    · have hg : (a ++ s ++ b).getD (a.length + k) 0 = s.getD k 0 := by
        rw [List.getD_eq_getElem?_getD, List.getD_eq_getElem?_getD, at_mid a s b k h]
      have hok : nameOk (a ++ s ++ b) a.length (a.length + k) = true := by
        have := List.all_eq_true.1 hs k (List.mem_range.2 h)
        unfold nmAt at this
        unfold nameOk
        rw [hg, show decide (a.length < a.length + k) = decide (0 < k) by rw [decide_eq_decide]; omega]
        exact this
      rw [if_pos ⟨by simp; omega, hok⟩, Nat.add_assoc]
      exact nameRun_mid a s b hs hb n (k + 1) h (by omega)
    · have hk : k = s.length := by omega
      subst hk
      cases b with
      | nil => rw [if_neg (by simp)]
      | cons c r =>
        have hg : (a ++ s ++ c :: r).getD (a.length + s.length) 0 = c := by
          rw [List.getD_eq_getElem?_getD, List.getElem?_append_right (by simp), List.length_append, Nat.sub_self]; rfl
        rw [if_neg]
        rintro ⟨_, h⟩
        unfold nameOk at h
        rw [hg, hb.1, hb.2] at h
        simp at h
theorem nameEnd_mid (a s b : List UInt8) (hs : nmAll s = true) (h16 : s.length ≤ 16) (hb : Stop b) : nameEnd (a ++ s ++ b) a.length = a.length + s.length := by
  have := nameRun_mid a s b hs hb 16 0 (Nat.zero_le _) (by omega)
  exact this
theorem nameStr_mid (a s b : List UInt8) : nameStr (a ++ s ++ b) a.length (a.length + s.length) = strOf s := by
  unfold nameStr
  rw [List.append_assoc, List.drop_left, Nat.add_sub_cancel_left, List.take_left]
end T
end Go.Proofs.YtihbmgkbipeakaaGreat

namespace Go.Proofs.YtihbmgkbipeakaaGreat

namespace T
/-- What may stand behind a term. -/
def Follow : List UInt8 → Prop
  | [] => True
  | c :: _ => c = 44 ∨ c = 41 ∨ c = 62
theorem Follow.stop {b : List UInt8} (h : Follow b) : Stop b := by
  cases b with
  | nil => trivial
  | cons c r => rcases h with rfl | rfl | rfl <;> exact ⟨by decide, by decide⟩
theorem now_behind (a q b : List UInt8) (d : UInt8) : now (a ++ q ++ b) (a.length + q.length) d = (b.head? == some d) := by
  unfold now
  rw [List.getElem?_append_right (by simp), List.length_append, Nat.sub_self]
  cases b <;> rfl
theorem Follow.now {b : List UInt8} (h : Follow b) (a q : List UInt8) : T.now (a ++ q ++ b) (a.length + q.length) 40 = false := by
  rw [now_behind]
  cases b with
  | nil => rfl
  | cons c r => rcases h with rfl | rfl | rfl <;> rfl
theorem close_mid {l : List UInt8} {k : Int} {c : UInt8} {r : Option (Except Nat (List T × Nat))} {ks : List T} {j : Nat} (h : r = some (.ok (ks, j))) (hn : need l [c] j = .ok (j + 1)) :
    close l k c r = some (.ok (.mk k ⟨#[]⟩ ks, j + 1)) := by
  subst h; simp only [close, hn]
theorem name_first {q : List UInt8} (h : nmAll q = true) (h1 : 1 ≤ q.length) : ∃ c r, q = c :: r ∧ low c = true := by
  cases q with
  | nil => simp at h1
  | cons c r =>
    have := List.all_eq_true.1 h 0 (List.mem_range.2 (by simp))
    refine ⟨c, r, rfl, ?_⟩
    simpa [nmAt] using this
theorem low_ne {c : UInt8} (h : low c = true) : (c == 60) = false ∧ (c == 63) = false := by
  constructor <;>
  · rw [beq_eq_false_iff_ne]
    rintro rfl
    revert h; decide
theorem now_name (a q b : List UInt8) (h : nmAll q = true) (h1 : 1 ≤ q.length) : now (a ++ q ++ b) a.length 60 = false ∧ now (a ++ q ++ b) a.length 63 = false := by
  obtain ⟨c, r, rfl, hc⟩ := name_first h h1
  rw [List.append_assoc, List.cons_append, now_mid, now_mid]
  exact low_ne hc
theorem empty_of {s : ByteArray} (h : s.toList.isEmpty = true) : s = ⟨#[]⟩ := ba_eq (by rw [List.isEmpty_iff.1 h, ByteArray.toList_eq])
theorem head_facts (k : Int) (ks : List T) (h : headOk k ks = true) (hk : ¬ (k = 1 ∨ k = 2)) (h3 : k ≠ 3) :
    nmAll (headS k) = true ∧ 1 ≤ (headS k).length ∧ (headS k).length ≤ 16 ∧ fnKind (strOf (headS k)) = k ∧ k ≠ 0 ∧ ks ≠ [] ∧ (fnKids (strOf (headS k)) = 0 ∨ 0 + ks.length = fnKids (strOf (headS k))) := by
  have hne : ∀ n, ks.length = n + 1 → ks ≠ [] := fun n h e => by rw [e] at h; simp at h
  unfold headOk at h
  by_cases h5 : k = 5
  · subst h5; have hl : ks.length = 2 := by simpa using h
    exact ⟨by kernel_rfl, by decide, by decide, by kernel_rfl, by decide, hne 1 hl, .inr (by rw [hl]; kernel_rfl)⟩
  by_cases h6 : k = 6
  · subst h6; have hl : ks.length = 2 := by simp at h; exact h.1
    exact ⟨by kernel_rfl, by decide, by decide, by kernel_rfl, by decide, hne 1 hl, .inr (by rw [hl]; kernel_rfl)⟩
  by_cases h4 : k = 4
  · subst h4; have hl : ks.length = 1 := by simpa using h
    exact ⟨by kernel_rfl, by decide, by decide, by kernel_rfl, by decide, hne 0 hl, .inr (by rw [hl]; kernel_rfl)⟩
  by_cases h7 : k = 7
  · subst h7
    have hl : 1 ≤ ks.length := by
      rw [if_neg (by decide), if_neg (by decide), if_neg (by decide), if_pos rfl] at h
      simp only [Bool.and_eq_true, decide_eq_true_eq] at h
      exact h.1.1
    exact ⟨by kernel_rfl, by decide, by decide, by kernel_rfl, by decide, (fun e => by rw [e] at hl; simp at hl), .inl (by kernel_rfl)⟩
  rw [if_neg (by omega), if_neg h6, if_neg h4, if_neg h7] at h
  cases h
theorem text_pos : ∀ t : T, t.shape = true → 1 ≤ t.text.length
  | .mk k s ks => fun h => by
    simp only [shape] at h
    simp only [text]
    by_cases h1 : k = 1
    · rw [if_pos (.inl h1), Bool.and_eq_true] at h
      have := h.1; unfold isName at this
      simp only [Bool.and_eq_true, decide_eq_true_eq] at this
      rw [if_pos h1, size_len]; exact this.2.1
    · rw [if_neg h1]
      split
      · simp
      · split
        · (first | (simp; done) | (simp; omega))
        · (first | (simp; done) | (simp; omega))
theorem read_back : ∀ f,
    (∀ t a b, t.shape = true → Follow b → 2 * t.text.length ≤ f → pterm (a ++ t.text ++ b) f a.length = some (.ok (t, a.length + t.text.length))) ∧
    (∀ ks n c a b, ks ≠ [] → shapeAll ks = true → Follow b → b.head? ≠ some 44 → (n = 0 ∨ c + ks.length = n) → 2 * (textAll ks).length + 1 ≤ f →
      pkids (a ++ textAll ks ++ b) f n c a.length = some (.ok (ks, a.length + (textAll ks).length)))
  | 0 => ⟨fun t a b h _ hf => by have := text_pos t h; omega, fun ks n c a b _ _ _ _ _ hf => by omega⟩
  | f + 1 => by
    obtain ⟨ih1, ih2⟩ := read_back f
    refine ⟨fun t a b hs hb hf => ?_, fun ks n c a b hne hs hb hb4 hn hf => ?_⟩
    · obtain ⟨k, s, ks⟩ := t
      simp only [shape] at hs
      simp only [text] at hf ⊢
      by_cases h12 : k = 1 ∨ k = 2
      · rw [if_pos h12, Bool.and_eq_true] at hs
        obtain ⟨hnm, hks⟩ := hs
        have hks : ks = [] := by simpa using hks
        subst hks
        unfold isName at hnm
        simp only [Bool.and_eq_true, decide_eq_true_eq] at hnm
        obtain ⟨hq, h1, h16⟩ := hnm
        have hst : strOf s.data.toList = s := by simp [strOf]
        rw [← size_len] at h1 h16
        rcases h12 with rfl | rfl
        · rw [if_pos rfl]
          obtain ⟨n60, n63⟩ := now_name a s.data.toList b hq h1
          have hend := nameEnd_mid a s.data.toList b hq h16 hb.stop
          simp only [pterm]
          rw [if_neg (by rw [n60]; decide), if_neg (by rw [n63]; decide), hend, if_neg (by omega), nameStr_mid, if_pos (.inr (hb.now a _)), hst]
        · rw [if_neg (by decide), if_pos rfl]
          have e : a ++ (63 :: s.data.toList) ++ b = (a ++ [63]) ++ s.data.toList ++ b := by simp
          have hend := nameEnd_mid (a ++ [63]) s.data.toList b hq h16 hb.stop
          have hstr := nameStr_mid (a ++ [63]) s.data.toList b
          have n60 : now (a ++ (63 :: s.data.toList) ++ b) a.length 60 = false := by rw [List.append_assoc, List.cons_append, now_mid]; decide
          have n63 : now (a ++ (63 :: s.data.toList) ++ b) a.length 63 = true := by rw [List.append_assoc, List.cons_append, now_mid]; decide
          simp only [List.length_append, List.length_cons, List.length_nil] at hend hstr
          rw [← e] at hend hstr
          simp only [pterm]
          rw [if_neg (by rw [n60]; decide), if_pos n63, hend, if_neg (by omega), hstr, hst]
          simp only [List.length_cons]
          congr 3; omega
      · rw [if_neg h12, Bool.and_eq_true, Bool.and_eq_true] at hs
        obtain ⟨⟨hh, he⟩, hsk⟩ := hs
        have hse := empty_of he
        subst hse
        have h1 : ¬ k = 1 := fun e => h12 (.inl e)
        have h2 : ¬ k = 2 := fun e => h12 (.inr e)
        rw [if_neg h1, if_neg h2] at hf ⊢
        by_cases h3 : k = 3
        · subst h3
          rw [if_pos rfl] at hf ⊢
          have hl : ks.length = 2 := by simpa [headOk] using hh
          have hkne : ks ≠ [] := fun e => by rw [e] at hl; simp at hl
          have e : a ++ ([60] ++ textAll ks ++ [62]) ++ b = (a ++ [60]) ++ textAll ks ++ (62 :: b) := by simp
          have n60 : now (a ++ ([60] ++ textAll ks ++ [62]) ++ b) a.length 60 = true := by
            rw [show a ++ ([60] ++ textAll ks ++ [62]) ++ b = a ++ 60 :: (textAll ks ++ [62] ++ b) by simp, now_mid]; decide
          have hk := ih2 ks 2 0 (a ++ [60]) (62 :: b) hkne hsk (.inr (.inr rfl)) (by simp) (.inr (by omega)) (by simp at hf; omega)
          have hnd := need_mid [62] (a ++ [60] ++ textAll ks) b
          have e' : a ++ [60] ++ textAll ks ++ [62] ++ b = a ++ ([60] ++ textAll ks ++ [62]) ++ b := by simp
          rw [e'] at hnd
          rw [← e] at hk
          simp only [List.length_append, List.length_cons, List.length_nil] at hk hnd
          simp only [pterm]
          rw [if_pos n60, close_mid hk hnd]
          simp only [List.length_append, List.length_cons, List.length_nil]
          congr 3; omega
        · rw [if_neg h3] at hf ⊢
          obtain ⟨g1, g2, g3, g4, g5, g6, g7⟩ := head_facts k ks hh h12 h3
          have e1 : a ++ (headS k ++ [40] ++ textAll ks ++ [41]) ++ b = a ++ headS k ++ (40 :: (textAll ks ++ [41] ++ b)) := by simp
          have e2 : a ++ (headS k ++ [40] ++ textAll ks ++ [41]) ++ b = (a ++ headS k ++ [40]) ++ textAll ks ++ (41 :: b) := by simp
          obtain ⟨n60, n63⟩ := now_name a (headS k) (40 :: (textAll ks ++ [41] ++ b)) g1 g2
          have hend := nameEnd_mid a (headS k) (40 :: (textAll ks ++ [41] ++ b)) g1 g3 ⟨by decide, by decide⟩
          have hstr := nameStr_mid a (headS k) (40 :: (textAll ks ++ [41] ++ b))
          have n40 : now (a ++ headS k ++ (40 :: (textAll ks ++ [41] ++ b))) (a.length + (headS k).length) 40 = true := by rw [now_behind]; simp
          have hk := ih2 ks (fnKids (strOf (headS k))) 0 (a ++ headS k ++ [40]) (41 :: b) g6 hsk (.inr (.inl rfl)) (by simp) g7 (by simp at hf; omega)
          have hnd := need_mid [41] (a ++ headS k ++ [40] ++ textAll ks) b
          have e' : a ++ headS k ++ [40] ++ textAll ks ++ [41] ++ b = a ++ (headS k ++ [40] ++ textAll ks ++ [41]) ++ b := by simp
          rw [e'] at hnd
          rw [← e2] at hk
          rw [← e1] at n60 n63 hend hstr n40
          simp only [List.length_append, List.length_cons, List.length_nil] at hk hnd
          simp only [pterm]
          rw [if_neg (by rw [n60]; decide), if_neg (by rw [n63]; decide), hend, if_neg (by omega), hstr, if_neg (by rw [g4, n40]; simp [g5]), g4, close_mid hk hnd]
          simp only [List.length_append, List.length_cons, List.length_nil]
          congr 3; omega
    · cases ks with
      | nil => exact absurd rfl hne
      | cons t r =>
        simp only [shapeAll, Bool.and_eq_true] at hs
        simp only [textAll] at hf ⊢
        cases r with
        | nil =>
          simp only [textTail, List.append_nil] at hf ⊢
          have h := ih1 t a b hs.1 hb (by omega)
          simp only [pkids]
          rw [h]
          have hc : (0 < n ∧ c + 1 = n) ∨ (n = 0 ∧ now (a ++ t.text ++ b) (a.length + t.text.length) 44 = false) := by
            rcases hn with hn | hn
            · refine .inr ⟨hn, ?_⟩
              rw [now_behind, beq_eq_false_iff_ne]; exact hb4
            · simp at hn; exact .inl ⟨by omega, hn⟩
          simp only [if_pos hc]
        | cons t' r' =>
          have e : a ++ (t.text ++ textTail (t' :: r')) ++ b = a ++ t.text ++ (44 :: 32 :: (textAll (t' :: r') ++ b)) := by simp [textTail, textAll]
          have e2 : a ++ (t.text ++ textTail (t' :: r')) ++ b = (a ++ t.text) ++ [44, 32] ++ (textAll (t' :: r') ++ b) := by simp [textTail, textAll]
          have e3 : a ++ (t.text ++ textTail (t' :: r')) ++ b = (a ++ t.text ++ [44, 32]) ++ textAll (t' :: r') ++ b := by simp [textTail, textAll]
          have hlen : (textTail (t' :: r')).length = 2 + (textAll (t' :: r')).length := by simp [textTail, textAll]; omega
          rw [List.length_append, hlen] at hf
          have h := ih1 t a (44 :: 32 :: (textAll (t' :: r') ++ b)) hs.1 (.inl rfl) (by omega)
          have h2 := ih2 (t' :: r') n (c + 1) (a ++ t.text ++ [44, 32]) b (by simp) hs.2 hb hb4 (by rcases hn with hn | hn; exact .inl hn; exact .inr (by simp at hn ⊢; omega)) (by omega)
          have hnd := need_mid [44, 32] (a ++ t.text) (textAll (t' :: r') ++ b)
          have n44 : now (a ++ t.text ++ (44 :: 32 :: (textAll (t' :: r') ++ b))) (a.length + t.text.length) 44 = true := by rw [now_behind]; simp
          rw [← e] at h n44
          rw [← e2] at hnd
          rw [← e3] at h2
          simp only [List.length_append, List.length_cons, List.length_nil] at h2 hnd
          simp only [pkids]
          rw [h]
          have hc : ¬ ((0 < n ∧ c + 1 = n) ∨ (n = 0 ∧ now (a ++ (t.text ++ textTail (t' :: r')) ++ b) (a.length + t.text.length) 44 = false)) := by
            rintro (⟨q1, q2⟩ | ⟨_, q⟩)
            · rcases hn with hn | hn
              · omega
              · simp at hn; omega
            · rw [n44] at q; cases q
          simp only [if_neg hc]
          rw [hnd]
          simp only []
          rw [h2]
          simp only [more, List.length_append, hlen]
          congr 3; omega
end T
end Go.Proofs.YtihbmgkbipeakaaGreat

namespace Go.Proofs.YtihbmgkbipeakaaGreat

namespace T
theorem shapeAll_iff (l : List T) : shapeAll l = true ↔ ∀ t ∈ l, t.shape = true := by
  induction l with
  | nil => simp [shapeAll]
  | cons t r ih => simp [shapeAll, ih]
theorem headOk_map (f : T → T) (hf : ∀ t, (f t).atom = t.atom) (k : Int) (l : List T) : headOk k (l.map f) = headOk k l := by
  have e1 : ((l.map f)[0]?).map atom = (l[0]?).map atom := by cases l <;> simp [hf]
  have e2 : (l.map f).any (fun t => !t.atom) = l.any (fun t => !t.atom) := by
    rw [List.any_map]; congr 1; funext t; simp [hf]
  unfold headOk
  rw [e1, e2, List.length_map]
theorem headOk_perm {l m : List T} (h : l.Perm m) : headOk 7 l = headOk 7 m := by
  have e : l.any (fun t => !t.atom) = m.any (fun t => !t.atom) := by
    rw [Bool.eq_iff_iff, List.any_eq_true, List.any_eq_true]
    exact ⟨fun ⟨t, h1, h2⟩ => ⟨t, h.mem_iff.1 h1, h2⟩, fun ⟨t, h1, h2⟩ => ⟨t, h.mem_iff.2 h1, h2⟩⟩
  unfold headOk
  rw [e, h.length_eq]
  simp
theorem atom_norm (t : T) : t.norm.atom = t.atom := by cases t; rfl
theorem atom_turn (t : T) : t.turn.atom = t.atom := by cases t; rfl
theorem turnAll_map : ∀ l : List T, turnAll l = l.map turn
  | [] => rfl
  | t :: r => by simp only [turnAll, List.map_cons, turnAll_map r]
theorem sizeAll_perm {l m : List T} (h : l.Perm m) : sizeAll l = sizeAll m := by
  induction h with
  | nil => rfl
  | cons x _ ih => simp only [sizeAll, ih]
  | swap x y l => simp only [sizeAll]; omega
  | trans _ _ ih1 ih2 => exact ih1.trans ih2
theorem bulkAll_perm {l m : List T} (h : l.Perm m) : bulkAll l = bulkAll m := by
  induction h with
  | nil => rfl
  | cons x _ ih => simp only [bulkAll, ih]
  | swap x y l => simp only [bulkAll]; omega
  | trans _ _ ih1 ih2 => exact ih1.trans ih2
mutual
theorem size_norm : ∀ t : T, t.norm.size = t.size
  | .mk k s ks => by
    simp only [norm, size]
    split
    · rw [sizeAll_perm (isort_perm _), size_normAll ks]
    · rw [size_normAll ks]
theorem size_normAll : ∀ l : List T, sizeAll (normAll l) = sizeAll l
  | [] => rfl
  | t :: r => by simp only [normAll, sizeAll, size_norm t, size_normAll r]
end
mutual
theorem size_turn : ∀ t : T, t.turn.size = t.size
  | .mk k s ks => by
    simp only [turn, size]
    split
    · rw [sizeAll_perm (List.reverse_perm _)]
    · rw [size_turnAll ks]
theorem size_turnAll : ∀ l : List T, sizeAll (turnAll l) = sizeAll l
  | [] => rfl
  | t :: r => by simp only [turnAll, sizeAll, size_turn t, size_turnAll r]
end
mutual
theorem bulk_turn : ∀ t : T, t.turn.bulk = t.bulk
  | .mk k s ks => by
    simp only [turn, bulk]
    split
    · rw [bulkAll_perm (List.reverse_perm _)]
    · rw [bulk_turnAll ks]
theorem bulk_turnAll : ∀ l : List T, bulkAll (turnAll l) = bulkAll l
  | [] => rfl
  | t :: r => by simp only [turnAll, bulkAll, bulk_turn t, bulk_turnAll r]
end
mutual
theorem shape_norm : ∀ t : T, t.shape = true → t.norm.shape = true
  | .mk k s ks => fun h => by
    simp only [shape] at h
    simp only [norm, shape]
    by_cases h12 : k = 1 ∨ k = 2
    · rw [if_pos h12] at h ⊢
      have h7 : ¬ k = 7 := by omega
      rw [if_neg h7]
      rw [normAll_map, List.length_map]; exact h
    · rw [if_neg h12] at h ⊢
      simp only [Bool.and_eq_true] at h ⊢
      obtain ⟨⟨hh, he⟩, hk⟩ := h
      have hk' := shape_normAll ks hk
      have hh' : headOk k (normAll ks) = true := by rw [normAll_map, headOk_map norm atom_norm]; exact hh
      by_cases h7 : k = 7
      · subst h7
        rw [if_pos rfl]
        refine ⟨⟨by rw [headOk_perm (isort_perm _)]; exact hh', he⟩, ?_⟩
        rw [shapeAll_iff] at hk' ⊢
        exact fun t ht => hk' t ((isort_perm _).mem_iff.1 ht)
      · rw [if_neg h7]; exact ⟨⟨hh', he⟩, hk'⟩
theorem shape_normAll : ∀ l : List T, shapeAll l = true → shapeAll (normAll l) = true
  | [] => fun _ => rfl
  | t :: r => fun h => by
    simp only [shapeAll, normAll, Bool.and_eq_true] at h ⊢
    exact ⟨shape_norm t h.1, shape_normAll r h.2⟩
end
mutual
theorem shape_turn : ∀ t : T, t.shape = true → t.turn.shape = true
  | .mk k s ks => fun h => by
    simp only [shape] at h
    simp only [turn, shape]
    by_cases h12 : k = 1 ∨ k = 2
    · rw [if_pos h12] at h ⊢
      have h7 : ¬ k = 7 := by omega
      rw [if_neg h7]
      rw [turnAll_map, List.length_map]; exact h
    · rw [if_neg h12] at h ⊢
      simp only [Bool.and_eq_true] at h ⊢
      obtain ⟨⟨hh, he⟩, hk⟩ := h
      by_cases h7 : k = 7
      · subst h7
        rw [if_pos rfl]
        refine ⟨⟨by rw [headOk_perm (List.reverse_perm _)]; exact hh, he⟩, ?_⟩
        rw [shapeAll_iff] at hk ⊢
        exact fun t ht => hk t (List.mem_reverse.1 ht)
      · rw [if_neg h7]
        refine ⟨⟨by rw [turnAll_map, headOk_map turn atom_turn]; exact hh, he⟩, shape_turnAll ks hk⟩
theorem shape_turnAll : ∀ l : List T, shapeAll l = true → shapeAll (turnAll l) = true
  | [] => fun _ => rfl
  | t :: r => fun h => by
    simp only [shapeAll, turnAll, Bool.and_eq_true] at h ⊢
    exact ⟨shape_turn t h.1, shape_turnAll r h.2⟩
end
end T
end Go.Proofs.YtihbmgkbipeakaaGreat

namespace Go.Proofs.YtihbmgkbipeakaaGreat

namespace T
theorem key_inj {t t' : T} (h : t.valid = true) (h' : t'.valid = true) (e : t.key = t'.key) : t = t' := by
  unfold key at e
  rw [if_pos h, if_pos h'] at e
  have e2 : t.text = t'.text := by rw [← strOf_data t.text, e, strOf_data]
  have hs : t.shape = true := (Bool.and_eq_true_iff.1 h).2
  have hs' : t'.shape = true := (Bool.and_eq_true_iff.1 h').2
  have h1 := (read_back (2 * t.text.length)).1 t [] [] hs trivial (Nat.le_refl _)
  have h2 := (read_back (2 * t.text.length)).1 t' [] [] hs' trivial (by rw [e2]; exact Nat.le_refl _)
  rw [e2] at h1 h2
  rw [h1] at h2
  injection h2 with h2
  injection h2 with h2
  exact (Prod.mk.inj h2).1
/-- Lists without some elements. -/
def subl : List T → List (List T)
  | [] => [[]]
  | a :: r => subl r ++ (subl r).map (a :: ·)
theorem mem_subl : ∀ {l m : List T}, l.Sublist m → l ∈ subl m
  | _, _, .slnil => by simp [subl]
  | _, _, .cons a h => by simp only [subl]; exact List.mem_append_left _ (mem_subl h)
  | _, _, .cons_cons a h => by simp only [subl]; exact List.mem_append_right _ (List.mem_map.2 ⟨_, mem_subl h, rfl⟩)
theorem subl_mem : ∀ {m l : List T}, l ∈ subl m → l.Sublist m
  | [], l, h => by simp [subl] at h; subst h; exact List.Sublist.slnil
  | a :: r, l, h => by
    simp only [subl] at h
    rcases List.mem_append.1 h with h | h
    · exact (subl_mem h).cons a
    · obtain ⟨l', h', rfl⟩ := List.mem_map.1 h
      exact (subl_mem h').cons_cons a
theorem subl_len : ∀ m : List T, (subl m).length = 2 ^ m.length
  | [] => rfl
  | a :: r => by simp only [subl, List.length_append, List.length_map, subl_len r, List.length_cons, Nat.pow_succ]; omega
mutual
/-- All that a term is made of, and powers with less exponents. -/
def subs : T → List T
  | .mk k s ks => .mk k s ks :: (subsAll ks ++ if k = 7 then ((subl ks).filter fun l => !l.isEmpty).map (T.mk 7 ⟨#[]⟩) else [])
def subsAll : List T → List T
  | [] => []
  | t :: r => subs t ++ subsAll r
end
theorem mem_subsAll {l : List T} {x : T} : x ∈ subsAll l ↔ ∃ t ∈ l, x ∈ subs t := by
  induction l with
  | nil => simp [subsAll]
  | cons a r ih => simp only [subsAll, List.mem_append, ih, List.mem_cons]; constructor
                   · rintro (h | ⟨t, h1, h2⟩)
                     · exact ⟨a, .inl rfl, h⟩
                     · exact ⟨t, .inr h1, h2⟩
                   · rintro ⟨t, rfl | h1, h2⟩
                     · exact .inl h2
                     · exact .inr ⟨t, h1, h2⟩
theorem subs_self (t : T) : t ∈ subs t := by cases t; simp [subs]
theorem kid_mem {t : T} {i : Nat} (h : i < t.kids.length) : t.kid i ∈ t.kids := by
  unfold kid
  rw [List.getD_eq_getElem?_getD, List.getElem?_eq_getElem h]
  exact List.getElem_mem h
end T
/-- A set of terms with all their kids, and the powers with less exponents. -/
structure Uni (U : List T) : Prop where
  kid : ∀ t ∈ U, ∀ i, i < t.kids.length → t.kid i ∈ U
  less : ∀ t ∈ U, t.kind = 7 → 1 < t.kids.length → ∀ i, i < t.kids.length → t.lessOf i ∈ U
  ok : ∀ t ∈ U, t.valid = true
  size : U.length ≤ 1048576
mutual
theorem subs_closed : ∀ (t x : T), x ∈ T.subs t → (∀ i, i < x.kids.length → x.kid i ∈ T.subs t) ∧ (x.kind = 7 → 1 < x.kids.length → ∀ i, i < x.kids.length → x.lessOf i ∈ T.subs t)
  | .mk k s ks, x, h => by
    have hk : ∀ y ∈ ks, y ∈ T.subs (.mk k s ks) := fun y hy => by
      simp only [T.subs]
      exact List.mem_cons_of_mem _ (List.mem_append_left _ (T.mem_subsAll.2 ⟨y, hy, T.subs_self y⟩))
    have hl : ∀ l : List T, k = 7 → l.Sublist ks → l ≠ [] → T.mk 7 ⟨#[]⟩ l ∈ T.subs (.mk k s ks) := fun l h7 hs hn => by
      simp only [T.subs]
      rw [if_pos h7]
      exact List.mem_cons_of_mem _ (List.mem_append_right _ (List.mem_map.2 ⟨l, List.mem_filter.2 ⟨T.mem_subl hs, by cases l <;> simp at hn ⊢⟩, rfl⟩))
    have hle : ∀ l : List T, 1 < l.length → ∀ i, i < l.length → l.eraseIdx i ≠ [] := fun l h1 i hi e => by
      have := congrArg List.length e
      rw [List.length_eraseIdx_of_lt hi] at this
      simp at this
      omega
    have h' := h
    simp only [T.subs] at h'
    rcases List.mem_cons.1 h' with rfl | h'
    · refine ⟨fun i hi => hk _ (T.kid_mem hi), fun h7 h1 i hi => ?_⟩
      exact hl _ h7 (List.eraseIdx_sublist _ _) (hle _ h1 i hi)
    · rcases List.mem_append.1 h' with h' | h'
      · have := subsAll_closed ks x h'
        simp only [T.subs]
        exact ⟨fun i hi => List.mem_cons_of_mem _ (List.mem_append_left _ (this.1 i hi)), fun h7 h1 i hi => List.mem_cons_of_mem _ (List.mem_append_left _ (this.2 h7 h1 i hi))⟩
      · split at h'
        · rename_i h7
          obtain ⟨l, hl', rfl⟩ := List.mem_map.1 h'
          obtain ⟨h1, h2⟩ := List.mem_filter.1 hl'
          have hs := T.subl_mem h1
          refine ⟨fun i hi => hk _ (hs.subset (T.kid_mem hi)), fun _ hlen i hi => ?_⟩
          exact hl _ h7 ((List.eraseIdx_sublist _ _).trans hs) (hle _ hlen i hi)
        · cases h'
theorem subsAll_closed : ∀ (l : List T) (x : T), x ∈ T.subsAll l → (∀ i, i < x.kids.length → x.kid i ∈ T.subsAll l) ∧ (x.kind = 7 → 1 < x.kids.length → ∀ i, i < x.kids.length → x.lessOf i ∈ T.subsAll l)
  | [], x, h => by simp [T.subsAll] at h
  | t :: r, x, h => by
    simp only [T.subsAll] at h ⊢
    rcases List.mem_append.1 h with h | h
    · have := subs_closed t x h
      exact ⟨fun i hi => List.mem_append_left _ (this.1 i hi), fun h7 h1 i hi => List.mem_append_left _ (this.2 h7 h1 i hi)⟩
    · have := subsAll_closed r x h
      exact ⟨fun i hi => List.mem_append_right _ (this.1 i hi), fun h7 h1 i hi => List.mem_append_right _ (this.2 h7 h1 i hi)⟩
end
end Go.Proofs.YtihbmgkbipeakaaGreat

namespace Go.Proofs.YtihbmgkbipeakaaGreat

namespace T
theorem sizeAll_sub {l m : List T} (h : l.Sublist m) : sizeAll l ≤ sizeAll m := by
  induction h with
  | slnil => exact Nat.le_refl _
  | cons a _ ih => simp only [sizeAll]; omega
  | cons_cons a _ ih => simp only [sizeAll]; omega
theorem shapeK {t : T} (h : t.shape = true) : (t.kind = 1 ∨ t.kind = 2) ∧ t.kids.length = 0 ∨ (t.kind = 3 ∨ t.kind = 5 ∨ t.kind = 6) ∧ t.kids.length = 2 ∨ t.kind = 4 ∧ t.kids.length = 1 ∨ t.kind = 7 ∧ 1 ≤ t.kids.length ∧ t.kids.length ≤ 4 := by
  obtain ⟨k, s, ks⟩ := t
  simp only [shape] at h
  split at h
  · rename_i h12
    rw [Bool.and_eq_true, beq_iff_eq] at h
    exact .inl ⟨h12, h.2⟩
  · rename_i h12
    rw [Bool.and_eq_true, Bool.and_eq_true] at h
    have h1 := h.1.1
    unfold headOk at h1
    simp only [kind, kids]
    by_cases h3 : k = 3 ∨ k = 5
    · rw [if_pos h3, beq_iff_eq] at h1
      exact .inr (.inl ⟨by omega, h1⟩)
    · rw [if_neg h3] at h1
      by_cases h6 : k = 6
      · rw [if_pos h6, Bool.and_eq_true, beq_iff_eq] at h1
        exact .inr (.inl ⟨by omega, h1.1⟩)
      · rw [if_neg h6] at h1
        by_cases h4 : k = 4
        · rw [if_pos h4, beq_iff_eq] at h1
          exact .inr (.inr (.inl ⟨h4, h1⟩))
        · rw [if_neg h4] at h1
          by_cases h7 : k = 7
          · rw [if_pos h7, Bool.and_eq_true, Bool.and_eq_true, decide_eq_true_eq, decide_eq_true_eq] at h1
            exact .inr (.inr (.inr ⟨h7, h1.1.1, h1.1.2⟩))
          · rw [if_neg h7] at h1; cases h1
theorem shape_pow {k : Int} {s : ByteArray} {ks l : List T} (h : (T.mk k s ks).shape = true) (h7 : k = 7) (hs : l.Sublist ks) (hn : l ≠ []) : (T.mk 7 ⟨#[]⟩ l).shape = true := by
  subst h7
  have hl := hs.length_le
  have hp := List.length_pos_iff.2 hn
  simp only [shape] at h ⊢
  rw [if_neg (by decide), Bool.and_eq_true, Bool.and_eq_true] at h
  rw [if_neg (by decide), Bool.and_eq_true, Bool.and_eq_true]
  obtain ⟨⟨h1, _⟩, h3⟩ := h
  unfold headOk at h1 ⊢
  rw [if_neg (by decide), if_neg (by decide), if_neg (by decide), if_pos rfl, Bool.and_eq_true, Bool.and_eq_true, decide_eq_true_eq, decide_eq_true_eq] at h1
  rw [if_neg (by decide), if_neg (by decide), if_neg (by decide), if_pos rfl, Bool.and_eq_true, Bool.and_eq_true, decide_eq_true_eq, decide_eq_true_eq]
  refine ⟨⟨⟨⟨by omega, by omega⟩, ?_⟩, by kernel_rfl⟩, ?_⟩
  · have h2 := h1.2
    rw [Bool.not_eq_true', List.any_eq_false] at h2 ⊢
    exact fun x hx => h2 x (hs.subset hx)
  · rw [shapeAll_iff] at h3 ⊢
    exact fun x hx => h3 x (hs.subset hx)
mutual
theorem subs_shape : ∀ (t : T), t.shape = true → ∀ x ∈ subs t, x.shape = true ∧ x.size ≤ t.size
  | .mk k s ks, h, x, hx => by
    simp only [subs] at hx
    rcases List.mem_cons.1 hx with rfl | hx
    · exact ⟨h, Nat.le_refl _⟩
    · have hk : shapeAll ks = true := by
        have h' := h
        simp only [shape] at h'
        split at h'
        · rw [Bool.and_eq_true, beq_iff_eq] at h'
          rw [List.eq_nil_of_length_eq_zero h'.2]; rfl
        · rw [Bool.and_eq_true] at h'; exact h'.2
      rcases List.mem_append.1 hx with hx | hx
      · have := subsAll_shape ks hk x hx
        exact ⟨this.1, by simp only [size]; omega⟩
      · split at hx
        · rename_i h7
          obtain ⟨l, hl, rfl⟩ := List.mem_map.1 hx
          obtain ⟨h1, h2⟩ := List.mem_filter.1 hl
          have hs := subl_mem h1
          have := sizeAll_sub hs
          exact ⟨shape_pow h h7 hs (by rintro rfl; simp at h2), by simp only [size]; omega⟩
        · cases hx
theorem subsAll_shape : ∀ (l : List T), shapeAll l = true → ∀ x ∈ subsAll l, x.shape = true ∧ x.size ≤ sizeAll l
  | [], _, x, hx => by simp [subsAll] at hx
  | t :: r, h, x, hx => by
    simp only [shapeAll, Bool.and_eq_true] at h
    simp only [subsAll] at hx
    rcases List.mem_append.1 hx with hx | hx
    · have := subs_shape t h.1 x hx
      exact ⟨this.1, by simp only [sizeAll]; omega⟩
    · have := subsAll_shape r h.2 x hx
      exact ⟨this.1, by simp only [sizeAll]; omega⟩
end
mutual
theorem subs_len : ∀ (t : T), t.shape = true → (subs t).length ≤ 17 * t.size
  | .mk k s ks, h => by
    have hsk := shapeK h
    have hk : shapeAll ks = true := by
      have h' := h
      simp only [shape] at h'
      split at h'
      · rw [Bool.and_eq_true, beq_iff_eq] at h'
        rw [List.eq_nil_of_length_eq_zero h'.2]; rfl
      · rw [Bool.and_eq_true] at h'; exact h'.2
    have h1 := subsAll_len ks hk
    simp only [subs, size, List.length_cons, List.length_append]
    simp only [kind, kids] at hsk
    split
    · rename_i h7
      have h2 : (((subl ks).filter fun l => !l.isEmpty).map (T.mk 7 ⟨#[]⟩)).length ≤ 16 := by
        rw [List.length_map]
        refine Nat.le_trans (List.length_filter_le _ _) ?_
        rw [subl_len]
        exact Nat.le_trans (Nat.pow_le_pow_right (by decide) (show ks.length ≤ 4 by omega)) (by decide)
      omega
    · simp only [List.length_nil]; omega
theorem subsAll_len : ∀ (l : List T), shapeAll l = true → (subsAll l).length ≤ 17 * sizeAll l
  | [], _ => by simp [subsAll, sizeAll]
  | t :: r, h => by
    simp only [shapeAll, Bool.and_eq_true] at h
    have h1 := subs_len t h.1
    have h2 := subsAll_len r h.2
    simp only [subsAll, sizeAll, List.length_append]; omega
end
end T
theorem sizeAll_le_ (l : List T) (h : ∀ t ∈ l, t.size ≤ 40) : T.sizeAll l ≤ 40 * l.length := by
  induction l with
  | nil => simp [T.sizeAll]
  | cons a r ih =>
    have := ih fun t ht => h t (List.mem_cons_of_mem _ ht)
    have := h a (by simp)
    simp only [T.sizeAll, List.length_cons]; omega
/-- The closed set of some terms. -/
theorem uni_of {ts : List T} (hv : ∀ t ∈ ts, t.valid = true) (hl : ts.length ≤ 1000) : Uni (T.subsAll ts) := by
  have hsh : T.shapeAll ts = true := (T.shapeAll_iff ts).2 fun t ht => (Bool.and_eq_true_iff.1 (hv t ht)).2
  refine ⟨fun t ht i hi => (subsAll_closed ts t ht).1 i hi, fun t ht h7 h1 i hi => (subsAll_closed ts t ht).2 h7 h1 i hi, fun x hx => ?_, ?_⟩
  · obtain ⟨t, ht, hxt⟩ := T.mem_subsAll.1 hx
    have h1 := Bool.and_eq_true_iff.1 (hv t ht)
    have h2 := T.subs_shape t h1.2 x hxt
    have h3 := of_decide_eq_true h1.1
    unfold T.valid
    rw [Bool.and_eq_true]
    exact ⟨decide_eq_true (by omega), h2.1⟩
  · have h1 := T.subsAll_len ts hsh
    have h2 := sizeAll_le_ ts fun t ht => of_decide_eq_true (Bool.and_eq_true_iff.1 (hv t ht)).1
    omega
theorem nodup_le {α : Type} [DecidableEq α] : ∀ {l m : List α}, l.Nodup → (∀ x ∈ l, x ∈ m) → l.length ≤ m.length
  | [], _, _, _ => Nat.zero_le _
  | a :: r, m, hn, h => by
    have ha := h a (by simp)
    obtain ⟨h1, h2⟩ := List.nodup_cons.1 hn
    have := nodup_le (l := r) (m := m.erase a) h2 fun x hx => by
      have hne : x ≠ a := fun e => h1 (by rw [← e]; exact hx)
      exact (List.mem_erase_of_ne hne).2 (h x (List.mem_cons_of_mem _ hx))
    rw [List.length_erase_of_mem ha] at this
    have := List.length_pos_of_mem ha
    simp only [List.length_cons]; omega
/-- The steps' terms are apart, and of the set. -/
structure Inv (U : List T) (W : List Stp) : Prop where
  apart : (W.map fun s => s.t.key).Nodup
  mem : ∀ s ∈ W, s.t ∈ U
theorem Inv.nil (U : List T) : Inv U [] := ⟨List.nodup_nil, fun s h => by cases h⟩
theorem Inv.len {U : List T} {W : List Stp} (h : Inv U W) : W.length ≤ U.length := by
  have := nodup_le (l := W.map fun s => s.t.key) (m := U.map T.key) h.apart fun x hx => by
    obtain ⟨s, hs, rfl⟩ := List.mem_map.1 hx
    exact List.mem_map.2 ⟨_, h.mem s hs, rfl⟩
  rwa [List.length_map, List.length_map] at this
theorem findK_none {W : List Stp} {k : ByteArray} (h : findK W k = none) : ∀ s ∈ W, s.t.key ≠ k := fun s hs e => by
  unfold findK at h
  rw [List.findIdx?_eq_none_iff] at h
  have := h s hs
  rw [decide_eq_false_iff_not] at this
  exact this e
theorem findK_get {W : List Stp} {k : ByteArray} {i : Nat} (h : findK W k = some i) : ∃ hi : i < W.length, W[i].t.key = k := by
  unfold findK at h
  rw [List.findIdx?_eq_some_iff_getElem] at h
  obtain ⟨hi, h1, _⟩ := h
  exact ⟨hi, of_decide_eq_true h1⟩
theorem Inv.push {U : List T} {W : List Stp} (h : Inv U W) (s : Stp) (hs : s.t ∈ U) (hn : findK W s.t.key = none) : Inv U (W ++ [s]) := by
  refine ⟨?_, fun x hx => ?_⟩
  · rw [List.map_append]
    refine List.nodup_append.2 ⟨h.apart, by simp, fun a ha b hb => ?_⟩
    simp only [List.map_cons, List.map_nil, List.mem_singleton] at hb
    obtain ⟨x, hx, rfl⟩ := List.mem_map.1 ha
    rw [hb]; exact findK_none hn x hx
  · rcases List.mem_append.1 hx with hx | hx
    · exact h.mem x hx
    · rw [List.mem_singleton] at hx; rw [hx]; exact hs
theorem map_key_mark (W : List Stp) (i : Nat) : (Wb.mark W i).map (fun s => s.t.key) = W.map fun s => s.t.key := by
  apply List.ext_getElem
  · rw [List.length_map, List.length_map, mark_len]
  · intro j h1 h2
    rw [List.getElem_map, List.getElem_map]
    have h3 : j < W.length := by simpa using h2
    rw [(mark_t W i j (by rw [mark_len]; exact h3) h3).1]
theorem Inv.mark {U : List T} {W : List Stp} (h : Inv U W) (i : Nat) : Inv U (Wb.mark W i) := by
  refine ⟨by rw [map_key_mark]; exact h.apart, fun x hx => ?_⟩
  obtain ⟨j, hj, rfl⟩ := List.getElem_of_mem hx
  have h3 : j < W.length := by rwa [mark_len] at hj
  rw [(mark_t W i j hj h3).1]
  exact h.mem _ (List.getElem_mem h3)
namespace Wb
theorem add_some {W : List Stp} {t : T} {how : Nat} {frm : List Nat} {i : Nat} (h : find W t = some i) : add W t how frm = (W, i) := by unfold add; rw [h]
theorem add_none {W : List Stp} {t : T} {how : Nat} {frm : List Nat} (h : find W t = none) : add W t how frm = (W ++ [⟨t, how, frm, false⟩], W.length) := by unfold add; rw [h]
theorem add_inv {U : List T} {W : List Stp} {t : T} (how : Nat) (frm : List Nat) (h : Inv U W) (ht : t ∈ U) : Inv U (add W t how frm).1 := by
  cases hf : find W t with
  | some i => rw [add_some hf]; exact h
  | none => rw [add_none hf]; exact h.push _ ht hf
theorem add_pre (W : List Stp) (t : T) (how : Nat) (frm : List Nat) : W <+: (add W t how frm).1 ∧ (add W t how frm).2 < (add W t how frm).1.length := by
  cases hf : find W t with
  | some i => rw [add_some hf]; exact ⟨List.prefix_refl _, findK_lt hf⟩
  | none => rw [add_none hf]; exact ⟨List.prefix_append _ _, by simp⟩
theorem take_inv {U : List T} {W : List Stp} {t : T} (how : Nat) (frm : List Nat) (h : Inv U W) (ht : t ∈ U) : Inv U (take W t how frm).1 := by
  unfold take
  split
  · exact add_inv how frm h ht
  · exact (add_inv how frm h ht).mark _
theorem take_len (W : List Stp) (t : T) (how : Nat) (frm : List Nat) : W.length ≤ (take W t how frm).1.length := by
  have := (add_pre W t how frm).1.length_le
  unfold take
  split
  · exact this
  · rw [mark_len]; exact this
/-- What holds of a function that puts terms together. -/
def Puts (U : List T) (rec : List Stp → T → List Stp × Option Nat) (t : T) : Prop := ∀ W, Inv U W → Inv U (rec W t).1 ∧ W <+: (rec W t).1 ∧ ∀ i, (rec W t).2 = some i → i < (rec W t).1.length
theorem both_puts {U : List T} {rec : List Stp → T → List Stp × Option Nat} {t : T} (how : Nat) (ht : t ∈ U) (h0 : Puts U rec (t.kid 0)) (h1 : Puts U rec (t.kid 1)) : Puts U (fun W t => both rec W t how) t := fun W hW => by
  obtain ⟨a1, a2, a3⟩ := h0 W hW
  obtain ⟨b1, b2, b3⟩ := h1 _ a1
  cases ha : (rec W (t.kid 0)).2 with
  | none =>
    simp only [both, ha]
    exact ⟨a1, a2, fun i h => by cases h⟩
  | some a =>
    cases hb : (rec (rec W (t.kid 0)).1 (t.kid 1)).2 with
    | none =>
      simp only [both, ha, hb]
      exact ⟨b1, a2.trans b2, fun i h => by cases h⟩
    | some b =>
      simp only [both, ha, hb]
      have hp := add_pre (rec (rec W (t.kid 0)).1 (t.kid 1)).1 t how [a, b]
      exact ⟨add_inv _ _ b1 ht, (a2.trans b2).trans hp.1, fun i h => by injection h with h; rw [← h]; exact hp.2⟩
theorem pow_puts {U : List T} {rec : List Stp → T → List Stp × Option Nat} {t : T} (ht : t ∈ U) (hl : ∀ i, i < t.kids.length → 1 < t.kids.length → Puts U rec (t.lessOf i)) : ∀ (f i : Nat), f + i = t.kids.length → Puts U (fun W _ => pow rec t f i W) t
  | 0, i, _, W, hW => ⟨hW, List.prefix_refl _, fun j h => by cases h⟩
  | f + 1, i, hfi, W, hW => by
    have ih := pow_puts ht hl f (i + 1) (by omega)
    simp only [pow]
    split
    · exact ih W hW
    · rename_i nm hnm
      split
      · have hp := add_pre W t 11 [nm]
        exact ⟨add_inv _ _ hW ht, hp.1, fun j h => by injection h with h; rw [← h]; exact hp.2⟩
      · rename_i h1
        obtain ⟨a1, a2, a3⟩ := hl i (by omega) (by omega) W hW
        split
        · obtain ⟨b1, b2, b3⟩ := ih _ a1
          exact ⟨b1, a2.trans b2, b3⟩
        · rename_i p hp
          have hq := add_pre (rec W (t.lessOf i)).1 t 10 [p, nm]
          exact ⟨add_inv _ _ a1 ht, a2.trans hq.1, fun j h => by injection h with h; rw [← h]; exact hq.2⟩
theorem build_puts {U : List T} (hU : Uni U) : ∀ (n : Nat) (t : T), t ∈ U → Puts U (build n) t
  | 0, t, _, W, hW => ⟨hW, List.prefix_refl _, fun j h => by cases h⟩
  | n + 1, t, ht, W, hW => by
    have hs := T.shapeK (Bool.and_eq_true_iff.1 (hU.ok t ht)).2
    have ihk : ∀ i, i < t.kids.length → Puts U (build n) (t.kid i) := fun i hi => build_puts hU n _ (hU.kid t ht i hi)
    simp only [build]
    split
    · rename_i i hi
      exact ⟨hW, List.prefix_refl _, fun j h => by injection h with h; rw [← h]; exact findK_lt hi⟩
    · split
      · rename_i h4
        obtain ⟨a1, a2, a3⟩ := ihk 0 (by omega) W hW
        split
        · exact ⟨a1, a2, fun i h => by cases h⟩
        · rename_i m hm
          have hp := add_pre (build n W (t.kid 0)).1 t 7 [m]
          exact ⟨add_inv _ _ a1 ht, a2.trans hp.1, fun i h => by injection h with h; rw [← h]; exact hp.2⟩
      · split
        · exact both_puts 6 ht (ihk 0 (by omega)) (ihk 1 (by omega)) W hW
        · split
          · exact both_puts 8 ht (ihk 0 (by omega)) (ihk 1 (by omega)) W hW
          · split
            · exact both_puts 9 ht (ihk 0 (by omega)) (ihk 1 (by omega)) W hW
            · split
              · rename_i h7
                exact pow_puts ht (fun i hi h1 => build_puts hU n _ (hU.less t ht h7 h1 i hi)) t.kids.length 0 rfl W hW
              · exact ⟨hW, List.prefix_refl _, fun j h => by cases h⟩
end Wb
end Go.Proofs.YtihbmgkbipeakaaGreat
