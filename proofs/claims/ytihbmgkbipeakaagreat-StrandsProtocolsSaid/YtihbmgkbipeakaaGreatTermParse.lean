/- Chapter 40: reading terms, plain. -/
import Derived.Test.YtihbmgkbipeakaaGreatTermStrOf
namespace Go.Proofs.YtihbmgkbipeakaaGreat
open Go.RowKit

namespace T
/-- The next byte is c. -/
def now (l : List UInt8) (i : Nat) (c : UInt8) : Bool := l[i]? == some c
/-- Passing over a text: the place behind it, or the place of the first byte that differs. -/
def need (l : List UInt8) : List UInt8 → Nat → Except Nat Nat
  | [], i => .ok i
  | c :: cs, i => if now l i c = true then need l cs (i + 1) else .error i
/-- May the byte at i stand in a name that begins at fr? -/
def nameOk (l : List UInt8) (fr i : Nat) : Bool := low (l.getD i 0) || (decide (fr < i) && dig (l.getD i 0))
def nameRun (l : List UInt8) (fr : Nat) : Nat → Nat → Nat
  | 0, i => i
  | n + 1, i => if i < l.length ∧ nameOk l fr i = true then nameRun l fr n (i + 1) else i
def nameEnd (l : List UInt8) (i : Nat) : Nat := nameRun l i 16 i
def nameStr (l : List UInt8) (i j : Nat) : ByteArray := strOf ((l.drop i).take (j - i))
/-- What a word in front of a parenthesis means. -/
def fnKind (s : ByteArray) : Int := if s = ⟨#[104, 97, 115, 104]⟩ then 4 else if s = ⟨#[115, 101, 97, 108]⟩ then 5 else if s = ⟨#[115, 105, 103, 110]⟩ then 6 else if s = ⟨#[112, 111, 119, 101, 114]⟩ then 7 else 0
def fnKids (s : ByteArray) : Nat := if s = ⟨#[104, 97, 115, 104]⟩ then 1 else if s = ⟨#[115, 101, 97, 108]⟩ then 2 else if s = ⟨#[115, 105, 103, 110]⟩ then 2 else 0
/-- A term with kids that stand between two signs. -/
def close (l : List UInt8) (k : Int) (c : UInt8) : Option (Except Nat (List T × Nat)) → Option (Except Nat (T × Nat))
  | none => none
  | some (.error e) => some (.error e)
  | some (.ok (ks, j)) => match need l [c] j with
    | .error e => some (.error e)
    | .ok j' => some (.ok (.mk k ⟨#[]⟩ ks, j'))
/-- More kids behind a comma. -/
def more (t : T) : Option (Except Nat (List T × Nat)) → Option (Except Nat (List T × Nat))
  | none => none
  | some (.error e) => some (.error e)
  | some (.ok (ks, j)) => some (.ok (t :: ks, j))
mutual
def pterm (l : List UInt8) : Nat → Nat → Option (Except Nat (T × Nat))
  | 0, _ => none
  | f + 1, i =>
    if now l i 60 = true then close l 3 62 (pkids l f 2 0 (i + 1))
    else if now l i 63 = true then (if nameEnd l (i + 1) = i + 1 then some (.error (i + 1)) else some (.ok (.mk 2 (nameStr l (i + 1) (nameEnd l (i + 1))) [], nameEnd l (i + 1))))
    else if nameEnd l i = i then some (.error i)
    else if fnKind (nameStr l i (nameEnd l i)) = 0 ∨ now l (nameEnd l i) 40 = false then some (.ok (.mk 1 (nameStr l i (nameEnd l i)) [], nameEnd l i))
    else close l (fnKind (nameStr l i (nameEnd l i))) 41 (pkids l f (fnKids (nameStr l i (nameEnd l i))) 0 (nameEnd l i + 1))
def pkids (l : List UInt8) : Nat → Nat → Nat → Nat → Option (Except Nat (List T × Nat))
  | 0, _, _, _ => none
  | f + 1, n, c, i => match pterm l f i with
    | none => none
    | some (.error e) => some (.error e)
    | some (.ok (t, j)) =>
      if (0 < n ∧ c + 1 = n) ∨ (n = 0 ∧ now l j 44 = false) then some (.ok ([t], j))
      else match need l [44, 32] j with
        | .error e => some (.error e)
        | .ok j' => more t (pkids l f n (c + 1) j')
end
theorem now_lt {l : List UInt8} {i : Nat} {c : UInt8} (h : now l i c = true) : i < l.length := by
  unfold now at h
  rcases Nat.lt_or_ge i l.length with g | g
  · exact g
  · rw [List.getElem?_eq_none g] at h; cases h
theorem need_ok {l : List UInt8} : ∀ (q : List UInt8) (i j : Nat), need l q i = .ok j → j = i + q.length ∧ (q ≠ [] → j ≤ l.length)
  | [], i, j, h => by injection h with h; subst h; simp
  | c :: cs, i, j, h => by
    simp only [need] at h
    split at h
    · rename_i hn
      obtain ⟨h1, h2⟩ := need_ok cs (i + 1) j h
      refine ⟨by simp; omega, fun _ => ?_⟩
      have := now_lt hn
      cases cs with
      | nil => simp at h1; omega
      | cons d ds => exact h2 (by simp)
    · cases h
theorem need_err {l : List UInt8} : ∀ (q : List UInt8) (i j : Nat), need l q i = .error j → i ≤ j ∧ j ≤ i + q.length ∧ (i ≤ l.length → j ≤ l.length)
  | [], i, j, h => by cases h
  | c :: cs, i, j, h => by
    simp only [need] at h
    split at h
    · rename_i hn
      obtain ⟨h1, h2, h3⟩ := need_err cs (i + 1) j h
      have := now_lt hn
      exact ⟨by omega, by simp; omega, fun _ => h3 (by omega)⟩
    · injection h with h; subst h; simp
theorem nameRun_le (l : List UInt8) (fr : Nat) : ∀ n i, i ≤ nameRun l fr n i ∧ nameRun l fr n i ≤ i + n ∧ (i ≤ l.length → nameRun l fr n i ≤ l.length)
  | 0, i => by simp [nameRun]
  | n + 1, i => by
    simp only [nameRun]
    split
    · rename_i h
      obtain ⟨h1, h2, h3⟩ := nameRun_le l fr n (i + 1)
      exact ⟨by omega, by omega, fun _ => h3 (by omega)⟩
    · exact ⟨Nat.le_refl _, by omega, fun h => h⟩
theorem nameStr_size (l : List UInt8) (i j : Nat) (h : i ≤ j) (h' : j ≤ l.length) : (nameStr l i j).size = j - i := by
  unfold nameStr; rw [strOf_size, List.length_take, List.length_drop]; omega
theorem nameEnd_le (l : List UInt8) (i : Nat) : i ≤ nameEnd l i ∧ nameEnd l i ≤ i + 16 ∧ (i ≤ l.length → nameEnd l i ≤ l.length) := nameRun_le l i 16 i
theorem nameEnd_lt {l : List UInt8} {i : Nat} (h : nameEnd l i ≠ i) : nameEnd l i ≤ l.length := by
  obtain ⟨h1, h2, h3⟩ := nameEnd_le l i
  rcases Nat.le_total i l.length with g | g
  · exact h3 g
  · exfalso; apply h; unfold nameEnd nameRun; rw [if_neg (by omega)]
theorem close_ok {l : List UInt8} {k : Int} {c : UInt8} {r : Option (Except Nat (List T × Nat))} {t : T} {j : Nat} (h : close l k c r = some (.ok (t, j))) : ∃ ks j', r = some (.ok (ks, j')) ∧ need l [c] j' = .ok j ∧ t = .mk k ⟨#[]⟩ ks := by
  unfold close at h
  split at h
  · cases h
  · cases h
  · rename_i ks j'
    split at h
    · cases h
    · rename_i j'' hj
      simp only [Option.some.injEq, Except.ok.injEq, Prod.mk.injEq] at h
      obtain ⟨rfl, rfl⟩ := h
      exact ⟨ks, j', rfl, hj, rfl⟩
theorem more_ok {t : T} {r : Option (Except Nat (List T × Nat))} {ks : List T} {j : Nat} (h : more t r = some (.ok (ks, j))) : ∃ r', r = some (.ok (r', j)) ∧ ks = t :: r' := by
  unfold more at h
  split at h
  · cases h
  · cases h
  · simp only [Option.some.injEq, Except.ok.injEq, Prod.mk.injEq] at h
    obtain ⟨rfl, rfl⟩ := h
    exact ⟨_, rfl, rfl⟩
/-- How far a term goes, and how large it is at most. -/
theorem p_ok (l : List UInt8) : ∀ f, (∀ i t j, pterm l f i = some (.ok (t, j)) → i < j ∧ j ≤ l.length ∧ t.bulk ≤ 5 * (j - i)) ∧ (∀ n c i ks j, pkids l f n c i = some (.ok (ks, j)) → i < j ∧ j ≤ l.length ∧ bulkAll ks ≤ 5 * (j - i) ∧ ks ≠ [])
  | 0 => ⟨fun _ _ _ h => (by cases h), fun _ _ _ _ _ h => (by cases h)⟩
  | f + 1 => by
    obtain ⟨ih1, ih2⟩ := p_ok l f
    refine ⟨fun i t j h => ?_, fun n c i ks j h => ?_⟩
    · simp only [pterm] at h
      split at h
      · obtain ⟨ks, j', h1, h2, rfl⟩ := close_ok h
        obtain ⟨a1, a2, a3, _⟩ := ih2 _ _ _ _ _ h1
        obtain ⟨b1, b2⟩ := need_ok _ _ _ h2
        have := b2 (by simp)
        simp at b1
        refine ⟨by omega, this, ?_⟩
        simp only [bulk]; show 0 + 4 + _ ≤ _; omega
      · split at h
        · split at h
          · cases h
          · rename_i hne
            simp only [Option.some.injEq, Except.ok.injEq, Prod.mk.injEq] at h
            obtain ⟨rfl, rfl⟩ := h
            have h1 := nameEnd_le l (i + 1); have h2 := nameEnd_lt hne
            refine ⟨by omega, h2, ?_⟩
            simp only [bulk, bulkAll, nameStr_size l _ _ h1.1 h2]; omega
        · split at h
          · cases h
          · rename_i hne
            have h1 := nameEnd_le l i; have h2 := nameEnd_lt hne
            split at h
            · simp only [Option.some.injEq, Except.ok.injEq, Prod.mk.injEq] at h
              obtain ⟨rfl, rfl⟩ := h
              refine ⟨by omega, h2, ?_⟩
              simp only [bulk, bulkAll, nameStr_size l _ _ h1.1 h2]; omega
            · obtain ⟨ks, j', g1, g2, rfl⟩ := close_ok h
              obtain ⟨a1, a2, a3, _⟩ := ih2 _ _ _ _ _ g1
              obtain ⟨b1, b2⟩ := need_ok _ _ _ g2
              have := b2 (by simp)
              simp at b1
              refine ⟨by omega, this, ?_⟩
              simp only [bulk]; show 0 + 4 + _ ≤ _; omega
    · simp only [pkids] at h
      split at h
      · cases h
      · cases h
      · rename_i t j' ht
        obtain ⟨a1, a2, a3⟩ := ih1 _ _ _ ht
        split at h
        · simp only [Option.some.injEq, Except.ok.injEq, Prod.mk.injEq] at h
          obtain ⟨rfl, rfl⟩ := h
          refine ⟨a1, a2, by simp only [bulkAll]; omega, by simp⟩
        · split at h
          · cases h
          · rename_i j'' hn
            obtain ⟨r', h1, rfl⟩ := more_ok h
            obtain ⟨b1, b2⟩ := need_ok _ _ _ hn
            obtain ⟨c1, c2, c3, _⟩ := ih2 _ _ _ _ _ h1
            simp at b1
            refine ⟨by omega, c2, by simp only [bulkAll]; omega, by simp⟩
/-- There is fuel enough. -/
theorem p_some (l : List UInt8) : ∀ f, (∀ i, i ≤ l.length → 2 * (l.length - i) + 1 ≤ f → pterm l f i ≠ none) ∧ (∀ n c i, i ≤ l.length → 2 * (l.length - i) + 2 ≤ f → pkids l f n c i ≠ none)
  | 0 => ⟨fun i _ h => by omega, fun n c i _ h => by omega⟩
  | f + 1 => by
    obtain ⟨ih1, ih2⟩ := p_some l f
    have hclose : ∀ k c r, r ≠ none → close l k c r ≠ none := fun k c r hr => by
      unfold close; split
      · exact absurd rfl hr
      · simp
      · split <;> simp
    refine ⟨fun i hi hf => ?_, fun n c i hi hf => ?_⟩
    · simp only [pterm]
      split
      · rename_i h; have := now_lt h
        exact hclose _ _ _ (ih2 _ _ _ (by omega) (by omega))
      · split
        · split <;> simp
        · split
          · simp
          · rename_i hne
            have h1 := nameEnd_le l i
            split
            · simp
            · rename_i hk
              have := now_lt (show now l (nameEnd l i) 40 = true by rcases Bool.eq_false_or_eq_true (now l (nameEnd l i) 40) with h | h; exact h; exact absurd (.inr h) hk)
              exact hclose _ _ _ (ih2 _ _ _ (by omega) (by omega))
    · simp only [pkids]
      split
      · rename_i h; exact absurd h (ih1 i hi (by omega))
      · simp
      · rename_i t j ht
        obtain ⟨a1, a2, _⟩ := (p_ok l f).1 _ _ _ ht
        split
        · simp
        · split
          · simp
          · rename_i j' hn
            obtain ⟨b1, b2⟩ := need_ok _ _ _ hn
            have := b2 (by simp)
            simp at b1
            have h2 := ih2 n (c + 1) j' (by omega) (by omega)
            unfold more; split
            · rename_i h; exact absurd h h2
            · simp
            · simp
theorem p_err (l : List UInt8) : ∀ f, (∀ i e, i ≤ l.length → pterm l f i = some (.error e) → e ≤ l.length) ∧ (∀ n c i e, i ≤ l.length → pkids l f n c i = some (.error e) → e ≤ l.length)
  | 0 => ⟨fun _ _ _ h => (by cases h), fun _ _ _ _ _ h => (by cases h)⟩
  | f + 1 => by
    obtain ⟨ih1, ih2⟩ := p_err l f
    have hclose : ∀ k c n m i e, i ≤ l.length → close l k c (pkids l f n m i) = some (.error e) → e ≤ l.length := fun k c n m i e hi h => by
      unfold close at h
      split at h
      · cases h
      · rename_i e' he; injection h with h; injection h with h; subst h; exact ih2 _ _ _ _ hi he
      · rename_i ks j hj
        split at h
        · rename_i e' he
          injection h with h; injection h with h; subst h
          exact (need_err _ _ _ he).2.2 ((p_ok l f).2 _ _ _ _ _ hj).2.1
        · cases h
    refine ⟨fun i e hi h => ?_, fun n c i e hi h => ?_⟩
    · simp only [pterm] at h
      split at h
      · rename_i h60; have := now_lt h60; exact hclose _ _ _ _ _ _ (by omega) h
      · split at h
        · rename_i h63; have := now_lt h63
          split at h
          · injection h with h; injection h with h; omega
          · cases h
        · split at h
          · injection h with h; injection h with h; omega
          · split at h
            · cases h
            · rename_i hk
              have := now_lt (show now l (nameEnd l i) 40 = true by rcases Bool.eq_false_or_eq_true (now l (nameEnd l i) 40) with h | h; exact h; exact absurd (.inr h) hk)
              exact hclose _ _ _ _ _ _ (by omega) h
    · simp only [pkids] at h
      split at h
      · cases h
      · rename_i e' he; injection h with h; injection h with h; subst h; exact ih1 _ _ hi he
      · rename_i t j ht
        obtain ⟨a1, a2, _⟩ := (p_ok l f).1 _ _ _ ht
        split at h
        · cases h
        · split at h
          · rename_i e' he; injection h with h; injection h with h; subst h; exact (need_err _ _ _ he).2.2 a2
          · rename_i j' hn
            have b2 := (need_ok _ _ _ hn).2 (by simp)
            unfold more at h
            split at h
            · cases h
            · rename_i e' he; injection h with h; injection h with h; subst h; exact ih2 _ _ _ _ b2 he
            · cases h
/-- Parse: the term, the place of the error, the error. -/
def parse (s : ByteArray) : T × Nat × Int :=
  if 1024 < s.size then (.mk 0 ⟨#[]⟩ [], 0, 72)
  else match pterm s.data.toList (2 * s.size + 1) 0 with
    | none => (.mk 0 ⟨#[]⟩ [], 0, 0)
    | some (.error e) => (.mk 0 ⟨#[]⟩ [], e, 71)
    | some (.ok (t, j)) => if j < s.size then (.mk 0 ⟨#[]⟩ [], j, 71) else if t.valid = true then (t, 0, 0) else (.mk 0 ⟨#[]⟩ [], 0, 76)
end T
end Go.Proofs.YtihbmgkbipeakaaGreat
