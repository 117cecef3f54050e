/- Chapter 40: rows of terms beside a block that is written. -/
import Derived.Test.YtihbmgkbipeakaaGreatTermPTerm
namespace Go.Proofs.YtihbmgkbipeakaaGreat
open Go.RowKit

theorem only_get (w : World) (S : Nat → Bool) (k : Nat) : (only w S).heap[k]? = (w.heap[k]?).map fun o => if S k = true then o else .cells #[] 0 (0, 0) := by
  simp [only, Array.getElem?_mapIdx]
theorem only_size (w : World) (S : Nat → Bool) : (only w S).heap.size = w.heap.size := by simp [only]
theorem only_grown {w w' : World} {row : Option Nat} (h : w.grownBy w' row) (S : Nat → Bool) : (only w S).grownBy (only w' S) row :=
  ⟨h.os, h.tape, h.output, by rw [only_size, only_size]; exact h.size, fun k hk hn => by rw [only_get, only_get, h.block k (by rw [only_size] at hk; exact hk) hn]⟩
theorem only_below {w w' : World} {B : Nat} (h : Below B w w') (S : Nat → Bool) : Below B (only w S) (only w' S) :=
  ⟨h.os, h.tape, h.output, by rw [only_size, only_size]; exact h.size, fun k hk => by rw [only_get, only_get, h.block k hk]⟩
theorem only_owns {w : World} {base : Nat} {e : TypeId} {size n : Nat} {v : Value} {xs : List Value} (h : w.ownsRow base e size v n xs) (S : Nat → Bool) (hS : ∀ g, v.ownBlock = some g → S g = true) : (only w S).ownsRow base e size v n xs := by
  refine ⟨h.1, ?_⟩
  rcases h.2 with h0 | ⟨g, cap, cur, rfl, h5, h1, rest⟩
  · exact .inl h0
  · exact .inr ⟨g, cap, cur, rfl, h5, by rw [only_get, h1, Option.map_some, if_pos (hS g rfl)], rest⟩
theorem unonly_owns {w : World} {base : Nat} {e : TypeId} {size n : Nat} {v : Value} {xs : List Value} {S : Nat → Bool} (h : (only w S).ownsRow base e size v n xs) (he : e ≠ 0) : w.ownsRow base e size v n xs := by
  refine ⟨h.1, ?_⟩
  rcases h.2 with h0 | ⟨g, cap, cur, rfl, h5, h1, rest⟩
  · exact .inl h0
  · refine .inr ⟨g, cap, cur, rfl, h5, ?_, rest⟩
    rw [only_get] at h1
    obtain ⟨o, ho, h2⟩ := Option.map_eq_some_iff.1 h1
    split at h2
    · rw [ho, h2]
    · injection h2 with h3 h4; exact absurd h4.symm he
theorem only_set (w : World) (S : Nat → Bool) (p : Addr) (v : Value) (hS : S p.block = false) (k : Nat) : (only (w.setCell p v) S).heap[k]? = (only w S).heap[k]? := by
  rw [only_get, only_get]
  by_cases hk : k = p.block
  · subst hk
    rw [hS]
    have h : (w.setCell p v).heap[p.block]?.isSome = w.heap[p.block]?.isSome := by
      simp only [World.setCell, Array.getElem?_modify]
      simp
    cases h1 : w.heap[p.block]? with
    | none => rw [h1] at h; cases h2 : (w.setCell p v).heap[p.block]? with
      | none => rfl
      | some o => rw [h2] at h; cases h
    | some o => rw [h1] at h; cases h2 : (w.setCell p v).heap[p.block]? with
      | none => rw [h2] at h; cases h
      | some o' => rfl
  · rw [Below.heap_setCell _ _ _ _ hk]
theorem TermIn.unonly {S X : Nat → Bool} {w : World} {v : Value} {t : T} (h : TermIn S (only w X) v t) : TermIn S w v t :=
  TermAt.keep h fun p hp => by
    rw [cell_only] at hp ⊢
    rw [cell_only]
    split at hp
    · rename_i hS
      rw [if_pos hS]
      rw [cell_only] at hp ⊢
      split at hp
      · rename_i hX; rw [if_pos hX]; simp [hS]
      · cases hp
    · cases hp
theorem TermsRow.unonly {w : World} {X : Nat → Bool} {base : Nat} {v : Value} {L : List T} (h : TermsRow (only w X) base v L) : TermsRow w base v L := by
  rcases h with h | ⟨g, cap, rfl, cur, h1, h2, h3, h4, h5, h6⟩
  · exact .inl h
  · refine .inr ⟨g, cap, rfl, cur, ?_, h2, h3, h4, h5, fun i hi => ?_⟩
    · rw [only_get] at h1
      obtain ⟨o, ho, h2⟩ := Option.map_eq_some_iff.1 h1
      split at h2
      · rw [ho, h2]
      · injection h2 with h3 h4; exact absurd h4 (by decide)
    · obtain ⟨u0, u1, u2, a, b, c, d⟩ := h6 i hi
      exact ⟨u0, u1, u2, a, b, c, d.unonly⟩
/-- All blocks but x. -/
def notB (x : Nat) : Nat → Bool := fun b => !(b == x)
theorem notB_iff {x b : Nat} : notB x b = true ↔ b ≠ x := by unfold notB; simp
theorem notB_self (x : Nat) : notB x x = false := by unfold notB; simp

namespace T
/-- What is left to read behind c kids. -/
def after (l : List UInt8) (f n c m : Nat) : Option (Except Nat (List T × Nat)) :=
  if (0 < n ∧ c = n) ∨ (n = 0 ∧ now l m 44 = false) then some (.ok ([], m))
  else match need l [44, 32] m with
    | .error e => some (.error e)
    | .ok j => pkids l f n c j
theorem pkids_after (l : List UInt8) (f n c i : Nat) (t : T) (j : Nat) (h : pterm l f i = some (.ok (t, j))) : pkids l (f + 1) n c i = more t (after l f n (c + 1) j) := by
  simp only [pkids, h, after]
  split
  · rfl
  · cases need l [44, 32] j <;> rfl
end T
end Go.Proofs.YtihbmgkbipeakaaGreat
