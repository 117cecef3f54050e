/- Chapter 40: the terms that the maker gives, plain: how large they are, and that they are valid. -/
import Derived.Test.YtlecmcfmaneejaaTermKeep
import Derived.Test.YtlecmcfmaneejaaTermAtom
import Derived.Test.YtlecmcfmaneejaaTermText
namespace Go.Proofs.Ytlecmcfmaneejaa

namespace T
/-- What is known of a term that the maker gives at depth D. -/
def Made (D : Nat) (t : T) : Prop := t.shape = true ∧ t.size + 1 ≤ 5 * 2 ^ (D - 1) ∧ t.bulk ≤ 6 * t.size
theorem made0_facts {k : Int} {s : ByteArray} (h : made0 k s = true) : (k = 1 ∨ k = 2) ∧ isName s = true ∧ s.size ≤ 2 := by
  unfold made0 at h
  simp only [Bool.or_eq_true, Bool.and_eq_true, decide_eq_true_eq] at h
  rcases h with ⟨rfl, (rfl | rfl) | rfl⟩ | ⟨rfl, (((rfl | rfl) | rfl) | rfl) | rfl⟩
  all_goals exact ⟨by decide, by kernel_rfl, by decide⟩
theorem pow_pos_ (n : Nat) : 1 ≤ 2 ^ n := Nat.one_le_two_pow
theorem made_of_atom {k : Int} {s : ByteArray} (h : made0 k s = true) (D : Nat) : Made D (.mk k s []) := by
  obtain ⟨h1, h2, h3⟩ := made0_facts h
  have := pow_pos_ (D - 1)
  refine ⟨?_, ?_, ?_⟩
  · simp only [shape]; rw [if_pos h1, h2]; rfl
  · simp only [size, sizeAll]; omega
  · simp only [bulk, bulkAll, size, sizeAll]; omega
theorem Made.norm {D : Nat} {t : T} (h : Made D t) : Made D t.norm :=
  ⟨shape_norm t h.1, by rw [size_norm]; exact h.2.1, by rw [bulk_norm, size_norm]; exact h.2.2⟩
theorem Made.valid {D : Nat} {t : T} (h : Made D t) (hD : D ≤ 4) : t.valid = true := by
  have h2 : 2 ^ (D - 1) ≤ 2 ^ 3 := Nat.pow_le_pow_right (by decide) (by omega)
  have h1 := h.2.1
  unfold T.valid
  rw [Bool.and_eq_true]
  exact ⟨decide_eq_true (by omega), h.1⟩
theorem Made.bulk {D : Nat} {t : T} (h : Made D t) (hD : D ≤ 4) : t.bulk ≤ 240 := by
  have h2 : 2 ^ (D - 1) ≤ 2 ^ 3 := Nat.pow_le_pow_right (by decide) (by omega)
  have h1 := h.2.1
  have h3 := h.2.2
  omega
theorem Made.text {D : Nat} {t : T} (h : Made D t) (hD : D ≤ 4) : t.text.length ≤ 1024 := by
  have h1 := h.bulk hD
  have h2 := text_len t
  omega
theorem pow_next {D : Nat} (h : 1 ≤ D) : 2 ^ D = 2 * 2 ^ (D - 1) := by
  obtain ⟨n, rfl⟩ : ∃ n, D = n + 1 := ⟨D - 1, by omega⟩
  simp [Nat.pow_succ, Nat.mul_comm]
theorem emp_size : (⟨#[]⟩ : ByteArray).size = 0 := rfl
/-- Two kids under a pair or a seal. -/
theorem made_two {D : Nat} (hD : 1 ≤ D) (k : Int) (hk : k = 3 ∨ k = 5) {a b : T} (ha : Made D a) (hb : Made D b) : Made (D + 1) (.mk k ⟨#[]⟩ [a, b]) := by
  obtain ⟨a1, a2, a3⟩ := ha
  obtain ⟨b1, b2, b3⟩ := hb
  have h := pow_next hD
  refine ⟨?_, ?_, ?_⟩
  · simp only [shape]
    rw [if_neg (by omega)]
    simp only [shapeAll, a1, b1]
    rcases hk with rfl | rfl <;> kernel_rfl
  · simp only [size, sizeAll]; rw [Nat.add_sub_cancel, h]; omega
  · simp only [T.bulk, bulkAll, size, sizeAll, emp_size]; omega
theorem made_hash {D : Nat} (hD : 1 ≤ D) {a : T} (ha : Made D a) : Made (D + 1) (.mk 4 ⟨#[]⟩ [a]) := by
  obtain ⟨a1, a2, a3⟩ := ha
  have h := pow_next hD
  refine ⟨?_, ?_, ?_⟩
  · simp only [shape]
    rw [if_neg (by omega)]
    simp only [shapeAll, a1]
    kernel_rfl
  · simp only [size, sizeAll]; rw [Nat.add_sub_cancel, h]; omega
  · simp only [T.bulk, bulkAll, size, sizeAll, emp_size]; omega
theorem made_sign {D : Nat} (hD : 1 ≤ D) {k : Int} {s : ByteArray} (hk : made0 k s = true) {b : T} (hb : Made D b) : Made (D + 1) (.mk 6 ⟨#[]⟩ [.mk k s [], b]) := by
  obtain ⟨a1, a2, a3⟩ := made_of_atom hk 1
  obtain ⟨b1, b2, b3⟩ := hb
  have h := pow_next hD
  have hp := pow_pos_ (D - 1)
  have hat : atom (.mk k s []) = true := by
    rcases (made0_facts hk).1 with rfl | rfl <;> rfl
  refine ⟨?_, ?_, ?_⟩
  · simp only [shape]
    rw [if_neg (by omega)]
    simp only [shapeAll, shape, b1, headOk]
    simp [hat, ByteArray.toList_eq]
    exact ⟨(made0_facts hk).1, (made0_facts hk).2.1⟩
  · simp only [size, sizeAll] at a2 ⊢; rw [Nat.add_sub_cancel, h]; omega
  · simp only [T.bulk, bulkAll, size, sizeAll, emp_size] at a3 ⊢; omega
/-- A list of names and variables. -/
def Atoms (l : List T) : Prop := ∀ t ∈ l, ∃ k s, made0 k s = true ∧ t = .mk k s []
theorem Atoms.sums {l : List T} (h : Atoms l) : sizeAll l = l.length ∧ bulkAll l ≤ 6 * l.length ∧ shapeAll l = true ∧ l.any (fun t => !t.atom) = false := by
  induction l with
  | nil => exact ⟨rfl, by simp [bulkAll], rfl, rfl⟩
  | cons t r ih =>
    obtain ⟨h1, h2, h3, h4⟩ := ih fun x hx => h x (List.mem_cons_of_mem _ hx)
    obtain ⟨k, s, hk, rfl⟩ := h t List.mem_cons_self
    obtain ⟨a1, a2, a3⟩ := made_of_atom hk 1
    have hat : atom (.mk k s []) = true := by
      rcases (made0_facts hk).1 with rfl | rfl <;> rfl
    have hz : (T.mk k s []).size = 1 := rfl
    refine ⟨?_, ?_, ?_, ?_⟩
    · simp only [sizeAll, h1, hz, List.length_cons]; omega
    · rw [hz] at a3; simp only [bulkAll, List.length_cons]; omega
    · simp only [shapeAll, a1, h3]; rfl
    · rw [List.any_cons, hat, h4]; rfl
theorem made_power {D : Nat} (hD : 1 ≤ D) {l : List T} (h : Atoms l) (h1 : 1 ≤ l.length) (h3 : l.length ≤ 3) : Made (D + 1) (.mk 7 ⟨#[]⟩ l) := by
  obtain ⟨a1, a2, a3, a4⟩ := h.sums
  have hn := pow_next hD
  have hp := pow_pos_ (D - 1)
  refine ⟨?_, ?_, ?_⟩
  · simp only [shape]
    rw [if_neg (by omega)]
    simp only [a3, headOk, a4]
    simp [ByteArray.toList_eq]
    omega
  · simp only [size, a1]; rw [Nat.add_sub_cancel, hn]; omega
  · simp only [T.bulk, size, a1, emp_size]; omega
end T
end Go.Proofs.Ytlecmcfmaneejaa
