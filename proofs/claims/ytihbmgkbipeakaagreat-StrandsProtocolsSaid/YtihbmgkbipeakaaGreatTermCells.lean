/- Chapter 40: rows of cells that hold terms; splicing. -/
import Derived.Test.YtihbmgkbipeakaaGreatTermNorm
namespace Go.Proofs.YtihbmgkbipeakaaGreat
open Go.RowKit

/-- These cells hold these terms. -/
def CT (S : Nat → Bool) (w : World) (xs : List Value) (L : List T) : Prop :=
  xs.length = L.length * 3 ∧ ∀ i (h : i < L.length), ∃ u0 u1 u2, xs[i * 3]? = some u0 ∧ xs[i * 3 + 1]? = some u1 ∧ xs[i * 3 + 2]? = some u2 ∧ TermIn S w (.agg #[u0, u1, u2]) L[i]
theorem CT.keep {S S' : Nat → Bool} {w w' : World} {xs : List Value} {L : List T} (h : CT S w xs L) (hk : ∀ b, S b = true → b < w.heap.size → S' b = true ∧ w'.heap[b]? = w.heap[b]?) : CT S' w' xs L :=
  ⟨h.1, fun i hi => by obtain ⟨u0, u1, u2, a, b, c, d⟩ := h.2 i hi; exact ⟨u0, u1, u2, a, b, c, d.keep hk⟩⟩
theorem CT.nil (S : Nat → Bool) (w : World) : CT S w [] [] := ⟨rfl, fun i h => by simp at h⟩
theorem CT.one {S : Nat → Bool} {w : World} {u0 u1 u2 : Value} {t : T} (h : TermIn S w (.agg #[u0, u1, u2]) t) : CT S w [u0, u1, u2] [t] :=
  ⟨rfl, fun i hi => by
    obtain rfl : i = 0 := by simpa using hi
    exact ⟨u0, u1, u2, rfl, rfl, rfl, h⟩⟩
theorem CT.append {S : Nat → Bool} {w : World} {xs ys : List Value} {L M : List T} (h : CT S w xs L) (k : CT S w ys M) : CT S w (xs ++ ys) (L ++ M) := by
  refine ⟨by rw [List.length_append, List.length_append, h.1, k.1]; omega, fun i hi => ?_⟩
  have h1 := h.1
  rcases Nat.lt_or_ge i L.length with g | g
  · obtain ⟨u0, u1, u2, a, b, c, d⟩ := h.2 i g
    refine ⟨u0, u1, u2, ?_, ?_, ?_, by rw [List.getElem_append_left g]; exact d⟩
    all_goals rw [List.getElem?_append_left (by omega)]; assumption
  · have hm : i - L.length < M.length := by simp at hi; omega
    obtain ⟨u0, u1, u2, a, b, c, d⟩ := k.2 (i - L.length) hm
    refine ⟨u0, u1, u2, ?_, ?_, ?_, by rw [List.getElem_append_right g]; exact d⟩
    · rw [List.getElem?_append_right (by omega), ← a]; congr 1; omega
    · rw [List.getElem?_append_right (by omega), ← b]; congr 1; omega
    · rw [List.getElem?_append_right (by omega), ← c]; congr 1; omega
theorem CT.take {S : Nat → Bool} {w : World} {xs : List Value} {L : List T} (h : CT S w xs L) (j : Nat) : CT S w (xs.take (j * 3)) (L.take j) := by
  refine ⟨by rw [List.length_take, List.length_take, h.1]; omega, fun i hi => ?_⟩
  have hj : i < j ∧ i < L.length := by rw [List.length_take] at hi; omega
  obtain ⟨u0, u1, u2, a, b, c, d⟩ := h.2 i hj.2
  refine ⟨u0, u1, u2, ?_, ?_, ?_, by rw [List.getElem_take]; exact d⟩
  all_goals rw [List.getElem?_take, if_pos (by omega)]; assumption
theorem CT.drop {S : Nat → Bool} {w : World} {xs : List Value} {L : List T} (h : CT S w xs L) (j : Nat) : CT S w (xs.drop (j * 3)) (L.drop j) := by
  refine ⟨by rw [List.length_drop, List.length_drop, h.1]; omega, fun i hi => ?_⟩
  have hj : j + i < L.length := by rw [List.length_drop] at hi; omega
  obtain ⟨u0, u1, u2, a, b, c, d⟩ := h.2 (j + i) hj
  refine ⟨u0, u1, u2, ?_, ?_, ?_, by rw [List.getElem_drop]; exact d⟩
  · rw [List.getElem?_drop, ← a]; congr 1; omega
  · rw [List.getElem?_drop, ← b]; congr 1; omega
  · rw [List.getElem?_drop, ← c]; congr 1; omega
theorem CT.one' {S : Nat → Bool} {w : World} {xs : List Value} {L : List T} (h : CT S w xs L) : ∀ u ∈ xs, u.oneCell' = true := by
  intro u hu
  obtain ⟨j, hj, rfl⟩ := List.getElem_of_mem hu
  have h1 := h.1
  obtain ⟨u0, u1, u2, a, b, c, d⟩ := h.2 (j / 3) (by omega)
  have ho := d.one
  have e : xs[j]? = some xs[j] := List.getElem?_eq_getElem hj
  rcases (show j = j / 3 * 3 ∨ j = j / 3 * 3 + 1 ∨ j = j / 3 * 3 + 2 by omega) with g | g | g
  · rw [← g, e] at a; injection a with a; rw [a]; exact ho _ (by simp)
  · rw [← g, e] at b; injection b with b; rw [b]; exact ho _ (by simp)
  · rw [← g, e] at c; injection c with c; rw [c]; exact ho _ (by simp)
theorem TermsRow.cells {w : World} {base : Nat} {v : Value} {L : List T} (h : TermsRow w base v L) : ∃ xs, w.ownsRow base 29 3 v L.length xs ∧ CT (but base v.ownBlock) w xs L := by
  obtain ⟨xs, h1, h2⟩ := h.owns
  exact ⟨xs, h1, h1.1, h2⟩
theorem TermsRow.of {w : World} {base : Nat} {v : Value} {L : List T} {xs : List Value} (h : w.ownsRow base 29 3 v L.length xs) (hc : CT (but base v.ownBlock) w xs L) : TermsRow w base v L := by
  rcases h.2 with ⟨rfl, h0⟩ | ⟨g, cap, cur, rfl, h5, h1, h3, h4, h2, htake⟩
  · exact .inl ⟨rfl, List.eq_nil_of_length_eq_zero h0⟩
  · refine .inr ⟨g, cap, rfl, cur, h1, h2, h3, h4, h5, fun i hi => ?_⟩
    obtain ⟨u0, u1, u2, a, b, c, d⟩ := hc.2 i hi
    have hcur : ∀ j u, xs[j]? = some u → cur[j]? = some u := fun j u hu => by
      rw [← htake, List.getElem?_take] at hu
      split at hu
      · simpa using hu
      · cases hu
    exact ⟨u0, u1, u2, hcur _ _ a, hcur _ _ b, hcur _ _ c, d⟩
/-- A shorter slice of a row. -/
theorem own_take {w : World} {base g n cap j : Nat} {e : TypeId} {size : Nat} {xs : List Value} (h : w.ownsRow base e size (.slice (some ⟨g, 0, none⟩) n cap) n xs) (hj : j ≤ n) : w.ownsRow base e size (.slice (some ⟨g, 0, none⟩) j cap) j (xs.take (j * size)) := by
  obtain ⟨hl, hh⟩ := h
  rcases hh with ⟨h, _⟩ | ⟨g', cap', cur, hv, h5, h1, h3, h4, h2, htake⟩
  · cases h
  · simp only [Value.slice.injEq, Option.some.injEq, Addr.mk.injEq, and_true, true_and] at hv
    obtain ⟨rfl, rfl⟩ := hv
    have hm : j * size ≤ n * size := Nat.mul_le_mul_right _ hj
    refine ⟨by rw [List.length_take, hl]; exact Nat.min_eq_left hm, .inr ⟨g, cap, cur, rfl, h5, h1, Nat.le_trans hj h3, h4, h2, ?_⟩⟩
    rw [← htake, List.take_take, Nat.min_eq_left hm]
theorem own_take' {w : World} {base n cap j : Nat} {A : Option Addr} {e : TypeId} {size : Nat} {xs : List Value} (h : w.ownsRow base e size (.slice A n cap) n xs) (hj : j ≤ n) : w.ownsRow base e size (.slice A j cap) j (xs.take (j * size)) := by
  rcases h.2 with ⟨hv, h0⟩ | ⟨g, cap', cur, hv, _⟩
  · obtain rfl : j = 0 := by omega
    subst h0
    rw [hv]; simpa using World.ownsRow_nil w base e size
  · have hA : A = some ⟨g, 0, none⟩ := by injection hv
    subst hA; exact own_take h hj
/-- The cells of a row from some place on. -/
theorem own_drop {w : World} {base g n cap j : Nat} {e : TypeId} {size : Nat} {xs : List Value} (h : w.ownsRow base e size (.slice (some ⟨g, 0, none⟩) n cap) n xs) : ∀ i u, (xs.drop (j * size))[i]? = some u → w.cell? ((⟨g, j * size, none⟩ : Addr).add i) = some u := by
  intro i u hu
  rw [List.getElem?_drop] at hu
  have := h.cells (g := g) rfl (j * size + i) u hu
  rw [Go.WideShapes.add_plain] at this ⊢
  simpa using this
end Go.Proofs.YtihbmgkbipeakaaGreat
