/- Chapter 12: a store of a text into a row. -/
import Derived.Test.YtafbhadfeemppaaGreatDoorRdGA
import Derived.OneCell
import Derived.Laws.OwnMore
namespace Go.Proofs.YtafbhadfeemppaaGreatDoor
open Go.RowKit

/-- Rows with another text at a place. -/
def putG (K : List (List ByteArray)) (i k : Nat) (s : ByteArray) : List (List ByteArray) := K.set i ((K.getD i []).set k s)
theorem putG_len (K : List (List ByteArray)) (i k : Nat) (s : ByteArray) : (putG K i k s).length = K.length := by unfold putG; rw [List.length_set]
theorem putG_get {K : List (List ByteArray)} {i : Nat} (hi : i < K.length) (k : Nat) (s : ByteArray) : putG K i k s = K.set i (K[i].set k s) := by
  unfold putG; rw [List.getD_eq_getElem?_getD, List.getElem?_eq_getElem hi]; rfl
theorem putG_row {K : List (List ByteArray)} {i k : Nat} {s : ByteArray} {j : Nat} (h : j < (putG K i k s).length) (h' : j < K.length) : (putG K i k s)[j].length = K[j].length := by
  have hi' : ∀ (hi : i < K.length), (K.set i (K[i].set k s))[j]'(by simpa using h') = if i = j then K[i].set k s else K[j] := fun hi => by rw [List.getElem_set]
  by_cases hi : i < K.length
  · have e := putG_get hi k s
    have : (putG K i k s)[j] = if i = j then K[i].set k s else K[j] := by
      rw [← hi' hi]
      exact List.getElem_of_eq e h
    rw [this]
    split
    · rename_i e; subst e; rw [List.length_set]
    · rfl
  · have e : putG K i k s = K := by unfold putG; rw [List.set_eq_of_length_le (by omega)]
    exact congrArg List.length (List.getElem_of_eq e h)
theorem row_base {w : World} {base b0 e size n : Nat} {v : Value} {xs : List Value} (h : w.ownsRow base e size v n xs) (hb : b0 ≤ base) : w.ownsRow b0 e size v n xs := by
  obtain ⟨h1, h2⟩ := h
  refine ⟨h1, ?_⟩
  rcases h2 with h2 | ⟨g, cap, cur, h0, h3, h4⟩
  · exact .inl h2
  · exact .inr ⟨g, cap, cur, h0, Nat.le_trans hb h3, h4⟩
/-- Where a place of the rows lies. -/
theorem RowsAt.place {w : World} {base : Nat} {v : Value} {vs : List Value} {K : List (List ByteArray)} (h : RowsAt w base v vs K) {i k : Nat} (hi : i < K.length) (hk : k < K[i].length) :
    ∃ g c ga ca, v = .slice (some ⟨g, 0, none⟩) K.length c ∧ w.cell? ⟨g, i, none⟩ = some (.slice (some ⟨ga, 0, none⟩) K[i].length ca) ∧ w.cell? ⟨ga, k, none⟩ = some (.string K[i][k]) ∧ w.frozen? ⟨ga, k, none⟩ = false ∧ base ≤ ga ∧ ga < w.heap.size ∧
      ∀ s : ByteArray, RowsAt (w.setCell ⟨ga, k, none⟩ (.string s)) base v vs (putG K i k s) := by
  have hi' : i < vs.length := by rw [h.2.1]; exact hi
  have ho := h.2.2.1 i hi' hi
  have h1 := h.1
  have hbk : ∀ b, vs[i].ownBlock = some b → base ≤ b ∧ b < w.heap.size := fun b e => own_lt ho e
  have hne := own_ne_type ho h1 (by decide)
  obtain ⟨A, c, rfl, hc1, hc2⟩ := own_form h1
  have hAg : ∃ g, A = some ⟨g, 0, none⟩ := by
    rcases h1.2 with ⟨h', h0⟩ | ⟨g, cap, cur, h', _⟩
    · omega
    · simp at h'; exact ⟨g, h'.1⟩
  obtain ⟨g, rfl⟩ := hAg
  have hAi : ∃ ga ca, vs[i] = .slice (some ⟨ga, 0, none⟩) K[i].length ca := by
    rcases ho.2 with ⟨h', h0⟩ | ⟨ga, cap, cur, h', _⟩
    · have : K[i].length = 0 := by
        have := h0; simpa using this
      omega
    · exact ⟨ga, cap, h'⟩
  obtain ⟨ga, ca, hv⟩ := hAi
  have ho2 := ho
  rw [hv] at ho2
  have hcell := h1.cellAt i (by omega)
  have hcell2 := ho2.cellAt k (by omega)
  have hfz := ho2.frozenAt k
  have hb := hbk ga (by rw [hv]; rfl)
  refine ⟨g, c, ga, ca, rfl, ?_, ?_, hfz, hb.1, hb.2, fun s => ?_⟩
  · rw [hcell, List.getElem?_eq_getElem hi', hv]
  · rw [hcell2, List.getElem?_map, List.getElem?_eq_getElem hk]; rfl
  · have hst := ho2.stored k (.string s)
    have hgne : g ≠ ga := fun e => by
      subst e
      rcases hne with hn | hn
      · rw [hv] at hn; cases hn
      · rw [hv] at hn; exact hn rfl
    refine ⟨?_, by rw [putG_len]; exact h.2.1, fun j a b => ?_, h.2.2.2⟩
    · rw [putG_len]; exact ownsRow_setCell_other h1 (by simp [Value.ownBlock]; exact hgne) _
    · have b' : j < K.length := by rw [putG_len] at b; exact b
      by_cases hij : i = j
      · subst hij
        have e : (putG K i k s)[i] = K[i].set k s := by
          rw [List.getElem_of_eq (putG_get hi k s) b]; simp
        rw [e, hv, List.length_set, List.map_set]
        exact hst.1
      · have e : (putG K i k s)[j] = K[j] := by
          rw [List.getElem_of_eq (putG_get hi k s) b, List.getElem_set_ne hij]
        rw [e]
        refine ownsRow_setCell_other (h.2.2.1 j a b') ?_ _
        intro e2
        rcases h.2.2.2 i j hi' a hij with h0 | h0
        · rw [hv] at h0; cases h0
        · rw [hv] at h0; exact h0 e2.symm
theorem RowsAt.base {w : World} {base b0 : Nat} {v : Value} {vs : List Value} {K : List (List ByteArray)} (h : RowsAt w base v vs K) (hb : b0 ≤ base) : RowsAt w b0 v vs K :=
  ⟨row_base h.1 hb, h.2.1, fun i a b => row_base (h.2.2.1 i a b) hb, h.2.2.2⟩
/-- The world behind a store. -/
theorem set_below12 {w0 w : World} {base ga k : Nat} (h : Below base w0 w) (hb : base ≤ ga) (v : Value) : Below base w0 (w.setCell ⟨ga, k, none⟩ v) :=
  ⟨h.os, h.tape, h.output, by have := h.size; simpa [World.setCell] using this, fun b hbb => (Below.heap_setCell _ _ _ _ (by show b ≠ ga; omega)).trans (h.block b hbb)⟩
end Go.Proofs.YtafbhadfeemppaaGreatDoor
