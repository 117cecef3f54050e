/- Chapter 40: terms that lie in certain blocks; rows of terms that a call makes. -/
import Derived.Test.YtihbmgkbipeakaaGreatTermVal
import Derived.Deep.AppendLies
namespace Go.Proofs.YtihbmgkbipeakaaGreat
open Go.RowKit

/-- A world of which only certain blocks are seen. -/
def only (w : World) (S : Nat → Bool) : World := { w with heap := w.heap.mapIdx fun i o => if S i = true then o else .cells #[] 0 (0, 0) }
theorem cell_only (w : World) (S : Nat → Bool) (p : Addr) : (only w S).cell? p = if S p.block = true then w.cell? p else none := by
  unfold World.cell? only
  simp only [Array.getElem?_mapIdx]
  cases h : w.heap[p.block]? with
  | none => simp
  | some o =>
    by_cases hS : S p.block = true
    · simp [hS]
    · simp [hS]
/-- A term all of whose memory lies in certain blocks. -/
def TermIn (S : Nat → Bool) (w : World) (v : Value) (t : T) : Prop := TermAt (only w S) v t
theorem TermIn.at {S : Nat → Bool} {w : World} {v : Value} {t : T} (h : TermIn S w v t) : TermAt w v t :=
  TermAt.keep h fun p hp => by
    rw [cell_only] at hp ⊢
    split at hp
    · rename_i hS; rw [if_pos hS]
    · cases hp
theorem TermIn.keep {S S' : Nat → Bool} {w w' : World} {v : Value} {t : T} (h : TermIn S w v t) (hk : ∀ b, S b = true → b < w.heap.size → S' b = true ∧ w'.heap[b]? = w.heap[b]?) : TermIn S' w' v t :=
  TermAt.keep h fun p hp => by
    rw [cell_only] at hp
    rw [cell_only, cell_only]
    split at hp
    · rename_i hS
      obtain ⟨v, hv⟩ := Option.isSome_iff_exists.1 hp
      obtain ⟨h1, h2⟩ := hk _ hS (World.block_lt_of_cell? w p hv)
      rw [if_pos hS, if_pos h1]; exact World.cell?_of_block h2
    · cases hp
theorem TermAt.inAll {w : World} {v : Value} {t : T} (h : TermAt w v t) : TermIn (fun b => decide (b < w.heap.size)) w v t :=
  TermAt.keep h fun p hp => by
    obtain ⟨v, hv⟩ := Option.isSome_iff_exists.1 hp
    rw [cell_only, if_pos (decide_eq_true (World.block_lt_of_cell? w p hv))]
/-- Blocks from B on. -/
def from_ (B : Nat) : Nat → Bool := fun b => decide (B ≤ b)
/-- Blocks from B on but g. -/
def but (B : Nat) (g : Option Nat) : Nat → Bool := fun b => decide (B ≤ b) && !(g == some b)
theorem but_iff {B : Nat} {g : Option Nat} {b : Nat} : but B g b = true ↔ B ≤ b ∧ g ≠ some b := by
  unfold but
  rw [Bool.and_eq_true, decide_eq_true_eq, Bool.not_eq_true', beq_eq_false_iff_ne]

/-- Block g is a row of cap terms, of which the first ones are these; they lie outside that block, from base on. -/
def RowT (w : World) (base g cap : Nat) (L : List T) : Prop :=
  ∃ cur : Array Value, w.heap[g]? = some (.cells cur 29 (0, 0)) ∧ cur.size = cap * 3 ∧ L.length ≤ cap ∧ cap ≤ maxLen ∧ base ≤ g ∧
    ∀ i (h : i < L.length), ∃ u0 u1 u2, cur[i * 3]? = some u0 ∧ cur[i * 3 + 1]? = some u1 ∧ cur[i * 3 + 2]? = some u2 ∧ TermIn (but base (some g)) w (.agg #[u0, u1, u2]) L[i]
def TermsRow (w : World) (base : Nat) (v : Value) (L : List T) : Prop :=
  (v = .slice none 0 0 ∧ L = []) ∨ ∃ g cap, v = .slice (some ⟨g, 0, none⟩) L.length cap ∧ RowT w base g cap L
theorem TermsRow.nil (w : World) (base : Nat) : TermsRow w base (.slice none 0 0) [] := .inl ⟨rfl, rfl⟩
theorem RowT.keep {w w' : World} {base g cap : Nat} {L : List T} (h : RowT w base g cap L) (hk : ∀ b, base ≤ b → b < w.heap.size → w'.heap[b]? = w.heap[b]?) : RowT w' base g cap L := by
  obtain ⟨cur, h1, h2, h3, h4, h5, h6⟩ := h
  refine ⟨cur, ?_, h2, h3, h4, h5, fun i hi => ?_⟩
  · rw [hk g h5 (Array.getElem?_eq_some_iff.1 h1).1]; exact h1
  · obtain ⟨u0, u1, u2, a, b, c, d⟩ := h6 i hi
    exact ⟨u0, u1, u2, a, b, c, d.keep fun b hb hl => ⟨hb, hk b (but_iff.1 hb).1 hl⟩⟩
theorem TermsRow.keep {w w' : World} {base : Nat} {v : Value} {L : List T} (h : TermsRow w base v L) (hk : ∀ b, base ≤ b → b < w.heap.size → w'.heap[b]? = w.heap[b]?) : TermsRow w' base v L := by
  rcases h with h | ⟨g, cap, rfl, h⟩
  · exact .inl h
  · exact .inr ⟨g, cap, rfl, h.keep hk⟩
theorem TermsRow.later {w w' : World} {base : Nat} {v : Value} {L : List T} (h : TermsRow w base v L) (hb : Below w.heap.size w w') : TermsRow w' base v L := h.keep fun b _ hl => hb.block b hl
theorem TermsRow.shape {w : World} {base : Nat} {v : Value} {L : List T} (h : TermsRow w base v L) : ∃ A cap, v = .slice A L.length cap ∧ L.length ≤ cap ∧ cap ≤ maxLen := by
  rcases h with ⟨rfl, rfl⟩ | ⟨g, cap, rfl, cur, _, _, h3, h4, _⟩
  · exact ⟨none, 0, rfl, Nat.le_refl _, Nat.zero_le _⟩
  · exact ⟨_, cap, rfl, h3, h4⟩
theorem TermsRow.block {w : World} {base : Nat} {v : Value} {L : List T} (h : TermsRow w base v L) : ∀ k, v.ownBlock = some k → base ≤ k ∧ k < w.heap.size := by
  intro k hk
  rcases h with ⟨rfl, rfl⟩ | ⟨g, cap, rfl, cur, h1, _, _, _, h5, _⟩
  · cases hk
  · injection hk with hk
    subst hk
    exact ⟨h5, (Array.getElem?_eq_some_iff.1 h1).1⟩
/-- The row as the kids of a term. -/
theorem TermsRow.term {w : World} {base : Nat} {v : Value} {L : List T} (h : TermsRow w base v L) (k : Int) (s : ByteArray) (hk : -9223372036854775808 ≤ k ∧ k ≤ 9223372036854775807) (hs : s.size ≤ maxLen) :
    TermIn (from_ base) w (.agg #[.int .i64 k, .string s, v]) (.mk k s L) := by
  rcases h with ⟨rfl, rfl⟩ | ⟨g, cap, rfl, cur, h1, h2, h3, h4, h5, h6⟩
  · exact TermAt.mk k s none 0 [] (fun _ => (undef, undef, undef)) hk hs (Nat.le_refl _) (Nat.zero_le _) (.inl rfl) (fun i h => by simp at h)
  · have hc : ∀ j u, cur[j]? = some u → (only w (from_ base)).cell? ⟨g, j, none⟩ = some u := fun j u hu => by
      rw [cell_only, if_pos (by unfold from_; exact decide_eq_true h5)]
      simp [World.cell?, h1, hu]
    refine TermAt.mk k s (some ⟨g, 0, none⟩) cap L (fun i => (cur.getD (i * 3) undef, cur.getD (i * 3 + 1) undef, cur.getD (i * 3 + 2) undef)) hk hs h3 h4 (.inr ⟨g, 0, rfl, fun i hi => ?_⟩) (fun i hi => ?_)
    · obtain ⟨u0, u1, u2, a, b, c, d⟩ := h6 i hi
      rw [Nat.zero_add]
      refine ⟨(hc _ _ a).trans ?_, (hc _ _ b).trans ?_, (hc _ _ c).trans ?_⟩
      · simp [Array.getD_eq_getD_getElem?, a]
      · simp [Array.getD_eq_getD_getElem?, b]
      · simp [Array.getD_eq_getD_getElem?, c]
    · obtain ⟨u0, u1, u2, a, b, c, d⟩ := h6 i hi
      have e : (Value.agg #[cur.getD (i * 3) undef, cur.getD (i * 3 + 1) undef, cur.getD (i * 3 + 2) undef]) = .agg #[u0, u1, u2] := by
        simp [Array.getD_eq_getD_getElem?, a, b, c]
      show TermAt _ (Value.agg #[cur.getD (i * 3) undef, cur.getD (i * 3 + 1) undef, cur.getD (i * 3 + 2) undef]) _
      rw [e]
      exact d.keep (S' := from_ base) fun b hb _ => ⟨decide_eq_true (but_iff.1 hb).1, rfl⟩
/-- What the library's laws on append want of it. -/
theorem TermsRow.owns {w : World} {base : Nat} {v : Value} {L : List T} (h : TermsRow w base v L) : ∃ xs, w.ownsRow base 29 3 v L.length xs ∧
    (∀ i (h : i < L.length), ∃ u0 u1 u2, xs[i * 3]? = some u0 ∧ xs[i * 3 + 1]? = some u1 ∧ xs[i * 3 + 2]? = some u2 ∧ TermIn (but base v.ownBlock) w (.agg #[u0, u1, u2]) L[i]) := by
  rcases h with ⟨rfl, rfl⟩ | ⟨g, cap, rfl, cur, h1, h2, h3, h4, h5, h6⟩
  · exact ⟨[], World.ownsRow_nil _ _ _ _, fun i h => by simp at h⟩
  · refine ⟨cur.toList.take (L.length * 3), ⟨?_, .inr ⟨g, cap, cur, rfl, h5, h1, h3, h4, h2, rfl⟩⟩, fun i hi => ?_⟩
    · have hsz : cur.toList.length = cap * 3 := by simpa using h2
      rw [List.length_take]; exact Nat.min_eq_left (by omega)
    · obtain ⟨u0, u1, u2, a, b, c, d⟩ := h6 i hi
      refine ⟨u0, u1, u2, ?_, ?_, ?_, d⟩
      all_goals rw [List.getElem?_take, if_pos (by omega)]; simpa
/-- Behind an append of one term. -/
theorem TermsRow.snoc {w w' : World} {base g cap H : Nat} {v : Value} {L : List T} {xs : List Value} {u0 u1 u2 : Value} {t : T}
    (hx : ∀ i (h : i < L.length), ∃ u0 u1 u2, xs[i * 3]? = some u0 ∧ xs[i * 3 + 1]? = some u1 ∧ xs[i * 3 + 2]? = some u2 ∧ TermIn (but base v.ownBlock) w (.agg #[u0, u1, u2]) L[i]) (hl : xs.length = L.length * 3)
    (ht : TermIn (but base v.ownBlock) w (.agg #[u0, u1, u2]) t)
    (hown : w'.ownsRow base 29 3 (.slice (some ⟨g, 0, none⟩) (L.length + 1) cap) (L.length + 1) (xs ++ [u0, u1, u2])) (hgrow : w.grownBy w' v.ownBlock) (hat : v.ownBlock = some g ∨ g = H) (hH : w.heap.size = H) :
    TermsRow w' base (.slice (some ⟨g, 0, none⟩) (L.length + 1) cap) (L ++ [t]) := by
  have hgf : ∀ b, but base v.ownBlock b = true → b < w.heap.size → but base (some g) b = true ∧ w'.heap[b]? = w.heap[b]? := fun b hb hbl => by
    obtain ⟨h1, h2⟩ := but_iff.1 hb
    refine ⟨but_iff.2 ⟨h1, fun e => ?_⟩, hgrow.block b hbl (fun e => h2 e.symm)⟩
    injection e with e; subst e
    rcases hat with h | h
    · exact h2 h
    · omega
  obtain ⟨hlen, hc⟩ := hown
  rcases hc with ⟨h, _⟩ | ⟨g', cap', cur, hv', h5, h1, h3, h4, h2, htake⟩
  · cases h
  · simp only [Value.slice.injEq, Option.some.injEq, Addr.mk.injEq, and_true, true_and] at hv'
    obtain ⟨rfl, rfl⟩ := hv'
    have hcur : ∀ j u, (xs ++ [u0, u1, u2])[j]? = some u → cur[j]? = some u := fun j u hu => by
      rw [← htake, List.getElem?_take] at hu
      split at hu
      · simpa using hu
      · cases hu
    refine .inr ⟨g, cap, by rw [List.length_append]; rfl, cur, h1, h2, by rw [List.length_append]; exact h3, h4, h5, fun i hi => ?_⟩
    rcases Nat.lt_or_ge i L.length with g1 | g1
    · obtain ⟨a0, a1, a2, b0, b1, b2, b3⟩ := hx i g1
      refine ⟨a0, a1, a2, hcur _ _ ?_, hcur _ _ ?_, hcur _ _ ?_, ?_⟩
      · rw [List.getElem?_append_left (by omega)]; exact b0
      · rw [List.getElem?_append_left (by omega)]; exact b1
      · rw [List.getElem?_append_left (by omega)]; exact b2
      · rw [List.getElem_append_left g1]; exact b3.keep hgf
    · have hi' : i = L.length := by simp at hi; omega
      subst hi'
      refine ⟨u0, u1, u2, hcur _ _ ?_, hcur _ _ ?_, hcur _ _ ?_, ?_⟩
      · rw [List.getElem?_append_right (by omega), hl]; simp
      · rw [List.getElem?_append_right (by omega), hl]; simp
      · rw [List.getElem?_append_right (by omega), hl]; simp
      · rw [List.getElem_append_right (Nat.le_refl _)]
        simpa using ht.keep hgf
theorem TermIn.one {S : Nat → Bool} {w : World} {a b c : Value} {t : T} (h : TermIn S w (.agg #[a, b, c]) t) : ∀ u ∈ [a, b, c], u.oneCell' = true := by
  obtain ⟨rfl, rfl, A, cap, rfl⟩ := TermAt.view h
  intro u hu
  simp at hu
  rcases hu with rfl | rfl | rfl <;> rfl
theorem TermIn.view {S : Nat → Bool} {w : World} {v : Value} {t : T} (h : TermIn S w v t) : ∃ A cap, v = .agg #[.int .i64 t.kind, .string t.name, .slice A t.kids.length cap] := by
  cases h
  exact ⟨_, _, rfl⟩
theorem Tryz.infoT : (Tryz.prog.info? 29).map (fun i => (i.zero, i.size, i.bytes)) = some (some (.agg #[.int .i64 0, .string ByteArray.empty, .slice none 0 0]), 3, 48) := by kernel_rfl
end Go.Proofs.YtihbmgkbipeakaaGreat
