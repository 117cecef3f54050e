/- Several texts in one: TermOwn, TermNorm, TermSort, TermArr, TermAnti. -/
import Derived.Test.YtihbmgkbipeakaaGreatWebG2
import Derived.Deep.AppendLies
import Derived.BigRegion
import Derived.BigQuiet
import Derived.Deep.RegionHeld3
import Derived.Deep.RegionLaw
import Derived.Deep.DrawnRows
import Derived.Deep.DeepCutAuto
namespace Go.Proofs.YtihbmgkbipeakaaGreat
open Go.RowKit

/-- A world of which only certain blocks are seen. -/
def only (w : World) (S : Nat → Bool) : World := { w with heap := w.heap.mapIdx fun i o => if S i = true then o else .cells #[] 0 (0, 0) }
theorem cell_only (w : World) (S : Nat → Bool) (p : Addr) : (only w S).cell? p = if S p.block = true then w.cell? p else none := by
  unfold World.cell? only
  simp only [Array.getElem?_mapIdx]
  cases h : w.heap[p.block]? with
  | none => simp
  | some o =>
    by_cases hS : S p.block = true
    · simp [hS]
    · simp [hS]
/-- A term all of whose memory lies in certain blocks. -/
def TermIn (S : Nat → Bool) (w : World) (v : Value) (t : T) : Prop := TermAt (only w S) v t
theorem TermIn.at {S : Nat → Bool} {w : World} {v : Value} {t : T} (h : TermIn S w v t) : TermAt w v t :=
  TermAt.keep h fun p hp => by
    rw [cell_only] at hp ⊢
    split at hp
    · rename_i hS; rw [if_pos hS]
    · cases hp
theorem TermIn.keep {S S' : Nat → Bool} {w w' : World} {v : Value} {t : T} (h : TermIn S w v t) (hk : ∀ b, S b = true → b < w.heap.size → S' b = true ∧ w'.heap[b]? = w.heap[b]?) : TermIn S' w' v t :=
  TermAt.keep h fun p hp => by
    rw [cell_only] at hp
    rw [cell_only, cell_only]
    split at hp
    · rename_i hS
      obtain ⟨v, hv⟩ := Option.isSome_iff_exists.1 hp
      obtain ⟨h1, h2⟩ := hk _ hS (World.block_lt_of_cell? w p hv)
      rw [if_pos hS, if_pos h1]; exact World.cell?_of_block h2
    · cases hp
theorem TermAt.inAll {w : World} {v : Value} {t : T} (h : TermAt w v t) : TermIn (fun b => decide (b < w.heap.size)) w v t :=
  TermAt.keep h fun p hp => by
    obtain ⟨v, hv⟩ := Option.isSome_iff_exists.1 hp
    rw [cell_only, if_pos (decide_eq_true (World.block_lt_of_cell? w p hv))]
/-- Blocks from B on. -/
def from_ (B : Nat) : Nat → Bool := fun b => decide (B ≤ b)
/-- Blocks from B on but g. -/
def but (B : Nat) (g : Option Nat) : Nat → Bool := fun b => decide (B ≤ b) && !(g == some b)
theorem but_iff {B : Nat} {g : Option Nat} {b : Nat} : but B g b = true ↔ B ≤ b ∧ g ≠ some b := by
  unfold but
  rw [Bool.and_eq_true, decide_eq_true_eq, Bool.not_eq_true', beq_eq_false_iff_ne]

/-- Block g is a row of cap terms, of which the first ones are these; they lie outside that block, from base on. -/
def RowT (w : World) (base g cap : Nat) (L : List T) : Prop :=
  ∃ cur : Array Value, w.heap[g]? = some (.cells cur 29 (0, 0)) ∧ cur.size = cap * 3 ∧ L.length ≤ cap ∧ cap ≤ maxLen ∧ base ≤ g ∧
    ∀ i (h : i < L.length), ∃ u0 u1 u2, cur[i * 3]? = some u0 ∧ cur[i * 3 + 1]? = some u1 ∧ cur[i * 3 + 2]? = some u2 ∧ TermIn (but base (some g)) w (.agg #[u0, u1, u2]) L[i]
def TermsRow (w : World) (base : Nat) (v : Value) (L : List T) : Prop :=
  (v = .slice none 0 0 ∧ L = []) ∨ ∃ g cap, v = .slice (some ⟨g, 0, none⟩) L.length cap ∧ RowT w base g cap L
theorem TermsRow.nil (w : World) (base : Nat) : TermsRow w base (.slice none 0 0) [] := .inl ⟨rfl, rfl⟩
theorem RowT.keep {w w' : World} {base g cap : Nat} {L : List T} (h : RowT w base g cap L) (hk : ∀ b, base ≤ b → b < w.heap.size → w'.heap[b]? = w.heap[b]?) : RowT w' base g cap L := by
  obtain ⟨cur, h1, h2, h3, h4, h5, h6⟩ := h
  refine ⟨cur, ?_, h2, h3, h4, h5, fun i hi => ?_⟩
  · rw [hk g h5 (Array.getElem?_eq_some_iff.1 h1).1]; exact h1
  · obtain ⟨u0, u1, u2, a, b, c, d⟩ := h6 i hi
    exact ⟨u0, u1, u2, a, b, c, d.keep fun b hb hl => ⟨hb, hk b (but_iff.1 hb).1 hl⟩⟩
theorem TermsRow.keep {w w' : World} {base : Nat} {v : Value} {L : List T} (h : TermsRow w base v L) (hk : ∀ b, base ≤ b → b < w.heap.size → w'.heap[b]? = w.heap[b]?) : TermsRow w' base v L := by
  rcases h with h | ⟨g, cap, rfl, h⟩
  · exact .inl h
  · exact .inr ⟨g, cap, rfl, h.keep hk⟩
theorem TermsRow.later {w w' : World} {base : Nat} {v : Value} {L : List T} (h : TermsRow w base v L) (hb : Below w.heap.size w w') : TermsRow w' base v L := h.keep fun b _ hl => hb.block b hl
theorem TermsRow.shape {w : World} {base : Nat} {v : Value} {L : List T} (h : TermsRow w base v L) : ∃ A cap, v = .slice A L.length cap ∧ L.length ≤ cap ∧ cap ≤ maxLen := by
  rcases h with ⟨rfl, rfl⟩ | ⟨g, cap, rfl, cur, _, _, h3, h4, _⟩
  · exact ⟨none, 0, rfl, Nat.le_refl _, Nat.zero_le _⟩
  · exact ⟨_, cap, rfl, h3, h4⟩
theorem TermsRow.block {w : World} {base : Nat} {v : Value} {L : List T} (h : TermsRow w base v L) : ∀ k, v.ownBlock = some k → base ≤ k ∧ k < w.heap.size := by
  intro k hk
  rcases h with ⟨rfl, rfl⟩ | ⟨g, cap, rfl, cur, h1, _, _, _, h5, _⟩
  · cases hk
  · injection hk with hk
    subst hk
    exact ⟨h5, (Array.getElem?_eq_some_iff.1 h1).1⟩
/-- The row as the kids of a term. -/
theorem TermsRow.term {w : World} {base : Nat} {v : Value} {L : List T} (h : TermsRow w base v L) (k : Int) (s : ByteArray) (hk : -9223372036854775808 ≤ k ∧ k ≤ 9223372036854775807) (hs : s.size ≤ maxLen) :
    TermIn (from_ base) w (.agg #[.int .i64 k, .string s, v]) (.mk k s L) := by
  rcases h with ⟨rfl, rfl⟩ | ⟨g, cap, rfl, cur, h1, h2, h3, h4, h5, h6⟩
  · exact TermAt.mk k s none 0 [] (fun _ => (undef, undef, undef)) hk hs (Nat.le_refl _) (Nat.zero_le _) (.inl rfl) (fun i h => by simp at h)
  · have hc : ∀ j u, cur[j]? = some u → (only w (from_ base)).cell? ⟨g, j, none⟩ = some u := fun j u hu => by
      rw [cell_only, if_pos (by unfold from_; exact decide_eq_true h5)]
      simp [World.cell?, h1, hu]
    refine TermAt.mk k s (some ⟨g, 0, none⟩) cap L (fun i => (cur.getD (i * 3) undef, cur.getD (i * 3 + 1) undef, cur.getD (i * 3 + 2) undef)) hk hs h3 h4 (.inr ⟨g, 0, rfl, fun i hi => ?_⟩) (fun i hi => ?_)
    · obtain ⟨u0, u1, u2, a, b, c, d⟩ := h6 i hi
      rw [Nat.zero_add]
      refine ⟨(hc _ _ a).trans ?_, (hc _ _ b).trans ?_, (hc _ _ c).trans ?_⟩
      · simp [Array.getD_eq_getD_getElem?, a]
      · simp [Array.getD_eq_getD_getElem?, b]
      · simp [Array.getD_eq_getD_getElem?, c]
    · obtain ⟨u0, u1, u2, a, b, c, d⟩ := h6 i hi
      have e : (Value.agg #[cur.getD (i * 3) undef, cur.getD (i * 3 + 1) undef, cur.getD (i * 3 + 2) undef]) = .agg #[u0, u1, u2] := by
        simp [Array.getD_eq_getD_getElem?, a, b, c]
      show TermAt _ (Value.agg #[cur.getD (i * 3) undef, cur.getD (i * 3 + 1) undef, cur.getD (i * 3 + 2) undef]) _
      rw [e]
      exact d.keep (S' := from_ base) fun b hb _ => ⟨decide_eq_true (but_iff.1 hb).1, rfl⟩
/-- What the library's laws on append want of it. -/
theorem TermsRow.owns {w : World} {base : Nat} {v : Value} {L : List T} (h : TermsRow w base v L) : ∃ xs, w.ownsRow base 29 3 v L.length xs ∧
    (∀ i (h : i < L.length), ∃ u0 u1 u2, xs[i * 3]? = some u0 ∧ xs[i * 3 + 1]? = some u1 ∧ xs[i * 3 + 2]? = some u2 ∧ TermIn (but base v.ownBlock) w (.agg #[u0, u1, u2]) L[i]) := by
  rcases h with ⟨rfl, rfl⟩ | ⟨g, cap, rfl, cur, h1, h2, h3, h4, h5, h6⟩
  · exact ⟨[], World.ownsRow_nil _ _ _ _, fun i h => by simp at h⟩
  · refine ⟨cur.toList.take (L.length * 3), ⟨?_, .inr ⟨g, cap, cur, rfl, h5, h1, h3, h4, h2, rfl⟩⟩, fun i hi => ?_⟩
    · have hsz : cur.toList.length = cap * 3 := by simpa using h2
      rw [List.length_take]; exact Nat.min_eq_left (by omega)
    · obtain ⟨u0, u1, u2, a, b, c, d⟩ := h6 i hi
      refine ⟨u0, u1, u2, ?_, ?_, ?_, d⟩
      all_goals rw [List.getElem?_take, if_pos (by omega)]; simpa
/-- Behind an append of one term. -/
theorem TermsRow.snoc {w w' : World} {base g cap H : Nat} {v : Value} {L : List T} {xs : List Value} {u0 u1 u2 : Value} {t : T}
    (hx : ∀ i (h : i < L.length), ∃ u0 u1 u2, xs[i * 3]? = some u0 ∧ xs[i * 3 + 1]? = some u1 ∧ xs[i * 3 + 2]? = some u2 ∧ TermIn (but base v.ownBlock) w (.agg #[u0, u1, u2]) L[i]) (hl : xs.length = L.length * 3)
    (ht : TermIn (but base v.ownBlock) w (.agg #[u0, u1, u2]) t)
    (hown : w'.ownsRow base 29 3 (.slice (some ⟨g, 0, none⟩) (L.length + 1) cap) (L.length + 1) (xs ++ [u0, u1, u2])) (hgrow : w.grownBy w' v.ownBlock) (hat : v.ownBlock = some g ∨ g = H) (hH : w.heap.size = H) :
    TermsRow w' base (.slice (some ⟨g, 0, none⟩) (L.length + 1) cap) (L ++ [t]) := by
  have hgf : ∀ b, but base v.ownBlock b = true → b < w.heap.size → but base (some g) b = true ∧ w'.heap[b]? = w.heap[b]? := fun b hb hbl => by
    obtain ⟨h1, h2⟩ := but_iff.1 hb
    refine ⟨but_iff.2 ⟨h1, fun e => ?_⟩, hgrow.block b hbl (fun e => h2 e.symm)⟩
    injection e with e; subst e
    rcases hat with h | h
    · exact h2 h
    · omega
  obtain ⟨hlen, hc⟩ := hown
  rcases hc with ⟨h, _⟩ | ⟨g', cap', cur, hv', h5, h1, h3, h4, h2, htake⟩
  · cases h
  · simp only [Value.slice.injEq, Option.some.injEq, Addr.mk.injEq, and_true, true_and] at hv'
    obtain ⟨rfl, rfl⟩ := hv'
    have hcur : ∀ j u, (xs ++ [u0, u1, u2])[j]? = some u → cur[j]? = some u := fun j u hu => by
      rw [← htake, List.getElem?_take] at hu
      split at hu
      · simpa using hu
      · cases hu
    refine .inr ⟨g, cap, by rw [List.length_append]; rfl, cur, h1, h2, by rw [List.length_append]; exact h3, h4, h5, fun i hi => ?_⟩
    rcases Nat.lt_or_ge i L.length with g1 | g1
    · obtain ⟨a0, a1, a2, b0, b1, b2, b3⟩ := hx i g1
      refine ⟨a0, a1, a2, hcur _ _ ?_, hcur _ _ ?_, hcur _ _ ?_, ?_⟩
      · rw [List.getElem?_append_left (by omega)]; exact b0
      · rw [List.getElem?_append_left (by omega)]; exact b1
      · rw [List.getElem?_append_left (by omega)]; exact b2
      · rw [List.getElem_append_left g1]; exact b3.keep hgf
    · have hi' : i = L.length := by simp at hi; omega
      subst hi'
      refine ⟨u0, u1, u2, hcur _ _ ?_, hcur _ _ ?_, hcur _ _ ?_, ?_⟩
      · rw [List.getElem?_append_right (by omega), hl]; simp
      · rw [List.getElem?_append_right (by omega), hl]; simp
      · rw [List.getElem?_append_right (by omega), hl]; simp
      · rw [List.getElem_append_right (Nat.le_refl _)]
        simpa using ht.keep hgf
theorem TermIn.one {S : Nat → Bool} {w : World} {a b c : Value} {t : T} (h : TermIn S w (.agg #[a, b, c]) t) : ∀ u ∈ [a, b, c], u.oneCell' = true := by
  obtain ⟨rfl, rfl, A, cap, rfl⟩ := TermAt.view h
  intro u hu
  simp at hu
  rcases hu with rfl | rfl | rfl <;> rfl
theorem TermIn.view {S : Nat → Bool} {w : World} {v : Value} {t : T} (h : TermIn S w v t) : ∃ A cap, v = .agg #[.int .i64 t.kind, .string t.name, .slice A t.kids.length cap] := by
  cases h
  exact ⟨_, _, rfl⟩
theorem Tryz.infoT : (Tryz.prog.info? 29).map (fun i => (i.zero, i.size, i.bytes)) = some (some (.agg #[.int .i64 0, .string ByteArray.empty, .slice none 0 0]), 3, 48) := by kernel_rfl
end Go.Proofs.YtihbmgkbipeakaaGreat

namespace Go.Proofs.YtihbmgkbipeakaaGreat
open Go.RowKit

namespace T
/-- Insertion into a list that lies in reverse. -/
def insR (x : T) : List T → List T
  | [] => [x]
  | y :: r => if cmp x y < 0 then y :: insR x r else x :: y :: r
def isort (l : List T) : List T := (l.foldl (fun acc x => insR x acc) []).reverse
mutual
def norm : T → T
  | .mk k s ks => .mk k s (if k = 7 then isort (normAll ks) else normAll ks)
def normAll : List T → List T
  | [] => []
  | t :: r => norm t :: normAll r
end
theorem normAll_map : ∀ l : List T, normAll l = l.map norm
  | [] => rfl
  | t :: r => by simp only [normAll, List.map_cons, normAll_map r]
theorem bulkAll_append : ∀ l m : List T, bulkAll (l ++ m) = bulkAll l + bulkAll m
  | [], m => by simp [bulkAll]
  | t :: r, m => by simp only [List.cons_append, bulkAll, bulkAll_append r m]; omega
theorem bulkAll_reverse (l : List T) : bulkAll l.reverse = bulkAll l := by
  induction l with
  | nil => rfl
  | cons t r ih => rw [List.reverse_cons, bulkAll_append, ih]; simp only [bulkAll]; omega
theorem bulkAll_insR (x : T) (l : List T) : bulkAll (insR x l) = x.bulk + bulkAll l := by
  induction l with
  | nil => rfl
  | cons t r ih =>
    simp only [insR]
    split
    · simp only [bulkAll, ih]; omega
    · simp only [bulkAll]
theorem length_insR (x : T) (l : List T) : (insR x l).length = l.length + 1 := by
  induction l with
  | nil => rfl
  | cons t r ih =>
    simp only [insR]
    split
    · simp only [List.length_cons, ih]
    · rfl
theorem bulkAll_fold (l : List T) : ∀ acc, bulkAll (l.foldl (fun acc x => insR x acc) acc) = bulkAll acc + bulkAll l := by
  induction l with
  | nil => intro acc; simp [bulkAll]
  | cons t r ih => intro acc; rw [List.foldl_cons, ih, bulkAll_insR]; simp only [bulkAll]; omega
theorem length_fold (l : List T) : ∀ acc : List T, (l.foldl (fun acc x => insR x acc) acc).length = acc.length + l.length := by
  induction l with
  | nil => intro acc; simp
  | cons t r ih => intro acc; rw [List.foldl_cons, ih, length_insR]; simp only [List.length_cons]; omega
theorem bulkAll_isort (l : List T) : bulkAll (isort l) = bulkAll l := by
  unfold isort; rw [bulkAll_reverse, bulkAll_fold]; simp [bulkAll]
theorem length_isort (l : List T) : (isort l).length = l.length := by
  unfold isort; rw [List.length_reverse, length_fold]; simp
mutual
theorem bulk_norm : ∀ t : T, t.norm.bulk = t.bulk
  | .mk k s ks => by
    simp only [norm, bulk]
    split
    · rw [bulkAll_isort, bulk_normAll ks]
    · rw [bulk_normAll ks]
theorem bulk_normAll : ∀ l : List T, bulkAll (normAll l) = bulkAll l
  | [] => rfl
  | t :: r => by simp only [normAll, bulkAll, bulk_norm t, bulk_normAll r]
end
theorem shape_kids {k : Int} {s : ByteArray} {ks : List T} (h : (T.mk k s ks).shape = true) : ∀ i (g : i < ks.length), ks[i].shape = true := by
  intro i g
  by_cases h12 : k = 1 ∨ k = 2
  · rw [shape_atom k s ks h12, Bool.and_eq_true] at h
    have := beq_iff_eq.1 h.2; omega
  · rw [shape_head k s ks (fun e => h12 (.inl e)) (fun e => h12 (.inr e)), Bool.and_eq_true, Bool.not_eq_true'] at h
    have := List.any_eq_false.1 h.2 ks[i] (List.getElem_mem g)
    simpa using this
theorem shape_seven {s : ByteArray} {ks : List T} (h : (T.mk 7 s ks).shape = true) : 1 ≤ ks.length ∧ ks.length ≤ 4 := by
  rw [shape_head 7 s ks (by decide) (by decide), Bool.and_eq_true, Bool.and_eq_true] at h
  rcases headOk_kinds 7 ks with ⟨g, _⟩ | g
  · rw [g] at h; simp at h
  · omega
end T
/-- A block of the three cells of a term, known whole. -/
def Box (w : World) (g : Nat) (a b c : Value) : Prop := w.heap[g]? = some (.cells #[a, b, c] 29 (0, 0))
theorem Box.cells {w : World} {g : Nat} {a b c : Value} (h : Box w g a b c) : w.cell? ⟨g, 0, none⟩ = some a ∧ w.cell? ⟨g, 1, none⟩ = some b ∧ w.cell? ⟨g, 2, none⟩ = some c := by
  unfold Box at h
  refine ⟨?_, ?_, ?_⟩ <;> simp [World.cell?, h]
theorem Box.free {w : World} {g : Nat} {a b c : Value} (h : Box w g a b c) : w.frozen? ⟨g, 0, none⟩ = false ∧ w.frozen? ⟨g, 1, none⟩ = false ∧ w.frozen? ⟨g, 2, none⟩ = false := by
  unfold Box at h
  refine ⟨?_, ?_, ?_⟩ <;> simp [World.frozen?, h]
theorem Box.lt {w : World} {g : Nat} {a b c : Value} (h : Box w g a b c) : g < w.heap.size := (Array.getElem?_eq_some_iff.1 h).1
theorem Box.set2 {w : World} {g : Nat} {a b c : Value} (h : Box w g a b c) (v : Value) : Box (w.setCell ⟨g, 2, none⟩ v) g a b v := by
  unfold Box at *
  simp [World.setCell, Array.getElem?_modify, h]
theorem Box.setOther {w : World} {g : Nat} {a b c : Value} (h : Box w g a b c) {p : Addr} (hp : g ≠ p.block) (v : Value) : Box (w.setCell p v) g a b c := by
  unfold Box at *
  rw [Below.heap_setCell _ _ _ _ hp]; exact h
theorem Box.later {w w' : World} {g : Nat} {a b c : Value} (h : Box w g a b c) (hb : Below w.heap.size w w') : Box w' g a b c := (hb.block g h.lt).trans h
theorem Box.grown {w w' : World} {g : Nat} {a b c : Value} {row : Option Nat} (h : Box w g a b c) (hg : w.grownBy w' row) (hr : row ≠ some g) : Box w' g a b c := (hg.block g h.lt (fun e => hr e.symm)).trans h
theorem Box.new (w : World) (a b c : Value) : Box (w.alloc (.cells #[a, b, c] 29)) w.heap.size a b c := heap_alloc_new w _
theorem box_two (w : World) (a b c a' b' c' : Value) : Box ((w.alloc (.cells #[a, b, c] 29)).alloc (.cells #[a', b', c'] 29)) w.heap.size a b c ∧ Box ((w.alloc (.cells #[a, b, c] 29)).alloc (.cells #[a', b', c'] 29)) (w.heap.size + 1) a' b' c' ∧
    Below w.heap.size w ((w.alloc (.cells #[a, b, c] 29)).alloc (.cells #[a', b', c'] 29)) ∧ ((w.alloc (.cells #[a, b, c] 29)).alloc (.cells #[a', b', c'] 29)).heap.size = w.heap.size + 2 := by
  have hs := size_alloc1 w (.cells #[a, b, c] 29)
  have h2 := Box.new (w.alloc (.cells #[a, b, c] 29)) a' b' c'
  rw [hs] at h2
  exact ⟨(Box.new w a b c).later (below_alloc1 _ _), h2, (below_alloc1 _ _).trans ((below_alloc1 _ _).mono (by rw [hs]; omega)), by rw [size_alloc1, hs]⟩
theorem own_later {w w' : World} {base : Nat} {e : TypeId} {size n : Nat} {v : Value} {xs : List Value} (h : w.ownsRow base e size v n xs) (hb : Below w.heap.size w w') : w'.ownsRow base e size v n xs :=
  h.kept (row := none) ⟨hb.os, hb.tape, hb.output, hb.size, fun k hk _ => hb.block k hk⟩ (by cases v.ownBlock <;> simp)
theorem below_undrew {w w' : World} (h : Below w.drew.heap.size w.drew w') : Below w.heap.size w w' := ⟨h.os, h.tape, h.output, h.size, h.block⟩
/-- A term is returned that lies in new memory. -/
def RetT (t : T) (w : World) (e : Ending) (w' : World) : Prop := ∃ A cap, e = .returned (.agg #[.int .i64 t.kind, .string t.name, .slice A t.kids.length cap]) ∧
  TermIn (from_ w.heap.size) w' (.agg #[.int .i64 t.kind, .string t.name, .slice A t.kids.length cap]) t ∧ Below w.heap.size w w'
/-- Three stores into the block of a result. -/
theorem box_set3 {w : World} {g : Nat} {a b c : Value} (h : Box w g a b c) (x y z : Value) : Box (((w.setCell ⟨g, 0, none⟩ x).setCell ⟨g, 1, none⟩ y).setCell ⟨g, 2, none⟩ z) g x y z := by
  unfold Box at *
  simp [World.setCell, Array.getElem?_modify, h]
theorem set3_other (w : World) (g : Nat) (x y z : Value) (k : Nat) (hk : k ≠ g) : (((w.setCell ⟨g, 0, none⟩ x).setCell ⟨g, 1, none⟩ y).setCell ⟨g, 2, none⟩ z).heap[k]? = w.heap[k]? := by
  rw [Below.heap_setCell _ _ _ _ hk, Below.heap_setCell _ _ _ _ hk, Below.heap_setCell _ _ _ _ hk]
theorem ret_set3 {t : T} {w wr : World} {A : Option Addr} {cap g : Nat} (x y z : Value) (hbw : Below w.heap.size w wr) (hg : w.heap.size ≤ g)
    (hx : x = .int .i64 t.kind) (hy : y = .string t.name) (hz : z = .slice A t.kids.length cap) (h : TermIn (from_ (g + 1)) wr (.agg #[x, y, z]) t) :
    RetT t w (.returned (.agg #[x, y, z])) (((wr.setCell ⟨g, 0, none⟩ x).setCell ⟨g, 1, none⟩ y).setCell ⟨g, 2, none⟩ z) := by
  subst hx; subst hy; subst hz
  refine ⟨A, cap, rfl, h.keep fun b hb _ => ?_, ((hbw.setCell hg _).setCell hg _).setCell hg _⟩
  have := of_decide_eq_true hb
  exact ⟨decide_eq_true (by omega), set3_other _ _ _ _ _ _ (by omega)⟩
theorem grownBy_trans {w w' w'' : World} {row : Option Nat} (h : w.grownBy w' row) (k : w'.grownBy w'' row) : w.grownBy w'' row :=
  ⟨k.os.trans h.os, k.tape.trans h.tape, k.output.trans h.output, Nat.le_trans h.size k.size, fun i hi hn => (k.block i (Nat.lt_of_lt_of_le hi h.size) hn).trans (h.block i hi hn)⟩
theorem grownBy_of_below {w w' : World} (row : Option Nat) (h : Below w.heap.size w w') : w.grownBy w' row := ⟨h.os, h.tape, h.output, h.size, fun k hk _ => h.block k hk⟩
end Go.Proofs.YtihbmgkbipeakaaGreat

namespace Go.Proofs.YtihbmgkbipeakaaGreat
open Go.RowKit

theorem RowT.at {w : World} {base g cap : Nat} {L : List T} (h : RowT w base g cap L) (i : Nat) (hi : i < L.length) : ∃ A C, w.cell? ⟨g, i * 3, none⟩ = some (.int .i64 L[i].kind) ∧ w.cell? ⟨g, i * 3 + 1, none⟩ = some (.string L[i].name) ∧
    w.cell? ⟨g, i * 3 + 2, none⟩ = some (.slice A L[i].kids.length C) ∧ TermIn (but base (some g)) w (.agg #[.int .i64 L[i].kind, .string L[i].name, .slice A L[i].kids.length C]) L[i] := by
  obtain ⟨cur, h1, h2, h3, h4, h5, h6⟩ := h
  obtain ⟨u0, u1, u2, a, b, c, d⟩ := h6 i hi
  obtain ⟨rfl, rfl, A, C, rfl⟩ := TermAt.view d
  refine ⟨A, C, ?_, ?_, ?_, d⟩ <;> simp [World.cell?, h1, a, b, c]

theorem RowT.free {w : World} {base g cap : Nat} {L : List T} (h : RowT w base g cap L) (i : Nat) : w.frozen? ⟨g, i * 3, none⟩ = false ∧ w.frozen? ⟨g, i * 3 + 1, none⟩ = false ∧ w.frozen? ⟨g, i * 3 + 2, none⟩ = false := by
  obtain ⟨cur, h1, _⟩ := h
  refine ⟨?_, ?_, ?_⟩ <;> simp [World.frozen?, h1]

theorem swap_at {P Q : List T} {x y : T} {p : Nat} (hp : P.length = p) (i : Nat) (h : i < (P ++ x :: y :: Q).length) (h' : i < (P ++ y :: x :: Q).length) (n0 : i ≠ p) (n1 : i ≠ p + 1) : (P ++ x :: y :: Q)[i] = (P ++ y :: x :: Q)[i] := by
  apply Option.some_inj.1
  rw [← List.getElem?_eq_getElem, ← List.getElem?_eq_getElem]
  rcases Nat.lt_or_ge i p with g | g
  · rw [List.getElem?_append_left (by omega), List.getElem?_append_left (by omega)]
  · obtain ⟨q, rfl⟩ : ∃ q, i = P.length + (q + 2) := ⟨i - p - 2, by omega⟩
    rw [List.getElem?_append_right (by omega), List.getElem?_append_right (by omega)]
    simp
/-- Of a world only block g has changed: its cells are these now. -/
structure Wrote (w : World) (g : Nat) (cur : Array Value) (w' : World) : Prop where
  row : w'.heap[g]? = some (.cells cur 29 (0, 0))
  other : ∀ k, k ≠ g → w'.heap[k]? = w.heap[k]?
  os : w'.os = w.os
  tape : w'.tape = w.tape
  output : w'.output = w.output
  size : w'.heap.size = w.heap.size
theorem Wrote.set {w w' : World} {g : Nat} {cur : Array Value} (h : Wrote w g cur w') (i : Nat) (v : Value) : Wrote w g (cur.setIfInBounds i v) (w'.setCell ⟨g, i, none⟩ v) :=
  ⟨by simp [World.setCell, Array.getElem?_modify, h.row], fun k hk => by rw [Below.heap_setCell _ _ _ _ hk]; exact h.other k hk, h.os, h.tape, h.output, by simp [World.setCell, h.size]⟩
theorem Wrote.drew {w w' : World} {g : Nat} {cur : Array Value} (h : Wrote w g cur w') : Wrote w g cur w'.drew := ⟨h.row, h.other, h.os, h.tape, h.output, h.size⟩
theorem Wrote.grown {w w' : World} {g : Nat} {cur : Array Value} (h : Wrote w g cur w') : w.grownBy w' (some g) := ⟨h.os, h.tape, h.output, Nat.le_of_eq h.size.symm, fun k _ hk => h.other k (fun e => hk (by rw [e]))⟩
theorem RowT.swap {w W : World} {base g cap p : Nat} {P Q : List T} {x y : T} (hp : P.length = p) (h : RowT w base g cap (P ++ y :: x :: Q)) {a0 a1 a2 b0 b1 b2 : Value}
    (z0 : w.cell? ⟨g, p * 3, none⟩ = some a0) (z1 : w.cell? ⟨g, p * 3 + 1, none⟩ = some a1) (z2 : w.cell? ⟨g, p * 3 + 2, none⟩ = some a2)
    (y0 : w.cell? ⟨g, (p + 1) * 3, none⟩ = some b0) (y1 : w.cell? ⟨g, (p + 1) * 3 + 1, none⟩ = some b1) (y2 : w.cell? ⟨g, (p + 1) * 3 + 2, none⟩ = some b2)
    (hW : ∀ cur, w.heap[g]? = some (.cells cur 29 (0, 0)) → Wrote w g ((((((cur.setIfInBounds ((p + 1) * 3) a0).setIfInBounds ((p + 1) * 3 + 1) a1).setIfInBounds ((p + 1) * 3 + 2) a2).setIfInBounds (p * 3) b0).setIfInBounds (p * 3 + 1) b1).setIfInBounds (p * 3 + 2) b2) W) :
    RowT W base g cap (P ++ x :: y :: Q) ∧ w.grownBy W (some g) := by
  obtain ⟨cur, h1, h2, h3, h4, h5, h6⟩ := h
  have hw := hW cur h1
  have hll : (P ++ x :: y :: Q).length = (P ++ y :: x :: Q).length := by simp
  have hpl : p + 1 < (P ++ y :: x :: Q).length := by simp; omega
  have hcell : ∀ j v, w.cell? ⟨g, j, none⟩ = some v → cur[j]? = some v := fun j v hv => by simpa [World.cell?, h1] using hv
  have hsz : cur.size = cap * 3 := h2
  have keep : ∀ {v : Value} {t : T}, TermIn (but base (some g)) w v t → TermIn (but base (some g)) W v t := fun ht =>
    ht.keep fun b hb _ => ⟨hb, hw.other b (fun e => (but_iff.1 hb).2 (by rw [e]))⟩
  refine ⟨⟨_, hw.row, by simpa using h2, by rw [hll]; exact h3, h4, h5, fun i hi => ?_⟩, hw.grown⟩
  have hi' : i < (P ++ y :: x :: Q).length := by rw [← hll]; exact hi
  by_cases n0 : i = p
  · subst n0
    obtain ⟨u0, u1, u2, c0, c1, c2, d⟩ := h6 (i + 1) hpl
    have e0 : b0 = u0 := Option.some_inj.1 ((hcell _ _ y0).symm.trans c0)
    have e1 : b1 = u1 := Option.some_inj.1 ((hcell _ _ y1).symm.trans c1)
    have e2 : b2 = u2 := Option.some_inj.1 ((hcell _ _ y2).symm.trans c2)
    have ex : (P ++ y :: x :: Q)[i + 1] = x := by rw [List.getElem_append_right (by omega)]; simp [← hp]
    have ex' : (P ++ x :: y :: Q)[i] = x := by rw [List.getElem_append_right (by omega)]; simp [← hp]
    subst e0; subst e1; subst e2
    rw [ex] at d
    refine ⟨b0, b1, b2, ?_, ?_, ?_, by rw [ex']; exact keep d⟩
    all_goals simp only [Array.getElem?_setIfInBounds, Array.size_setIfInBounds]; repeat (first | rw [if_pos trivial] | rw [if_pos (by omega)] | rw [if_neg (by omega)])
  · by_cases n1 : i = p + 1
    · subst n1
      obtain ⟨u0, u1, u2, c0, c1, c2, d⟩ := h6 p (by omega)
      have e0 : a0 = u0 := Option.some_inj.1 ((hcell _ _ z0).symm.trans c0)
      have e1 : a1 = u1 := Option.some_inj.1 ((hcell _ _ z1).symm.trans c1)
      have e2 : a2 = u2 := Option.some_inj.1 ((hcell _ _ z2).symm.trans c2)
      have ex : (P ++ y :: x :: Q)[p] = y := by rw [List.getElem_append_right (by omega)]; simp [← hp]
      have ex' : (P ++ x :: y :: Q)[p + 1] = y := by rw [List.getElem_append_right (by omega)]; simp [← hp]
      subst e0; subst e1; subst e2
      rw [ex] at d
      refine ⟨a0, a1, a2, ?_, ?_, ?_, by rw [ex']; exact keep d⟩
      all_goals simp only [Array.getElem?_setIfInBounds, Array.size_setIfInBounds]; repeat (first | rw [if_pos trivial] | rw [if_pos (by omega)] | rw [if_neg (by omega)])
    · obtain ⟨u0, u1, u2, c0, c1, c2, d⟩ := h6 i hi'
      rw [swap_at hp i hi hi' n0 n1]
      refine ⟨u0, u1, u2, ?_, ?_, ?_, keep d⟩
      all_goals simp only [Array.getElem?_setIfInBounds, Array.size_setIfInBounds]; repeat (first | rw [if_pos trivial] | rw [if_pos (by omega)] | rw [if_neg (by omega)])
      · exact c0
      · exact c1
      · exact c2

set_option maxRecDepth 100000 in
set_option maxHeartbeats 8000000 in
theorem insertion (base g cap : Nat) (L : List T) (w : World) (h : RowT w base g cap L) (hL : L.length ≤ 20) (hb : T.bulkAll L ≤ 1048576) :
    Calls Tryz.prog 156 #[.slice (some ⟨g, 0, none⟩) L.length cap, .int .i64 0, .int .i64 L.length, .func (.func 103) #[] #[]] w fun e w' =>
      e = .returned (.tuple #[]) ∧ RowT w' base g cap (T.isort L) ∧ w.grownBy w' (some g) := by
  have HR := Lib.hid h
  clear h
  go_enter Tryz.func156, Tryz.ntmps156
  go_wp2_with fail
  go_loopw [8] (fun i wr => ∃ (m : Nat) (acc : List T), 1 ≤ m ∧ m ≤ 20 ∧ i = .int .i64 m ∧ acc = (L.take m).foldl (fun acc x => T.insR x acc) [] ∧ RowT wr base g cap (acc.reverse ++ L.drop m) ∧ w.grownBy wr (some g)) (fun i _ => 30 - (intOf i).toNat)
  case atStart =>
    refine ⟨1, L.take 1, Nat.le_refl _, by omega, rfl, ?_, ?_, ⟨rfl, rfl, rfl, Nat.le_refl _, fun _ _ _ => rfl⟩⟩
    · cases L with
      | nil => rfl
      | cons t r => rfl
    · have : (L.take 1).reverse ++ L.drop 1 = L := by cases L <;> simp
      rw [this]; exact HR.out
  case round =>
    obtain ⟨m, acc, hm1, hm2, rfl, hacc, hrow, hgr⟩ := hrel
    by_cases hlt : m < L.length
    · have hi : (m : Int) < (L.length : Int) := by omega
      have HACC := Lib.hid hacc; have HROW := Lib.hid hrow; have HGR := Lib.hid hgr; have HLT := Lib.hid hlt
      clear hacc hrow hgr
      go_wp2_with fail
      have hml : (List.take m L).length = m := by rw [List.length_take]; omega
      have hal : acc.length = m := by rw [HACC.out, T.length_fold, hml]; simp
      obtain ⟨x, hdr, htk0, hbx⟩ : ∃ x, L.drop m = x :: L.drop (m + 1) ∧ L.take (m + 1) = L.take m ++ [x] ∧ x.bulk ≤ T.bulkAll L := ⟨L[m], List.drop_eq_getElem_cons hlt, List.take_succ_eq_append_getElem hlt, T.bulk_at L m hlt⟩
      have htk : (L.take (m + 1)).foldl (fun acc x => T.insR x acc) [] = T.insR x acc := by rw [htk0, List.foldl_append, ← HACC.out]; rfl
      obtain ⟨rest, hrest⟩ : ∃ rest, L.drop (m + 1) = rest := ⟨_, rfl⟩
      have hst : RowT wr base g cap (acc.reverse ++ [x] ++ [].reverse ++ rest) := by have := HROW.out; rw [hdr, hrest] at this; simpa using this
      have hlen : acc.length + 1 + rest.length = L.length := by rw [← hrest, List.length_drop]; omega
      have hba : T.bulkAll acc ≤ T.bulkAll L := by rw [HACC.out, T.bulkAll_fold]; have := T.bulkAll_take L m; simp only [T.bulkAll]; omega
      have hbk : ∀ t ∈ acc, t.bulk ≤ 1048576 := fun t ht => by
        obtain ⟨i, hi, rfl⟩ := List.getElem_of_mem ht
        have := T.bulk_at acc i hi; omega
      have HST := Lib.hid hst; have HTK := Lib.hid htk; have HBK := Lib.hid hbk; have HBX := Lib.hid (Nat.le_trans hbx hb); have HAL := Lib.hid hal; have HLEN := Lib.hid hlen; have HREST := Lib.hid hrest
      clear hst htk hbk hba hbx hal hlen hdr hml htk0 hrest
      obtain ⟨wo, hwo⟩ : ∃ wo : World, wo = wr := ⟨_, rfl⟩
      rw [← hwo] at HST HGR ⊢
      clear hwo HROW
      go_loopw [9] (fun i wr => ∃ A Bq : List T, acc = Bq ++ A ∧ T.insR x acc = Bq ++ T.insR x A ∧ i = .int .i64 A.length ∧ RowT wr base g cap (A.reverse ++ [x] ++ Bq.reverse ++ rest) ∧ w.grownBy wr (some g)) (fun i _ => (intOf i).toNat)
      case atStart => exact ⟨acc, [], rfl, rfl, by rw [HAL.out], HST.out, HGR.out⟩
      case round =>
        obtain ⟨A, Bq, hab, hins, rfl, hrow, hgr⟩ := hrel
        have HAB := Lib.hid hab; have HINS := Lib.hid hins; have HROW := Lib.hid hrow; have HGR2 := Lib.hid hgr
        clear hab hins hrow hgr
        cases A with
        | nil =>
          simp only [List.length_nil]
          go_upto_region 4 with fail
          go_quiet (fail)
          go_wp2_with fail
          go_roundw
          case rel =>
            refine ⟨m + 1, T.insR x acc, by omega, by have := HLT.out; omega, by go_num, HTK.out.symm, ?_, ⟨HGR2.out.os, HGR2.out.tape, HGR2.out.output, HGR2.out.size, HGR2.out.block⟩⟩
            rw [HINS.out]
            have := RowT.keep (w' := wr.drewN nq) HROW.out (fun _ _ _ => rfl)
            rw [HREST.out]
            simpa [T.insR] using this
          case measure => simp [intOf]; omega
        | cons y A =>
          obtain ⟨p, hp⟩ : ∃ p, A.length = p := ⟨_, rfl⟩
          have hlen2 : (Bq ++ y :: A).length = m := by rw [← HAB.out, HAL.out]
          simp only [List.length_append, List.length_cons] at hlen2
          have hN : ((y :: A).reverse ++ [x] ++ Bq.reverse ++ rest).length = L.length := by have := HLEN.out; have := HAL.out; simp; omega
          obtain ⟨A0, C0, c0, c1, c2, hx0⟩ := HROW.out.at p (by omega)
          obtain ⟨A1, C1, d0, d1, d2, hx1⟩ := HROW.out.at (p + 1) (by omega)
          have ey : ((y :: A).reverse ++ [x] ++ Bq.reverse ++ rest)[p]'(by omega) = y := by
            simp only [List.reverse_cons, List.append_assoc]
            rw [List.getElem_append_right (by simp; omega)]
            simp [← hp]
          have ex : ((y :: A).reverse ++ [x] ++ Bq.reverse ++ rest)[p + 1]'(by omega) = x := by
            simp only [List.reverse_cons, List.append_assoc]
            rw [List.getElem_append_right (by simp; omega)]
            simp [← hp]
          rw [ey] at c0 c1 c2 hx0
          rw [ex] at d0 d1 d2 hx1
          have hpl : (p : Int) + 1 < (L.length : Int) := by omega
          have hpl' : (p : Int) < (L.length : Int) := by omega
          simp only [List.length_cons, hp]
          push_cast
          have HX0 := Lib.hid hx0.at; have HX1 := Lib.hid hx1.at
          have q1 : IntKind.i64.wrap ((p : Int) + 1 - 1) = (p : Int) := by rw [IntWalk.i64_in _ (by omega)]; omega
          have q0 : (0 : Int) < (p : Int) + 1 := by omega
          have HP := Lib.hid hp
          have q4 : IntKind.i64.wrap (p : Int) = (p : Int) := IntWalk.i64_in _ (by omega)
          have q2 : (0 : Int) ≤ (p : Int) := by omega
          have q3 : (0 : Int) ≤ (p : Int) + 1 := by omega
          clear hx0 hx1 ex ey hN hlen2 hp
          go_upto_region 4 with fail
          obtain ⟨c, hcv⟩ : ∃ c, T.cmp x y = c := ⟨_, rfl⟩
          have HCV := Lib.hid hcv
          have HY := Lib.hid (HBK.out y (by rw [HAB.out]; simp))
          have HC := Lib.hid (fun W h1 h2 => hcv ▸ ocmp (x.bulk + 1) x y (.agg #[.int .i64 x.kind, .string x.name, .slice A1 x.kids.length C1]) (.agg #[.int .i64 y.kind, .string y.name, .slice A0 y.kids.length C0]) W (by omega) h1 h2 HBX.out HY.out)
          clear hcv
          go_region_held3 (fun W => W.cell? ⟨g, p * 3, none⟩ = some (.int .i64 y.kind) ∧ W.cell? ⟨g, p * 3 + 1, none⟩ = some (.string y.name) ∧ W.cell? ⟨g, p * 3 + 2, none⟩ = some (.slice A0 y.kids.length C0) ∧ W.cell? ⟨g, (p + 1) * 3, none⟩ = some (.int .i64 x.kind) ∧ W.cell? ⟨g, (p + 1) * 3 + 1, none⟩ = some (.string x.name) ∧ W.cell? ⟨g, (p + 1) * 3 + 2, none⟩ = some (.slice A1 x.kids.length C1) ∧ Below wr.heap.size wr W)
            (first | exact ⟨c0, c1, c2, d0, d1, d2, Below.refl _ _⟩ | exact ⟨c0, c1, c2, d0, d1, d2, (Below.refl _ _).drew⟩ | exact six_later (by assumption) hb4 | go_keep)
            ((go_at_call 103; refine (HC.out _ HX1.out.drew HX0.out.drew).mono ?_; rintro e w2 ⟨rfl, hb4⟩))
          rename_i hS
          obtain ⟨z0, z1, z2, y0, y1, y2, hbw2⟩ := hS
          have HROW2 := Lib.hid (HROW.out.keep fun b _ hl => hbw2.block b hl)
          have HGR3 := Lib.hid (grownBy_trans HGR2.out (grownBy_of_below (some g) hbw2))
          clear c0 c1 c2 d0 d1 d2 hb4 hbw2
          by_cases hc : c < 0
          · obtain ⟨f0, f1, f2⟩ := HROW2.out.free p
            obtain ⟨g0, g1, g2⟩ := HROW2.out.free (p + 1)
            have HCC := Lib.hid hc
            go_wp2_with fail
            go_region
            have hrs : RowT w2 base g cap (A.reverse ++ y :: x :: (Bq.reverse ++ rest)) := by have := HROW2.out; simpa using this
            obtain ⟨hrow5, hgr5⟩ := hrs.swap (by rw [List.length_reverse]; exact HP.out) z0 z1 z2 y0 y1 y2 (fun cur hcur => (((((((Wrote.mk hcur (fun _ _ => rfl) rfl rfl rfl rfl).set _ _).set _ _).set _ _).set _ _).set _ _).set _ _).drew)
            generalize ((((((w2.setCell ⟨g, (p + 1) * 3, none⟩ (.int .i64 y.kind)).setCell ⟨g, (p + 1) * 3 + 1, none⟩ (.string y.name)).setCell ⟨g, (p + 1) * 3 + 2, none⟩ (.slice A0 y.kids.length C0)).setCell ⟨g, p * 3, none⟩ (.int .i64 x.kind)).setCell ⟨g, p * 3 + 1, none⟩ (.string x.name)).setCell ⟨g, p * 3 + 2, none⟩ (.slice A1 x.kids.length C1)).drew = w5 at hrow5 hgr5 ⊢
            have HR5 := Lib.hid hrow5; have HG5 := Lib.hid (grownBy_trans HGR3.out hgr5)
            clear hrs hrow5 hgr5 f0 f1 f2 g0 g1 g2 z0 z1 z2 y0 y1 y2 hc
            go_wp2_with fail
            go_roundw
            case rel =>
              refine ⟨A, Bq ++ [y], by rw [HAB.out]; simp, ?_, by rw [HP.out], by have := HR5.out; simpa using this, HG5.out⟩
              rw [HINS.out]; simp only [T.insR]; rw [if_pos (by rw [HCV.out]; exact HCC.out)]; simp
            case measure => simp [intOf]
          · have hc' : 0 ≤ c := by omega
            have HCC := Lib.hid hc
            clear hc
            go_wp2_with fail
            go_roundw
            case rel =>
              refine ⟨m + 1, T.insR x acc, by omega, by have := HLT.out; omega, by go_num, HTK.out.symm, ?_, HGR3.out⟩
              rw [HINS.out]
              have := HROW2.out
              rw [HREST.out]
              have e : T.insR x (y :: A) = x :: y :: A := by simp only [T.insR]; rw [if_neg (by rw [HCV.out]; exact HCC.out)]
              rw [e]
              simpa using this
            case measure => have := HLT.out; simp [intOf]; omega
    · have hge : (L.length : Int) ≤ (m : Int) := by omega
      have HRW := Lib.hid (show RowT wr base g cap (T.isort L) by
        have e : L.take m = L := List.take_of_length_le (by omega)
        have e' : L.drop m = [] := List.drop_of_length_le (by omega)
        rw [e', List.append_nil, hacc, e] at hrow
        exact hrow)
      have HG := Lib.hid hgr
      clear hrow hgr hacc hlt
      go_wp2_with fail
      go_end0
      exact ⟨rfl, HRW.out, HG.out⟩
set_option maxHeartbeats 1000000 in
theorem stable_ok (base g cap : Nat) (L : List T) (w : World) (h : RowT w base g cap L) (hL : L.length < 20) (hb : T.bulkAll L ≤ 1048576) :
    Calls Tryz.prog 168 #[.slice (some ⟨g, 0, none⟩) L.length cap, .int .i64 L.length, .func (.func 103) #[] #[]] w fun e w' =>
      e = .returned (.tuple #[]) ∧ RowT w' base g cap (T.isort L) ∧ w.grownBy w' (some g) := by
  have HI := Lib.hid (insertion base g cap L w h (by omega) hb)
  clear h hb
  have q1 : (L.length : Int) < 20 := by omega
  have q2 : (0 : Int) ≤ (L.length : Int) := by omega
  clear hL
  go_enter Tryz.func168, Tryz.ntmps168
  go_wp2_with fail
  refine wp_loop_rounds 1 ?_; rw [rounds_succ]
  go_wp2_with fail
  refine HI.out.mono ?_; rintro e w2 ⟨rfl, hr, hg⟩
  have HR := Lib.hid hr; have HG := Lib.hid hg
  clear hr hg
  go_wp2_with fail
  refine wp_loop_rounds 1 ?_; rw [rounds_succ]
  go_wp2_with fail
  go_end0
  exact ⟨rfl, HR.out, HG.out⟩
theorem sort_ok (base g cap : Nat) (L : List T) (w : World) (h : RowT w base g cap L) (hL : L.length < 20) (hb : T.bulkAll L ≤ 1048576) :
    Calls Tryz.prog 138 #[.slice (some ⟨g, 0, none⟩) L.length cap, .func (.func 103) #[] #[]] w fun e w' =>
      e = .returned (.tuple #[]) ∧ RowT w' base g cap (T.isort L) ∧ w.grownBy w' (some g) := by
  have HI := Lib.hid (stable_ok base g cap L w h hL hb)
  clear h hb
  go_enter Tryz.func138, Tryz.ntmps138
  go_wp2_with fail
  refine HI.out.mono ?_; rintro e w2 ⟨rfl, hr, hg⟩
  have HR := Lib.hid hr; have HG := Lib.hid hg
  clear hr hg
  go_wp2_with fail
  go_end0
  exact ⟨rfl, HR.out, HG.out⟩
end Go.Proofs.YtihbmgkbipeakaaGreat

namespace Go.Proofs.YtihbmgkbipeakaaGreat
open Go.RowKit

attribute [local go_sem ↓] Go.wp_at_zero Go.wp_at_succ

/-- What the loop of arrange has done. -/
def ArrAt (w : World) (k : Int) (s : ByteArray) (L : List T) (wr : World) : Prop :=
  ∃ kv, Box wr w.heap.size (.int .i64 k) (.string s) kv ∧ Box wr (w.heap.size + 1) (.int .i64 0) (.string ⟨#[]⟩) (.slice none 0 0) ∧ TermsRow wr (w.heap.size + 2) kv L ∧ Below w.heap.size w wr ∧ w.heap.size + 2 ≤ wr.heap.size
theorem ArrAt.step {w : World} {k : Int} {s : ByteArray} {L : List T} {t : T} {wr w3 w4 : World} {kv u0 u1 u2 : Value} {xs : List Value} {g cap : Nat}
    (x : Box wr w.heap.size (.int .i64 k) (.string s) kv) (y : Box wr (w.heap.size + 1) (.int .i64 0) (.string ⟨#[]⟩) (.slice none 0 0)) (hrow : TermsRow wr (w.heap.size + 2) kv L) (hb : Below w.heap.size w wr) (hsz : w.heap.size + 2 ≤ wr.heap.size)
    (hx : ∀ i (h : i < L.length), ∃ u0 u1 u2, xs[i * 3]? = some u0 ∧ xs[i * 3 + 1]? = some u1 ∧ xs[i * 3 + 2]? = some u2 ∧ TermIn (but (w.heap.size + 2) kv.ownBlock) wr (.agg #[u0, u1, u2]) L[i]) (hl : xs.length = L.length * 3)
    (hb3 : Below wr.heap.size wr w3) (ht : TermIn (from_ wr.heap.size) w3 (.agg #[u0, u1, u2]) t)
    (hown : w4.ownsRow (w.heap.size + 2) 29 3 (.slice (some ⟨g, 0, none⟩) (L.length + 1) cap) (L.length + 1) (xs ++ [u0, u1, u2])) (hgrow : (w3.alloc (.cells #[u0, u1, u2] 29)).grownBy w4 kv.ownBlock)
    (hat : kv.ownBlock = some g ∨ g = w3.heap.size + 1) : ArrAt w k s (L ++ [t]) (w4.setCell ⟨w.heap.size, 2, none⟩ (.slice (some ⟨g, 0, none⟩) (L.length + 1) cap)) := by
  have hne : ∀ b, b < w.heap.size + 2 → kv.ownBlock ≠ some b := fun b hlt e => by have := (hrow.block b e).1; omega
  have hb3' := hb3.trans ((below_alloc1 w3 (.cells #[u0, u1, u2] 29)).mono hb3.size)
  have hbf : Below w.heap.size w w4 := (hb.trans (hb3'.mono (by omega))).grown hgrow (by rw [size_alloc1]; have := hb3.size; omega) (fun k hk => by have := (hrow.block k hk).1; omega)
  refine ⟨_, (((x.later hb3').grown hgrow (hne _ (by omega))).set2 _), ?_, ?_, hbf.setCell (Nat.le_refl _) _, ?_⟩
  · exact ((y.later hb3').grown hgrow (hne _ (by omega))).setOther (by simp) _
  · have h1 := TermsRow.snoc (w := w3.alloc (.cells #[u0, u1, u2] 29)) (H := w3.heap.size + 1) (t := t) (fun i hi => by
        obtain ⟨a0, a1, a2, b0, b1, b2, b3⟩ := hx i hi
        exact ⟨a0, a1, a2, b0, b1, b2, b3.keep fun b hb hlt => ⟨hb, hb3'.block b hlt⟩⟩) hl
      (ht.keep fun b hbb hlt => ⟨but_iff.2 ⟨by have := of_decide_eq_true hbb; omega, fun e => by have := (hrow.block b e).2; have := of_decide_eq_true hbb; omega⟩, Below.heap_alloc w3 _ b hlt⟩)
      hown hgrow hat (by rw [size_alloc1])
    exact h1.keep fun b hbb _ => Below.heap_setCell _ _ _ _ (by show b ≠ w.heap.size; omega)
  · have := hgrow.size; have := hb3'.size; simp [World.setCell]; omega

set_option maxRecDepth 100000 in
set_option maxHeartbeats 8000000 in
theorem oarr : ∀ (N : Nat) (t : T) (v : Value) (w : World), t.bulk < N → TermAt w v t → t.bulk ≤ 1048576 → t.shape = true →
    Calls Tryz.prog 106 #[v] w (RetT t.norm w) := by
  intro N
  induction N with
  | zero => intro t v w h; omega
  | succ N ih =>
    intro t v w hN ht hbk hsh
    cases ht with
    | mk k s A cap ks U h1 h2 h3 h4 hA hU =>
      simp only [T.bulk] at hN hbk
      have hkn : ks.length ≤ 262144 := by have := T.len_le ks; omega
      have HT := Lib.hid (TermAt.mk k s A cap ks U h1 h2 h3 h4 hA hU)
      obtain ⟨i0, hi0, hz0, hz1, hz2⟩ := info_parts Tryz.infoT
      go_enter Tryz.func106, Tryz.ntmps106
      go_wp2_with fail
      obtain ⟨bx, by', hb1, hsz⟩ := box_two w (.int .i64 k) (.string s) (.slice none 0 0) (.int .i64 0) (.string ⟨#[]⟩) (.slice none 0 0)
      generalize (w.alloc (.cells #[.int .i64 k, .string s, .slice none 0 0] 29)).alloc (.cells #[.int .i64 0, .string ⟨#[]⟩, .slice none 0 0] 29) = w1 at bx by' hb1 hsz ⊢
      have hstart : ArrAt w k s [] w1 := ⟨_, bx, by', TermsRow.nil _ _, hb1, by omega⟩
      have HST := Lib.hid hstart
      have IH := Lib.hid ih
      have HSK := Lib.hid (T.shape_kids hsh)
      have HSHW := Lib.hid hsh
      clear bx by' hb1 hsz hstart ih hsh
      have hA2 := Lib.hid hA; have hU2 := Lib.hid hU
      clear hA hU
      go_loopw [11] (fun i wr => ∃ j : Nat, j ≤ ks.length ∧ i = .int .i64 j ∧ ArrAt w k s ((ks.map T.norm).take j) wr) (fun i _ => ks.length - (intOf i).toNat)
      case atStart => exact ⟨0, Nat.zero_le _, rfl, by simpa using HST.out⟩
      case round =>
        obtain ⟨j, hj, rfl, hat⟩ := hrel
        by_cases hlt : j < ks.length
        · obtain ⟨kv, bx, bz, hrow, hbw, hsz⟩ := hat
          obtain ⟨b, off, B1, C1, rfl, d0, d1, d2, hu⟩ := TermAt.cells hlt hA2.out hU2.out
          have e0 := cell_later hbw d0; have e1 := cell_later hbw d1; have e2 := cell_later hbw d2
          have hi : (j : Int) < (ks.length : Int) := by omega
          have HU := Lib.hid (hu.later hbw); have HLT := Lib.hid hlt; have HJ := Lib.hid hj
          have HB2 := Lib.hid (show ks[j].bulk < N ∧ ks[j].bulk ≤ 1048576 by have := T.bulk_at ks j hlt; omega)
          have HSH := Lib.hid (HSK.out j hlt)
          clear d0 d1 d2 hu hj
          go_upto_region 6 with fail
          have hq := below_alloc1 wr (.cells #[.int .i64 ks[j].kind, .string ks[j].name, .slice B1 ks[j].kids.length C1] 29)
          have qx := Box.new wr (.int .i64 ks[j].kind) (.string ks[j].name) (.slice B1 ks[j].kids.length C1)
          have hqs := size_alloc1 wr (.cells #[.int .i64 ks[j].kind, .string ks[j].name, .slice B1 ks[j].kids.length C1] 29)
          generalize wr.alloc (.cells #[.int .i64 ks[j].kind, .string ks[j].name, .slice B1 ks[j].kids.length C1] 29) = wq at hq qx hqs ⊢
          replace bx := bx.later hq; replace bz := bz.later hq
          replace hrow := hrow.later hq
          replace hbw := hbw.trans (hq.mono hbw.size)
          have hsz' : w.heap.size + 2 ≤ wq.heap.size := by omega
          have HU2 := Lib.hid (HU.out.later hq)
          obtain ⟨xs, hown, hx⟩ := hrow.owns
          have hlen : (List.take j (ks.map T.norm)).length = j := by rw [List.length_take, List.length_map]; omega
          have HSTEP := Lib.hid (fun t w3 w4 u0 u1 u2 g cap => ArrAt.step (k := k) (s := s) (t := t) (w3 := w3) (w4 := w4) (u0 := u0) (u1 := u1) (u2 := u2) (g := g) (cap := cap) bx bz hrow hbw hsz' hx hown.1)
          have HTK := Lib.hid (show List.take j (ks.map T.norm) ++ [ks[j].norm] = List.take (j + 1) (ks.map T.norm) by rw [List.take_succ_eq_append_getElem (by simpa using hlt), List.getElem_map]; rfl)
          obtain ⟨y0, y1, y2⟩ := bx.cells
          obtain ⟨f0, f1, f2⟩ := bx.free
          obtain ⟨q0, q1, q2⟩ := qx.cells
          have hblk := hrow.block
          rw [hlen] at hown HSTEP
          have HOWN := Lib.hid hown; have HBX := Lib.hid bx; have HBLK := Lib.hid hblk
          have hbz : w.heap.size < wq.heap.size := by omega
          have HSZ := Lib.hid hsz'
          have HNE := Lib.hid (show kv.ownBlock ≠ some w.heap.size from fun e => by have := (hblk _ e).1; omega)
          clear e0 e1 e2 hx hrow bz hsz hsz' hlen hown bx hq hbw hblk hqs
          go_region_law (first | (refine step_append_lies _ (by rfl) _ _ _ (by rfl) (w.heap.size + 2) 29 i0 _ 3 48 Tryz.underlying27 hi0 hz0 hz1 hz2 rfl (by omega) _ _ _ (by rfl) HOWN3.out ⟨_, 0, none⟩ 1 1 _ (by rfl) (by rfl) (World.news_of_block (heap_alloc_new _ _)) HONE.out (by omega) (by unfold maxLen; omega) (by omega) HBS.out _ rfl ?_; intro g cap w4 hown4 hgrow hat hlt4; have HB4 := (HBX.out.later (hb3'.trans ((below_alloc1 w3 _).mono hb3'.size))).grown hgrow HNE.out; have c4 := HB4.cells.2.2; have f4 := HB4.free.2.2) | (go_simp; go_at_call 106; refine (IH.out _ _ _ HB2.out.1 HU2.out.drew HB2.out.2 HSH.out).mono ?_; rintro e w3 ⟨A3, C3, rfl, hti, hb3⟩; have hb3' := below_undrew hb3; have z0 := cell_later hb3' y0; have z1 := cell_later hb3' y1; have z2 := cell_later hb3' y2; have zz2 := cell_later (below_alloc1 w3 (.cells #[.int .i64 ks[j].norm.kind, .string ks[j].norm.name, .slice A3 ks[j].norm.kids.length C3] 29)) z2; have HOWN3 := Lib.hid ((own_later HOWN.out hb3').alloc (.cells #[.int .i64 ks[j].norm.kind, .string ks[j].norm.name, .slice A3 ks[j].norm.kids.length C3] 29)); have HONE := Lib.hid hti.one; have HBS := Lib.hid (show w.heap.size + 2 ≤ (w3.alloc (.cells #[.int .i64 ks[j].norm.kind, .string ks[j].norm.name, .slice A3 ks[j].norm.kids.length C3] 29)).heap.size by rw [size_alloc1]; have := hb3'.size; have := HSZ.out; omega)))
          all_goals
            have hfin := HSTEP.out ks[j].norm w3 w4 _ _ _ g cap hb3' hti hown4 hgrow (hat.imp id (fun h => h.trans (size_alloc1 _ _)))
            rw [HTK.out] at hfin
            have HFIN := Lib.hid hfin
            clear hfin hgrow hown4 hti c4 f4 HB4 z0 z1 z2 zz2 hat hlt4
            go_wp2_with fail
            go_roundw
            case rel => exact ⟨j + 1, HLT.out, by go_num, HFIN.out⟩
            case measure => have := HLT.out; simp [intOf]; omega
        · obtain rfl : j = ks.length := by omega
          rw [List.take_of_length_le (by simp)] at hat
          obtain ⟨kv, bx, bz, hrow, hbw, hsz⟩ := hat
          obtain ⟨L, hL⟩ : ∃ L, ks.map T.norm = L := ⟨_, rfl⟩
          rw [hL] at hrow
          have hLl : L.length = ks.length := by rw [← hL, List.length_map]
          obtain ⟨y0, y1, y2⟩ := bx.cells
          obtain ⟨q0, q1, q2⟩ := bz.cells
          obtain ⟨f0, f1, f2⟩ := bz.free
          by_cases k7 : k = 7
          · subst k7
            have h14 := T.shape_seven HSHW.out
            rcases hrow with ⟨rfl, hnil⟩ | ⟨g, C4, rfl, hrowT⟩
            · rw [hnil] at hLl; simp at hLl; omega
            have hgB : w.heap.size + 2 ≤ g := by obtain ⟨_, _, _, _, _, h5, _⟩ := hrowT; exact h5
            have hbl : T.bulkAll L ≤ 1048576 := by rw [← hL, ← T.normAll_map, T.bulk_normAll]; omega
            have HS := Lib.hid (sort_ok (w.heap.size + 2) g C4 L wr hrowT (by omega) hbl)
            rw [hLl] at HS y2 bx
            have HN := Lib.hid (show (T.mk 7 s ks).norm = .mk 7 s (T.isort L) by simp only [T.norm, if_pos, T.normAll_map, hL])
            have HLL := Lib.hid hLl
            have HBW := Lib.hid hbw; have HBX := Lib.hid bx; have HBZ := Lib.hid bz
            have hn1 : some g ≠ some w.heap.size := fun e => by injection e; omega
            have hn2 : some g ≠ some (w.heap.size + 1) := fun e => by injection e; omega
            clear hL hLl hbl hrowT hbw bx bz h14
            go_wp2_with fail
            refine HS.out.mono ?_; rintro e w5 ⟨rfl, hrow5, hgrow5⟩
            have bx5 := HBX.out.grown hgrow5 hn1; have bz5 := HBZ.out.grown hgrow5 hn2
            have hb5 := HBW.out.grown hgrow5 (by omega) (fun k hk => by injection hk; omega)
            obtain ⟨a0, a1, a2⟩ := bx5.cells
            obtain ⟨b0, b1, b2⟩ := bz5.cells
            obtain ⟨c0, c1, c2⟩ := bz5.free
            have HTM := Lib.hid (TermsRow.term (k := 7) (s := s) (.inr ⟨g, C4, rfl, hrow5⟩) h1 h2)
            rw [T.length_isort, HLL.out] at HTM
            clear hrow5 hgrow5 bx5 y0 y1 y2 q0 q1 q2 f0 f1 f2
            go_wp2_with fail
            obtain ⟨d0, d1, d2⟩ := (box_set3 bz5 (.int .i64 7) (.string s) (.slice (some ⟨g, 0, none⟩) ks.length C4)).cells
            refine bodyPost_ret (v := .agg #[.int .i64 7, .string s, .slice (some ⟨g, 0, none⟩) ks.length C4]) (by simp [results, Tryz.results106, go_sem, d0, d1, d2]) rfl ?_
            rw [HN.out]
            exact ret_set3 (t := .mk 7 s (T.isort L)) _ _ _ hb5 (by omega) rfl rfl (by show _ = Value.slice _ (T.isort L).length _; rw [T.length_isort, HLL.out]) HTM.out
          · have k7' : (k == 7) = false := by rw [beq_eq_false_iff_ne]; exact k7
            obtain ⟨A4, C4, hkv, _, _⟩ := hrow.shape
            have HN := Lib.hid (show (T.mk k s ks).norm = .mk k s L by simp only [T.norm, if_neg k7, T.normAll_map, hL])
            have HTM := Lib.hid (hrow.term k s h1 h2)
            have HBW := Lib.hid hbw; have HBZ := Lib.hid bz; have HLL := Lib.hid hLl
            rw [hkv] at y2 HTM
            rw [hLl] at y2 HTM
            clear hL k7 hkv hrow hbw bx bz hLl
            go_wp2_with fail
            obtain ⟨d0, d1, d2⟩ := (box_set3 HBZ.out (.int .i64 k) (.string s) (.slice A4 ks.length C4)).cells
            refine bodyPost_ret (v := .agg #[.int .i64 k, .string s, .slice A4 ks.length C4]) (by simp [results, Tryz.results106, go_sem, d0, d1, d2]) rfl ?_
            rw [HN.out]
            exact ret_set3 (t := .mk k s L) _ _ _ HBW.out (by omega) rfl rfl (by show _ = Value.slice _ L.length _; rw [HLL.out]) HTM.out
end Go.Proofs.YtihbmgkbipeakaaGreat

namespace Go.Proofs.YtihbmgkbipeakaaGreat
open Go.RowKit

namespace T
theorem bless (x y : List UInt8) : Op.bytesLess x y = decide (x < y) := by
  induction x generalizing y with
  | nil => cases y <;> simp [Op.bytesLess]
  | cons a x ih => cases y with
    | nil => simp [Op.bytesLess]
    | cons b y => simp only [Op.bytesLess, ih, List.cons_lt_cons_iff, Bool.decide_or, Bool.decide_and]; congr 1
theorem list_tri (x y : List UInt8) : x < y ∨ x = y ∨ y < x := by
  induction x generalizing y with
  | nil => cases y with
    | nil => exact .inr (.inl rfl)
    | cons b y => exact .inl (List.nil_lt_cons b y)
  | cons a x ih => cases y with
    | nil => exact .inr (.inr (List.nil_lt_cons a x))
    | cons b y =>
      rw [List.cons_lt_cons_iff, List.cons_lt_cons_iff, List.cons.injEq]
      rcases ih y with h | h | h
      · by_cases e : a = b
        · left; right; exact ⟨e, h⟩
        · rcases (show a < b ∨ b < a by have : a.toNat ≠ b.toNat := fun h => e (UInt8.toNat_inj.1 h); rw [UInt8.lt_iff_toNat_lt, UInt8.lt_iff_toNat_lt]; omega) with g | g
          · left; left; exact g
          · right; right; left; exact g
      · by_cases e : a = b
        · right; left; exact ⟨e, h⟩
        · rcases (show a < b ∨ b < a by have : a.toNat ≠ b.toNat := fun h => e (UInt8.toNat_inj.1 h); rw [UInt8.lt_iff_toNat_lt, UInt8.lt_iff_toNat_lt]; omega) with g | g
          · left; left; exact g
          · right; right; left; exact g
      · by_cases e : a = b
        · right; right; right; exact ⟨e.symm, h⟩
        · rcases (show a < b ∨ b < a by have : a.toNat ≠ b.toNat := fun h => e (UInt8.toNat_inj.1 h); rw [UInt8.lt_iff_toNat_lt, UInt8.lt_iff_toNat_lt]; omega) with g | g
          · left; left; exact g
          · right; right; left; exact g
theorem ba_eq {a b : ByteArray} (h : a.toList = b.toList) : a = b := str_eq (by rw [← ByteArray.toList_eq, ← ByteArray.toList_eq]; exact h)
theorem cs_lt {a b : ByteArray} : cs a b = -1 ↔ a.toList < b.toList := by
  unfold cs less; rw [bless]
  by_cases h : a.toList < b.toList
  · simp [h]
  · simp only [h, decide_false, Bool.false_eq_true, if_false, iff_false]
    split <;> decide
theorem cs_eq {a b : ByteArray} : cs a b = 0 ↔ a = b := by
  unfold cs less; rw [bless]
  by_cases h : a.toList < b.toList
  · have : a ≠ b := fun e => by rw [e] at h; exact List.lt_irrefl _ h
    simp [h, this]
  · simp only [h, decide_false, Bool.false_eq_true, if_false]
    by_cases e : a.toList = b.toList
    · simp [ba_eq e]
    · have e' : (a.toList == b.toList) = false := by rw [beq_eq_false_iff_ne]; exact e
      have : a ≠ b := fun h => e (by rw [h])
      simp [e', this]
theorem cs_vals (a b : ByteArray) : cs a b = -1 ∨ cs a b = 0 ∨ cs a b = 1 := by
  unfold cs; split
  · simp
  · split <;> simp
theorem cs_anti (a b : ByteArray) : cs b a = -cs a b := by
  rcases list_tri a.toList b.toList with h | h | h
  · have h1 := cs_lt.2 h
    have h2 : cs b a ≠ -1 := fun e => List.lt_irrefl _ (List.lt_trans h (cs_lt.1 e))
    have h3 : cs b a ≠ 0 := fun e => by rw [cs_eq.1 e] at h; exact List.lt_irrefl _ h
    rcases cs_vals b a with g | g | g
    · exact absurd g h2
    · exact absurd g h3
    · rw [g, h1]; rfl
  · have := ba_eq h; subst this; rw [cs_eq.2 rfl]; rfl
  · have h1 := cs_lt.2 h
    have h2 : cs a b ≠ -1 := fun e => List.lt_irrefl _ (List.lt_trans h (cs_lt.1 e))
    have h3 : cs a b ≠ 0 := fun e => by rw [cs_eq.1 e] at h; exact List.lt_irrefl _ h
    rcases cs_vals a b with g | g | g
    · exact absurd g h2
    · exact absurd g h3
    · rw [g, h1]
theorem ci_lt {a b : Int} : ci a b = -1 ↔ a < b := by unfold ci; split <;> (try split) <;> omega
theorem ci_eq {a b : Int} : ci a b = 0 ↔ a = b := by unfold ci; split <;> (try split) <;> omega
theorem ci_anti (a b : Int) : ci b a = -ci a b := by unfold ci; split <;> (try split) <;> (try split) <;> omega
theorem or3_anti {x y z x' y' z' : Int} (hx : x' = -x) (hy : y' = -y) (hz : z' = -z) : or3 x' y' z' = -or3 x y z := by
  subst hx; subst hy; subst hz; unfold or3; split <;> (try split) <;> (try split) <;> (try split) <;> omega
mutual
theorem cmp_anti : ∀ a b : T, cmp b a = -cmp a b
  | .mk k s ks, .mk k' s' ks' => by rw [cmp_or3, cmp_or3]; exact or3_anti (ci_anti _ _) (cs_anti _ _) (cmpAll_anti ks ks')
theorem cmpAll_anti : ∀ l m : List T, cmpAll m l = -cmpAll l m
  | [], [] => rfl
  | [], _ :: _ => rfl
  | _ :: _, [] => rfl
  | a :: r, b :: r' => by
    have h1 := cmp_anti a b; have h2 := cmpAll_anti r r'
    simp only [cmpAll]
    split <;> split <;> omega
end
mutual
theorem cmp_eq : ∀ a b : T, cmp a b = 0 → a = b
  | .mk k s ks, .mk k' s' ks' => fun h => by
    rw [cmp_or3] at h
    unfold or3 at h
    split at h
    · omega
    · split at h
      · omega
      · rename_i h1 h2
        have e1 := ci_eq.1 (Decidable.not_not.1 h1); have e2 := cs_eq.1 (Decidable.not_not.1 h2)
        rw [e1, e2, cmpAll_eq ks ks' h]
theorem cmpAll_eq : ∀ l m : List T, cmpAll l m = 0 → l = m
  | [], [] => fun _ => rfl
  | [], _ :: _ => fun h => by simp [cmpAll] at h
  | _ :: _, [] => fun h => by simp [cmpAll] at h
  | a :: r, b :: r' => fun h => by
    simp only [cmpAll] at h
    split at h
    · rename_i h1; rw [cmp_eq a b h1, cmpAll_eq r r' h]
    · omega
end
mutual
theorem cmp_self : ∀ a : T, cmp a a = 0
  | .mk k s ks => by rw [cmp_or3, ci_eq.2 rfl, cs_eq.2 rfl, cmpAll_self ks]; rfl
theorem cmpAll_self : ∀ l : List T, cmpAll l l = 0
  | [] => rfl
  | a :: r => by simp only [cmpAll]; rw [if_pos (cmp_self a)]; exact cmpAll_self r
end
theorem or3_lt {x y z : Int} : or3 x y z = -1 ↔ x = -1 ∨ (x = 0 ∧ (y = -1 ∨ (y = 0 ∧ z = -1))) := by
  unfold or3; split <;> (try split) <;> omega
mutual
theorem cmp_trans : ∀ a b c : T, cmp a b = -1 → cmp b c = -1 → cmp a c = -1
  | .mk k s ks, .mk k' s' ks', .mk k'' s'' ks'' => fun h g => by
    rw [cmp_or3, or3_lt, ci_lt, ci_eq, cs_lt, cs_eq] at h g ⊢
    rcases h with h | ⟨rfl, h⟩
    · rcases g with g | ⟨rfl, g⟩
      · left; omega
      · left; exact h
    · rcases g with g | ⟨rfl, g⟩
      · left; exact g
      · right
        refine ⟨rfl, ?_⟩
        rcases h with h | ⟨rfl, h⟩
        · rcases g with g | ⟨rfl, g⟩
          · left; exact List.lt_trans h g
          · left; exact h
        · rcases g with g | ⟨rfl, g⟩
          · left; exact g
          · right; exact ⟨rfl, cmpAll_trans ks ks' ks'' h g⟩
theorem cmpAll_trans : ∀ a b c : List T, cmpAll a b = -1 → cmpAll b c = -1 → cmpAll a c = -1
  | [], [], _ => fun h _ => by simp [cmpAll] at h
  | [], _ :: _, [] => fun _ g => by simp [cmpAll] at g
  | [], _ :: _, _ :: _ => fun _ _ => rfl
  | _ :: _, [], _ => fun h _ => by simp [cmpAll] at h
  | _ :: _, _ :: _, [] => fun _ g => by simp [cmpAll] at g
  | a :: r, b :: r', c :: r'' => fun h g => by
    simp only [cmpAll] at h g ⊢
    by_cases h1 : cmp a b = 0
    · rw [if_pos h1] at h
      have := cmp_eq a b h1; subst this
      by_cases g1 : cmp a c = 0
      · rw [if_pos g1] at g ⊢; exact cmpAll_trans r r' r'' h g
      · rw [if_neg g1] at g ⊢; exact g
    · rw [if_neg h1] at h
      by_cases g1 : cmp b c = 0
      · have := cmp_eq b c g1; subst this
        rw [if_neg h1]; exact h
      · rw [if_neg g1] at g
        have := cmp_trans a b c h g
        rw [if_neg (by omega)]; exact this
end
end T
end Go.Proofs.YtihbmgkbipeakaaGreat
