/- Several texts in one: TermOwn, TermNorm, TermAnti, TermIdem, TermKeep, Src. -/
import Derived.Test.YtihbmgkbipeakaaGreatWebG2
import Derived.Deep.AppendLies
import Derived.Maps.AppendAt
import Derived.RegionTactic
import Derived.OwnWalk
import Derived.Test.YtihbmgkbipeakaaGreatWebG0
namespace Go.Proofs.YtihbmgkbipeakaaGreat
open Go.RowKit

/-- A world of which only certain blocks are seen. -/
def only (w : World) (S : Nat → Bool) : World := { w with heap := w.heap.mapIdx fun i o => if S i = true then o else .cells #[] 0 (0, 0) }
theorem cell_only (w : World) (S : Nat → Bool) (p : Addr) : (only w S).cell? p = if S p.block = true then w.cell? p else none := by
  unfold World.cell? only
  simp only [Array.getElem?_mapIdx]
  cases h : w.heap[p.block]? with
  | none => simp
  | some o =>
    by_cases hS : S p.block = true
    · simp [hS]
    · simp [hS]
/-- A term all of whose memory lies in certain blocks. -/
def TermIn (S : Nat → Bool) (w : World) (v : Value) (t : T) : Prop := TermAt (only w S) v t
theorem TermIn.at {S : Nat → Bool} {w : World} {v : Value} {t : T} (h : TermIn S w v t) : TermAt w v t :=
  TermAt.keep h fun p hp => by
    rw [cell_only] at hp ⊢
    split at hp
    · rename_i hS; rw [if_pos hS]
    · cases hp
theorem TermIn.keep {S S' : Nat → Bool} {w w' : World} {v : Value} {t : T} (h : TermIn S w v t) (hk : ∀ b, S b = true → b < w.heap.size → S' b = true ∧ w'.heap[b]? = w.heap[b]?) : TermIn S' w' v t :=
  TermAt.keep h fun p hp => by
    rw [cell_only] at hp
    rw [cell_only, cell_only]
    split at hp
    · rename_i hS
      obtain ⟨v, hv⟩ := Option.isSome_iff_exists.1 hp
      obtain ⟨h1, h2⟩ := hk _ hS (World.block_lt_of_cell? w p hv)
      rw [if_pos hS, if_pos h1]; exact World.cell?_of_block h2
    · cases hp
theorem TermAt.inAll {w : World} {v : Value} {t : T} (h : TermAt w v t) : TermIn (fun b => decide (b < w.heap.size)) w v t :=
  TermAt.keep h fun p hp => by
    obtain ⟨v, hv⟩ := Option.isSome_iff_exists.1 hp
    rw [cell_only, if_pos (decide_eq_true (World.block_lt_of_cell? w p hv))]
/-- Blocks from B on. -/
def from_ (B : Nat) : Nat → Bool := fun b => decide (B ≤ b)
/-- Blocks from B on but g. -/
def but (B : Nat) (g : Option Nat) : Nat → Bool := fun b => decide (B ≤ b) && !(g == some b)
theorem but_iff {B : Nat} {g : Option Nat} {b : Nat} : but B g b = true ↔ B ≤ b ∧ g ≠ some b := by
  unfold but
  rw [Bool.and_eq_true, decide_eq_true_eq, Bool.not_eq_true', beq_eq_false_iff_ne]

/-- Block g is a row of cap terms, of which the first ones are these; they lie outside that block, from base on. -/
def RowT (w : World) (base g cap : Nat) (L : List T) : Prop :=
  ∃ cur : Array Value, w.heap[g]? = some (.cells cur 29 (0, 0)) ∧ cur.size = cap * 3 ∧ L.length ≤ cap ∧ cap ≤ maxLen ∧ base ≤ g ∧
    ∀ i (h : i < L.length), ∃ u0 u1 u2, cur[i * 3]? = some u0 ∧ cur[i * 3 + 1]? = some u1 ∧ cur[i * 3 + 2]? = some u2 ∧ TermIn (but base (some g)) w (.agg #[u0, u1, u2]) L[i]
def TermsRow (w : World) (base : Nat) (v : Value) (L : List T) : Prop :=
  (v = .slice none 0 0 ∧ L = []) ∨ ∃ g cap, v = .slice (some ⟨g, 0, none⟩) L.length cap ∧ RowT w base g cap L
theorem TermsRow.nil (w : World) (base : Nat) : TermsRow w base (.slice none 0 0) [] := .inl ⟨rfl, rfl⟩
theorem RowT.keep {w w' : World} {base g cap : Nat} {L : List T} (h : RowT w base g cap L) (hk : ∀ b, base ≤ b → b < w.heap.size → w'.heap[b]? = w.heap[b]?) : RowT w' base g cap L := by
  obtain ⟨cur, h1, h2, h3, h4, h5, h6⟩ := h
  refine ⟨cur, ?_, h2, h3, h4, h5, fun i hi => ?_⟩
  · rw [hk g h5 (Array.getElem?_eq_some_iff.1 h1).1]; exact h1
  · obtain ⟨u0, u1, u2, a, b, c, d⟩ := h6 i hi
    exact ⟨u0, u1, u2, a, b, c, d.keep fun b hb hl => ⟨hb, hk b (but_iff.1 hb).1 hl⟩⟩
theorem TermsRow.keep {w w' : World} {base : Nat} {v : Value} {L : List T} (h : TermsRow w base v L) (hk : ∀ b, base ≤ b → b < w.heap.size → w'.heap[b]? = w.heap[b]?) : TermsRow w' base v L := by
  rcases h with h | ⟨g, cap, rfl, h⟩
  · exact .inl h
  · exact .inr ⟨g, cap, rfl, h.keep hk⟩
theorem TermsRow.later {w w' : World} {base : Nat} {v : Value} {L : List T} (h : TermsRow w base v L) (hb : Below w.heap.size w w') : TermsRow w' base v L := h.keep fun b _ hl => hb.block b hl
theorem TermsRow.shape {w : World} {base : Nat} {v : Value} {L : List T} (h : TermsRow w base v L) : ∃ A cap, v = .slice A L.length cap ∧ L.length ≤ cap ∧ cap ≤ maxLen := by
  rcases h with ⟨rfl, rfl⟩ | ⟨g, cap, rfl, cur, _, _, h3, h4, _⟩
  · exact ⟨none, 0, rfl, Nat.le_refl _, Nat.zero_le _⟩
  · exact ⟨_, cap, rfl, h3, h4⟩
theorem TermsRow.block {w : World} {base : Nat} {v : Value} {L : List T} (h : TermsRow w base v L) : ∀ k, v.ownBlock = some k → base ≤ k ∧ k < w.heap.size := by
  intro k hk
  rcases h with ⟨rfl, rfl⟩ | ⟨g, cap, rfl, cur, h1, _, _, _, h5, _⟩
  · cases hk
  · injection hk with hk
    subst hk
    exact ⟨h5, (Array.getElem?_eq_some_iff.1 h1).1⟩
/-- The row as the kids of a term. -/
theorem TermsRow.term {w : World} {base : Nat} {v : Value} {L : List T} (h : TermsRow w base v L) (k : Int) (s : ByteArray) (hk : -9223372036854775808 ≤ k ∧ k ≤ 9223372036854775807) (hs : s.size ≤ maxLen) :
    TermIn (from_ base) w (.agg #[.int .i64 k, .string s, v]) (.mk k s L) := by
  rcases h with ⟨rfl, rfl⟩ | ⟨g, cap, rfl, cur, h1, h2, h3, h4, h5, h6⟩
  · exact TermAt.mk k s none 0 [] (fun _ => (undef, undef, undef)) hk hs (Nat.le_refl _) (Nat.zero_le _) (.inl rfl) (fun i h => by simp at h)
  · have hc : ∀ j u, cur[j]? = some u → (only w (from_ base)).cell? ⟨g, j, none⟩ = some u := fun j u hu => by
      rw [cell_only, if_pos (by unfold from_; exact decide_eq_true h5)]
      simp [World.cell?, h1, hu]
    refine TermAt.mk k s (some ⟨g, 0, none⟩) cap L (fun i => (cur.getD (i * 3) undef, cur.getD (i * 3 + 1) undef, cur.getD (i * 3 + 2) undef)) hk hs h3 h4 (.inr ⟨g, 0, rfl, fun i hi => ?_⟩) (fun i hi => ?_)
    · obtain ⟨u0, u1, u2, a, b, c, d⟩ := h6 i hi
      rw [Nat.zero_add]
      refine ⟨(hc _ _ a).trans ?_, (hc _ _ b).trans ?_, (hc _ _ c).trans ?_⟩
      · simp [Array.getD_eq_getD_getElem?, a]
      · simp [Array.getD_eq_getD_getElem?, b]
      · simp [Array.getD_eq_getD_getElem?, c]
    · obtain ⟨u0, u1, u2, a, b, c, d⟩ := h6 i hi
      have e : (Value.agg #[cur.getD (i * 3) undef, cur.getD (i * 3 + 1) undef, cur.getD (i * 3 + 2) undef]) = .agg #[u0, u1, u2] := by
        simp [Array.getD_eq_getD_getElem?, a, b, c]
      show TermAt _ (Value.agg #[cur.getD (i * 3) undef, cur.getD (i * 3 + 1) undef, cur.getD (i * 3 + 2) undef]) _
      rw [e]
      exact d.keep (S' := from_ base) fun b hb _ => ⟨decide_eq_true (but_iff.1 hb).1, rfl⟩
/-- What the library's laws on append want of it. -/
theorem TermsRow.owns {w : World} {base : Nat} {v : Value} {L : List T} (h : TermsRow w base v L) : ∃ xs, w.ownsRow base 29 3 v L.length xs ∧
    (∀ i (h : i < L.length), ∃ u0 u1 u2, xs[i * 3]? = some u0 ∧ xs[i * 3 + 1]? = some u1 ∧ xs[i * 3 + 2]? = some u2 ∧ TermIn (but base v.ownBlock) w (.agg #[u0, u1, u2]) L[i]) := by
  rcases h with ⟨rfl, rfl⟩ | ⟨g, cap, rfl, cur, h1, h2, h3, h4, h5, h6⟩
  · exact ⟨[], World.ownsRow_nil _ _ _ _, fun i h => by simp at h⟩
  · refine ⟨cur.toList.take (L.length * 3), ⟨?_, .inr ⟨g, cap, cur, rfl, h5, h1, h3, h4, h2, rfl⟩⟩, fun i hi => ?_⟩
    · have hsz : cur.toList.length = cap * 3 := by simpa using h2
      rw [List.length_take]; exact Nat.min_eq_left (by omega)
    · obtain ⟨u0, u1, u2, a, b, c, d⟩ := h6 i hi
      refine ⟨u0, u1, u2, ?_, ?_, ?_, d⟩
      all_goals rw [List.getElem?_take, if_pos (by omega)]; simpa
/-- Behind an append of one term. -/
theorem TermsRow.snoc {w w' : World} {base g cap H : Nat} {v : Value} {L : List T} {xs : List Value} {u0 u1 u2 : Value} {t : T}
    (hx : ∀ i (h : i < L.length), ∃ u0 u1 u2, xs[i * 3]? = some u0 ∧ xs[i * 3 + 1]? = some u1 ∧ xs[i * 3 + 2]? = some u2 ∧ TermIn (but base v.ownBlock) w (.agg #[u0, u1, u2]) L[i]) (hl : xs.length = L.length * 3)
    (ht : TermIn (but base v.ownBlock) w (.agg #[u0, u1, u2]) t)
    (hown : w'.ownsRow base 29 3 (.slice (some ⟨g, 0, none⟩) (L.length + 1) cap) (L.length + 1) (xs ++ [u0, u1, u2])) (hgrow : w.grownBy w' v.ownBlock) (hat : v.ownBlock = some g ∨ g = H) (hH : w.heap.size = H) :
    TermsRow w' base (.slice (some ⟨g, 0, none⟩) (L.length + 1) cap) (L ++ [t]) := by
  have hgf : ∀ b, but base v.ownBlock b = true → b < w.heap.size → but base (some g) b = true ∧ w'.heap[b]? = w.heap[b]? := fun b hb hbl => by
    obtain ⟨h1, h2⟩ := but_iff.1 hb
    refine ⟨but_iff.2 ⟨h1, fun e => ?_⟩, hgrow.block b hbl (fun e => h2 e.symm)⟩
    injection e with e; subst e
    rcases hat with h | h
    · exact h2 h
    · omega
  obtain ⟨hlen, hc⟩ := hown
  rcases hc with ⟨h, _⟩ | ⟨g', cap', cur, hv', h5, h1, h3, h4, h2, htake⟩
  · cases h
  · simp only [Value.slice.injEq, Option.some.injEq, Addr.mk.injEq, and_true, true_and] at hv'
    obtain ⟨rfl, rfl⟩ := hv'
    have hcur : ∀ j u, (xs ++ [u0, u1, u2])[j]? = some u → cur[j]? = some u := fun j u hu => by
      rw [← htake, List.getElem?_take] at hu
      split at hu
      · simpa using hu
      · cases hu
    refine .inr ⟨g, cap, by rw [List.length_append]; rfl, cur, h1, h2, by rw [List.length_append]; exact h3, h4, h5, fun i hi => ?_⟩
    rcases Nat.lt_or_ge i L.length with g1 | g1
    · obtain ⟨a0, a1, a2, b0, b1, b2, b3⟩ := hx i g1
      refine ⟨a0, a1, a2, hcur _ _ ?_, hcur _ _ ?_, hcur _ _ ?_, ?_⟩
      · rw [List.getElem?_append_left (by omega)]; exact b0
      · rw [List.getElem?_append_left (by omega)]; exact b1
      · rw [List.getElem?_append_left (by omega)]; exact b2
      · rw [List.getElem_append_left g1]; exact b3.keep hgf
    · have hi' : i = L.length := by simp at hi; omega
      subst hi'
      refine ⟨u0, u1, u2, hcur _ _ ?_, hcur _ _ ?_, hcur _ _ ?_, ?_⟩
      · rw [List.getElem?_append_right (by omega), hl]; simp
      · rw [List.getElem?_append_right (by omega), hl]; simp
      · rw [List.getElem?_append_right (by omega), hl]; simp
      · rw [List.getElem_append_right (Nat.le_refl _)]
        simpa using ht.keep hgf
theorem TermIn.one {S : Nat → Bool} {w : World} {a b c : Value} {t : T} (h : TermIn S w (.agg #[a, b, c]) t) : ∀ u ∈ [a, b, c], u.oneCell' = true := by
  obtain ⟨rfl, rfl, A, cap, rfl⟩ := TermAt.view h
  intro u hu
  simp at hu
  rcases hu with rfl | rfl | rfl <;> rfl
theorem TermIn.view {S : Nat → Bool} {w : World} {v : Value} {t : T} (h : TermIn S w v t) : ∃ A cap, v = .agg #[.int .i64 t.kind, .string t.name, .slice A t.kids.length cap] := by
  cases h
  exact ⟨_, _, rfl⟩
theorem Tryz.infoT : (Tryz.prog.info? 29).map (fun i => (i.zero, i.size, i.bytes)) = some (some (.agg #[.int .i64 0, .string ByteArray.empty, .slice none 0 0]), 3, 48) := by kernel_rfl
end Go.Proofs.YtihbmgkbipeakaaGreat

namespace Go.Proofs.YtihbmgkbipeakaaGreat
open Go.RowKit

namespace T
/-- Insertion into a list that lies in reverse. -/
def insR (x : T) : List T → List T
  | [] => [x]
  | y :: r => if cmp x y < 0 then y :: insR x r else x :: y :: r
def isort (l : List T) : List T := (l.foldl (fun acc x => insR x acc) []).reverse
mutual
def norm : T → T
  | .mk k s ks => .mk k s (if k = 7 then isort (normAll ks) else normAll ks)
def normAll : List T → List T
  | [] => []
  | t :: r => norm t :: normAll r
end
theorem normAll_map : ∀ l : List T, normAll l = l.map norm
  | [] => rfl
  | t :: r => by simp only [normAll, List.map_cons, normAll_map r]
theorem bulkAll_append : ∀ l m : List T, bulkAll (l ++ m) = bulkAll l + bulkAll m
  | [], m => by simp [bulkAll]
  | t :: r, m => by simp only [List.cons_append, bulkAll, bulkAll_append r m]; omega
theorem bulkAll_reverse (l : List T) : bulkAll l.reverse = bulkAll l := by
  induction l with
  | nil => rfl
  | cons t r ih => rw [List.reverse_cons, bulkAll_append, ih]; simp only [bulkAll]; omega
theorem bulkAll_insR (x : T) (l : List T) : bulkAll (insR x l) = x.bulk + bulkAll l := by
  induction l with
  | nil => rfl
  | cons t r ih =>
    simp only [insR]
    split
    · simp only [bulkAll, ih]; omega
    · simp only [bulkAll]
theorem length_insR (x : T) (l : List T) : (insR x l).length = l.length + 1 := by
  induction l with
  | nil => rfl
  | cons t r ih =>
    simp only [insR]
    split
    · simp only [List.length_cons, ih]
    · rfl
theorem bulkAll_fold (l : List T) : ∀ acc, bulkAll (l.foldl (fun acc x => insR x acc) acc) = bulkAll acc + bulkAll l := by
  induction l with
  | nil => intro acc; simp [bulkAll]
  | cons t r ih => intro acc; rw [List.foldl_cons, ih, bulkAll_insR]; simp only [bulkAll]; omega
theorem length_fold (l : List T) : ∀ acc : List T, (l.foldl (fun acc x => insR x acc) acc).length = acc.length + l.length := by
  induction l with
  | nil => intro acc; simp
  | cons t r ih => intro acc; rw [List.foldl_cons, ih, length_insR]; simp only [List.length_cons]; omega
theorem bulkAll_isort (l : List T) : bulkAll (isort l) = bulkAll l := by
  unfold isort; rw [bulkAll_reverse, bulkAll_fold]; simp [bulkAll]
theorem length_isort (l : List T) : (isort l).length = l.length := by
  unfold isort; rw [List.length_reverse, length_fold]; simp
mutual
theorem bulk_norm : ∀ t : T, t.norm.bulk = t.bulk
  | .mk k s ks => by
    simp only [norm, bulk]
    split
    · rw [bulkAll_isort, bulk_normAll ks]
    · rw [bulk_normAll ks]
theorem bulk_normAll : ∀ l : List T, bulkAll (normAll l) = bulkAll l
  | [] => rfl
  | t :: r => by simp only [normAll, bulkAll, bulk_norm t, bulk_normAll r]
end
theorem shape_kids {k : Int} {s : ByteArray} {ks : List T} (h : (T.mk k s ks).shape = true) : ∀ i (g : i < ks.length), ks[i].shape = true := by
  intro i g
  by_cases h12 : k = 1 ∨ k = 2
  · rw [shape_atom k s ks h12, Bool.and_eq_true] at h
    have := beq_iff_eq.1 h.2; omega
  · rw [shape_head k s ks (fun e => h12 (.inl e)) (fun e => h12 (.inr e)), Bool.and_eq_true, Bool.not_eq_true'] at h
    have := List.any_eq_false.1 h.2 ks[i] (List.getElem_mem g)
    simpa using this
theorem shape_seven {s : ByteArray} {ks : List T} (h : (T.mk 7 s ks).shape = true) : 1 ≤ ks.length ∧ ks.length ≤ 4 := by
  rw [shape_head 7 s ks (by decide) (by decide), Bool.and_eq_true, Bool.and_eq_true] at h
  rcases headOk_kinds 7 ks with ⟨g, _⟩ | g
  · rw [g] at h; simp at h
  · omega
end T
/-- A block of the three cells of a term, known whole. -/
def Box (w : World) (g : Nat) (a b c : Value) : Prop := w.heap[g]? = some (.cells #[a, b, c] 29 (0, 0))
theorem Box.cells {w : World} {g : Nat} {a b c : Value} (h : Box w g a b c) : w.cell? ⟨g, 0, none⟩ = some a ∧ w.cell? ⟨g, 1, none⟩ = some b ∧ w.cell? ⟨g, 2, none⟩ = some c := by
  unfold Box at h
  refine ⟨?_, ?_, ?_⟩ <;> simp [World.cell?, h]
theorem Box.free {w : World} {g : Nat} {a b c : Value} (h : Box w g a b c) : w.frozen? ⟨g, 0, none⟩ = false ∧ w.frozen? ⟨g, 1, none⟩ = false ∧ w.frozen? ⟨g, 2, none⟩ = false := by
  unfold Box at h
  refine ⟨?_, ?_, ?_⟩ <;> simp [World.frozen?, h]
theorem Box.lt {w : World} {g : Nat} {a b c : Value} (h : Box w g a b c) : g < w.heap.size := (Array.getElem?_eq_some_iff.1 h).1
theorem Box.set2 {w : World} {g : Nat} {a b c : Value} (h : Box w g a b c) (v : Value) : Box (w.setCell ⟨g, 2, none⟩ v) g a b v := by
  unfold Box at *
  simp [World.setCell, Array.getElem?_modify, h]
theorem Box.setOther {w : World} {g : Nat} {a b c : Value} (h : Box w g a b c) {p : Addr} (hp : g ≠ p.block) (v : Value) : Box (w.setCell p v) g a b c := by
  unfold Box at *
  rw [Below.heap_setCell _ _ _ _ hp]; exact h
theorem Box.later {w w' : World} {g : Nat} {a b c : Value} (h : Box w g a b c) (hb : Below w.heap.size w w') : Box w' g a b c := (hb.block g h.lt).trans h
theorem Box.grown {w w' : World} {g : Nat} {a b c : Value} {row : Option Nat} (h : Box w g a b c) (hg : w.grownBy w' row) (hr : row ≠ some g) : Box w' g a b c := (hg.block g h.lt (fun e => hr e.symm)).trans h
theorem Box.new (w : World) (a b c : Value) : Box (w.alloc (.cells #[a, b, c] 29)) w.heap.size a b c := heap_alloc_new w _
theorem box_two (w : World) (a b c a' b' c' : Value) : Box ((w.alloc (.cells #[a, b, c] 29)).alloc (.cells #[a', b', c'] 29)) w.heap.size a b c ∧ Box ((w.alloc (.cells #[a, b, c] 29)).alloc (.cells #[a', b', c'] 29)) (w.heap.size + 1) a' b' c' ∧
    Below w.heap.size w ((w.alloc (.cells #[a, b, c] 29)).alloc (.cells #[a', b', c'] 29)) ∧ ((w.alloc (.cells #[a, b, c] 29)).alloc (.cells #[a', b', c'] 29)).heap.size = w.heap.size + 2 := by
  have hs := size_alloc1 w (.cells #[a, b, c] 29)
  have h2 := Box.new (w.alloc (.cells #[a, b, c] 29)) a' b' c'
  rw [hs] at h2
  exact ⟨(Box.new w a b c).later (below_alloc1 _ _), h2, (below_alloc1 _ _).trans ((below_alloc1 _ _).mono (by rw [hs]; omega)), by rw [size_alloc1, hs]⟩
theorem own_later {w w' : World} {base : Nat} {e : TypeId} {size n : Nat} {v : Value} {xs : List Value} (h : w.ownsRow base e size v n xs) (hb : Below w.heap.size w w') : w'.ownsRow base e size v n xs :=
  h.kept (row := none) ⟨hb.os, hb.tape, hb.output, hb.size, fun k hk _ => hb.block k hk⟩ (by cases v.ownBlock <;> simp)
theorem below_undrew {w w' : World} (h : Below w.drew.heap.size w.drew w') : Below w.heap.size w w' := ⟨h.os, h.tape, h.output, h.size, h.block⟩
/-- A term is returned that lies in new memory. -/
def RetT (t : T) (w : World) (e : Ending) (w' : World) : Prop := ∃ A cap, e = .returned (.agg #[.int .i64 t.kind, .string t.name, .slice A t.kids.length cap]) ∧
  TermIn (from_ w.heap.size) w' (.agg #[.int .i64 t.kind, .string t.name, .slice A t.kids.length cap]) t ∧ Below w.heap.size w w'
/-- Three stores into the block of a result. -/
theorem box_set3 {w : World} {g : Nat} {a b c : Value} (h : Box w g a b c) (x y z : Value) : Box (((w.setCell ⟨g, 0, none⟩ x).setCell ⟨g, 1, none⟩ y).setCell ⟨g, 2, none⟩ z) g x y z := by
  unfold Box at *
  simp [World.setCell, Array.getElem?_modify, h]
theorem set3_other (w : World) (g : Nat) (x y z : Value) (k : Nat) (hk : k ≠ g) : (((w.setCell ⟨g, 0, none⟩ x).setCell ⟨g, 1, none⟩ y).setCell ⟨g, 2, none⟩ z).heap[k]? = w.heap[k]? := by
  rw [Below.heap_setCell _ _ _ _ hk, Below.heap_setCell _ _ _ _ hk, Below.heap_setCell _ _ _ _ hk]
theorem ret_set3 {t : T} {w wr : World} {A : Option Addr} {cap g : Nat} (x y z : Value) (hbw : Below w.heap.size w wr) (hg : w.heap.size ≤ g)
    (hx : x = .int .i64 t.kind) (hy : y = .string t.name) (hz : z = .slice A t.kids.length cap) (h : TermIn (from_ (g + 1)) wr (.agg #[x, y, z]) t) :
    RetT t w (.returned (.agg #[x, y, z])) (((wr.setCell ⟨g, 0, none⟩ x).setCell ⟨g, 1, none⟩ y).setCell ⟨g, 2, none⟩ z) := by
  subst hx; subst hy; subst hz
  refine ⟨A, cap, rfl, h.keep fun b hb _ => ?_, ((hbw.setCell hg _).setCell hg _).setCell hg _⟩
  have := of_decide_eq_true hb
  exact ⟨decide_eq_true (by omega), set3_other _ _ _ _ _ _ (by omega)⟩
theorem grownBy_trans {w w' w'' : World} {row : Option Nat} (h : w.grownBy w' row) (k : w'.grownBy w'' row) : w.grownBy w'' row :=
  ⟨k.os.trans h.os, k.tape.trans h.tape, k.output.trans h.output, Nat.le_trans h.size k.size, fun i hi hn => (k.block i (Nat.lt_of_lt_of_le hi h.size) hn).trans (h.block i hi hn)⟩
theorem grownBy_of_below {w w' : World} (row : Option Nat) (h : Below w.heap.size w w') : w.grownBy w' row := ⟨h.os, h.tape, h.output, h.size, fun k hk _ => h.block k hk⟩
end Go.Proofs.YtihbmgkbipeakaaGreat

namespace Go.Proofs.YtihbmgkbipeakaaGreat
open Go.RowKit

namespace T
theorem bless (x y : List UInt8) : Op.bytesLess x y = decide (x < y) := by
  induction x generalizing y with
  | nil => cases y <;> simp [Op.bytesLess]
  | cons a x ih => cases y with
    | nil => simp [Op.bytesLess]
    | cons b y => simp only [Op.bytesLess, ih, List.cons_lt_cons_iff, Bool.decide_or, Bool.decide_and]; congr 1
theorem list_tri (x y : List UInt8) : x < y ∨ x = y ∨ y < x := by
  induction x generalizing y with
  | nil => cases y with
    | nil => exact .inr (.inl rfl)
    | cons b y => exact .inl (List.nil_lt_cons b y)
  | cons a x ih => cases y with
    | nil => exact .inr (.inr (List.nil_lt_cons a x))
    | cons b y =>
      rw [List.cons_lt_cons_iff, List.cons_lt_cons_iff, List.cons.injEq]
      rcases ih y with h | h | h
      · by_cases e : a = b
        · left; right; exact ⟨e, h⟩
        · rcases (show a < b ∨ b < a by have : a.toNat ≠ b.toNat := fun h => e (UInt8.toNat_inj.1 h); rw [UInt8.lt_iff_toNat_lt, UInt8.lt_iff_toNat_lt]; omega) with g | g
          · left; left; exact g
          · right; right; left; exact g
      · by_cases e : a = b
        · right; left; exact ⟨e, h⟩
        · rcases (show a < b ∨ b < a by have : a.toNat ≠ b.toNat := fun h => e (UInt8.toNat_inj.1 h); rw [UInt8.lt_iff_toNat_lt, UInt8.lt_iff_toNat_lt]; omega) with g | g
          · left; left; exact g
          · right; right; left; exact g
      · by_cases e : a = b
        · right; right; right; exact ⟨e.symm, h⟩
        · rcases (show a < b ∨ b < a by have : a.toNat ≠ b.toNat := fun h => e (UInt8.toNat_inj.1 h); rw [UInt8.lt_iff_toNat_lt, UInt8.lt_iff_toNat_lt]; omega) with g | g
          · left; left; exact g
          · right; right; left; exact g
theorem ba_eq {a b : ByteArray} (h : a.toList = b.toList) : a = b := str_eq (by rw [← ByteArray.toList_eq, ← ByteArray.toList_eq]; exact h)
theorem cs_lt {a b : ByteArray} : cs a b = -1 ↔ a.toList < b.toList := by
  unfold cs less; rw [bless]
  by_cases h : a.toList < b.toList
  · simp [h]
  · simp only [h, decide_false, Bool.false_eq_true, if_false, iff_false]
    split <;> decide
theorem cs_eq {a b : ByteArray} : cs a b = 0 ↔ a = b := by
  unfold cs less; rw [bless]
  by_cases h : a.toList < b.toList
  · have : a ≠ b := fun e => by rw [e] at h; exact List.lt_irrefl _ h
    simp [h, this]
  · simp only [h, decide_false, Bool.false_eq_true, if_false]
    by_cases e : a.toList = b.toList
    · simp [ba_eq e]
    · have e' : (a.toList == b.toList) = false := by rw [beq_eq_false_iff_ne]; exact e
      have : a ≠ b := fun h => e (by rw [h])
      simp [e', this]
theorem cs_vals (a b : ByteArray) : cs a b = -1 ∨ cs a b = 0 ∨ cs a b = 1 := by
  unfold cs; split
  · simp
  · split <;> simp
theorem cs_anti (a b : ByteArray) : cs b a = -cs a b := by
  rcases list_tri a.toList b.toList with h | h | h
  · have h1 := cs_lt.2 h
    have h2 : cs b a ≠ -1 := fun e => List.lt_irrefl _ (List.lt_trans h (cs_lt.1 e))
    have h3 : cs b a ≠ 0 := fun e => by rw [cs_eq.1 e] at h; exact List.lt_irrefl _ h
    rcases cs_vals b a with g | g | g
    · exact absurd g h2
    · exact absurd g h3
    · rw [g, h1]; rfl
  · have := ba_eq h; subst this; rw [cs_eq.2 rfl]; rfl
  · have h1 := cs_lt.2 h
    have h2 : cs a b ≠ -1 := fun e => List.lt_irrefl _ (List.lt_trans h (cs_lt.1 e))
    have h3 : cs a b ≠ 0 := fun e => by rw [cs_eq.1 e] at h; exact List.lt_irrefl _ h
    rcases cs_vals a b with g | g | g
    · exact absurd g h2
    · exact absurd g h3
    · rw [g, h1]
theorem ci_lt {a b : Int} : ci a b = -1 ↔ a < b := by unfold ci; split <;> (try split) <;> omega
theorem ci_eq {a b : Int} : ci a b = 0 ↔ a = b := by unfold ci; split <;> (try split) <;> omega
theorem ci_anti (a b : Int) : ci b a = -ci a b := by unfold ci; split <;> (try split) <;> (try split) <;> omega
theorem or3_anti {x y z x' y' z' : Int} (hx : x' = -x) (hy : y' = -y) (hz : z' = -z) : or3 x' y' z' = -or3 x y z := by
  subst hx; subst hy; subst hz; unfold or3; split <;> (try split) <;> (try split) <;> (try split) <;> omega
mutual
theorem cmp_anti : ∀ a b : T, cmp b a = -cmp a b
  | .mk k s ks, .mk k' s' ks' => by rw [cmp_or3, cmp_or3]; exact or3_anti (ci_anti _ _) (cs_anti _ _) (cmpAll_anti ks ks')
theorem cmpAll_anti : ∀ l m : List T, cmpAll m l = -cmpAll l m
  | [], [] => rfl
  | [], _ :: _ => rfl
  | _ :: _, [] => rfl
  | a :: r, b :: r' => by
    have h1 := cmp_anti a b; have h2 := cmpAll_anti r r'
    simp only [cmpAll]
    split <;> split <;> omega
end
mutual
theorem cmp_eq : ∀ a b : T, cmp a b = 0 → a = b
  | .mk k s ks, .mk k' s' ks' => fun h => by
    rw [cmp_or3] at h
    unfold or3 at h
    split at h
    · omega
    · split at h
      · omega
      · rename_i h1 h2
        have e1 := ci_eq.1 (Decidable.not_not.1 h1); have e2 := cs_eq.1 (Decidable.not_not.1 h2)
        rw [e1, e2, cmpAll_eq ks ks' h]
theorem cmpAll_eq : ∀ l m : List T, cmpAll l m = 0 → l = m
  | [], [] => fun _ => rfl
  | [], _ :: _ => fun h => by simp [cmpAll] at h
  | _ :: _, [] => fun h => by simp [cmpAll] at h
  | a :: r, b :: r' => fun h => by
    simp only [cmpAll] at h
    split at h
    · rename_i h1; rw [cmp_eq a b h1, cmpAll_eq r r' h]
    · omega
end
mutual
theorem cmp_self : ∀ a : T, cmp a a = 0
  | .mk k s ks => by rw [cmp_or3, ci_eq.2 rfl, cs_eq.2 rfl, cmpAll_self ks]; rfl
theorem cmpAll_self : ∀ l : List T, cmpAll l l = 0
  | [] => rfl
  | a :: r => by simp only [cmpAll]; rw [if_pos (cmp_self a)]; exact cmpAll_self r
end
theorem or3_lt {x y z : Int} : or3 x y z = -1 ↔ x = -1 ∨ (x = 0 ∧ (y = -1 ∨ (y = 0 ∧ z = -1))) := by
  unfold or3; split <;> (try split) <;> omega
mutual
theorem cmp_trans : ∀ a b c : T, cmp a b = -1 → cmp b c = -1 → cmp a c = -1
  | .mk k s ks, .mk k' s' ks', .mk k'' s'' ks'' => fun h g => by
    rw [cmp_or3, or3_lt, ci_lt, ci_eq, cs_lt, cs_eq] at h g ⊢
    rcases h with h | ⟨rfl, h⟩
    · rcases g with g | ⟨rfl, g⟩
      · left; omega
      · left; exact h
    · rcases g with g | ⟨rfl, g⟩
      · left; exact g
      · right
        refine ⟨rfl, ?_⟩
        rcases h with h | ⟨rfl, h⟩
        · rcases g with g | ⟨rfl, g⟩
          · left; exact List.lt_trans h g
          · left; exact h
        · rcases g with g | ⟨rfl, g⟩
          · left; exact g
          · right; exact ⟨rfl, cmpAll_trans ks ks' ks'' h g⟩
theorem cmpAll_trans : ∀ a b c : List T, cmpAll a b = -1 → cmpAll b c = -1 → cmpAll a c = -1
  | [], [], _ => fun h _ => by simp [cmpAll] at h
  | [], _ :: _, [] => fun _ g => by simp [cmpAll] at g
  | [], _ :: _, _ :: _ => fun _ _ => rfl
  | _ :: _, [], _ => fun h _ => by simp [cmpAll] at h
  | _ :: _, _ :: _, [] => fun _ g => by simp [cmpAll] at g
  | a :: r, b :: r', c :: r'' => fun h g => by
    simp only [cmpAll] at h g ⊢
    by_cases h1 : cmp a b = 0
    · rw [if_pos h1] at h
      have := cmp_eq a b h1; subst this
      by_cases g1 : cmp a c = 0
      · rw [if_pos g1] at g ⊢; exact cmpAll_trans r r' r'' h g
      · rw [if_neg g1] at g ⊢; exact g
    · rw [if_neg h1] at h
      by_cases g1 : cmp b c = 0
      · have := cmp_eq b c g1; subst this
        rw [if_neg h1]; exact h
      · rw [if_neg g1] at g
        have := cmp_trans a b c h g
        rw [if_neg (by omega)]; exact this
end
end T
end Go.Proofs.YtihbmgkbipeakaaGreat

namespace Go.Proofs.YtihbmgkbipeakaaGreat

namespace T
theorem insR_perm (x : T) (l : List T) : (insR x l).Perm (x :: l) := by
  induction l with
  | nil => exact List.Perm.refl _
  | cons y r ih =>
    simp only [insR]
    split
    · exact (ih.cons y).trans (List.Perm.swap _ _ _)
    · exact List.Perm.refl _
theorem fold_perm (l : List T) : ∀ acc, (l.foldl (fun acc x => insR x acc) acc).Perm (acc ++ l) := by
  induction l with
  | nil => intro acc; simp
  | cons x r ih =>
    intro acc
    rw [List.foldl_cons]
    refine (ih _).trans ?_
    refine ((insR_perm x acc).append_right r).trans ?_
    exact List.perm_middle.symm
theorem isort_perm (l : List T) : (isort l).Perm l := by
  unfold isort
  exact (List.reverse_perm _).trans (by simpa using fold_perm l [])
theorem le_of_not {a b : T} (h : ¬ cmp a b < 0) : cmp b a ≤ 0 := by rw [cmp_anti a b]; omega
theorem le_trans_ {a b c : T} (h : cmp a b ≤ 0) (g : cmp b c ≤ 0) : cmp a c ≤ 0 := by
  rcases cmp_vals a b with h1 | h1 | h1
  · rcases cmp_vals b c with g1 | g1 | g1
    · rw [cmp_trans a b c h1 g1]; decide
    · rw [← cmp_eq b c g1]; exact h
    · omega
  · rw [cmp_eq a b h1]; exact g
  · omega
theorem insR_down (x : T) (l : List T) (h : l.Pairwise fun a b => cmp b a ≤ 0) : (insR x l).Pairwise fun a b => cmp b a ≤ 0 := by
  induction l with
  | nil => simp [insR]
  | cons y r ih =>
    simp only [insR]
    rw [List.pairwise_cons] at h
    split
    · rename_i hlt
      rw [List.pairwise_cons]
      refine ⟨fun z hz => ?_, ih h.2⟩
      rcases List.mem_cons.1 ((insR_perm x r).mem_iff.1 hz) with rfl | hz
      · omega
      · exact h.1 z hz
    · rename_i hge
      rw [List.pairwise_cons, List.pairwise_cons]
      refine ⟨fun z hz => ?_, h⟩
      rcases List.mem_cons.1 hz with rfl | hz
      · exact le_of_not hge
      · exact le_trans_ (h.1 z hz) (le_of_not hge)
theorem fold_down (l : List T) : ∀ acc : List T, (acc.Pairwise fun a b => cmp b a ≤ 0) → (l.foldl (fun acc x => insR x acc) acc).Pairwise fun a b => cmp b a ≤ 0 := by
  induction l with
  | nil => intro acc h; exact h
  | cons x r ih => intro acc h; rw [List.foldl_cons]; exact ih _ (insR_down x acc h)
theorem isort_up (l : List T) : (isort l).Pairwise fun a b => cmp a b ≤ 0 := by
  unfold isort
  rw [List.pairwise_reverse]
  exact fold_down l [] List.Pairwise.nil
theorem up_perm : ∀ (l m : List T), l.Perm m → (l.Pairwise fun a b => cmp a b ≤ 0) → (m.Pairwise fun a b => cmp a b ≤ 0) → l = m
  | [], m, h, _, _ => by rw [List.nil_perm.1 h]
  | a :: r, [], h, _, _ => by have := h.length_eq; simp at this
  | a :: r, b :: r', h, h1, h2 => by
    rw [List.pairwise_cons] at h1 h2
    have e : a = b := by
      rcases List.mem_cons.1 (h.mem_iff.1 (List.mem_cons_self)) with e | ha
      · exact e
      · rcases List.mem_cons.1 (h.mem_iff.2 (List.mem_cons_self)) with e | hb
        · exact e.symm
        · have g1 := h1.1 b hb
          have g2 := h2.1 a ha
          rw [cmp_anti a b] at g2
          exact cmp_eq a b (by omega)
    subst e
    rw [up_perm r r' (List.perm_cons a |>.1 h) h1.2 h2.2]
theorem isort_of_perm {l m : List T} (h : l.Perm m) : isort l = isort m :=
  up_perm _ _ ((isort_perm l).trans (h.trans (isort_perm m).symm)) (isort_up l) (isort_up m)

mutual
/-- A term whose exponents stand in the opposite order. -/
def turn : T → T
  | .mk k s ks => .mk k s (if k = 7 then ks.reverse else turnAll ks)
def turnAll : List T → List T
  | [] => []
  | t :: r => turn t :: turnAll r
end
mutual
theorem norm_turn : ∀ t : T, t.turn.norm = t.norm
  | .mk k s ks => by
    simp only [turn, norm]
    split
    · rw [normAll_map, normAll_map, List.map_reverse, isort_of_perm (List.reverse_perm _)]
    · rw [norm_turnAll ks]
theorem norm_turnAll : ∀ l : List T, normAll (turnAll l) = normAll l
  | [] => rfl
  | t :: r => by simp only [turnAll, normAll, norm_turn t, norm_turnAll r]
end
mutual
theorem norm_norm : ∀ t : T, t.norm.norm = t.norm
  | .mk k s ks => by
    simp only [norm]
    split
    · have h : (normAll (isort (normAll ks))).Perm (normAll ks) := by
        have h1 := (isort_perm (normAll ks)).map norm
        rw [← normAll_map, ← normAll_map, norm_normAll ks] at h1
        exact h1
      rw [isort_of_perm h]
    · rw [norm_normAll ks]
theorem norm_normAll : ∀ l : List T, normAll (normAll l) = normAll l
  | [] => rfl
  | t :: r => by simp only [normAll, norm_norm t, norm_normAll r]
end
end T
end Go.Proofs.YtihbmgkbipeakaaGreat

namespace Go.Proofs.YtihbmgkbipeakaaGreat

namespace T
theorem shapeAll_iff (l : List T) : shapeAll l = true ↔ ∀ t ∈ l, t.shape = true := by
  induction l with
  | nil => simp [shapeAll]
  | cons t r ih => simp [shapeAll, ih]
theorem headOk_map (f : T → T) (hf : ∀ t, (f t).atom = t.atom) (k : Int) (l : List T) : headOk k (l.map f) = headOk k l := by
  have e1 : ((l.map f)[0]?).map atom = (l[0]?).map atom := by cases l <;> simp [hf]
  have e2 : (l.map f).any (fun t => !t.atom) = l.any (fun t => !t.atom) := by
    rw [List.any_map]; congr 1; funext t; simp [hf]
  unfold headOk
  rw [e1, e2, List.length_map]
theorem headOk_perm {l m : List T} (h : l.Perm m) : headOk 7 l = headOk 7 m := by
  have e : l.any (fun t => !t.atom) = m.any (fun t => !t.atom) := by
    rw [Bool.eq_iff_iff, List.any_eq_true, List.any_eq_true]
    exact ⟨fun ⟨t, h1, h2⟩ => ⟨t, h.mem_iff.1 h1, h2⟩, fun ⟨t, h1, h2⟩ => ⟨t, h.mem_iff.2 h1, h2⟩⟩
  unfold headOk
  rw [e, h.length_eq]
  simp
theorem atom_norm (t : T) : t.norm.atom = t.atom := by cases t; rfl
theorem atom_turn (t : T) : t.turn.atom = t.atom := by cases t; rfl
theorem turnAll_map : ∀ l : List T, turnAll l = l.map turn
  | [] => rfl
  | t :: r => by simp only [turnAll, List.map_cons, turnAll_map r]
theorem sizeAll_perm {l m : List T} (h : l.Perm m) : sizeAll l = sizeAll m := by
  induction h with
  | nil => rfl
  | cons x _ ih => simp only [sizeAll, ih]
  | swap x y l => simp only [sizeAll]; omega
  | trans _ _ ih1 ih2 => exact ih1.trans ih2
theorem bulkAll_perm {l m : List T} (h : l.Perm m) : bulkAll l = bulkAll m := by
  induction h with
  | nil => rfl
  | cons x _ ih => simp only [bulkAll, ih]
  | swap x y l => simp only [bulkAll]; omega
  | trans _ _ ih1 ih2 => exact ih1.trans ih2
mutual
theorem size_norm : ∀ t : T, t.norm.size = t.size
  | .mk k s ks => by
    simp only [norm, size]
    split
    · rw [sizeAll_perm (isort_perm _), size_normAll ks]
    · rw [size_normAll ks]
theorem size_normAll : ∀ l : List T, sizeAll (normAll l) = sizeAll l
  | [] => rfl
  | t :: r => by simp only [normAll, sizeAll, size_norm t, size_normAll r]
end
mutual
theorem size_turn : ∀ t : T, t.turn.size = t.size
  | .mk k s ks => by
    simp only [turn, size]
    split
    · rw [sizeAll_perm (List.reverse_perm _)]
    · rw [size_turnAll ks]
theorem size_turnAll : ∀ l : List T, sizeAll (turnAll l) = sizeAll l
  | [] => rfl
  | t :: r => by simp only [turnAll, sizeAll, size_turn t, size_turnAll r]
end
mutual
theorem bulk_turn : ∀ t : T, t.turn.bulk = t.bulk
  | .mk k s ks => by
    simp only [turn, bulk]
    split
    · rw [bulkAll_perm (List.reverse_perm _)]
    · rw [bulk_turnAll ks]
theorem bulk_turnAll : ∀ l : List T, bulkAll (turnAll l) = bulkAll l
  | [] => rfl
  | t :: r => by simp only [turnAll, bulkAll, bulk_turn t, bulk_turnAll r]
end
mutual
theorem shape_norm : ∀ t : T, t.shape = true → t.norm.shape = true
  | .mk k s ks => fun h => by
    simp only [shape] at h
    simp only [norm, shape]
    by_cases h12 : k = 1 ∨ k = 2
    · rw [if_pos h12] at h ⊢
      have h7 : ¬ k = 7 := by omega
      rw [if_neg h7]
      rw [normAll_map, List.length_map]; exact h
    · rw [if_neg h12] at h ⊢
      simp only [Bool.and_eq_true] at h ⊢
      obtain ⟨⟨hh, he⟩, hk⟩ := h
      have hk' := shape_normAll ks hk
      have hh' : headOk k (normAll ks) = true := by rw [normAll_map, headOk_map norm atom_norm]; exact hh
      by_cases h7 : k = 7
      · subst h7
        rw [if_pos rfl]
        refine ⟨⟨by rw [headOk_perm (isort_perm _)]; exact hh', he⟩, ?_⟩
        rw [shapeAll_iff] at hk' ⊢
        exact fun t ht => hk' t ((isort_perm _).mem_iff.1 ht)
      · rw [if_neg h7]; exact ⟨⟨hh', he⟩, hk'⟩
theorem shape_normAll : ∀ l : List T, shapeAll l = true → shapeAll (normAll l) = true
  | [] => fun _ => rfl
  | t :: r => fun h => by
    simp only [shapeAll, normAll, Bool.and_eq_true] at h ⊢
    exact ⟨shape_norm t h.1, shape_normAll r h.2⟩
end
mutual
theorem shape_turn : ∀ t : T, t.shape = true → t.turn.shape = true
  | .mk k s ks => fun h => by
    simp only [shape] at h
    simp only [turn, shape]
    by_cases h12 : k = 1 ∨ k = 2
    · rw [if_pos h12] at h ⊢
      have h7 : ¬ k = 7 := by omega
      rw [if_neg h7]
      rw [turnAll_map, List.length_map]; exact h
    · rw [if_neg h12] at h ⊢
      simp only [Bool.and_eq_true] at h ⊢
      obtain ⟨⟨hh, he⟩, hk⟩ := h
      by_cases h7 : k = 7
      · subst h7
        rw [if_pos rfl]
        refine ⟨⟨by rw [headOk_perm (List.reverse_perm _)]; exact hh, he⟩, ?_⟩
        rw [shapeAll_iff] at hk ⊢
        exact fun t ht => hk t (List.mem_reverse.1 ht)
      · rw [if_neg h7]
        refine ⟨⟨by rw [turnAll_map, headOk_map turn atom_turn]; exact hh, he⟩, shape_turnAll ks hk⟩
theorem shape_turnAll : ∀ l : List T, shapeAll l = true → shapeAll (turnAll l) = true
  | [] => fun _ => rfl
  | t :: r => fun h => by
    simp only [shapeAll, turnAll, Bool.and_eq_true] at h ⊢
    exact ⟨shape_turn t h.1, shape_turnAll r h.2⟩
end
theorem valid_norm (t : T) (h : t.valid = true) : t.norm.valid = true := by
  unfold valid at *
  rw [Bool.and_eq_true] at *
  exact ⟨by rw [size_norm]; exact h.1, shape_norm t h.2⟩
end T
end Go.Proofs.YtihbmgkbipeakaaGreat

namespace Go.Proofs.YtihbmgkbipeakaaGreat
open Go.RowKit

/-- A slice value's first m elements are these cells. -/
def Src (w : World) (size : Nat) (A : Option Addr) (m : Nat) (xs : List Value) : Prop :=
  xs.length = m * size ∧ (m = 0 ∨ ∃ g off, A = some ⟨g, off, none⟩ ∧ ∀ j u, xs[j]? = some u → w.cell? ⟨g, off + j, none⟩ = some u)
theorem Src.keep {w w' : World} {size m : Nat} {A : Option Addr} {xs : List Value} (h : Src w size A m xs) (hk : ∀ p : Addr, (w.cell? p).isSome = true → some p.block = A.map (·.block) → w'.cell? p = w.cell? p) : Src w' size A m xs := by
  refine ⟨h.1, ?_⟩
  rcases h.2 with h0 | ⟨g, off, rfl, hc⟩
  · exact .inl h0
  · exact .inr ⟨g, off, rfl, fun j u hu => (hk ⟨g, off + j, none⟩ (by rw [hc j u hu]; rfl) rfl).trans (hc j u hu)⟩
theorem Src.later {w w' : World} {size m : Nat} {A : Option Addr} {xs : List Value} (h : Src w size A m xs) (hb : Below w.heap.size w w') : Src w' size A m xs :=
  h.keep fun p hp _ => by
    obtain ⟨v, hv⟩ := Option.isSome_iff_exists.1 hp
    rw [hv]; exact cell_later hb hv
theorem Src.grown {w w' : World} {size m : Nat} {A : Option Addr} {xs : List Value} {row : Option Nat} (h : Src w size A m xs) (hg : w.grownBy w' row) (hr : A.map (·.block) ≠ row ∨ row = none) : Src w' size A m xs :=
  h.keep fun p hp hpA => by
    obtain ⟨v, hv⟩ := Option.isSome_iff_exists.1 hp
    rw [hv]; refine hg.cell hv (fun e => ?_)
    rcases hr with hr | hr
    · exact hr (by rw [← hpA, e])
    · rw [hr] at e; cases e
theorem Src.none_ (w : World) (size : Nat) (A : Option Addr) : Src w size A 0 [] := ⟨by simp, .inl rfl⟩
theorem Src.of_own {w : World} {base : Nat} {e : TypeId} {size n c : Nat} {A : Option Addr} {xs : List Value} (h : w.ownsRow base e size (.slice A n c) n xs) : Src w size A n xs := by
  refine ⟨h.1, ?_⟩
  rcases h.2 with ⟨_, h0⟩ | ⟨g, cap, cur, hv, _⟩
  · exact .inl h0
  · right
    have hA : A = some ⟨g, 0, none⟩ := by injection hv
    subst hA
    refine ⟨g, 0, rfl, fun j u hu => ?_⟩
    have := h.cells (g := g) rfl j u hu
    rw [Go.WideShapes.add_plain] at this
    exact this
/-- What a cut leaves. -/
theorem Src.cut {w : World} {size n k cap : Nat} {A : Option Addr} {xs : List Value} (h : Src w size A n xs) (hk : k ≤ n) (hc : n ≤ cap) : Src w size (if cap = k then A else A.map (·.add (k * size))) (n - k) (xs.drop (k * size)) := by
  refine ⟨by rw [List.length_drop, h.1, Nat.sub_mul], ?_⟩
  rcases Nat.eq_zero_or_pos (n - k) with h0 | h0
  · exact .inl h0
  · rcases h.2 with hn | ⟨g, off, rfl, hcell⟩
    · omega
    · right
      rw [if_neg (by omega)]
      refine ⟨g, off + k * size, by simp [Go.WideShapes.add_plain], fun j u hu => ?_⟩
      rw [List.getElem?_drop] at hu
      have := hcell _ u hu
      rw [← Nat.add_assoc] at this
      exact this
section
variable {P : Program} (w : World)
theorem run_append_src (base : Nat) (t ty e : TypeId) (i : TypeInfo) (z : Value) (size bytes : Nat) (ht : P.underlying t = some (.slice e)) (hi : P.info? e = some i) (hz : i.zero = some z)
    (hsize : i.size = size) (hby : i.bytes = bytes) (hzs : z.cells.size = size) (hsz : 0 < size)
    (v : Value) (n : Nat) (xs : List Value) (hown : w.ownsRow base e size v n xs)
    (A : Option Addr) (m c : Nat) (news : List Value) (hr : Src w size A m news) (h1 : ∀ u ∈ news, u.oneCell' = true)
    (h63 : n + m ≤ maxLen) (hbytes : (n + m) * bytes ≤ 140737488355328) (hbase : base ≤ w.heap.size) :
    ∃ A' c' w', (Builtin.append_ #[t, t] ty #[v, .slice A m c]).run P w = .ok (.slice A' (n + m) c') w' ∧ w'.ownsRow base e size (.slice A' (n + m) c') (n + m) (xs ++ news) ∧ w.grownBy w' v.ownBlock ∧
      (A'.map (·.block) = v.ownBlock ∨ A'.map (·.block) = some w.heap.size) := by
  have hform : ∀ {w' : World} {v' : Value} {n' : Nat} {ys : List Value}, w'.ownsRow base e size v' n' ys → ∃ A' c', v' = .slice A' n' c' ∧ v'.ownBlock = A'.map (·.block) := by
    intro w' v' n' ys h
    rcases h.2 with ⟨rfl, rfl⟩ | ⟨g, cap, cur, rfl, _⟩
    · exact ⟨none, 0, rfl, rfl⟩
    · exact ⟨_, cap, rfl, rfl⟩
  rcases A with _ | ad
  · have hm : m = 0 := by 
      rcases hr.2 with h0 | ⟨g, off, h, _⟩
      · exact h0
      · cases h
    subst hm
    have hn : news = [] := List.eq_nil_of_length_eq_zero (by simpa using hr.1)
    subst hn
    obtain ⟨A', c', hv, hb⟩ := hform hown
    refine ⟨A', c', w, ?_, by rw [Nat.add_zero, List.append_nil]; exact hv ▸ hown, ⟨rfl, rfl, rfl, Nat.le_refl _, fun _ _ _ => rfl⟩, .inl hb.symm⟩
    rw [Nat.add_zero, ← hv]
    rcases hown.2 with ⟨rfl, rfl⟩ | ⟨g, cap, cur, rfl, _, _, hnc, _⟩
    · simp [Builtin.append_, run_underlying ht, sizeOf, typeInfo, hi, Builtin.lenOf, Builtin.firstCells]
    · simp [Builtin.append_, run_underlying ht, sizeOf, typeInfo, hi, Builtin.lenOf, Builtin.firstCells, hnc, storeCells]
  · have hcells : ∀ j u, news[j]? = some u → w.cell? (ad.add j) = some u := by
      intro j u hu
      rcases hr.2 with h0 | ⟨g, off, h, hc⟩
      · subst h0
        have hn : news = [] := List.eq_nil_of_length_eq_zero (by simpa using hr.1)
        subst hn; simp at hu
      · injection h with h; subst h
        rw [Go.WideShapes.add_plain]; exact hc j u hu
    obtain ⟨v', w', hrun, h2, h3, _, h5⟩ := run_append_own_at (P := P) w base t ty e i z size bytes ht hi hz hsize hby hzs hsz v n xs hown ad m c news hr.1 hcells h1 h63 hbytes hbase
    obtain ⟨A', c', rfl, hb⟩ := hform h2
    exact ⟨A', c', w', hrun, h2, h3, by rw [← hb]; exact h5⟩
theorem wp_append_src {o : Oper} {a : Act} {K : Act → World → Prop} {Q : Exit → Act → World → Prop} (s x : Operand) (t : TypeId)
    (ho : o.op = .call { callee := .builtin .append, args := #[s, x], argTypes := #[t, t] })
    (base : Nat) (e : TypeId) (i : TypeInfo) (z : Value) (size bytes : Nat) (ht : P.underlying t = some (.slice e)) (hi : P.info? e = some i) (hz : i.zero = some z)
    (hsize : i.size = size) (hby : i.bytes = bytes) (hzs : z.cells.size = size) (hsz : 0 < size)
    (v : Value) (n : Nat) (xs : List Value) (hs : a.eval s = v) (hown : w.ownsRow base e size v n xs)
    (A : Option Addr) (m c : Nat) (news : List Value) (hx : a.eval x = .slice A m c) (hr : Src w size A m news) (h1 : ∀ u ∈ news, u.oneCell' = true)
    (h63 : n + m ≤ maxLen) (hbytes : (n + m) * bytes ≤ 140737488355328) (hbase : base ≤ w.heap.size)
    (h : ∀ A' c' w', w'.ownsRow base e size (.slice A' (n + m) c') (n + m) (xs ++ news) → w.grownBy w' v.ownBlock → (A'.map (·.block) = v.ownBlock ∨ A'.map (·.block) = some w.heap.size) → K (a.put o.dst (.slice A' (n + m) c')) w') : o.wp P a w K Q := by
  obtain ⟨A', c', w', hrun, h2, h3, h4⟩ := run_append_src (P := P) w base t o.type e i z size bytes ht hi hz hsize hby hzs hsz v n xs hown A m c news hr h1 h63 hbytes hbase
  unfold Oper.wp execOp
  simp only [ho, resolve, invoke, builtin, Sem.run_bind, Sem.run_pure, Result.andThen_ok, List.map_toArray, List.map_cons, List.map_nil, hs, hx, hrun]
  exact h A' c' w' h2 h3 h4
theorem wpList_append_src {ops : Array Oper} {rest : List Oper} {o : Oper} {a : Act} {Q : Exit → Act → World → Prop} (hgd : o.guard = none) (s x : Operand) (t : TypeId)
    (ho : o.op = .call { callee := .builtin .append, args := #[s, x], argTypes := #[t, t] })
    (base : Nat) (e : TypeId) (i : TypeInfo) (z : Value) (size bytes : Nat) (ht : P.underlying t = some (.slice e)) (hi : P.info? e = some i) (hz : i.zero = some z)
    (hsize : i.size = size) (hby : i.bytes = bytes) (hzs : z.cells.size = size) (hsz : 0 < size)
    (v : Value) (n : Nat) (xs : List Value) (hs : a.eval s = v) (hown : w.ownsRow base e size v n xs)
    (A : Option Addr) (m c : Nat) (news : List Value) (hx : a.eval x = .slice A m c) (hr : Src w size A m news) (h1 : ∀ u ∈ news, u.oneCell' = true)
    (h63 : n + m ≤ maxLen) (hbytes : (n + m) * bytes ≤ 140737488355328) (hbase : base ≤ w.heap.size)
    (h : ∀ A' c' w', w'.ownsRow base e size (.slice A' (n + m) c') (n + m) (xs ++ news) → w.grownBy w' v.ownBlock → (A'.map (·.block) = v.ownBlock ∨ A'.map (·.block) = some w.heap.size) → wpList P ops Q rest (a.put o.dst (.slice A' (n + m) c')) w') : wpList P ops Q (o :: rest) a w :=
  wpList_plain hgd fun _ hK => wp_append_src w s x t ho base e i z size bytes ht hi hz hsize hby hzs hsz v n xs hs hown A m c news hx hr h1 h63 hbytes hbase fun A' c' w' h2 h3 h4 => hK _ _ (h A' c' w' h2 h3 h4)
theorem step_append_src {ops : Array Oper} {o : Oper} {a : Act} {K : Act → World → Prop} {Q : Exit → Act → World → Prop} {E : Prop} (hgd : o.guard = none) (s x : Operand) (t : TypeId)
    (ho : o.op = .call { callee := .builtin .append, args := #[s, x], argTypes := #[t, t] })
    (base : Nat) (e : TypeId) (i : TypeInfo) (z : Value) (size bytes : Nat) (ht : P.underlying t = some (.slice e)) (hi : P.info? e = some i) (hz : i.zero = some z)
    (hsize : i.size = size) (hby : i.bytes = bytes) (hzs : z.cells.size = size) (hsz : 0 < size)
    (v : Value) (n : Nat) (xs : List Value) (hs : a.eval s = v) (hown : w.ownsRow base e size v n xs)
    (A : Option Addr) (m c : Nat) (news : List Value) (hx : a.eval x = .slice A m c) (hr : Src w size A m news) (h1 : ∀ u ∈ news, u.oneCell' = true)
    (h63 : n + m ≤ maxLen) (hbytes : (n + m) * bytes ≤ 140737488355328) (hbase : base ≤ w.heap.size)
    (h : ∀ A' c' w', w'.ownsRow base e size (.slice A' (n + m) c') (n + m) (xs ++ news) → w.grownBy w' v.ownBlock → (A'.map (·.block) = v.ownBlock ∨ A'.map (·.block) = some w.heap.size) → K (a.put o.dst (.slice A' (n + m) c')) w') :
    if Region.wanted o (yielded ops a.tmps) = true then Oper.wp P o a w K Q else E := by
  have hw : Region.wanted o (yielded ops a.tmps) = true := by simp [Region.wanted, hgd]
  rw [if_pos hw]
  exact wp_append_src w s x t ho base e i z size bytes ht hi hz hsize hby hzs hsz v n xs hs hown A m c news hx hr h1 h63 hbytes hbase h
end
end Go.Proofs.YtihbmgkbipeakaaGreat
