/- Chapter 42, several texts in one: Chapter 42: a move made of a text: the walk of the program's move. Chapter 42: moves and strands that lie in certain blocks; rows of moves that a call makes. Chapter 42: a strand made of texts: the walk of the program's strand. -/
import Derived.Test.YtihbmgkbipeakaaGreatStrValid
import Derived.Test.YtihbmgkbipeakaaGreatTermPParse
import Derived.Test.YtihbmgkbipeakaaGreatTermArr
import Derived.Test.YtihbmgkbipeakaaGreatShelf
import Derived.IntWalk
namespace Go.Proofs.YtihbmgkbipeakaaGreat
open Go.RowKit

/-- A box of four cells: a move. -/
def Box4 (w : World) (g : Nat) (a b c d : Value) : Prop := w.heap[g]? = some (.cells #[a, b, c, d] 52)
theorem Box4.lt {w : World} {g : Nat} {a b c d : Value} (h : Box4 w g a b c d) : g < w.heap.size := (Array.getElem?_eq_some_iff.1 h).1
theorem Box4.cells {w : World} {g : Nat} {a b c d : Value} (h : Box4 w g a b c d) : w.cell? ⟨g, 0, none⟩ = some a ∧ w.cell? ⟨g, 1, none⟩ = some b ∧ w.cell? ⟨g, 2, none⟩ = some c ∧ w.cell? ⟨g, 3, none⟩ = some d := by
  unfold Box4 at h
  refine ⟨?_, ?_, ?_, ?_⟩ <;> simp [World.cell?, h]
theorem Box4.free {w : World} {g : Nat} {a b c d : Value} (h : Box4 w g a b c d) : w.frozen? ⟨g, 0, none⟩ = false ∧ w.frozen? ⟨g, 1, none⟩ = false ∧ w.frozen? ⟨g, 2, none⟩ = false ∧ w.frozen? ⟨g, 3, none⟩ = false := by
  unfold Box4 at h
  refine ⟨?_, ?_, ?_, ?_⟩ <;> simp [World.frozen?, h]
theorem Box4.later {w w' : World} {g : Nat} {a b c d : Value} (h : Box4 w g a b c d) (hb : Below w.heap.size w w') : Box4 w' g a b c d := (hb.block g h.lt).trans h
theorem box_set4 {w : World} {g : Nat} {a b c d : Value} (h : Box4 w g a b c d) (x y z u : Value) : Box4 ((((w.setCell ⟨g, 0, none⟩ x).setCell ⟨g, 1, none⟩ y).setCell ⟨g, 2, none⟩ z).setCell ⟨g, 3, none⟩ u) g x y z u := by
  unfold Box4 at *
  simp [World.setCell, Array.getElem?_modify, h]
theorem set4_other (w : World) (g : Nat) (x y z u : Value) (b : Nat) (hb : b ≠ g) : ((((w.setCell ⟨g, 0, none⟩ x).setCell ⟨g, 1, none⟩ y).setCell ⟨g, 2, none⟩ z).setCell ⟨g, 3, none⟩ u).heap[b]? = w.heap[b]? := by
  rw [Below.heap_setCell _ _ _ _ (by show b ≠ g; exact hb), Below.heap_setCell _ _ _ _ (by show b ≠ g; exact hb), Below.heap_setCell _ _ _ _ (by show b ≠ g; exact hb), Below.heap_setCell _ _ _ _ (by show b ≠ g; exact hb)]
/-- A move in new memory. -/
def MovePost (k : Int) (t : T) (w : World) (e : Ending) (w' : World) : Prop := ∃ A c, e = .returned (.agg #[.int .i64 k, .int .i64 t.kind, .string t.name, .slice A t.kids.length c]) ∧
  TermIn (from_ w.heap.size) w' (.agg #[.int .i64 t.kind, .string t.name, .slice A t.kids.length c]) t ∧ Below w.heap.size w w'

set_option maxRecDepth 100000 in
set_option maxHeartbeats 4000000 in
theorem omove (k : Int) (s : ByteArray) (w : World) :
    Calls Tryz.prog 71 #[.int .i64 k, .string s] w (MovePost k (T.parse s).1 w) := by
  have hb0 : Box4 (w.alloc (.cells #[.int .i64 0, .int .i64 0, .string ⟨#[]⟩, .slice none 0 0] 52)) w.heap.size (.int .i64 0) (.int .i64 0) (.string ⟨#[]⟩) (.slice none 0 0) := heap_alloc_new w _
  have hw := below_alloc1 w (.cells #[.int .i64 0, .int .i64 0, .string ⟨#[]⟩, .slice none 0 0] 52)
  have hz := size_alloc1 w (.cells #[.int .i64 0, .int .i64 0, .string ⟨#[]⟩, .slice none 0 0] 52)
  have HP := Lib.hid (fun W => oparse s W)
  obtain ⟨p, hp⟩ : ∃ p, T.parse s = p := ⟨_, rfl⟩
  rw [hp] at HP ⊢
  clear hp
  obtain ⟨t, i, c⟩ := p
  go_enter Tryz.func71, Tryz.ntmps71
  go_upto_region 1 with fail
  generalize w.alloc (.cells #[.int .i64 0, .int .i64 0, .string ⟨#[]⟩, .slice none 0 0] 52) = w1 at hb0 hw hz ⊢
  have HB0 := Lib.hid hb0; have HW := Lib.hid hw; have HZ := Lib.hid hz
  clear hb0 hw hz
  go_wp2_with fail
  refine (HP.out _).mono ?_; rintro e w2 ⟨A2, C2, rfl, ht2, hb2⟩
  dsimp only at ht2 ⊢
  have HT2 := Lib.hid (ht2.keep (w' := w2) (S' := from_ (w.heap.size + 1)) fun b hb _ => ⟨decide_eq_true (by have := of_decide_eq_true hb; have := HZ.out; omega), rfl⟩)
  have HB2 := Lib.hid (HB0.out.later hb2); have HW2 := Lib.hid (HW.out.trans (hb2.mono HW.out.size))
  clear ht2 hb2
  go_upto_region 2 with fail
  have hx := Box.new w2 (.int .i64 t.kind) (.string t.name) (.slice A2 t.kids.length C2)
  have hw3 := below_alloc1 w2 (.cells #[.int .i64 t.kind, .string t.name, .slice A2 t.kids.length C2] 29)
  have HB3 := Lib.hid (HB2.out.later hw3); have HW3 := Lib.hid (HW2.out.trans (hw3.mono HW2.out.size))
  have HT3 := Lib.hid (HT2.out.keep (S' := from_ (w.heap.size + 1)) fun b hb hl => ⟨hb, hw3.block b hl⟩)
  generalize w2.alloc (.cells #[.int .i64 t.kind, .string t.name, .slice A2 t.kids.length C2] 29) = w3 at hx HB3 HW3 HT3 ⊢
  obtain ⟨x0, x1, x2⟩ := hx.cells
  obtain ⟨y0, y1, y2, y3⟩ := HB3.out.cells
  obtain ⟨f0, f1, f2, f3⟩ := HB3.out.free
  clear hx hw3
  go_wp2_with fail
  obtain ⟨d0, d1, d2, d3⟩ := (box_set4 HB3.out (.int .i64 k) (.int .i64 t.kind) (.string t.name) (.slice A2 t.kids.length C2)).cells
  refine bodyPost_ret (v := .agg #[.int .i64 k, .int .i64 t.kind, .string t.name, .slice A2 t.kids.length C2]) (by simp [results, Tryz.results71, go_sem, d0, d1, d2, d3]) rfl ?_
  refine ⟨A2, C2, rfl, HT3.out.keep fun b hb _ => ?_, ?_⟩
  · have := of_decide_eq_true hb
    exact ⟨decide_eq_true (by omega), set4_other _ _ _ _ _ _ _ (by omega)⟩
  · exact (((HW3.out.setCell (Nat.le_refl _) _).setCell (Nat.le_refl _) _).setCell (Nat.le_refl _) _).setCell (Nat.le_refl _) _
end Go.Proofs.YtihbmgkbipeakaaGreat

namespace Go.Proofs.YtihbmgkbipeakaaGreat
open Go.RowKit

theorem MovesAt.keep {w w' : World} {A : Option Addr} {ms : List (Int × T)} (h : MovesAt w A ms) (hk : ∀ p : Addr, (w.cell? p).isSome = true → w'.cell? p = w.cell? p) : MovesAt w' A ms := by
  rcases h with h | ⟨b, off, e, hc⟩
  · exact .inl h
  · refine .inr ⟨b, off, e, fun i hi => ?_⟩
    obtain ⟨A', c', h0, h1, h2, h3, h4, h5⟩ := hc i hi
    have key : ∀ {p : Addr} {v : Value}, w.cell? p = some v → w'.cell? p = some v := fun {p v} hp => (hk p (by rw [hp]; rfl)).trans hp
    exact ⟨A', c', key h0, key h1, key h2, key h3, h4.keep hk, h5⟩
/-- Moves all of whose memory lies in certain blocks. -/
def MovesIn (S : Nat → Bool) (w : World) (A : Option Addr) (ms : List (Int × T)) : Prop := MovesAt (only w S) A ms
theorem MovesIn.at {S : Nat → Bool} {w : World} {A : Option Addr} {ms : List (Int × T)} (h : MovesIn S w A ms) : MovesAt w A ms :=
  MovesAt.keep h fun p hp => by
    rw [cell_only] at hp ⊢
    split at hp
    · rename_i hS; rw [if_pos hS]
    · cases hp
theorem MovesIn.keep {S S' : Nat → Bool} {w w' : World} {A : Option Addr} {ms : List (Int × T)} (h : MovesIn S w A ms) (hk : ∀ b, S b = true → b < w.heap.size → S' b = true ∧ w'.heap[b]? = w.heap[b]?) : MovesIn S' w' A ms :=
  MovesAt.keep h fun p hp => by
    rw [cell_only] at hp
    rw [cell_only, cell_only]
    split at hp
    · rename_i hS
      obtain ⟨v, hv⟩ := Option.isSome_iff_exists.1 hp
      obtain ⟨h1, h2⟩ := hk _ hS (World.block_lt_of_cell? w p hv)
      rw [if_pos hS, if_pos h1]; exact World.cell?_of_block h2
    · cases hp

/-- Block g is a row of cap moves, of which the first ones are these; their terms lie outside that block, from base on. -/
def RowM (w : World) (base g cap : Nat) (L : List (Int × T)) : Prop :=
  ∃ cur : Array Value, w.heap[g]? = some (.cells cur 52 (0, 0)) ∧ cur.size = cap * 4 ∧ L.length ≤ cap ∧ cap ≤ maxLen ∧ base ≤ g ∧
    ∀ i (h : i < L.length), ∃ u0 u1 u2, cur[i * 4]? = some (.int .i64 L[i].1) ∧ cur[i * 4 + 1]? = some u0 ∧ cur[i * 4 + 2]? = some u1 ∧ cur[i * 4 + 3]? = some u2 ∧ TermIn (but base (some g)) w (.agg #[u0, u1, u2]) L[i].2 ∧ -9223372036854775808 ≤ L[i].1 ∧ L[i].1 ≤ 9223372036854775807
def MovesRow (w : World) (base : Nat) (v : Value) (L : List (Int × T)) : Prop :=
  (v = .slice none 0 0 ∧ L = []) ∨ ∃ g cap, v = .slice (some ⟨g, 0, none⟩) L.length cap ∧ RowM w base g cap L
theorem MovesRow.nil (w : World) (base : Nat) : MovesRow w base (.slice none 0 0) [] := .inl ⟨rfl, rfl⟩
theorem RowM.keep {w w' : World} {base g cap : Nat} {L : List (Int × T)} (h : RowM w base g cap L) (hk : ∀ b, base ≤ b → b < w.heap.size → w'.heap[b]? = w.heap[b]?) : RowM w' base g cap L := by
  obtain ⟨cur, h1, h2, h3, h4, h5, h6⟩ := h
  refine ⟨cur, ?_, h2, h3, h4, h5, fun i hi => ?_⟩
  · rw [hk g h5 (Array.getElem?_eq_some_iff.1 h1).1]; exact h1
  · obtain ⟨u0, u1, u2, a0, a, b, c, d, e⟩ := h6 i hi
    exact ⟨u0, u1, u2, a0, a, b, c, d.keep fun b hb hl => ⟨hb, hk b (but_iff.1 hb).1 hl⟩, e⟩
theorem MovesRow.keep {w w' : World} {base : Nat} {v : Value} {L : List (Int × T)} (h : MovesRow w base v L) (hk : ∀ b, base ≤ b → b < w.heap.size → w'.heap[b]? = w.heap[b]?) : MovesRow w' base v L := by
  rcases h with h | ⟨g, cap, rfl, h⟩
  · exact .inl h
  · exact .inr ⟨g, cap, rfl, h.keep hk⟩
theorem MovesRow.later {w w' : World} {base : Nat} {v : Value} {L : List (Int × T)} (h : MovesRow w base v L) (hb : Below w.heap.size w w') : MovesRow w' base v L := h.keep fun b _ hl => hb.block b hl
theorem MovesRow.shape {w : World} {base : Nat} {v : Value} {L : List (Int × T)} (h : MovesRow w base v L) : ∃ A cap, v = .slice A L.length cap ∧ L.length ≤ cap ∧ cap ≤ maxLen := by
  rcases h with ⟨rfl, rfl⟩ | ⟨g, cap, rfl, cur, _, _, h3, h4, _⟩
  · exact ⟨none, 0, rfl, Nat.le_refl _, Nat.zero_le _⟩
  · exact ⟨_, cap, rfl, h3, h4⟩
theorem MovesRow.block {w : World} {base : Nat} {v : Value} {L : List (Int × T)} (h : MovesRow w base v L) : ∀ k, v.ownBlock = some k → base ≤ k ∧ k < w.heap.size := by
  intro k hk
  rcases h with ⟨rfl, rfl⟩ | ⟨g, cap, rfl, cur, h1, _, _, _, h5, _⟩
  · cases hk
  · injection hk with hk
    subst hk
    exact ⟨h5, (Array.getElem?_eq_some_iff.1 h1).1⟩
/-- The row as the moves of a strand. -/
theorem MovesRow.moves {w : World} {base : Nat} {v : Value} {L : List (Int × T)} (h : MovesRow w base v L) :
    ∃ A cap, v = .slice A L.length cap ∧ MovesIn (from_ base) w A L := by
  rcases h with ⟨rfl, rfl⟩ | ⟨g, cap, rfl, cur, h1, h2, h3, h4, h5, h6⟩
  · exact ⟨none, 0, rfl, .inl rfl⟩
  · have hc : ∀ j u, cur[j]? = some u → (only w (from_ base)).cell? ⟨g, j, none⟩ = some u := fun j u hu => by
      rw [cell_only, if_pos (by unfold from_; exact decide_eq_true h5)]
      simp [World.cell?, h1, hu]
    refine ⟨_, cap, rfl, .inr ⟨g, 0, rfl, fun i hi => ?_⟩⟩
    obtain ⟨u0, u1, u2, a0, a, b, c, d, e⟩ := h6 i hi
    obtain ⟨A', c', hv⟩ := d.view
    simp only [Value.agg.injEq, Array.mk.injEq, List.cons.injEq, and_true] at hv
    obtain ⟨rfl, rfl, rfl⟩ := hv
    simp only [Nat.zero_add]
    exact ⟨A', c', hc _ _ a0, hc _ _ a, hc _ _ b, hc _ _ c, d.keep (S' := from_ base) fun b hb _ => ⟨decide_eq_true (but_iff.1 hb).1, rfl⟩, e⟩
/-- What the library's laws on append want of it. -/
theorem MovesRow.owns {w : World} {base : Nat} {v : Value} {L : List (Int × T)} (h : MovesRow w base v L) : ∃ xs, w.ownsRow base 52 4 v L.length xs ∧
    (∀ i (h : i < L.length), ∃ u0 u1 u2, xs[i * 4]? = some (.int .i64 L[i].1) ∧ xs[i * 4 + 1]? = some u0 ∧ xs[i * 4 + 2]? = some u1 ∧ xs[i * 4 + 3]? = some u2 ∧ TermIn (but base v.ownBlock) w (.agg #[u0, u1, u2]) L[i].2 ∧ -9223372036854775808 ≤ L[i].1 ∧ L[i].1 ≤ 9223372036854775807) := by
  rcases h with ⟨rfl, rfl⟩ | ⟨g, cap, rfl, cur, h1, h2, h3, h4, h5, h6⟩
  · exact ⟨[], World.ownsRow_nil _ _ _ _, fun i h => by simp at h⟩
  · refine ⟨cur.toList.take (L.length * 4), ⟨?_, .inr ⟨g, cap, cur, rfl, h5, h1, h3, h4, h2, rfl⟩⟩, fun i hi => ?_⟩
    · have hsz : cur.toList.length = cap * 4 := by simpa using h2
      rw [List.length_take]; exact Nat.min_eq_left (by omega)
    · obtain ⟨u0, u1, u2, a0, a, b, c, d, e⟩ := h6 i hi
      refine ⟨u0, u1, u2, ?_, ?_, ?_, ?_, d, e⟩
      all_goals rw [List.getElem?_take, if_pos (by omega)]; simpa
/-- Behind an append of one move. -/
theorem MovesRow.snoc {w w' : World} {base g cap H : Nat} {v : Value} {L : List (Int × T)} {xs : List Value} {u0 u1 u2 : Value} {k : Int} {t : T}
    (hx : ∀ i (h : i < L.length), ∃ u0 u1 u2, xs[i * 4]? = some (.int .i64 L[i].1) ∧ xs[i * 4 + 1]? = some u0 ∧ xs[i * 4 + 2]? = some u1 ∧ xs[i * 4 + 3]? = some u2 ∧ TermIn (but base v.ownBlock) w (.agg #[u0, u1, u2]) L[i].2 ∧ -9223372036854775808 ≤ L[i].1 ∧ L[i].1 ≤ 9223372036854775807) (hl : xs.length = L.length * 4)
    (ht : TermIn (but base v.ownBlock) w (.agg #[u0, u1, u2]) t) (hk : -9223372036854775808 ≤ k ∧ k ≤ 9223372036854775807)
    (hown : w'.ownsRow base 52 4 (.slice (some ⟨g, 0, none⟩) (L.length + 1) cap) (L.length + 1) (xs ++ [.int .i64 k, u0, u1, u2])) (hgrow : w.grownBy w' v.ownBlock) (hat : v.ownBlock = some g ∨ g = H) (hH : w.heap.size = H) :
    MovesRow w' base (.slice (some ⟨g, 0, none⟩) (L.length + 1) cap) (L ++ [(k, t)]) := by
  have hgf : ∀ b, but base v.ownBlock b = true → b < w.heap.size → but base (some g) b = true ∧ w'.heap[b]? = w.heap[b]? := fun b hb hbl => by
    obtain ⟨h1, h2⟩ := but_iff.1 hb
    refine ⟨but_iff.2 ⟨h1, fun e => ?_⟩, hgrow.block b hbl (fun e => h2 e.symm)⟩
    injection e with e; subst e
    rcases hat with h | h
    · exact h2 h
    · omega
  obtain ⟨hlen, hc⟩ := hown
  rcases hc with ⟨h, _⟩ | ⟨g', cap', cur, hv', h5, h1, h3, h4, h2, htake⟩
  · cases h
  · simp only [Value.slice.injEq, Option.some.injEq, Addr.mk.injEq, and_true, true_and] at hv'
    obtain ⟨rfl, rfl⟩ := hv'
    have hcur : ∀ j u, (xs ++ [.int .i64 k, u0, u1, u2])[j]? = some u → cur[j]? = some u := fun j u hu => by
      rw [← htake, List.getElem?_take] at hu
      split at hu
      · simpa using hu
      · cases hu
    refine .inr ⟨g, cap, by rw [List.length_append]; rfl, cur, h1, h2, by rw [List.length_append]; exact h3, h4, h5, fun i hi => ?_⟩
    rcases Nat.lt_or_ge i L.length with g1 | g1
    · obtain ⟨a0, a1, a2, b4, b0, b1, b2, b3, b5⟩ := hx i g1
      refine ⟨a0, a1, a2, hcur _ _ ?_, hcur _ _ ?_, hcur _ _ ?_, hcur _ _ ?_, ?_, ?_⟩
      · rw [List.getElem?_append_left (by omega), List.getElem_append_left g1]; exact b4
      · rw [List.getElem?_append_left (by omega)]; exact b0
      · rw [List.getElem?_append_left (by omega)]; exact b1
      · rw [List.getElem?_append_left (by omega)]; exact b2
      · rw [List.getElem_append_left g1]; exact b3.keep hgf
      · rw [List.getElem_append_left g1]; exact b5
    · have hi' : i = L.length := by simp at hi; omega
      subst hi'
      refine ⟨u0, u1, u2, hcur _ _ ?_, hcur _ _ ?_, hcur _ _ ?_, hcur _ _ ?_, ?_, ?_⟩
      · rw [List.getElem?_append_right (by omega), hl]; simp
      · rw [List.getElem?_append_right (by omega), hl]; simp
      · rw [List.getElem?_append_right (by omega), hl]; simp
      · rw [List.getElem?_append_right (by omega), hl]; simp
      · rw [List.getElem_append_right (Nat.le_refl _)]
        simpa using ht.keep hgf
      · rw [List.getElem_append_right (Nat.le_refl _)]
        simpa using hk
theorem Tryz.infoM : (Tryz.prog.info? 52).map (fun i => (i.zero, i.size, i.bytes)) = some (some (.agg #[.int .i64 0, .int .i64 0, .string ByteArray.empty, .slice none 0 0]), 4, 56) := by kernel_rfl

/-- A strand's value. -/
def StrandIs (S : Nat → Bool) (w : World) (v : Value) (s : ByteArray × List (Int × T)) : Prop := ∃ A c, v = .agg #[.string s.1, .slice A s.2.length c] ∧ MovesIn S w A s.2
theorem StrandIs.keep {S S' : Nat → Bool} {w w' : World} {v : Value} {s : ByteArray × List (Int × T)} (h : StrandIs S w v s) (hk : ∀ b, S b = true → b < w.heap.size → S' b = true ∧ w'.heap[b]? = w.heap[b]?) : StrandIs S' w' v s := by
  obtain ⟨A, c, e, h⟩ := h
  exact ⟨A, c, e, h.keep hk⟩
end Go.Proofs.YtihbmgkbipeakaaGreat

namespace Go.Proofs.YtihbmgkbipeakaaGreat
open Go.RowKit

attribute [local go_sem ↓] Go.wp_at_zero Go.wp_at_succ

/-- The kind of a move by the letter ahead of its term. -/
def kindB (c : UInt8) : Int := if c = 82 then 2 else if c = 67 then 3 else if c = 68 then 4 else 1
theorem kindB_bd (c : UInt8) : 1 ≤ kindB c ∧ kindB c ≤ 4 := by unfold kindB; repeat' split
                                                               all_goals omega
/-- A text that begins with one of four letters, and has two bytes at least. -/
def goodText (x : ByteArray) : Prop := 2 ≤ x.size ∧ (x.data.toList.getD 0 0 = 83 ∨ x.data.toList.getD 0 0 = 82 ∨ x.data.toList.getD 0 0 = 67 ∨ x.data.toList.getD 0 0 = 68)
/-- The move that a text is. -/
def moveOf (x : ByteArray) : Int × T := (kindB (x.data.toList.getD 0 0), (T.parse (x.extract 2 x.size)).1)
theorem first_at (s : ByteArray) (h : 0 < s.size) : s.data.toList.getD 0 0 = s[0] := by
  simp [List.getD, h]; rfl

/-- A strand in a box. -/
def SBox (w : World) (g : Nat) (a b : Value) : Prop := w.heap[g]? = some (.cells #[a, b] 49 (0, 0))
theorem SBox.lt {w : World} {g : Nat} {a b : Value} (h : SBox w g a b) : g < w.heap.size := (Array.getElem?_eq_some_iff.1 h).1
theorem SBox.cells {w : World} {g : Nat} {a b : Value} (h : SBox w g a b) : w.cell? ⟨g, 0, none⟩ = some a ∧ w.cell? ⟨g, 1, none⟩ = some b := by
  unfold SBox at h
  refine ⟨?_, ?_⟩ <;> simp [World.cell?, h]
theorem SBox.free {w : World} {g : Nat} {a b : Value} (h : SBox w g a b) : w.frozen? ⟨g, 0, none⟩ = false ∧ w.frozen? ⟨g, 1, none⟩ = false := by
  unfold SBox at h
  refine ⟨?_, ?_⟩ <;> simp [World.frozen?, h]
theorem SBox.later {w w' : World} {g : Nat} {a b : Value} (h : SBox w g a b) (hb : Below w.heap.size w w') : SBox w' g a b := (hb.block g h.lt).trans h
theorem SBox.grown {w w' : World} {g : Nat} {a b : Value} {row : Option Nat} (h : SBox w g a b) (hg : w.grownBy w' row) (hr : row ≠ some g) : SBox w' g a b := (hg.block g h.lt (fun e => hr e.symm)).trans h
theorem SBox.new (w : World) (a b : Value) : SBox (w.alloc (.cells #[a, b] 49)) w.heap.size a b := heap_alloc_new w _
theorem SBox.set1 {w : World} {g : Nat} {a b : Value} (h : SBox w g a b) (v : Value) : SBox (w.setCell ⟨g, 1, none⟩ v) g a v := by
  unfold SBox at *
  simp [World.setCell, Array.getElem?_modify, h]
theorem SBox.setOther {w : World} {g : Nat} {a b : Value} (h : SBox w g a b) {p : Addr} (hp : g ≠ p.block) (v : Value) : SBox (w.setCell p v) g a b :=
  (Below.heap_setCell _ _ _ _ hp).trans h
theorem SBox.set2 {w : World} {g : Nat} {a b : Value} (h : SBox w g a b) (x y : Value) : SBox ((w.setCell ⟨g, 0, none⟩ x).setCell ⟨g, 1, none⟩ y) g x y := by
  unfold SBox at *
  simp [World.setCell, Array.getElem?_modify, h]
theorem sset2_other (w : World) (g : Nat) (x y : Value) (k : Nat) (hk : k ≠ g) : ((w.setCell ⟨g, 0, none⟩ x).setCell ⟨g, 1, none⟩ y).heap[k]? = w.heap[k]? := by
  rw [Below.heap_setCell _ _ _ _ hk, Below.heap_setCell _ _ _ _ hk]
theorem sbox_two (w : World) (a b c d : Value) : SBox ((w.alloc (.cells #[a, b] 49)).alloc (.cells #[c, d] 49)) w.heap.size a b ∧
    SBox ((w.alloc (.cells #[a, b] 49)).alloc (.cells #[c, d] 49)) (w.heap.size + 1) c d ∧
    Below w.heap.size w ((w.alloc (.cells #[a, b] 49)).alloc (.cells #[c, d] 49)) ∧
    ((w.alloc (.cells #[a, b] 49)).alloc (.cells #[c, d] 49)).heap.size = w.heap.size + 2 := by
  have h1 := below_alloc1 w (.cells #[a, b] 49)
  have h2 := below_alloc1 (w.alloc (.cells #[a, b] 49)) (.cells #[c, d] 49)
  refine ⟨(SBox.new w a b).later h2, ?_, h1.trans (h2.mono h1.size), by rw [size_alloc1, size_alloc1]⟩
  have := SBox.new (w.alloc (.cells #[a, b] 49)) c d
  rw [size_alloc1] at this; exact this

/-- What the loop of strand has done. -/
def StrAt (w : World) (role : ByteArray) (L : List (Int × T)) (wr : World) : Prop :=
  ∃ kv, SBox wr (w.heap.size + 1) (.string role) kv ∧ SBox wr w.heap.size (.string ⟨#[]⟩) (.slice none 0 0) ∧ MovesRow wr (w.heap.size + 2) kv L ∧ Below w.heap.size w wr ∧ w.heap.size + 2 ≤ wr.heap.size
theorem StrAt.step {w : World} {role : ByteArray} {L : List (Int × T)} {k : Int} {t : T} {wr w3 w4 : World} {kv u0 u1 u2 : Value} {xs : List Value} {g cap : Nat}
    (x : SBox wr (w.heap.size + 1) (.string role) kv) (y : SBox wr w.heap.size (.string ⟨#[]⟩) (.slice none 0 0)) (hrow : MovesRow wr (w.heap.size + 2) kv L) (hb : Below w.heap.size w wr) (hsz : w.heap.size + 2 ≤ wr.heap.size)
    (hx : ∀ i (h : i < L.length), ∃ u0 u1 u2, xs[i * 4]? = some (.int .i64 L[i].1) ∧ xs[i * 4 + 1]? = some u0 ∧ xs[i * 4 + 2]? = some u1 ∧ xs[i * 4 + 3]? = some u2 ∧ TermIn (but (w.heap.size + 2) kv.ownBlock) wr (.agg #[u0, u1, u2]) L[i].2 ∧ -9223372036854775808 ≤ L[i].1 ∧ L[i].1 ≤ 9223372036854775807) (hl : xs.length = L.length * 4)
    (hk : -9223372036854775808 ≤ k ∧ k ≤ 9223372036854775807)
    (hb3 : Below wr.heap.size wr w3) (ht : TermIn (from_ wr.heap.size) w3 (.agg #[u0, u1, u2]) t)
    (hown : w4.ownsRow (w.heap.size + 2) 52 4 (.slice (some ⟨g, 0, none⟩) (L.length + 1) cap) (L.length + 1) (xs ++ [.int .i64 k, u0, u1, u2])) (hgrow : (w3.alloc (.cells #[.int .i64 k, u0, u1, u2] 52)).grownBy w4 kv.ownBlock)
    (hat : kv.ownBlock = some g ∨ g = w3.heap.size + 1) : StrAt w role (L ++ [(k, t)]) (w4.setCell ⟨w.heap.size + 1, 1, none⟩ (.slice (some ⟨g, 0, none⟩) (L.length + 1) cap)) := by
  have hne : ∀ b, b < w.heap.size + 2 → kv.ownBlock ≠ some b := fun b hlt e => by have := (hrow.block b e).1; omega
  have hb3' := hb3.trans ((below_alloc1 w3 (.cells #[.int .i64 k, u0, u1, u2] 52)).mono hb3.size)
  have hbf : Below w.heap.size w w4 := (hb.trans (hb3'.mono (by omega))).grown hgrow (by rw [size_alloc1]; have := hb3.size; omega) (fun k hk => by have := (hrow.block k hk).1; omega)
  refine ⟨_, (((x.later hb3').grown hgrow (hne _ (by omega))).set1 _), ?_, ?_, hbf.setCell (by show w.heap.size ≤ w.heap.size + 1; omega) _, ?_⟩
  · exact ((y.later hb3').grown hgrow (hne _ (by omega))).setOther (by simp) _
  · have h1 := MovesRow.snoc (w := w3.alloc (.cells #[.int .i64 k, u0, u1, u2] 52)) (H := w3.heap.size + 1) (t := t) (fun i hi => by
        obtain ⟨a0, a1, a2, b9, b0, b1, b2, b3, b4⟩ := hx i hi
        exact ⟨a0, a1, a2, b9, b0, b1, b2, b3.keep fun b hb hlt => ⟨hb, hb3'.block b hlt⟩, b4⟩) hl
      (ht.keep fun b hbb hlt => ⟨but_iff.2 ⟨by have := of_decide_eq_true hbb; omega, fun e => by have := (hrow.block b e).2; have := of_decide_eq_true hbb; omega⟩, Below.heap_alloc w3 _ b hlt⟩)
      hk hown hgrow hat (by rw [size_alloc1])
    exact h1.keep fun b hbb _ => Below.heap_setCell _ _ _ _ (by show b ≠ w.heap.size + 1; omega)
  · have := hgrow.size; have := hb3'.size; simp [World.setCell]; omega

theorem move_one {S : Nat → Bool} {w : World} {a b c : Value} {t : T} {k : Int} (h : TermIn S w (.agg #[a, b, c]) t) : ∀ u ∈ [Value.int .i64 k, a, b, c], u.oneCell' = true := by
  intro u hu
  rcases List.mem_cons.1 hu with rfl | hu
  · rfl
  · exact h.one u hu
/-- A strand in new memory. -/
def RetS (s : ByteArray × List (Int × T)) (w : World) (e : Ending) (w' : World) : Prop := ∃ A c, e = .returned (.agg #[.string s.1, .slice A s.2.length c]) ∧ MovesIn (from_ w.heap.size) w' A s.2 ∧ Below w.heap.size w w'

theorem oindex (c : UInt8) (hc : c = 83 ∨ c = 82 ∨ c = 67 ∨ c = 68) (w : World) :
    Calls Tryz.prog 140 #[.string ⟨#[83, 82, 67, 68]⟩, .int .u8 (c.toNat : Int)] w fun e w' => e = .returned (.int .i64 (kindB c - 1)) ∧ w = w' := by
  refine (Tryz.strings_IndexByte _ _ _).mono ?_
  rintro e w' ⟨rfl, hw⟩
  refine ⟨?_, hw.symm⟩
  rcases hc with rfl | rfl | rfl | rfl <;> rfl

set_option maxRecDepth 100000 in
set_option maxHeartbeats 8000000 in
theorem ostrand (role : ByteArray) (ts : List ByteArray) (A : Option Addr) (c : Nat) (w : World) (hl : ts.length ≤ 16) (hA : TextsAt w A ts) (hg : ∀ x ∈ ts, goodText x) (L : List (Int × T)) (hL : ts.map moveOf = L) :
    Calls Tryz.prog 113 #[.string role, .slice A ts.length c] w (RetS (role, L) w) := by
  have HL := Lib.hid hL
  clear hL
  obtain ⟨i0, hi0, hz0, hz1, hz2⟩ := info_parts Tryz.infoM
  have HTX := Lib.hid hA
  have HGD := Lib.hid hg
  clear hA hg
  go_enter Tryz.func113, Tryz.ntmps113
  go_wp2_with fail
  obtain ⟨bz, bx, hb1, hsz⟩ := sbox_two w (.string ⟨#[]⟩) (.slice none 0 0) (.string role) (.slice none 0 0)
  generalize (w.alloc (.cells #[.string ⟨#[]⟩, .slice none 0 0] 49)).alloc (.cells #[.string role, .slice none 0 0] 49) = w1 at bx bz hb1 hsz ⊢
  have HST := Lib.hid (show StrAt w role [] w1 from ⟨_, bx, bz, MovesRow.nil _ _, hb1, by omega⟩)
  clear bx bz hb1 hsz
  go_loopw [12] (fun i wr => ∃ j : Nat, j ≤ ts.length ∧ i = .int .i64 j ∧ StrAt w role ((ts.map moveOf).take j) wr) (fun i _ => ts.length - (intOf i).toNat)
  case atStart => exact ⟨0, Nat.zero_le _, rfl, by simpa using HST.out⟩
  case round =>
    obtain ⟨j, hj, rfl, hat⟩ := hrel
    by_cases hlt : j < ts.length
    · obtain ⟨kv, bx, bz, hrow, hbw, hsz⟩ := hat
      obtain ⟨b, off, rfl, d0⟩ := HTX.out.cell j hlt
      have e0 := cell_later hbw d0
      have hgd := HGD.out _ (List.getElem_mem hlt)
      have HTK := Lib.hid (show List.take j (ts.map moveOf) ++ [moveOf ts[j]] = List.take (j + 1) (ts.map moveOf) by rw [List.take_succ_eq_append_getElem (by simpa using hlt), List.getElem_map])
      obtain ⟨x, hx⟩ : ∃ x, ts[j]'hlt = x := ⟨_, rfl⟩
      rw [hx] at e0 hgd HTK
      have hi : (j : Int) < (ts.length : Int) := by omega
      have hx2 : 2 ≤ x.size := hgd.1
      have hx0 : 0 < x.size := by omega
      have hxi : (2 : Int) ≤ (x.size : Int) := by omega
      have hxj : (0 : Int) < (x.size : Int) := by omega
      have HGX := Lib.hid hgd
      have HLT := Lib.hid hlt
      obtain ⟨ch, hch⟩ : ∃ ch, x[0]'hx0 = ch := ⟨_, rfl⟩
      have hcc : ch = 83 ∨ ch = 82 ∨ ch = 67 ∨ ch = 68 := by have h := hgd.2; rw [first_at x hx0, hch] at h; exact h
      have HI := Lib.hid (fun W => oindex ch hcc W)
      have HMV := Lib.hid (show moveOf x = (kindB ch, (T.parse (x.extract 2 x.size)).1) by unfold moveOf; rw [first_at x hx0, hch])
      have hkb := kindB_bd ch
      generalize kindB ch = kb at HI HMV hkb
      clear d0 hx hgd hcc hj
      obtain ⟨xs, hown, hxs⟩ := hrow.owns
      have hlen : (List.take j (ts.map moveOf)).length = j := by rw [List.length_take, List.length_map]; omega
      have HSTEP := Lib.hid (fun k t w3 w4 u0 u1 u2 g cap => StrAt.step (role := role) (k := k) (t := t) (w3 := w3) (w4 := w4) (u0 := u0) (u1 := u1) (u2 := u2) (g := g) (cap := cap) bx bz hrow hbw hsz hxs hown.1)
      obtain ⟨y0, y1⟩ := bx.cells
      obtain ⟨f0, f1⟩ := bx.free
      have hblk := hrow.block
      rw [hlen] at hown HSTEP
      have HOWN := Lib.hid hown; have HBX := Lib.hid bx; have HBLK := Lib.hid hblk
      have hbz : w.heap.size + 1 < wr.heap.size := by omega
      have HSZ := Lib.hid hsz
      have HNE := Lib.hid (show kv.ownBlock ≠ some (w.heap.size + 1) from fun e => by have := (hblk _ e).1; omega)
      have HKB := Lib.hid hkb
      have hwk : IntKind.i64.wrap kb = kb := IntWalk.i64_in _ (by omega)
      clear hxs hrow bz hsz hlen hown bx hbw hblk hkb
      go_upto_region 5 with fail
      refine wp_region_any (by kernel_rfl) ?_
      (try (change wpAny _ _ _ _ _ _ _ (World.drew _)))
      (refine wpAny_take (i := 0) (v := ?_) (by simp only [List.getElem?_toArray, List.getElem?_cons_zero]; rfl) (by kernel_rfl) (by kernel_rfl) (by kernel_rfl) (by exact fun _ _ _ h => h) (Or.inl ⟨by rfl, ?_⟩) ?_; rotate_left 1; · (intro w; go_simp; (try with_reducible rfl)))
      (refine wpAny_take (i := 2) (v := ?_) (by simp only [List.getElem?_toArray, List.getElem?_cons_succ, List.getElem?_cons_zero]; rfl) (by kernel_rfl) (by kernel_rfl) (by kernel_rfl) (by exact fun _ _ _ h => h) (Or.inl ⟨by rfl, ?_⟩) ?_; rotate_left 1; · (intro w; go_simp; (try with_reducible rfl)))
      (refine wpAny_take (i := 3) (v := ?_) (by simp only [List.getElem?_toArray, List.getElem?_cons_succ, List.getElem?_cons_zero]; rfl) (by kernel_rfl) (by kernel_rfl) (by kernel_rfl) (by exact fun _ _ _ h => h) (Or.inl ⟨by rfl, ?_⟩) ?_; rotate_left 1; · (intro w; go_simp; (try with_reducible rfl)))
      (refine wpAny_take (i := 6) (v := ?_) (by simp only [List.getElem?_toArray, List.getElem?_cons_succ, List.getElem?_cons_zero]; rfl) (by kernel_rfl) (by kernel_rfl) (by kernel_rfl) (by exact fun _ _ _ h => h) (Or.inl ⟨by rfl, ?_⟩) ?_; rotate_left 1; · (intro w; go_simp; (try with_reducible rfl)))
      (refine wpAny_take (i := 7) (v := ?_) (by simp only [List.getElem?_toArray, List.getElem?_cons_succ, List.getElem?_cons_zero]; rfl) (by kernel_rfl) (by kernel_rfl) (by kernel_rfl) (by exact fun _ _ _ h => h) (Or.inl ⟨by rfl, ?_⟩) ?_; rotate_left 1; · (intro w; go_simp; (try with_reducible rfl)))
      refine wpAny_ready (rs := [1, 4]) (by kernel_rfl) (by simp) ?_
      refine AllReady.cons (by simp only [List.getElem?_toArray, List.getElem?_cons_succ, List.getElem?_cons_zero]; rfl) (fun K hK => ?_) ?_
      · go_simp
        (first | (refine hK _ _ ?_; clear hK K) | skip)
        refine wpAny_ready (rs := [4]) (by kernel_rfl) (by simp) ?_
        refine AllReady.cons (by simp only [List.getElem?_toArray, List.getElem?_cons_succ, List.getElem?_cons_zero]; rfl) (fun K hK => ?_) ?_
        · (go_simp; go_at_call 140; refine (HI.out _).mono ?_; rintro e w2 ⟨rfl, rfl⟩)
          (first | (refine hK _ _ ?_; clear hK K) | skip)
          (refine wpAny_take (i := 5) (v := ?_) (by simp only [List.getElem?_toArray, List.getElem?_cons_succ, List.getElem?_cons_zero]; rfl) (by kernel_rfl) (by kernel_rfl) (by kernel_rfl) (by exact fun _ _ _ h => h) (Or.inl ⟨by rfl, ?_⟩) ?_; rotate_left 1; · (intro w; go_simp; (try with_reducible rfl)))
          refine wpAny_ready (rs := [8]) (by kernel_rfl) (by simp) ?_
          refine AllReady.cons (by simp only [List.getElem?_toArray, List.getElem?_cons_succ, List.getElem?_cons_zero]; rfl) (fun K hK => ?_) ?_
          · (go_simp; go_at_call 71; refine (omove kb _ _).mono ?_; rintro e w3 ⟨A3, C3, rfl, hti, hb3⟩; have hb3' := below_undrew hb3; have z0 := cell_later hb3' y0; have z1 := cell_later hb3' y1; have zz1 := cell_later (below_alloc1 w3 (.cells #[.int .i64 (kb), .int .i64 (T.parse (x.extract 2 x.size)).1.kind, .string (T.parse (x.extract 2 x.size)).1.name, .slice A3 (T.parse (x.extract 2 x.size)).1.kids.length C3] 52)) z1; have HOWN3 := Lib.hid ((own_later HOWN.out hb3').alloc (.cells #[.int .i64 (kb), .int .i64 (T.parse (x.extract 2 x.size)).1.kind, .string (T.parse (x.extract 2 x.size)).1.name, .slice A3 (T.parse (x.extract 2 x.size)).1.kids.length C3] 52)); have HONE := Lib.hid (move_one (k := kb) hti); have HBS := Lib.hid (show w.heap.size + 2 ≤ (w3.alloc (.cells #[.int .i64 (kb), .int .i64 (T.parse (x.extract 2 x.size)).1.kind, .string (T.parse (x.extract 2 x.size)).1.name, .slice A3 (T.parse (x.extract 2 x.size)).1.kids.length C3] 52)).heap.size by rw [size_alloc1]; have := hb3'.size; have := HSZ.out; omega))
            (first | (refine hK _ _ ?_; clear hK K) | skip)
            refine wpAny_ready (rs := [9]) (by kernel_rfl) (by simp) ?_
            refine AllReady.cons (by simp only [List.getElem?_toArray, List.getElem?_cons_succ, List.getElem?_cons_zero]; rfl) (fun K hK => ?_) ?_
            · go_simp
              (first | (refine hK _ _ ?_; clear hK K) | skip)
              refine wpAny_ready (rs := [10]) (by kernel_rfl) (by simp) ?_
              refine AllReady.cons (by simp only [List.getElem?_toArray, List.getElem?_cons_succ, List.getElem?_cons_zero]; rfl) (fun K hK => ?_) ?_
              · (refine step_append_lies _ (by rfl) _ _ _ (by rfl) (w.heap.size + 2) 52 i0 _ 4 56 Tryz.underlying47 hi0 hz0 hz1 hz2 rfl (by omega) _ _ _ (by rfl) HOWN3.out ⟨_, 0, none⟩ 1 1 _ (by rfl) (by rfl) (World.news_of_block (heap_alloc_new _ _)) HONE.out (by omega) (by unfold maxLen; omega) (by omega) HBS.out _ rfl ?_; intro g cap w4 hown4 hgrow hat hlt4; have HB4 := (HBX.out.later (hb3'.trans ((below_alloc1 w3 _).mono hb3'.size))).grown hgrow HNE.out; have c4 := HB4.cells.2; have f4 := HB4.free.2; go_simp)
                (first | (refine hK _ _ ?_; clear hK K) | skip)
                (refine wpAny_take (i := 11) (v := ?_) (by simp only [List.getElem?_toArray, List.getElem?_cons_succ, List.getElem?_cons_zero]; rfl) (by kernel_rfl) (by kernel_rfl) (by kernel_rfl) (by exact fun _ _ _ h => h) (Or.inl ⟨by rfl, ?_⟩) ?_; rotate_left 1; · (intro w; go_simp; (try with_reducible rfl)))
                refine wpAny_ready (rs := [12]) (by kernel_rfl) (by simp) ?_
                refine AllReady.cons (by simp only [List.getElem?_toArray, List.getElem?_cons_succ, List.getElem?_cons_zero]; rfl) (fun K hK => ?_) ?_
                · go_simp
                  (first | (refine hK _ _ ?_; clear hK K) | skip)
                  refine wpAny_done (by kernel_rfl) ?_ _
                  have hfin := HSTEP.out (kb) (T.parse (x.extract 2 x.size)).1 w3 w4 _ _ _ g cap (by have := HKB.out; omega) hb3' hti hown4 hgrow (hat.imp id (fun h => h.trans (size_alloc1 _ _)))
                  rw [show (kb, (T.parse (x.extract 2 x.size)).1) = moveOf x by first | (rw [HMV.out]; done) | (rw [HMV.out]; rfl), HTK.out] at hfin
                  have HFIN := Lib.hid hfin
                  clear hfin hgrow hown4 hti c4 f4 HB4 z0 z1 zz1 hat hlt4
                  go_wp2_with fail
                  go_roundw
                  case rel => exact ⟨j + 1, HLT.out, by go_num, HFIN.out⟩
                  case measure => have := HLT.out; simp [intOf]; omega
                exact AllReady.nil
              exact AllReady.nil
            exact AllReady.nil
          exact AllReady.nil
        exact AllReady.nil
      refine AllReady.cons (by simp only [List.getElem?_toArray, List.getElem?_cons_succ, List.getElem?_cons_zero]; rfl) (fun K hK => ?_) ?_
      · (go_simp; go_at_call 140; refine (HI.out _).mono ?_; rintro e w2 ⟨rfl, rfl⟩)
        (first | (refine hK _ _ ?_; clear hK K) | skip)
        (refine wpAny_take (i := 5) (v := ?_) (by simp only [List.getElem?_toArray, List.getElem?_cons_succ, List.getElem?_cons_zero]; rfl) (by kernel_rfl) (by kernel_rfl) (by kernel_rfl) (by exact fun _ _ _ h => h) (Or.inl ⟨by rfl, ?_⟩) ?_; rotate_left 1; · (intro w; go_simp; (try with_reducible rfl)))
        refine wpAny_ready (rs := [1, 8]) (by kernel_rfl) (by simp) ?_
        refine AllReady.cons (by simp only [List.getElem?_toArray, List.getElem?_cons_succ, List.getElem?_cons_zero]; rfl) (fun K hK => ?_) ?_
        · go_simp
          (first | (refine hK _ _ ?_; clear hK K) | skip)
          refine wpAny_ready (rs := [8]) (by kernel_rfl) (by simp) ?_
          refine AllReady.cons (by simp only [List.getElem?_toArray, List.getElem?_cons_succ, List.getElem?_cons_zero]; rfl) (fun K hK => ?_) ?_
          · (go_simp; go_at_call 71; refine (omove kb _ _).mono ?_; rintro e w3 ⟨A3, C3, rfl, hti, hb3⟩; have hb3' := below_undrew hb3; have z0 := cell_later hb3' y0; have z1 := cell_later hb3' y1; have zz1 := cell_later (below_alloc1 w3 (.cells #[.int .i64 (kb), .int .i64 (T.parse (x.extract 2 x.size)).1.kind, .string (T.parse (x.extract 2 x.size)).1.name, .slice A3 (T.parse (x.extract 2 x.size)).1.kids.length C3] 52)) z1; have HOWN3 := Lib.hid ((own_later HOWN.out hb3').alloc (.cells #[.int .i64 (kb), .int .i64 (T.parse (x.extract 2 x.size)).1.kind, .string (T.parse (x.extract 2 x.size)).1.name, .slice A3 (T.parse (x.extract 2 x.size)).1.kids.length C3] 52)); have HONE := Lib.hid (move_one (k := kb) hti); have HBS := Lib.hid (show w.heap.size + 2 ≤ (w3.alloc (.cells #[.int .i64 (kb), .int .i64 (T.parse (x.extract 2 x.size)).1.kind, .string (T.parse (x.extract 2 x.size)).1.name, .slice A3 (T.parse (x.extract 2 x.size)).1.kids.length C3] 52)).heap.size by rw [size_alloc1]; have := hb3'.size; have := HSZ.out; omega))
            (first | (refine hK _ _ ?_; clear hK K) | skip)
            refine wpAny_ready (rs := [9]) (by kernel_rfl) (by simp) ?_
            refine AllReady.cons (by simp only [List.getElem?_toArray, List.getElem?_cons_succ, List.getElem?_cons_zero]; rfl) (fun K hK => ?_) ?_
            · go_simp
              (first | (refine hK _ _ ?_; clear hK K) | skip)
              refine wpAny_ready (rs := [10]) (by kernel_rfl) (by simp) ?_
              refine AllReady.cons (by simp only [List.getElem?_toArray, List.getElem?_cons_succ, List.getElem?_cons_zero]; rfl) (fun K hK => ?_) ?_
              · (refine step_append_lies _ (by rfl) _ _ _ (by rfl) (w.heap.size + 2) 52 i0 _ 4 56 Tryz.underlying47 hi0 hz0 hz1 hz2 rfl (by omega) _ _ _ (by rfl) HOWN3.out ⟨_, 0, none⟩ 1 1 _ (by rfl) (by rfl) (World.news_of_block (heap_alloc_new _ _)) HONE.out (by omega) (by unfold maxLen; omega) (by omega) HBS.out _ rfl ?_; intro g cap w4 hown4 hgrow hat hlt4; have HB4 := (HBX.out.later (hb3'.trans ((below_alloc1 w3 _).mono hb3'.size))).grown hgrow HNE.out; have c4 := HB4.cells.2; have f4 := HB4.free.2; go_simp)
                (first | (refine hK _ _ ?_; clear hK K) | skip)
                (refine wpAny_take (i := 11) (v := ?_) (by simp only [List.getElem?_toArray, List.getElem?_cons_succ, List.getElem?_cons_zero]; rfl) (by kernel_rfl) (by kernel_rfl) (by kernel_rfl) (by exact fun _ _ _ h => h) (Or.inl ⟨by rfl, ?_⟩) ?_; rotate_left 1; · (intro w; go_simp; (try with_reducible rfl)))
                refine wpAny_ready (rs := [12]) (by kernel_rfl) (by simp) ?_
                refine AllReady.cons (by simp only [List.getElem?_toArray, List.getElem?_cons_succ, List.getElem?_cons_zero]; rfl) (fun K hK => ?_) ?_
                · go_simp
                  (first | (refine hK _ _ ?_; clear hK K) | skip)
                  refine wpAny_done (by kernel_rfl) ?_ _
                  have hfin := HSTEP.out (kb) (T.parse (x.extract 2 x.size)).1 w3 w4 _ _ _ g cap (by have := HKB.out; omega) hb3' hti hown4 hgrow (hat.imp id (fun h => h.trans (size_alloc1 _ _)))
                  rw [show (kb, (T.parse (x.extract 2 x.size)).1) = moveOf x by first | (rw [HMV.out]; done) | (rw [HMV.out]; rfl), HTK.out] at hfin
                  have HFIN := Lib.hid hfin
                  clear hfin hgrow hown4 hti c4 f4 HB4 z0 z1 zz1 hat hlt4
                  go_wp2_with fail
                  go_roundw
                  case rel => exact ⟨j + 1, HLT.out, by go_num, HFIN.out⟩
                  case measure => have := HLT.out; simp [intOf]; omega
                exact AllReady.nil
              exact AllReady.nil
            exact AllReady.nil
          exact AllReady.nil
        refine AllReady.cons (by simp only [List.getElem?_toArray, List.getElem?_cons_succ, List.getElem?_cons_zero]; rfl) (fun K hK => ?_) ?_
        · (go_simp; go_at_call 71; refine (omove kb _ _).mono ?_; rintro e w3 ⟨A3, C3, rfl, hti, hb3⟩; have hb3' := below_undrew hb3; have z0 := cell_later hb3' y0; have z1 := cell_later hb3' y1; have zz1 := cell_later (below_alloc1 w3 (.cells #[.int .i64 (kb), .int .i64 (T.parse (x.extract 2 x.size)).1.kind, .string (T.parse (x.extract 2 x.size)).1.name, .slice A3 (T.parse (x.extract 2 x.size)).1.kids.length C3] 52)) z1; have HOWN3 := Lib.hid ((own_later HOWN.out hb3').alloc (.cells #[.int .i64 (kb), .int .i64 (T.parse (x.extract 2 x.size)).1.kind, .string (T.parse (x.extract 2 x.size)).1.name, .slice A3 (T.parse (x.extract 2 x.size)).1.kids.length C3] 52)); have HONE := Lib.hid (move_one (k := kb) hti); have HBS := Lib.hid (show w.heap.size + 2 ≤ (w3.alloc (.cells #[.int .i64 (kb), .int .i64 (T.parse (x.extract 2 x.size)).1.kind, .string (T.parse (x.extract 2 x.size)).1.name, .slice A3 (T.parse (x.extract 2 x.size)).1.kids.length C3] 52)).heap.size by rw [size_alloc1]; have := hb3'.size; have := HSZ.out; omega))
          (first | (refine hK _ _ ?_; clear hK K) | skip)
          refine wpAny_ready (rs := [1, 9]) (by kernel_rfl) (by simp) ?_
          refine AllReady.cons (by simp only [List.getElem?_toArray, List.getElem?_cons_succ, List.getElem?_cons_zero]; rfl) (fun K hK => ?_) ?_
          · go_simp
            (first | (refine hK _ _ ?_; clear hK K) | skip)
            refine wpAny_ready (rs := [9]) (by kernel_rfl) (by simp) ?_
            refine AllReady.cons (by simp only [List.getElem?_toArray, List.getElem?_cons_succ, List.getElem?_cons_zero]; rfl) (fun K hK => ?_) ?_
            · go_simp
              (first | (refine hK _ _ ?_; clear hK K) | skip)
              refine wpAny_ready (rs := [10]) (by kernel_rfl) (by simp) ?_
              refine AllReady.cons (by simp only [List.getElem?_toArray, List.getElem?_cons_succ, List.getElem?_cons_zero]; rfl) (fun K hK => ?_) ?_
              · (refine step_append_lies _ (by rfl) _ _ _ (by rfl) (w.heap.size + 2) 52 i0 _ 4 56 Tryz.underlying47 hi0 hz0 hz1 hz2 rfl (by omega) _ _ _ (by rfl) HOWN3.out ⟨_, 0, none⟩ 1 1 _ (by rfl) (by rfl) (World.news_of_block (heap_alloc_new _ _)) HONE.out (by omega) (by unfold maxLen; omega) (by omega) HBS.out _ rfl ?_; intro g cap w4 hown4 hgrow hat hlt4; have HB4 := (HBX.out.later (hb3'.trans ((below_alloc1 w3 _).mono hb3'.size))).grown hgrow HNE.out; have c4 := HB4.cells.2; have f4 := HB4.free.2; go_simp)
                (first | (refine hK _ _ ?_; clear hK K) | skip)
                (refine wpAny_take (i := 11) (v := ?_) (by simp only [List.getElem?_toArray, List.getElem?_cons_succ, List.getElem?_cons_zero]; rfl) (by kernel_rfl) (by kernel_rfl) (by kernel_rfl) (by exact fun _ _ _ h => h) (Or.inl ⟨by rfl, ?_⟩) ?_; rotate_left 1; · (intro w; go_simp; (try with_reducible rfl)))
                refine wpAny_ready (rs := [12]) (by kernel_rfl) (by simp) ?_
                refine AllReady.cons (by simp only [List.getElem?_toArray, List.getElem?_cons_succ, List.getElem?_cons_zero]; rfl) (fun K hK => ?_) ?_
                · go_simp
                  (first | (refine hK _ _ ?_; clear hK K) | skip)
                  refine wpAny_done (by kernel_rfl) ?_ _
                  have hfin := HSTEP.out (kb) (T.parse (x.extract 2 x.size)).1 w3 w4 _ _ _ g cap (by have := HKB.out; omega) hb3' hti hown4 hgrow (hat.imp id (fun h => h.trans (size_alloc1 _ _)))
                  rw [show (kb, (T.parse (x.extract 2 x.size)).1) = moveOf x by first | (rw [HMV.out]; done) | (rw [HMV.out]; rfl), HTK.out] at hfin
                  have HFIN := Lib.hid hfin
                  clear hfin hgrow hown4 hti c4 f4 HB4 z0 z1 zz1 hat hlt4
                  go_wp2_with fail
                  go_roundw
                  case rel => exact ⟨j + 1, HLT.out, by go_num, HFIN.out⟩
                  case measure => have := HLT.out; simp [intOf]; omega
                exact AllReady.nil
              exact AllReady.nil
            exact AllReady.nil
          refine AllReady.cons (by simp only [List.getElem?_toArray, List.getElem?_cons_succ, List.getElem?_cons_zero]; rfl) (fun K hK => ?_) ?_
          · go_simp
            (first | (refine hK _ _ ?_; clear hK K) | skip)
            refine wpAny_ready (rs := [1]) (by kernel_rfl) (by simp) ?_
            refine AllReady.cons (by simp only [List.getElem?_toArray, List.getElem?_cons_succ, List.getElem?_cons_zero]; rfl) (fun K hK => ?_) ?_
            · go_simp
              (first | (refine hK _ _ ?_; clear hK K) | skip)
              refine wpAny_ready (rs := [10]) (by kernel_rfl) (by simp) ?_
              refine AllReady.cons (by simp only [List.getElem?_toArray, List.getElem?_cons_succ, List.getElem?_cons_zero]; rfl) (fun K hK => ?_) ?_
              · (refine step_append_lies _ (by rfl) _ _ _ (by rfl) (w.heap.size + 2) 52 i0 _ 4 56 Tryz.underlying47 hi0 hz0 hz1 hz2 rfl (by omega) _ _ _ (by rfl) HOWN3.out ⟨_, 0, none⟩ 1 1 _ (by rfl) (by rfl) (World.news_of_block (heap_alloc_new _ _)) HONE.out (by omega) (by unfold maxLen; omega) (by omega) HBS.out _ rfl ?_; intro g cap w4 hown4 hgrow hat hlt4; have HB4 := (HBX.out.later (hb3'.trans ((below_alloc1 w3 _).mono hb3'.size))).grown hgrow HNE.out; have c4 := HB4.cells.2; have f4 := HB4.free.2; go_simp)
                (first | (refine hK _ _ ?_; clear hK K) | skip)
                (refine wpAny_take (i := 11) (v := ?_) (by simp only [List.getElem?_toArray, List.getElem?_cons_succ, List.getElem?_cons_zero]; rfl) (by kernel_rfl) (by kernel_rfl) (by kernel_rfl) (by exact fun _ _ _ h => h) (Or.inl ⟨by rfl, ?_⟩) ?_; rotate_left 1; · (intro w; go_simp; (try with_reducible rfl)))
                refine wpAny_ready (rs := [12]) (by kernel_rfl) (by simp) ?_
                refine AllReady.cons (by simp only [List.getElem?_toArray, List.getElem?_cons_succ, List.getElem?_cons_zero]; rfl) (fun K hK => ?_) ?_
                · go_simp
                  (first | (refine hK _ _ ?_; clear hK K) | skip)
                  refine wpAny_done (by kernel_rfl) ?_ _
                  have hfin := HSTEP.out (kb) (T.parse (x.extract 2 x.size)).1 w3 w4 _ _ _ g cap (by have := HKB.out; omega) hb3' hti hown4 hgrow (hat.imp id (fun h => h.trans (size_alloc1 _ _)))
                  rw [show (kb, (T.parse (x.extract 2 x.size)).1) = moveOf x by first | (rw [HMV.out]; done) | (rw [HMV.out]; rfl), HTK.out] at hfin
                  have HFIN := Lib.hid hfin
                  clear hfin hgrow hown4 hti c4 f4 HB4 z0 z1 zz1 hat hlt4
                  go_wp2_with fail
                  go_roundw
                  case rel => exact ⟨j + 1, HLT.out, by go_num, HFIN.out⟩
                  case measure => have := HLT.out; simp [intOf]; omega
                exact AllReady.nil
              exact AllReady.nil
            exact AllReady.nil
          exact AllReady.nil
        exact AllReady.nil
      exact AllReady.nil
    · obtain rfl : j = ts.length := by omega
      rw [List.take_of_length_le (by simp)] at hat
      obtain ⟨kv, bx, bz, hrow, hbw, hsz⟩ := hat
      obtain ⟨A4, C4, hkv, hmv⟩ := hrow.moves
      rw [HL.out] at hkv hmv
      obtain ⟨y0, y1⟩ := bx.cells
      obtain ⟨q0, q1⟩ := bz.cells
      obtain ⟨f0, f1⟩ := bz.free
      have HMV := Lib.hid hmv
      have HBW := Lib.hid hbw; have HBZ := Lib.hid bz
      rw [hkv] at y1
      clear hkv hrow hbw bx bz hmv
      go_wp2_with fail
      obtain ⟨d0, d1⟩ := (HBZ.out.set2 (.string role) (.slice A4 L.length C4)).cells
      refine bodyPost_ret (v := .agg #[.string role, .slice A4 L.length C4]) (by simp [results, Tryz.results113, go_sem, d0, d1]) rfl ?_
      refine ⟨A4, C4, rfl, HMV.out.keep fun b hb _ => ?_, (HBW.out.setCell (Nat.le_refl _) _).setCell (Nat.le_refl _) _⟩
      have := of_decide_eq_true hb
      exact ⟨decide_eq_true (by omega), sset2_other _ _ _ _ _ (by omega)⟩
end Go.Proofs.YtihbmgkbipeakaaGreat
