/- Several texts in one: TermPow, TermTerm2. -/
import Derived.Test.YtihbmgkbipeakaaGreatWebG21
namespace Go.Proofs.YtihbmgkbipeakaaGreat
open Go.RowKit

theorem DiceAt.drew {B g : Nat} {w : World} (h : DiceAt B g w) : DiceAt B g w.drew := h
/-- What the loop of a power has done: c is the power's own block. -/
def PowAt (c B g : Nat) (w : World) (L : List T) (wr : World) : Prop :=
  ∃ kv, Box wr c (.int .i64 7) (.string ⟨#[]⟩) kv ∧ Box wr w.heap.size (.int .i64 0) (.string ⟨#[]⟩) (.slice none 0 0) ∧ TermsRow wr (c + 1) kv L ∧ DiceAt B g wr ∧ w.grownBy wr (some g)
theorem PowAt.step {c B g : Nat} {w : World} {L : List T} {wr w3 w4 : World} {kv u0 u1 u2 : Value} {t : T} {xs : List Value} {g' cap : Nat} (hgl : g < w.heap.size) (hc : w.heap.size < c)
    (x : Box wr c (.int .i64 7) (.string ⟨#[]⟩) kv) (y : Box wr w.heap.size (.int .i64 0) (.string ⟨#[]⟩) (.slice none 0 0)) (hrow : TermsRow wr (c + 1) kv L) (hgr : w.grownBy wr (some g))
    (hx : ∀ i (h : i < L.length), ∃ u0 u1 u2, xs[i * 3]? = some u0 ∧ xs[i * 3 + 1]? = some u1 ∧ xs[i * 3 + 2]? = some u2 ∧ TermIn (but (c + 1) kv.ownBlock) wr (.agg #[u0, u1, u2]) L[i]) (hl : xs.length = L.length * 3)
    (hd3 : DiceAt B g w3) (hg3 : wr.grownBy w3 (some g)) (ht : ∀ S W, TermIn S W (.agg #[u0, u1, u2]) t)
    (hown : w4.ownsRow (c + 1) 29 3 (.slice (some ⟨g', 0, none⟩) (L.length + 1) cap) (L.length + 1) (xs ++ [u0, u1, u2])) (hgrow : (w3.alloc (.cells #[u0, u1, u2] 29)).grownBy w4 kv.ownBlock)
    (hat : kv.ownBlock = some g' ∨ g' = w3.heap.size + 1) : PowAt c B g w (L ++ [t]) (w4.setCell ⟨c, 2, none⟩ (.slice (some ⟨g', 0, none⟩) (L.length + 1) cap)) := by
  have hB := hd3.1
  have hne : ∀ b, b < c + 1 → kv.ownBlock ≠ some b := fun b hlt e => by have := (hrow.block b e).1; omega
  have hw4 := below_alloc1 w3 (.cells #[u0, u1, u2] 29)
  have hz4 := size_alloc1 w3 (.cells #[u0, u1, u2] 29)
  have hgb : ∀ b, g < b → some g ≠ some b := fun b hb e => by have e' := Option.some.inj e; omega
  have hcl := x.lt
  have hs3 := hg3.size
  have hold : ∀ b, b < c + 1 → b < w3.heap.size → w4.heap[b]? = w3.heap[b]? := fun b hb hl => (hgrow.block b (by omega) (fun e => hne b hb e.symm)).trans (hw4.block b hl)
  have hd4 : DiceAt B g w4 := by
    obtain ⟨h0, A, n, cc, k, h1, h2, h3, h3', h4⟩ := hd3
    refine ⟨h0, A, n, cc, k, (hold g (by omega) (by omega)).trans h1, h2, h3, h3', ?_⟩
    rcases h4 with h4 | ⟨b, off, hbB, e, hc4⟩
    · exact .inl h4
    · refine .inr ⟨b, off, hbB, e, fun j hj => ?_⟩
      obtain ⟨z, g1, g2⟩ := hc4 j hj
      refine ⟨z, ?_, g2⟩
      rw [← g1]
      exact World.cell?_of_block (hold b (by omega) (by omega))
  have hset : ∀ b, b ≠ c → (w4.setCell ⟨c, 2, none⟩ (.slice (some ⟨g', 0, none⟩) (L.length + 1) cap)).heap[b]? = w4.heap[b]? := fun b hb => Below.heap_setCell _ _ _ _ (by show b ≠ c; exact hb)
  refine ⟨_, ((((x.grown hg3 (hgb _ (by omega))).later hw4).grown hgrow (hne _ (by omega))).set2 _), ?_, ?_, ?_, ?_⟩
  · exact (((y.grown hg3 (hgb _ (by omega))).later hw4).grown hgrow (hne _ (by omega))).setOther (by simp; omega) _
  · have h1 := TermsRow.snoc (w := w3.alloc (.cells #[u0, u1, u2] 29)) (H := w3.heap.size + 1) (t := t) (fun i hi => by
        obtain ⟨a0, a1, a2, b0, b1, b2, b3⟩ := hx i hi
        exact ⟨a0, a1, a2, b0, b1, b2, b3.keep fun b hb hlt => ⟨hb, (hw4.block b (by omega)).trans (hg3.block b hlt (fun e => by have e' : b = g := Option.some.inj e; have := (but_iff.1 hb).1; omega))⟩⟩) hl
      (ht _ _) hown hgrow hat (by rw [size_alloc1])
    exact h1.keep fun b hbb _ => hset b (by omega)
  · obtain ⟨h0, A, n, cc, k, h1, h2, h3, h3', h4⟩ := hd4
    refine ⟨h0, A, n, cc, k, (hset g (by omega)).trans h1, h2, h3, h3', ?_⟩
    rcases h4 with h4 | ⟨b, off, hbB, e, hc4⟩
    · exact .inl h4
    · refine .inr ⟨b, off, hbB, e, fun j hj => ?_⟩
      obtain ⟨z, g1, g2⟩ := hc4 j hj
      refine ⟨z, ?_, g2⟩
      rw [← g1]
      exact World.cell?_of_block (hset b (by omega))
  · have e3 := hgr.size
    have e4 := hgrow.size
    refine ⟨hgrow.os.trans (hw4.os.trans (hg3.os.trans hgr.os)), hgrow.tape.trans (hw4.tape.trans (hg3.tape.trans hgr.tape)), hgrow.output.trans (hw4.output.trans (hg3.output.trans hgr.output)), ?_, fun i hi hn => ?_⟩
    · simp only [World.setCell, Array.size_modify]; omega
    · rw [hset i (by omega), hold i (by omega) (by omega), hg3.block i (by omega) hn, hgr.block i hi hn]
end Go.Proofs.YtihbmgkbipeakaaGreat

namespace Go.Proofs.YtihbmgkbipeakaaGreat
open Go.RowKit

attribute [local go_sem ↓] Go.wp_at_zero Go.wp_at_succ

end Go.Proofs.YtihbmgkbipeakaaGreat
