/- Several texts in one: WebAt, WebR, TermMill, TermPar. -/
import Derived.Test.YtihbmgkbipeakaaGreatWebG6
import Derived.Test.YtihbmgkbipeakaaGreatWebG7
import Derived.Test.YtihbmgkbipeakaaGreatWebG4
import Derived.Maps.OwnSet
import Derived.Maps.Views
import Derived.Test.YtihbmgkbipeakaaGreatRows
import Derived.Test.YtihbmgkbipeakaaGreatWebG0
import Derived.ProofKit
import Derived.OpenShut
import Derived.Maps.Range
import Derived.Test.YtihbmgkbipeakaaGreatWebG3
import Derived.OwnWalk
import Derived.Deep.Slices
import Derived.BigQuiet
import Derived.Deep.QuietTactic
namespace Go.Proofs.YtihbmgkbipeakaaGreat
open Go.RowKit

/-- The place of a text among the steps. -/
def findK (W : List Stp) (k : ByteArray) : Option Nat := W.findIdx? fun s => decide (s.t.key = k)
theorem find_key (W : List Stp) (t : T) : Wb.find W t = findK W t.key := rfl
theorem findK_push (W : List Stp) (s : Stp) (k : ByteArray) : findK (W ++ [s]) k = (findK W k).or (if s.t.key = k then some W.length else none) := by
  unfold findK
  rw [List.findIdx?_append]
  congr 1
  rw [List.findIdx?_singleton]
  by_cases h : s.t.key = k
  · rw [if_pos h, if_pos (decide_eq_true h)]; simp
  · rw [if_neg h, if_neg (by rw [decide_eq_true_eq]; exact h)]; rfl
theorem findK_lt {W : List Stp} {k : ByteArray} {i : Nat} (h : findK W k = some i) : i < W.length := by
  unfold findK at h
  rw [List.findIdx?_eq_some_iff_getElem] at h
  exact h.1
theorem mark_len (W : List Stp) (i : Nat) : (Wb.mark W i).length = W.length := by unfold Wb.mark; rw [List.length_modify]
theorem mark_t (W : List Stp) (i j : Nat) (h : j < (Wb.mark W i).length) (h' : j < W.length) : (Wb.mark W i)[j].t = W[j].t ∧ (Wb.mark W i)[j].how = W[j].how ∧ (Wb.mark W i)[j].frm = W[j].frm ∧ (Wb.mark W i)[j].part = if i = j then true else W[j].part := by
  have e : (Wb.mark W i)[j]'(h) = if i = j then { W[j] with part := true } else W[j] := List.getElem_modify _ _ _ _ h
  rw [e]
  split
  · exact ⟨rfl, rfl, rfl, rfl⟩
  · exact ⟨rfl, rfl, rfl, rfl⟩
theorem findK_mark (W : List Stp) (i : Nat) (k : ByteArray) : findK (Wb.mark W i) k = findK W k := by
  have e : ∀ (f : Stp → Stp) (hf : ∀ s, (f s).t = s.t) (W : List Stp) (i : Nat), findK (W.modify i f) k = findK W k := by
    intro f hf W
    induction W with
    | nil => intro i; rw [List.modify_nil]
    | cons a r ih =>
      intro i
      cases i with
      | zero => rw [List.modify_zero_cons]; unfold findK; rw [List.findIdx?_cons, List.findIdx?_cons, hf]
      | succ i =>
        rw [List.modify_succ_cons]
        have h := ih i
        unfold findK at h ⊢
        rw [List.findIdx?_cons, List.findIdx?_cons, h]
  exact e (fun s => { s with part := true }) (fun s => rfl) W i
/-- What the map holds. -/
def kl (k : ByteArray) : Lit := .string k.data.toList
theorem kl_inj {a b : ByteArray} (h : kl a = kl b) : a = b := by
  unfold kl at h
  injection h with h
  exact str_eq h
def MapIs (D : DataW Unit) (W : List Stp) : Prop := ∀ k : ByteArray, Maps.has D (kl k) = (findK W k).isSome ∧ ∀ i, findK W k = some i → D.atKey (kl k) (.lit (.int .i64 0)) = .lit (.int .i64 (i : Int))
theorem MapIs.nil : MapIs (.map []) [] := fun k => ⟨rfl, fun i h => by cases h⟩
theorem MapIs.mark {D : DataW Unit} {W : List Stp} (h : MapIs D W) (i : Nat) : MapIs D (Wb.mark W i) := fun k => by rw [findK_mark]; exact h k
theorem MapIs.push {D : DataW Unit} {W : List Stp} (h : MapIs D W) (hD : Maps.IsMap D) (s : Stp) (hn : findK W s.t.key = none) : MapIs (D.put (kl s.t.key) (.lit (.int .i64 (W.length : Int)))) (W ++ [s]) := fun k => by
  rw [findK_push]
  by_cases e : s.t.key = k
  · subst e
    rw [hn, if_pos rfl]
    refine ⟨Maps.has_put_same hD (show Go.WideAt.IsKeyLit (kl s.t.key) from trivial) _, fun i hi => ?_⟩
    have hi' : W.length = i := Option.some.inj hi
    rw [Maps.atKey_put_same hD (show Go.WideAt.IsKeyLit (kl s.t.key) from trivial), hi']
  · have hk : kl k ≠ kl s.t.key := fun h => e (kl_inj h).symm
    rw [if_neg e, Option.or_none, Maps.has_put_other hk]
    refine ⟨(h k).1, fun i hi => ?_⟩
    rw [Maps.atKey_put_other hk]
    exact (h k).2 i hi

/-- The blocks that are none of the web's own. -/
def nr (g M : Nat) (vs vp : Value) : Nat → Bool := fun b => !(b == g) && !(b == M) && !(vs.ownBlock == some b) && !(vp.ownBlock == some b)
theorem nr_iff {g M : Nat} {vs vp : Value} {b : Nat} : nr g M vs vp b = true ↔ b ≠ g ∧ b ≠ M ∧ vs.ownBlock ≠ some b ∧ vp.ownBlock ≠ some b := by
  unfold nr
  rw [Bool.and_eq_true, Bool.and_eq_true, Bool.and_eq_true, Bool.not_eq_true', Bool.not_eq_true', Bool.not_eq_true', Bool.not_eq_true', beq_eq_false_iff_ne, beq_eq_false_iff_ne, beq_eq_false_iff_ne, beq_eq_false_iff_ne, and_assoc, and_assoc]
/-- What a call may turn: the web's own blocks, and new ones. -/
structure Fr (B g M : Nat) (vs vp : Value) (w : World) (vs' vp' : Value) (w' : World) : Prop where
  below : Below B w w'
  size : w.heap.size ≤ w'.heap.size
  keep : ∀ b, nr g M vs vp b = true → b < w.heap.size → nr g M vs' vp' b = true ∧ w'.heap[b]? = w.heap[b]?
theorem Fr.refl (B g M : Nat) (vs vp : Value) (w : World) : Fr B g M vs vp w vs vp w := ⟨Below.refl _ _, Nat.le_refl _, fun _ h _ => ⟨h, rfl⟩⟩
theorem Fr.trans {B g M : Nat} {vs vp vs' vp' vs'' vp'' : Value} {w w' w'' : World} (h : Fr B g M vs vp w vs' vp' w') (h' : Fr B g M vs' vp' w' vs'' vp'' w'') : Fr B g M vs vp w vs'' vp'' w'' :=
  ⟨h.below.trans h'.below, Nat.le_trans h.size h'.size, fun b hb hl => by
    obtain ⟨h1, h2⟩ := h.keep b hb hl
    obtain ⟨h3, h4⟩ := h'.keep b h1 (Nat.lt_of_lt_of_le hl h.size)
    exact ⟨h3, h4.trans h2⟩⟩
theorem Fr.later {B g M : Nat} {vs vp vs' vp' : Value} {w w' w'' : World} (h : Fr B g M vs vp w vs' vp' w') (hB : B ≤ w.heap.size) (hb : Below w'.heap.size w' w'') : Fr B g M vs vp w vs' vp' w'' :=
  h.trans ⟨hb.mono (Nat.le_trans hB h.size), hb.size, fun b hb' hl => ⟨hb', hb.block b hl⟩⟩
/-- One of the web's own blocks turns; a slice moves into a new block, if at all. -/
theorem Fr.grown {B g M : Nat} {vs vp vs' vp' : Value} {w w' : World} {row : Option Nat} (hB : B ≤ w.heap.size) (hg : w.grownBy w' row) (hr : ∀ k, row = some k → B ≤ k ∧ nr g M vs vp k = false)
    (hs : vs'.ownBlock = vs.ownBlock ∨ vs'.ownBlock = some w.heap.size) (hp : vp'.ownBlock = vp.ownBlock ∨ vp'.ownBlock = some w.heap.size) : Fr B g M vs vp w vs' vp' w' :=
  ⟨(Below.refl B w).grown hg hB (fun k hk => (hr k hk).1), hg.size, fun b hb hl => by
    obtain ⟨h1, h2, h3, h4⟩ := nr_iff.1 hb
    refine ⟨nr_iff.2 ⟨h1, h2, ?_, ?_⟩, hg.block b hl (fun e => by have := (hr b e.symm).2; rw [hb] at this; cases this)⟩
    · rcases hs with hs | hs
      · rw [hs]; exact h3
      · rw [hs]; intro e; injection e with e; omega
    · rcases hp with hp | hp
      · rw [hp]; exact h4
      · rw [hp]; intro e; injection e with e; omega⟩
theorem nr_g {g M : Nat} {vs vp : Value} : nr g M vs vp g = false := by
  rw [Bool.eq_false_iff]; intro h; exact (nr_iff.1 h).1 rfl
theorem nr_M {g M : Nat} {vs vp : Value} : nr g M vs vp M = false := by
  rw [Bool.eq_false_iff]; intro h; exact (nr_iff.1 h).2.1 rfl
theorem nr_s {g M k : Nat} {vs vp : Value} (h : vs.ownBlock = some k) : nr g M vs vp k = false := by
  rw [Bool.eq_false_iff]; intro h'; exact (nr_iff.1 h').2.2.1 h
theorem nr_p {g M k : Nat} {vs vp : Value} (h : vp.ownBlock = some k) : nr g M vs vp k = false := by
  rw [Bool.eq_false_iff]; intro h'; exact (nr_iff.1 h').2.2.2 h
theorem grown_cell (w : World) (a : Addr) (u : Value) : w.grownBy (w.setCell a u) (some a.block) :=
  ⟨rfl, rfl, rfl, by simp [World.setCell], fun k _ hk => Below.heap_setCell _ _ _ k (fun e => hk (by rw [e]))⟩
theorem TermIn.fr {B g M : Nat} {vs vp vs' vp' : Value} {w w' : World} {v : Value} {t : T} (h : TermIn (nr g M vs vp) w v t) (hf : Fr B g M vs vp w vs' vp' w') : TermIn (nr g M vs' vp') w' v t := h.keep hf.keep
/-- Places that lie in certain blocks. -/
def NumsIn (S : Nat → Bool) (w : World) (A : Option Addr) (ns : List Nat) : Prop :=
  ns.length = 0 ∨ ∃ b off, A = some ⟨b, off, none⟩ ∧ S b = true ∧ ∀ i (h : i < ns.length), w.cell? ⟨b, off + i, none⟩ = some (.int .i64 (ns[i] : Int))
theorem NumsIn.keep {S S' : Nat → Bool} {w w' : World} {A : Option Addr} {ns : List Nat} (h : NumsIn S w A ns) (hk : ∀ b, S b = true → b < w.heap.size → S' b = true ∧ w'.heap[b]? = w.heap[b]?) : NumsIn S' w' A ns := by
  rcases h with h | ⟨b, off, e, hS, hc⟩
  · exact .inl h
  · by_cases h0 : ns.length = 0
    · exact .inl h0
    · have hl := World.block_lt_of_cell? w _ (hc 0 (by omega))
      obtain ⟨h1, h2⟩ := hk b hS hl
      exact .inr ⟨b, off, e, h1, fun i hi => (World.cell?_of_block h2).trans (hc i hi)⟩
/-- A step as it lies in its five cells. -/
def StepAt (S : Nat → Bool) (w : World) (cs : List Value) (s : Stp) : Prop :=
  ∃ A cap F fc, cs = [.int .i64 s.t.kind, .string s.t.name, .slice A s.t.kids.length cap, .int .i64 (s.how : Int), .slice F s.frm.length fc] ∧ TermIn S w (.agg #[.int .i64 s.t.kind, .string s.t.name, .slice A s.t.kids.length cap]) s.t ∧ NumsIn S w F s.frm
theorem StepAt.keep {S S' : Nat → Bool} {w w' : World} {cs : List Value} {s : Stp} (h : StepAt S w cs s) (hk : ∀ b, S b = true → b < w.heap.size → S' b = true ∧ w'.heap[b]? = w.heap[b]?) : StepAt S' w' cs s := by
  obtain ⟨A, cap, F, fc, e, h1, h2⟩ := h
  exact ⟨A, cap, F, fc, e, h1.keep hk, h2.keep hk⟩
theorem StepAt.len {S : Nat → Bool} {w : World} {cs : List Value} {s : Stp} (h : StepAt S w cs s) : cs.length = 5 := by
  obtain ⟨A, cap, F, fc, e, _⟩ := h
  rw [e]; rfl
theorem StepAt.one {S : Nat → Bool} {w : World} {cs : List Value} {s : Stp} (h : StepAt S w cs s) : ∀ u ∈ cs, u.oneCell' = true := by
  obtain ⟨A, cap, F, fc, e, _⟩ := h
  subst e
  intro u hu
  simp at hu
  rcases hu with rfl | rfl | rfl | rfl | rfl <;> rfl
def StepsAt (S : Nat → Bool) (w : World) (css : List (List Value)) (W : List Stp) : Prop := css.length = W.length ∧ ∀ i (h : i < css.length) (h' : i < W.length), StepAt S w css[i] W[i]
theorem StepsAt.keep {S S' : Nat → Bool} {w w' : World} {css : List (List Value)} {W : List Stp} (h : StepsAt S w css W) (hk : ∀ b, S b = true → b < w.heap.size → S' b = true ∧ w'.heap[b]? = w.heap[b]?) : StepsAt S' w' css W :=
  ⟨h.1, fun i a b => (h.2 i a b).keep hk⟩
theorem StepsAt.push {S : Nat → Bool} {w : World} {css : List (List Value)} {W : List Stp} {cs : List Value} {s : Stp} (h : StepsAt S w css W) (hs : StepAt S w cs s) : StepsAt S w (css ++ [cs]) (W ++ [s]) := by
  refine ⟨by rw [List.length_append, List.length_append, h.1]; rfl, fun i a b => ?_⟩
  by_cases hi : i < css.length
  · rw [List.getElem_append_left hi, List.getElem_append_left (by rw [← h.1]; exact hi)]
    exact h.2 i hi (by rw [← h.1]; exact hi)
  · have e1 : i = css.length := by simp at a; omega
    subst e1
    have e2 : (css ++ [cs])[css.length]'a = cs := by simp
    have e3 : (W ++ [s])[css.length]'b = s := by rw [List.getElem_append_right (by rw [h.1]; exact Nat.le_refl _)]; simp
    rw [e2, e3]; exact hs
theorem StepsAt.mark {S : Nat → Bool} {w : World} {css : List (List Value)} {W : List Stp} (h : StepsAt S w css W) (i : Nat) : StepsAt S w css (Wb.mark W i) := by
  refine ⟨by rw [mark_len]; exact h.1, fun j a b => ?_⟩
  have hj : j < W.length := by rw [← h.1]; exact a
  obtain ⟨e1, e2, e3, _⟩ := mark_t W i j b hj
  have := h.2 j a hj
  unfold StepAt at this ⊢
  rw [e1, e2, e3]; exact this
/-- The cells of the web. -/
structure WebAt (B : Nat) (w : World) (g M : Nat) (vs vp : Value) (W : List Stp) : Prop where
  steps : ∃ css, StepsAt (nr g M vs vp) w css W ∧ w.ownsRow B 31 5 vs W.length css.flatten
  part : w.ownsRow B 4 1 vp W.length (W.map fun s => Value.bool s.part)
  map : ∃ D n, w.ownsMap Tryz.prog 9 (plainElem (H := Unit) Tryz.prog 3) M n D ∧ n ≤ W.length ∧ MapIs D W
  box : w.heap[g]? = some (.cells #[vs, .map (some M), vp] 116 (0, 0))
  low : B ≤ g ∧ B ≤ M
  size : W.length ≤ 1048576
theorem WebAt.later {B g M : Nat} {w w' : World} {vs vp : Value} {W : List Stp} (h : WebAt B w g M vs vp W) (hb : Below w.heap.size w w') : WebAt B w' g M vs vp W := by
  obtain ⟨⟨css, h1, h2⟩, h3, ⟨D, n, h4, h5⟩, h6, h7, h8⟩ := h
  exact ⟨⟨css, h1.keep fun b hb' hl => ⟨hb', hb.block b hl⟩, own_later h2 hb⟩, own_later h3 hb, ⟨D, n, h4.kept (row := none) ⟨hb.os, hb.tape, hb.output, hb.size, fun k hk _ => hb.block k hk⟩ (by simp), h5⟩,
    (hb.block g (Array.getElem?_eq_some_iff.1 h6).1).trans h6, h7, h8⟩
theorem WebAt.lt {B g M : Nat} {w : World} {vs vp : Value} {W : List Stp} (h : WebAt B w g M vs vp W) : g < w.heap.size ∧ B ≤ w.heap.size := by
  have := (Array.getElem?_eq_some_iff.1 h.box).1
  have := h.low.1
  exact ⟨by assumption, by omega⟩
/-- The web's cells as a walk reads them. -/
theorem WebAt.cells {B g M : Nat} {w : World} {vs vp : Value} {W : List Stp} (h : WebAt B w g M vs vp W) : w.cell? ⟨g, 0, none⟩ = some vs ∧ w.cell? ⟨g, 1, none⟩ = some (.map (some M)) ∧ w.cell? ⟨g, 2, none⟩ = some vp ∧ w.frozen? ⟨g, 0, none⟩ = false ∧ w.frozen? ⟨g, 2, none⟩ = false := by
  have hb := h.box
  refine ⟨?_, ?_, ?_, ?_, ?_⟩ <;> simp [World.cell?, World.frozen?, hb]
/-- What a call leaves: the web as it then is. -/
def WebTo (B g M : Nat) (w : World) (vs vp : Value) (W' : List Stp) (w' : World) : Prop := ∃ vs' vp', WebAt B w' g M vs' vp' W' ∧ Fr B g M vs vp w vs' vp' w'
end Go.Proofs.YtihbmgkbipeakaaGreat

namespace Go.Proofs.YtihbmgkbipeakaaGreat

namespace T
theorem sizeAll_sub {l m : List T} (h : l.Sublist m) : sizeAll l ≤ sizeAll m := by
  induction h with
  | slnil => exact Nat.le_refl _
  | cons a _ ih => simp only [sizeAll]; omega
  | cons_cons a _ ih => simp only [sizeAll]; omega
theorem shapeK {t : T} (h : t.shape = true) : (t.kind = 1 ∨ t.kind = 2) ∧ t.kids.length = 0 ∨ (t.kind = 3 ∨ t.kind = 5 ∨ t.kind = 6) ∧ t.kids.length = 2 ∨ t.kind = 4 ∧ t.kids.length = 1 ∨ t.kind = 7 ∧ 1 ≤ t.kids.length ∧ t.kids.length ≤ 4 := by
  obtain ⟨k, s, ks⟩ := t
  simp only [shape] at h
  split at h
  · rename_i h12
    rw [Bool.and_eq_true, beq_iff_eq] at h
    exact .inl ⟨h12, h.2⟩
  · rename_i h12
    rw [Bool.and_eq_true, Bool.and_eq_true] at h
    have h1 := h.1.1
    unfold headOk at h1
    simp only [kind, kids]
    by_cases h3 : k = 3 ∨ k = 5
    · rw [if_pos h3, beq_iff_eq] at h1
      exact .inr (.inl ⟨by omega, h1⟩)
    · rw [if_neg h3] at h1
      by_cases h6 : k = 6
      · rw [if_pos h6, Bool.and_eq_true, beq_iff_eq] at h1
        exact .inr (.inl ⟨by omega, h1.1⟩)
      · rw [if_neg h6] at h1
        by_cases h4 : k = 4
        · rw [if_pos h4, beq_iff_eq] at h1
          exact .inr (.inr (.inl ⟨h4, h1⟩))
        · rw [if_neg h4] at h1
          by_cases h7 : k = 7
          · rw [if_pos h7, Bool.and_eq_true, Bool.and_eq_true, decide_eq_true_eq, decide_eq_true_eq] at h1
            exact .inr (.inr (.inr ⟨h7, h1.1.1, h1.1.2⟩))
          · rw [if_neg h7] at h1; cases h1
theorem shape_pow {k : Int} {s : ByteArray} {ks l : List T} (h : (T.mk k s ks).shape = true) (h7 : k = 7) (hs : l.Sublist ks) (hn : l ≠ []) : (T.mk 7 ⟨#[]⟩ l).shape = true := by
  subst h7
  have hl := hs.length_le
  have hp := List.length_pos_iff.2 hn
  simp only [shape] at h ⊢
  rw [if_neg (by decide), Bool.and_eq_true, Bool.and_eq_true] at h
  rw [if_neg (by decide), Bool.and_eq_true, Bool.and_eq_true]
  obtain ⟨⟨h1, _⟩, h3⟩ := h
  unfold headOk at h1 ⊢
  rw [if_neg (by decide), if_neg (by decide), if_neg (by decide), if_pos rfl, Bool.and_eq_true, Bool.and_eq_true, decide_eq_true_eq, decide_eq_true_eq] at h1
  rw [if_neg (by decide), if_neg (by decide), if_neg (by decide), if_pos rfl, Bool.and_eq_true, Bool.and_eq_true, decide_eq_true_eq, decide_eq_true_eq]
  refine ⟨⟨⟨⟨by omega, by omega⟩, ?_⟩, by kernel_rfl⟩, ?_⟩
  · have h2 := h1.2
    rw [Bool.not_eq_true', List.any_eq_false] at h2 ⊢
    exact fun x hx => h2 x (hs.subset hx)
  · rw [shapeAll_iff] at h3 ⊢
    exact fun x hx => h3 x (hs.subset hx)
mutual
theorem subs_shape : ∀ (t : T), t.shape = true → ∀ x ∈ subs t, x.shape = true ∧ x.size ≤ t.size
  | .mk k s ks, h, x, hx => by
    simp only [subs] at hx
    rcases List.mem_cons.1 hx with rfl | hx
    · exact ⟨h, Nat.le_refl _⟩
    · have hk : shapeAll ks = true := by
        have h' := h
        simp only [shape] at h'
        split at h'
        · rw [Bool.and_eq_true, beq_iff_eq] at h'
          rw [List.eq_nil_of_length_eq_zero h'.2]; rfl
        · rw [Bool.and_eq_true] at h'; exact h'.2
      rcases List.mem_append.1 hx with hx | hx
      · have := subsAll_shape ks hk x hx
        exact ⟨this.1, by simp only [size]; omega⟩
      · split at hx
        · rename_i h7
          obtain ⟨l, hl, rfl⟩ := List.mem_map.1 hx
          obtain ⟨h1, h2⟩ := List.mem_filter.1 hl
          have hs := subl_mem h1
          have := sizeAll_sub hs
          exact ⟨shape_pow h h7 hs (by rintro rfl; simp at h2), by simp only [size]; omega⟩
        · cases hx
theorem subsAll_shape : ∀ (l : List T), shapeAll l = true → ∀ x ∈ subsAll l, x.shape = true ∧ x.size ≤ sizeAll l
  | [], _, x, hx => by simp [subsAll] at hx
  | t :: r, h, x, hx => by
    simp only [shapeAll, Bool.and_eq_true] at h
    simp only [subsAll] at hx
    rcases List.mem_append.1 hx with hx | hx
    · have := subs_shape t h.1 x hx
      exact ⟨this.1, by simp only [sizeAll]; omega⟩
    · have := subsAll_shape r h.2 x hx
      exact ⟨this.1, by simp only [sizeAll]; omega⟩
end
mutual
theorem subs_len : ∀ (t : T), t.shape = true → (subs t).length ≤ 17 * t.size
  | .mk k s ks, h => by
    have hsk := shapeK h
    have hk : shapeAll ks = true := by
      have h' := h
      simp only [shape] at h'
      split at h'
      · rw [Bool.and_eq_true, beq_iff_eq] at h'
        rw [List.eq_nil_of_length_eq_zero h'.2]; rfl
      · rw [Bool.and_eq_true] at h'; exact h'.2
    have h1 := subsAll_len ks hk
    simp only [subs, size, List.length_cons, List.length_append]
    simp only [kind, kids] at hsk
    split
    · rename_i h7
      have h2 : (((subl ks).filter fun l => !l.isEmpty).map (T.mk 7 ⟨#[]⟩)).length ≤ 16 := by
        rw [List.length_map]
        refine Nat.le_trans (List.length_filter_le _ _) ?_
        rw [subl_len]
        exact Nat.le_trans (Nat.pow_le_pow_right (by decide) (show ks.length ≤ 4 by omega)) (by decide)
      omega
    · simp only [List.length_nil]; omega
theorem subsAll_len : ∀ (l : List T), shapeAll l = true → (subsAll l).length ≤ 17 * sizeAll l
  | [], _ => by simp [subsAll, sizeAll]
  | t :: r, h => by
    simp only [shapeAll, Bool.and_eq_true] at h
    have h1 := subs_len t h.1
    have h2 := subsAll_len r h.2
    simp only [subsAll, sizeAll, List.length_append]; omega
end
end T
theorem sizeAll_le_ (l : List T) (h : ∀ t ∈ l, t.size ≤ 40) : T.sizeAll l ≤ 40 * l.length := by
  induction l with
  | nil => simp [T.sizeAll]
  | cons a r ih =>
    have := ih fun t ht => h t (List.mem_cons_of_mem _ ht)
    have := h a (by simp)
    simp only [T.sizeAll, List.length_cons]; omega
/-- The closed set of some terms. -/
theorem uni_of {ts : List T} (hv : ∀ t ∈ ts, t.valid = true) (hl : ts.length ≤ 1000) : Uni (T.subsAll ts) := by
  have hsh : T.shapeAll ts = true := (T.shapeAll_iff ts).2 fun t ht => (Bool.and_eq_true_iff.1 (hv t ht)).2
  refine ⟨fun t ht i hi => (subsAll_closed ts t ht).1 i hi, fun t ht h7 h1 i hi => (subsAll_closed ts t ht).2 h7 h1 i hi, fun x hx => ?_, ?_⟩
  · obtain ⟨t, ht, hxt⟩ := T.mem_subsAll.1 hx
    have h1 := Bool.and_eq_true_iff.1 (hv t ht)
    have h2 := T.subs_shape t h1.2 x hxt
    have h3 := of_decide_eq_true h1.1
    unfold T.valid
    rw [Bool.and_eq_true]
    exact ⟨decide_eq_true (by omega), h2.1⟩
  · have h1 := T.subsAll_len ts hsh
    have h2 := sizeAll_le_ ts fun t ht => of_decide_eq_true (Bool.and_eq_true_iff.1 (hv t ht)).1
    omega
theorem nodup_le {α : Type} [DecidableEq α] : ∀ {l m : List α}, l.Nodup → (∀ x ∈ l, x ∈ m) → l.length ≤ m.length
  | [], _, _, _ => Nat.zero_le _
  | a :: r, m, hn, h => by
    have ha := h a (by simp)
    obtain ⟨h1, h2⟩ := List.nodup_cons.1 hn
    have := nodup_le (l := r) (m := m.erase a) h2 fun x hx => by
      have hne : x ≠ a := fun e => h1 (by rw [← e]; exact hx)
      exact (List.mem_erase_of_ne hne).2 (h x (List.mem_cons_of_mem _ hx))
    rw [List.length_erase_of_mem ha] at this
    have := List.length_pos_of_mem ha
    simp only [List.length_cons]; omega
/-- The steps' terms are apart, and of the set. -/
structure Inv (U : List T) (W : List Stp) : Prop where
  apart : (W.map fun s => s.t.key).Nodup
  mem : ∀ s ∈ W, s.t ∈ U
theorem Inv.nil (U : List T) : Inv U [] := ⟨List.nodup_nil, fun s h => by cases h⟩
theorem Inv.len {U : List T} {W : List Stp} (h : Inv U W) : W.length ≤ U.length := by
  have := nodup_le (l := W.map fun s => s.t.key) (m := U.map T.key) h.apart fun x hx => by
    obtain ⟨s, hs, rfl⟩ := List.mem_map.1 hx
    exact List.mem_map.2 ⟨_, h.mem s hs, rfl⟩
  rwa [List.length_map, List.length_map] at this
theorem findK_none {W : List Stp} {k : ByteArray} (h : findK W k = none) : ∀ s ∈ W, s.t.key ≠ k := fun s hs e => by
  unfold findK at h
  rw [List.findIdx?_eq_none_iff] at h
  have := h s hs
  rw [decide_eq_false_iff_not] at this
  exact this e
theorem findK_get {W : List Stp} {k : ByteArray} {i : Nat} (h : findK W k = some i) : ∃ hi : i < W.length, W[i].t.key = k := by
  unfold findK at h
  rw [List.findIdx?_eq_some_iff_getElem] at h
  obtain ⟨hi, h1, _⟩ := h
  exact ⟨hi, of_decide_eq_true h1⟩
theorem Inv.push {U : List T} {W : List Stp} (h : Inv U W) (s : Stp) (hs : s.t ∈ U) (hn : findK W s.t.key = none) : Inv U (W ++ [s]) := by
  refine ⟨?_, fun x hx => ?_⟩
  · rw [List.map_append]
    refine List.nodup_append.2 ⟨h.apart, by simp, fun a ha b hb => ?_⟩
    simp only [List.map_cons, List.map_nil, List.mem_singleton] at hb
    obtain ⟨x, hx, rfl⟩ := List.mem_map.1 ha
    rw [hb]; exact findK_none hn x hx
  · rcases List.mem_append.1 hx with hx | hx
    · exact h.mem x hx
    · rw [List.mem_singleton] at hx; rw [hx]; exact hs
theorem map_key_mark (W : List Stp) (i : Nat) : (Wb.mark W i).map (fun s => s.t.key) = W.map fun s => s.t.key := by
  apply List.ext_getElem
  · rw [List.length_map, List.length_map, mark_len]
  · intro j h1 h2
    rw [List.getElem_map, List.getElem_map]
    have h3 : j < W.length := by simpa using h2
    rw [(mark_t W i j (by rw [mark_len]; exact h3) h3).1]
theorem Inv.mark {U : List T} {W : List Stp} (h : Inv U W) (i : Nat) : Inv U (Wb.mark W i) := by
  refine ⟨by rw [map_key_mark]; exact h.apart, fun x hx => ?_⟩
  obtain ⟨j, hj, rfl⟩ := List.getElem_of_mem hx
  have h3 : j < W.length := by rwa [mark_len] at hj
  rw [(mark_t W i j hj h3).1]
  exact h.mem _ (List.getElem_mem h3)
namespace Wb
theorem add_some {W : List Stp} {t : T} {how : Nat} {frm : List Nat} {i : Nat} (h : find W t = some i) : add W t how frm = (W, i) := by unfold add; rw [h]
theorem add_none {W : List Stp} {t : T} {how : Nat} {frm : List Nat} (h : find W t = none) : add W t how frm = (W ++ [⟨t, how, frm, false⟩], W.length) := by unfold add; rw [h]
theorem add_inv {U : List T} {W : List Stp} {t : T} (how : Nat) (frm : List Nat) (h : Inv U W) (ht : t ∈ U) : Inv U (add W t how frm).1 := by
  cases hf : find W t with
  | some i => rw [add_some hf]; exact h
  | none => rw [add_none hf]; exact h.push _ ht hf
theorem add_pre (W : List Stp) (t : T) (how : Nat) (frm : List Nat) : W <+: (add W t how frm).1 ∧ (add W t how frm).2 < (add W t how frm).1.length := by
  cases hf : find W t with
  | some i => rw [add_some hf]; exact ⟨List.prefix_refl _, findK_lt hf⟩
  | none => rw [add_none hf]; exact ⟨List.prefix_append _ _, by simp⟩
theorem take_inv {U : List T} {W : List Stp} {t : T} (how : Nat) (frm : List Nat) (h : Inv U W) (ht : t ∈ U) : Inv U (take W t how frm).1 := by
  unfold take
  split
  · exact add_inv how frm h ht
  · exact (add_inv how frm h ht).mark _
theorem take_len (W : List Stp) (t : T) (how : Nat) (frm : List Nat) : W.length ≤ (take W t how frm).1.length := by
  have := (add_pre W t how frm).1.length_le
  unfold take
  split
  · exact this
  · rw [mark_len]; exact this
/-- What holds of a function that puts terms together. -/
def Puts (U : List T) (rec : List Stp → T → List Stp × Option Nat) (t : T) : Prop := ∀ W, Inv U W → Inv U (rec W t).1 ∧ W <+: (rec W t).1 ∧ ∀ i, (rec W t).2 = some i → i < (rec W t).1.length
theorem both_puts {U : List T} {rec : List Stp → T → List Stp × Option Nat} {t : T} (how : Nat) (ht : t ∈ U) (h0 : Puts U rec (t.kid 0)) (h1 : Puts U rec (t.kid 1)) : Puts U (fun W t => both rec W t how) t := fun W hW => by
  obtain ⟨a1, a2, a3⟩ := h0 W hW
  obtain ⟨b1, b2, b3⟩ := h1 _ a1
  cases ha : (rec W (t.kid 0)).2 with
  | none =>
    simp only [both, ha]
    exact ⟨a1, a2, fun i h => by cases h⟩
  | some a =>
    cases hb : (rec (rec W (t.kid 0)).1 (t.kid 1)).2 with
    | none =>
      simp only [both, ha, hb]
      exact ⟨b1, a2.trans b2, fun i h => by cases h⟩
    | some b =>
      simp only [both, ha, hb]
      have hp := add_pre (rec (rec W (t.kid 0)).1 (t.kid 1)).1 t how [a, b]
      exact ⟨add_inv _ _ b1 ht, (a2.trans b2).trans hp.1, fun i h => by injection h with h; rw [← h]; exact hp.2⟩
theorem pow_puts {U : List T} {rec : List Stp → T → List Stp × Option Nat} {t : T} (ht : t ∈ U) (hl : ∀ i, i < t.kids.length → 1 < t.kids.length → Puts U rec (t.lessOf i)) : ∀ (f i : Nat), f + i = t.kids.length → Puts U (fun W _ => pow rec t f i W) t
  | 0, i, _, W, hW => ⟨hW, List.prefix_refl _, fun j h => by cases h⟩
  | f + 1, i, hfi, W, hW => by
    have ih := pow_puts ht hl f (i + 1) (by omega)
    simp only [pow]
    split
    · exact ih W hW
    · rename_i nm hnm
      split
      · have hp := add_pre W t 11 [nm]
        exact ⟨add_inv _ _ hW ht, hp.1, fun j h => by injection h with h; rw [← h]; exact hp.2⟩
      · rename_i h1
        obtain ⟨a1, a2, a3⟩ := hl i (by omega) (by omega) W hW
        split
        · obtain ⟨b1, b2, b3⟩ := ih _ a1
          exact ⟨b1, a2.trans b2, b3⟩
        · rename_i p hp
          have hq := add_pre (rec W (t.lessOf i)).1 t 10 [p, nm]
          exact ⟨add_inv _ _ a1 ht, a2.trans hq.1, fun j h => by injection h with h; rw [← h]; exact hq.2⟩
theorem build_puts {U : List T} (hU : Uni U) : ∀ (n : Nat) (t : T), t ∈ U → Puts U (build n) t
  | 0, t, _, W, hW => ⟨hW, List.prefix_refl _, fun j h => by cases h⟩
  | n + 1, t, ht, W, hW => by
    have hs := T.shapeK (Bool.and_eq_true_iff.1 (hU.ok t ht)).2
    have ihk : ∀ i, i < t.kids.length → Puts U (build n) (t.kid i) := fun i hi => build_puts hU n _ (hU.kid t ht i hi)
    simp only [build]
    split
    · rename_i i hi
      exact ⟨hW, List.prefix_refl _, fun j h => by injection h with h; rw [← h]; exact findK_lt hi⟩
    · split
      · rename_i h4
        obtain ⟨a1, a2, a3⟩ := ihk 0 (by omega) W hW
        split
        · exact ⟨a1, a2, fun i h => by cases h⟩
        · rename_i m hm
          have hp := add_pre (build n W (t.kid 0)).1 t 7 [m]
          exact ⟨add_inv _ _ a1 ht, a2.trans hp.1, fun i h => by injection h with h; rw [← h]; exact hp.2⟩
      · split
        · exact both_puts 6 ht (ihk 0 (by omega)) (ihk 1 (by omega)) W hW
        · split
          · exact both_puts 8 ht (ihk 0 (by omega)) (ihk 1 (by omega)) W hW
          · split
            · exact both_puts 9 ht (ihk 0 (by omega)) (ihk 1 (by omega)) W hW
            · split
              · rename_i h7
                exact pow_puts ht (fun i hi h1 => build_puts hU n _ (hU.less t ht h7 h1 i hi)) t.kids.length 0 rfl W hW
              · exact ⟨hW, List.prefix_refl _, fun j h => by cases h⟩
end Wb
end Go.Proofs.YtihbmgkbipeakaaGreat

namespace Go.Proofs.YtihbmgkbipeakaaGreat
open Go.RowKit Go.ChangeShapes Go.WideShapes Go.Deep

/-- A list of numbers that lies in memory. -/
def ListAt (w : World) (A : Option Addr) (n : Nat) : Prop := n = 0 ∨ ∃ b off, A = some ⟨b, off, none⟩ ∧ ∀ j, j < n → ∃ z : Int, w.cell? ⟨b, off + j, none⟩ = some (.int .i64 z) ∧ -9223372036854775808 ≤ z ∧ z ≤ 9223372036854775807
theorem ListAt.keep {w w' : World} {A : Option Addr} {n : Nat} (h : ListAt w A n) (hk : ∀ p : Addr, (w.cell? p).isSome = true → w'.cell? p = w.cell? p) : ListAt w' A n := by
  rcases h with h | ⟨b, off, e, hc⟩
  · exact .inl h
  · refine .inr ⟨b, off, e, fun j hj => ?_⟩
    obtain ⟨z, h1, h2⟩ := hc j hj
    exact ⟨z, (hk _ (by rw [h1]; rfl)).trans h1, h2⟩
theorem ListAt.below {w w' : World} {A : Option Addr} {n : Nat} (h : ListAt w A n) (hb : Below w.heap.size w w') : ListAt w' A n := by
  refine h.keep fun p hp => ?_
  obtain ⟨v, hv⟩ := Option.isSome_iff_exists.1 hp
  rw [hv]; exact cell_later hb hv

set_option maxRecDepth 100000 in
/-- An argument of the type []int, opened. -/
theorem open_list {H : Type} {enc : TypeId × Value → H} {w : World} {b0 : Nat} {v : Value} {d : DataW H} {p : List MemPlace} {r : Reach}
    (hv : Value.okWide Tryz.prog w r b0 22 v) (h : DataW.Trod enc Tryz.prog w 0 (fun _ => true) true 22 v d p) :
    ∃ (A : Option Addr) (n c : Nat), v = .slice A n c ∧ n ≤ c ∧ c ≤ maxLen ∧ ListAt w A n := by
  obtain ⟨a0, len, cap, rfl⟩ := okWide_slice Tryz.underlying22 hv
  obtain ⟨fuel, hf⟩ := h
  rcases open_ints Tryz.underlying22 Tryz.underlying3 (by kernel_rfl) hf with ⟨hcs, _⟩ | ⟨x, l, c, zs, hcs, _, hl, hm, hz, _, hcell, hwz⟩
  · simp [Value.cells] at hcs
    obtain ⟨rfl, rfl, rfl⟩ := hcs
    exact ⟨none, 0, 0, rfl, Nat.le_refl _, Nat.zero_le _, .inl rfl⟩
  · simp [Value.cells] at hcs
    obtain ⟨rfl, rfl, rfl⟩ := hcs
    refine ⟨_, _, _, rfl, hl, hm, ?_⟩
    have hz' : zs.length = cap := by simpa using hz
    rcases Nat.eq_zero_or_pos len with h0 | h0
    · exact .inl h0
    · obtain ⟨b, off, rfl, hc⟩ := ints_at hcell (by omega)
      refine .inr ⟨b, off, rfl, fun j hj => ⟨_, hc j (by omega), ?_⟩⟩
      have hj' : j < zs.length := by omega
      have := bounds_i64 (hwz zs[j] (List.getElem_mem hj'))
      simpa [List.getD, List.getElem?_eq_getElem hj'] using this

/-- The dice: block g holds the list and how far it has been read. -/
def DiceAt (B g : Nat) (w : World) : Prop := B ≤ g ∧ ∃ (A : Option Addr) (n c k : Nat), w.heap[g]? = some (.cells #[.slice A n c, .int .i64 (k : Int)] 81 (0, 0)) ∧ k ≤ n ∧ n ≤ 80 ∧ n ≤ c ∧
  (n = 0 ∨ ∃ b off, b < B ∧ A = some ⟨b, off, none⟩ ∧ ∀ j, j < n → ∃ z : Int, w.cell? ⟨b, off + j, none⟩ = some (.int .i64 z) ∧ -9223372036854775808 ≤ z ∧ z ≤ 9223372036854775807)
theorem DiceAt.below {B B' g : Nat} {w w' : World} (h : DiceAt B g w) (hb : Below B' w w') (hg : g < B') : DiceAt B g w' := by
  obtain ⟨h0, A, n, c, k, h1, h2, h3, h3', h4⟩ := h
  refine ⟨h0, A, n, c, k, (hb.block g hg).trans h1, h2, h3, h3', ?_⟩
  rcases h4 with h4 | ⟨b, off, hbB, e, hc⟩
  · exact .inl h4
  · refine .inr ⟨b, off, hbB, e, fun j hj => ?_⟩
    obtain ⟨z, g1, g2⟩ := hc j hj
    exact ⟨z, (hb.cell (p := ⟨b, off + j, none⟩) (by show b < B'; omega)).trans g1, g2⟩
theorem DiceAt.lt {B g : Nat} {w : World} (h : DiceAt B g w) : g < w.heap.size := by
  obtain ⟨_, A, n, c, k, h1, _⟩ := h
  rcases Nat.lt_or_ge g w.heap.size with hlt | hge
  · exact hlt
  · rw [Array.getElem?_eq_none hge] at h1; cases h1

theorem made_light (A : Option Addr) (n c : Nat) (w : World) (hn : n ≤ maxLen) :
    Calls Tryz.prog 10 #[.slice A n c] w fun e w' => e = .returned (.bool (decide (n ≤ 80))) ∧ w = w' := by
  unfold maxLen at hn
  by_cases h : n ≤ 80
  · go_enter Tryz.func10, Tryz.ntmps10
    go_wp2_with fail
    go_ret
    exact ⟨ret_bool (by simp; omega), rfl⟩
  · go_enter Tryz.func10, Tryz.ntmps10
    go_wp2_with fail
    go_ret
    exact ⟨ret_bool (by simp; omega), rfl⟩

theorem info_int : (Tryz.prog.info? 3).map (fun i => (i.zero, i.size, i.bytes)) = some (some (.int .i64 0), 1, 8) := by kernel_rfl
theorem ListAt.src {w : World} {A : Option Addr} {n : Nat} (h : ListAt w A n) : ∃ zs : List Int, zs.length = n ∧ (∀ z ∈ zs, -9223372036854775808 ≤ z ∧ z ≤ 9223372036854775807) ∧ Src w 1 A n (zs.map fun z => .int .i64 z) := by
  rcases h with h | ⟨b, off, rfl, hc⟩
  · subst h; exact ⟨[], rfl, (fun z h => by cases h), Src.none_ _ _ _⟩
  · obtain ⟨F, hF⟩ := choose_lt hc
    refine ⟨(List.range n).map F, by simp, (fun z hz => ?_), by simp, .inr ⟨b, off, rfl, fun j u hu => ?_⟩⟩
    · obtain ⟨j, hj, rfl⟩ := List.mem_map.1 hz
      exact (hF j (List.mem_range.1 hj)).2
    · rw [List.map_map, List.getElem?_map] at hu
      rcases Nat.lt_or_ge j n with hj | hj
      · rw [List.getElem?_range hj] at hu
        have := Option.some.inj hu; subst this; exact (hF j hj).1
      · rw [List.getElem?_eq_none (by simpa using hj)] at hu; cases hu
set_option maxHeartbeats 2000000 in
theorem made_roll (A : Option Addr) (n c : Nat) (w : World) (hn : n ≤ 80) (hl : ListAt w A n) :
    Calls Tryz.prog 18 #[.slice A n c] w fun e w' => ∃ g, w.heap.size ≤ g ∧ e = .returned (.pointer (some ⟨g, 0, none⟩)) ∧ DiceAt g g w' ∧ Below w.heap.size w w' := by
  obtain ⟨zs, h1, h2, h3⟩ := hl.src
  obtain ⟨i0, hi0, hz0, hz1, hz2⟩ := info_parts info_int
  have hownE := World.ownsRow_made (size := 1) (e := 3) w #[] 0 (base := w.heap.size) (Nat.le_refl _) (Nat.zero_le _) rfl
  have HSRC := Lib.hid (h3.later (below_alloc1 w (.cells #[] 3)))
  have HOWNE := Lib.hid hownE
  have HONE := Lib.hid (fun (u : Value) (hu : u ∈ zs.map fun z => (.int .i64 z : Value)) => show u.oneCell' = true by obtain ⟨z, _, rfl⟩ := List.mem_map.1 hu; rfl)
  have hwe : Below w.heap.size w (w.alloc (.cells #[] 3)) := below_alloc1 _ _
  have HWE := Lib.hid hwe
  clear h3 hownE hl hwe
  go_enter Tryz.func18, Tryz.ntmps18
  go_wp2_with (at_builtin; refine wpList_append_src _ rfl _ _ 22 rfl w.heap.size 3 i0 _ 1 8 Tryz.underlying22 hi0 hz0 hz1 hz2 rfl (by omega) _ 0 [] rfl HOWNE.out _ n _ _ rfl HSRC.out HONE.out (by unfold maxLen; omega) (by omega) (by rw [size_alloc1]; omega) ?_; intro A7 c7 w7 hown7 hg7 hat7)
  simp only [Nat.zero_add, List.nil_append] at hown7 ⊢
  have hsz7 : w.heap.size + 1 ≤ w7.heap.size := by have := hg7.size; rw [size_alloc1] at this; exact this
  have hb7 : Below w.heap.size w w7 := HWE.out.grown hg7 (by rw [size_alloc1]; omega) (fun k hk => by have e : w.heap.size = k := Option.some.inj hk; omega)
  have hsr := Src.of_own hown7
  have hat : n ≤ c7 ∧ ∀ b, A7.map (·.block) = some b → b < w7.heap.size := by
    rcases hown7.2 with ⟨e, h0⟩ | ⟨g, cap, cur, e, _, hh, hc, _⟩
    · injection e with e1 e2 e3
      subst e1
      exact ⟨by omega, fun b h => by cases h⟩
    · injection e with e1 e2 e3
      subst e1; subst e3
      refine ⟨hc, fun b h => ?_⟩
      have e : g = b := Option.some.inj h
      rw [← e]
      exact (Array.getElem?_eq_some_iff.1 hh).1
  have HSR := Lib.hid hsr; have HB7 := Lib.hid hb7; have HAT := Lib.hid hat
  clear hsr hb7 hat hat7 hown7 hg7
  go_wp2_with fail
  go_ret
  refine ⟨w7.heap.size, HB7.out.size, rfl, ?_, HB7.out.trans ((below_alloc1 _ _).mono HB7.out.size)⟩
  refine ⟨Nat.le_refl _, A7, n, c7, 0, heap_alloc_new _ _, Nat.zero_le _, hn, ?_, ?_⟩
  · exact HAT.out.1
  · rcases HSR.out.2 with h0 | ⟨g, off, rfl, hc⟩
    · exact .inl h0
    · refine .inr ⟨g, off, HAT.out.2 g rfl, rfl, fun j hj => ?_⟩
      have hj' : j < zs.length := by omega
      refine ⟨zs[j], cell_later (below_alloc1 _ _) (hc j _ (by rw [List.getElem?_map, List.getElem?_eq_getElem hj']; rfl)), h2 _ (List.getElem_mem hj')⟩

theorem mill_rem (n m : Int) (h3 : 1 ≤ m) : (n.tmod m + m).tmod m = n % m ∧ -m < n.tmod m ∧ n.tmod m < m := by
  have h := Int.tmod_add_mul_tdiv n m
  have hlt : -m < n.tmod m ∧ n.tmod m < m := by
    have a1 := Int.tmod_lt_of_pos n (b := m) (by omega)
    have a2 := Int.tmod_lt_of_pos (-n) (b := m) (by omega)
    rw [Int.neg_tmod] at a2
    exact ⟨by omega, a1⟩
  refine ⟨?_, hlt⟩
  rw [Int.tmod_eq_emod_of_nonneg (by omega), Int.add_emod_right]
  conv => rhs; rw [← h]
  rw [Int.add_mul_emod_self_left]
set_option maxHeartbeats 400000 in
theorem made_mod (n m : Int) (w : World) (_h1 : -9223372036854775808 ≤ n) (_h2 : n ≤ 9223372036854775807) (h3 : 1 ≤ m) (h4 : m ≤ 1000000) :
    Calls Tryz.prog 20 #[.int .i64 n, .int .i64 m] w fun e w' => e = .returned (.int .i64 (n % m)) ∧ w = w' := by
  obtain ⟨e3, e4, e5⟩ := mill_rem n m h3
  have E3 := Lib.hid e3
  obtain ⟨r, hr⟩ : ∃ r, n.tmod m = r := ⟨_, rfl⟩
  rw [hr] at e3 e4 e5
  have e6 : IntKind.i64.wrap (r + m) = r + m := IntWalk.i64_in _ (by omega)
  have e7 : IntKind.i64.wrap r = r := IntWalk.i64_in _ (by omega)
  have e8 : IntKind.i64.wrap (n % m) = n % m := IntWalk.i64_in _ (by have := Int.emod_nonneg n (b := m) (by omega); have := Int.emod_lt_of_pos n (b := m) (by omega); omega)
  have hm0 : ¬ m = 0 := by omega
  have hm1 : ¬ m < 1 := by omega
  have hmm : ¬ m = -1 := by omega
  clear e4 e5
  go_enter Tryz.func20, Tryz.ntmps20
  go_wp2
  go_ret
  exact ⟨rfl, rfl⟩

/-- Next gives a number below m; nothing but block g has turned. -/
def NextPost (B g : Nat) (m : Int) (w : World) (e : Ending) (w' : World) : Prop := ∃ v : Int, 0 ≤ v ∧ v < m ∧ e = .returned (.int .i64 v) ∧ DiceAt B g w' ∧ w.grownBy w' (some g)
theorem mill_grown_drewN {a w : World} {row : Option Nat} (h : a.grownBy w row) (n : Nat) : a.grownBy (w.drewN n) row := ⟨h.os, h.tape, h.output, h.size, h.block⟩
theorem mill_grown_set {a w : World} {g : Nat} (h : a.grownBy w (some g)) {p : Addr} (hp : p.block = g) (u : Value) : a.grownBy (w.setCell p u) (some g) :=
  ⟨h.os, h.tape, h.output, by simpa [World.setCell] using h.size, fun i hi hne => (Below.heap_setCell w p u i (by rintro rfl; exact hne (by rw [hp]))).trans (h.block i hi hne)⟩

set_option maxHeartbeats 800000 in
theorem made_next (B g : Nat) (m : Int) (w : World) (hd : DiceAt B g w) (h1 : 1 ≤ m) (h2 : m ≤ 1000000) :
    Calls Tryz.prog 38 #[.pointer (some ⟨g, 0, none⟩), .int .i64 m] w (NextPost B g m w) := by
  have hd' := hd
  obtain ⟨h0, A, n, c, k, hb, hk, hn, hnc, hl⟩ := hd
  have c0 : w.cell? ⟨g, 0, none⟩ = some (.slice A n c) := cell_of_row w g 0 _ _ _ hb
  have c1 : w.cell? ⟨g, 1, none⟩ = some (.int .i64 (k : Int)) := cell_of_row w g 1 _ _ _ hb
  have f1 : w.frozen? ⟨g, 1, none⟩ = false := by simp [World.frozen?, hb]
  by_cases hlt : k < n
  · rcases hl with hl | ⟨b, off, hbB, rfl, hc⟩
    · omega
    obtain ⟨z, hz, z1, z2⟩ := hc k hlt
    have hne : b ≠ g := by omega
    have d1 : ∀ q, ((w.drewN q).setCell ⟨g, 1, none⟩ (.int .i64 ((k : Int) + 1))).cell? ⟨b, off + k, none⟩ = some (.int .i64 z) := fun q => by
      rw [World.cell?_setCell_other (w.drewN q) ⟨g, 1, none⟩ ⟨b, off + k, none⟩ _ (by intro e; injection e with e1 _; exact hne e1.symm)]; exact hz
    have d2 : ∀ q, ((w.drewN q).setCell ⟨g, 1, none⟩ (.int .i64 ((k : Int) + 1))).cell? ⟨g, 0, none⟩ = some (.slice (some ⟨b, off, none⟩) n c) := fun q => by
      rw [World.cell?_setCell_other (w.drewN q) ⟨g, 1, none⟩ ⟨g, 0, none⟩ _ (by intro e; injection e with _ e1; omega)]; exact c0
    have d3 : ∀ q, ((w.drewN q).setCell ⟨g, 1, none⟩ (.int .i64 ((k : Int) + 1))).cell? ⟨g, 1, none⟩ = some (.int .i64 ((k : Int) + 1)) := fun q =>
      World.cell?_setCell_same (w.drewN q) ⟨g, 1, none⟩ _ c1
    have hD : ∀ q, DiceAt B g ((w.drewN q).setCell ⟨g, 1, none⟩ (.int .i64 ((k : Int) + 1))) := fun q => by
      refine ⟨h0, some ⟨b, off, none⟩, n, c, k + 1, ?_, by omega, hn, hnc, .inr ⟨b, off, hbB, rfl, fun j hj => ?_⟩⟩
      · have := heap_setCell_same (w.drewN q) g 1 _ _ (.int .i64 ((k : Int) + 1)) hb
        simpa using this
      · obtain ⟨z', e1, e2⟩ := hc j hj
        refine ⟨z', ?_, e2⟩
        rw [World.cell?_setCell_other (w.drewN q) ⟨g, 1, none⟩ ⟨b, off + j, none⟩ _ (by intro e; injection e with e1 _; exact hne e1.symm)]
        exact e1
    have HD := Lib.hid hD
    have m1 := Int.emod_nonneg z (b := m) (by omega)
    have m2 := Int.emod_lt_of_pos z (b := m) (by omega)
    clear hD hd' hc hb hne
    go_enter Tryz.func38, Tryz.ntmps38
    go_wp2_with fail
    go_quiet (fail)
    go_wp2_with fail
    go_quiet ((go_at_call 20; exact quiet_any (made_mod _ _ _ z1 z2 h1 h2)))
    go_wp2_with fail
    go_ret
    exact ⟨z % m, m1, m2, rfl, HD.out _, mill_grown_drewN (mill_grown_set (mill_grown_drewN (World.grownBy.refl _ _) _) rfl _) _⟩
  · have HD := Lib.hid hd'
    clear hd' hb hl
    go_enter Tryz.func38, Tryz.ntmps38
    go_wp2_with fail
    go_quiet (fail)
    go_wp2_with fail
    go_ret
    exact ⟨0, by omega, by omega, rfl, HD.out, mill_grown_drewN (World.grownBy.refl _ _) _⟩
end Go.Proofs.YtihbmgkbipeakaaGreat

namespace Go.Proofs.YtihbmgkbipeakaaGreat
open Go.RowKit

/-- A reader in memory: text, place, wrong. -/
def PBox (ty : TypeId) (w : World) (g : Nat) (s : ByteArray) (i : Nat) (b : Bool) : Prop := w.heap[g]? = some (.cells #[.string s, .int .i64 i, .bool b] ty (0, 0))
section
variable {ty : TypeId} {w w' : World} {g i : Nat} {s : ByteArray} {b : Bool}
theorem PBox.cells (h : PBox ty w g s i b) : w.cell? ⟨g, 0, none⟩ = some (.string s) ∧ w.cell? ⟨g, 1, none⟩ = some (.int .i64 i) ∧ w.cell? ⟨g, 2, none⟩ = some (.bool b) := by
  unfold PBox at h
  refine ⟨?_, ?_, ?_⟩ <;> simp [World.cell?, h]
theorem PBox.free (h : PBox ty w g s i b) : w.frozen? ⟨g, 0, none⟩ = false ∧ w.frozen? ⟨g, 1, none⟩ = false ∧ w.frozen? ⟨g, 2, none⟩ = false := by
  unfold PBox at h
  refine ⟨?_, ?_, ?_⟩ <;> simp [World.frozen?, h]
theorem PBox.lt (h : PBox ty w g s i b) : g < w.heap.size := (Array.getElem?_eq_some_iff.1 h).1
theorem PBox.set1 (h : PBox ty w g s i b) (j : Nat) (v : Int) (hv : v = j) : PBox ty (w.setCell ⟨g, 1, none⟩ (.int .i64 v)) g s j b := by
  subst hv; unfold PBox at *
  simp [World.setCell, Array.getElem?_modify, h]
theorem PBox.set2 (h : PBox ty w g s i b) (c : Bool) : PBox ty (w.setCell ⟨g, 2, none⟩ (.bool c)) g s i c := by
  unfold PBox at *
  simp [World.setCell, Array.getElem?_modify, h]
theorem PBox.later (h : PBox ty w g s i b) (hb : Below w.heap.size w w') : PBox ty w' g s i b := (hb.block g h.lt).trans h
theorem PBox.grown {row : Option Nat} (h : PBox ty w g s i b) (hg : w.grownBy w' row) (hr : row ≠ some g) : PBox ty w' g s i b := (hg.block g h.lt (fun e => hr e.symm)).trans h
theorem PBox.drewN (h : PBox ty w g s i b) (n : Nat) : PBox ty (w.drewN n) g s i b := h
end
theorem grown_refl (w : World) (row : Option Nat) : w.grownBy w row := ⟨rfl, rfl, rfl, Nat.le_refl _, fun _ _ _ => rfl⟩
theorem grown_drewN {w w' : World} {row : Option Nat} (h : w.grownBy w' row) (n : Nat) : w.grownBy (w'.drewN n) row := ⟨h.os, h.tape, h.output, h.size, h.block⟩
theorem grown_set {w w' : World} {g : Nat} (h : w.grownBy w' (some g)) (i : Nat) (v : Value) : w.grownBy (w'.setCell ⟨g, i, none⟩ v) (some g) :=
  ⟨h.os, h.tape, h.output, by rw [show (w'.setCell ⟨g, i, none⟩ v).heap.size = w'.heap.size by simp [World.setCell]]; exact h.size, fun k hk hn => by rw [Below.heap_setCell _ _ _ _ (fun e => hn (by rw [e]))]; exact h.block k hk hn⟩
/-- Where the reader stands behind a step. -/
def Stands (ty : TypeId) (w : World) (g : Nat) (s : ByteArray) : Except Nat Nat → Prop
  | .ok j => PBox ty w g s j false
  | .error j => PBox ty w g s j true
theorem T.now_at (s : ByteArray) (i : Nat) (h : i < s.size) (c : UInt8) : T.now s.data.toList i c = (s[i] == c) := by
  unfold T.now
  have hl : i < s.data.toList.length := by simpa using h
  rw [List.getElem?_eq_getElem hl]
  show (some s[i] == some c) = _
  rfl
theorem T.now_past (s : ByteArray) (i : Nat) (h : s.size ≤ i) (c : UInt8) : T.now s.data.toList i c = false := by
  unfold T.now; rw [List.getElem?_eq_none (by simpa using h)]; rfl
theorem u8_ne {a b : UInt8} (h : (a == b) = false) : ((a.toNat : Int) == (b.toNat : Int)) = false ∧ ((a.toNat : Int) != (b.toNat : Int)) = true := by
  have hne : a ≠ b := by rw [beq_eq_false_iff_ne] at h; exact h
  have : (a.toNat : Int) ≠ (b.toNat : Int) := fun e => hne (UInt8.toNat_inj.1 (by omega))
  exact ⟨by rw [beq_eq_false_iff_ne]; exact this, by rw [bne_iff_ne]; exact this⟩
theorem u8_eq {a b : UInt8} (h : (a == b) = true) : ((a.toNat : Int) == (b.toNat : Int)) = true ∧ ((a.toNat : Int) != (b.toNat : Int)) = false := by
  have := beq_iff_eq.1 h; subst this; exact ⟨beq_self_eq_true _, by simp⟩

set_option maxRecDepth 100000 in
set_option maxHeartbeats 2000000 in
theorem rneed (g i : Nat) (s q : ByteArray) (w : World) (h : PBox 133 w g s i false) (_hi : i ≤ 4096) (hs : s.size ≤ 4096) (hq : q.size ≤ 16) :
    Calls Tryz.prog 187 #[.pointer (some ⟨g, 0, none⟩), .string q] w fun e w' => e = .returned (.tuple #[]) ∧ w.grownBy w' (some g) ∧ Stands 133 w' g s (T.need s.data.toList q.data.toList i) := by
  have HW := Lib.hid h; clear h
  go_enter Tryz.func187, Tryz.ntmps187
  go_wp2_with fail
  go_loopw [4] (fun v4 wr => ∃ k m : Nat, k ≤ q.size ∧ m ≤ i + k ∧ v4 = .int .i64 k ∧ T.need s.data.toList q.data.toList i = T.need s.data.toList (q.data.toList.drop k) m ∧ PBox 133 wr g s m false ∧ w.grownBy wr (some g)) (fun v4 _ => q.size - (intOf v4).toNat)
  case atStart => exact ⟨0, i, Nat.zero_le _, by omega, rfl, rfl, HW.out, grown_refl _ _⟩
  case round =>
    obtain ⟨k, m, hk, hm, rfl, hnd, hp, hg⟩ := hrel
    obtain ⟨x0, x1, x2⟩ := hp.cells
    obtain ⟨f0, f1, f2⟩ := hp.free
    have HND := Lib.hid hnd; have HP := Lib.hid hp; have HG := Lib.hid hg
    clear hnd hp hg
    by_cases hlt : k < q.size
    · have h1 : (k : Int) < (q.size : Int) := by omega
      have h1' : decide ((k : Int) < (q.size : Int)) = true := decide_eq_true h1
      have h1'' : decide (k < q.size) = true := decide_eq_true hlt
      have h2 : (0 : Int) ≤ (k : Int) := by omega
      have h3 : (0 : Int) ≤ (m : Int) := by omega
      have hdr : q.data.toList.drop k = q[k] :: q.data.toList.drop (k + 1) := by
        rw [List.drop_eq_getElem_cons (by simpa using hlt)]; rfl
      have hst : T.need s.data.toList q.data.toList i = if T.now s.data.toList m q[k] = true then T.need s.data.toList (q.data.toList.drop (k + 1)) (m + 1) else .error m := by rw [HND.out, hdr]; rfl
      have HST := Lib.hid hst
      clear hst hdr
      rcases Nat.lt_or_ge m s.size with hms | hms
      · have h4 : (m : Int) < (s.size : Int) := by omega
        have h4' : decide ((s.size : Int) ≤ (m : Int)) = false := decide_eq_false (by omega)
        have h4'' : decide (s.size ≤ m) = false := decide_eq_false (by omega)
        rcases Bool.eq_false_or_eq_true (s[m] == q[k]) with e | e
        · have HE := Lib.hid (show T.need s.data.toList q.data.toList i = T.need s.data.toList (q.data.toList.drop (k + 1)) (m + 1) by rw [HST.out, T.now_at s m hms, if_pos e])
          obtain ⟨e1, e2⟩ := u8_eq e
          have HLT := Lib.hid hlt
          clear e
          go_upto_region 3 with fail
          go_quiet (fail)
          go_wp2_with fail
          go_roundw
          case rel => exact ⟨k + 1, m + 1, HLT.out, by omega, by go_num, HE.out, (HP.out.drewN nq).set1 (m + 1) _ (by push_cast; rfl), grown_set (grown_drewN HG.out nq) _ _⟩
          case measure => have := HLT.out; simp [intOf]; omega
        · have HE := Lib.hid (show T.need s.data.toList q.data.toList i = .error m by rw [HST.out, T.now_at s m hms, if_neg (by rw [e]; decide)])
          obtain ⟨e1, e2⟩ := u8_ne e
          clear e
          go_upto_region 3 with fail
          go_quiet (fail)
          go_wp2_with fail
          refine bodyPost_ret (results_none rfl _ _ _) rfl ?_
          exact ⟨rfl, grown_set (grown_drewN HG.out nq) _ _, by rw [HE.out]; exact (HP.out.drewN nq).set2 true⟩
      · have h4 : (s.size : Int) ≤ (m : Int) := by omega
        have h4' : decide ((s.size : Int) ≤ (m : Int)) = true := decide_eq_true (by omega)
        have h4'' : decide (s.size ≤ m) = true := decide_eq_true (by omega)
        have HE := Lib.hid (show T.need s.data.toList q.data.toList i = .error m by rw [HST.out, T.now_past s m hms, if_neg (by decide)])
        go_upto_region 3 with fail
        go_quiet (fail)
        go_wp2_with fail
        refine bodyPost_ret (results_none rfl _ _ _) rfl ?_
        exact ⟨rfl, grown_set (grown_drewN HG.out nq) _ _, by rw [HE.out]; exact (HP.out.drewN nq).set2 true⟩
    · obtain rfl : k = q.size := by omega
      have HE := Lib.hid (show T.need s.data.toList q.data.toList i = .ok m by rw [HND.out, List.drop_of_length_le (by simp)]; rfl)
      clear hlt
      go_wp2_with fail
      go_end0
      exact ⟨rfl, HG.out, by rw [HE.out]; exact HP.out⟩
set_option maxRecDepth 100000 in
set_option maxHeartbeats 1000000 in
theorem rneed_wrong (g i : Nat) (s : ByteArray) (b0 : UInt8) (bs : List UInt8) (w : World) (h : PBox 133 w g s i true) :
    Calls Tryz.prog 187 #[.pointer (some ⟨g, 0, none⟩), .string ⟨(b0 :: bs).toArray⟩] w fun e w' => e = .returned (.tuple #[]) ∧ w = w' := by
  obtain ⟨x0, x1, x2⟩ := h.cells
  have hz : (⟨(b0 :: bs).toArray⟩ : ByteArray).size = bs.length + 1 := by rw [str_size]; rfl
  generalize (⟨(b0 :: bs).toArray⟩ : ByteArray) = q at hz ⊢
  have h1 : (0 : Int) < (q.size : Int) := by omega
  have h1' : decide ((0 : Int) < (q.size : Int)) = true := decide_eq_true h1
  have h1'' : decide (0 < q.size) = true := decide_eq_true (by omega)
  clear hz
  go_enter Tryz.func187, Tryz.ntmps187
  go_wp2_with fail
  refine wp_loop_rounds 1 ?_; rw [rounds_succ]
  go_wp2_with fail
  go_end0
  exact ⟨rfl, rfl⟩
end Go.Proofs.YtihbmgkbipeakaaGreat
