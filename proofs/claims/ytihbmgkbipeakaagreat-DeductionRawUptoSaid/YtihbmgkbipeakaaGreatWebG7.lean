/- Several texts in one: WebAt, TermWrite, TermWrite2, WebA, WebM. -/
import Derived.Test.YtihbmgkbipeakaaGreatWebG6
import Derived.Test.YtihbmgkbipeakaaGreatWebG3
import Derived.Maps.OwnSet
import Derived.Maps.Views
import Derived.Deep.RegionHeld
import Derived.StillTailTactics
import Derived.IntWalk
namespace Go.Proofs.YtihbmgkbipeakaaGreat
open Go.RowKit

/-- The place of a text among the steps. -/
def findK (W : List Stp) (k : ByteArray) : Option Nat := W.findIdx? fun s => decide (s.t.key = k)
theorem find_key (W : List Stp) (t : T) : Wb.find W t = findK W t.key := rfl
theorem findK_push (W : List Stp) (s : Stp) (k : ByteArray) : findK (W ++ [s]) k = (findK W k).or (if s.t.key = k then some W.length else none) := by
  unfold findK
  rw [List.findIdx?_append]
  congr 1
  rw [List.findIdx?_singleton]
  by_cases h : s.t.key = k
  · rw [if_pos h, if_pos (decide_eq_true h)]; simp
  · rw [if_neg h, if_neg (by rw [decide_eq_true_eq]; exact h)]; rfl
theorem findK_lt {W : List Stp} {k : ByteArray} {i : Nat} (h : findK W k = some i) : i < W.length := by
  unfold findK at h
  rw [List.findIdx?_eq_some_iff_getElem] at h
  exact h.1
theorem mark_len (W : List Stp) (i : Nat) : (Wb.mark W i).length = W.length := by unfold Wb.mark; rw [List.length_modify]
theorem mark_t (W : List Stp) (i j : Nat) (h : j < (Wb.mark W i).length) (h' : j < W.length) : (Wb.mark W i)[j].t = W[j].t ∧ (Wb.mark W i)[j].how = W[j].how ∧ (Wb.mark W i)[j].frm = W[j].frm ∧ (Wb.mark W i)[j].part = if i = j then true else W[j].part := by
  have e : (Wb.mark W i)[j]'(h) = if i = j then { W[j] with part := true } else W[j] := List.getElem_modify _ _ _ _ h
  rw [e]
  split
  · exact ⟨rfl, rfl, rfl, rfl⟩
  · exact ⟨rfl, rfl, rfl, rfl⟩
theorem findK_mark (W : List Stp) (i : Nat) (k : ByteArray) : findK (Wb.mark W i) k = findK W k := by
  have e : ∀ (f : Stp → Stp) (hf : ∀ s, (f s).t = s.t) (W : List Stp) (i : Nat), findK (W.modify i f) k = findK W k := by
    intro f hf W
    induction W with
    | nil => intro i; rw [List.modify_nil]
    | cons a r ih =>
      intro i
      cases i with
      | zero => rw [List.modify_zero_cons]; unfold findK; rw [List.findIdx?_cons, List.findIdx?_cons, hf]
      | succ i =>
        rw [List.modify_succ_cons]
        have h := ih i
        unfold findK at h ⊢
        rw [List.findIdx?_cons, List.findIdx?_cons, h]
  exact e (fun s => { s with part := true }) (fun s => rfl) W i
/-- What the map holds. -/
def kl (k : ByteArray) : Lit := .string k.data.toList
theorem kl_inj {a b : ByteArray} (h : kl a = kl b) : a = b := by
  unfold kl at h
  injection h with h
  exact str_eq h
def MapIs (D : DataW Unit) (W : List Stp) : Prop := ∀ k : ByteArray, Maps.has D (kl k) = (findK W k).isSome ∧ ∀ i, findK W k = some i → D.atKey (kl k) (.lit (.int .i64 0)) = .lit (.int .i64 (i : Int))
theorem MapIs.nil : MapIs (.map []) [] := fun k => ⟨rfl, fun i h => by cases h⟩
theorem MapIs.mark {D : DataW Unit} {W : List Stp} (h : MapIs D W) (i : Nat) : MapIs D (Wb.mark W i) := fun k => by rw [findK_mark]; exact h k
theorem MapIs.push {D : DataW Unit} {W : List Stp} (h : MapIs D W) (hD : Maps.IsMap D) (s : Stp) (hn : findK W s.t.key = none) : MapIs (D.put (kl s.t.key) (.lit (.int .i64 (W.length : Int)))) (W ++ [s]) := fun k => by
  rw [findK_push]
  by_cases e : s.t.key = k
  · subst e
    rw [hn, if_pos rfl]
    refine ⟨Maps.has_put_same hD (show Go.WideAt.IsKeyLit (kl s.t.key) from trivial) _, fun i hi => ?_⟩
    have hi' : W.length = i := Option.some.inj hi
    rw [Maps.atKey_put_same hD (show Go.WideAt.IsKeyLit (kl s.t.key) from trivial), hi']
  · have hk : kl k ≠ kl s.t.key := fun h => e (kl_inj h).symm
    rw [if_neg e, Option.or_none, Maps.has_put_other hk]
    refine ⟨(h k).1, fun i hi => ?_⟩
    rw [Maps.atKey_put_other hk]
    exact (h k).2 i hi

/-- The blocks that are none of the web's own. -/
def nr (g M : Nat) (vs vp : Value) : Nat → Bool := fun b => !(b == g) && !(b == M) && !(vs.ownBlock == some b) && !(vp.ownBlock == some b)
theorem nr_iff {g M : Nat} {vs vp : Value} {b : Nat} : nr g M vs vp b = true ↔ b ≠ g ∧ b ≠ M ∧ vs.ownBlock ≠ some b ∧ vp.ownBlock ≠ some b := by
  unfold nr
  rw [Bool.and_eq_true, Bool.and_eq_true, Bool.and_eq_true, Bool.not_eq_true', Bool.not_eq_true', Bool.not_eq_true', Bool.not_eq_true', beq_eq_false_iff_ne, beq_eq_false_iff_ne, beq_eq_false_iff_ne, beq_eq_false_iff_ne, and_assoc, and_assoc]
/-- What a call may turn: the web's own blocks, and new ones. -/
structure Fr (B g M : Nat) (vs vp : Value) (w : World) (vs' vp' : Value) (w' : World) : Prop where
  below : Below B w w'
  size : w.heap.size ≤ w'.heap.size
  keep : ∀ b, nr g M vs vp b = true → b < w.heap.size → nr g M vs' vp' b = true ∧ w'.heap[b]? = w.heap[b]?
theorem Fr.refl (B g M : Nat) (vs vp : Value) (w : World) : Fr B g M vs vp w vs vp w := ⟨Below.refl _ _, Nat.le_refl _, fun _ h _ => ⟨h, rfl⟩⟩
theorem Fr.trans {B g M : Nat} {vs vp vs' vp' vs'' vp'' : Value} {w w' w'' : World} (h : Fr B g M vs vp w vs' vp' w') (h' : Fr B g M vs' vp' w' vs'' vp'' w'') : Fr B g M vs vp w vs'' vp'' w'' :=
  ⟨h.below.trans h'.below, Nat.le_trans h.size h'.size, fun b hb hl => by
    obtain ⟨h1, h2⟩ := h.keep b hb hl
    obtain ⟨h3, h4⟩ := h'.keep b h1 (Nat.lt_of_lt_of_le hl h.size)
    exact ⟨h3, h4.trans h2⟩⟩
theorem Fr.later {B g M : Nat} {vs vp vs' vp' : Value} {w w' w'' : World} (h : Fr B g M vs vp w vs' vp' w') (hB : B ≤ w.heap.size) (hb : Below w'.heap.size w' w'') : Fr B g M vs vp w vs' vp' w'' :=
  h.trans ⟨hb.mono (Nat.le_trans hB h.size), hb.size, fun b hb' hl => ⟨hb', hb.block b hl⟩⟩
/-- One of the web's own blocks turns; a slice moves into a new block, if at all. -/
theorem Fr.grown {B g M : Nat} {vs vp vs' vp' : Value} {w w' : World} {row : Option Nat} (hB : B ≤ w.heap.size) (hg : w.grownBy w' row) (hr : ∀ k, row = some k → B ≤ k ∧ nr g M vs vp k = false)
    (hs : vs'.ownBlock = vs.ownBlock ∨ vs'.ownBlock = some w.heap.size) (hp : vp'.ownBlock = vp.ownBlock ∨ vp'.ownBlock = some w.heap.size) : Fr B g M vs vp w vs' vp' w' :=
  ⟨(Below.refl B w).grown hg hB (fun k hk => (hr k hk).1), hg.size, fun b hb hl => by
    obtain ⟨h1, h2, h3, h4⟩ := nr_iff.1 hb
    refine ⟨nr_iff.2 ⟨h1, h2, ?_, ?_⟩, hg.block b hl (fun e => by have := (hr b e.symm).2; rw [hb] at this; cases this)⟩
    · rcases hs with hs | hs
      · rw [hs]; exact h3
      · rw [hs]; intro e; injection e with e; omega
    · rcases hp with hp | hp
      · rw [hp]; exact h4
      · rw [hp]; intro e; injection e with e; omega⟩
theorem nr_g {g M : Nat} {vs vp : Value} : nr g M vs vp g = false := by
  rw [Bool.eq_false_iff]; intro h; exact (nr_iff.1 h).1 rfl
theorem nr_M {g M : Nat} {vs vp : Value} : nr g M vs vp M = false := by
  rw [Bool.eq_false_iff]; intro h; exact (nr_iff.1 h).2.1 rfl
theorem nr_s {g M k : Nat} {vs vp : Value} (h : vs.ownBlock = some k) : nr g M vs vp k = false := by
  rw [Bool.eq_false_iff]; intro h'; exact (nr_iff.1 h').2.2.1 h
theorem nr_p {g M k : Nat} {vs vp : Value} (h : vp.ownBlock = some k) : nr g M vs vp k = false := by
  rw [Bool.eq_false_iff]; intro h'; exact (nr_iff.1 h').2.2.2 h
theorem grown_cell (w : World) (a : Addr) (u : Value) : w.grownBy (w.setCell a u) (some a.block) :=
  ⟨rfl, rfl, rfl, by simp [World.setCell], fun k _ hk => Below.heap_setCell _ _ _ k (fun e => hk (by rw [e]))⟩
theorem TermIn.fr {B g M : Nat} {vs vp vs' vp' : Value} {w w' : World} {v : Value} {t : T} (h : TermIn (nr g M vs vp) w v t) (hf : Fr B g M vs vp w vs' vp' w') : TermIn (nr g M vs' vp') w' v t := h.keep hf.keep
/-- Places that lie in certain blocks. -/
def NumsIn (S : Nat → Bool) (w : World) (A : Option Addr) (ns : List Nat) : Prop :=
  ns.length = 0 ∨ ∃ b off, A = some ⟨b, off, none⟩ ∧ S b = true ∧ ∀ i (h : i < ns.length), w.cell? ⟨b, off + i, none⟩ = some (.int .i64 (ns[i] : Int))
theorem NumsIn.keep {S S' : Nat → Bool} {w w' : World} {A : Option Addr} {ns : List Nat} (h : NumsIn S w A ns) (hk : ∀ b, S b = true → b < w.heap.size → S' b = true ∧ w'.heap[b]? = w.heap[b]?) : NumsIn S' w' A ns := by
  rcases h with h | ⟨b, off, e, hS, hc⟩
  · exact .inl h
  · by_cases h0 : ns.length = 0
    · exact .inl h0
    · have hl := World.block_lt_of_cell? w _ (hc 0 (by omega))
      obtain ⟨h1, h2⟩ := hk b hS hl
      exact .inr ⟨b, off, e, h1, fun i hi => (World.cell?_of_block h2).trans (hc i hi)⟩
/-- A step as it lies in its five cells. -/
def StepAt (S : Nat → Bool) (w : World) (cs : List Value) (s : Stp) : Prop :=
  ∃ A cap F fc, cs = [.int .i64 s.t.kind, .string s.t.name, .slice A s.t.kids.length cap, .int .i64 (s.how : Int), .slice F s.frm.length fc] ∧ TermIn S w (.agg #[.int .i64 s.t.kind, .string s.t.name, .slice A s.t.kids.length cap]) s.t ∧ NumsIn S w F s.frm
theorem StepAt.keep {S S' : Nat → Bool} {w w' : World} {cs : List Value} {s : Stp} (h : StepAt S w cs s) (hk : ∀ b, S b = true → b < w.heap.size → S' b = true ∧ w'.heap[b]? = w.heap[b]?) : StepAt S' w' cs s := by
  obtain ⟨A, cap, F, fc, e, h1, h2⟩ := h
  exact ⟨A, cap, F, fc, e, h1.keep hk, h2.keep hk⟩
theorem StepAt.len {S : Nat → Bool} {w : World} {cs : List Value} {s : Stp} (h : StepAt S w cs s) : cs.length = 5 := by
  obtain ⟨A, cap, F, fc, e, _⟩ := h
  rw [e]; rfl
theorem StepAt.one {S : Nat → Bool} {w : World} {cs : List Value} {s : Stp} (h : StepAt S w cs s) : ∀ u ∈ cs, u.oneCell' = true := by
  obtain ⟨A, cap, F, fc, e, _⟩ := h
  subst e
  intro u hu
  simp at hu
  rcases hu with rfl | rfl | rfl | rfl | rfl <;> rfl
def StepsAt (S : Nat → Bool) (w : World) (css : List (List Value)) (W : List Stp) : Prop := css.length = W.length ∧ ∀ i (h : i < css.length) (h' : i < W.length), StepAt S w css[i] W[i]
theorem StepsAt.keep {S S' : Nat → Bool} {w w' : World} {css : List (List Value)} {W : List Stp} (h : StepsAt S w css W) (hk : ∀ b, S b = true → b < w.heap.size → S' b = true ∧ w'.heap[b]? = w.heap[b]?) : StepsAt S' w' css W :=
  ⟨h.1, fun i a b => (h.2 i a b).keep hk⟩
theorem StepsAt.push {S : Nat → Bool} {w : World} {css : List (List Value)} {W : List Stp} {cs : List Value} {s : Stp} (h : StepsAt S w css W) (hs : StepAt S w cs s) : StepsAt S w (css ++ [cs]) (W ++ [s]) := by
  refine ⟨by rw [List.length_append, List.length_append, h.1]; rfl, fun i a b => ?_⟩
  by_cases hi : i < css.length
  · rw [List.getElem_append_left hi, List.getElem_append_left (by rw [← h.1]; exact hi)]
    exact h.2 i hi (by rw [← h.1]; exact hi)
  · have e1 : i = css.length := by simp at a; omega
    subst e1
    have e2 : (css ++ [cs])[css.length]'a = cs := by simp
    have e3 : (W ++ [s])[css.length]'b = s := by rw [List.getElem_append_right (by rw [h.1]; exact Nat.le_refl _)]; simp
    rw [e2, e3]; exact hs
theorem StepsAt.mark {S : Nat → Bool} {w : World} {css : List (List Value)} {W : List Stp} (h : StepsAt S w css W) (i : Nat) : StepsAt S w css (Wb.mark W i) := by
  refine ⟨by rw [mark_len]; exact h.1, fun j a b => ?_⟩
  have hj : j < W.length := by rw [← h.1]; exact a
  obtain ⟨e1, e2, e3, _⟩ := mark_t W i j b hj
  have := h.2 j a hj
  unfold StepAt at this ⊢
  rw [e1, e2, e3]; exact this
/-- The cells of the web. -/
structure WebAt (B : Nat) (w : World) (g M : Nat) (vs vp : Value) (W : List Stp) : Prop where
  steps : ∃ css, StepsAt (nr g M vs vp) w css W ∧ w.ownsRow B 31 5 vs W.length css.flatten
  part : w.ownsRow B 4 1 vp W.length (W.map fun s => Value.bool s.part)
  map : ∃ D n, w.ownsMap Tryz.prog 9 (plainElem (H := Unit) Tryz.prog 3) M n D ∧ n ≤ W.length ∧ MapIs D W
  box : w.heap[g]? = some (.cells #[vs, .map (some M), vp] 116 (0, 0))
  low : B ≤ g ∧ B ≤ M
  size : W.length ≤ 1048576
theorem WebAt.later {B g M : Nat} {w w' : World} {vs vp : Value} {W : List Stp} (h : WebAt B w g M vs vp W) (hb : Below w.heap.size w w') : WebAt B w' g M vs vp W := by
  obtain ⟨⟨css, h1, h2⟩, h3, ⟨D, n, h4, h5⟩, h6, h7, h8⟩ := h
  exact ⟨⟨css, h1.keep fun b hb' hl => ⟨hb', hb.block b hl⟩, own_later h2 hb⟩, own_later h3 hb, ⟨D, n, h4.kept (row := none) ⟨hb.os, hb.tape, hb.output, hb.size, fun k hk _ => hb.block k hk⟩ (by simp), h5⟩,
    (hb.block g (Array.getElem?_eq_some_iff.1 h6).1).trans h6, h7, h8⟩
theorem WebAt.lt {B g M : Nat} {w : World} {vs vp : Value} {W : List Stp} (h : WebAt B w g M vs vp W) : g < w.heap.size ∧ B ≤ w.heap.size := by
  have := (Array.getElem?_eq_some_iff.1 h.box).1
  have := h.low.1
  exact ⟨by assumption, by omega⟩
/-- The web's cells as a walk reads them. -/
theorem WebAt.cells {B g M : Nat} {w : World} {vs vp : Value} {W : List Stp} (h : WebAt B w g M vs vp W) : w.cell? ⟨g, 0, none⟩ = some vs ∧ w.cell? ⟨g, 1, none⟩ = some (.map (some M)) ∧ w.cell? ⟨g, 2, none⟩ = some vp ∧ w.frozen? ⟨g, 0, none⟩ = false ∧ w.frozen? ⟨g, 2, none⟩ = false := by
  have hb := h.box
  refine ⟨?_, ?_, ?_, ?_, ?_⟩ <;> simp [World.cell?, World.frozen?, hb]
/-- What a call leaves: the web as it then is. -/
def WebTo (B g M : Nat) (w : World) (vs vp : Value) (W' : List Stp) (w' : World) : Prop := ∃ vs' vp', WebAt B w' g M vs' vp' W' ∧ Fr B g M vs vp w vs' vp' w'
end Go.Proofs.YtihbmgkbipeakaaGreat

namespace Go.Proofs.YtihbmgkbipeakaaGreat
open Go.RowKit

theorem Tryz.infoS : (Tryz.prog.info? 9).map (fun i => (i.zero, i.size, i.bytes)) = some (some (.string ByteArray.empty), 1, 16) := by kernel_rfl

theorem join_texts (ks : List T) (sv : Value) (base : Nat) (wr : World) (hown : wr.ownsRow base 9 1 sv ks.length (ks.map fun t => .string (strOf t.text))) (hkn : ks.length ≤ 262144) (htl : (T.textAll ks).length ≤ 3145728) :
    Calls Tryz.prog 188 #[sv, .string ⟨#[44, 32]⟩] wr fun e w' => e = .returned (.string (strOf (T.textAll ks))) ∧ Below wr.heap.size wr w' := by
  rcases hown.2 with ⟨rfl, h0⟩ | ⟨g, c, cur, rfl, h5, h6, h7, h8, h9, h10⟩
  · have : ks = [] := List.eq_nil_of_length_eq_zero h0
    subst this
    refine (Tryz.strings_Join_none none 0 ⟨#[44, 32]⟩ wr).mono ?_
    rintro e w' ⟨rfl, rfl⟩
    exact ⟨rfl, Below.refl _ _⟩
  · have e1 : (List.map (fun x : ByteArray => x.data.toList) (ks.map fun t => strOf t.text)) = ks.map T.text := by
      rw [List.map_map]; exact List.map_congr_left fun t _ => strOf_data t.text
    have e2 : (Lib.join (ks.map T.text) (ByteArray.mk #[44, 32]).data.toList) = T.textAll ks := (T.textAll_join ks).symm
    have hc : ∀ (i : Nat) x, (ks.map fun t => strOf t.text)[i]? = some x → wr.cell? ⟨g, 0 + i, none⟩ = some (.string x) := fun i x hx => by
      have := hown.cells (g := g) rfl i (.string x) (by
        rw [List.getElem?_map] at hx ⊢
        obtain ⟨t, ht, rfl⟩ := Option.map_eq_some_iff.1 hx
        rw [ht]; rfl)
      rw [Go.WideShapes.add_plain] at this
      exact this
    have hj := Tryz.strings_Join g 0 c (ks.map fun t => strOf t.text) ⟨#[44, 32]⟩ wr hc (Array.getElem?_eq_some_iff.1 h6).1 (by rw [List.length_map]; omega) (by rw [List.length_map]; exact h7) (by rw [e1, e2]; omega)
    rw [e1, e2, List.length_map] at hj
    exact hj

set_option maxRecDepth 100000 in
set_option maxHeartbeats 600000 in
theorem owrite : ∀ (N : Nat) (t : T) (v : Value) (w : World), t.bulk < N → TermAt w v t → t.bulk ≤ 1048576 →
    Calls Tryz.prog 155 #[v] w fun e w' => e = .returned (.string (strOf t.text)) ∧ Below w.heap.size w w' := by
  intro N
  induction N with
  | zero => intro t v w h; omega
  | succ N ih =>
    intro t v w hN ht hbk
    cases ht with
    | mk k s A cap ks U h1 h2 h3 h4 hA hU =>
      simp only [T.bulk] at hN hbk
      have hkn : ks.length ≤ 262144 := by have := T.len_le ks; omega
      have htl := T.textAll_len ks
      have hss : s.size ≤ 1048576 := by omega
      obtain ⟨i0, hi0, hz0, hz1, hz2⟩ := info_parts Tryz.infoS
      have hbx := boxed_new w (.int .i64 k) (.string s) (.slice A ks.length cap) 29
      have hb1 := below_alloc1 w (.cells #[.int .i64 k, .string s, .slice A ks.length cap] 29)
      have hsz := size_alloc1 w (.cells #[.int .i64 k, .string s, .slice A ks.length cap] 29)
      obtain ⟨R, hR⟩ : ∃ R, strOf (T.mk k s ks).text = R := ⟨_, rfl⟩
      rw [hR]
      go_enter Tryz.func155, Tryz.ntmps155
      go_upto_region 1 with fail
      generalize w.alloc (.cells #[.int .i64 k, .string s, .slice A ks.length cap] 29) = w1 at hbx hb1 hsz ⊢
      obtain ⟨x0, x1, x2⟩ := hbx
      have IH := Lib.hid ih
      have BA := Lib.hid hA; have BU := Lib.hid hU
      clear ih hA hU
      by_cases k1 : k = 1
      · subst k1
        have HR := Lib.hid (show s = R by rw [← hR]; simp only [T.text, if_true]; exact str_of s)
        clear hR
        go_wp2_with fail
        go_ret
        exact ⟨ret_str HR.out, hb1⟩
      by_cases k2 : k = 2
      · subst k2
        have HR := Lib.hid (show (⟨#[63]⟩ : ByteArray) ++ s = R by
          rw [← hR]; simp only [T.text]
          have := str_add [63] s.data.toList
          rw [← str_of s] at this
          exact this)
        clear hR k1
        go_wp2_with fail
        go_ret
        exact ⟨ret_str HR.out, hb1⟩
      have k1' : (k == 1) = false := by rw [beq_eq_false_iff_ne]; exact k1
      have k2' : (k == 2) = false := by rw [beq_eq_false_iff_ne]; exact k2
      have hR2 : strOf (if k = 3 then [60] ++ T.textAll ks ++ [62] else T.headS k ++ [40] ++ T.textAll ks ++ [41]) = R := by rw [← hR]; simp only [T.text, if_neg k1, if_neg k2]
      have HR2 := Lib.hid hR2
      clear hR hR2 k1 k2
      have HHD := T.headS_len k
      go_wp2_with fail
      go_loopw [3, 21] (fun v3 i wr => ∃ (j : Nat) (sv : Value), j ≤ ks.length ∧ i = .int .i64 j ∧ sv = v3 ∧ wr.ownsRow (w.heap.size + 1) 9 1 sv j ((ks.take j).map fun t => .string (strOf t.text)) ∧ Below w1.heap.size w1 wr) (fun _ i _ => ks.length - (intOf i).toNat)
      case atStart => exact ⟨0, _, Nat.zero_le _, rfl, rfl, World.ownsRow_nil _ _ _ _, Below.refl _ _⟩
      case round =>
        obtain ⟨j, sv, hj, rfl, rfl, hown, hbl⟩ := hrel
        have hbw := hb1.trans (hbl.mono hb1.size)
        by_cases hlt : j < ks.length
        · obtain ⟨b, off, B1, C1, rfl, d0, d1, d2, hu⟩ := TermAt.cells hlt BA.out BU.out
          have e0 := cell_later hbw d0; have e1 := cell_later hbw d1; have e2 := cell_later hbw d2
          have hi : (j : Int) < (ks.length : Int) := by omega
          have HU := Lib.hid (hu.later hbw); have HLT := Lib.hid hlt
          have HB2 := Lib.hid (show ks[j].bulk < N ∧ ks[j].bulk ≤ 1048576 by have := T.bulk_at ks j hlt; omega)
          have HOWN := Lib.hid hown; have HBL := Lib.hid hbl; have HSZ := Lib.hid hsz
          have HTK := Lib.hid (show (ks.take j).map (fun t => Value.string (strOf t.text)) ++ [.string (strOf ks[j].text)] = (ks.take (j + 1)).map (fun t => Value.string (strOf t.text)) by rw [List.take_succ_eq_append_getElem hlt, List.map_append]; rfl)
          have HKN := Lib.hid hkn
          clear d0 d1 d2 hu hj hbw hown hbl htl hss
          go_wp2_with fail
          refine (IH.out _ _ _ HB2.out.1 (HU.out.later (below_alloc1 _ _)) HB2.out.2).mono ?_; rintro e w2 ⟨rfl, hb4⟩
          replace hb4 := (below_alloc1 wr (.cells #[.int .i64 ks[j].kind, .string ks[j].name, .slice B1 ks[j].kids.length C1] 29)).trans (hb4.mono (below_alloc1 _ _).size)
          have HB4 := Lib.hid hb4
          have HOWN4 := Lib.hid ((own_later HOWN.out hb4).alloc (.cells #[.string (strOf ks[j].text)] 9))
          have HMS := Lib.hid (show w.heap.size + 1 ≤ (w2.alloc (.cells #[.string (strOf ks[j].text)] 9)).heap.size by rw [size_alloc1]; have := hb4.size; have := HBL.out.size; have := HSZ.out; omega)
          clear hb4 e0 e1 e2
          go_wp2_with (at_builtin; refine wpList_append_lies _ rfl _ _ 56 rfl (w.heap.size + 1) 9 i0 _ 1 16 Tryz.underlying56 hi0 hz0 hz1 hz2 rfl (by omega) _ j _ rfl HOWN4.out ⟨w2.heap.size, 0, none⟩ 1 1 [.string (strOf ks[j].text)] rfl rfl (cell_one_new _ _ _) (by simp [Value.oneCell']) (by omega) (by have := HLT.out; have := HKN.out; unfold maxLen; omega) (by have := HLT.out; have := HKN.out; omega) HMS.out _ rfl ?_; intro g cap' w5 hown5 hg5 hat5 hlt5)
          rw [HTK.out] at hown5
          have HO5 := Lib.hid hown5
          have HB5 := Lib.hid ((HBL.out.trans ((HB4.out.trans ((below_alloc1 w2 (.cells #[.string (strOf ks[j].text)] 9)).mono HB4.out.size)).mono HBL.out.size)).grown hg5 (by have := HMS.out; have := HSZ.out; omega) (fun q hq => by have := (HOWN.out.lt q hq).1; have := HSZ.out; omega))
          clear hown5 hg5 hat5 hlt5
          go_wp2_with fail
          go_roundw
          case rel => exact ⟨j + 1, _, HLT.out, by go_num, rfl, HO5.out, HB5.out⟩
          case measure => have := HLT.out; simp [intOf]; omega
        · obtain rfl : j = ks.length := by omega
          rw [List.take_length] at hown
          have hj := join_texts ks sv (w.heap.size + 1) wr hown hkn (by omega)
          have HJ := Lib.hid hj
          obtain ⟨J, hJ⟩ : ∃ J, T.textAll ks = J := ⟨_, rfl⟩
          rw [hJ] at HJ HR2 htl
          have HB := Lib.hid hbw; have HBL := Lib.hid hbl
          have z0 := cell_later hbl x0
          have hJs : (strOf J).size ≤ 3145728 := by rw [strOf_size]; omega
          clear hj hown hbw hbl hlt hJ x0 x1 x2 htl
          go_wp2_with fail
          refine HJ.out.mono ?_; rintro e w2 ⟨rfl, hb2⟩
          have y0 := cell_later hb2 z0
          have HB2 := Lib.hid (HB.out.trans (hb2.mono HB.out.size))
          clear hb2 z0
          by_cases k3 : k = 3
          · subst k3
            have HR := Lib.hid (show (⟨#[60]⟩ : ByteArray) ++ strOf J ++ ⟨#[62]⟩ = R by
              have := HR2.out
              simp only [if_true] at this
              rw [← this]
              show (⟨[60].toArray⟩ : ByteArray) ++ ⟨J.toArray⟩ ++ ⟨[62].toArray⟩ = _
              rw [str_add, str_add]; rfl)
            have s1 : (1 : Nat) + (strOf J).size ≤ 9223372036854775807 := by omega
            clear k1' k2'
            go_wp2_with fail
            go_ret
            exact ⟨ret_str HR.out, HB2.out⟩
          · have k3' : (k == 3) = false := by rw [beq_eq_false_iff_ne]; exact k3
            have HR := Lib.hid (show (⟨(T.headS k).toArray⟩ : ByteArray) ++ ⟨#[40]⟩ ++ strOf J ++ ⟨#[41]⟩ = R by
              have := HR2.out
              rw [if_neg k3] at this
              rw [← this]
              show (⟨(T.headS k).toArray⟩ : ByteArray) ++ ⟨[40].toArray⟩ ++ ⟨J.toArray⟩ ++ ⟨[41].toArray⟩ = _
              rw [str_add, str_add, str_add]; rfl)
            have hH : (⟨(T.headS k).toArray⟩ : ByteArray).size ≤ 5 := by rw [str_size]; exact HHD
            have HH := Lib.hid (fun W => ohead k W)
            clear k3
            generalize (⟨(T.headS k).toArray⟩ : ByteArray) = hd at HR hH HH
            go_wp2_with (go_at_call 189; refine (HH.out _).mono ?_; rintro e w' ⟨rfl, rfl⟩)
            go_ret
            exact ⟨ret_str HR.out, HB2.out⟩
end Go.Proofs.YtihbmgkbipeakaaGreat

namespace Go.Proofs.YtihbmgkbipeakaaGreat
open Go.RowKit

set_option maxRecDepth 100000 in
set_option maxHeartbeats 2000000 in
theorem oformat (t : T) (v : Value) (w : World) (ht : TermAt w v t) (hbk : t.bulk ≤ 1048576) :
    Calls Tryz.prog 129 #[v] w fun e w' => e = .returned (.string (if t.valid = true then strOf t.text else ⟨#[]⟩)) ∧ Below w.heap.size w w' := by
  have HZ := Lib.hid (fun W hW r c hr hc => ovalid t v W hW hbk r c hr hc)
  have HS := Lib.hid (fun W hW => owrite (t.bulk + 1) t v W (by omega) hW hbk)
  obtain ⟨q, hq⟩ : ∃ q, t.valid = q := ⟨_, rfl⟩
  rw [hq] at HZ ⊢
  clear hbk hq
  generalize strOf t.text = p at *
  cases ht with
  | mk k s A cap ks U h1 h2 h3 h4 hA hU =>
    have HT := Lib.hid (TermAt.mk k s A cap ks U h1 h2 h3 h4 hA hU)
    have hbx := boxed_new w (.int .i64 k) (.string s) (.slice A ks.length cap) 29
    have hb1 := below_alloc1 w (.cells #[.int .i64 k, .string s, .slice A ks.length cap] 29)
    clear hA hU
    go_enter Tryz.func129, Tryz.ntmps129
    go_upto_region 1 with fail
    generalize w.alloc (.cells #[.int .i64 k, .string s, .slice A ks.length cap] 29) = w1 at hbx hb1 ⊢
    obtain ⟨x0, x1, x2⟩ := hbx
    have HT1 := Lib.hid (HT.out.later hb1)
    cases q
    · go_wp2_with fail
      refine (HZ.out _ HT1.out false 76 rfl (.inr ⟨rfl, rfl⟩)).mono ?_; rintro e w2 ⟨rfl, hb2⟩
      replace hb2 := hb1.trans (hb2.mono hb1.size)
      clear x0 x1 x2
      go_wp2_with fail
      go_ret
      exact ⟨rfl, hb2⟩
    · go_wp2_with fail
      refine (HZ.out _ HT1.out true 0 rfl (.inl ⟨rfl, rfl⟩)).mono ?_; rintro e w2 ⟨rfl, hb2⟩
      have y0 := cell_later hb2 x0; have y1 := cell_later hb2 x1; have y2 := cell_later hb2 x2
      have HT2 := Lib.hid (HT1.out.later hb2)
      replace hb2 := hb1.trans (hb2.mono hb1.size)
      clear x0 x1 x2
      go_wp2_with fail
      refine (HS.out _ HT2.out).mono ?_; rintro e w3 ⟨rfl, hb3⟩
      replace hb3 := hb2.trans (hb3.mono hb2.size)
      go_wp2_with fail
      go_ret
      exact ⟨rfl, hb3⟩

end Go.Proofs.YtihbmgkbipeakaaGreat

namespace Go.Proofs.YtihbmgkbipeakaaGreat
open Go.RowKit Go.Maps

def fI : Option Nat → Int
  | some i => (i : Int)
  | none => -1
theorem mapS_keyed : Keyed Tryz.prog 9 := string_keyed Tryz.underlying9
theorem zero_int (w : World) : (zeroValue 3).run Tryz.prog w = .ok (.int .i64 0) w := Tryz.zeroValue3 w
theorem key_lit (K : ByteArray) (h : K.size ≤ 3145728) : keyOf Tryz.prog 9 (.string K) = some (kl K) := WideMaps.keyOf_string_mk (P := Tryz.prog) Tryz.underlying9 (by unfold maxLen; omega)
theorem T.key_size (t : T) (h : t.bulk ≤ 1048576) : t.key.size ≤ 3145728 := by
  unfold T.key
  have := T.text_len t
  split
  · rw [strOf_size]; omega
  · exact Nat.zero_le _
set_option maxRecDepth 100000 in
theorem WebAt.look {B g M : Nat} {vs vp : Value} {W : List Stp} {w : World} (h : WebAt B w g M vs vp W) (K : ByteArray) (hK : K.size ≤ 3145728) : ∃ c : Int, Sem.run Tryz.prog (Instr.lookup 113 (.map (some M)) (.string K) true) w = .ok (.tuple #[.int .i64 c, .bool (findK W K).isSome]) w ∧ ∀ i, findK W K = some i → c = (i : Int) := by
  obtain ⟨D, n, hown, _, hD⟩ := h.map
  obtain ⟨h1, h2⟩ := hD K
  obtain ⟨v, ps, hrun, hv⟩ := hown.look_ok mapS_keyed Tryz.underlying113 (zero_int w) (plainElem_int (H := Unit) Tryz.underlying3 (by decide)) (key_lit K hK)
  obtain ⟨c, rfl, hc, _⟩ := plainElem_int_inv Tryz.underlying3 hv
  rw [h1] at hrun
  refine ⟨c, hrun, fun i hi => ?_⟩
  have e : DataW.lit (.int .i64 (i : Int)) = (.lit (.int .i64 c) : DataW Unit) := (h2 i hi).symm.trans (congrArg Prod.fst hc)
  injection e with e
  injection e with _ e
  exact e.symm
theorem WebAt.look_none {B g M : Nat} {vs vp : Value} {W : List Stp} {w : World} (h : WebAt B w g M vs vp W) {K : ByteArray} (hK : K.size ≤ 3145728) (hf : findK W K = none) : ∃ c : Int, Sem.run Tryz.prog (Instr.lookup 113 (.map (some M)) (.string K) true) w = .ok (.tuple #[.int .i64 c, .bool false]) w := by
  obtain ⟨c, hc, _⟩ := h.look K hK
  rw [hf] at hc; exact ⟨c, hc⟩
theorem WebAt.look_some {B g M : Nat} {vs vp : Value} {W : List Stp} {w : World} (h : WebAt B w g M vs vp W) {K : ByteArray} {i : Nat} (hK : K.size ≤ 3145728) (hf : findK W K = some i) : Sem.run Tryz.prog (Instr.lookup 113 (.map (some M)) (.string K) true) w = .ok (.tuple #[.int .i64 i, .bool true]) w := by
  obtain ⟨c, hc, hi⟩ := h.look K hK
  rw [hi i hf, hf] at hc; exact hc

set_option maxRecDepth 100000 in
set_option maxHeartbeats 4000000 in
theorem ofind {B g M : Nat} {vs vp : Value} {W : List Stp} (t : T) (v : Value) (w : World) (h : WebAt B w g M vs vp W) (ht : TermAt w v t) (hbk : t.bulk ≤ 1048576) :
    Calls Tryz.prog 98 #[.pointer (some ⟨g, 0, none⟩), v] w fun e w' => e = .returned (.int .i64 (fI (findK W t.key))) ∧ Below w.heap.size w w' := by
  have HF := Lib.hid (fun (W' : World) (hW' : TermAt W' v t) => (show Calls Tryz.prog 129 #[v] W' fun e w' => e = .returned (.string t.key) ∧ Below W'.heap.size W' w' from oformat t v W' hW' hbk))
  have HT := Lib.hid ht
  obtain ⟨KY, hK⟩ : ∃ KY, t.key = KY := ⟨_, rfl⟩
  have HKS := Lib.hid (show KY.size ≤ 3145728 by rw [← hK]; exact t.key_size hbk)
  rw [hK] at HF ⊢
  clear hbk hK
  cases ht with
  | mk k s A cap ks U h1 h2 h3 h4 hA hU =>
  go_enter Tryz.func98, Tryz.ntmps98
  go_upto_region 1 with fail
  have bx := Box.new w (.int .i64 k) (.string s) (.slice A ks.length cap)
  have hw := below_alloc1 w (.cells #[.int .i64 k, .string s, .slice A ks.length cap] 29)
  have HT1 := Lib.hid (HT.out.later hw); have HW1 := Lib.hid (h.later hw); have HB1 := Lib.hid hw
  clear h hA hU hw h1 h2 h3 h4
  generalize w.alloc (.cells #[.int .i64 k, .string s, .slice A ks.length cap] 29) = w1 at bx HT1 HW1 HB1 ⊢
  obtain ⟨x0, x1, x2⟩ := bx.cells
  have hc1 := HW1.out.cells.2.1
  clear bx
  cases hf : findK W KY with
  | none =>
    have HF2 := Lib.hid hf
    clear hf
    (refine wp_region_held_drew (S := (fun W => W.cell? ⟨g, 1, none⟩ = some (.map (some M)) ∧ W.cell? ⟨w.heap.size, 0, none⟩ = some (.int .i64 k) ∧ W.cell? ⟨w.heap.size, 1, none⟩ = some (.string s) ∧ W.cell? ⟨w.heap.size, 2, none⟩ = some (.slice A ks.length cap) ∧ TermAt W (.agg #[.int .i64 k, .string s, .slice A ks.length cap]) (.mk k s ks) ∧ Below w1.heap.size w1 W)) (by kernel_rfl) (show _ ∧ _ ∧ _ ∧ _ ∧ _ ∧ _ from ⟨hc1, x0, x1, x2, HT1.out.drew, (Below.refl _ w1).drew⟩) (fun hHeld => ?_))
    ((first | (refine wpAnyH_take (i := 0) (v := ?_) (by simp only [List.getElem?_toArray, List.getElem?_cons_zero]; rfl) (by kernel_rfl) (by kernel_rfl) (by kernel_rfl) (by exact fun _ _ _ h => h) (Or.inl ⟨by rfl, ?_⟩) (by assumption) ?_; rotate_left 1; · (intro w hSw; (try dsimp only at hSw); go_simp; (try with_reducible rfl))) | (refine wpAnyH_take (i := 0) (v := undef) (by simp only [List.getElem?_toArray, List.getElem?_cons_zero]; rfl) (by kernel_rfl) (by kernel_rfl) (by kernel_rfl) (by exact fun _ _ _ h => h) (Or.inr ⟨by rfl, rfl⟩) (by assumption) ?_)); (try simp only [Act.put, List.setIfInBounds_toArray, List.set_cons_zero, List.set_cons_succ]))
    ((first | (refine wpAnyH_take (i := 1) (v := ?_) (by simp only [List.getElem?_toArray, List.getElem?_cons_succ, List.getElem?_cons_zero]; rfl) (by kernel_rfl) (by kernel_rfl) (by kernel_rfl) (by exact fun _ _ _ h => h) (Or.inl ⟨by rfl, ?_⟩) (by assumption) ?_; rotate_left 1; · (intro w hSw; (try dsimp only at hSw); go_simp; (try with_reducible rfl))) | (refine wpAnyH_take (i := 1) (v := undef) (by simp only [List.getElem?_toArray, List.getElem?_cons_succ, List.getElem?_cons_zero]; rfl) (by kernel_rfl) (by kernel_rfl) (by kernel_rfl) (by exact fun _ _ _ h => h) (Or.inr ⟨by rfl, rfl⟩) (by assumption) ?_)); (try simp only [Act.put, List.setIfInBounds_toArray, List.set_cons_zero, List.set_cons_succ]))
    ((first | (refine wpAnyH_take (i := 2) (v := ?_) (by simp only [List.getElem?_toArray, List.getElem?_cons_succ, List.getElem?_cons_zero]; rfl) (by kernel_rfl) (by kernel_rfl) (by kernel_rfl) (by exact fun _ _ _ h => h) (Or.inl ⟨by rfl, ?_⟩) (by assumption) ?_; rotate_left 1; · (intro w hSw; (try dsimp only at hSw); go_simp; (try with_reducible rfl))) | (refine wpAnyH_take (i := 2) (v := undef) (by simp only [List.getElem?_toArray, List.getElem?_cons_succ, List.getElem?_cons_zero]; rfl) (by kernel_rfl) (by kernel_rfl) (by kernel_rfl) (by exact fun _ _ _ h => h) (Or.inr ⟨by rfl, rfl⟩) (by assumption) ?_)); (try simp only [Act.put, List.setIfInBounds_toArray, List.set_cons_zero, List.set_cons_succ]))
    ((first | (refine wpAnyH_take (i := 3) (v := ?_) (by simp only [List.getElem?_toArray, List.getElem?_cons_succ, List.getElem?_cons_zero]; rfl) (by kernel_rfl) (by kernel_rfl) (by kernel_rfl) (by exact fun _ _ _ h => h) (Or.inl ⟨by rfl, ?_⟩) (by assumption) ?_; rotate_left 1; · (intro w hSw; (try dsimp only at hSw); go_simp; (try with_reducible rfl))) | (refine wpAnyH_take (i := 3) (v := undef) (by simp only [List.getElem?_toArray, List.getElem?_cons_succ, List.getElem?_cons_zero]; rfl) (by kernel_rfl) (by kernel_rfl) (by kernel_rfl) (by exact fun _ _ _ h => h) (Or.inr ⟨by rfl, rfl⟩) (by assumption) ?_)); (try simp only [Act.put, List.setIfInBounds_toArray, List.set_cons_zero, List.set_cons_succ]))
    ((first | (refine wpAnyH_take (i := 4) (v := ?_) (by simp only [List.getElem?_toArray, List.getElem?_cons_succ, List.getElem?_cons_zero]; rfl) (by kernel_rfl) (by kernel_rfl) (by kernel_rfl) (by exact fun _ _ _ h => h) (Or.inl ⟨by rfl, ?_⟩) (by assumption) ?_; rotate_left 1; · (intro w hSw; (try dsimp only at hSw); go_simp; (try with_reducible rfl))) | (refine wpAnyH_take (i := 4) (v := undef) (by simp only [List.getElem?_toArray, List.getElem?_cons_succ, List.getElem?_cons_zero]; rfl) (by kernel_rfl) (by kernel_rfl) (by kernel_rfl) (by exact fun _ _ _ h => h) (Or.inr ⟨by rfl, rfl⟩) (by assumption) ?_)); (try simp only [Act.put, List.setIfInBounds_toArray, List.set_cons_zero, List.set_cons_succ]))
    (refine wpAnyH_ready (rs := [5]) (by kernel_rfl) (by simp) ?_; refine AllReadyH.cons (by simp only [List.getElem?_toArray, List.getElem?_cons_succ, List.getElem?_cons_zero]; rfl) (fun K hK => ?_) AllReadyH.nil; go_simp; go_at_call 129; refine (HF.out _ hHeld.2.2.2.2.1).mono ?_; rintro e w4 ⟨rfl, hb4⟩; have hbl4 := hHeld.2.2.2.2.2.trans (hb4.mono hHeld.2.2.2.2.2.size); obtain ⟨c4, hlk⟩ := (HW1.out.later hbl4).look_none HKS.out HF2.out; refine hK.out _ _ (⟨cell_later hb4 hHeld.1, cell_later hb4 hHeld.2.1, cell_later hb4 hHeld.2.2.1, cell_later hb4 hHeld.2.2.2.1, hHeld.2.2.2.2.1.later hb4, hHeld.2.2.2.2.2.trans (hb4.mono hHeld.2.2.2.2.2.size)⟩) (fun hHeld => ?_); clear hK K; (try simp only [Act.put, List.setIfInBounds_toArray, List.set_cons_zero, List.set_cons_succ]))
    (refine wpAnyH_ready (rs := [6]) (by kernel_rfl) (by simp) ?_; refine AllReadyH.cons (by simp only [List.getElem?_toArray, List.getElem?_cons_succ, List.getElem?_cons_zero]; rfl) (fun K hK => ?_) AllReadyH.nil; go_simp; skip; refine hK.out _ _ (hHeld) (fun hHeld => ?_); clear hK K; (try simp only [Act.put, List.setIfInBounds_toArray, List.set_cons_zero, List.set_cons_succ]))
    ((first | (refine wpAnyH_take (i := 7) (v := ?_) (by simp only [List.getElem?_toArray, List.getElem?_cons_succ, List.getElem?_cons_zero]; rfl) (by kernel_rfl) (by kernel_rfl) (by kernel_rfl) (by exact fun _ _ _ h => h) (Or.inl ⟨by rfl, ?_⟩) (by assumption) ?_; rotate_left 1; · (intro w hSw; (try dsimp only at hSw); go_simp; (try with_reducible rfl))) | (refine wpAnyH_take (i := 7) (v := undef) (by simp only [List.getElem?_toArray, List.getElem?_cons_succ, List.getElem?_cons_zero]; rfl) (by kernel_rfl) (by kernel_rfl) (by kernel_rfl) (by exact fun _ _ _ h => h) (Or.inr ⟨by rfl, rfl⟩) (by assumption) ?_)); (try simp only [Act.put, List.setIfInBounds_toArray, List.set_cons_zero, List.set_cons_succ]))
    ((first | (refine wpAnyH_take (i := 8) (v := ?_) (by simp only [List.getElem?_toArray, List.getElem?_cons_succ, List.getElem?_cons_zero]; rfl) (by kernel_rfl) (by kernel_rfl) (by kernel_rfl) (by exact fun _ _ _ h => h) (Or.inl ⟨by rfl, ?_⟩) (by assumption) ?_; rotate_left 1; · (intro w hSw; (try dsimp only at hSw); go_simp; (try with_reducible rfl))) | (refine wpAnyH_take (i := 8) (v := undef) (by simp only [List.getElem?_toArray, List.getElem?_cons_succ, List.getElem?_cons_zero]; rfl) (by kernel_rfl) (by kernel_rfl) (by kernel_rfl) (by exact fun _ _ _ h => h) (Or.inr ⟨by rfl, rfl⟩) (by assumption) ?_)); (try simp only [Act.put, List.setIfInBounds_toArray, List.set_cons_zero, List.set_cons_succ]))
    ((first | (refine wpAnyH_take (i := 9) (v := ?_) (by simp only [List.getElem?_toArray, List.getElem?_cons_succ, List.getElem?_cons_zero]; rfl) (by kernel_rfl) (by kernel_rfl) (by kernel_rfl) (by exact fun _ _ _ h => h) (Or.inl ⟨by rfl, ?_⟩) (by assumption) ?_; rotate_left 1; · (intro w hSw; (try dsimp only at hSw); go_simp; (try with_reducible rfl))) | (refine wpAnyH_take (i := 9) (v := undef) (by simp only [List.getElem?_toArray, List.getElem?_cons_succ, List.getElem?_cons_zero]; rfl) (by kernel_rfl) (by kernel_rfl) (by kernel_rfl) (by exact fun _ _ _ h => h) (Or.inr ⟨by rfl, rfl⟩) (by assumption) ?_)); (try simp only [Act.put, List.setIfInBounds_toArray, List.set_cons_zero, List.set_cons_succ]))
    ((first | (refine wpAnyH_take (i := 10) (v := ?_) (by simp only [List.getElem?_toArray, List.getElem?_cons_succ, List.getElem?_cons_zero]; rfl) (by kernel_rfl) (by kernel_rfl) (by kernel_rfl) (by exact fun _ _ _ h => h) (Or.inl ⟨by rfl, ?_⟩) (by assumption) ?_; rotate_left 1; · (intro w hSw; (try dsimp only at hSw); go_simp; (try with_reducible rfl))) | (refine wpAnyH_take (i := 10) (v := undef) (by simp only [List.getElem?_toArray, List.getElem?_cons_succ, List.getElem?_cons_zero]; rfl) (by kernel_rfl) (by kernel_rfl) (by kernel_rfl) (by exact fun _ _ _ h => h) (Or.inr ⟨by rfl, rfl⟩) (by assumption) ?_)); (try simp only [Act.put, List.setIfInBounds_toArray, List.set_cons_zero, List.set_cons_succ]))
    ((first | (refine wpAnyH_take (i := 11) (v := ?_) (by simp only [List.getElem?_toArray, List.getElem?_cons_succ, List.getElem?_cons_zero]; rfl) (by kernel_rfl) (by kernel_rfl) (by kernel_rfl) (by exact fun _ _ _ h => h) (Or.inl ⟨by rfl, ?_⟩) (by assumption) ?_; rotate_left 1; · (intro w hSw; (try dsimp only at hSw); go_simp; (try with_reducible rfl))) | (refine wpAnyH_take (i := 11) (v := undef) (by simp only [List.getElem?_toArray, List.getElem?_cons_succ, List.getElem?_cons_zero]; rfl) (by kernel_rfl) (by kernel_rfl) (by kernel_rfl) (by exact fun _ _ _ h => h) (Or.inr ⟨by rfl, rfl⟩) (by assumption) ?_)); (try simp only [Act.put, List.setIfInBounds_toArray, List.set_cons_zero, List.set_cons_succ]))
    (refine wpAnyH_done (by kernel_rfl) ?_ _)
    go_wp2_with fail
    go_ret
    exact ⟨by rw [HF2.out]; rfl, HB1.out.trans (hHeld.2.2.2.2.2.mono HB1.out.size)⟩
  | some i =>
    have HF2 := Lib.hid hf
    clear hf
    (refine wp_region_held_drew (S := (fun W => W.cell? ⟨g, 1, none⟩ = some (.map (some M)) ∧ W.cell? ⟨w.heap.size, 0, none⟩ = some (.int .i64 k) ∧ W.cell? ⟨w.heap.size, 1, none⟩ = some (.string s) ∧ W.cell? ⟨w.heap.size, 2, none⟩ = some (.slice A ks.length cap) ∧ TermAt W (.agg #[.int .i64 k, .string s, .slice A ks.length cap]) (.mk k s ks) ∧ Below w1.heap.size w1 W)) (by kernel_rfl) (show _ ∧ _ ∧ _ ∧ _ ∧ _ ∧ _ from ⟨hc1, x0, x1, x2, HT1.out.drew, (Below.refl _ w1).drew⟩) (fun hHeld => ?_))
    ((first | (refine wpAnyH_take (i := 0) (v := ?_) (by simp only [List.getElem?_toArray, List.getElem?_cons_zero]; rfl) (by kernel_rfl) (by kernel_rfl) (by kernel_rfl) (by exact fun _ _ _ h => h) (Or.inl ⟨by rfl, ?_⟩) (by assumption) ?_; rotate_left 1; · (intro w hSw; (try dsimp only at hSw); go_simp; (try with_reducible rfl))) | (refine wpAnyH_take (i := 0) (v := undef) (by simp only [List.getElem?_toArray, List.getElem?_cons_zero]; rfl) (by kernel_rfl) (by kernel_rfl) (by kernel_rfl) (by exact fun _ _ _ h => h) (Or.inr ⟨by rfl, rfl⟩) (by assumption) ?_)); (try simp only [Act.put, List.setIfInBounds_toArray, List.set_cons_zero, List.set_cons_succ]))
    ((first | (refine wpAnyH_take (i := 1) (v := ?_) (by simp only [List.getElem?_toArray, List.getElem?_cons_succ, List.getElem?_cons_zero]; rfl) (by kernel_rfl) (by kernel_rfl) (by kernel_rfl) (by exact fun _ _ _ h => h) (Or.inl ⟨by rfl, ?_⟩) (by assumption) ?_; rotate_left 1; · (intro w hSw; (try dsimp only at hSw); go_simp; (try with_reducible rfl))) | (refine wpAnyH_take (i := 1) (v := undef) (by simp only [List.getElem?_toArray, List.getElem?_cons_succ, List.getElem?_cons_zero]; rfl) (by kernel_rfl) (by kernel_rfl) (by kernel_rfl) (by exact fun _ _ _ h => h) (Or.inr ⟨by rfl, rfl⟩) (by assumption) ?_)); (try simp only [Act.put, List.setIfInBounds_toArray, List.set_cons_zero, List.set_cons_succ]))
    ((first | (refine wpAnyH_take (i := 2) (v := ?_) (by simp only [List.getElem?_toArray, List.getElem?_cons_succ, List.getElem?_cons_zero]; rfl) (by kernel_rfl) (by kernel_rfl) (by kernel_rfl) (by exact fun _ _ _ h => h) (Or.inl ⟨by rfl, ?_⟩) (by assumption) ?_; rotate_left 1; · (intro w hSw; (try dsimp only at hSw); go_simp; (try with_reducible rfl))) | (refine wpAnyH_take (i := 2) (v := undef) (by simp only [List.getElem?_toArray, List.getElem?_cons_succ, List.getElem?_cons_zero]; rfl) (by kernel_rfl) (by kernel_rfl) (by kernel_rfl) (by exact fun _ _ _ h => h) (Or.inr ⟨by rfl, rfl⟩) (by assumption) ?_)); (try simp only [Act.put, List.setIfInBounds_toArray, List.set_cons_zero, List.set_cons_succ]))
    ((first | (refine wpAnyH_take (i := 3) (v := ?_) (by simp only [List.getElem?_toArray, List.getElem?_cons_succ, List.getElem?_cons_zero]; rfl) (by kernel_rfl) (by kernel_rfl) (by kernel_rfl) (by exact fun _ _ _ h => h) (Or.inl ⟨by rfl, ?_⟩) (by assumption) ?_; rotate_left 1; · (intro w hSw; (try dsimp only at hSw); go_simp; (try with_reducible rfl))) | (refine wpAnyH_take (i := 3) (v := undef) (by simp only [List.getElem?_toArray, List.getElem?_cons_succ, List.getElem?_cons_zero]; rfl) (by kernel_rfl) (by kernel_rfl) (by kernel_rfl) (by exact fun _ _ _ h => h) (Or.inr ⟨by rfl, rfl⟩) (by assumption) ?_)); (try simp only [Act.put, List.setIfInBounds_toArray, List.set_cons_zero, List.set_cons_succ]))
    ((first | (refine wpAnyH_take (i := 4) (v := ?_) (by simp only [List.getElem?_toArray, List.getElem?_cons_succ, List.getElem?_cons_zero]; rfl) (by kernel_rfl) (by kernel_rfl) (by kernel_rfl) (by exact fun _ _ _ h => h) (Or.inl ⟨by rfl, ?_⟩) (by assumption) ?_; rotate_left 1; · (intro w hSw; (try dsimp only at hSw); go_simp; (try with_reducible rfl))) | (refine wpAnyH_take (i := 4) (v := undef) (by simp only [List.getElem?_toArray, List.getElem?_cons_succ, List.getElem?_cons_zero]; rfl) (by kernel_rfl) (by kernel_rfl) (by kernel_rfl) (by exact fun _ _ _ h => h) (Or.inr ⟨by rfl, rfl⟩) (by assumption) ?_)); (try simp only [Act.put, List.setIfInBounds_toArray, List.set_cons_zero, List.set_cons_succ]))
    (refine wpAnyH_ready (rs := [5]) (by kernel_rfl) (by simp) ?_; refine AllReadyH.cons (by simp only [List.getElem?_toArray, List.getElem?_cons_succ, List.getElem?_cons_zero]; rfl) (fun K hK => ?_) AllReadyH.nil; go_simp; go_at_call 129; refine (HF.out _ hHeld.2.2.2.2.1).mono ?_; rintro e w4 ⟨rfl, hb4⟩; have hbl4 := hHeld.2.2.2.2.2.trans (hb4.mono hHeld.2.2.2.2.2.size); obtain hlk := (HW1.out.later hbl4).look_some HKS.out HF2.out; refine hK.out _ _ (⟨cell_later hb4 hHeld.1, cell_later hb4 hHeld.2.1, cell_later hb4 hHeld.2.2.1, cell_later hb4 hHeld.2.2.2.1, hHeld.2.2.2.2.1.later hb4, hHeld.2.2.2.2.2.trans (hb4.mono hHeld.2.2.2.2.2.size)⟩) (fun hHeld => ?_); clear hK K; (try simp only [Act.put, List.setIfInBounds_toArray, List.set_cons_zero, List.set_cons_succ]))
    (refine wpAnyH_ready (rs := [6]) (by kernel_rfl) (by simp) ?_; refine AllReadyH.cons (by simp only [List.getElem?_toArray, List.getElem?_cons_succ, List.getElem?_cons_zero]; rfl) (fun K hK => ?_) AllReadyH.nil; go_simp; skip; refine hK.out _ _ (hHeld) (fun hHeld => ?_); clear hK K; (try simp only [Act.put, List.setIfInBounds_toArray, List.set_cons_zero, List.set_cons_succ]))
    ((first | (refine wpAnyH_take (i := 7) (v := ?_) (by simp only [List.getElem?_toArray, List.getElem?_cons_succ, List.getElem?_cons_zero]; rfl) (by kernel_rfl) (by kernel_rfl) (by kernel_rfl) (by exact fun _ _ _ h => h) (Or.inl ⟨by rfl, ?_⟩) (by assumption) ?_; rotate_left 1; · (intro w hSw; (try dsimp only at hSw); go_simp; (try with_reducible rfl))) | (refine wpAnyH_take (i := 7) (v := undef) (by simp only [List.getElem?_toArray, List.getElem?_cons_succ, List.getElem?_cons_zero]; rfl) (by kernel_rfl) (by kernel_rfl) (by kernel_rfl) (by exact fun _ _ _ h => h) (Or.inr ⟨by rfl, rfl⟩) (by assumption) ?_)); (try simp only [Act.put, List.setIfInBounds_toArray, List.set_cons_zero, List.set_cons_succ]))
    ((first | (refine wpAnyH_take (i := 8) (v := ?_) (by simp only [List.getElem?_toArray, List.getElem?_cons_succ, List.getElem?_cons_zero]; rfl) (by kernel_rfl) (by kernel_rfl) (by kernel_rfl) (by exact fun _ _ _ h => h) (Or.inl ⟨by rfl, ?_⟩) (by assumption) ?_; rotate_left 1; · (intro w hSw; (try dsimp only at hSw); go_simp; (try with_reducible rfl))) | (refine wpAnyH_take (i := 8) (v := undef) (by simp only [List.getElem?_toArray, List.getElem?_cons_succ, List.getElem?_cons_zero]; rfl) (by kernel_rfl) (by kernel_rfl) (by kernel_rfl) (by exact fun _ _ _ h => h) (Or.inr ⟨by rfl, rfl⟩) (by assumption) ?_)); (try simp only [Act.put, List.setIfInBounds_toArray, List.set_cons_zero, List.set_cons_succ]))
    ((first | (refine wpAnyH_take (i := 9) (v := ?_) (by simp only [List.getElem?_toArray, List.getElem?_cons_succ, List.getElem?_cons_zero]; rfl) (by kernel_rfl) (by kernel_rfl) (by kernel_rfl) (by exact fun _ _ _ h => h) (Or.inl ⟨by rfl, ?_⟩) (by assumption) ?_; rotate_left 1; · (intro w hSw; (try dsimp only at hSw); go_simp; (try with_reducible rfl))) | (refine wpAnyH_take (i := 9) (v := undef) (by simp only [List.getElem?_toArray, List.getElem?_cons_succ, List.getElem?_cons_zero]; rfl) (by kernel_rfl) (by kernel_rfl) (by kernel_rfl) (by exact fun _ _ _ h => h) (Or.inr ⟨by rfl, rfl⟩) (by assumption) ?_)); (try simp only [Act.put, List.setIfInBounds_toArray, List.set_cons_zero, List.set_cons_succ]))
    ((first | (refine wpAnyH_take (i := 10) (v := ?_) (by simp only [List.getElem?_toArray, List.getElem?_cons_succ, List.getElem?_cons_zero]; rfl) (by kernel_rfl) (by kernel_rfl) (by kernel_rfl) (by exact fun _ _ _ h => h) (Or.inl ⟨by rfl, ?_⟩) (by assumption) ?_; rotate_left 1; · (intro w hSw; (try dsimp only at hSw); go_simp; (try with_reducible rfl))) | (refine wpAnyH_take (i := 10) (v := undef) (by simp only [List.getElem?_toArray, List.getElem?_cons_succ, List.getElem?_cons_zero]; rfl) (by kernel_rfl) (by kernel_rfl) (by kernel_rfl) (by exact fun _ _ _ h => h) (Or.inr ⟨by rfl, rfl⟩) (by assumption) ?_)); (try simp only [Act.put, List.setIfInBounds_toArray, List.set_cons_zero, List.set_cons_succ]))
    ((first | (refine wpAnyH_take (i := 11) (v := ?_) (by simp only [List.getElem?_toArray, List.getElem?_cons_succ, List.getElem?_cons_zero]; rfl) (by kernel_rfl) (by kernel_rfl) (by kernel_rfl) (by exact fun _ _ _ h => h) (Or.inl ⟨by rfl, ?_⟩) (by assumption) ?_; rotate_left 1; · (intro w hSw; (try dsimp only at hSw); go_simp; (try with_reducible rfl))) | (refine wpAnyH_take (i := 11) (v := undef) (by simp only [List.getElem?_toArray, List.getElem?_cons_succ, List.getElem?_cons_zero]; rfl) (by kernel_rfl) (by kernel_rfl) (by kernel_rfl) (by exact fun _ _ _ h => h) (Or.inr ⟨by rfl, rfl⟩) (by assumption) ?_)); (try simp only [Act.put, List.setIfInBounds_toArray, List.set_cons_zero, List.set_cons_succ]))
    (refine wpAnyH_done (by kernel_rfl) ?_ _)
    go_wp2_with fail
    go_ret
    exact ⟨by rw [HF2.out]; rfl, HB1.out.trans (hHeld.2.2.2.2.2.mono HB1.out.size)⟩
end Go.Proofs.YtihbmgkbipeakaaGreat

namespace Go.Proofs.YtihbmgkbipeakaaGreat
open Go.RowKit

theorem own_keep {w w' : World} {base : Nat} {e : TypeId} {size n : Nat} {v : Value} {xs : List Value} (h : w.ownsRow base e size v n xs) (hk : ∀ b, v.ownBlock = some b → b < w.heap.size → w'.heap[b]? = w.heap[b]?) : w'.ownsRow base e size v n xs := by
  refine ⟨h.1, ?_⟩
  rcases h.2 with h0 | ⟨g, cap, cur, hv, hb, hg, rest⟩
  · exact .inl h0
  · exact .inr ⟨g, cap, cur, hv, hb, (hk g (by rw [hv]; rfl) (Array.getElem?_eq_some_iff.1 hg).1).trans hg, rest⟩
theorem own_type {w : World} {base : Nat} {e : TypeId} {size n : Nat} {v : Value} {xs : List Value} (h : w.ownsRow base e size v n xs) {b : Nat} (hv : v.ownBlock = some b) : base ≤ b ∧ b < w.heap.size ∧ ∃ cur, w.heap[b]? = some (.cells cur e (0, 0)) := by
  rcases h.2 with ⟨rfl, _⟩ | ⟨g, cap, cur, rfl, hb, hg, _⟩
  · cases hv
  · injection hv with hv
    subst hv
    exact ⟨hb, (Array.getElem?_eq_some_iff.1 hg).1, cur, hg⟩
theorem own_shape {w : World} {base : Nat} {e : TypeId} {size n : Nat} {v : Value} {xs : List Value} (h : w.ownsRow base e size v n xs) : ∃ A c, v = .slice A n c := by
  rcases h.2 with ⟨rfl, rfl⟩ | ⟨g, cap, cur, rfl, _⟩
  · exact ⟨_, _, rfl⟩
  · exact ⟨_, _, rfl⟩
theorem WebAt.shapes {B g M : Nat} {vs vp : Value} {W : List Stp} {w : World} (h : WebAt B w g M vs vp W) : ∃ A c A' c', vs = .slice A W.length c ∧ vp = .slice A' W.length c' := by
  obtain ⟨css, _, h2⟩ := h.steps
  obtain ⟨A, c, e⟩ := own_shape h2
  obtain ⟨A', c', e'⟩ := own_shape h.part
  exact ⟨A, c, A', c', e, e'⟩
theorem ne_of_cells {o : Option Obj} {c c' : Array Value} {e e' : TypeId} {z z' : Nat × Nat} (h : o = some (.cells c e z)) (h' : o = some (.cells c' e' z')) (hne : e ≠ e') : False := by
  rw [h] at h'; injection h' with h'; injection h' with _ h'; exact hne h'
theorem ne_of_map {o : Option Obj} {c : Array Value} {e : TypeId} {z : Nat × Nat} {es : Array MapEntry} {k : Nat} (h : o = some (.cells c e z)) (h' : o = some (.map es k)) : False := by
  rw [h] at h'; injection h' with h'; cases h'
theorem map_block {P : Program} {k : TypeId} {R : Value → Option (DataW Unit × List MemPlace)} {w : World} {b n : Nat} {D : DataW Unit} (h : w.ownsMap P k R b n D) : ∃ es c, w.heap[b]? = some (.map es c) := by
  obtain ⟨es, clock, hb, _⟩ := h
  exact ⟨es, clock, hb⟩
/-- The web's own blocks are apart. -/
structure WebApart (B : Nat) (w : World) (g M : Nat) (vs vp : Value) : Prop where
  s : ∀ b, vs.ownBlock = some b → B ≤ b ∧ b < w.heap.size ∧ b ≠ g ∧ b ≠ M ∧ vp.ownBlock ≠ some b
  p : ∀ b, vp.ownBlock = some b → B ≤ b ∧ b < w.heap.size ∧ b ≠ g ∧ b ≠ M ∧ vs.ownBlock ≠ some b
  gm : g ≠ M
  g : g < w.heap.size
  m : M < w.heap.size
theorem WebAt.apart {B g M : Nat} {vs vp : Value} {W : List Stp} {w : World} (h : WebAt B w g M vs vp W) : WebApart B w g M vs vp := by
  obtain ⟨css, _, h2⟩ := h.steps
  obtain ⟨D, n, h4, _, _⟩ := h.map
  obtain ⟨es, k, hm⟩ := map_block h4
  have hp := h.part
  have hb := h.box
  refine ⟨fun b e => ?_, fun b e => ?_, fun e => ?_, (Array.getElem?_eq_some_iff.1 hb).1, (Array.getElem?_eq_some_iff.1 hm).1⟩
  · obtain ⟨a1, a2, cur, a3⟩ := own_type h2 e
    refine ⟨a1, a2, fun x => ?_, fun x => ?_, fun x => ?_⟩
    · subst x; exact ne_of_cells a3 hb (by decide)
    · subst x; exact ne_of_map a3 hm
    · obtain ⟨_, _, cur', a4⟩ := own_type hp x
      exact ne_of_cells a3 a4 (by decide)
  · obtain ⟨a1, a2, cur, a3⟩ := own_type hp e
    refine ⟨a1, a2, fun x => ?_, fun x => ?_, fun x => ?_⟩
    · subst x; exact ne_of_cells a3 hb (by decide)
    · subst x; exact ne_of_map a3 hm
    · obtain ⟨_, _, cur', a4⟩ := own_type h2 x
      exact ne_of_cells a4 a3 (by decide)
  · subst e; exact ne_of_map hb hm
theorem heap_set_box {w : World} {g : Nat} {a b c : Value} {e : TypeId} (h : w.heap[g]? = some (.cells #[a, b, c] e (0, 0))) (v : Value) : (w.setCell ⟨g, 0, none⟩ v).heap[g]? = some (.cells #[v, b, c] e (0, 0)) ∧ (w.setCell ⟨g, 2, none⟩ v).heap[g]? = some (.cells #[a, b, v] e (0, 0)) := by
  refine ⟨?_, ?_⟩ <;> simp [World.setCell, Array.getElem?_modify, h]
theorem setCell_size (w : World) (a : Addr) (v : Value) : (w.setCell a v).heap.size = w.heap.size := by simp [World.setCell]
/-- What the five turns of 'add' leave: the map is told, a step and its mark are appended. -/
theorem WebAt.pushed {B g M : Nat} {vs vp vs' vp' : Value} {W : List Stp} {w4 w5 w6 w7 w9 w10 : World} {t : T} {how : Nat} {frm : List Nat} {cs : List Value} {css : List (List Value)} {D : DataW Unit} {n : Nat}
    (h : WebAt B w4 g M vs vp W) (hst : StepsAt (nr g M vs vp) w4 css W) (hD : MapIs D W) (hmD : Maps.IsMap D) (hn : n ≤ W.length) (hm : w4.mapTurned w5 M)
    (hm5 : w5.ownsMap Tryz.prog 9 (plainElem (H := Unit) Tryz.prog 3) M (n + 1) (D.put (kl t.key) (.lit (.int .i64 (W.length : Int)))))
    (hs : StepAt (nr g M vs vp) w4 cs ⟨t, how, frm, false⟩) (hf : findK W t.key = none) (hsz : W.length < 1048576) (hb6 : Below w5.heap.size w5 w6)
    (hown7 : w7.ownsRow B 31 5 vs' (W.length + 1) (css.flatten ++ cs)) (hg7 : w6.grownBy w7 vs.ownBlock) (hat7 : vs'.ownBlock = vs.ownBlock ∨ vs'.ownBlock = some w6.heap.size) (hb9 : Below (w7.setCell ⟨g, 0, none⟩ vs').heap.size (w7.setCell ⟨g, 0, none⟩ vs') w9)
    (hown10 : w10.ownsRow B 4 1 vp' (W.length + 1) (W.map (fun s => Value.bool s.part) ++ [.bool false])) (hg10 : w9.grownBy w10 vp.ownBlock) (hat10 : vp'.ownBlock = vp.ownBlock ∨ vp'.ownBlock = some w9.heap.size) :
    WebTo B g M w4 vs vp (W ++ [⟨t, how, frm, false⟩]) (w10.setCell ⟨g, 2, none⟩ vp') := by
  have ap := h.apart
  have z4 := h.lt.2
  have z5 := hm.grown.size
  have z6 := hb6.size
  have z7 := hg7.size
  have z9 := hb9.size
  rw [setCell_size] at z9
  have z10 := hg10.size
  have l := h.low
  -- the frame
  have F1 : Fr B g M vs vp w4 vs vp w5 := Fr.grown z4 hm.grown (fun k hk => by injection hk with hk; subst hk; exact ⟨l.2, nr_M⟩) (.inl rfl) (.inl rfl)
  have F2 := F1.later z4 hb6
  have F3 := F2.trans (Fr.grown (by omega) hg7 (fun k hk => ⟨(ap.s k hk).1, nr_s hk⟩) hat7 (.inl rfl))
  have F4 := F3.trans (Fr.grown (vs' := vs') (vp' := vp) (by omega) (grown_cell w7 ⟨g, 0, none⟩ vs') (fun k hk => by injection hk with hk; subst hk; exact ⟨l.1, nr_g⟩) (.inl rfl) (.inl rfl))
  have F5 := F4.later z4 hb9
  have F6 := F5.trans (Fr.grown (by omega) hg10 (fun k hk => ⟨(ap.p k hk).1, nr_p hk⟩) (.inl rfl) hat10)
  have F7 := F6.trans (Fr.grown (vs' := vs') (vp' := vp') (by omega) (grown_cell w10 ⟨g, 2, none⟩ vp') (fun k hk => by injection hk with hk; subst hk; exact ⟨l.1, nr_g⟩) (.inl rfl) (.inl rfl))
  -- the box
  have gl := ap.g
  have b5 : w5.heap[g]? = _ := (hm.grown.block g ap.g (fun e => ap.gm (by injection e))).trans h.box
  have b6 : w6.heap[g]? = _ := (hb6.block g (by omega)).trans b5
  have hsg : vs.ownBlock ≠ some g := fun e => (ap.s g e).2.2.1 rfl
  have hpg : vp.ownBlock ≠ some g := fun e => (ap.p g e).2.2.1 rfl
  have hsM : vs.ownBlock ≠ some M := fun e => (ap.s M e).2.2.2.1 rfl
  have hpM : vp.ownBlock ≠ some M := fun e => (ap.p M e).2.2.2.1 rfl
  have b7 : w7.heap[g]? = _ := (hg7.block g (by omega) (fun e => hsg e.symm)).trans b6
  have b8 := (heap_set_box b7 vs').1
  have b9 : w9.heap[g]? = _ := (hb9.block g (by rw [setCell_size]; omega)).trans b8
  have b10 : w10.heap[g]? = _ := (hg10.block g (by omega) (fun e => hpg e.symm)).trans b9
  have b11 := (heap_set_box b10 vp').2
  -- the steps' row stays behind the marks' append
  have hs7 : ∀ b, vs'.ownBlock = some b → b < w7.heap.size ∧ b ≠ g ∧ vp.ownBlock ≠ some b := fun b e => by
    obtain ⟨_, a2, cur, a3⟩ := own_type hown7 e
    refine ⟨a2, fun x => by subst x; exact ne_of_cells a3 b7 (by decide), fun x => ?_⟩
    rcases hat7 with a4 | a4
    · exact (ap.s b (a4.symm.trans e)).2.2.2.2 x
    · rw [e] at a4; injection a4 with a4
      have := (ap.p b x).2.1
      omega
  have own11 : (w10.setCell ⟨g, 2, none⟩ vp').ownsRow B 31 5 vs' (W.length + 1) (css.flatten ++ cs) := own_keep hown7 fun b e hb => by
    obtain ⟨_, a2, a3⟩ := hs7 b e
    rw [Below.heap_setCell _ _ _ _ a2, hg10.block b (by omega) (fun x => a3 x.symm), hb9.block b (by rw [setCell_size]; omega), Below.heap_setCell _ _ _ _ a2]
  have part11 : (w10.setCell ⟨g, 2, none⟩ vp').ownsRow B 4 1 vp' (W.length + 1) (W.map (fun s => Value.bool s.part) ++ [.bool false]) := own_keep hown10 fun b e hb => by
    obtain ⟨_, _, cur, a3⟩ := own_type hown10 e
    exact Below.heap_setCell _ _ _ _ (fun x => by subst x; exact ne_of_cells a3 b10 (by decide))
  -- the map
  have m6 := hm5.kept (row := none) (w' := w6) (grownBy_of_below none hb6) (by simp)
  have m7 := m6.kept hg7 (fun e => hsM e.symm)
  have m8 := m7.setCell (a := ⟨g, 0, none⟩) (fun e => ap.gm e.symm) vs'
  have m9 := m8.kept (row := none) (w' := w9) (grownBy_of_below none hb9) (by simp)
  have m10 := m9.kept hg10 (fun e => hpM e.symm)
  have m11 := m10.setCell (a := ⟨g, 2, none⟩) (fun e => ap.gm e.symm) vp'
  refine ⟨vs', vp', ⟨⟨css ++ [cs], (hst.keep F7.keep).push (hs.keep F7.keep), ?_⟩, ?_, ⟨_, n + 1, m11, by simp; omega, hD.push hmD ⟨t, how, frm, false⟩ hf⟩, b11, l, by simp; omega⟩, F7⟩
  · have e : (css ++ [cs]).flatten = css.flatten ++ cs := by simp
    rw [e, List.length_append]; exact own11
  · rw [List.length_append, List.map_append]; exact part11
end Go.Proofs.YtihbmgkbipeakaaGreat
