/- Several texts in one: WebX, WebO. -/
import Derived.Test.YtihbmgkbipeakaaGreatWebG0
import Derived.Test.YtihbmgkbipeakaaGreatWebG15
namespace Go.Proofs.YtihbmgkbipeakaaGreat
open Go.RowKit Go.Maps

theorem mapI_keyed : Keyed Tryz.prog 3 := int_keyed Tryz.underlying3
theorem key_int (i : Nat) (h : i ≤ 1048576) : keyOf Tryz.prog 3 (.int .i64 (i : Int)) = some (kn i) := keyOf_int_mk Tryz.underlying3 (wf_len i h)
set_option maxRecDepth 100000 in
theorem PlAt.look {H M : Nat} {w : World} {pl : List (Nat × Nat)} (h : PlAt H M w pl) (i : Nat) (hi : i ≤ 1048576) : ∃ c : Int, Sem.run Tryz.prog (Instr.lookup 89 (.map (some M)) (.int .i64 (i : Int)) true) w = .ok (.tuple #[.int .i64 c, .bool (pl.lookup i).isSome]) w ∧ ∀ k, pl.lookup i = some k → c = (k : Int) := by
  obtain ⟨_, D, n, hown, _, hD⟩ := h
  obtain ⟨h1, h2⟩ := hD i
  obtain ⟨v, ps, hrun, hv⟩ := hown.look_ok mapI_keyed Tryz.underlying89 (zero_int w) (plainElem_int (H := Unit) Tryz.underlying3 (by decide)) (key_int i hi)
  obtain ⟨c, rfl, hc, _⟩ := plainElem_int_inv Tryz.underlying3 hv
  rw [h1] at hrun
  refine ⟨c, hrun, fun k hk => ?_⟩
  have e : DataW.lit (.int .i64 (k : Int)) = (.lit (.int .i64 c) : DataW Unit) := (h2 k hk).symm.trans (congrArg Prod.fst hc)
  injection e with e
  injection e with _ e
  exact e.symm
theorem PlAt.told {H M : Nat} {w : World} {pl : List (Nat × Nat)} (h : PlAt H M w pl) (i k : Nat) (hi : i ≤ 1048576) (hk : k ≤ 1048576) (hl : pl.length ≤ 1048576) : ∃ w5, Sem.run Tryz.prog (Instr.mapUpdate 89 (.map (some M)) (.int .i64 (i : Int)) (.int .i64 (k : Int))) w = .ok () w5 ∧ PlAt H M w5 ((i, k) :: pl) ∧ w.mapTurned w5 M := by
  obtain ⟨h0, D, n, hown, hn, hD⟩ := h
  obtain ⟨w5, a, b, c⟩ := hown.store mapI_keyed Tryz.underlying89 (by unfold maxLen; omega) (key_int i hi) (plainElem_int (H := Unit) Tryz.underlying3 (wf_len k hk))
  exact ⟨w5, a, ⟨h0, _, n + 1, b, by simp; omega, hD.push hown.isMap i k⟩, c⟩
theorem Tryz.infoI1 : (Tryz.prog.info? 3).map (fun i => (i.zero, i.size, i.bytes)) = some (some (.int .i64 0), 1, 8) := by kernel_rfl
/-- What 'needed' may turn: the list's row, the places, and new blocks. -/
structure NdF (M : Nat) (w : World) (ov : Value) (w' : World) (ov' : Value) : Prop where
  size : w.heap.size ≤ w'.heap.size
  keep : ∀ b, b < w.heap.size → ov.ownBlock ≠ some b → b ≠ M → w'.heap[b]? = w.heap[b]?
  row : ov'.ownBlock = ov.ownBlock ∨ ∀ b, ov'.ownBlock = some b → w.heap.size ≤ b
theorem NdF.refl (M : Nat) (w : World) (ov : Value) : NdF M w ov w ov := ⟨Nat.le_refl _, fun _ _ _ _ => rfl, .inl rfl⟩
theorem NdF.trans {M : Nat} {w w' w'' : World} {ov ov' ov'' : Value} (h : NdF M w ov w' ov') (h' : NdF M w' ov' w'' ov'') : NdF M w ov w'' ov'' := by
  refine ⟨Nat.le_trans h.size h'.size, fun b hb h1 h2 => ?_, ?_⟩
  · rw [h'.keep b (Nat.lt_of_lt_of_le hb h.size) (fun e => ?_) h2, h.keep b hb h1 h2]
    rcases h.row with h3 | h3
    · exact h1 (h3.symm.trans e)
    · have := h3 b e; omega
  · rcases h'.row with h4 | h4
    · rcases h.row with h3 | h3
      · exact .inl (h4.trans h3)
      · right; intro b e; rw [h4] at e; exact h3 b e
    · right; intro b e; have := h4 b e; have := h.size; omega
theorem NdF.later {M : Nat} {w w' w'' : World} {ov ov' : Value} (h : NdF M w ov w' ov') (hb : Below w'.heap.size w' w'') : NdF M w ov w'' ov' :=
  h.trans ⟨hb.size, fun b hl _ _ => hb.block b hl, .inl rfl⟩
def NdPost (H : Nat) (X : Nat → Bool) (M : Nat) (w : World) (ov : Value) (r : Wb.NdR) (e : Ending) (w' : World) : Prop := ∃ ov', e = .returned (.tuple #[ov', .int .i64 (r.2 : Int)]) ∧ OutAt H X M w' ov' r.1.1 ∧ PlAt H M w' r.1.2 ∧ Below H w w' ∧ NdF M w ov w' ov'
/-- A step in a block. -/
def Box5 (w : World) (g : Nat) (a b c d e : Value) : Prop := w.heap[g]? = some (.cells #[a, b, c, d, e] 31 (0, 0))
theorem Box5.lt {w : World} {g : Nat} {a b c d e : Value} (h : Box5 w g a b c d e) : g < w.heap.size := (Array.getElem?_eq_some_iff.1 h).1
theorem Box5.cells {w : World} {g : Nat} {a b c d e : Value} (h : Box5 w g a b c d e) : w.cell? ⟨g, 0, none⟩ = some a ∧ w.cell? ⟨g, 1, none⟩ = some b ∧ w.cell? ⟨g, 2, none⟩ = some c ∧ w.cell? ⟨g, 3, none⟩ = some d ∧ w.cell? ⟨g, 4, none⟩ = some e := by
  unfold Box5 at h
  refine ⟨?_, ?_, ?_, ?_, ?_⟩ <;> simp [World.cell?, h]
theorem Box5.free {w : World} {g : Nat} {a b c d e : Value} (h : Box5 w g a b c d e) : ∀ i, w.frozen? ⟨g, i, none⟩ = false := by
  unfold Box5 at h
  intro i; simp [World.frozen?, h]
theorem Box5.later {w w' : World} {g : Nat} {a b c d e : Value} (h : Box5 w g a b c d e) (hb : Below w.heap.size w w') : Box5 w' g a b c d e := (hb.block g h.lt).trans h
theorem Box5.set4 {w : World} {g : Nat} {a b c d e : Value} (h : Box5 w g a b c d e) (v : Value) : Box5 (w.setCell ⟨g, 4, none⟩ v) g a b c d v := by
  unfold Box5 at *
  simp [World.setCell, Array.getElem?_modify, h]
theorem Box5.new (w : World) (a b c d e : Value) : Box5 (w.alloc (.cells #[a, b, c, d, e] 31)) w.heap.size a b c d e := heap_alloc_new w _
theorem set5 {w : World} {g : Nat} {a b c d e : Value} (h : Box5 w g a b c d e) (v0 v1 v2 v3 v4 : Value) : Box5 (((((w.setCell ⟨g, 0, none⟩ v0).setCell ⟨g, 1, none⟩ v1).setCell ⟨g, 2, none⟩ v2).setCell ⟨g, 3, none⟩ v3).setCell ⟨g, 4, none⟩ v4) g v0 v1 v2 v3 v4 ∧
    ∀ k, k ≠ g → (((((w.setCell ⟨g, 0, none⟩ v0).setCell ⟨g, 1, none⟩ v1).setCell ⟨g, 2, none⟩ v2).setCell ⟨g, 3, none⟩ v3).setCell ⟨g, 4, none⟩ v4).heap[k]? = w.heap[k]? := by
  refine ⟨?_, fun k hk => ?_⟩
  · unfold Box5 at *
    simp [World.setCell, Array.getElem?_modify, h]
  · rw [Below.heap_setCell _ _ _ _ hk, Below.heap_setCell _ _ _ _ hk, Below.heap_setCell _ _ _ _ hk, Below.heap_setCell _ _ _ _ hk, Below.heap_setCell _ _ _ _ hk]
theorem cell_set5 {w : World} {g : Nat} {a b c d e : Value} (h : Box5 w g a b c d e) (v0 v1 v2 v3 v4 : Value) {p : Addr} {u : Value} (hp : p.block ≠ g) (hc : w.cell? p = some u) : (((((w.setCell ⟨g, 0, none⟩ v0).setCell ⟨g, 1, none⟩ v1).setCell ⟨g, 2, none⟩ v2).setCell ⟨g, 3, none⟩ v3).setCell ⟨g, 4, none⟩ v4).cell? p = some u :=
  (World.cell?_of_block ((set5 h v0 v1 v2 v3 v4).2 _ hp)).trans hc
theorem below_set5 {B : Nat} {w0 w : World} {g : Nat} (hb : Below B w0 w) (hg : B ≤ g) (v0 v1 v2 v3 v4 : Value) : Below B w0 (((((w.setCell ⟨g, 0, none⟩ v0).setCell ⟨g, 1, none⟩ v1).setCell ⟨g, 2, none⟩ v2).setCell ⟨g, 3, none⟩ v3).setCell ⟨g, 4, none⟩ v4) :=
  ((((hb.setCell (show B ≤ (⟨g, 0, none⟩ : Addr).block from hg) v0).setCell (show B ≤ (⟨g, 1, none⟩ : Addr).block from hg) v1).setCell (show B ≤ (⟨g, 2, none⟩ : Addr).block from hg) v2).setCell (show B ≤ (⟨g, 3, none⟩ : Addr).block from hg) v3).setCell (show B ≤ (⟨g, 4, none⟩ : Addr).block from hg) v4
/-- Midway in 'needed': the step lies in block gs, its places in Fv. -/
structure NdRel (H M gs : Nat) (X : Nat → Bool) (w : World) (ov : Value) (t : T) (A3 : Option Addr) (C3 : Nat) (how : Int) (wr : World) (ovj : Value) (outj : List Rsn) (plj : List (Nat × Nat)) (ks : List Int) (Fv : Value) : Prop where
  out : OutAt H (fun b => X b || b == gs || Fv.ownBlock == some b) M wr ovj outj
  pl : PlAt H M wr plj
  below : Below H w wr
  fr : NdF M w ov wr ovj
  box : Box5 wr gs (.int .i64 t.kind) (.string t.name) (.slice A3 t.kids.length C3) (.int .i64 how) Fv
  row : wr.ownsRow w.heap.size 3 1 Fv ks.length (ks.map (Value.int .i64))
  term : TermIn (fun b => decide (w.heap.size ≤ b) && !(b == gs) && !(ovj.ownBlock == some b) && !(Fv.ownBlock == some b)) wr (.agg #[.int .i64 t.kind, .string t.name, .slice A3 t.kids.length C3]) t
  ne1 : ovj.ownBlock ≠ some gs
  ne2 : ∀ b, Fv.ownBlock = some b → b ≠ gs ∧ b ≠ M ∧ ovj.ownBlock ≠ some b
  hH : H ≤ w.heap.size
  hgs : w.heap.size ≤ gs
  hM : M < w.heap.size
  hX : ∀ b, X b = true → b < w.heap.size
theorem sel_iff {w : World} {gs b : Nat} {ovj Fv : Value} : (decide (w.heap.size ≤ b) && !(b == gs) && !(ovj.ownBlock == some b) && !(Fv.ownBlock == some b)) = true ↔ w.heap.size ≤ b ∧ b ≠ gs ∧ ovj.ownBlock ≠ some b ∧ Fv.ownBlock ≠ some b := by
  rw [Bool.and_eq_true, Bool.and_eq_true, Bool.and_eq_true, decide_eq_true_eq, Bool.not_eq_true', Bool.not_eq_true', Bool.not_eq_true', beq_eq_false_iff_ne, beq_eq_false_iff_ne, beq_eq_false_iff_ne, and_assoc, and_assoc]
theorem xs_iff {X : Nat → Bool} {gs b : Nat} {Fv : Value} : (X b || b == gs || Fv.ownBlock == some b) = false ↔ X b = false ∧ b ≠ gs ∧ Fv.ownBlock ≠ some b := by
  rw [Bool.or_eq_false_iff, Bool.or_eq_false_iff, beq_eq_false_iff_ne, beq_eq_false_iff_ne, and_assoc]
theorem NdRel.call {H M gs : Nat} {X : Nat → Bool} {w wr w3 : World} {ov ovj ovk : Value} {t : T} {A3 : Option Addr} {C3 : Nat} {how : Int} {outj outk : List Rsn} {plj plk : List (Nat × Nat)} {ks : List Int} {Fv : Value}
    (h : NdRel H M gs X w ov t A3 C3 how wr ovj outj plj ks Fv) (ho : OutAt H (fun b => X b || b == gs || Fv.ownBlock == some b) M w3 ovk outk) (hp : PlAt H M w3 plk) (hb : Below H wr w3) (hf : NdF M wr ovj w3 ovk) : NdRel H M gs X w ov t A3 C3 how w3 ovk outk plk ks Fv := by
  have hgM : gs ≠ M := by have := h.hgs; have := h.hM; omega
  have hgl := h.box.lt
  refine ⟨ho, hp, h.below.trans hb, h.fr.trans hf, (hf.keep gs hgl h.ne1 hgM).trans h.box, ?_, ?_, ?_, ?_, h.hH, h.hgs, h.hM, h.hX⟩
  · exact own_keep h.row fun b e hl => hf.keep b hl (h.ne2 b e).2.2 (h.ne2 b e).2.1
  · refine h.term.keep fun b hbb hl => ?_
    obtain ⟨a1, a2, a3, a4⟩ := sel_iff.1 hbb
    refine ⟨sel_iff.2 ⟨a1, a2, fun e => ?_, a4⟩, hf.keep b hl a3 (by have := h.hM; omega)⟩
    rcases hf.row with r | r
    · exact a3 (r.symm.trans e)
    · have := r b e; omega
  · intro e
    rcases hf.row with r | r
    · exact h.ne1 (r.symm.trans e)
    · have := r gs e; omega
  · intro b e
    obtain ⟨a1, a2, a3⟩ := h.ne2 b e
    refine ⟨a1, a2, fun e' => ?_⟩
    rcases hf.row with r | r
    · exact a3 (r.symm.trans e')
    · have := r b e'; have := (h.row.lt b e).2; omega
theorem NdRel.turn {H M gs : Nat} {X : Nat → Bool} {w w3 w8 : World} {ov ovj : Value} {t : T} {A3 : Option Addr} {C3 : Nat} {how k : Int} {outj : List Rsn} {plj : List (Nat × Nat)} {ks : List Int} {Fv F' : Value} {o : Obj}
    (h : NdRel H M gs X w ov t A3 C3 how w3 ovj outj plj ks Fv) (hg : (w3.alloc o).grownBy w8 Fv.ownBlock) (hown : w8.ownsRow w.heap.size 3 1 F' (ks.length + 1) (ks.map (Value.int .i64) ++ [.int .i64 k])) (hat : F'.ownBlock = Fv.ownBlock ∨ F'.ownBlock = some (w3.alloc o).heap.size) :
    NdRel H M gs X w ov t A3 C3 how (w8.setCell ⟨gs, 4, none⟩ F') ovj outj plj (ks ++ [k]) F' := by
  have z4 := size_alloc1 w3 o
  have z8 := hg.size
  have hgl := h.box.lt
  have l1 := h.hH; have l2 := h.hgs; have l3 := h.hM
  have hfl : ∀ b, Fv.ownBlock = some b → w.heap.size ≤ b ∧ b < w3.heap.size := h.row.lt
  have key : ∀ b, b < w3.heap.size → b ≠ gs → Fv.ownBlock ≠ some b → (w8.setCell ⟨gs, 4, none⟩ F').heap[b]? = w3.heap[b]? := fun b hl h1 h2 => by
    rw [Below.heap_setCell _ _ _ _ h1, hg.block b (by omega) (fun e => h2 e.symm), Below.heap_alloc w3 o b hl]
  have hF' : ∀ b, b < w3.heap.size → Fv.ownBlock ≠ some b → F'.ownBlock ≠ some b := fun b hl h1 e => by
    rcases hat with r | r
    · exact h1 (r.symm.trans e)
    · rw [r] at e; injection e with e; omega
  have hFne : ∀ b, F'.ownBlock = some b → b ≠ gs ∧ b ≠ M ∧ ovj.ownBlock ≠ some b := fun b e => by
    rcases hat with r | r
    · exact h.ne2 b (r.symm.trans e)
    · rw [r] at e; injection e with e
      refine ⟨by omega, by omega, fun e' => ?_⟩
      obtain ⟨css, _, h2⟩ := h.out
      have := (h2.lt b e').2; omega
  have hw3 := h.fr.size
  refine ⟨?_, ?_, ?_, ?_, ?_, ?_, ?_, h.ne1, hFne, l1, l2, l3, h.hX⟩
  · obtain ⟨css, h1, h2⟩ := h.out
    refine ⟨css, h1.keep fun b hb hl => ?_, own_keep h2 fun b e hl => key b hl (fun x => h.ne1 (by rw [e, x])) (fun x => (h.ne2 b x).2.2 e)⟩
    obtain ⟨a1, a2, a3, a4⟩ := outS_iff.1 hb
    obtain ⟨x1, x2, x3⟩ := xs_iff.1 a2
    exact ⟨outS_iff.2 ⟨a1, xs_iff.2 ⟨x1, x2, hF' b hl x3⟩, a3, a4⟩, key b hl x2 x3⟩
  · obtain ⟨p1, D, n, p2, p3⟩ := h.pl
    have m1 := p2.kept (row := none) (w' := w3.alloc o) (grownBy_of_below none (below_alloc1 w3 o)) (by simp)
    have m2 := m1.kept hg (fun e => (h.ne2 M e.symm).2.1 rfl)
    exact ⟨p1, D, n, m2.setCell (a := ⟨gs, 4, none⟩) (fun e => by have : M = gs := e; omega) _, p3⟩
  · have b1 := h.below.trans ((below_alloc1 w3 o).mono (by omega))
    exact (b1.grown hg (by omega) (fun k hk => by have := (hfl k hk).1; omega)).setCell (show H ≤ (⟨gs, 4, none⟩ : Addr).block from (by show H ≤ gs; omega)) _
  · refine ⟨by rw [setCell_size]; omega, fun b hl h1 h2 => ?_, h.fr.row⟩
    rw [key b (by omega) (by omega) (fun e => by have := (hfl b e).1; omega)]
    exact h.fr.keep b hl h1 h2
  · have bx : Box5 w8 gs _ _ _ _ Fv := (hg.block gs (by omega) (fun e => (h.ne2 gs e.symm).1 rfl)).trans ((Below.heap_alloc w3 o gs hgl).trans h.box)
    exact bx.set4 F'
  · have e1 : (ks ++ [k]).length = ks.length + 1 := by simp
    have e2 : (ks ++ [k]).map (Value.int .i64) = ks.map (Value.int .i64) ++ [.int .i64 k] := by simp
    rw [e1, e2]
    exact own_keep hown fun b e _ => Below.heap_setCell _ _ _ _ (hFne b e).1
  · refine h.term.keep fun b hbb hl => ?_
    obtain ⟨a1, a2, a3, a4⟩ := sel_iff.1 hbb
    exact ⟨sel_iff.2 ⟨a1, a2, a3, hF' b hl a4⟩, key b hl a2 a4⟩
/-- The step is appended. -/
theorem NdRel.fin {H M gs : Nat} {X : Nat → Bool} {w wr w5 w7 : World} {ov ovj ov' : Value} {t : T} {A3 : Option Addr} {C3 : Nat} {how : Int} {outj : List Rsn} {plj plk : List (Nat × Nat)} {ks : List Int} {AF : Option Addr} {cf : Nat} {css : List (List Value)} {o : Obj}
    (h : NdRel H M gs X w ov t A3 C3 how wr ovj outj plj ks (.slice AF ks.length cf)) (hst : RsnsAt (outS H (fun b => X b || b == gs || (Value.slice AF ks.length cf).ownBlock == some b) ovj.ownBlock M) wr css outj) (hm : wr.mapTurned w5 M) (hpl : PlAt H M w5 plk)
    (hown : w7.ownsRow H 31 5 ov' (outj.length + 1) (css.flatten ++ [.int .i64 t.kind, .string t.name, .slice A3 t.kids.length C3, .int .i64 how, .slice AF ks.length cf])) (hg : (w5.alloc o).grownBy w7 ovj.ownBlock) (hat : ov'.ownBlock = ovj.ownBlock ∨ ov'.ownBlock = some (w5.alloc o).heap.size) (hlo : ∀ b, ovj.ownBlock = some b → H ≤ b ∧ b < wr.heap.size ∧ b ≠ M) :
    NdPost H X M w ov ((outj ++ [⟨t, how, ks⟩], plk), outj.length) (.returned (.tuple #[ov', .int .i64 (outj.length : Int)])) w7 := by
  have z5 := hm.grown.size
  have z6 := size_alloc1 w5 o
  have z7 := hg.size
  have l1 := h.hH; have l2 := h.hgs; have l3 := h.hM
  have hwr := h.fr.size
  have key : ∀ b, b < wr.heap.size → ovj.ownBlock ≠ some b → b ≠ M → w7.heap[b]? = wr.heap[b]? := fun b hl h1 h2 => by
    rw [hg.block b (by omega) (fun e => h1 e.symm), Below.heap_alloc w5 o b (by omega), hm.grown.block b hl (fun e => h2 (by injection e))]
  have hov : ∀ b, b < wr.heap.size → ovj.ownBlock ≠ some b → ov'.ownBlock ≠ some b := fun b hl h1 e => by
    rcases hat with r | r
    · exact h1 (r.symm.trans e)
    · rw [r] at e; injection e with e; omega
  have hgM : w.heap.size ≤ wr.heap.size := hwr
  refine ⟨ov', rfl, ⟨css ++ [([Value.int .i64 t.kind, Value.string t.name, Value.slice A3 t.kids.length C3, Value.int .i64 how, Value.slice AF ks.length cf] : List Value)], RsnsAt.push (hst.keep fun b hb hl => ?_) ?_, ?_⟩, ?_, ?_, ?_⟩
  · obtain ⟨a1, a2, a3, a4⟩ := outS_iff.1 hb
    obtain ⟨x1, x2, x3⟩ := xs_iff.1 a2
    exact ⟨outS_iff.2 ⟨a1, x1, hov b hl a3, a4⟩, key b hl a3 a4⟩
  · refine ⟨A3, C3, AF, cf, rfl, h.term.keep fun b hbb hl => ?_, ?_⟩
    · obtain ⟨a1, a2, a3, a4⟩ := sel_iff.1 hbb
      refine ⟨outS_iff.2 ⟨by omega, ?_, hov b hl a3, by omega⟩, key b hl a3 (by omega)⟩
      cases e : X b with
      | false => rfl
      | true => have := h.hX b e; omega
    · rcases Nat.eq_zero_or_pos ks.length with h0 | h0
      · exact .inl h0
      · have hrow := h.row
        obtain ⟨fb, fc, e, f1, f2⟩ := hrow.form h0
        injection e with e1 e2 e3; subst e1; subst e3
        obtain ⟨n1, n2, n3⟩ := h.ne2 fb rfl
        refine .inr ⟨fb, 0, rfl, outS_iff.2 ⟨by omega, ?_, hov fb f2 n3, n2⟩, fun i hi => ?_⟩
        · cases e : X fb with
          | false => rfl
          | true => have := h.hX fb e; omega
        · rw [Nat.zero_add]
          refine ⟨(World.cell?_of_block (key fb f2 n3 n2)).trans ?_, (frozen_of_block (key fb f2 n3 n2)).trans (hrow.frozenAt i)⟩
          have hi2 : i < ks.length := hi
          rw [hrow.cellAt i (by omega), List.getElem?_map, List.getElem?_eq_getElem hi2]; rfl
  · have e1 : (outj ++ [(⟨t, how, ks⟩ : Rsn)]).length = outj.length + 1 := by simp
    have e2 : (css ++ [([Value.int .i64 t.kind, Value.string t.name, Value.slice A3 t.kids.length C3, Value.int .i64 how, Value.slice AF ks.length cf] : List Value)]).flatten = css.flatten ++ [Value.int .i64 t.kind, .string t.name, .slice A3 t.kids.length C3, .int .i64 how, .slice AF ks.length cf] := by simp
    rw [e1, e2]; exact hown
  · obtain ⟨p1, D, n, p2, p3⟩ := hpl
    have m1 := p2.kept (row := none) (w' := w5.alloc o) (grownBy_of_below none (below_alloc1 w5 o)) (by simp)
    exact ⟨p1, D, n, m1.kept hg (fun e => (hlo M e.symm).2.2 rfl), p3⟩
  · have b1 := h.below.grown hm.grown (by omega) (fun k hk => by injection hk with hk; subst hk; exact hpl.1)
    exact (b1.trans ((below_alloc1 w5 o).mono (by omega))).grown hg (by omega) (fun k hk => (hlo k hk).1)
  · refine h.fr.trans ⟨by omega, fun b hl h1 h2 => key b hl h1 h2, ?_⟩
    rcases hat with r | r
    · exact .inl r
    · right; intro b e; rw [r] at e; injection e with e; omega
/-- A step's first cells are told: what region 4 leaves. -/
def Begun (wq : World) (t : T) (how : Int) (W' : World) (v12 : Value) : Prop := ∃ gs A3 C3, v12 = .pointer (some ⟨gs, 0, none⟩) ∧ wq.heap.size ≤ gs ∧ Box5 W' gs (.int .i64 t.kind) (.string t.name) (.slice A3 t.kids.length C3) (.int .i64 how) (.slice none 0 0) ∧
  TermIn (fun b => decide (wq.heap.size ≤ b) && !(b == gs)) W' (.agg #[.int .i64 t.kind, .string t.name, .slice A3 t.kids.length C3]) t ∧ Below wq.heap.size wq W'

set_option maxRecDepth 100000 in
set_option maxHeartbeats 8000000 in
theorem oneeded {B g M0 : Nat} {vs vp : Value} {W : List Stp} {wH : World} (hW : WebAt B wH g M0 vs vp W) (hO : Wb.Ord W) (hbW : ∀ s ∈ W, s.t.bulk ≤ 1048576) : ∀ (f i : Nat), i < f → i < W.length → ∀ (w : World) (ov : Value) (M : Nat) (out : List Rsn) (pl : List (Nat × Nat)) (X : Nat → Bool),
    Below wH.heap.size wH w → (∀ b, X b = true → b < w.heap.size) → Wb.NdI W out pl → OutAt wH.heap.size X M w ov out → PlAt wH.heap.size M w pl →
    Calls Tryz.prog 54 #[.pointer (some ⟨g, 0, none⟩), ov, .map (some M), .int .i64 (i : Int)] w (NdPost wH.heap.size X M w ov (Wb.nd f W out pl i)) := by
  intro f
  induction f with
  | zero => intro i h; omega
  | succ f ih =>
    intro i hif hi w ov M out pl X hbH hX hI hout hpl
    have hWs := hW.size
    have hi20 : i ≤ 1048576 := by omega
    have HW := Lib.hid (hW.later hbH)
    have HO := Lib.hid hO
    have HBW := Lib.hid (hbW _ (List.getElem_mem hi))
    have HOUT := Lib.hid hout; have HPL := Lib.hid hpl; have HI := Lib.hid hI; have HBH := Lib.hid hbH
    obtain ⟨ci, hlook, hci⟩ := hpl.look i hi20
    cases hl : pl.lookup i with
    | some k =>
      rw [Wb.nd_known hl]
      rw [hl] at hlook
      have hc : ci = (k : Int) := hci k hl
      subst hc
      clear hI hout hpl hbH hci hl ih
      go_enter Tryz.func54, Tryz.ntmps54
      go_wp2_with fail
      go_ret2
      exact ⟨ov, rfl, HOUT.out, HPL.out, Below.refl _ _, NdF.refl _ _ _⟩
    | none =>
      rw [hl] at hlook
      have HNEW := Lib.hid (Wb.nd_new (f := f) (W := W) (out := out) hl)
      clear hci
      obtain ⟨gs0, cp, A0, cap0, F0, fc0, hvs, s0, s1, s2, s3, s4, hT, hF⟩ := hW.step_row hi
      replace s0 := cell_later hbH s0; replace s1 := cell_later hbH s1; replace s2 := cell_later hbH s2; replace s3 := cell_later hbH s3; replace s4 := cell_later hbH s4
      have d0 := HW.out.cells.1
      rw [hvs] at d0
      have HWI := Lib.hid (show Wb.termAt W i = (W[i]'(hi)).t ∧ Wb.howAt W i = (W[i]'(hi)).how ∧ Wb.frmAt W i = (W[i]'(hi)).frm from ⟨Wb.term_at hi, Wb.how_at hi, Wb.frm_at hi⟩)
      have HT := Lib.hid (hT.at.later hbH)
      have HFN := Lib.hid hF
      obtain ⟨t, ht⟩ : ∃ t, (W[i]'(hi)).t = t := ⟨_, rfl⟩
      obtain ⟨how, hhow⟩ : ∃ how, (W[i]'(hi)).how = how := ⟨_, rfl⟩
      obtain ⟨frm, hfrm⟩ : ∃ frm, (W[i]'(hi)).frm = frm := ⟨_, rfl⟩
      have HFR := Lib.hid (show frm.length ≤ 2 ∧ ∀ j ∈ frm, j < i by rw [← hfrm]; exact HO.out i hi)
      rw [ht, hhow, hfrm] at HWI
      rw [ht] at HT HBW s0 s1 s2
      rw [hhow] at s3
      rw [hfrm] at s4 HFN
      have HCP := Lib.hid (fun W' (hW' : TermAt W' (.agg #[.int .i64 t.kind, .string t.name, .slice A0 t.kids.length cap0]) t) => ocopy (t.bulk + 1) t _ W' (by omega) hW' HBW.out)
      have hi1 : (0 : Int) ≤ (i : Int) ∧ (i : Int) < (W.length : Int) := by omega
      obtain ⟨hi1, hi2⟩ := hi1
      have HVS := Lib.hid hvs
      clear hvs hI hout hpl hbH hT hF ht hhow hfrm
      go_enter Tryz.func54, Tryz.ntmps54
      go_upto_region 4 with fail
      go_cut [12] from 12 to 42 (fun s12 W' => Begun w t (how : Int) W' s12)
      case first =>
        have hgl := World.block_lt_of_cell? w _ d0; have hgl0 := World.block_lt_of_cell? w _ s0
        dsimp only at hgl hgl0
        (refine wp_region_held_drew (S := (fun Wq => Wq.cell? ⟨g, 0, none⟩ = some (.slice (some ⟨gs0, 0, none⟩) W.length cp) ∧ Wq.cell? ⟨gs0, i * 5, none⟩ = some (.int .i64 t.kind) ∧ Wq.cell? ⟨gs0, i * 5 + 1, none⟩ = some (.string t.name) ∧ Wq.cell? ⟨gs0, i * 5 + 2, none⟩ = some (.slice A0 t.kids.length cap0) ∧ Wq.cell? ⟨gs0, i * 5 + 3, none⟩ = some (.int .i64 (how : Int)))) (by kernel_rfl) (show _ ∧ _ ∧ _ ∧ _ ∧ _ from ⟨d0, s0, s1, s2, s3⟩) (fun hHeld => ?_))
        (first | (refine tkJ 0 _ (h := ?_)) | (refine tkM 0 (h := ?_)))
        (first | (refine tkJ 1 _ (h := ?_)) | (refine tkM 1 (h := ?_)))
        (first | (refine tkJ 2 _ (h := ?_)) | (refine tkM 2 (h := ?_)))
        (first | (refine tkJ 3 _ (h := ?_)) | (refine tkM 3 (h := ?_)))
        (first | (refine tkJ 4 _ (h := ?_)) | (refine tkM 4 (h := ?_)))
        (first | (refine tkJ 5 _ (h := ?_)) | (refine tkM 5 (h := ?_)))
        (first | (refine tkJ 6 _ (h := ?_)) | (refine tkM 6 (h := ?_)))
        (first | (refine tkJ 7 _ (h := ?_)) | (refine tkM 7 (h := ?_)))
        (first | (refine tkJ 9 _ (h := ?_)) | (refine tkM 9 (h := ?_)))
        (first | (refine tkJ 10 _ (h := ?_)) | (refine tkM 10 (h := ?_)))
        (first | (refine tkJ 11 _ (h := ?_)) | (refine tkM 11 (h := ?_)))
        (first | (refine tkJ 12 _ (h := ?_)) | (refine tkM 12 (h := ?_)))
        (first | (refine tkJ 13 _ (h := ?_)) | (refine tkM 13 (h := ?_)))
        (first | (refine tkJ 14 _ (h := ?_)) | (refine tkM 14 (h := ?_)))
        (first | (refine tkJ 15 _ (h := ?_)) | (refine tkM 15 (h := ?_)))
        (first | (refine tkJ 16 _ (h := ?_)) | (refine tkM 16 (h := ?_)))
        (refine wpAnyH_ready (rs := [8, 18]) (by kernel_rfl) (by simp) ?_)
        refine AllReadyH.cons (by simp only [List.getElem?_toArray, List.getElem?_cons_succ, List.getElem?_cons_zero]; rfl) (fun K hK => ?_) (AllReadyH.cons (by simp only [List.getElem?_toArray, List.getElem?_cons_succ, List.getElem?_cons_zero]; rfl) (fun K hK => ?_) AllReadyH.nil)
        · (go_simp; go_at_call 53; refine (HCP.out _ HT.out.drew).mono ?_; rintro e w4 ⟨A3, C3, rfl, hti, hb4⟩; refine hK.out _ _ (⟨cell_later hb4 hHeld.1, cell_later hb4 hHeld.2.1, cell_later hb4 hHeld.2.2.1, cell_later hb4 hHeld.2.2.2.1, cell_later hb4 hHeld.2.2.2.2⟩) (fun hHeld => ?_); clear hK K; (try simp only [Act.put, List.setIfInBounds_toArray, List.set_cons_zero, List.set_cons_succ]))
          (first | (refine tkJ 17 _ (h := ?_)) | (refine tkM 17 (h := ?_)))
          (refine rdJ 18 (h := fun K hK => ?_); go_simp; refine shK hK (⟨cell_later (below_alloc1 w4 _) hHeld.1, cell_later (below_alloc1 w4 _) hHeld.2.1, cell_later (below_alloc1 w4 _) hHeld.2.2.1, cell_later (below_alloc1 w4 _) hHeld.2.2.2.1, cell_later (below_alloc1 w4 _) hHeld.2.2.2.2⟩) (h := fun hHeld => ?_); clear hK K)
          have z5 := Box5.new w4 (.int .i64 0) (.string ⟨#[]⟩) (.slice none 0 0) (.int .i64 0) (.slice none 0 0); have hw5 := below_alloc1 w4 (.cells #[.int .i64 0, .string ⟨#[]⟩, .slice none 0 0, .int .i64 0, .slice none 0 0] 31)
          have htb : TermIn (fun b => decide (w.heap.size ≤ b) && !(b == w4.heap.size)) (w4.alloc (.cells #[.int .i64 0, .string ⟨#[]⟩, .slice none 0 0, .int .i64 0, .slice none 0 0] 31)) (.agg #[.int .i64 t.kind, .string t.name, .slice A3 t.kids.length C3]) t := hti.keep (fun b hb hl => ⟨by rw [Bool.and_eq_true, Bool.not_eq_true', beq_eq_false_iff_ne]; exact ⟨hb, by omega⟩, hw5.block b hl⟩)
          have hbx : Below w.heap.size w (w4.alloc (.cells #[.int .i64 0, .string ⟨#[]⟩, .slice none 0 0, .int .i64 0, .slice none 0 0] 31)) := (below_undrew hb4).trans (hw5.mono hb4.size)
          have hgx : w.heap.size ≤ w4.heap.size := hb4.size
          obtain ⟨gs, hgs⟩ : ∃ gs, w4.heap.size = gs := ⟨_, rfl⟩
          rw [hgs] at z5 htb hgx ⊢
          generalize w4.alloc (.cells #[.int .i64 0, .string ⟨#[]⟩, .slice none 0 0, .int .i64 0, .slice none 0 0] 31) = w5 at z5 htb hbx hHeld ⊢
          clear hti hb4 hw5 hgs
          obtain ⟨z0, z1, z2, z3, z4⟩ := z5.cells
          have zf := z5.free
          have zf0 := zf 0; have zf1 := zf 1; have zf2 := zf 2; have zf3 := zf 3; have zf4 := zf 4
          clear zf
          (refine wpAnyH_ready (rs := [19]) (by kernel_rfl) (by simp) ?_)
          refine AllReadyH.cons (by simp only [List.getElem?_toArray, List.getElem?_cons_succ, List.getElem?_cons_zero]; rfl) (fun K hK => ?_) AllReadyH.nil
          go_simp
          refine hK.out _ _ (⟨cell_set5 z5 _ _ _ _ _ (show g ≠ gs by omega) hHeld.1, cell_set5 z5 _ _ _ _ _ (show gs0 ≠ gs by omega) hHeld.2.1, cell_set5 z5 _ _ _ _ _ (show gs0 ≠ gs by omega) hHeld.2.2.1, cell_set5 z5 _ _ _ _ _ (show gs0 ≠ gs by omega) hHeld.2.2.2.1, cell_set5 z5 _ _ _ _ _ (show gs0 ≠ gs by omega) hHeld.2.2.2.2⟩) (fun hHeld2 => ?_)
          clear hK K
          (try simp only [Act.put, List.setIfInBounds_toArray, List.set_cons_zero, List.set_cons_succ])
          (refine wpAnyH_done (by kernel_rfl) ?_ _)
          go_wp2_with fail
          go_meet
          exact ⟨gs, A3, C3, rfl, hgx, (set5 z5 _ _ _ _ _).1, htb.keep (fun b hb hl => ⟨hb, (set5 z5 _ _ _ _ _).2 b (by rw [Bool.and_eq_true, Bool.not_eq_true', beq_eq_false_iff_ne] at hb; exact hb.2)⟩), below_set5 hbx hgx _ _ _ _ _⟩
        · (go_simp; refine hK.out _ _ (⟨cell_later (below_alloc1 w.drew _) hHeld.1, cell_later (below_alloc1 w.drew _) hHeld.2.1, cell_later (below_alloc1 w.drew _) hHeld.2.2.1, cell_later (below_alloc1 w.drew _) hHeld.2.2.2.1, cell_later (below_alloc1 w.drew _) hHeld.2.2.2.2⟩) (fun hHeld => ?_); clear hK K; (try simp only [Act.put, List.setIfInBounds_toArray, List.set_cons_zero, List.set_cons_succ]))
          have hw5 := below_alloc1 w (.cells #[.int .i64 0, .string ⟨#[]⟩, .slice none 0 0, .int .i64 0, .slice none 0 0] 31)
          have z5 := Box5.new w (.int .i64 0) (.string ⟨#[]⟩) (.slice none 0 0) (.int .i64 0) (.slice none 0 0)
          have HT5 := Lib.hid (HT.out.later hw5)
          have hsz5 := size_alloc1 w (.cells #[.int .i64 0, .string ⟨#[]⟩, .slice none 0 0, .int .i64 0, .slice none 0 0] 31)
          obtain ⟨gs, hgs⟩ : ∃ gs, w.heap.size = gs := ⟨_, rfl⟩
          have hgx : w.heap.size ≤ gs := Nat.le_of_eq hgs
          rw [hgs] at z5 ⊢
          change wpAnyH _ _ _ _ _ _ _ _ (w.alloc (.cells #[.int .i64 0, .string ⟨#[]⟩, .slice none 0 0, .int .i64 0, .slice none 0 0] 31)).drew
          generalize w.alloc (.cells #[.int .i64 0, .string ⟨#[]⟩, .slice none 0 0, .int .i64 0, .slice none 0 0] 31) = w3 at z5 hw5 HT5 hsz5 hHeld ⊢
          (refine rdJ 8 (h := fun K hK => ?_); go_simp; go_at_call 53; refine (HCP.out _ HT5.out.drew).mono ?_; rintro e w4 ⟨A3, C3, rfl, hti, hb4⟩; refine shK hK (⟨cell_later hb4 hHeld.1, cell_later hb4 hHeld.2.1, cell_later hb4 hHeld.2.2.1, cell_later hb4 hHeld.2.2.2.1, cell_later hb4 hHeld.2.2.2.2⟩) (h := fun hHeld => ?_); clear hK K)
          (first | (refine tkJ 17 _ (h := ?_)) | (refine tkM 17 (h := ?_)))
          have hb4' := below_undrew hb4
          replace z5 := z5.later hb4'
          have htb : TermIn (fun b => decide (w.heap.size ≤ b) && !(b == gs)) w4 (.agg #[.int .i64 t.kind, .string t.name, .slice A3 t.kids.length C3]) t := hti.keep (fun b hb hl => ⟨by have h1 := of_decide_eq_true hb; rw [Bool.and_eq_true, Bool.not_eq_true', beq_eq_false_iff_ne, decide_eq_true_eq]; have h2 : w3.heap.size ≤ b := h1; omega, rfl⟩)
          have hbx : Below w.heap.size w w4 := hw5.trans (hb4'.mono hw5.size)
          clear hti hb4 hb4' hw5 hsz5
          obtain ⟨z0, z1, z2, z3, z4⟩ := z5.cells
          have zf := z5.free
          have zf0 := zf 0; have zf1 := zf 1; have zf2 := zf 2; have zf3 := zf 3; have zf4 := zf 4
          clear zf
          (refine wpAnyH_ready (rs := [19]) (by kernel_rfl) (by simp) ?_)
          refine AllReadyH.cons (by simp only [List.getElem?_toArray, List.getElem?_cons_succ, List.getElem?_cons_zero]; rfl) (fun K hK => ?_) AllReadyH.nil
          go_simp
          refine hK.out _ _ (⟨cell_set5 z5 _ _ _ _ _ (show g ≠ gs by omega) hHeld.1, cell_set5 z5 _ _ _ _ _ (show gs0 ≠ gs by omega) hHeld.2.1, cell_set5 z5 _ _ _ _ _ (show gs0 ≠ gs by omega) hHeld.2.2.1, cell_set5 z5 _ _ _ _ _ (show gs0 ≠ gs by omega) hHeld.2.2.2.1, cell_set5 z5 _ _ _ _ _ (show gs0 ≠ gs by omega) hHeld.2.2.2.2⟩) (fun hHeld2 => ?_)
          clear hK K
          (try simp only [Act.put, List.setIfInBounds_toArray, List.set_cons_zero, List.set_cons_succ])
          (refine wpAnyH_done (by kernel_rfl) ?_ _)
          go_wp2_with fail
          go_meet
          exact ⟨gs, A3, C3, rfl, hgx, (set5 z5 _ _ _ _ _).1, htb.keep (fun b hb hl => ⟨hb, (set5 z5 _ _ _ _ _).2 b (by rw [Bool.and_eq_true, Bool.not_eq_true', beq_eq_false_iff_ne] at hb; exact hb.2)⟩), below_set5 hbx hgx _ _ _ _ _⟩
      case rest =>
        obtain ⟨gs, A3, C3, rfl, hgs, hbox, hts, hbw⟩ := hcut
        have hlo := HOUT.out
        have HLW := Lib.hid (show wH.heap.size ≤ w.heap.size from HBH.out.size)
        have HMW := Lib.hid HPL.out.lt
        have hrl0 : NdRel wH.heap.size M gs X w ov t A3 C3 (how : Int) wc ov out pl [] (.slice none 0 0) := by
          have hol : ∀ b, ov.ownBlock = some b → b < w.heap.size := fun b e => by
            obtain ⟨css, _, h2⟩ := hlo
            exact (h2.lt b e).2
          refine ⟨(OutAt.more hlo (fun b hl e => ?_)).later hbw, HPL.out.later hbw, hbw.mono HLW.out, (NdF.refl M w ov).later hbw, hbox, own_nil _ _ _ _, hts.keep (fun b hb _ => ⟨?_, rfl⟩), fun e => by have := hol gs e; omega, fun b e => by (cases e), HLW.out, hgs, HMW.out, hX⟩
          · cases hx : X b with
            | true => rfl
            | false =>
              have : (X b || b == gs || (Value.slice none 0 0).ownBlock == some b) = false := xs_iff.2 ⟨hx, by omega, fun x => by cases x⟩
              rw [this] at e; cases e
          · rw [Bool.and_eq_true, decide_eq_true_eq, Bool.not_eq_true', beq_eq_false_iff_ne] at hb
            exact sel_iff.2 ⟨hb.1, hb.2, fun x => by have := hol b x; omega, fun x => by cases x⟩
        have HRL := Lib.hid hrl0
        have HIH := Lib.hid ih
        obtain ⟨i1, gi0, gz0, gz1, gz2⟩ := info_parts Tryz.infoI1
        obtain ⟨i0, hi0, hz0, hz1, hz2⟩ := info_parts Tryz.infoR
        have d0 := cell_later hbw d0
        have s4 := cell_later hbw s4
        have hnfr : frm.length ≤ 2 := HFR.out.1
        obtain ⟨Rl, hRl⟩ : ∃ Rl, Wb.ndl (Wb.nd f W) frm out pl [] = Rl := ⟨_, rfl⟩
        have HRLS := Lib.hid hRl
        clear hRl hrl0 hbox hts hbw hlo s0 s1 s2 s3 hlook ih
        go_upto_region 6 with fail
        clear d0 s4
        go_loopw [1, 52] (fun s1 s52 wr => ∃ (j : Nat) (ks : List Int) (outj : List Rsn) (plj : List (Nat × Nat)) (ovj Fv : Value), j ≤ frm.length ∧ s52 = .int .i64 j ∧ ovj = s1 ∧ ks.length = j ∧ Wb.NdI W outj plj ∧ NdRel wH.heap.size M gs X w ov t A3 C3 (how : Int) wr ovj outj plj ks Fv ∧ Wb.ndl (Wb.nd f W) (frm.drop j) outj plj ks = Rl) (fun _ i _ => frm.length - (intOf i).toNat)
        case atStart => exact ⟨0, [], out, pl, ov, _, Nat.zero_le _, rfl, rfl, rfl, HI.out, HRL.out, by rw [List.drop_zero]; exact HRLS.out⟩
        case round =>
          obtain ⟨j, ks, outj, plj, ovj, Fv, hj, rfl, rfl, hks, hIj, hrl, hnd⟩ := hrel
          have HRJ := Lib.hid hrl; have HIJ := Lib.hid hIj; have HKS := Lib.hid hks; have HND := Lib.hid hnd
          have hLs : outj.length ≤ 1048576 := Nat.le_trans hIj.len hWs
          have HWR := Lib.hid (show Below wH.heap.size wH wr from HBH.out.trans hrl.below)
          obtain ⟨AF, cf, hFv⟩ := own_shape hrl.row
          rw [hks] at hFv
          subst hFv
          by_cases hlt : j < frm.length
          · obtain ⟨x, hx⟩ : ∃ x, frm[j]'(hlt) = x := ⟨_, rfl⟩
            have HX := Lib.hid (show x < i by rw [← hx]; exact HFR.out.2 _ (List.getElem_mem hlt))
            have hxc : ∃ fb off, F0 = some ⟨fb, off, none⟩ ∧ wr.cell? ⟨fb, off + j, none⟩ = some (.int .i64 (x : Int)) := by
              rcases HFN.out with h0 | ⟨fb, off, e, _, hc⟩
              · omega
              · exact ⟨fb, off, e, by rw [← hx]; exact cell_later HWR.out (hc j hlt)⟩
            obtain ⟨fb, off, rfl, hxc⟩ := hxc
            have hfr : frm.drop j = x :: frm.drop (j + 1) := by rw [← hx]; exact List.drop_eq_getElem_cons hlt
            have hIH := HIH.out x (by have := HX.out; omega) (by have := HX.out; omega) wr ovj M outj plj _ HWR.out (fun b e => ?hxs) hIj hrl.out hrl.pl
            case hxs =>
              have h1 := hrl.fr.size
              rw [Bool.or_eq_true, Bool.or_eq_true, beq_iff_eq, beq_iff_eq] at e
              rcases e with (e | e) | e
              · have := hX b e; omega
              · rw [e]; exact hrl.box.lt
              · exact (hrl.row.lt b e).2
            have hinv := (Wb.nd_inv HO.out f x (by have := HX.out; omega) (by have := HX.out; omega) outj plj hIj).1
            rw [hfr] at hnd
            change Wb.ndl (Wb.nd f W) (frm.drop (j + 1)) (Wb.nd f W outj plj x).1.1 (Wb.nd f W outj plj x).1.2 (ks ++ [((Wb.nd f W outj plj x).2 : Int)]) = Rl at hnd
            generalize Wb.nd f W outj plj x = r at hIH hinv hnd
            obtain ⟨⟨outk, plk⟩, k⟩ := r
            have HCALL := Lib.hid hIH; have HINV := Lib.hid hinv; have HNX := Lib.hid hnd; have HLT := Lib.hid hlt
            have hi3 : (j : Int) < (frm.length : Int) := by omega
            clear hrl hIj hks hnd hx hfr hIH hinv hlt hLs
            go_wp2_with fail
            refine HCALL.out.mono ?_; rintro e w3 ⟨ovk, rfl, ho, hp, hb3, hf3⟩
            have hr3 := HRJ.out.call ho hp hb3 hf3
            have HR3 := Lib.hid hr3
            obtain ⟨z0, z1, z2, z3, z4⟩ := hr3.box.cells
            have zf := hr3.box.free 4
            have hwa := below_alloc1 w3 (.cells #[.int .i64 (k : Int)] 3)
            have hrw := own_later hr3.row hwa
            rw [HKS.out] at hrw
            have HROW := Lib.hid hrw
            have hzs : w.heap.size ≤ (w3.alloc (.cells #[.int .i64 (k : Int)] 3)).heap.size := by rw [size_alloc1]; have := hr3.fr.size; omega
            have HBX := Lib.hid (show (w3.alloc (.cells #[.int .i64 (k : Int)] 3)).heap[gs]? = _ from (hwa.block gs hr3.box.lt).trans hr3.box)
            have HNG := Lib.hid (show (Value.slice AF j cf).ownBlock ≠ some gs from fun e => (hr3.ne2 gs e).1 rfl)
            have HKK := HKS
            clear ho hp hb3 hf3 hr3 hwa hrw hxc
            go_wp2_with (at_builtin; refine wpList_append_src _ rfl _ _ 22 rfl w.heap.size 3 i1 _ 1 8 Tryz.underlying22 gi0 gz0 gz1 gz2 rfl (by omega) _ _ _ rfl HROW.out _ 1 1 [.int .i64 (k : Int)] rfl (Src.news _ _ _ 1 rfl) (by intro u hu; rw [List.mem_singleton] at hu; subst hu; rfl) (by unfold maxLen; omega) (by omega) hzs ?_; intro A8 c8 w8 hown8 hg8 hat8; have b8 := box_grown' HBX.out HNG.out hg8; have y4 : w8.cell? ⟨gs, 4, none⟩ = some (.slice AF j cf) := (by simp [World.cell?, b8]); have yf : w8.frozen? ⟨gs, 4, none⟩ = false := (by simp [World.frozen?, b8]); have HT8 := Lib.hid (HR3.out.turn (k := (k : Int)) (F' := .slice A8 (j + 1) c8) hg8 (by rw [HKK.out]; exact hown8) (own_block hat8 trivial)); clear hown8 hg8 hat8 b8)
            go_roundw
            case rel => exact ⟨j + 1, ks ++ [(k : Int)], outk, plk, ovk, _, HLT.out, by go_num, rfl, by simp [HKK.out], HINV.out, HT8.out, HNX.out⟩
            case measure => have := HLT.out; simp [intOf]; omega
          · obtain rfl : j = frm.length := by omega
            have HE := Lib.hid (show Rl = ((outj, plj), ks) by rw [← hnd, List.drop_length]; rfl)
            have hpl9 : plj.length ≤ 1048576 := by rw [← hIj.1]; exact hLs
            obtain ⟨w5, hrun5, hpl5, hm5⟩ := hrl.pl.told i outj.length hi20 hLs hpl9
            obtain ⟨css, hcs, hown⟩ := hrl.out
            obtain ⟨AO, co, rfl⟩ := own_shape hown
            have hgM : gs ≠ M := by have := HMW.out; omega
            have b5 : Box5 w5 gs _ _ _ _ _ := (hm5.grown.block gs hrl.box.lt (fun e => hgM (by injection e))).trans hrl.box
            obtain ⟨z0, z1, z2, z3, z4⟩ := b5.cells
            have hMl := hrl.pl.lt
            have hoM : ∀ b, (Value.slice AO outj.length co).ownBlock = some b → wH.heap.size ≤ b ∧ b < wr.heap.size ∧ b ≠ M := fun b e => by
              obtain ⟨a1, a2, cur, a3⟩ := own_type hown e
              refine ⟨a1, a2, fun x => ?_⟩
              obtain ⟨_, D, n, p2, _⟩ := hrl.pl
              obtain ⟨es, c, hmm⟩ := map_block p2
              subst x; exact ne_of_map a3 hmm
            have hown5 := own_keep (w' := w5) hown fun b e hl => hm5.grown.block b hl (fun x => (hoM b e).2.2 (by injection x))
            have hwa := below_alloc1 w5 (.cells #[.int .i64 t.kind, .string t.name, .slice A3 t.kids.length C3, .int .i64 (how : Int), .slice AF frm.length cf] 31)
            have HROW := Lib.hid (own_later hown5 hwa)
            have hzs : wH.heap.size ≤ (w5.alloc (.cells #[.int .i64 t.kind, .string t.name, .slice A3 t.kids.length C3, .int .i64 (how : Int), .slice AF frm.length cf] 31)).heap.size := by rw [size_alloc1]; have := hm5.grown.size; have := hrl.fr.size; have := HLW.out; omega
            have HONE := Lib.hid (show ∀ u ∈ [Value.int .i64 t.kind, .string t.name, .slice A3 t.kids.length C3, .int .i64 (how : Int), .slice AF frm.length cf], u.oneCell' = true from fun u hu => by
              simp at hu
              rcases hu with rfl | rfl | rfl | rfl | rfl <;> rfl)
            have HFIN := Lib.hid (fun w7 ov' hown7 hg7 hat7 => NdRel.fin (w7 := w7) (ov' := ov') (plk := (i, outj.length) :: plj) (css := css) (AF := AF) (cf := cf) (o := .cells #[.int .i64 t.kind, .string t.name, .slice A3 t.kids.length C3, .int .i64 (how : Int), .slice AF frm.length cf] 31 (0, 0)) (by rw [hks]; exact hrl) (by rw [hks]; exact hcs) hm5 hpl5 hown7 hg7 hat7 hoM)
            have HNW := Lib.hid (show Wb.nd (f + 1) W out pl i = ((outj ++ [⟨t, (how : Int), ks⟩], (i, outj.length) :: plj), outj.length) by
              have h1 := HNEW.out; have h2 := HWI.out; have h3 := HRLS.out; have h4 := HE.out
              rw [h2.1, h2.2.1, h2.2.2, h3, h4] at h1
              exact h1)
            clear hrl hIj hnd hpl5 hm5 hcs hown hown5 hwa b5 hgM hMl hoM hpl9
            go_wp2_with (at_builtin; refine wpList_append_src _ rfl _ _ 23 rfl wH.heap.size 31 i0 _ 5 80 Tryz.underlying23 hi0 hz0 hz1 hz2 rfl (by omega) _ _ _ rfl HROW.out _ 1 1 [.int .i64 t.kind, .string t.name, .slice A3 t.kids.length C3, .int .i64 (how : Int), .slice AF frm.length cf] rfl (Src.news _ _ _ 5 rfl) HONE.out (by unfold maxLen; omega) (by omega) hzs ?_; intro A8 c8 w8 hown8 hg8 hat8; have HN8 := Lib.hid (HFIN.out w8 (.slice A8 (outj.length + 1) c8) (by rw [HKS.out]; exact hown8) hg8 (own_block hat8 trivial)); clear hown8 hg8 hat8)
            go_ret2
            rw [HNW.out]
            exact HN8.out
end Go.Proofs.YtihbmgkbipeakaaGreat

namespace Go.Proofs.YtihbmgkbipeakaaGreat

namespace Wb
theorem Ord.nil : Ord [] := fun _ h => absurd h (Nat.not_lt_zero _)
theorem Ord.push {W : List Stp} (h : Ord W) (t : T) (how : Nat) {frm : List Nat} (p : Bool) (h2 : frm.length ≤ 2) (hf : ∀ j ∈ frm, j < W.length) : Ord (W ++ [⟨t, how, frm, p⟩]) := fun i hi => by
  by_cases hl : i < W.length
  · rw [List.getElem_append_left hl]; exact h i hl
  · have e : i = W.length := by simp at hi; omega
    subst e
    have e3 : (W ++ [(⟨t, how, frm, p⟩ : Stp)])[W.length]'hi = ⟨t, how, frm, p⟩ := by simp
    rw [e3]; exact ⟨h2, hf⟩
theorem Ord.add {W : List Stp} (h : Ord W) (t : T) (how : Nat) {frm : List Nat} (h2 : frm.length ≤ 2) (hf : ∀ j ∈ frm, j < W.length) : Ord (add W t how frm).1 := by
  cases hq : find W t with
  | some i => rw [add_some hq]; exact h
  | none => rw [add_none hq]; exact h.push t how false h2 hf
theorem Ord.mark {W : List Stp} (h : Ord W) (i : Nat) : Ord (mark W i) := fun j hj => by
  have h3 : j < W.length := by rwa [mark_len] at hj
  obtain ⟨_, _, e, _⟩ := mark_t W i j hj h3
  rw [e]; exact h j h3
theorem Ord.take {W : List Stp} (h : Ord W) (t : T) (how : Nat) {frm : List Nat} (h2 : frm.length ≤ 2) (hf : ∀ j ∈ frm, j < W.length) : Ord (take W t how frm).1 := by
  unfold Wb.take
  split
  · exact h.add t how h2 hf
  · exact (h.add t how h2 hf).mark _
def PutsO (U : List T) (rec : List Stp → T → List Stp × Option Nat) (t : T) : Prop := ∀ W, Inv U W → Ord W → Ord (rec W t).1
theorem both_ord {U : List T} {rec : List Stp → T → List Stp × Option Nat} {t : T} (how : Nat) (h0 : Puts U rec (t.kid 0)) (h1 : Puts U rec (t.kid 1)) (o0 : PutsO U rec (t.kid 0)) (o1 : PutsO U rec (t.kid 1)) : PutsO U (fun W t => both rec W t how) t := fun W hW hO => by
  obtain ⟨a1, a2, a3⟩ := h0 W hW
  have b0 := o0 W hW hO
  obtain ⟨c1, c2, c3⟩ := h1 _ a1
  have b1 := o1 _ a1 b0
  cases ha : (rec W (t.kid 0)).2 with
  | none => simp only [both, ha]; exact b0
  | some a =>
    cases hb : (rec (rec W (t.kid 0)).1 (t.kid 1)).2 with
    | none => simp only [both, ha, hb]; exact b1
    | some b =>
      simp only [both, ha, hb]
      refine b1.add t how (Nat.le_refl _) fun j hj => ?_
      have h3 := a3 a ha; have h4 := c3 b hb; have h5 := c2.length_le
      simp only [List.mem_cons, List.not_mem_nil, or_false] at hj
      rcases hj with rfl | rfl
      · exact Nat.lt_of_lt_of_le h3 h5
      · exact h4
theorem pow_ord {U : List T} {rec : List Stp → T → List Stp × Option Nat} {t : T} (hl : ∀ i, i < t.kids.length → 1 < t.kids.length → Puts U rec (t.lessOf i) ∧ PutsO U rec (t.lessOf i)) :
    ∀ (f i : Nat), f + i = t.kids.length → PutsO U (fun W _ => pow rec t f i W) t
  | 0, i, _, W, _, hO => hO
  | f + 1, i, hfi, W, hW, hO => by
    have ih := pow_ord hl f (i + 1) (by omega)
    simp only [pow]
    split
    · exact ih W hW hO
    · rename_i nm hnm
      have hn := findK_lt (W := W) (k := (t.kid i).key) hnm
      split
      · exact hO.add t 11 (by simp) (fun j hj => by simp at hj; omega)
      · rename_i h1
        obtain ⟨p1, p2⟩ := hl i (by omega) (by omega)
        obtain ⟨a1, a2, a3⟩ := p1 W hW
        have b1 := p2 W hW hO
        split
        · exact ih _ a1 b1
        · rename_i p hp
          refine b1.add t 10 (Nat.le_refl _) fun j hj => ?_
          have h3 := a3 p hp; have h5 := a2.length_le
          simp only [List.mem_cons, List.not_mem_nil, or_false] at hj
          rcases hj with rfl | rfl
          · exact h3
          · exact Nat.lt_of_lt_of_le hn h5
theorem build_ord {U : List T} (hU : Uni U) : ∀ (n : Nat) (t : T), t ∈ U → PutsO U (build n) t
  | 0, t, _, W, _, hO => hO
  | n + 1, t, ht, W, hW, hO => by
    have hs := T.shapeK (Bool.and_eq_true_iff.1 (hU.ok t ht)).2
    have ihk : ∀ i, i < t.kids.length → PutsO U (build n) (t.kid i) := fun i hi => build_ord hU n _ (hU.kid t ht i hi)
    have ihp : ∀ i, i < t.kids.length → Puts U (build n) (t.kid i) := fun i hi => build_puts hU n _ (hU.kid t ht i hi)
    simp only [build]
    split
    · exact hO
    · split
      · rename_i h4
        have a1 := ihk 0 (by omega) W hW hO
        obtain ⟨_, _, a3⟩ := ihp 0 (by omega) W hW
        split
        · exact a1
        · rename_i m hm
          exact a1.add t 7 (by simp) (fun j hj => by have := a3 m hm; simp at hj; omega)
      · split
        · exact both_ord 6 (ihp 0 (by omega)) (ihp 1 (by omega)) (ihk 0 (by omega)) (ihk 1 (by omega)) W hW hO
        · split
          · exact both_ord 8 (ihp 0 (by omega)) (ihp 1 (by omega)) (ihk 0 (by omega)) (ihk 1 (by omega)) W hW hO
          · split
            · exact both_ord 9 (ihp 0 (by omega)) (ihp 1 (by omega)) (ihk 0 (by omega)) (ihk 1 (by omega)) W hW hO
            · split
              · rename_i h7
                exact pow_ord (fun i hi h1 => ⟨build_puts hU n _ (hU.less t ht h7 h1 i hi), build_ord hU n _ (hU.less t ht h7 h1 i hi)⟩) t.kids.length 0 rfl W hW hO
              · exact hO
theorem apart_ord {U : List T} (hU : Uni U) {W : List Stp} (hW : Inv U W) (hO : Ord W) {i : Nat} (hi : i < W.length) : Ord (apart W i).1 := by
  have hm : W[i].t ∈ U := hW.mem _ (List.getElem_mem hi)
  have hs := T.shapeK (Bool.and_eq_true_iff.1 (hU.ok _ hm)).2
  have h1 : ([i] : List Nat).length ≤ 2 := by simp
  unfold apart
  rw [term_at hi]
  generalize W[i].t = t at hm hs ⊢
  dsimp only
  split
  · have hf : ∀ j ∈ [i], j < W.length := fun j hj => by simp at hj; omega
    have hl := take_len W (t.kid 0) 2 [i]
    exact (hO.take _ 2 h1 hf).take _ 3 h1 (fun j hj => Nat.lt_of_lt_of_le (hf j hj) hl)
  · split
    · exact hO.take _ 5 h1 (fun j hj => by simp at hj; omega)
    · split
      · split
        · exact hO
        · obtain ⟨b1, b2, b3⟩ := bld_inv hU (hU.kid t hm 0 (by omega)) hW
          have b4 : Ord (bld W (t.kid 0)).1 := build_ord hU _ _ (hU.kid t hm 0 (by omega)) W hW hO
          split
          · exact b4
          · rename_i k hk
            refine b4.take _ 4 (Nat.le_refl _) fun j hj => ?_
            have h5 := b2.length_le; have h6 := b3 k hk
            simp only [List.mem_cons, List.not_mem_nil, or_false] at hj
            rcases hj with rfl | rfl
            · omega
            · exact h6
      · exact hO
theorem rnd_ord {U : List T} (hU : Uni U) : ∀ (f i : Nat) (m : Bool) (W : List Stp), Inv U W → Ord W → Ord (rnd f i m W).1
  | 0, _, _, _, _, hO => hO
  | f + 1, i, m, W, hW, hO => by
    simp only [rnd]
    split
    · rename_i hi
      split
      · exact rnd_ord hU f (i + 1) _ _ (apart_inv hU hW hi).1 (apart_ord hU hW hO hi)
      · exact rnd_ord hU f (i + 1) m W hW hO
    · exact hO
theorem run_ord {U : List T} (hU : Uni U) (N : Nat) : ∀ (f : Nat) (W : List Stp), Inv U W → Ord W → Ord (run N f W)
  | 0, _, _, hO => hO
  | f + 1, W, hW, hO => by
    have a1 := (rnd_facts hU ⟨#[]⟩ N 0 false W hW).1
    have a2 := rnd_ord hU N 0 false W hW hO
    simp only [run]
    split
    · exact run_ord hU N f _ a1 a2
    · exact a2
theorem start_ord : ∀ (ts : List T) (W : List Stp), Ord W → Ord (ts.foldl (fun W t => (take W t 1 []).1) W)
  | [], _, hO => hO
  | t :: r, W, hO => start_ord r _ (hO.take t 1 (by simp) (fun j hj => by cases hj))
theorem fill_ord {U K : List T} (hU : Uni U) (hK : ∀ t ∈ K, t ∈ U) (N : Nat) : Ord (fill N K) := by
  have h := start_inv hK K.length
  rw [List.take_of_length_le (Nat.le_refl _)] at h
  exact run_ord hU N (N + 1) _ h (start_ord K [] Ord.nil)
theorem bld_ord {U : List T} (hU : Uni U) {t : T} (ht : t ∈ U) {W : List Stp} (hW : Inv U W) (hO : Ord W) : Ord (bld W t).1 := build_ord hU _ t ht W hW hO
end Wb
end Go.Proofs.YtihbmgkbipeakaaGreat
