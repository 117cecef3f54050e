/- Several texts in one: WebN, WebA, WebM, WebB, WebT. -/
import Derived.Test.YtihbmgkbipeakaaGreatWebG10
import Derived.Test.YtihbmgkbipeakaaGreatWebG0
import Derived.Test.YtihbmgkbipeakaaGreatWebG8
import Derived.Test.YtihbmgkbipeakaaGreatWebG6
import Derived.Test.YtihbmgkbipeakaaGreatWebG3
import Derived.Deep.RegionHeld
import Derived.StillTailTactics
import Derived.IntWalk
namespace Go.Proofs.YtihbmgkbipeakaaGreat

namespace Wb
/-- How many steps were found by taking apart. -/
def np (W : List Stp) : Nat := W.countP fun s => s.part
theorem np_le (W : List Stp) : np W ≤ W.length := List.countP_le_length
theorem np_push (W : List Stp) (t : T) (how : Nat) (frm : List Nat) : np (W ++ [⟨t, how, frm, false⟩]) = np W := by
  unfold np; rw [List.countP_append]; simp
theorem np_add (W : List Stp) (t : T) (how : Nat) (frm : List Nat) : np (add W t how frm).1 = np W := by
  cases hf : find W t with
  | some i => rw [add_some hf]
  | none => rw [add_none hf]; exact np_push W t how frm
theorem np_mark : ∀ (W : List Stp) (i : Nat) (h : i < W.length), W[i].part = false → np (mark W i) = np W + 1
  | [], i, h, _ => absurd h (Nat.not_lt_zero _)
  | a :: r, 0, _, hp => by
    have hp' : a.part = false := hp
    unfold mark np
    rw [List.modify_zero_cons, List.countP_cons, List.countP_cons, hp']
    simp
  | a :: r, i + 1, h, hp => by
    have ih := np_mark r i (by simpa using h) hp
    unfold mark np at ih ⊢
    rw [List.modify_succ_cons, List.countP_cons, List.countP_cons, ih]; omega
theorem part_at {W : List Stp} {i : Nat} (h : i < W.length) : partAt W i = W[i].part := by unfold partAt; rw [List.getElem?_eq_getElem h]; rfl
theorem np_take (W : List Stp) (t : T) (how : Nat) (frm : List Nat) : np (take W t how frm).1 = np W + if (take W t how frm).2 = true then 1 else 0 := by
  have hp := add_pre W t how frm
  have hn := np_add W t how frm
  unfold take
  split
  · simp [hn]
  · rename_i h
    have h2 := part_at hp.2
    rw [Bool.not_eq_true, h2] at h
    rw [if_pos rfl]
    show np (mark _ _) = _
    rw [np_mark _ _ hp.2 h, hn]
/-- What is put together marks nothing. -/
def Nop (rec : List Stp → T → List Stp × Option Nat) (t : T) : Prop := ∀ W, np (rec W t).1 = np W
theorem np_both {rec : List Stp → T → List Stp × Option Nat} {t : T} (how : Nat) (h0 : Nop rec (t.kid 0)) (h1 : Nop rec (t.kid 1)) : Nop (fun W t => both rec W t how) t := fun W => by
  simp only [both]
  split
  · exact h0 W
  · split
    · exact (h1 _).trans (h0 W)
    · exact (np_add _ _ _ _).trans ((h1 _).trans (h0 W))
theorem np_pow {rec : List Stp → T → List Stp × Option Nat} {t : T} (hl : ∀ i, Nop rec (t.lessOf i)) : ∀ (f i : Nat) (W : List Stp), np (pow rec t f i W).1 = np W
  | 0, _, _ => rfl
  | f + 1, i, W => by
    have ih := np_pow hl f (i + 1)
    simp only [pow]
    split
    · exact ih W
    · split
      · exact np_add _ _ _ _
      · split
        · exact (ih _).trans (hl i W)
        · exact (np_add _ _ _ _).trans (hl i W)
theorem np_build : ∀ (n : Nat) (t : T), Nop (build n) t
  | 0, _, _ => rfl
  | n + 1, t, W => by
    simp only [build]
    split
    · rfl
    · split
      · split
        · exact np_build n _ W
        · exact (np_add _ _ _ _).trans (np_build n _ W)
      · split
        · exact np_both 6 (np_build n _) (np_build n _) W
        · split
          · exact np_both 8 (np_build n _) (np_build n _) W
          · split
            · exact np_both 9 (np_build n _) (np_build n _) W
            · split
              · exact np_pow (fun i => np_build n _) _ _ W
              · rfl
theorem np_apart (W : List Stp) (i : Nat) : np W + (if (apart W i).2 = true then 1 else 0) ≤ np (apart W i).1 := by
  unfold apart
  dsimp only
  split
  · have h1 := np_take W ((termAt W i).kid 0) 2 [i]
    have h2 := np_take (take W ((termAt W i).kid 0) 2 [i]).1 ((termAt W i).kid 1) 3 [i]
    dsimp only
    rw [h2, h1]
    cases (take W ((termAt W i).kid 0) 2 [i]).2 <;> cases (take (take W ((termAt W i).kid 0) 2 [i]).1 ((termAt W i).kid 1) 3 [i]).2 <;> simp
  · split
    · rw [np_take]; exact Nat.le_refl _
    · split
      · split
        · simp
        · split
          · have := np_build (((termAt W i).kid 0).bulk + 1) ((termAt W i).kid 0) W
            unfold bld
            simp [this]
          · rw [np_take]
            have := np_build (((termAt W i).kid 0).bulk + 1) ((termAt W i).kid 0) W
            unfold bld
            rw [this]; exact Nat.le_refl _
      · simp
theorem np_rnd : ∀ (f i : Nat) (m : Bool) (W : List Stp), np W ≤ np (rnd f i m W).1 ∧ ((rnd f i m W).2 = true → m = true ∨ np W + 1 ≤ np (rnd f i m W).1)
  | 0, _, m, W => ⟨Nat.le_refl _, fun h => .inl h⟩
  | f + 1, i, m, W => by
    simp only [rnd]
    split
    · split
      · obtain ⟨a1, a2⟩ := np_rnd f (i + 1) (m || (apart W i).2) (apart W i).1
        have ha := np_apart W i
        refine ⟨by split at ha <;> omega, fun h => ?_⟩
        rcases a2 h with h3 | h3
        · cases m with
          | true => exact .inl rfl
          | false =>
            right
            rw [Bool.false_or] at h3
            rw [if_pos h3] at ha
            omega
        · right; split at ha <;> omega
      · exact np_rnd f (i + 1) m W
    · exact ⟨Nat.le_refl _, fun h => .inl h⟩
end Wb
end Go.Proofs.YtihbmgkbipeakaaGreat

namespace Go.Proofs.YtihbmgkbipeakaaGreat
open Go.RowKit Go.Maps

def fI : Option Nat → Int
  | some i => (i : Int)
  | none => -1
theorem mapS_keyed : Keyed Tryz.prog 9 := string_keyed Tryz.underlying9
theorem zero_int (w : World) : (zeroValue 3).run Tryz.prog w = .ok (.int .i64 0) w := Tryz.zeroValue3 w
theorem key_lit (K : ByteArray) (h : K.size ≤ 3145728) : keyOf Tryz.prog 9 (.string K) = some (kl K) := WideMaps.keyOf_string_mk (P := Tryz.prog) Tryz.underlying9 (by unfold maxLen; omega)
theorem T.key_size (t : T) (h : t.bulk ≤ 1048576) : t.key.size ≤ 3145728 := by
  unfold T.key
  have := T.text_len t
  split
  · rw [strOf_size]; omega
  · exact Nat.zero_le _
set_option maxRecDepth 100000 in
theorem WebAt.look {B g M : Nat} {vs vp : Value} {W : List Stp} {w : World} (h : WebAt B w g M vs vp W) (K : ByteArray) (hK : K.size ≤ 3145728) : ∃ c : Int, Sem.run Tryz.prog (Instr.lookup 113 (.map (some M)) (.string K) true) w = .ok (.tuple #[.int .i64 c, .bool (findK W K).isSome]) w ∧ ∀ i, findK W K = some i → c = (i : Int) := by
  obtain ⟨D, n, hown, _, hD⟩ := h.map
  obtain ⟨h1, h2⟩ := hD K
  obtain ⟨v, ps, hrun, hv⟩ := hown.look_ok mapS_keyed Tryz.underlying113 (zero_int w) (plainElem_int (H := Unit) Tryz.underlying3 (by decide)) (key_lit K hK)
  obtain ⟨c, rfl, hc, _⟩ := plainElem_int_inv Tryz.underlying3 hv
  rw [h1] at hrun
  refine ⟨c, hrun, fun i hi => ?_⟩
  have e : DataW.lit (.int .i64 (i : Int)) = (.lit (.int .i64 c) : DataW Unit) := (h2 i hi).symm.trans (congrArg Prod.fst hc)
  injection e with e
  injection e with _ e
  exact e.symm
theorem WebAt.look_none {B g M : Nat} {vs vp : Value} {W : List Stp} {w : World} (h : WebAt B w g M vs vp W) {K : ByteArray} (hK : K.size ≤ 3145728) (hf : findK W K = none) : ∃ c : Int, Sem.run Tryz.prog (Instr.lookup 113 (.map (some M)) (.string K) true) w = .ok (.tuple #[.int .i64 c, .bool false]) w := by
  obtain ⟨c, hc, _⟩ := h.look K hK
  rw [hf] at hc; exact ⟨c, hc⟩
theorem WebAt.look_some {B g M : Nat} {vs vp : Value} {W : List Stp} {w : World} (h : WebAt B w g M vs vp W) {K : ByteArray} {i : Nat} (hK : K.size ≤ 3145728) (hf : findK W K = some i) : Sem.run Tryz.prog (Instr.lookup 113 (.map (some M)) (.string K) true) w = .ok (.tuple #[.int .i64 i, .bool true]) w := by
  obtain ⟨c, hc, hi⟩ := h.look K hK
  rw [hi i hf, hf] at hc; exact hc

set_option maxRecDepth 100000 in
set_option maxHeartbeats 4000000 in
theorem ofind {B g M : Nat} {vs vp : Value} {W : List Stp} (t : T) (v : Value) (w : World) (h : WebAt B w g M vs vp W) (ht : TermAt w v t) (hbk : t.bulk ≤ 1048576) :
    Calls Tryz.prog 98 #[.pointer (some ⟨g, 0, none⟩), v] w fun e w' => e = .returned (.int .i64 (fI (findK W t.key))) ∧ Below w.heap.size w w' := by
  have HF := Lib.hid (fun (W' : World) (hW' : TermAt W' v t) => (show Calls Tryz.prog 129 #[v] W' fun e w' => e = .returned (.string t.key) ∧ Below W'.heap.size W' w' from oformat t v W' hW' hbk))
  have HT := Lib.hid ht
  obtain ⟨KY, hK⟩ : ∃ KY, t.key = KY := ⟨_, rfl⟩
  have HKS := Lib.hid (show KY.size ≤ 3145728 by rw [← hK]; exact t.key_size hbk)
  rw [hK] at HF ⊢
  clear hbk hK
  cases ht with
  | mk k s A cap ks U h1 h2 h3 h4 hA hU =>
  go_enter Tryz.func98, Tryz.ntmps98
  go_upto_region 1 with fail
  have bx := Box.new w (.int .i64 k) (.string s) (.slice A ks.length cap)
  have hw := below_alloc1 w (.cells #[.int .i64 k, .string s, .slice A ks.length cap] 29)
  have HT1 := Lib.hid (HT.out.later hw); have HW1 := Lib.hid (h.later hw); have HB1 := Lib.hid hw
  clear h hA hU hw h1 h2 h3 h4
  generalize w.alloc (.cells #[.int .i64 k, .string s, .slice A ks.length cap] 29) = w1 at bx HT1 HW1 HB1 ⊢
  obtain ⟨x0, x1, x2⟩ := bx.cells
  have hc1 := HW1.out.cells.2.1
  clear bx
  cases hf : findK W KY with
  | none =>
    have HF2 := Lib.hid hf
    clear hf
    (refine wp_region_held_drew (S := (fun W => W.cell? ⟨g, 1, none⟩ = some (.map (some M)) ∧ W.cell? ⟨w.heap.size, 0, none⟩ = some (.int .i64 k) ∧ W.cell? ⟨w.heap.size, 1, none⟩ = some (.string s) ∧ W.cell? ⟨w.heap.size, 2, none⟩ = some (.slice A ks.length cap) ∧ TermAt W (.agg #[.int .i64 k, .string s, .slice A ks.length cap]) (.mk k s ks) ∧ Below w1.heap.size w1 W)) (by kernel_rfl) (show _ ∧ _ ∧ _ ∧ _ ∧ _ ∧ _ from ⟨hc1, x0, x1, x2, HT1.out.drew, (Below.refl _ w1).drew⟩) (fun hHeld => ?_))
    (refine tkJ 0 _ (h := ?_))
    (refine tkJ 1 _ (h := ?_))
    (refine tkJ 2 _ (h := ?_))
    (refine tkJ 3 _ (h := ?_))
    (refine tkJ 4 _ (h := ?_))
    (refine rdJ 5 (h := fun K hK => ?_); go_simp; go_at_call 129; refine (HF.out _ hHeld.2.2.2.2.1).mono ?_; rintro e w4 ⟨rfl, hb4⟩; have hbl4 := hHeld.2.2.2.2.2.trans (hb4.mono hHeld.2.2.2.2.2.size); obtain ⟨c4, hlk⟩ := (HW1.out.later hbl4).look_none HKS.out HF2.out; refine shK hK (⟨cell_later hb4 hHeld.1, cell_later hb4 hHeld.2.1, cell_later hb4 hHeld.2.2.1, cell_later hb4 hHeld.2.2.2.1, hHeld.2.2.2.2.1.later hb4, hHeld.2.2.2.2.2.trans (hb4.mono hHeld.2.2.2.2.2.size)⟩) (h := fun hHeld => ?_); clear hK K)
    (refine rdJ 6 (h := fun K hK => ?_); go_simp; skip; refine shK hK (hHeld) (h := fun hHeld => ?_); clear hK K)
    (refine tkJ 7 _ (h := ?_))
    (refine tkJ 8 _ (h := ?_))
    (refine tkJ 9 _ (h := ?_))
    (refine tkJ 10 _ (h := ?_))
    (refine tkJ 11 _ (h := ?_))
    (refine wpAnyH_done (by kernel_rfl) ?_ _)
    go_wp2_with fail
    go_ret
    exact ⟨by rw [HF2.out]; rfl, HB1.out.trans (hHeld.2.2.2.2.2.mono HB1.out.size)⟩
  | some i =>
    have HF2 := Lib.hid hf
    clear hf
    (refine wp_region_held_drew (S := (fun W => W.cell? ⟨g, 1, none⟩ = some (.map (some M)) ∧ W.cell? ⟨w.heap.size, 0, none⟩ = some (.int .i64 k) ∧ W.cell? ⟨w.heap.size, 1, none⟩ = some (.string s) ∧ W.cell? ⟨w.heap.size, 2, none⟩ = some (.slice A ks.length cap) ∧ TermAt W (.agg #[.int .i64 k, .string s, .slice A ks.length cap]) (.mk k s ks) ∧ Below w1.heap.size w1 W)) (by kernel_rfl) (show _ ∧ _ ∧ _ ∧ _ ∧ _ ∧ _ from ⟨hc1, x0, x1, x2, HT1.out.drew, (Below.refl _ w1).drew⟩) (fun hHeld => ?_))
    (refine tkJ 0 _ (h := ?_))
    (refine tkJ 1 _ (h := ?_))
    (refine tkJ 2 _ (h := ?_))
    (refine tkJ 3 _ (h := ?_))
    (refine tkJ 4 _ (h := ?_))
    (refine rdJ 5 (h := fun K hK => ?_); go_simp; go_at_call 129; refine (HF.out _ hHeld.2.2.2.2.1).mono ?_; rintro e w4 ⟨rfl, hb4⟩; have hbl4 := hHeld.2.2.2.2.2.trans (hb4.mono hHeld.2.2.2.2.2.size); obtain hlk := (HW1.out.later hbl4).look_some HKS.out HF2.out; refine shK hK (⟨cell_later hb4 hHeld.1, cell_later hb4 hHeld.2.1, cell_later hb4 hHeld.2.2.1, cell_later hb4 hHeld.2.2.2.1, hHeld.2.2.2.2.1.later hb4, hHeld.2.2.2.2.2.trans (hb4.mono hHeld.2.2.2.2.2.size)⟩) (h := fun hHeld => ?_); clear hK K)
    (refine rdJ 6 (h := fun K hK => ?_); go_simp; skip; refine shK hK (hHeld) (h := fun hHeld => ?_); clear hK K)
    (refine tkJ 7 _ (h := ?_))
    (refine tkJ 8 _ (h := ?_))
    (refine tkJ 9 _ (h := ?_))
    (refine tkJ 10 _ (h := ?_))
    (refine tkJ 11 _ (h := ?_))
    (refine wpAnyH_done (by kernel_rfl) ?_ _)
    go_wp2_with fail
    go_ret
    exact ⟨by rw [HF2.out]; rfl, HB1.out.trans (hHeld.2.2.2.2.2.mono HB1.out.size)⟩
end Go.Proofs.YtihbmgkbipeakaaGreat

namespace Go.Proofs.YtihbmgkbipeakaaGreat
open Go.RowKit

theorem own_keep {w w' : World} {base : Nat} {e : TypeId} {size n : Nat} {v : Value} {xs : List Value} (h : w.ownsRow base e size v n xs) (hk : ∀ b, v.ownBlock = some b → b < w.heap.size → w'.heap[b]? = w.heap[b]?) : w'.ownsRow base e size v n xs := by
  refine ⟨h.1, ?_⟩
  rcases h.2 with h0 | ⟨g, cap, cur, hv, hb, hg, rest⟩
  · exact .inl h0
  · exact .inr ⟨g, cap, cur, hv, hb, (hk g (by rw [hv]; rfl) (Array.getElem?_eq_some_iff.1 hg).1).trans hg, rest⟩
theorem own_type {w : World} {base : Nat} {e : TypeId} {size n : Nat} {v : Value} {xs : List Value} (h : w.ownsRow base e size v n xs) {b : Nat} (hv : v.ownBlock = some b) : base ≤ b ∧ b < w.heap.size ∧ ∃ cur, w.heap[b]? = some (.cells cur e (0, 0)) := by
  rcases h.2 with ⟨rfl, _⟩ | ⟨g, cap, cur, rfl, hb, hg, _⟩
  · cases hv
  · injection hv with hv
    subst hv
    exact ⟨hb, (Array.getElem?_eq_some_iff.1 hg).1, cur, hg⟩
theorem own_shape {w : World} {base : Nat} {e : TypeId} {size n : Nat} {v : Value} {xs : List Value} (h : w.ownsRow base e size v n xs) : ∃ A c, v = .slice A n c := by
  rcases h.2 with ⟨rfl, rfl⟩ | ⟨g, cap, cur, rfl, _⟩
  · exact ⟨_, _, rfl⟩
  · exact ⟨_, _, rfl⟩
theorem WebAt.shapes {B g M : Nat} {vs vp : Value} {W : List Stp} {w : World} (h : WebAt B w g M vs vp W) : ∃ A c A' c', vs = .slice A W.length c ∧ vp = .slice A' W.length c' := by
  obtain ⟨css, _, h2⟩ := h.steps
  obtain ⟨A, c, e⟩ := own_shape h2
  obtain ⟨A', c', e'⟩ := own_shape h.part
  exact ⟨A, c, A', c', e, e'⟩
theorem ne_of_cells {o : Option Obj} {c c' : Array Value} {e e' : TypeId} {z z' : Nat × Nat} (h : o = some (.cells c e z)) (h' : o = some (.cells c' e' z')) (hne : e ≠ e') : False := by
  rw [h] at h'; injection h' with h'; injection h' with _ h'; exact hne h'
theorem ne_of_map {o : Option Obj} {c : Array Value} {e : TypeId} {z : Nat × Nat} {es : Array MapEntry} {k : Nat} (h : o = some (.cells c e z)) (h' : o = some (.map es k)) : False := by
  rw [h] at h'; injection h' with h'; cases h'
theorem map_block {P : Program} {k : TypeId} {R : Value → Option (DataW Unit × List MemPlace)} {w : World} {b n : Nat} {D : DataW Unit} (h : w.ownsMap P k R b n D) : ∃ es c, w.heap[b]? = some (.map es c) := by
  obtain ⟨es, clock, hb, _⟩ := h
  exact ⟨es, clock, hb⟩
/-- The web's own blocks are apart. -/
structure WebApart (B : Nat) (w : World) (g M : Nat) (vs vp : Value) : Prop where
  s : ∀ b, vs.ownBlock = some b → B ≤ b ∧ b < w.heap.size ∧ b ≠ g ∧ b ≠ M ∧ vp.ownBlock ≠ some b
  p : ∀ b, vp.ownBlock = some b → B ≤ b ∧ b < w.heap.size ∧ b ≠ g ∧ b ≠ M ∧ vs.ownBlock ≠ some b
  gm : g ≠ M
  g : g < w.heap.size
  m : M < w.heap.size
theorem WebAt.apart {B g M : Nat} {vs vp : Value} {W : List Stp} {w : World} (h : WebAt B w g M vs vp W) : WebApart B w g M vs vp := by
  obtain ⟨css, _, h2⟩ := h.steps
  obtain ⟨D, n, h4, _, _⟩ := h.map
  obtain ⟨es, k, hm⟩ := map_block h4
  have hp := h.part
  have hb := h.box
  refine ⟨fun b e => ?_, fun b e => ?_, fun e => ?_, (Array.getElem?_eq_some_iff.1 hb).1, (Array.getElem?_eq_some_iff.1 hm).1⟩
  · obtain ⟨a1, a2, cur, a3⟩ := own_type h2 e
    refine ⟨a1, a2, fun x => ?_, fun x => ?_, fun x => ?_⟩
    · subst x; exact ne_of_cells a3 hb (by decide)
    · subst x; exact ne_of_map a3 hm
    · obtain ⟨_, _, cur', a4⟩ := own_type hp x
      exact ne_of_cells a3 a4 (by decide)
  · obtain ⟨a1, a2, cur, a3⟩ := own_type hp e
    refine ⟨a1, a2, fun x => ?_, fun x => ?_, fun x => ?_⟩
    · subst x; exact ne_of_cells a3 hb (by decide)
    · subst x; exact ne_of_map a3 hm
    · obtain ⟨_, _, cur', a4⟩ := own_type h2 x
      exact ne_of_cells a4 a3 (by decide)
  · subst e; exact ne_of_map hb hm
theorem heap_set_box {w : World} {g : Nat} {a b c : Value} {e : TypeId} (h : w.heap[g]? = some (.cells #[a, b, c] e (0, 0))) (v : Value) : (w.setCell ⟨g, 0, none⟩ v).heap[g]? = some (.cells #[v, b, c] e (0, 0)) ∧ (w.setCell ⟨g, 2, none⟩ v).heap[g]? = some (.cells #[a, b, v] e (0, 0)) := by
  refine ⟨?_, ?_⟩ <;> simp [World.setCell, Array.getElem?_modify, h]
theorem setCell_size (w : World) (a : Addr) (v : Value) : (w.setCell a v).heap.size = w.heap.size := by simp [World.setCell]
/-- What the five turns of 'add' leave: the map is told, a step and its mark are appended. -/
theorem WebAt.pushed {B g M : Nat} {vs vp vs' vp' : Value} {W : List Stp} {w4 w5 w6 w7 w9 w10 : World} {t : T} {how : Nat} {frm : List Nat} {cs : List Value} {css : List (List Value)} {D : DataW Unit} {n : Nat}
    (h : WebAt B w4 g M vs vp W) (hst : StepsAt (nr g M vs vp) w4 css W) (hD : MapIs D W) (hmD : Maps.IsMap D) (hn : n ≤ W.length) (hm : w4.mapTurned w5 M)
    (hm5 : w5.ownsMap Tryz.prog 9 (plainElem (H := Unit) Tryz.prog 3) M (n + 1) (D.put (kl t.key) (.lit (.int .i64 (W.length : Int)))))
    (hs : StepAt (nr g M vs vp) w4 cs ⟨t, how, frm, false⟩) (hf : findK W t.key = none) (hsz : W.length < 1048576) (hb6 : Below w5.heap.size w5 w6)
    (hown7 : w7.ownsRow B 31 5 vs' (W.length + 1) (css.flatten ++ cs)) (hg7 : w6.grownBy w7 vs.ownBlock) (hat7 : vs'.ownBlock = vs.ownBlock ∨ vs'.ownBlock = some w6.heap.size) (hb9 : Below (w7.setCell ⟨g, 0, none⟩ vs').heap.size (w7.setCell ⟨g, 0, none⟩ vs') w9)
    (hown10 : w10.ownsRow B 4 1 vp' (W.length + 1) (W.map (fun s => Value.bool s.part) ++ [.bool false])) (hg10 : w9.grownBy w10 vp.ownBlock) (hat10 : vp'.ownBlock = vp.ownBlock ∨ vp'.ownBlock = some w9.heap.size) :
    WebTo B g M w4 vs vp (W ++ [⟨t, how, frm, false⟩]) (w10.setCell ⟨g, 2, none⟩ vp') := by
  have ap := h.apart
  have z4 := h.lt.2
  have z5 := hm.grown.size
  have z6 := hb6.size
  have z7 := hg7.size
  have z9 := hb9.size
  rw [setCell_size] at z9
  have z10 := hg10.size
  have l := h.low
  -- the frame
  have F1 : Fr B g M vs vp w4 vs vp w5 := Fr.grown z4 hm.grown (fun k hk => by injection hk with hk; subst hk; exact ⟨l.2, nr_M⟩) (.inl rfl) (.inl rfl)
  have F2 := F1.later z4 hb6
  have F3 := F2.trans (Fr.grown (by omega) hg7 (fun k hk => ⟨(ap.s k hk).1, nr_s hk⟩) hat7 (.inl rfl))
  have F4 := F3.trans (Fr.grown (vs' := vs') (vp' := vp) (by omega) (grown_cell w7 ⟨g, 0, none⟩ vs') (fun k hk => by injection hk with hk; subst hk; exact ⟨l.1, nr_g⟩) (.inl rfl) (.inl rfl))
  have F5 := F4.later z4 hb9
  have F6 := F5.trans (Fr.grown (by omega) hg10 (fun k hk => ⟨(ap.p k hk).1, nr_p hk⟩) (.inl rfl) hat10)
  have F7 := F6.trans (Fr.grown (vs' := vs') (vp' := vp') (by omega) (grown_cell w10 ⟨g, 2, none⟩ vp') (fun k hk => by injection hk with hk; subst hk; exact ⟨l.1, nr_g⟩) (.inl rfl) (.inl rfl))
  -- the box
  have gl := ap.g
  have b5 : w5.heap[g]? = _ := (hm.grown.block g ap.g (fun e => ap.gm (by injection e))).trans h.box
  have b6 : w6.heap[g]? = _ := (hb6.block g (by omega)).trans b5
  have hsg : vs.ownBlock ≠ some g := fun e => (ap.s g e).2.2.1 rfl
  have hpg : vp.ownBlock ≠ some g := fun e => (ap.p g e).2.2.1 rfl
  have hsM : vs.ownBlock ≠ some M := fun e => (ap.s M e).2.2.2.1 rfl
  have hpM : vp.ownBlock ≠ some M := fun e => (ap.p M e).2.2.2.1 rfl
  have b7 : w7.heap[g]? = _ := (hg7.block g (by omega) (fun e => hsg e.symm)).trans b6
  have b8 := (heap_set_box b7 vs').1
  have b9 : w9.heap[g]? = _ := (hb9.block g (by rw [setCell_size]; omega)).trans b8
  have b10 : w10.heap[g]? = _ := (hg10.block g (by omega) (fun e => hpg e.symm)).trans b9
  have b11 := (heap_set_box b10 vp').2
  -- the steps' row stays behind the marks' append
  have hs7 : ∀ b, vs'.ownBlock = some b → b < w7.heap.size ∧ b ≠ g ∧ vp.ownBlock ≠ some b := fun b e => by
    obtain ⟨_, a2, cur, a3⟩ := own_type hown7 e
    refine ⟨a2, fun x => by subst x; exact ne_of_cells a3 b7 (by decide), fun x => ?_⟩
    rcases hat7 with a4 | a4
    · exact (ap.s b (a4.symm.trans e)).2.2.2.2 x
    · rw [e] at a4; injection a4 with a4
      have := (ap.p b x).2.1
      omega
  have own11 : (w10.setCell ⟨g, 2, none⟩ vp').ownsRow B 31 5 vs' (W.length + 1) (css.flatten ++ cs) := own_keep hown7 fun b e hb => by
    obtain ⟨_, a2, a3⟩ := hs7 b e
    rw [Below.heap_setCell _ _ _ _ a2, hg10.block b (by omega) (fun x => a3 x.symm), hb9.block b (by rw [setCell_size]; omega), Below.heap_setCell _ _ _ _ a2]
  have part11 : (w10.setCell ⟨g, 2, none⟩ vp').ownsRow B 4 1 vp' (W.length + 1) (W.map (fun s => Value.bool s.part) ++ [.bool false]) := own_keep hown10 fun b e hb => by
    obtain ⟨_, _, cur, a3⟩ := own_type hown10 e
    exact Below.heap_setCell _ _ _ _ (fun x => by subst x; exact ne_of_cells a3 b10 (by decide))
  -- the map
  have m6 := hm5.kept (row := none) (w' := w6) (grownBy_of_below none hb6) (by simp)
  have m7 := m6.kept hg7 (fun e => hsM e.symm)
  have m8 := m7.setCell (a := ⟨g, 0, none⟩) (fun e => ap.gm e.symm) vs'
  have m9 := m8.kept (row := none) (w' := w9) (grownBy_of_below none hb9) (by simp)
  have m10 := m9.kept hg10 (fun e => hpM e.symm)
  have m11 := m10.setCell (a := ⟨g, 2, none⟩) (fun e => ap.gm e.symm) vp'
  refine ⟨vs', vp', ⟨⟨css ++ [cs], (hst.keep F7.keep).push (hs.keep F7.keep), ?_⟩, ?_, ⟨_, n + 1, m11, by simp; omega, hD.push hmD ⟨t, how, frm, false⟩ hf⟩, b11, l, by simp; omega⟩, F7⟩
  · have e : (css ++ [cs]).flatten = css.flatten ++ cs := by simp
    rw [e, List.length_append]; exact own11
  · rw [List.length_append, List.map_append]; exact part11
end Go.Proofs.YtihbmgkbipeakaaGreat

namespace Go.Proofs.YtihbmgkbipeakaaGreat
open Go.RowKit Go.Maps

theorem Src.news (w : World) (cs : List Value) (e : TypeId) (size : Nat) (h : cs.length = size) : Src (w.alloc (.cells cs.toArray e)) size (some ⟨w.heap.size, 0, none⟩) 1 cs := by
  refine ⟨by omega, .inr ⟨_, 0, rfl, fun j u hu => ?_⟩⟩
  rw [Nat.zero_add]
  have e := heap_alloc_new w (.cells cs.toArray e)
  unfold World.cell?; rw [e]; simpa using hu
theorem Tryz.infoR : (Tryz.prog.info? 31).map (fun i => (i.zero, i.size, i.bytes)) = some (some (.agg #[.int .i64 0, .string ByteArray.empty, .slice none 0 0, .int .i64 0, .slice none 0 0]), 5, 80) := by kernel_rfl
theorem Tryz.infoB1 : (Tryz.prog.info? 4).map (fun i => (i.zero, i.size, i.bytes)) = some (some (.bool false), 1, 1) := by kernel_rfl
theorem wf_len (n : Nat) (h : n ≤ 1048576) : (Lit.int .i64 (n : Int)).wf = true := WalkArith.wf_i64 (by omega)
theorem own_block {P : Prop} {A' : Option Addr} {n c : Nat} {row : Option Nat} {z : Nat} (h : A'.map (·.block) = row ∨ A'.map (·.block) = some z) (_ : P) : (Value.slice A' n c).ownBlock = row ∨ (Value.slice A' n c).ownBlock = some z := by
  cases A' <;> exact h
/-- The map behind an update. -/
theorem WebAt.told {B g M : Nat} {vs vp : Value} {W : List Stp} {w : World} (h : WebAt B w g M vs vp W) (K : ByteArray) (hK : K.size ≤ 3145728) : ∃ D n w5, MapIs D W ∧ Maps.IsMap D ∧ n ≤ W.length ∧ Sem.run Tryz.prog (Instr.mapUpdate 113 (.map (some M)) (.string K) (.int .i64 (W.length : Int))) w = .ok () w5 ∧
    w5.ownsMap Tryz.prog 9 (plainElem (H := Unit) Tryz.prog 3) M (n + 1) (D.put (kl K) (.lit (.int .i64 (W.length : Int)))) ∧ w.mapTurned w5 M := by
  obtain ⟨D, n, hown, hn, hD⟩ := h.map
  have hs := h.size
  obtain ⟨w5, a, b, c⟩ := hown.store mapS_keyed Tryz.underlying113 (by unfold maxLen; omega) (key_lit K hK) (plainElem_int (H := Unit) Tryz.underlying3 (wf_len W.length hs))
  exact ⟨D, n, w5, hD, hown.isMap, hn, a, b, c⟩
theorem cell_turned {w w' : World} {M : Nat} {p : Addr} {v : Value} (hm : w.mapTurned w' M) (h : w.cell? p = some v) : w'.cell? p = some v := by
  refine hm.grown.cell h (fun e => ?_)
  obtain ⟨es, k, _, _, hb, _⟩ := hm
  injection e with e
  unfold World.cell? at h
  rw [e, hb] at h; cases h

theorem box_cells3 {w : World} {g : Nat} {a b c : Value} {e : TypeId} (h : w.heap[g]? = some (.cells #[a, b, c] e (0, 0))) : w.cell? ⟨g, 0, none⟩ = some a ∧ w.cell? ⟨g, 1, none⟩ = some b ∧ w.cell? ⟨g, 2, none⟩ = some c ∧ w.frozen? ⟨g, 0, none⟩ = false ∧ w.frozen? ⟨g, 2, none⟩ = false := by
  refine ⟨?_, ?_, ?_, ?_, ?_⟩ <;> simp [World.cell?, World.frozen?, h]
theorem box_grown {w w8 : World} {g : Nat} {o o' : Obj} {row : Option Nat} (h : w.heap[g]? = some o) (hr : row ≠ some g) (hg : (w.drew.alloc o').grownBy w8 row) : w8.heap[g]? = some o := by
  have hl := (Array.getElem?_eq_some_iff.1 h).1
  rw [hg.block g (by rw [size_alloc1]; exact Nat.lt_succ_of_lt hl) (fun e => hr e.symm), Below.heap_alloc w.drew o' g hl]
  exact h

/-- A step is appended, and the web's field told. -/
def Put1 (B g n : Nat) (xs cs : List Value) (w6 : World) (row : Option Nat) (W' : World) : Prop := ∃ g8 c8 w8, W' = w8.setCell ⟨g, 0, none⟩ (.slice (some ⟨g8, 0, none⟩) (n + 1) c8) ∧ w8.ownsRow B 31 5 (.slice (some ⟨g8, 0, none⟩) (n + 1) c8) (n + 1) (xs ++ cs) ∧ w6.grownBy w8 row ∧ (row = some g8 ∨ g8 = w6.heap.size)

theorem WebTo.after {B g M : Nat} {vs vp vs' vp' : Value} {w w1 w' : World} {W' : List Stp} (h : Fr B g M vs vp w vs' vp' w1) (h' : WebTo B g M w1 vs' vp' W' w') : WebTo B g M w vs vp W' w' := by
  obtain ⟨a, b, h1, h2⟩ := h'
  exact ⟨a, b, h1, h.trans h2⟩
theorem box_grown' {w w8 : World} {g : Nat} {o : Obj} {row : Option Nat} (h : w.heap[g]? = some o) (hr : row ≠ some g) (hg : w.grownBy w8 row) : w8.heap[g]? = some o :=
  (hg.block g (Array.getElem?_eq_some_iff.1 h).1 (fun e => hr e.symm)).trans h
set_option maxRecDepth 100000 in
set_option maxHeartbeats 8000000 in
theorem oadd {B g M : Nat} {vs vp : Value} {W : List Stp} (t : T) (v : Value) (w : World) (how : Nat) (frm : List Nat) (F : Option Addr) (fc : Nat) (h : WebAt B w g M vs vp W) (ht : TermIn (nr g M vs vp) w v t) (hbk : t.bulk ≤ 1048576)
    (hF : NumsIn (nr g M vs vp) w F frm) (hsz : findK W t.key = none → W.length < 1048576) :
    Calls Tryz.prog 99 #[.pointer (some ⟨g, 0, none⟩), v, .int .i64 (how : Int), .slice F frm.length fc] w fun e w' => e = .returned (.int .i64 ((Wb.add W t how frm).2 : Int)) ∧ WebTo B g M w vs vp (Wb.add W t how frm).1 w' := by
  obtain ⟨A0, cap0, rfl⟩ := ht.view
  obtain ⟨A1, c1, A2, c2, rfl, rfl⟩ := h.shapes
  have HFM := Lib.hid (fun (W' : World) (hW' : TermAt W' (.agg #[.int .i64 t.kind, .string t.name, .slice A0 t.kids.length cap0]) t) => (show Calls Tryz.prog 129 #[.agg #[.int .i64 t.kind, .string t.name, .slice A0 t.kids.length cap0]] W' fun e w' => e = .returned (.string t.key) ∧ Below W'.heap.size W' w' from oformat t _ W' hW' hbk))
  have HFD := Lib.hid (fun (W' : World) (hW : WebAt B W' g M (.slice A1 W.length c1) (.slice A2 W.length c2) W) (hT : TermAt W' (.agg #[.int .i64 t.kind, .string t.name, .slice A0 t.kids.length cap0]) t) => ofind t _ W' hW hT hbk)
  have hw := below_alloc1 w (.cells #[.int .i64 t.kind, .string t.name, .slice A0 t.kids.length cap0] 29)
  have bx := Box.new w (.int .i64 t.kind) (.string t.name) (.slice A0 t.kids.length cap0)
  have hz := h.lt.2
  have HW1 := Lib.hid (h.later hw); have HT1 := Lib.hid (ht.keep (fun b hb hl => ⟨hb, hw.block b hl⟩)); have HN1 := Lib.hid (hF.keep (fun b hb hl => ⟨hb, hw.block b hl⟩))
  have HR1 := Lib.hid ((Fr.refl B g M (.slice A1 W.length c1) (.slice A2 W.length c2) w).later hz hw)
  have hwl := h.size
  clear h ht hF hw
  cases hf : findK W t.key with
  | some i =>
    rw [Wb.add_some hf]
    rw [hf] at HFD
    clear hsz hf
    show Calls _ _ _ _ (fun e w' => e = .returned (.int .i64 (i : Int)) ∧ WebTo B g M w (.slice A1 W.length c1) (.slice A2 W.length c2) W w')
    generalize t.kind = k at *
    go_enter Tryz.func99, Tryz.ntmps99
    go_upto_region 1 with fail
    generalize w.alloc (.cells #[.int .i64 k, .string t.name, .slice A0 t.kids.length cap0] 29) = w1 at bx HW1 HT1 HN1 HR1 ⊢
    obtain ⟨x0, x1, x2⟩ := bx.cells
    clear bx
    go_wp2_with fail
    refine (HFD.out _ HW1.out HT1.out.at).mono ?_; rintro e w2 ⟨he, hb2⟩
    have he2 : e = .returned (.int .i64 (i : Int)) := he
    clear he; subst he2
    have hi : (0 : Int) ≤ (i : Int) := by omega
    have HE := Lib.hid (show WebTo B g M w (.slice A1 W.length c1) (.slice A2 W.length c2) W w2 from ⟨_, _, HW1.out.later hb2, HR1.out.later hz hb2⟩)
    clear hb2 x0 x1 x2
    go_wp2_with fail
    go_ret
    exact ⟨rfl, HE.out⟩
  | none =>
    rw [Wb.add_none hf]
    rw [hf] at HFD
    have hlt := hsz hf
    have HK := Lib.hid hf
    clear hsz hf
    show Calls _ _ _ _ (fun e w' => e = .returned (.int .i64 (W.length : Int)) ∧ WebTo B g M w (.slice A1 W.length c1) (.slice A2 W.length c2) (W ++ [⟨t, how, frm, false⟩]) w')
    obtain ⟨i0, hi0, hz0, hz1, hz2⟩ := info_parts Tryz.infoR
    obtain ⟨i1, gi0, gz0, gz1, gz2⟩ := info_parts Tryz.infoB1
    obtain ⟨KY, hKK⟩ : ∃ KY, t.key = KY := ⟨_, rfl⟩
    have HKK := Lib.hid hKK
    have HKS := Lib.hid (show KY.size ≤ 3145728 by rw [← hKK]; exact t.key_size hbk)
    rw [hKK] at HFM
    clear hKK
    obtain ⟨k, hk⟩ : ∃ k, t.kind = k := ⟨_, rfl⟩
    obtain ⟨nm, hnm⟩ : ∃ nm, t.name = nm := ⟨_, rfl⟩
    obtain ⟨kn, hkn⟩ : ∃ kn, t.kids.length = kn := ⟨_, rfl⟩
    have HV := Lib.hid (show t.kind = k ∧ t.name = nm ∧ t.kids.length = kn from ⟨hk, hnm, hkn⟩)
    rw [hk, hnm, hkn] at bx HFM HFD HW1 HT1 HN1 HR1 ⊢
    clear hk hnm hkn
    go_enter Tryz.func99, Tryz.ntmps99
    go_upto_region 1 with fail
    generalize w.alloc (.cells #[.int .i64 k, .string nm, .slice A0 kn cap0] 29) = w1 at bx HW1 HT1 HN1 HR1 ⊢
    have BX := Lib.hid bx
    obtain ⟨x0, x1, x2⟩ := bx.cells
    clear bx
    go_wp2_with fail
    refine (HFD.out _ HW1.out HT1.out.at).mono ?_; rintro e w2 ⟨he, hb2⟩
    have he2 : e = .returned (.int .i64 (-1)) := he
    clear he; subst he2
    have BX2 := Lib.hid (BX.out.later hb2)
    have HW2 := Lib.hid (HW1.out.later hb2); have HT2 := Lib.hid (HT1.out.keep (fun b hb hl => ⟨hb, hb2.block b hl⟩)); have HN2 := Lib.hid (HN1.out.keep (fun b hb hl => ⟨hb, hb2.block b hl⟩))
    have HR2 := Lib.hid (HR1.out.later hz hb2)
    clear hb2 x0 x1 x2
    go_upto_region 4 with fail
    obtain ⟨x0, x1, x2⟩ := BX2.out.cells
    obtain ⟨d0, d1, d2, _, _⟩ := HW2.out.cells
    (refine wp_region_held_drew (S := (fun Wq => Wq.cell? ⟨g, 1, none⟩ = some (.map (some M)) ∧ Wq.cell? ⟨g, 0, none⟩ = some (.slice A1 W.length c1) ∧ Wq.cell? ⟨w.heap.size, 0, none⟩ = some (.int .i64 k) ∧ Wq.cell? ⟨w.heap.size, 1, none⟩ = some (.string nm) ∧ Wq.cell? ⟨w.heap.size, 2, none⟩ = some (.slice A0 kn cap0))) (by kernel_rfl) (show _ ∧ _ ∧ _ ∧ _ ∧ _ from ⟨d1, d0, x0, x1, x2⟩) (fun hHeld => ?_))
    (refine tkJ 0 _ (h := ?_))
    (refine tkJ 1 _ (h := ?_))
    (refine tkJ 2 _ (h := ?_))
    (refine tkJ 3 _ (h := ?_))
    (refine tkJ 4 _ (h := ?_))
    (refine tkJ 6 _ (h := ?_))
    (refine tkJ 7 _ (h := ?_))
    (refine tkJ 8 _ (h := ?_))
    (refine tkJ 9 _ (h := ?_))
    (refine tkJ 10 _ (h := ?_))
    (refine rdJ 5 (h := fun K hK => ?_); go_simp; go_at_call 129; refine (HFM.out _ HT2.out.at.drew).mono ?_; rintro e w4 ⟨rfl, hb4⟩; have hb4' := below_undrew hb4; have HW4 := Lib.hid (HW2.out.later hb4'); obtain ⟨D, n, w5, hD4, hmD, hn4, hrun5, hown5, hm5⟩ := HW4.out.told KY HKS.out; refine shK hK (⟨cell_later hb4 hHeld.1, cell_later hb4 hHeld.2.1, cell_later hb4 hHeld.2.2.1, cell_later hb4 hHeld.2.2.2.1, cell_later hb4 hHeld.2.2.2.2⟩) (h := fun hHeld => ?_); clear hK K)
    (refine rdJ 11 (h := fun K hK => ?_); go_simp; go_simp; refine shK hK (⟨cell_turned hm5 hHeld.1, cell_turned hm5 hHeld.2.1, cell_turned hm5 hHeld.2.2.1, cell_turned hm5 hHeld.2.2.2.1, cell_turned hm5 hHeld.2.2.2.2⟩) (h := fun hHeld => ?_); clear hK K)
    (refine wpAnyH_done (by kernel_rfl) ?_ _)
    have ap := HW4.out.apart
    obtain ⟨css, hst, hown⟩ := HW4.out.steps
    have HST := Lib.hid hst
    have HB5 := Lib.hid (show w5.heap[g]? = _ from (hm5.grown.block g ap.g (fun e => ap.gm (by injection e))).trans HW4.out.box)
    have HO5 := Lib.hid (own_keep hown fun b e _ => hm5.grown.block b (ap.s b e).2.1 (fun x => (ap.s b e).2.2.2.1 (by injection x)))
    have HP5 := Lib.hid (own_keep HW4.out.part fun b e _ => hm5.grown.block b (ap.p b e).2.1 (fun x => (ap.p b e).2.2.2.1 (by injection x)))
    have HM5 := Lib.hid hm5; have HOWN5 := Lib.hid hown5; have HD4 := Lib.hid hD4; have HMD := Lib.hid hmD; have HN4 := Lib.hid hn4
    have HAP := Lib.hid ap
    have HSTEP := Lib.hid (show StepAt (nr g M (.slice A1 W.length c1) (.slice A2 W.length c2)) w4 [.int .i64 k, .string nm, .slice A0 kn cap0, .int .i64 (how : Int), .slice F frm.length fc] ⟨t, how, frm, false⟩ from by
      obtain ⟨v1, v2, v3⟩ := HV.out
      refine ⟨A0, cap0, F, fc, by rw [v1, v2, v3], ?_, HN2.out.keep (fun b hb hl => ⟨hb, hb4'.block b hl⟩)⟩
      rw [v1, v2, v3]
      exact HT2.out.keep (fun b hb hl => ⟨hb, hb4'.block b hl⟩))
    have hz5 : B ≤ w5.heap.size := Nat.le_trans HW4.out.lt.2 hm5.grown.size
    have hB5 := HB5.out
    have y0 : w5.cell? ⟨g, 0, none⟩ = some (.slice A1 W.length c1) := by unfold World.cell?; rw [hB5]; rfl
    have y2 : w5.cell? ⟨g, 2, none⟩ = some (.slice A2 W.length c2) := by unfold World.cell?; rw [hB5]; rfl
    have HCS := Lib.hid (show ∀ u ∈ [Value.int .i64 k, .string nm, .slice A0 kn cap0, .int .i64 (how : Int), .slice F frm.length fc], u.oneCell' = true from fun u hu => by
      simp at hu
      rcases hu with rfl | rfl | rfl | rfl | rfl <;> rfl)
    clear hst hown hm5 hown5 hD4 hmD hn4 ap hB5 d0 d1 d2 y0
    obtain ⟨_, y0, b0, b1, b2⟩ := hHeld
    obtain ⟨o5, ho5⟩ : ∃ o5, o5 = Obj.cells #[.int .i64 k, .string nm, .slice A0 kn cap0, .int .i64 (how : Int), .slice F frm.length fc] 31 (0, 0) := ⟨_, rfl⟩
    have HO6 := Lib.hid (HO5.out.drew.alloc (.cells #[.int .i64 k, .string nm, .slice A0 kn cap0, .int .i64 (how : Int), .slice F frm.length fc] 31))
    have hz6 : B ≤ (w5.drew.alloc (.cells #[.int .i64 k, .string nm, .slice A0 kn cap0, .int .i64 (how : Int), .slice F frm.length fc] 31)).heap.size := by rw [size_alloc1]; exact Nat.le_succ_of_le hz5
    have HSG := Lib.hid (show (Value.slice A1 W.length c1).ownBlock ≠ some g from fun e => (HAP.out.s g e).2.2.1 rfl)
    have y0' := cell_later (below_alloc1 w5 (.cells #[.int .i64 k, .string nm, .slice A0 kn cap0, .int .i64 (how : Int), .slice F frm.length fc] 31)) y0
    have HO5' := Lib.hid ho5
    clear y2 ho5
    go_upto_region 5 with fail
    go_cut [] from 27 to 40 (fun W' => Put1 B g W.length css.flatten [.int .i64 k, .string nm, .slice A0 kn cap0, .int .i64 (how : Int), .slice F frm.length fc] (w5.drew.alloc (.cells #[.int .i64 k, .string nm, .slice A0 kn cap0, .int .i64 (how : Int), .slice F frm.length fc] 31)) (Value.slice A1 W.length c1).ownBlock W')
    case first =>
      refine wp_region_any (by kernel_rfl) ?_
      (try (change wpAny _ _ _ _ _ _ _ (World.drew _)))
      (refine wpAny_take (i := 0) (v := ?_) (by simp only [List.getElem?_toArray, List.getElem?_cons_zero]; rfl) (by kernel_rfl) (by kernel_rfl) (by kernel_rfl) (by exact fun _ _ _ h => h) (Or.inl ⟨by rfl, ?_⟩) ?_; rotate_left 1; · (intro w; go_simp; (try with_reducible rfl)))
      (refine wpAny_take (i := 1) (v := ?_) (by simp only [List.getElem?_toArray, List.getElem?_cons_succ, List.getElem?_cons_zero]; rfl) (by kernel_rfl) (by kernel_rfl) (by kernel_rfl) (by exact fun _ _ _ h => h) (Or.inl ⟨by rfl, ?_⟩) ?_; rotate_left 1; · (intro w; go_simp; (try with_reducible rfl)))
      (refine wpAny_take (i := 2) (v := ?_) (by simp only [List.getElem?_toArray, List.getElem?_cons_succ, List.getElem?_cons_zero]; rfl) (by kernel_rfl) (by kernel_rfl) (by kernel_rfl) (by exact fun _ _ _ h => h) (Or.inl ⟨by rfl, ?_⟩) ?_; rotate_left 1; · (intro w; go_simp; (try with_reducible rfl)))
      (refine wpAny_take (i := 3) (v := ?_) (by simp only [List.getElem?_toArray, List.getElem?_cons_succ, List.getElem?_cons_zero]; rfl) (by kernel_rfl) (by kernel_rfl) (by kernel_rfl) (by exact fun _ _ _ h => h) (Or.inl ⟨by rfl, ?_⟩) ?_; rotate_left 1; · (intro w; go_simp; (try with_reducible rfl)))
      (refine wpAny_take (i := 6) (v := ?_) (by simp only [List.getElem?_toArray, List.getElem?_cons_succ, List.getElem?_cons_zero]; rfl) (by kernel_rfl) (by kernel_rfl) (by kernel_rfl) (by exact fun _ _ _ h => h) (Or.inl ⟨by rfl, ?_⟩) ?_; rotate_left 1; · (intro w; go_simp; (try with_reducible rfl)))
      (refine wpAny_take (i := 7) (v := ?_) (by simp only [List.getElem?_toArray, List.getElem?_cons_succ, List.getElem?_cons_zero]; rfl) (by kernel_rfl) (by kernel_rfl) (by kernel_rfl) (by exact fun _ _ _ h => h) (Or.inl ⟨by rfl, ?_⟩) ?_; rotate_left 1; · (intro w; go_simp; (try with_reducible rfl)))
      refine wpAny_ready (rs := [4, 5]) (by kernel_rfl) (by simp) ?_
      refine AllReady.cons (by simp only [List.getElem?_toArray, List.getElem?_cons_succ, List.getElem?_cons_zero]; rfl) (fun K hK => ?_) ?_
      · go_simp
        (first | (refine hK _ _ ?_; clear hK K) | skip)
        refine wpAny_ready (rs := [5]) (by kernel_rfl) (by simp) ?_
        refine AllReady.cons (by simp only [List.getElem?_toArray, List.getElem?_cons_succ, List.getElem?_cons_zero]; rfl) (fun K hK => ?_) ?_
        · go_simp
          (first | (refine hK _ _ ?_; clear hK K) | skip)
          (refine wpAny_take (i := 8) (v := ?_) (by simp only [List.getElem?_toArray, List.getElem?_cons_succ, List.getElem?_cons_zero]; rfl) (by kernel_rfl) (by kernel_rfl) (by kernel_rfl) (by exact fun _ _ _ h => h) (Or.inl ⟨by rfl, ?_⟩) ?_; rotate_left 1; · (intro w; go_simp; (try with_reducible rfl)))
          refine wpAny_ready (rs := [9]) (by kernel_rfl) (by simp) ?_
          refine AllReady.cons (by simp only [List.getElem?_toArray, List.getElem?_cons_succ, List.getElem?_cons_zero]; rfl) (fun K hK => ?_) ?_
          · go_simp
            (first | (refine hK _ _ ?_; clear hK K) | skip)
            refine wpAny_ready (rs := [10]) (by kernel_rfl) (by simp) ?_
            refine AllReady.cons (by simp only [List.getElem?_toArray, List.getElem?_cons_succ, List.getElem?_cons_zero]; rfl) (fun K hK => ?_) ?_
            · (refine step_append_lies _ (by rfl) _ _ _ (by rfl) B 31 i0 _ 5 80 Tryz.underlying23 hi0 hz0 hz1 hz2 rfl (by omega) _ _ _ (by rfl) HO6.out ⟨_, 0, none⟩ 1 1 _ (by rfl) (by rfl) (World.news_of_block (heap_alloc_new _ _)) HCS.out (by omega) (by unfold maxLen; omega) (by omega) hz6 _ rfl ?_; intro g8 c8 w8 hown8 hg8 hat8 hlt8; have b8 := box_grown HB5.out HSG.out hg8; obtain ⟨yy0, _, _, ff0, _⟩ := box_cells3 b8; go_simp)
              (first | (refine hK _ _ ?_; clear hK K) | skip)
              (refine wpAny_take (i := 11) (v := ?_) (by simp only [List.getElem?_toArray, List.getElem?_cons_succ, List.getElem?_cons_zero]; rfl) (by kernel_rfl) (by kernel_rfl) (by kernel_rfl) (by exact fun _ _ _ h => h) (Or.inl ⟨by rfl, ?_⟩) ?_; rotate_left 1; · (intro w; go_simp; (try with_reducible rfl)))
              (refine wpAny_take (i := 12) (v := ?_) (by simp only [List.getElem?_toArray, List.getElem?_cons_succ, List.getElem?_cons_zero]; rfl) (by kernel_rfl) (by kernel_rfl) (by kernel_rfl) (by exact fun _ _ _ h => h) (Or.inl ⟨by rfl, ?_⟩) ?_; rotate_left 1; · (intro w; go_simp; (try with_reducible rfl)))
              refine wpAny_ready (rs := [13]) (by kernel_rfl) (by simp) ?_
              refine AllReady.cons (by simp only [List.getElem?_toArray, List.getElem?_cons_succ, List.getElem?_cons_zero]; rfl) (fun K hK => ?_) ?_
              · go_simp
                (first | (refine hK _ _ ?_; clear hK K) | skip)
                refine wpAny_done (by kernel_rfl) ?_ _
                go_wp2_with fail
                go_meet
                exact ⟨g8, c8, w8, rfl, hown8, hg8, hat8⟩
              exact AllReady.nil
            exact AllReady.nil
          exact AllReady.nil
        exact AllReady.nil
      refine AllReady.cons (by simp only [List.getElem?_toArray, List.getElem?_cons_succ, List.getElem?_cons_zero]; rfl) (fun K hK => ?_) ?_
      · go_simp
        (first | (refine hK _ _ ?_; clear hK K) | skip)
        (refine wpAny_take (i := 8) (v := ?_) (by simp only [List.getElem?_toArray, List.getElem?_cons_succ, List.getElem?_cons_zero]; rfl) (by kernel_rfl) (by kernel_rfl) (by kernel_rfl) (by exact fun _ _ _ h => h) (Or.inl ⟨by rfl, ?_⟩) ?_; rotate_left 1; · (intro w; go_simp; (try with_reducible rfl)))
        refine wpAny_ready (rs := [4, 9]) (by kernel_rfl) (by simp) ?_
        refine AllReady.cons (by simp only [List.getElem?_toArray, List.getElem?_cons_succ, List.getElem?_cons_zero]; rfl) (fun K hK => ?_) ?_
        · go_simp
          (first | (refine hK _ _ ?_; clear hK K) | skip)
          refine wpAny_ready (rs := [9]) (by kernel_rfl) (by simp) ?_
          refine AllReady.cons (by simp only [List.getElem?_toArray, List.getElem?_cons_succ, List.getElem?_cons_zero]; rfl) (fun K hK => ?_) ?_
          · go_simp
            (first | (refine hK _ _ ?_; clear hK K) | skip)
            refine wpAny_ready (rs := [10]) (by kernel_rfl) (by simp) ?_
            refine AllReady.cons (by simp only [List.getElem?_toArray, List.getElem?_cons_succ, List.getElem?_cons_zero]; rfl) (fun K hK => ?_) ?_
            · (refine step_append_lies _ (by rfl) _ _ _ (by rfl) B 31 i0 _ 5 80 Tryz.underlying23 hi0 hz0 hz1 hz2 rfl (by omega) _ _ _ (by rfl) HO6.out ⟨_, 0, none⟩ 1 1 _ (by rfl) (by rfl) (World.news_of_block (heap_alloc_new _ _)) HCS.out (by omega) (by unfold maxLen; omega) (by omega) hz6 _ rfl ?_; intro g8 c8 w8 hown8 hg8 hat8 hlt8; have b8 := box_grown HB5.out HSG.out hg8; obtain ⟨yy0, _, _, ff0, _⟩ := box_cells3 b8; go_simp)
              (first | (refine hK _ _ ?_; clear hK K) | skip)
              (refine wpAny_take (i := 11) (v := ?_) (by simp only [List.getElem?_toArray, List.getElem?_cons_succ, List.getElem?_cons_zero]; rfl) (by kernel_rfl) (by kernel_rfl) (by kernel_rfl) (by exact fun _ _ _ h => h) (Or.inl ⟨by rfl, ?_⟩) ?_; rotate_left 1; · (intro w; go_simp; (try with_reducible rfl)))
              (refine wpAny_take (i := 12) (v := ?_) (by simp only [List.getElem?_toArray, List.getElem?_cons_succ, List.getElem?_cons_zero]; rfl) (by kernel_rfl) (by kernel_rfl) (by kernel_rfl) (by exact fun _ _ _ h => h) (Or.inl ⟨by rfl, ?_⟩) ?_; rotate_left 1; · (intro w; go_simp; (try with_reducible rfl)))
              refine wpAny_ready (rs := [13]) (by kernel_rfl) (by simp) ?_
              refine AllReady.cons (by simp only [List.getElem?_toArray, List.getElem?_cons_succ, List.getElem?_cons_zero]; rfl) (fun K hK => ?_) ?_
              · go_simp
                (first | (refine hK _ _ ?_; clear hK K) | skip)
                refine wpAny_done (by kernel_rfl) ?_ _
                go_wp2_with fail
                go_meet
                exact ⟨g8, c8, w8, rfl, hown8, hg8, hat8⟩
              exact AllReady.nil
            exact AllReady.nil
          exact AllReady.nil
        refine AllReady.cons (by simp only [List.getElem?_toArray, List.getElem?_cons_succ, List.getElem?_cons_zero]; rfl) (fun K hK => ?_) ?_
        · go_simp
          (first | (refine hK _ _ ?_; clear hK K) | skip)
          refine wpAny_ready (rs := [4]) (by kernel_rfl) (by simp) ?_
          refine AllReady.cons (by simp only [List.getElem?_toArray, List.getElem?_cons_succ, List.getElem?_cons_zero]; rfl) (fun K hK => ?_) ?_
          · go_simp
            (first | (refine hK _ _ ?_; clear hK K) | skip)
            refine wpAny_ready (rs := [10]) (by kernel_rfl) (by simp) ?_
            refine AllReady.cons (by simp only [List.getElem?_toArray, List.getElem?_cons_succ, List.getElem?_cons_zero]; rfl) (fun K hK => ?_) ?_
            · (refine step_append_lies _ (by rfl) _ _ _ (by rfl) B 31 i0 _ 5 80 Tryz.underlying23 hi0 hz0 hz1 hz2 rfl (by omega) _ _ _ (by rfl) HO6.out ⟨_, 0, none⟩ 1 1 _ (by rfl) (by rfl) (World.news_of_block (heap_alloc_new _ _)) HCS.out (by omega) (by unfold maxLen; omega) (by omega) hz6 _ rfl ?_; intro g8 c8 w8 hown8 hg8 hat8 hlt8; have b8 := box_grown HB5.out HSG.out hg8; obtain ⟨yy0, _, _, ff0, _⟩ := box_cells3 b8; go_simp)
              (first | (refine hK _ _ ?_; clear hK K) | skip)
              (refine wpAny_take (i := 11) (v := ?_) (by simp only [List.getElem?_toArray, List.getElem?_cons_succ, List.getElem?_cons_zero]; rfl) (by kernel_rfl) (by kernel_rfl) (by kernel_rfl) (by exact fun _ _ _ h => h) (Or.inl ⟨by rfl, ?_⟩) ?_; rotate_left 1; · (intro w; go_simp; (try with_reducible rfl)))
              (refine wpAny_take (i := 12) (v := ?_) (by simp only [List.getElem?_toArray, List.getElem?_cons_succ, List.getElem?_cons_zero]; rfl) (by kernel_rfl) (by kernel_rfl) (by kernel_rfl) (by exact fun _ _ _ h => h) (Or.inl ⟨by rfl, ?_⟩) ?_; rotate_left 1; · (intro w; go_simp; (try with_reducible rfl)))
              refine wpAny_ready (rs := [13]) (by kernel_rfl) (by simp) ?_
              refine AllReady.cons (by simp only [List.getElem?_toArray, List.getElem?_cons_succ, List.getElem?_cons_zero]; rfl) (fun K hK => ?_) ?_
              · go_simp
                (first | (refine hK _ _ ?_; clear hK K) | skip)
                refine wpAny_done (by kernel_rfl) ?_ _
                go_wp2_with fail
                go_meet
                exact ⟨g8, c8, w8, rfl, hown8, hg8, hat8⟩
              exact AllReady.nil
            exact AllReady.nil
          exact AllReady.nil
        exact AllReady.nil
      exact AllReady.nil
    case rest =>
      obtain ⟨g8, c8, w8, rfl, hown8, hg8, hat8⟩ := hcut
      have b8 := box_grown HB5.out HSG.out hg8
      have b9 := (heap_set_box b8 (.slice (some ⟨g8, 0, none⟩) (W.length + 1) c8)).1
      have hb6 := (below_alloc1 w5.drew (.cells #[.int .i64 k, .string nm, .slice A0 kn cap0, .int .i64 (how : Int), .slice F frm.length fc] 31))
      have hz8 : B ≤ (w8.setCell ⟨g, 0, none⟩ (.slice (some ⟨g8, 0, none⟩) (W.length + 1) c8)).heap.size := by rw [setCell_size]; exact Nat.le_trans hz6 hg8.size
      have HP9 := Lib.hid (show (w8.setCell ⟨g, 0, none⟩ (.slice (some ⟨g8, 0, none⟩) (W.length + 1) c8)).ownsRow B 4 1 (.slice A2 W.length c2) W.length (W.map fun s => Value.bool s.part) from own_keep HP5.out fun b e hb => by
        obtain ⟨_, _, a3, _, a5⟩ := HAP.out.p b e
        rw [Below.heap_setCell _ _ _ _ a3, hg8.block b (by rw [size_alloc1]; exact Nat.lt_succ_of_lt hb) (fun x => a5 x.symm), Below.heap_alloc w5.drew _ b hb]
        rfl)
      have HOWNK := Lib.hid (show w5.ownsMap Tryz.prog 9 (plainElem (H := Unit) Tryz.prog 3) M (n + 1) (D.put (kl t.key) (.lit (.int .i64 (W.length : Int)))) from by rw [HKK.out]; exact HOWN5.out)
      have HPUSH := Lib.hid (fun vp' w9 w10 hb9 hown10 hg10 hat10 => WebAt.pushed (t := t) (how := how) (frm := frm) (vp' := vp') (w9 := w9) (w10 := w10) HW4.out HST.out HD4.out HMD.out HN4.out HM5.out HOWNK.out HSTEP.out HK.out hlt ⟨hb6.os, hb6.tape, hb6.output, hb6.size, hb6.block⟩ hown8 hg8 (hat8.elim (fun e => .inl e.symm) (fun e => .inr (by rw [e]; rfl))) hb9 hown10 hg10 hat10)
      have HPG := Lib.hid (show (Value.slice A2 W.length c2).ownBlock ≠ some g from fun e => (HAP.out.p g e).2.2.1 rfl)
      have HB9 := Lib.hid b9
      clear b8 hown8 hg8 hat8 hb6 y0 y0' hz6
      generalize w8.setCell ⟨g, 0, none⟩ (.slice (some ⟨g8, 0, none⟩) (W.length + 1) c8) = w9 at *
      obtain ⟨e0, _, e2, _, _⟩ := box_cells3 b9
      clear b9
      have hwa := below_alloc1 w9 (.cells #[.bool false] 4)
      have HP10 := Lib.hid (own_later HP9.out hwa)
      have hz10 : B ≤ (w9.alloc (.cells #[.bool false] 4)).heap.size := by rw [size_alloc1]; exact Nat.le_succ_of_le hz8
      have HB10 := Lib.hid ((hwa.block g (Array.getElem?_eq_some_iff.1 HB9.out).1).trans HB9.out)
      have HWA := Lib.hid hwa
      clear hwa
      go_upto_region 7 with (at_builtin; refine wpList_append_src _ rfl _ _ 114 rfl B 4 i1 _ 1 1 Tryz.underlying114 gi0 gz0 gz1 gz2 rfl (by omega) _ _ _ rfl HP10.out _ 1 1 [.bool false] rfl (Src.news _ _ _ 1 rfl) (by intro u hu; rw [List.mem_singleton] at hu; subst hu; rfl) (by unfold maxLen; omega) (by omega) hz10 ?_; intro A10 c10 w10 hown10 hg10 hat10; have b10 := box_grown' HB10.out HPG.out hg10; obtain ⟨_, _, yy2, _, ff2⟩ := box_cells3 b10)
      have HE := Lib.hid (WebTo.after (HR2.out.later hz hb4') (HPUSH.out _ _ _ HWA.out hown10 hg10 (own_block hat10 trivial)))
      obtain ⟨q0, _, _, _, _⟩ := box_cells3 (heap_set_box b10 (.slice A10 (W.length + 1) c10)).2
      clear b10 hown10 hg10 hat10 yy2 ff2 e0 e2
      generalize w10.setCell ⟨g, 2, none⟩ (.slice A10 (W.length + 1) c10) = wf at HE q0 ⊢
      go_wp2_with fail
      go_ret
      exact ⟨rfl, HE.out⟩
end Go.Proofs.YtihbmgkbipeakaaGreat

namespace Go.Proofs.YtihbmgkbipeakaaGreat
open Go.RowKit Go.Maps

theorem map_part_mark (W : List Stp) (i : Nat) : (W.map fun s => Value.bool s.part).set i (.bool true) = (Wb.mark W i).map fun s => Value.bool s.part := by
  apply List.ext_getElem
  · rw [List.length_set, List.length_map, List.length_map, mark_len]
  · intro j h1 h2
    rw [List.getElem_set, List.getElem_map, List.getElem_map]
    have h3 : j < W.length := by simpa using h1
    rw [(mark_t W i j (by rw [mark_len]; exact h3) h3).2.2.2]
    split <;> rfl
/-- A step is marked. -/
theorem WebAt.marked {B g M gp cp : Nat} {vs : Value} {W : List Stp} {w : World} {n : Nat} (h : WebAt B w g M vs (.slice (some ⟨gp, 0, none⟩) n cp) W) (hn : n = W.length) (i : Nat) :
    WebTo B g M w vs (.slice (some ⟨gp, 0, none⟩) n cp) (Wb.mark W i) (w.setCell ⟨gp, i, none⟩ (.bool true)) := by
  subst hn
  have ap := h.apart
  obtain ⟨a1, a2, a3, a4, a5⟩ := ap.p gp rfl
  have F : Fr B g M vs (.slice (some ⟨gp, 0, none⟩) W.length cp) w vs (.slice (some ⟨gp, 0, none⟩) W.length cp) (w.setCell ⟨gp, i, none⟩ (.bool true)) :=
    Fr.grown h.lt.2 (grown_cell w ⟨gp, i, none⟩ (.bool true)) (fun k hk => by injection hk with hk; subst hk; exact ⟨a1, nr_p rfl⟩) (.inl rfl) (.inl rfl)
  obtain ⟨css, h1, h2⟩ := h.steps
  obtain ⟨D, n, h4, h5, h6⟩ := h.map
  refine ⟨vs, _, ⟨⟨css, (h1.keep F.keep).mark i, ?_⟩, ?_, ⟨D, n, h4.setCell (a := ⟨gp, i, none⟩) (fun e => a4 e.symm) _, by rw [mark_len]; exact h5, h6.mark i⟩, ?_, h.low, by rw [mark_len]; exact h.size⟩, F⟩
  · rw [mark_len]
    exact own_keep h2 fun b e _ => Below.heap_setCell _ _ _ _ (fun x => a5 (by rw [e, x]))
  · rw [mark_len, ← map_part_mark]
    exact (h.part.stored i (.bool true)).1
  · exact (Below.heap_setCell w ⟨gp, i, none⟩ (.bool true) g (fun e => a3 e.symm)).trans h.box

theorem WebAt.part_row {B g M : Nat} {vs vp : Value} {W : List Stp} {w : World} (h : WebAt B w g M vs vp W) {i : Nat} (hi : i < W.length) : ∃ gp cp, vp = .slice (some ⟨gp, 0, none⟩) W.length cp ∧ w.cell? ⟨gp, i, none⟩ = some (.bool W[i].part) ∧ w.frozen? ⟨gp, i, none⟩ = false ∧ gp ≠ g := by
  obtain ⟨gp, cp, e, _⟩ := h.part.form (by omega)
  subst e
  have hp := h.part
  refine ⟨gp, cp, rfl, ?_, hp.frozenAt i, (h.apart.p gp rfl).2.2.1⟩
  rw [hp.cellAt i (by omega), List.getElem?_map, List.getElem?_eq_getElem hi]; rfl

set_option maxRecDepth 100000 in
set_option maxHeartbeats 4000000 in
theorem otake {B g M : Nat} {vs vp : Value} {W : List Stp} (t : T) (v : Value) (w : World) (how : Nat) (frm : List Nat) (F : Option Addr) (fc : Nat) (h : WebAt B w g M vs vp W) (ht : TermIn (nr g M vs vp) w v t) (hbk : t.bulk ≤ 1048576)
    (hF : NumsIn (nr g M vs vp) w F frm) (hsz : findK W t.key = none → W.length < 1048576) :
    Calls Tryz.prog 96 #[.pointer (some ⟨g, 0, none⟩), v, .int .i64 (how : Int), .slice F frm.length fc] w fun e w' => e = .returned (.bool (Wb.take W t how frm).2) ∧ WebTo B g M w vs vp (Wb.take W t how frm).1 w' := by
  obtain ⟨A0, cap0, rfl⟩ := ht.view
  have hw := below_alloc1 w (.cells #[.int .i64 t.kind, .string t.name, .slice A0 t.kids.length cap0] 29)
  have bx := Box.new w (.int .i64 t.kind) (.string t.name) (.slice A0 t.kids.length cap0)
  have hz := h.lt.2
  have HR1 := Lib.hid ((Fr.refl B g M vs vp w).later hz hw)
  have HAD := Lib.hid (oadd t _ _ how frm F fc (h.later hw) (ht.keep (fun b hb hl => ⟨hb, hw.block b hl⟩)) hbk (hF.keep (fun b hb hl => ⟨hb, hw.block b hl⟩)) hsz)
  have hpre := Wb.add_pre W t how frm
  obtain ⟨W1, hW1⟩ : ∃ W1, (Wb.add W t how frm).1 = W1 := ⟨_, rfl⟩
  obtain ⟨i, hi⟩ : ∃ i, (Wb.add W t how frm).2 = i := ⟨_, rfl⟩
  rw [hW1, hi] at HAD hpre
  have hT : Wb.take W t how frm = if Wb.partAt W1 i = true then (W1, false) else (Wb.mark W1 i, true) := by unfold Wb.take; rw [hW1, hi]
  rw [hT]
  have hil := hpre.2
  clear h ht hF hsz hw hbk hpre hW1 hi hT
  have HPA := Lib.hid (show Wb.partAt W1 i = W1[i].part from by unfold Wb.partAt; rw [List.getElem?_eq_getElem hil]; rfl)
  obtain ⟨p, hp⟩ : ∃ p, W1[i].part = p := ⟨_, rfl⟩
  have HP := Lib.hid hp
  rw [HPA.out, hp]
  clear hp
  obtain ⟨R, hR⟩ : ∃ R, (if p = true then (W1, false) else (Wb.mark W1 i, true)) = R := ⟨_, rfl⟩
  rw [hR]
  have HR := Lib.hid hR
  clear hR
  go_enter Tryz.func96, Tryz.ntmps96
  go_upto_region 1 with fail
  generalize w.alloc (.cells #[.int .i64 t.kind, .string t.name, .slice A0 t.kids.length cap0] 29) = w1 at bx HAD HR1 ⊢
  obtain ⟨x0, x1, x2⟩ := bx.cells
  clear bx
  go_wp2_with fail
  refine HAD.out.mono ?_; rintro e w2 ⟨rfl, vs2, vp2, hw2, hf2⟩
  obtain ⟨gp, cp, rfl, c0, f0, hne⟩ := hw2.part_row hil
  rw [HP.out] at c0
  have d2 := hw2.cells.2.2.1
  have HW2 := Lib.hid hw2; have HF2 := Lib.hid (HR1.out.trans hf2)
  have hib : (0 : Int) ≤ (i : Int) ∧ (i : Int) < (W1.length : Int) := by omega
  obtain ⟨hi1, hi2⟩ := hib
  clear hw2 hf2 x0 x1 x2
  cases p with
  | true =>
    go_wp2_with fail
    go_ret
    rw [← HR.out]
    exact ⟨rfl, _, _, HW2.out, HF2.out⟩
  | false =>
    go_wp2_with fail
    go_ret
    rw [← HR.out]
    exact ⟨rfl, WebTo.after HF2.out (HW2.out.marked rfl i)⟩
end Go.Proofs.YtihbmgkbipeakaaGreat
