/- Several texts in one: WebA, WebM, TermParse, TermRead. -/
import Derived.Test.YtihbmgkbipeakaaGreatWebG6
import Derived.Test.YtihbmgkbipeakaaGreatWebG3
import Derived.Deep.RegionHeld
import Derived.StillTailTactics
import Derived.IntWalk
import Derived.Test.YtihbmgkbipeakaaGreatWebG5
namespace Go.Proofs.YtihbmgkbipeakaaGreat
open Go.RowKit Go.Maps

def fI : Option Nat → Int
  | some i => (i : Int)
  | none => -1
theorem mapS_keyed : Keyed Tryz.prog 9 := string_keyed Tryz.underlying9
theorem zero_int (w : World) : (zeroValue 3).run Tryz.prog w = .ok (.int .i64 0) w := Tryz.zeroValue3 w
theorem key_lit (K : ByteArray) (h : K.size ≤ 3145728) : keyOf Tryz.prog 9 (.string K) = some (kl K) := WideMaps.keyOf_string_mk (P := Tryz.prog) Tryz.underlying9 (by unfold maxLen; omega)
theorem T.key_size (t : T) (h : t.bulk ≤ 1048576) : t.key.size ≤ 3145728 := by
  unfold T.key
  have := T.text_len t
  split
  · rw [strOf_size]; omega
  · exact Nat.zero_le _
set_option maxRecDepth 100000 in
theorem WebAt.look {B g M : Nat} {vs vp : Value} {W : List Stp} {w : World} (h : WebAt B w g M vs vp W) (K : ByteArray) (hK : K.size ≤ 3145728) : ∃ c : Int, Sem.run Tryz.prog (Instr.lookup 113 (.map (some M)) (.string K) true) w = .ok (.tuple #[.int .i64 c, .bool (findK W K).isSome]) w ∧ ∀ i, findK W K = some i → c = (i : Int) := by
  obtain ⟨D, n, hown, _, hD⟩ := h.map
  obtain ⟨h1, h2⟩ := hD K
  obtain ⟨v, ps, hrun, hv⟩ := hown.look_ok mapS_keyed Tryz.underlying113 (zero_int w) (plainElem_int (H := Unit) Tryz.underlying3 (by decide)) (key_lit K hK)
  obtain ⟨c, rfl, hc, _⟩ := plainElem_int_inv Tryz.underlying3 hv
  rw [h1] at hrun
  refine ⟨c, hrun, fun i hi => ?_⟩
  have e : DataW.lit (.int .i64 (i : Int)) = (.lit (.int .i64 c) : DataW Unit) := (h2 i hi).symm.trans (congrArg Prod.fst hc)
  injection e with e
  injection e with _ e
  exact e.symm
theorem WebAt.look_none {B g M : Nat} {vs vp : Value} {W : List Stp} {w : World} (h : WebAt B w g M vs vp W) {K : ByteArray} (hK : K.size ≤ 3145728) (hf : findK W K = none) : ∃ c : Int, Sem.run Tryz.prog (Instr.lookup 113 (.map (some M)) (.string K) true) w = .ok (.tuple #[.int .i64 c, .bool false]) w := by
  obtain ⟨c, hc, _⟩ := h.look K hK
  rw [hf] at hc; exact ⟨c, hc⟩
theorem WebAt.look_some {B g M : Nat} {vs vp : Value} {W : List Stp} {w : World} (h : WebAt B w g M vs vp W) {K : ByteArray} {i : Nat} (hK : K.size ≤ 3145728) (hf : findK W K = some i) : Sem.run Tryz.prog (Instr.lookup 113 (.map (some M)) (.string K) true) w = .ok (.tuple #[.int .i64 i, .bool true]) w := by
  obtain ⟨c, hc, hi⟩ := h.look K hK
  rw [hi i hf, hf] at hc; exact hc

set_option maxRecDepth 100000 in
set_option maxHeartbeats 4000000 in
theorem ofind {B g M : Nat} {vs vp : Value} {W : List Stp} (t : T) (v : Value) (w : World) (h : WebAt B w g M vs vp W) (ht : TermAt w v t) (hbk : t.bulk ≤ 1048576) :
    Calls Tryz.prog 98 #[.pointer (some ⟨g, 0, none⟩), v] w fun e w' => e = .returned (.int .i64 (fI (findK W t.key))) ∧ Below w.heap.size w w' := by
  have HF := Lib.hid (fun (W' : World) (hW' : TermAt W' v t) => (show Calls Tryz.prog 129 #[v] W' fun e w' => e = .returned (.string t.key) ∧ Below W'.heap.size W' w' from oformat t v W' hW' hbk))
  have HT := Lib.hid ht
  obtain ⟨KY, hK⟩ : ∃ KY, t.key = KY := ⟨_, rfl⟩
  have HKS := Lib.hid (show KY.size ≤ 3145728 by rw [← hK]; exact t.key_size hbk)
  rw [hK] at HF ⊢
  clear hbk hK
  cases ht with
  | mk k s A cap ks U h1 h2 h3 h4 hA hU =>
  go_enter Tryz.func98, Tryz.ntmps98
  go_upto_region 1 with fail
  have bx := Box.new w (.int .i64 k) (.string s) (.slice A ks.length cap)
  have hw := below_alloc1 w (.cells #[.int .i64 k, .string s, .slice A ks.length cap] 29)
  have HT1 := Lib.hid (HT.out.later hw); have HW1 := Lib.hid (h.later hw); have HB1 := Lib.hid hw
  clear h hA hU hw h1 h2 h3 h4
  generalize w.alloc (.cells #[.int .i64 k, .string s, .slice A ks.length cap] 29) = w1 at bx HT1 HW1 HB1 ⊢
  obtain ⟨x0, x1, x2⟩ := bx.cells
  have hc1 := HW1.out.cells.2.1
  clear bx
  cases hf : findK W KY with
  | none =>
    have HF2 := Lib.hid hf
    clear hf
    (refine wp_region_held_drew (S := (fun W => W.cell? ⟨g, 1, none⟩ = some (.map (some M)) ∧ W.cell? ⟨w.heap.size, 0, none⟩ = some (.int .i64 k) ∧ W.cell? ⟨w.heap.size, 1, none⟩ = some (.string s) ∧ W.cell? ⟨w.heap.size, 2, none⟩ = some (.slice A ks.length cap) ∧ TermAt W (.agg #[.int .i64 k, .string s, .slice A ks.length cap]) (.mk k s ks) ∧ Below w1.heap.size w1 W)) (by kernel_rfl) (show _ ∧ _ ∧ _ ∧ _ ∧ _ ∧ _ from ⟨hc1, x0, x1, x2, HT1.out.drew, (Below.refl _ w1).drew⟩) (fun hHeld => ?_))
    ((first | (refine wpAnyH_take (i := 0) (v := ?_) (by simp only [List.getElem?_toArray, List.getElem?_cons_zero]; rfl) (by kernel_rfl) (by kernel_rfl) (by kernel_rfl) (by exact fun _ _ _ h => h) (Or.inl ⟨by rfl, ?_⟩) (by assumption) ?_; rotate_left 1; · (intro w hSw; (try dsimp only at hSw); go_simp; (try with_reducible rfl))) | (refine wpAnyH_take (i := 0) (v := undef) (by simp only [List.getElem?_toArray, List.getElem?_cons_zero]; rfl) (by kernel_rfl) (by kernel_rfl) (by kernel_rfl) (by exact fun _ _ _ h => h) (Or.inr ⟨by rfl, rfl⟩) (by assumption) ?_)); (try simp only [Act.put, List.setIfInBounds_toArray, List.set_cons_zero, List.set_cons_succ]))
    ((first | (refine wpAnyH_take (i := 1) (v := ?_) (by simp only [List.getElem?_toArray, List.getElem?_cons_succ, List.getElem?_cons_zero]; rfl) (by kernel_rfl) (by kernel_rfl) (by kernel_rfl) (by exact fun _ _ _ h => h) (Or.inl ⟨by rfl, ?_⟩) (by assumption) ?_; rotate_left 1; · (intro w hSw; (try dsimp only at hSw); go_simp; (try with_reducible rfl))) | (refine wpAnyH_take (i := 1) (v := undef) (by simp only [List.getElem?_toArray, List.getElem?_cons_succ, List.getElem?_cons_zero]; rfl) (by kernel_rfl) (by kernel_rfl) (by kernel_rfl) (by exact fun _ _ _ h => h) (Or.inr ⟨by rfl, rfl⟩) (by assumption) ?_)); (try simp only [Act.put, List.setIfInBounds_toArray, List.set_cons_zero, List.set_cons_succ]))
    ((first | (refine wpAnyH_take (i := 2) (v := ?_) (by simp only [List.getElem?_toArray, List.getElem?_cons_succ, List.getElem?_cons_zero]; rfl) (by kernel_rfl) (by kernel_rfl) (by kernel_rfl) (by exact fun _ _ _ h => h) (Or.inl ⟨by rfl, ?_⟩) (by assumption) ?_; rotate_left 1; · (intro w hSw; (try dsimp only at hSw); go_simp; (try with_reducible rfl))) | (refine wpAnyH_take (i := 2) (v := undef) (by simp only [List.getElem?_toArray, List.getElem?_cons_succ, List.getElem?_cons_zero]; rfl) (by kernel_rfl) (by kernel_rfl) (by kernel_rfl) (by exact fun _ _ _ h => h) (Or.inr ⟨by rfl, rfl⟩) (by assumption) ?_)); (try simp only [Act.put, List.setIfInBounds_toArray, List.set_cons_zero, List.set_cons_succ]))
    ((first | (refine wpAnyH_take (i := 3) (v := ?_) (by simp only [List.getElem?_toArray, List.getElem?_cons_succ, List.getElem?_cons_zero]; rfl) (by kernel_rfl) (by kernel_rfl) (by kernel_rfl) (by exact fun _ _ _ h => h) (Or.inl ⟨by rfl, ?_⟩) (by assumption) ?_; rotate_left 1; · (intro w hSw; (try dsimp only at hSw); go_simp; (try with_reducible rfl))) | (refine wpAnyH_take (i := 3) (v := undef) (by simp only [List.getElem?_toArray, List.getElem?_cons_succ, List.getElem?_cons_zero]; rfl) (by kernel_rfl) (by kernel_rfl) (by kernel_rfl) (by exact fun _ _ _ h => h) (Or.inr ⟨by rfl, rfl⟩) (by assumption) ?_)); (try simp only [Act.put, List.setIfInBounds_toArray, List.set_cons_zero, List.set_cons_succ]))
    ((first | (refine wpAnyH_take (i := 4) (v := ?_) (by simp only [List.getElem?_toArray, List.getElem?_cons_succ, List.getElem?_cons_zero]; rfl) (by kernel_rfl) (by kernel_rfl) (by kernel_rfl) (by exact fun _ _ _ h => h) (Or.inl ⟨by rfl, ?_⟩) (by assumption) ?_; rotate_left 1; · (intro w hSw; (try dsimp only at hSw); go_simp; (try with_reducible rfl))) | (refine wpAnyH_take (i := 4) (v := undef) (by simp only [List.getElem?_toArray, List.getElem?_cons_succ, List.getElem?_cons_zero]; rfl) (by kernel_rfl) (by kernel_rfl) (by kernel_rfl) (by exact fun _ _ _ h => h) (Or.inr ⟨by rfl, rfl⟩) (by assumption) ?_)); (try simp only [Act.put, List.setIfInBounds_toArray, List.set_cons_zero, List.set_cons_succ]))
    (refine wpAnyH_ready (rs := [5]) (by kernel_rfl) (by simp) ?_; refine AllReadyH.cons (by simp only [List.getElem?_toArray, List.getElem?_cons_succ, List.getElem?_cons_zero]; rfl) (fun K hK => ?_) AllReadyH.nil; go_simp; go_at_call 129; refine (HF.out _ hHeld.2.2.2.2.1).mono ?_; rintro e w4 ⟨rfl, hb4⟩; have hbl4 := hHeld.2.2.2.2.2.trans (hb4.mono hHeld.2.2.2.2.2.size); obtain ⟨c4, hlk⟩ := (HW1.out.later hbl4).look_none HKS.out HF2.out; refine hK.out _ _ (⟨cell_later hb4 hHeld.1, cell_later hb4 hHeld.2.1, cell_later hb4 hHeld.2.2.1, cell_later hb4 hHeld.2.2.2.1, hHeld.2.2.2.2.1.later hb4, hHeld.2.2.2.2.2.trans (hb4.mono hHeld.2.2.2.2.2.size)⟩) (fun hHeld => ?_); clear hK K; (try simp only [Act.put, List.setIfInBounds_toArray, List.set_cons_zero, List.set_cons_succ]))
    (refine wpAnyH_ready (rs := [6]) (by kernel_rfl) (by simp) ?_; refine AllReadyH.cons (by simp only [List.getElem?_toArray, List.getElem?_cons_succ, List.getElem?_cons_zero]; rfl) (fun K hK => ?_) AllReadyH.nil; go_simp; skip; refine hK.out _ _ (hHeld) (fun hHeld => ?_); clear hK K; (try simp only [Act.put, List.setIfInBounds_toArray, List.set_cons_zero, List.set_cons_succ]))
    ((first | (refine wpAnyH_take (i := 7) (v := ?_) (by simp only [List.getElem?_toArray, List.getElem?_cons_succ, List.getElem?_cons_zero]; rfl) (by kernel_rfl) (by kernel_rfl) (by kernel_rfl) (by exact fun _ _ _ h => h) (Or.inl ⟨by rfl, ?_⟩) (by assumption) ?_; rotate_left 1; · (intro w hSw; (try dsimp only at hSw); go_simp; (try with_reducible rfl))) | (refine wpAnyH_take (i := 7) (v := undef) (by simp only [List.getElem?_toArray, List.getElem?_cons_succ, List.getElem?_cons_zero]; rfl) (by kernel_rfl) (by kernel_rfl) (by kernel_rfl) (by exact fun _ _ _ h => h) (Or.inr ⟨by rfl, rfl⟩) (by assumption) ?_)); (try simp only [Act.put, List.setIfInBounds_toArray, List.set_cons_zero, List.set_cons_succ]))
    ((first | (refine wpAnyH_take (i := 8) (v := ?_) (by simp only [List.getElem?_toArray, List.getElem?_cons_succ, List.getElem?_cons_zero]; rfl) (by kernel_rfl) (by kernel_rfl) (by kernel_rfl) (by exact fun _ _ _ h => h) (Or.inl ⟨by rfl, ?_⟩) (by assumption) ?_; rotate_left 1; · (intro w hSw; (try dsimp only at hSw); go_simp; (try with_reducible rfl))) | (refine wpAnyH_take (i := 8) (v := undef) (by simp only [List.getElem?_toArray, List.getElem?_cons_succ, List.getElem?_cons_zero]; rfl) (by kernel_rfl) (by kernel_rfl) (by kernel_rfl) (by exact fun _ _ _ h => h) (Or.inr ⟨by rfl, rfl⟩) (by assumption) ?_)); (try simp only [Act.put, List.setIfInBounds_toArray, List.set_cons_zero, List.set_cons_succ]))
    ((first | (refine wpAnyH_take (i := 9) (v := ?_) (by simp only [List.getElem?_toArray, List.getElem?_cons_succ, List.getElem?_cons_zero]; rfl) (by kernel_rfl) (by kernel_rfl) (by kernel_rfl) (by exact fun _ _ _ h => h) (Or.inl ⟨by rfl, ?_⟩) (by assumption) ?_; rotate_left 1; · (intro w hSw; (try dsimp only at hSw); go_simp; (try with_reducible rfl))) | (refine wpAnyH_take (i := 9) (v := undef) (by simp only [List.getElem?_toArray, List.getElem?_cons_succ, List.getElem?_cons_zero]; rfl) (by kernel_rfl) (by kernel_rfl) (by kernel_rfl) (by exact fun _ _ _ h => h) (Or.inr ⟨by rfl, rfl⟩) (by assumption) ?_)); (try simp only [Act.put, List.setIfInBounds_toArray, List.set_cons_zero, List.set_cons_succ]))
    ((first | (refine wpAnyH_take (i := 10) (v := ?_) (by simp only [List.getElem?_toArray, List.getElem?_cons_succ, List.getElem?_cons_zero]; rfl) (by kernel_rfl) (by kernel_rfl) (by kernel_rfl) (by exact fun _ _ _ h => h) (Or.inl ⟨by rfl, ?_⟩) (by assumption) ?_; rotate_left 1; · (intro w hSw; (try dsimp only at hSw); go_simp; (try with_reducible rfl))) | (refine wpAnyH_take (i := 10) (v := undef) (by simp only [List.getElem?_toArray, List.getElem?_cons_succ, List.getElem?_cons_zero]; rfl) (by kernel_rfl) (by kernel_rfl) (by kernel_rfl) (by exact fun _ _ _ h => h) (Or.inr ⟨by rfl, rfl⟩) (by assumption) ?_)); (try simp only [Act.put, List.setIfInBounds_toArray, List.set_cons_zero, List.set_cons_succ]))
    ((first | (refine wpAnyH_take (i := 11) (v := ?_) (by simp only [List.getElem?_toArray, List.getElem?_cons_succ, List.getElem?_cons_zero]; rfl) (by kernel_rfl) (by kernel_rfl) (by kernel_rfl) (by exact fun _ _ _ h => h) (Or.inl ⟨by rfl, ?_⟩) (by assumption) ?_; rotate_left 1; · (intro w hSw; (try dsimp only at hSw); go_simp; (try with_reducible rfl))) | (refine wpAnyH_take (i := 11) (v := undef) (by simp only [List.getElem?_toArray, List.getElem?_cons_succ, List.getElem?_cons_zero]; rfl) (by kernel_rfl) (by kernel_rfl) (by kernel_rfl) (by exact fun _ _ _ h => h) (Or.inr ⟨by rfl, rfl⟩) (by assumption) ?_)); (try simp only [Act.put, List.setIfInBounds_toArray, List.set_cons_zero, List.set_cons_succ]))
    (refine wpAnyH_done (by kernel_rfl) ?_ _)
    go_wp2_with fail
    go_ret
    exact ⟨by rw [HF2.out]; rfl, HB1.out.trans (hHeld.2.2.2.2.2.mono HB1.out.size)⟩
  | some i =>
    have HF2 := Lib.hid hf
    clear hf
    (refine wp_region_held_drew (S := (fun W => W.cell? ⟨g, 1, none⟩ = some (.map (some M)) ∧ W.cell? ⟨w.heap.size, 0, none⟩ = some (.int .i64 k) ∧ W.cell? ⟨w.heap.size, 1, none⟩ = some (.string s) ∧ W.cell? ⟨w.heap.size, 2, none⟩ = some (.slice A ks.length cap) ∧ TermAt W (.agg #[.int .i64 k, .string s, .slice A ks.length cap]) (.mk k s ks) ∧ Below w1.heap.size w1 W)) (by kernel_rfl) (show _ ∧ _ ∧ _ ∧ _ ∧ _ ∧ _ from ⟨hc1, x0, x1, x2, HT1.out.drew, (Below.refl _ w1).drew⟩) (fun hHeld => ?_))
    ((first | (refine wpAnyH_take (i := 0) (v := ?_) (by simp only [List.getElem?_toArray, List.getElem?_cons_zero]; rfl) (by kernel_rfl) (by kernel_rfl) (by kernel_rfl) (by exact fun _ _ _ h => h) (Or.inl ⟨by rfl, ?_⟩) (by assumption) ?_; rotate_left 1; · (intro w hSw; (try dsimp only at hSw); go_simp; (try with_reducible rfl))) | (refine wpAnyH_take (i := 0) (v := undef) (by simp only [List.getElem?_toArray, List.getElem?_cons_zero]; rfl) (by kernel_rfl) (by kernel_rfl) (by kernel_rfl) (by exact fun _ _ _ h => h) (Or.inr ⟨by rfl, rfl⟩) (by assumption) ?_)); (try simp only [Act.put, List.setIfInBounds_toArray, List.set_cons_zero, List.set_cons_succ]))
    ((first | (refine wpAnyH_take (i := 1) (v := ?_) (by simp only [List.getElem?_toArray, List.getElem?_cons_succ, List.getElem?_cons_zero]; rfl) (by kernel_rfl) (by kernel_rfl) (by kernel_rfl) (by exact fun _ _ _ h => h) (Or.inl ⟨by rfl, ?_⟩) (by assumption) ?_; rotate_left 1; · (intro w hSw; (try dsimp only at hSw); go_simp; (try with_reducible rfl))) | (refine wpAnyH_take (i := 1) (v := undef) (by simp only [List.getElem?_toArray, List.getElem?_cons_succ, List.getElem?_cons_zero]; rfl) (by kernel_rfl) (by kernel_rfl) (by kernel_rfl) (by exact fun _ _ _ h => h) (Or.inr ⟨by rfl, rfl⟩) (by assumption) ?_)); (try simp only [Act.put, List.setIfInBounds_toArray, List.set_cons_zero, List.set_cons_succ]))
    ((first | (refine wpAnyH_take (i := 2) (v := ?_) (by simp only [List.getElem?_toArray, List.getElem?_cons_succ, List.getElem?_cons_zero]; rfl) (by kernel_rfl) (by kernel_rfl) (by kernel_rfl) (by exact fun _ _ _ h => h) (Or.inl ⟨by rfl, ?_⟩) (by assumption) ?_; rotate_left 1; · (intro w hSw; (try dsimp only at hSw); go_simp; (try with_reducible rfl))) | (refine wpAnyH_take (i := 2) (v := undef) (by simp only [List.getElem?_toArray, List.getElem?_cons_succ, List.getElem?_cons_zero]; rfl) (by kernel_rfl) (by kernel_rfl) (by kernel_rfl) (by exact fun _ _ _ h => h) (Or.inr ⟨by rfl, rfl⟩) (by assumption) ?_)); (try simp only [Act.put, List.setIfInBounds_toArray, List.set_cons_zero, List.set_cons_succ]))
    ((first | (refine wpAnyH_take (i := 3) (v := ?_) (by simp only [List.getElem?_toArray, List.getElem?_cons_succ, List.getElem?_cons_zero]; rfl) (by kernel_rfl) (by kernel_rfl) (by kernel_rfl) (by exact fun _ _ _ h => h) (Or.inl ⟨by rfl, ?_⟩) (by assumption) ?_; rotate_left 1; · (intro w hSw; (try dsimp only at hSw); go_simp; (try with_reducible rfl))) | (refine wpAnyH_take (i := 3) (v := undef) (by simp only [List.getElem?_toArray, List.getElem?_cons_succ, List.getElem?_cons_zero]; rfl) (by kernel_rfl) (by kernel_rfl) (by kernel_rfl) (by exact fun _ _ _ h => h) (Or.inr ⟨by rfl, rfl⟩) (by assumption) ?_)); (try simp only [Act.put, List.setIfInBounds_toArray, List.set_cons_zero, List.set_cons_succ]))
    ((first | (refine wpAnyH_take (i := 4) (v := ?_) (by simp only [List.getElem?_toArray, List.getElem?_cons_succ, List.getElem?_cons_zero]; rfl) (by kernel_rfl) (by kernel_rfl) (by kernel_rfl) (by exact fun _ _ _ h => h) (Or.inl ⟨by rfl, ?_⟩) (by assumption) ?_; rotate_left 1; · (intro w hSw; (try dsimp only at hSw); go_simp; (try with_reducible rfl))) | (refine wpAnyH_take (i := 4) (v := undef) (by simp only [List.getElem?_toArray, List.getElem?_cons_succ, List.getElem?_cons_zero]; rfl) (by kernel_rfl) (by kernel_rfl) (by kernel_rfl) (by exact fun _ _ _ h => h) (Or.inr ⟨by rfl, rfl⟩) (by assumption) ?_)); (try simp only [Act.put, List.setIfInBounds_toArray, List.set_cons_zero, List.set_cons_succ]))
    (refine wpAnyH_ready (rs := [5]) (by kernel_rfl) (by simp) ?_; refine AllReadyH.cons (by simp only [List.getElem?_toArray, List.getElem?_cons_succ, List.getElem?_cons_zero]; rfl) (fun K hK => ?_) AllReadyH.nil; go_simp; go_at_call 129; refine (HF.out _ hHeld.2.2.2.2.1).mono ?_; rintro e w4 ⟨rfl, hb4⟩; have hbl4 := hHeld.2.2.2.2.2.trans (hb4.mono hHeld.2.2.2.2.2.size); obtain hlk := (HW1.out.later hbl4).look_some HKS.out HF2.out; refine hK.out _ _ (⟨cell_later hb4 hHeld.1, cell_later hb4 hHeld.2.1, cell_later hb4 hHeld.2.2.1, cell_later hb4 hHeld.2.2.2.1, hHeld.2.2.2.2.1.later hb4, hHeld.2.2.2.2.2.trans (hb4.mono hHeld.2.2.2.2.2.size)⟩) (fun hHeld => ?_); clear hK K; (try simp only [Act.put, List.setIfInBounds_toArray, List.set_cons_zero, List.set_cons_succ]))
    (refine wpAnyH_ready (rs := [6]) (by kernel_rfl) (by simp) ?_; refine AllReadyH.cons (by simp only [List.getElem?_toArray, List.getElem?_cons_succ, List.getElem?_cons_zero]; rfl) (fun K hK => ?_) AllReadyH.nil; go_simp; skip; refine hK.out _ _ (hHeld) (fun hHeld => ?_); clear hK K; (try simp only [Act.put, List.setIfInBounds_toArray, List.set_cons_zero, List.set_cons_succ]))
    ((first | (refine wpAnyH_take (i := 7) (v := ?_) (by simp only [List.getElem?_toArray, List.getElem?_cons_succ, List.getElem?_cons_zero]; rfl) (by kernel_rfl) (by kernel_rfl) (by kernel_rfl) (by exact fun _ _ _ h => h) (Or.inl ⟨by rfl, ?_⟩) (by assumption) ?_; rotate_left 1; · (intro w hSw; (try dsimp only at hSw); go_simp; (try with_reducible rfl))) | (refine wpAnyH_take (i := 7) (v := undef) (by simp only [List.getElem?_toArray, List.getElem?_cons_succ, List.getElem?_cons_zero]; rfl) (by kernel_rfl) (by kernel_rfl) (by kernel_rfl) (by exact fun _ _ _ h => h) (Or.inr ⟨by rfl, rfl⟩) (by assumption) ?_)); (try simp only [Act.put, List.setIfInBounds_toArray, List.set_cons_zero, List.set_cons_succ]))
    ((first | (refine wpAnyH_take (i := 8) (v := ?_) (by simp only [List.getElem?_toArray, List.getElem?_cons_succ, List.getElem?_cons_zero]; rfl) (by kernel_rfl) (by kernel_rfl) (by kernel_rfl) (by exact fun _ _ _ h => h) (Or.inl ⟨by rfl, ?_⟩) (by assumption) ?_; rotate_left 1; · (intro w hSw; (try dsimp only at hSw); go_simp; (try with_reducible rfl))) | (refine wpAnyH_take (i := 8) (v := undef) (by simp only [List.getElem?_toArray, List.getElem?_cons_succ, List.getElem?_cons_zero]; rfl) (by kernel_rfl) (by kernel_rfl) (by kernel_rfl) (by exact fun _ _ _ h => h) (Or.inr ⟨by rfl, rfl⟩) (by assumption) ?_)); (try simp only [Act.put, List.setIfInBounds_toArray, List.set_cons_zero, List.set_cons_succ]))
    ((first | (refine wpAnyH_take (i := 9) (v := ?_) (by simp only [List.getElem?_toArray, List.getElem?_cons_succ, List.getElem?_cons_zero]; rfl) (by kernel_rfl) (by kernel_rfl) (by kernel_rfl) (by exact fun _ _ _ h => h) (Or.inl ⟨by rfl, ?_⟩) (by assumption) ?_; rotate_left 1; · (intro w hSw; (try dsimp only at hSw); go_simp; (try with_reducible rfl))) | (refine wpAnyH_take (i := 9) (v := undef) (by simp only [List.getElem?_toArray, List.getElem?_cons_succ, List.getElem?_cons_zero]; rfl) (by kernel_rfl) (by kernel_rfl) (by kernel_rfl) (by exact fun _ _ _ h => h) (Or.inr ⟨by rfl, rfl⟩) (by assumption) ?_)); (try simp only [Act.put, List.setIfInBounds_toArray, List.set_cons_zero, List.set_cons_succ]))
    ((first | (refine wpAnyH_take (i := 10) (v := ?_) (by simp only [List.getElem?_toArray, List.getElem?_cons_succ, List.getElem?_cons_zero]; rfl) (by kernel_rfl) (by kernel_rfl) (by kernel_rfl) (by exact fun _ _ _ h => h) (Or.inl ⟨by rfl, ?_⟩) (by assumption) ?_; rotate_left 1; · (intro w hSw; (try dsimp only at hSw); go_simp; (try with_reducible rfl))) | (refine wpAnyH_take (i := 10) (v := undef) (by simp only [List.getElem?_toArray, List.getElem?_cons_succ, List.getElem?_cons_zero]; rfl) (by kernel_rfl) (by kernel_rfl) (by kernel_rfl) (by exact fun _ _ _ h => h) (Or.inr ⟨by rfl, rfl⟩) (by assumption) ?_)); (try simp only [Act.put, List.setIfInBounds_toArray, List.set_cons_zero, List.set_cons_succ]))
    ((first | (refine wpAnyH_take (i := 11) (v := ?_) (by simp only [List.getElem?_toArray, List.getElem?_cons_succ, List.getElem?_cons_zero]; rfl) (by kernel_rfl) (by kernel_rfl) (by kernel_rfl) (by exact fun _ _ _ h => h) (Or.inl ⟨by rfl, ?_⟩) (by assumption) ?_; rotate_left 1; · (intro w hSw; (try dsimp only at hSw); go_simp; (try with_reducible rfl))) | (refine wpAnyH_take (i := 11) (v := undef) (by simp only [List.getElem?_toArray, List.getElem?_cons_succ, List.getElem?_cons_zero]; rfl) (by kernel_rfl) (by kernel_rfl) (by kernel_rfl) (by exact fun _ _ _ h => h) (Or.inr ⟨by rfl, rfl⟩) (by assumption) ?_)); (try simp only [Act.put, List.setIfInBounds_toArray, List.set_cons_zero, List.set_cons_succ]))
    (refine wpAnyH_done (by kernel_rfl) ?_ _)
    go_wp2_with fail
    go_ret
    exact ⟨by rw [HF2.out]; rfl, HB1.out.trans (hHeld.2.2.2.2.2.mono HB1.out.size)⟩
end Go.Proofs.YtihbmgkbipeakaaGreat

namespace Go.Proofs.YtihbmgkbipeakaaGreat
open Go.RowKit

theorem own_keep {w w' : World} {base : Nat} {e : TypeId} {size n : Nat} {v : Value} {xs : List Value} (h : w.ownsRow base e size v n xs) (hk : ∀ b, v.ownBlock = some b → b < w.heap.size → w'.heap[b]? = w.heap[b]?) : w'.ownsRow base e size v n xs := by
  refine ⟨h.1, ?_⟩
  rcases h.2 with h0 | ⟨g, cap, cur, hv, hb, hg, rest⟩
  · exact .inl h0
  · exact .inr ⟨g, cap, cur, hv, hb, (hk g (by rw [hv]; rfl) (Array.getElem?_eq_some_iff.1 hg).1).trans hg, rest⟩
theorem own_type {w : World} {base : Nat} {e : TypeId} {size n : Nat} {v : Value} {xs : List Value} (h : w.ownsRow base e size v n xs) {b : Nat} (hv : v.ownBlock = some b) : base ≤ b ∧ b < w.heap.size ∧ ∃ cur, w.heap[b]? = some (.cells cur e (0, 0)) := by
  rcases h.2 with ⟨rfl, _⟩ | ⟨g, cap, cur, rfl, hb, hg, _⟩
  · cases hv
  · injection hv with hv
    subst hv
    exact ⟨hb, (Array.getElem?_eq_some_iff.1 hg).1, cur, hg⟩
theorem own_shape {w : World} {base : Nat} {e : TypeId} {size n : Nat} {v : Value} {xs : List Value} (h : w.ownsRow base e size v n xs) : ∃ A c, v = .slice A n c := by
  rcases h.2 with ⟨rfl, rfl⟩ | ⟨g, cap, cur, rfl, _⟩
  · exact ⟨_, _, rfl⟩
  · exact ⟨_, _, rfl⟩
theorem WebAt.shapes {B g M : Nat} {vs vp : Value} {W : List Stp} {w : World} (h : WebAt B w g M vs vp W) : ∃ A c A' c', vs = .slice A W.length c ∧ vp = .slice A' W.length c' := by
  obtain ⟨css, _, h2⟩ := h.steps
  obtain ⟨A, c, e⟩ := own_shape h2
  obtain ⟨A', c', e'⟩ := own_shape h.part
  exact ⟨A, c, A', c', e, e'⟩
theorem ne_of_cells {o : Option Obj} {c c' : Array Value} {e e' : TypeId} {z z' : Nat × Nat} (h : o = some (.cells c e z)) (h' : o = some (.cells c' e' z')) (hne : e ≠ e') : False := by
  rw [h] at h'; injection h' with h'; injection h' with _ h'; exact hne h'
theorem ne_of_map {o : Option Obj} {c : Array Value} {e : TypeId} {z : Nat × Nat} {es : Array MapEntry} {k : Nat} (h : o = some (.cells c e z)) (h' : o = some (.map es k)) : False := by
  rw [h] at h'; injection h' with h'; cases h'
theorem map_block {P : Program} {k : TypeId} {R : Value → Option (DataW Unit × List MemPlace)} {w : World} {b n : Nat} {D : DataW Unit} (h : w.ownsMap P k R b n D) : ∃ es c, w.heap[b]? = some (.map es c) := by
  obtain ⟨es, clock, hb, _⟩ := h
  exact ⟨es, clock, hb⟩
/-- The web's own blocks are apart. -/
structure WebApart (B : Nat) (w : World) (g M : Nat) (vs vp : Value) : Prop where
  s : ∀ b, vs.ownBlock = some b → B ≤ b ∧ b < w.heap.size ∧ b ≠ g ∧ b ≠ M ∧ vp.ownBlock ≠ some b
  p : ∀ b, vp.ownBlock = some b → B ≤ b ∧ b < w.heap.size ∧ b ≠ g ∧ b ≠ M ∧ vs.ownBlock ≠ some b
  gm : g ≠ M
  g : g < w.heap.size
  m : M < w.heap.size
theorem WebAt.apart {B g M : Nat} {vs vp : Value} {W : List Stp} {w : World} (h : WebAt B w g M vs vp W) : WebApart B w g M vs vp := by
  obtain ⟨css, _, h2⟩ := h.steps
  obtain ⟨D, n, h4, _, _⟩ := h.map
  obtain ⟨es, k, hm⟩ := map_block h4
  have hp := h.part
  have hb := h.box
  refine ⟨fun b e => ?_, fun b e => ?_, fun e => ?_, (Array.getElem?_eq_some_iff.1 hb).1, (Array.getElem?_eq_some_iff.1 hm).1⟩
  · obtain ⟨a1, a2, cur, a3⟩ := own_type h2 e
    refine ⟨a1, a2, fun x => ?_, fun x => ?_, fun x => ?_⟩
    · subst x; exact ne_of_cells a3 hb (by decide)
    · subst x; exact ne_of_map a3 hm
    · obtain ⟨_, _, cur', a4⟩ := own_type hp x
      exact ne_of_cells a3 a4 (by decide)
  · obtain ⟨a1, a2, cur, a3⟩ := own_type hp e
    refine ⟨a1, a2, fun x => ?_, fun x => ?_, fun x => ?_⟩
    · subst x; exact ne_of_cells a3 hb (by decide)
    · subst x; exact ne_of_map a3 hm
    · obtain ⟨_, _, cur', a4⟩ := own_type h2 x
      exact ne_of_cells a4 a3 (by decide)
  · subst e; exact ne_of_map hb hm
theorem heap_set_box {w : World} {g : Nat} {a b c : Value} {e : TypeId} (h : w.heap[g]? = some (.cells #[a, b, c] e (0, 0))) (v : Value) : (w.setCell ⟨g, 0, none⟩ v).heap[g]? = some (.cells #[v, b, c] e (0, 0)) ∧ (w.setCell ⟨g, 2, none⟩ v).heap[g]? = some (.cells #[a, b, v] e (0, 0)) := by
  refine ⟨?_, ?_⟩ <;> simp [World.setCell, Array.getElem?_modify, h]
theorem setCell_size (w : World) (a : Addr) (v : Value) : (w.setCell a v).heap.size = w.heap.size := by simp [World.setCell]
/-- What the five turns of 'add' leave: the map is told, a step and its mark are appended. -/
theorem WebAt.pushed {B g M : Nat} {vs vp vs' vp' : Value} {W : List Stp} {w4 w5 w6 w7 w9 w10 : World} {t : T} {how : Nat} {frm : List Nat} {cs : List Value} {css : List (List Value)} {D : DataW Unit} {n : Nat}
    (h : WebAt B w4 g M vs vp W) (hst : StepsAt (nr g M vs vp) w4 css W) (hD : MapIs D W) (hmD : Maps.IsMap D) (hn : n ≤ W.length) (hm : w4.mapTurned w5 M)
    (hm5 : w5.ownsMap Tryz.prog 9 (plainElem (H := Unit) Tryz.prog 3) M (n + 1) (D.put (kl t.key) (.lit (.int .i64 (W.length : Int)))))
    (hs : StepAt (nr g M vs vp) w4 cs ⟨t, how, frm, false⟩) (hf : findK W t.key = none) (hsz : W.length < 1048576) (hb6 : Below w5.heap.size w5 w6)
    (hown7 : w7.ownsRow B 31 5 vs' (W.length + 1) (css.flatten ++ cs)) (hg7 : w6.grownBy w7 vs.ownBlock) (hat7 : vs'.ownBlock = vs.ownBlock ∨ vs'.ownBlock = some w6.heap.size) (hb9 : Below (w7.setCell ⟨g, 0, none⟩ vs').heap.size (w7.setCell ⟨g, 0, none⟩ vs') w9)
    (hown10 : w10.ownsRow B 4 1 vp' (W.length + 1) (W.map (fun s => Value.bool s.part) ++ [.bool false])) (hg10 : w9.grownBy w10 vp.ownBlock) (hat10 : vp'.ownBlock = vp.ownBlock ∨ vp'.ownBlock = some w9.heap.size) :
    WebTo B g M w4 vs vp (W ++ [⟨t, how, frm, false⟩]) (w10.setCell ⟨g, 2, none⟩ vp') := by
  have ap := h.apart
  have z4 := h.lt.2
  have z5 := hm.grown.size
  have z6 := hb6.size
  have z7 := hg7.size
  have z9 := hb9.size
  rw [setCell_size] at z9
  have z10 := hg10.size
  have l := h.low
  -- the frame
  have F1 : Fr B g M vs vp w4 vs vp w5 := Fr.grown z4 hm.grown (fun k hk => by injection hk with hk; subst hk; exact ⟨l.2, nr_M⟩) (.inl rfl) (.inl rfl)
  have F2 := F1.later z4 hb6
  have F3 := F2.trans (Fr.grown (by omega) hg7 (fun k hk => ⟨(ap.s k hk).1, nr_s hk⟩) hat7 (.inl rfl))
  have F4 := F3.trans (Fr.grown (vs' := vs') (vp' := vp) (by omega) (grown_cell w7 ⟨g, 0, none⟩ vs') (fun k hk => by injection hk with hk; subst hk; exact ⟨l.1, nr_g⟩) (.inl rfl) (.inl rfl))
  have F5 := F4.later z4 hb9
  have F6 := F5.trans (Fr.grown (by omega) hg10 (fun k hk => ⟨(ap.p k hk).1, nr_p hk⟩) (.inl rfl) hat10)
  have F7 := F6.trans (Fr.grown (vs' := vs') (vp' := vp') (by omega) (grown_cell w10 ⟨g, 2, none⟩ vp') (fun k hk => by injection hk with hk; subst hk; exact ⟨l.1, nr_g⟩) (.inl rfl) (.inl rfl))
  -- the box
  have gl := ap.g
  have b5 : w5.heap[g]? = _ := (hm.grown.block g ap.g (fun e => ap.gm (by injection e))).trans h.box
  have b6 : w6.heap[g]? = _ := (hb6.block g (by omega)).trans b5
  have hsg : vs.ownBlock ≠ some g := fun e => (ap.s g e).2.2.1 rfl
  have hpg : vp.ownBlock ≠ some g := fun e => (ap.p g e).2.2.1 rfl
  have hsM : vs.ownBlock ≠ some M := fun e => (ap.s M e).2.2.2.1 rfl
  have hpM : vp.ownBlock ≠ some M := fun e => (ap.p M e).2.2.2.1 rfl
  have b7 : w7.heap[g]? = _ := (hg7.block g (by omega) (fun e => hsg e.symm)).trans b6
  have b8 := (heap_set_box b7 vs').1
  have b9 : w9.heap[g]? = _ := (hb9.block g (by rw [setCell_size]; omega)).trans b8
  have b10 : w10.heap[g]? = _ := (hg10.block g (by omega) (fun e => hpg e.symm)).trans b9
  have b11 := (heap_set_box b10 vp').2
  -- the steps' row stays behind the marks' append
  have hs7 : ∀ b, vs'.ownBlock = some b → b < w7.heap.size ∧ b ≠ g ∧ vp.ownBlock ≠ some b := fun b e => by
    obtain ⟨_, a2, cur, a3⟩ := own_type hown7 e
    refine ⟨a2, fun x => by subst x; exact ne_of_cells a3 b7 (by decide), fun x => ?_⟩
    rcases hat7 with a4 | a4
    · exact (ap.s b (a4.symm.trans e)).2.2.2.2 x
    · rw [e] at a4; injection a4 with a4
      have := (ap.p b x).2.1
      omega
  have own11 : (w10.setCell ⟨g, 2, none⟩ vp').ownsRow B 31 5 vs' (W.length + 1) (css.flatten ++ cs) := own_keep hown7 fun b e hb => by
    obtain ⟨_, a2, a3⟩ := hs7 b e
    rw [Below.heap_setCell _ _ _ _ a2, hg10.block b (by omega) (fun x => a3 x.symm), hb9.block b (by rw [setCell_size]; omega), Below.heap_setCell _ _ _ _ a2]
  have part11 : (w10.setCell ⟨g, 2, none⟩ vp').ownsRow B 4 1 vp' (W.length + 1) (W.map (fun s => Value.bool s.part) ++ [.bool false]) := own_keep hown10 fun b e hb => by
    obtain ⟨_, _, cur, a3⟩ := own_type hown10 e
    exact Below.heap_setCell _ _ _ _ (fun x => by subst x; exact ne_of_cells a3 b10 (by decide))
  -- the map
  have m6 := hm5.kept (row := none) (w' := w6) (grownBy_of_below none hb6) (by simp)
  have m7 := m6.kept hg7 (fun e => hsM e.symm)
  have m8 := m7.setCell (a := ⟨g, 0, none⟩) (fun e => ap.gm e.symm) vs'
  have m9 := m8.kept (row := none) (w' := w9) (grownBy_of_below none hb9) (by simp)
  have m10 := m9.kept hg10 (fun e => hpM e.symm)
  have m11 := m10.setCell (a := ⟨g, 2, none⟩) (fun e => ap.gm e.symm) vp'
  refine ⟨vs', vp', ⟨⟨css ++ [cs], (hst.keep F7.keep).push (hs.keep F7.keep), ?_⟩, ?_, ⟨_, n + 1, m11, by simp; omega, hD.push hmD ⟨t, how, frm, false⟩ hf⟩, b11, l, by simp; omega⟩, F7⟩
  · have e : (css ++ [cs]).flatten = css.flatten ++ cs := by simp
    rw [e, List.length_append]; exact own11
  · rw [List.length_append, List.map_append]; exact part11
end Go.Proofs.YtihbmgkbipeakaaGreat

namespace Go.Proofs.YtihbmgkbipeakaaGreat
open Go.RowKit

namespace T
/-- The next byte is c. -/
def now (l : List UInt8) (i : Nat) (c : UInt8) : Bool := l[i]? == some c
/-- Passing over a text: the place behind it, or the place of the first byte that differs. -/
def need (l : List UInt8) : List UInt8 → Nat → Except Nat Nat
  | [], i => .ok i
  | c :: cs, i => if now l i c = true then need l cs (i + 1) else .error i
/-- May the byte at i stand in a name that begins at fr? -/
def nameOk (l : List UInt8) (fr i : Nat) : Bool := low (l.getD i 0) || (decide (fr < i) && dig (l.getD i 0))
def nameRun (l : List UInt8) (fr : Nat) : Nat → Nat → Nat
  | 0, i => i
  | n + 1, i => if i < l.length ∧ nameOk l fr i = true then nameRun l fr n (i + 1) else i
def nameEnd (l : List UInt8) (i : Nat) : Nat := nameRun l i 16 i
def nameStr (l : List UInt8) (i j : Nat) : ByteArray := strOf ((l.drop i).take (j - i))
/-- What a word in front of a parenthesis means. -/
def fnKind (s : ByteArray) : Int := if s = ⟨#[104, 97, 115, 104]⟩ then 4 else if s = ⟨#[115, 101, 97, 108]⟩ then 5 else if s = ⟨#[115, 105, 103, 110]⟩ then 6 else if s = ⟨#[112, 111, 119, 101, 114]⟩ then 7 else 0
def fnKids (s : ByteArray) : Nat := if s = ⟨#[104, 97, 115, 104]⟩ then 1 else if s = ⟨#[115, 101, 97, 108]⟩ then 2 else if s = ⟨#[115, 105, 103, 110]⟩ then 2 else 0
/-- A term with kids that stand between two signs. -/
def close (l : List UInt8) (k : Int) (c : UInt8) : Option (Except Nat (List T × Nat)) → Option (Except Nat (T × Nat))
  | none => none
  | some (.error e) => some (.error e)
  | some (.ok (ks, j)) => match need l [c] j with
    | .error e => some (.error e)
    | .ok j' => some (.ok (.mk k ⟨#[]⟩ ks, j'))
/-- More kids behind a comma. -/
def more (t : T) : Option (Except Nat (List T × Nat)) → Option (Except Nat (List T × Nat))
  | none => none
  | some (.error e) => some (.error e)
  | some (.ok (ks, j)) => some (.ok (t :: ks, j))
mutual
def pterm (l : List UInt8) : Nat → Nat → Option (Except Nat (T × Nat))
  | 0, _ => none
  | f + 1, i =>
    if now l i 60 = true then close l 3 62 (pkids l f 2 0 (i + 1))
    else if now l i 63 = true then (if nameEnd l (i + 1) = i + 1 then some (.error (i + 1)) else some (.ok (.mk 2 (nameStr l (i + 1) (nameEnd l (i + 1))) [], nameEnd l (i + 1))))
    else if nameEnd l i = i then some (.error i)
    else if fnKind (nameStr l i (nameEnd l i)) = 0 ∨ now l (nameEnd l i) 40 = false then some (.ok (.mk 1 (nameStr l i (nameEnd l i)) [], nameEnd l i))
    else close l (fnKind (nameStr l i (nameEnd l i))) 41 (pkids l f (fnKids (nameStr l i (nameEnd l i))) 0 (nameEnd l i + 1))
def pkids (l : List UInt8) : Nat → Nat → Nat → Nat → Option (Except Nat (List T × Nat))
  | 0, _, _, _ => none
  | f + 1, n, c, i => match pterm l f i with
    | none => none
    | some (.error e) => some (.error e)
    | some (.ok (t, j)) =>
      if (0 < n ∧ c + 1 = n) ∨ (n = 0 ∧ now l j 44 = false) then some (.ok ([t], j))
      else match need l [44, 32] j with
        | .error e => some (.error e)
        | .ok j' => more t (pkids l f n (c + 1) j')
end
theorem now_lt {l : List UInt8} {i : Nat} {c : UInt8} (h : now l i c = true) : i < l.length := by
  unfold now at h
  rcases Nat.lt_or_ge i l.length with g | g
  · exact g
  · rw [List.getElem?_eq_none g] at h; cases h
theorem need_ok {l : List UInt8} : ∀ (q : List UInt8) (i j : Nat), need l q i = .ok j → j = i + q.length ∧ (q ≠ [] → j ≤ l.length)
  | [], i, j, h => by injection h with h; subst h; simp
  | c :: cs, i, j, h => by
    simp only [need] at h
    split at h
    · rename_i hn
      obtain ⟨h1, h2⟩ := need_ok cs (i + 1) j h
      refine ⟨by simp; omega, fun _ => ?_⟩
      have := now_lt hn
      cases cs with
      | nil => simp at h1; omega
      | cons d ds => exact h2 (by simp)
    · cases h
theorem need_err {l : List UInt8} : ∀ (q : List UInt8) (i j : Nat), need l q i = .error j → i ≤ j ∧ j ≤ i + q.length ∧ (i ≤ l.length → j ≤ l.length)
  | [], i, j, h => by cases h
  | c :: cs, i, j, h => by
    simp only [need] at h
    split at h
    · rename_i hn
      obtain ⟨h1, h2, h3⟩ := need_err cs (i + 1) j h
      have := now_lt hn
      exact ⟨by omega, by simp; omega, fun _ => h3 (by omega)⟩
    · injection h with h; subst h; simp
theorem nameRun_le (l : List UInt8) (fr : Nat) : ∀ n i, i ≤ nameRun l fr n i ∧ nameRun l fr n i ≤ i + n ∧ (i ≤ l.length → nameRun l fr n i ≤ l.length)
  | 0, i => by simp [nameRun]
  | n + 1, i => by
    simp only [nameRun]
    split
    · rename_i h
      obtain ⟨h1, h2, h3⟩ := nameRun_le l fr n (i + 1)
      exact ⟨by omega, by omega, fun _ => h3 (by omega)⟩
    · exact ⟨Nat.le_refl _, by omega, fun h => h⟩
theorem nameStr_size (l : List UInt8) (i j : Nat) (h : i ≤ j) (h' : j ≤ l.length) : (nameStr l i j).size = j - i := by
  unfold nameStr; rw [strOf_size, List.length_take, List.length_drop]; omega
theorem nameEnd_le (l : List UInt8) (i : Nat) : i ≤ nameEnd l i ∧ nameEnd l i ≤ i + 16 ∧ (i ≤ l.length → nameEnd l i ≤ l.length) := nameRun_le l i 16 i
theorem nameEnd_lt {l : List UInt8} {i : Nat} (h : nameEnd l i ≠ i) : nameEnd l i ≤ l.length := by
  obtain ⟨h1, h2, h3⟩ := nameEnd_le l i
  rcases Nat.le_total i l.length with g | g
  · exact h3 g
  · exfalso; apply h; unfold nameEnd nameRun; rw [if_neg (by omega)]
theorem close_ok {l : List UInt8} {k : Int} {c : UInt8} {r : Option (Except Nat (List T × Nat))} {t : T} {j : Nat} (h : close l k c r = some (.ok (t, j))) : ∃ ks j', r = some (.ok (ks, j')) ∧ need l [c] j' = .ok j ∧ t = .mk k ⟨#[]⟩ ks := by
  unfold close at h
  split at h
  · cases h
  · cases h
  · rename_i ks j'
    split at h
    · cases h
    · rename_i j'' hj
      simp only [Option.some.injEq, Except.ok.injEq, Prod.mk.injEq] at h
      obtain ⟨rfl, rfl⟩ := h
      exact ⟨ks, j', rfl, hj, rfl⟩
theorem more_ok {t : T} {r : Option (Except Nat (List T × Nat))} {ks : List T} {j : Nat} (h : more t r = some (.ok (ks, j))) : ∃ r', r = some (.ok (r', j)) ∧ ks = t :: r' := by
  unfold more at h
  split at h
  · cases h
  · cases h
  · simp only [Option.some.injEq, Except.ok.injEq, Prod.mk.injEq] at h
    obtain ⟨rfl, rfl⟩ := h
    exact ⟨_, rfl, rfl⟩
/-- How far a term goes, and how large it is at most. -/
theorem p_ok (l : List UInt8) : ∀ f, (∀ i t j, pterm l f i = some (.ok (t, j)) → i < j ∧ j ≤ l.length ∧ t.bulk ≤ 5 * (j - i)) ∧ (∀ n c i ks j, pkids l f n c i = some (.ok (ks, j)) → i < j ∧ j ≤ l.length ∧ bulkAll ks ≤ 5 * (j - i) ∧ ks ≠ [])
  | 0 => ⟨fun _ _ _ h => (by cases h), fun _ _ _ _ _ h => (by cases h)⟩
  | f + 1 => by
    obtain ⟨ih1, ih2⟩ := p_ok l f
    refine ⟨fun i t j h => ?_, fun n c i ks j h => ?_⟩
    · simp only [pterm] at h
      split at h
      · obtain ⟨ks, j', h1, h2, rfl⟩ := close_ok h
        obtain ⟨a1, a2, a3, _⟩ := ih2 _ _ _ _ _ h1
        obtain ⟨b1, b2⟩ := need_ok _ _ _ h2
        have := b2 (by simp)
        simp at b1
        refine ⟨by omega, this, ?_⟩
        simp only [bulk]; show 0 + 4 + _ ≤ _; omega
      · split at h
        · split at h
          · cases h
          · rename_i hne
            simp only [Option.some.injEq, Except.ok.injEq, Prod.mk.injEq] at h
            obtain ⟨rfl, rfl⟩ := h
            have h1 := nameEnd_le l (i + 1); have h2 := nameEnd_lt hne
            refine ⟨by omega, h2, ?_⟩
            simp only [bulk, bulkAll, nameStr_size l _ _ h1.1 h2]; omega
        · split at h
          · cases h
          · rename_i hne
            have h1 := nameEnd_le l i; have h2 := nameEnd_lt hne
            split at h
            · simp only [Option.some.injEq, Except.ok.injEq, Prod.mk.injEq] at h
              obtain ⟨rfl, rfl⟩ := h
              refine ⟨by omega, h2, ?_⟩
              simp only [bulk, bulkAll, nameStr_size l _ _ h1.1 h2]; omega
            · obtain ⟨ks, j', g1, g2, rfl⟩ := close_ok h
              obtain ⟨a1, a2, a3, _⟩ := ih2 _ _ _ _ _ g1
              obtain ⟨b1, b2⟩ := need_ok _ _ _ g2
              have := b2 (by simp)
              simp at b1
              refine ⟨by omega, this, ?_⟩
              simp only [bulk]; show 0 + 4 + _ ≤ _; omega
    · simp only [pkids] at h
      split at h
      · cases h
      · cases h
      · rename_i t j' ht
        obtain ⟨a1, a2, a3⟩ := ih1 _ _ _ ht
        split at h
        · simp only [Option.some.injEq, Except.ok.injEq, Prod.mk.injEq] at h
          obtain ⟨rfl, rfl⟩ := h
          refine ⟨a1, a2, by simp only [bulkAll]; omega, by simp⟩
        · split at h
          · cases h
          · rename_i j'' hn
            obtain ⟨r', h1, rfl⟩ := more_ok h
            obtain ⟨b1, b2⟩ := need_ok _ _ _ hn
            obtain ⟨c1, c2, c3, _⟩ := ih2 _ _ _ _ _ h1
            simp at b1
            refine ⟨by omega, c2, by simp only [bulkAll]; omega, by simp⟩
/-- There is fuel enough. -/
theorem p_some (l : List UInt8) : ∀ f, (∀ i, i ≤ l.length → 2 * (l.length - i) + 1 ≤ f → pterm l f i ≠ none) ∧ (∀ n c i, i ≤ l.length → 2 * (l.length - i) + 2 ≤ f → pkids l f n c i ≠ none)
  | 0 => ⟨fun i _ h => by omega, fun n c i _ h => by omega⟩
  | f + 1 => by
    obtain ⟨ih1, ih2⟩ := p_some l f
    have hclose : ∀ k c r, r ≠ none → close l k c r ≠ none := fun k c r hr => by
      unfold close; split
      · exact absurd rfl hr
      · simp
      · split <;> simp
    refine ⟨fun i hi hf => ?_, fun n c i hi hf => ?_⟩
    · simp only [pterm]
      split
      · rename_i h; have := now_lt h
        exact hclose _ _ _ (ih2 _ _ _ (by omega) (by omega))
      · split
        · split <;> simp
        · split
          · simp
          · rename_i hne
            have h1 := nameEnd_le l i
            split
            · simp
            · rename_i hk
              have := now_lt (show now l (nameEnd l i) 40 = true by rcases Bool.eq_false_or_eq_true (now l (nameEnd l i) 40) with h | h; exact h; exact absurd (.inr h) hk)
              exact hclose _ _ _ (ih2 _ _ _ (by omega) (by omega))
    · simp only [pkids]
      split
      · rename_i h; exact absurd h (ih1 i hi (by omega))
      · simp
      · rename_i t j ht
        obtain ⟨a1, a2, _⟩ := (p_ok l f).1 _ _ _ ht
        split
        · simp
        · split
          · simp
          · rename_i j' hn
            obtain ⟨b1, b2⟩ := need_ok _ _ _ hn
            have := b2 (by simp)
            simp at b1
            have h2 := ih2 n (c + 1) j' (by omega) (by omega)
            unfold more; split
            · rename_i h; exact absurd h h2
            · simp
            · simp
theorem p_err (l : List UInt8) : ∀ f, (∀ i e, i ≤ l.length → pterm l f i = some (.error e) → e ≤ l.length) ∧ (∀ n c i e, i ≤ l.length → pkids l f n c i = some (.error e) → e ≤ l.length)
  | 0 => ⟨fun _ _ _ h => (by cases h), fun _ _ _ _ _ h => (by cases h)⟩
  | f + 1 => by
    obtain ⟨ih1, ih2⟩ := p_err l f
    have hclose : ∀ k c n m i e, i ≤ l.length → close l k c (pkids l f n m i) = some (.error e) → e ≤ l.length := fun k c n m i e hi h => by
      unfold close at h
      split at h
      · cases h
      · rename_i e' he; injection h with h; injection h with h; subst h; exact ih2 _ _ _ _ hi he
      · rename_i ks j hj
        split at h
        · rename_i e' he
          injection h with h; injection h with h; subst h
          exact (need_err _ _ _ he).2.2 ((p_ok l f).2 _ _ _ _ _ hj).2.1
        · cases h
    refine ⟨fun i e hi h => ?_, fun n c i e hi h => ?_⟩
    · simp only [pterm] at h
      split at h
      · rename_i h60; have := now_lt h60; exact hclose _ _ _ _ _ _ (by omega) h
      · split at h
        · rename_i h63; have := now_lt h63
          split at h
          · injection h with h; injection h with h; omega
          · cases h
        · split at h
          · injection h with h; injection h with h; omega
          · split at h
            · cases h
            · rename_i hk
              have := now_lt (show now l (nameEnd l i) 40 = true by rcases Bool.eq_false_or_eq_true (now l (nameEnd l i) 40) with h | h; exact h; exact absurd (.inr h) hk)
              exact hclose _ _ _ _ _ _ (by omega) h
    · simp only [pkids] at h
      split at h
      · cases h
      · rename_i e' he; injection h with h; injection h with h; subst h; exact ih1 _ _ hi he
      · rename_i t j ht
        obtain ⟨a1, a2, _⟩ := (p_ok l f).1 _ _ _ ht
        split at h
        · cases h
        · split at h
          · rename_i e' he; injection h with h; injection h with h; subst h; exact (need_err _ _ _ he).2.2 a2
          · rename_i j' hn
            have b2 := (need_ok _ _ _ hn).2 (by simp)
            unfold more at h
            split at h
            · cases h
            · rename_i e' he; injection h with h; injection h with h; subst h; exact ih2 _ _ _ _ b2 he
            · cases h
/-- Parse: the term, the place of the error, the error. -/
def parse (s : ByteArray) : T × Nat × Int :=
  if 1024 < s.size then (.mk 0 ⟨#[]⟩ [], 0, 72)
  else match pterm s.data.toList (2 * s.size + 1) 0 with
    | none => (.mk 0 ⟨#[]⟩ [], 0, 0)
    | some (.error e) => (.mk 0 ⟨#[]⟩ [], e, 71)
    | some (.ok (t, j)) => if j < s.size then (.mk 0 ⟨#[]⟩ [], j, 71) else if t.valid = true then (t, 0, 0) else (.mk 0 ⟨#[]⟩ [], 0, 76)
end T
end Go.Proofs.YtihbmgkbipeakaaGreat

namespace Go.Proofs.YtihbmgkbipeakaaGreat

namespace T
theorem at_mid (a q b : List UInt8) (j : Nat) (h : j < q.length) : (a ++ q ++ b)[a.length + j]? = q[j]? := by
  rw [List.append_assoc, List.getElem?_append_right (by omega), Nat.add_sub_cancel_left, List.getElem?_append_left h]
theorem now_mid (a b : List UInt8) (c d : UInt8) : now (a ++ c :: b) a.length d = (c == d) := by
  unfold now
  rw [List.getElem?_append_right (Nat.le_refl _), Nat.sub_self]
  simp
theorem now_end (a : List UInt8) (d : UInt8) : now a a.length d = false := by
  unfold now
  rw [List.getElem?_eq_none (Nat.le_refl _)]
  rfl
theorem need_mid : ∀ (q a b : List UInt8), need (a ++ q ++ b) q a.length = .ok (a.length + q.length)
  | [], a, b => by simp [need]
  | c :: cs, a, b => by
    have e : a ++ (c :: cs) ++ b = (a ++ [c]) ++ cs ++ b := by simp
    have h := need_mid cs (a ++ [c]) b
    simp only [need]
    rw [show now (a ++ (c :: cs) ++ b) a.length c = true by rw [List.append_assoc, List.cons_append, now_mid]; simp, if_pos rfl, e]
    rw [List.length_append] at h
    simp only [List.length_cons, List.length_nil] at h ⊢
    rw [h]; congr 1; omega
/-- Behind a name stands nothing that belongs to it. -/
def Stop : List UInt8 → Prop
  | [] => True
  | c :: _ => low c = false ∧ dig c = false
theorem nameRun_mid (a s b : List UInt8) (hs : nmAll s = true) (hb : Stop b) : ∀ n k, k ≤ s.length → s.length ≤ k + n → nameRun (a ++ s ++ b) a.length n (a.length + k) = a.length + s.length
  | 0, k, h1, h2 => by simp only [nameRun]; omega
  | n + 1, k, h1, h2 => by
    simp only [nameRun]
    rcases Nat.lt_or_ge k s.length with h | h
    · have hg : (a ++ s ++ b).getD (a.length + k) 0 = s.getD k 0 := by
        rw [List.getD_eq_getElem?_getD, List.getD_eq_getElem?_getD, at_mid a s b k h]
      have hok : nameOk (a ++ s ++ b) a.length (a.length + k) = true := by
        have := List.all_eq_true.1 hs k (List.mem_range.2 h)
        unfold nmAt at this
        unfold nameOk
        rw [hg, show decide (a.length < a.length + k) = decide (0 < k) by rw [decide_eq_decide]; omega]
        exact this
      rw [if_pos ⟨by simp; omega, hok⟩, Nat.add_assoc]
      exact nameRun_mid a s b hs hb n (k + 1) h (by omega)
    · have hk : k = s.length := by omega
      subst hk
      cases b with
      | nil => rw [if_neg (by simp)]
      | cons c r =>
        have hg : (a ++ s ++ c :: r).getD (a.length + s.length) 0 = c := by
          rw [List.getD_eq_getElem?_getD, List.getElem?_append_right (by simp), List.length_append, Nat.sub_self]; rfl
        rw [if_neg]
        rintro ⟨_, h⟩
        unfold nameOk at h
        rw [hg, hb.1, hb.2] at h
        simp at h
theorem nameEnd_mid (a s b : List UInt8) (hs : nmAll s = true) (h16 : s.length ≤ 16) (hb : Stop b) : nameEnd (a ++ s ++ b) a.length = a.length + s.length := by
  have := nameRun_mid a s b hs hb 16 0 (Nat.zero_le _) (by omega)
  exact this
theorem nameStr_mid (a s b : List UInt8) : nameStr (a ++ s ++ b) a.length (a.length + s.length) = strOf s := by
  unfold nameStr
  rw [List.append_assoc, List.drop_left, Nat.add_sub_cancel_left, List.take_left]
end T
end Go.Proofs.YtihbmgkbipeakaaGreat
