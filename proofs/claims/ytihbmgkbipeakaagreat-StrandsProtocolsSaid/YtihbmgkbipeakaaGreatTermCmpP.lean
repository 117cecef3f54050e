/- Chapter 40: the walk of the program's Compare, whole. -/
import Derived.Test.YtihbmgkbipeakaaGreatTermCmpO
import Derived.Deep.RegionHeld3
namespace Go.Proofs.YtihbmgkbipeakaaGreat
open Go.RowKit

theorem T.cmp_or3 (k k' : Int) (s s' : ByteArray) (ks ks' : List T) : (T.mk k s ks).cmp (.mk k' s' ks') = T.or3 (T.ci k k') (T.cs s s') (T.cmpAll ks ks') := by
  have e : (T.mk k s ks).cmp (.mk k' s' ks') = if k < k' then -1 else if k' < k then 1 else if T.less s s' = true then -1 else if (s.toList == s'.toList) = false then 1 else T.cmpAll ks ks' := rfl
  rw [e]
  unfold T.or3 T.ci T.cs
  repeat' split
  all_goals first | rfl | omega | simp_all

/-- Six cells and a bound, as they stand while memory is made. -/
theorem six_later {w1 W W2 : World} {p0 p1 p2 p3 p4 p5 : Addr} {v0 v1 v2 v3 v4 v5 : Value} (h : W.cell? p0 = some v0 ∧ W.cell? p1 = some v1 ∧ W.cell? p2 = some v2 ∧ W.cell? p3 = some v3 ∧ W.cell? p4 = some v4 ∧ W.cell? p5 = some v5 ∧ Below w1.heap.size w1 W)
    (hb : Below W.heap.size W W2) : W2.cell? p0 = some v0 ∧ W2.cell? p1 = some v1 ∧ W2.cell? p2 = some v2 ∧ W2.cell? p3 = some v3 ∧ W2.cell? p4 = some v4 ∧ W2.cell? p5 = some v5 ∧ Below w1.heap.size w1 W2 := by
  obtain ⟨h0, h1, h2, h3, h4, h5, h6⟩ := h
  exact ⟨cell_later hb h0, cell_later hb h1, cell_later hb h2, cell_later hb h3, cell_later hb h4, cell_later hb h5, h6.trans (hb.mono h6.size)⟩

set_option maxRecDepth 100000 in
set_option maxHeartbeats 4000000 in
theorem ocmp : ∀ (N : Nat) (t t' : T) (v v' : Value) (w : World), t.bulk < N → TermAt w v t → TermAt w v' t' → t.bulk ≤ 1048576 → t'.bulk ≤ 1048576 →
    Calls Tryz.prog 103 #[v, v'] w fun e w' => e = .returned (.int .i64 (t.cmp t')) ∧ Below w.heap.size w w' := by
  intro N
  induction N with
  | zero => intro t t' v v' w h; omega
  | succ N ih =>
    intro t t' v v' w hN ht ht' hbk hbk'
    cases ht with
    | mk k s A cap ks U h1 h2 h3 h4 hA hU =>
    cases ht' with
    | mk k' s' A' cap' ks' U' h1' h2' h3' h4' hA' hU' =>
      simp only [T.bulk] at hN hbk hbk'
      have hkn : ks.length ≤ 1048576 := by have := T.len_le ks; omega
      have hkn' : ks'.length ≤ 1048576 := by have := T.len_le ks'; omega
      rw [T.cmp_or3]
      obtain ⟨hbx, hbx', hb1⟩ := boxed_two w (.int .i64 k) (.string s) (.slice A ks.length cap) (.int .i64 k') (.string s') (.slice A' ks'.length cap') 29
      have ht := TermAt.mk k s A cap ks U h1 h2 h3 h4 hA hU
      go_enter Tryz.func103, Tryz.ntmps103
      go_upto_region 1 with fail
      generalize (w.alloc (.cells #[.int .i64 k, .string s, .slice A ks.length cap] 29)).alloc (.cells #[.int .i64 k', .string s', .slice A' ks'.length cap'] 29) = w1 at hbx hbx' hb1 ⊢
      obtain ⟨x0, x1, x2⟩ := hbx
      obtain ⟨y0, y1, y2⟩ := hbx'
      have bA := Lib.hid hA; have bU := Lib.hid hU; have bA' := Lib.hid hA'; have bU' := Lib.hid hU'
      have hF : ∀ W, Below w1.heap.size w1 W → Calls Tryz.prog 137 #[.slice A ks.length cap, .slice A' ks'.length cap', .func (.func 103) #[] #[]] W fun e w' =>
          e = .returned (.int .i64 (T.cmpAll ks ks')) ∧ Below W.heap.size W w' := fun W hW => by
        have hWw := hb1.trans (hW.mono hb1.size)
        refine cmp_func A A' cap cap' ks ks' U U' W hkn hkn' ?_ (fun i h => (hU i h).later hWw) ?_ (fun i h => (hU' i h).later hWw) ?_
        · rcases hA with h | ⟨b, off, e, hc⟩
          · exact .inl h
          · exact .inr ⟨b, off, e, fun i hi => by obtain ⟨c0, c1, c2⟩ := hc i hi; exact ⟨cell_later hWw c0, cell_later hWw c1, cell_later hWw c2⟩⟩
        · rcases hA' with h | ⟨b, off, e, hc⟩
          · exact .inl h
          · exact .inr ⟨b, off, e, fun i hi => by obtain ⟨c0, c1, c2⟩ := hc i hi; exact ⟨cell_later hWw c0, cell_later hWw c1, cell_later hWw c2⟩⟩
        · intro j h h' v v' W' hv hv'
          have := T.bulk_at ks j h; have := T.bulk_at ks' j h'
          exact ih _ _ _ _ _ (by omega) hv hv' (by omega) (by omega)
      have HF := Lib.hid hF
      clear hA hU hA' hU' ht hF
      go_region_held3 (fun W => W.cell? ⟨w.heap.size, 0, none⟩ = some (.int .i64 k) ∧ W.cell? ⟨w.heap.size, 1, none⟩ = some (.string s) ∧ W.cell? ⟨w.heap.size, 2, none⟩ = some (.slice A ks.length cap) ∧ W.cell? ⟨w.heap.size + 1, 0, none⟩ = some (.int .i64 k') ∧ W.cell? ⟨w.heap.size + 1, 1, none⟩ = some (.string s') ∧ W.cell? ⟨w.heap.size + 1, 2, none⟩ = some (.slice A' ks'.length cap') ∧ Below w1.heap.size w1 W)
        (first | exact ⟨x0, x1, x2, y0, y1, y2, Below.refl _ _⟩ | exact ⟨x0, x1, x2, y0, y1, y2, (Below.refl _ _).drew⟩ | exact six_later (by assumption) hb4 | exact six_later (by assumption) ((Below.refl _ _).alloc (Nat.le_refl _) _) | go_keep)
        (first | (go_at_call 135; refine (cmp_int _ _ _).mono ?_; rintro e w' ⟨rfl, rfl⟩) | (go_at_call 136; refine (cmp_str _ _ _).mono ?_; rintro e w' ⟨rfl, rfl⟩) | (go_at_call 137; refine (HF.out _ (by first | assumption | exact Below.refl _ _ | exact (Below.refl _ _).drew)).mono ?_; rintro e w2 ⟨rfl, hb4⟩) | (go_at_call 134; refine (cmp_or _ _ _ _ _ _ (boxed_new _ _ _ _ _).1 (boxed_new _ _ _ _ _).2.1 (boxed_new _ _ _ _ _).2.2).mono ?_; rintro e w' ⟨rfl, rfl⟩))
      all_goals
        rename_i hS
        have hb5 := hS.2.2.2.2.2.2
        clear hS x0 x1 x2 y0 y1 y2
        go_wp2_with fail
        go_ret
        exact ⟨rfl, hb1.trans (hb5.mono hb1.size)⟩
end Go.Proofs.YtihbmgkbipeakaaGreat
