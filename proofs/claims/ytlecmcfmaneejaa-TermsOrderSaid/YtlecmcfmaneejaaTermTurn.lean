/- Chapter 40: the walk of the law's turned: the exponents in the opposite order. -/
import Derived.Test.YtlecmcfmaneejaaTermOrder
import Derived.Test.YtlecmcfmaneejaaTermKeep
namespace Go.Proofs.Ytlecmcfmaneejaa
open Go.RowKit

attribute [local go_sem ↓] Go.wp_at_zero Go.wp_at_succ

namespace T
/-- The kids of a term of kind k, as turned leaves them. -/
def turnL (k : Int) (l : List T) : List T := if k = 7 then l.reverse else l.map turn
theorem turnL_turn (k : Int) (s : ByteArray) (ks : List T) : (T.mk k s ks).turn = .mk k s (turnL k ks) := by
  simp only [turn, turnL, turnAll_map]
theorem turnL_len (k : Int) (l : List T) : (turnL k l).length = l.length := by unfold turnL; split <;> simp
theorem shape_exps {s : ByteArray} {ks : List T} (h : (T.mk 7 s ks).shape = true) (i : Nat) (g : i < ks.length) : ks[i].kids = [] := by
  have hk := shape_kids h i g
  have hm : ks[i] ∈ ks := List.getElem_mem g
  rw [shape_head 7 s ks (by decide) (by decide)] at h
  simp only [headOk] at h
  simp at h
  have ha := h.1.1.2 _ hm
  cases hx : ks[i] with
  | mk k2 s2 l2 =>
    rw [hx] at hk ha
    simp only [atom] at ha
    have h12 : k2 = 1 ∨ k2 = 2 := by simpa using ha
    rw [shape_atom k2 s2 l2 h12, Bool.and_eq_true] at hk
    exact List.eq_nil_of_length_eq_zero (beq_iff_eq.1 hk.2)
end T
theorem leaf_in {S : Nat → Bool} {w w' : World} {v : Value} {t : T} (h : TermAt w v t) (hl : t.kids = []) : TermIn S w' v t := by
  cases h with
  | mk k s A cap ks U h1 h2 h3 h4 hA hU =>
    obtain rfl : ks = [] := hl
    exact TermAt.mk k s A cap [] (fun _ => (undef, undef, undef)) h1 h2 h3 h4 (.inl rfl) (fun i h => by simp at h)
theorem own_one (w : World) {base : Nat} (hb : base ≤ w.heap.size) (u0 u1 u2 : Value) :
    (w.alloc (.cells #[u0, u1, u2] 24)).ownsRow base 24 3 (.slice (some ⟨w.heap.size, 0, none⟩) 1 1) 1 [u0, u1, u2] :=
  ⟨by simp, .inr ⟨w.heap.size, 1, #[u0, u1, u2], rfl, hb, heap_alloc_new w _, Nat.le_refl _, by unfold maxLen; omega, rfl, by simp⟩⟩
/-- A kid in front. -/
theorem OrdAt.front {w wr w' : World} {k : Int} {s : ByteArray} {kids kv u0 u1 u2 : Value} {L : List T} {t : T} {xs : List Value} {A' : Option Addr} {n' c' : Nat}
    (bx : Box wr w.heap.size (.int .i64 k) (.string s) kids) (by' : Box wr (w.heap.size + 1) (.int .i64 0) (.string ⟨#[]⟩) (.slice none 0 0)) (bz : Box wr (w.heap.size + 1 + 1) (.int .i64 k) (.string s) kv)
    (hb : Below w.heap.size w wr) (hsz : w.heap.size + 3 ≤ wr.heap.size) (hct : CT (but (w.heap.size + 3) kv.ownBlock) wr xs L) (hn : n' = L.length + 1) (ht : ∀ S W, TermIn S W (.agg #[u0, u1, u2]) t)
    (hown : w'.ownsRow (w.heap.size + 3) 24 3 (.slice A' n' c') n' ([u0, u1, u2] ++ xs)) (hg : (wr.alloc (.cells #[u0, u1, u2] 24)).grownBy w' (some wr.heap.size))
    (hat : A'.map (·.block) = some wr.heap.size ∨ A'.map (·.block) = some (wr.heap.size + 1)) :
    OrdAt w k s kids (t :: L) (w'.setCell ⟨w.heap.size + 1 + 1, 2, none⟩ (.slice A' n' c')) := by
  subst hn
  have hw4 := below_alloc1 wr (.cells #[u0, u1, u2] 24)
  have hz4 := size_alloc1 wr (.cells #[u0, u1, u2] 24)
  have hbw : Below wr.heap.size wr w' := by
    refine ⟨hg.os.trans hw4.os, hg.tape.trans hw4.tape, hg.output.trans hw4.output, by have := hg.size; omega, fun b hl => ?_⟩
    rw [hg.block b (by omega) (fun e => by have e' : b = wr.heap.size := Option.some.inj e; omega), hw4.block b hl]
  have hAb : ∀ b, b < wr.heap.size → A'.map (·.block) ≠ some b := fun b hl e => by
    rcases hat with h | h
    · rw [h] at e; have e' := Option.some.inj e; omega
    · rw [h] at e; have e' := Option.some.inj e; omega
  have hv : (Value.slice A' (L.length + 1) c').ownBlock = A'.map (·.block) := by cases A' <;> rfl
  have hC : CT (but (w.heap.size + 3) (A'.map (·.block))) w' ([u0, u1, u2] ++ xs) ([t] ++ L) :=
    (CT.one (ht _ _)).append (hct.keep fun b hb' hl => ⟨but_iff.2 ⟨(but_iff.1 hb').1, hAb b hl⟩, hbw.block b hl⟩)
  refine ⟨_, (bx.later hbw).setOther (by simp; omega) _, (by'.later hbw).setOther (by simp) _, (bz.later hbw).set2 _, ?_, ?_, ?_⟩
  · exact (TermsRow.of (L := t :: L) hown (by rw [hv]; exact hC)).keep fun b hb' _ => Below.heap_setCell _ _ _ _ (by show b ≠ w.heap.size + 1 + 1; omega)
  · exact (hb.trans (hbw.mono hb.size)).setCell (by show w.heap.size ≤ w.heap.size + 1 + 1; omega) _
  · have := hbw.size; simp [World.setCell]; omega
/-- A turned kid behind. -/
theorem OrdAt.behind {w : World} {k : Int} {s : ByteArray} {kids : Value} {L : List T} {t : T} {wr w3 w4 : World} {kv u0 u1 u2 : Value} {xs : List Value} {g cap : Nat}
    (bx : Box wr w.heap.size (.int .i64 k) (.string s) kids) (by' : Box wr (w.heap.size + 1) (.int .i64 0) (.string ⟨#[]⟩) (.slice none 0 0)) (bz : Box wr (w.heap.size + 1 + 1) (.int .i64 k) (.string s) kv)
    (hrow : TermsRow wr (w.heap.size + 3) kv L) (hb : Below w.heap.size w wr) (hsz : w.heap.size + 3 ≤ wr.heap.size)
    (hx : ∀ i (h : i < L.length), ∃ u0 u1 u2, xs[i * 3]? = some u0 ∧ xs[i * 3 + 1]? = some u1 ∧ xs[i * 3 + 2]? = some u2 ∧ TermIn (but (w.heap.size + 3) kv.ownBlock) wr (.agg #[u0, u1, u2]) L[i]) (hl : xs.length = L.length * 3)
    (hb3 : Below wr.heap.size wr w3) (ht : TermIn (from_ wr.heap.size) w3 (.agg #[u0, u1, u2]) t)
    (hown : w4.ownsRow (w.heap.size + 3) 24 3 (.slice (some ⟨g, 0, none⟩) (L.length + 1) cap) (L.length + 1) (xs ++ [u0, u1, u2])) (hgrow : (w3.alloc (.cells #[u0, u1, u2] 24)).grownBy w4 kv.ownBlock)
    (hat : kv.ownBlock = some g ∨ g = w3.heap.size + 1) : OrdAt w k s kids (L ++ [t]) (w4.setCell ⟨w.heap.size + 1 + 1, 2, none⟩ (.slice (some ⟨g, 0, none⟩) (L.length + 1) cap)) := by
  have hne : ∀ b, b < w.heap.size + 3 → kv.ownBlock ≠ some b := fun b hlt e => by have := (hrow.block b e).1; omega
  have hb3' := hb3.trans ((below_alloc1 w3 (.cells #[u0, u1, u2] 24)).mono hb3.size)
  have hbf : Below w.heap.size w w4 := (hb.trans (hb3'.mono (by omega))).grown hgrow (by rw [size_alloc1]; have := hb3.size; omega) (fun k hk => by have := (hrow.block k hk).1; omega)
  refine ⟨_, ((bx.later hb3').grown hgrow (hne _ (by omega))).setOther (by simp; omega) _, ((by'.later hb3').grown hgrow (hne _ (by omega))).setOther (by simp) _, (((bz.later hb3').grown hgrow (hne _ (by omega))).set2 _), ?_, hbf.setCell (by show w.heap.size ≤ w.heap.size + 1 + 1; omega) _, ?_⟩
  · have h1 := TermsRow.snoc (w := w3.alloc (.cells #[u0, u1, u2] 24)) (H := w3.heap.size + 1) (t := t) (fun i hi => by
        obtain ⟨a0, a1, a2, b0, b1, b2, b3⟩ := hx i hi
        exact ⟨a0, a1, a2, b0, b1, b2, b3.keep fun b hb hlt => ⟨hb, hb3'.block b hlt⟩⟩) hl
      (ht.keep fun b hbb hlt => ⟨but_iff.2 ⟨by have := of_decide_eq_true hbb; omega, fun e => by have := (hrow.block b e).2; have := of_decide_eq_true hbb; omega⟩, Below.heap_alloc w3 _ b hlt⟩)
      hown hgrow hat (by rw [size_alloc1])
    exact h1.keep fun b hbb _ => Below.heap_setCell _ _ _ _ (by show b ≠ w.heap.size + 1 + 1; omega)
  · have := hgrow.size; have := hb3'.size; simp [World.setCell]; omega

set_option maxRecDepth 100000 in
set_option maxHeartbeats 8000000 in
theorem law_turned : ∀ (N : Nat) (t : T) (v : Value) (w : World), t.bulk < N → TermAt w v t → t.bulk ≤ 1048576 → t.shape = true →
    Calls Try.prog 29 #[v] w (RetT t.turn w) := by
  intro N
  induction N with
  | zero => intro t v w h; omega
  | succ N ih =>
    intro t v w hN ht hbk hsh
    cases ht with
    | mk k s A cap ks U h1 h2 h3 h4 hA hU =>
      simp only [T.bulk] at hN hbk
      have hkn : ks.length ≤ 262144 := by have := T.len_le ks; omega
      obtain ⟨i0, hi0, hz0, hz1, hz2⟩ := info_parts Try.infoT
      go_enter Try.func29, Try.ntmps29
      go_wp2_with fail
      obtain ⟨bx, by', bz, hb1, hsz⟩ := box_three w (.int .i64 k) (.string s) (.slice A ks.length cap) (.int .i64 0) (.string ⟨#[]⟩) (.slice none 0 0) (.int .i64 k) (.string s) (.slice none 0 0)
      generalize ((w.alloc (.cells #[.int .i64 k, .string s, .slice A ks.length cap] 24)).alloc (.cells #[.int .i64 0, .string ⟨#[]⟩, .slice none 0 0] 24)).alloc (.cells #[.int .i64 k, .string s, .slice none 0 0] 24) = w1 at bx by' bz hb1 hsz ⊢
      have HST := Lib.hid (show OrdAt w k s (.slice A ks.length cap) [] w1 from ⟨_, bx, by', bz, TermsRow.nil _ _, hb1, by omega⟩)
      have IH := Lib.hid ih
      have hA2 := Lib.hid hA; have hU2 := Lib.hid hU
      have HSK := Lib.hid (T.shape_kids hsh)
      have HSE := Lib.hid (show k = 7 → ∀ i (g : i < ks.length), ks[i].kids = [] from fun e => by subst e; exact T.shape_exps hsh)
      clear bx by' bz hb1 hsz ih hA hU hsh
      go_loopw [4] (fun i wr => ∃ j : Nat, j ≤ ks.length ∧ i = .int .i64 j ∧ OrdAt w k s (.slice A ks.length cap) (T.turnL k (ks.take j)) wr) (fun i _ => ks.length - (intOf i).toNat)
      case atStart => exact ⟨0, Nat.zero_le _, rfl, by have := HST.out; simpa [T.turnL] using this⟩
      case round =>
        obtain ⟨j, hj, rfl, hat⟩ := hrel
        by_cases hlt : j < ks.length
        · obtain ⟨kv, bx, by', bz, hrow, hbw, hsz⟩ := hat
          obtain ⟨b, off, B1, C1, rfl, d0, d1, d2, hu⟩ := TermAt.cells hlt hA2.out hU2.out
          have e0 := cell_later hbw d0; have e1 := cell_later hbw d1; have e2 := cell_later hbw d2
          have hi : (j : Int) < (ks.length : Int) := by omega
          obtain ⟨x0, x1, x2⟩ := bx.cells
          obtain ⟨z0, z1, z2⟩ := bz.cells
          obtain ⟨f0, f1, f2⟩ := bz.free
          have hu2 := hu.later hbw
          have HU := Lib.hid hu2; have HLT := Lib.hid hlt
          have hlL : (T.turnL k (ks.take j)).length = j := by rw [T.turnL_len, List.length_take]; omega
          obtain ⟨xs, hown, hct⟩ := hrow.cells
          rw [hlL] at hown
          obtain ⟨A5, C5, hkv, hkl1, hkl2⟩ := hrow.shape
          by_cases k7 : k = 7
          · have HTK := Lib.hid (show (ks[j]'hlt) :: T.turnL k (ks.take j) = T.turnL k (ks.take (j + 1)) by unfold T.turnL; rw [if_pos k7, if_pos k7, List.take_succ_eq_append_getElem hlt, List.reverse_append]; rfl)
            have HLF := Lib.hid (fun S W => leaf_in (S := S) (w' := W) hu2 (HSE.out k7 j hlt))
            have HFR := Lib.hid (fun w' A' c' => OrdAt.front (w' := w') (n' := 1 + j) (A' := A') (c' := c') bx by' bz hbw hsz hct (by rw [hlL]; omega) HLF.out)
            rw [hlL] at hkv
            subst hkv
            have HOWN := Lib.hid hown; have HSZ := Lib.hid hsz; have HBZ := Lib.hid bz
            have HONE := Lib.hid hct.one'
            clear hu hu2 hct hown bx by' bz hrow hbw hsz hkl1 hkl2 hlL d0 d1 d2
            subst k7
            go_upto_region 6 with fail
            have z2' := cell_later (below_alloc1 wr (.cells #[.int .i64 (ks[j]'hlt).kind, .string (ks[j]'hlt).name, .slice B1 (ks[j]'hlt).kids.length C1] 24)) z2
            have HNEW := Lib.hid (own_one wr.drew (base := w.heap.size + 3) (by show _ ≤ wr.heap.size; exact HSZ.out) (.int .i64 (ks[j]'hlt).kind) (.string (ks[j]'hlt).name) (.slice B1 (ks[j]'hlt).kids.length C1))
            have HSRC := Lib.hid ((Src.of_own (HOWN.out.drew)).later (below_alloc1 wr.drew (.cells #[.int .i64 (ks[j]'hlt).kind, .string (ks[j]'hlt).name, .slice B1 (ks[j]'hlt).kids.length C1] 24)))
            have HBZ4 := Lib.hid ((show Box wr.drew _ _ _ _ from HBZ.out).later (below_alloc1 wr.drew (.cells #[.int .i64 (ks[j]'hlt).kind, .string (ks[j]'hlt).name, .slice B1 (ks[j]'hlt).kids.length C1] 24)))
            have HBS := Lib.hid (show w.heap.size + 3 ≤ (wr.alloc (.cells #[.int .i64 (ks[j]'hlt).kind, .string (ks[j]'hlt).name, .slice B1 (ks[j]'hlt).kids.length C1] 24)).heap.size by rw [size_alloc1]; have := HSZ.out; omega)
            go_region_law (first | (refine step_append_src _ (by rfl) (.tmp 25) (.tmp 27) _ (by rfl) (w.heap.size + 3) 24 i0 _ 3 48 Try.underlying22 hi0 hz0 hz1 hz2 rfl (by omega) _ 1 _ (by rfl) HNEW.out _ j C5 _ (by rfl) HSRC.out HONE.out (by unfold maxLen; omega) (by omega) HBS.out ?_; intro A8 c8 w9 hown9 hg9 hat9; have HB9 := HBZ4.out.grown hg9 (fun e => by have e' : wr.heap.size = w.heap.size + 1 + 1 := Option.some.inj e; have := HSZ.out; omega); have c9 := HB9.cells.2.2; have f9 := HB9.free.2.2))
            all_goals
              have hfin := HFR.out w9 A8 c8 hown9 ⟨hg9.os, hg9.tape, hg9.output, hg9.size, hg9.block⟩ (hat9.imp id (fun h => h.trans (congrArg some (size_alloc1 wr _))))
              rw [HTK.out] at hfin
              have HFIN := Lib.hid hfin
              clear hfin hg9 hown9 hat9 HB9 c9 f9 z2 z2' e0 e1 e2 x0 x1 x2 z0 z1
              go_wp2_with fail
              go_roundw
              case rel => exact ⟨j + 1, HLT.out, by go_num, HFIN.out⟩
              case measure => have := HLT.out; simp [intOf]; omega
          · have k7' : (k == 7) = false := by rw [beq_eq_false_iff_ne]; exact k7
            have HB2 := Lib.hid (show (ks[j]'hlt).bulk < N ∧ (ks[j]'hlt).bulk ≤ 1048576 by have := T.bulk_at ks j hlt; omega)
            have HSH := Lib.hid (HSK.out j hlt)
            have HSTEP := Lib.hid (fun t w3 w4 u0 u1 u2 g cap => OrdAt.behind (t := t) (w3 := w3) (w4 := w4) (u0 := u0) (u1 := u1) (u2 := u2) (g := g) (cap := cap) bx by' bz hrow hbw hsz hct.2 hct.1)
            have HTK := Lib.hid (show T.turnL k (ks.take j) ++ [(ks[j]'hlt).turn] = T.turnL k (ks.take (j + 1)) by unfold T.turnL; rw [if_neg k7, if_neg k7, List.take_succ_eq_append_getElem hlt, List.map_append]; rfl)
            have hblk := hrow.block
            rw [hlL] at HSTEP
            have HOWN := Lib.hid hown; have HBZ := Lib.hid bz; have HSZ := Lib.hid hsz
            have HNE := Lib.hid (show kv.ownBlock ≠ some (w.heap.size + 1 + 1) from fun e => by have := (hblk _ e).1; omega)
            clear hu hu2 hct hown bx by' bz hrow hbw hsz hkl1 hkl2 hlL d0 d1 d2 hblk hkv k7
            go_upto_region 7 with fail
            go_region_law (first | (refine step_append_lies _ (by rfl) _ _ _ (by rfl) (w.heap.size + 3) 24 i0 _ 3 48 Try.underlying22 hi0 hz0 hz1 hz2 rfl (by omega) _ _ _ (by rfl) HOWN3.out ⟨_, 0, none⟩ 1 1 _ (by rfl) (by rfl) (World.news_of_block (heap_alloc_new _ _)) HONE.out (by omega) (by unfold maxLen; omega) (by omega) HBS.out _ rfl ?_; intro g cap w4 hown4 hgrow hat hlt4; have HB4 := (HBZ.out.later (hb3'.trans ((below_alloc1 w3 _).mono hb3'.size))).grown hgrow HNE.out; have c4 := HB4.cells.2.2; have f4 := HB4.free.2.2) | (go_simp; go_at_call 29; refine (IH.out _ _ _ HB2.out.1 HU.out.drew HB2.out.2 HSH.out).mono ?_; rintro e w3 ⟨A3, C3, rfl, hti, hb3⟩; have hb3' := below_undrew hb3; have zz2 := cell_later hb3' z2; have zz3 := cell_later (below_alloc1 w3 (.cells #[.int .i64 (ks[j]'hlt).turn.kind, .string (ks[j]'hlt).turn.name, .slice A3 (ks[j]'hlt).turn.kids.length C3] 24)) zz2; have HOWN3 := Lib.hid ((own_later HOWN.out hb3').alloc (.cells #[.int .i64 (ks[j]'hlt).turn.kind, .string (ks[j]'hlt).turn.name, .slice A3 (ks[j]'hlt).turn.kids.length C3] 24)); have HONE := Lib.hid hti.one; have HBS := Lib.hid (show w.heap.size + 3 ≤ (w3.alloc (.cells #[.int .i64 (ks[j]'hlt).turn.kind, .string (ks[j]'hlt).turn.name, .slice A3 (ks[j]'hlt).turn.kids.length C3] 24)).heap.size by rw [size_alloc1]; have := hb3'.size; have := HSZ.out; omega)))
            all_goals
              have hfin := HSTEP.out (ks[j]'hlt).turn w3 w4 _ _ _ g cap hb3' hti hown4 hgrow (hat.imp id (fun h => h.trans (size_alloc1 _ _)))
              rw [HTK.out] at hfin
              have HFIN := Lib.hid hfin
              clear hfin hgrow hown4 hti c4 f4 HB4 zz2 zz3 hat hlt4 z0 z1 z2 x0 x1 x2 e0 e1 e2
              go_wp2_with fail
              go_roundw
              case rel => exact ⟨j + 1, HLT.out, by go_num, HFIN.out⟩
              case measure => have := HLT.out; simp [intOf]; omega
        · obtain rfl : j = ks.length := by omega
          rw [List.take_of_length_le (Nat.le_refl _)] at hat
          obtain ⟨kv, bx, by', bz, hrow, hbw, hsz⟩ := hat
          have HN := Lib.hid (T.turnL_turn k s ks)
          have hLl := T.turnL_len k ks
          generalize T.turnL k ks = L at HN hrow hLl
          obtain ⟨A4, C4, hkv, _, _⟩ := hrow.shape
          have HTM := Lib.hid (hrow.term k s h1 h2)
          have HBW := Lib.hid hbw; have HBY := Lib.hid by'; have HLL := Lib.hid hLl
          obtain ⟨x0, x1, x2⟩ := bx.cells
          obtain ⟨z0, z1, z2⟩ := bz.cells
          obtain ⟨y0, y1, y2⟩ := by'.cells
          obtain ⟨f0, f1, f2⟩ := by'.free
          rw [hkv] at z2 HTM
          rw [hLl] at z2 HTM
          clear hkv hrow hbw bx bz by' hLl
          go_wp2_with fail
          obtain ⟨d0, d1, d2⟩ := (box_set3 HBY.out (.int .i64 k) (.string s) (.slice A4 ks.length C4)).cells
          refine bodyPost_ret (v := .agg #[.int .i64 k, .string s, .slice A4 ks.length C4]) (by simp [results, Try.results29, go_sem, d0, d1, d2]) rfl ?_
          rw [HN.out]
          exact ret_set3 (t := .mk k s L) _ _ _ HBW.out (by omega) rfl rfl (by show _ = Value.slice _ L.length _; rw [HLL.out]) (HTM.out.keep fun b hb _ => ⟨decide_eq_true (by have := of_decide_eq_true hb; omega), rfl⟩)
end Go.Proofs.Ytlecmcfmaneejaa
