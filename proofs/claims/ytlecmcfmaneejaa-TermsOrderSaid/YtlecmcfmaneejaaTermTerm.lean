/- Chapter 40: the maker of terms. UNDER WAY. -/
import Derived.Test.YtlecmcfmaneejaaTermMade
namespace Go.Proofs.Ytlecmcfmaneejaa
open Go.RowKit

/-- What the maker of terms leaves. -/
def MadePost (D B g : Nat) (w : World) (e : Ending) (w' : World) : Prop := ∃ t A cap, T.Made D t ∧ e = .returned (.agg #[.int .i64 t.kind, .string t.name, .slice A t.kids.length cap]) ∧
  TermIn (from_ w.heap.size) w' (.agg #[.int .i64 t.kind, .string t.name, .slice A t.kids.length cap]) t ∧ DiceAt B g w' ∧ w.grownBy w' (some g)
/-- The result's three stores at the end. -/
theorem made_ends {D B g : Nat} {w W : World} {t : T} {A : Option Addr} {cap : Nat} (hg : w.grownBy W (some g)) (hgl : g < w.heap.size) (hd : DiceAt B g W) (hm : T.Made D t)
    (ht : TermIn (from_ (w.heap.size + 1)) W (.agg #[.int .i64 t.kind, .string t.name, .slice A t.kids.length cap]) t) (v0 v1 v2 : Value) :
    MadePost D B g w (.returned (.agg #[.int .i64 t.kind, .string t.name, .slice A t.kids.length cap])) (((W.setCell ⟨w.heap.size, 0, none⟩ v0).setCell ⟨w.heap.size, 1, none⟩ v1).setCell ⟨w.heap.size, 2, none⟩ v2) := by
  refine ⟨t, A, cap, hm, rfl, ht.keep fun b hb _ => ?_, hd.other (by omega) (by have := hd.1; omega) _ _ _, ?_⟩
  · have := of_decide_eq_true hb
    exact ⟨decide_eq_true (by omega), set3_other _ _ _ _ _ _ (by omega)⟩
  · have h := below_set3 W w.heap.size v0 v1 v2
    exact ⟨h.os.trans hg.os, h.tape.trans hg.tape, h.output.trans hg.output, Nat.le_trans hg.size h.size, fun i hi hn => (h.block i hi).trans (hg.block i hi hn)⟩

set_option maxRecDepth 100000 in
set_option maxHeartbeats 4000000 in
/-- The first arm at depth 1. (Under way: to be taken into the induction on D; the arm of a small throw ends alike.) -/
theorem made_term_low (D B g : Nat) (vars : Int) (w : World) (hd : DiceAt B g w) (hD1 : D = 1) :
    Calls Try.prog 26 #[.pointer (some ⟨g, 0, none⟩), .int .i64 (D : Int), .int .i64 vars] w (MadePost D B g w) := by
  have hgl := hd.lt
  have bx := Box.new w (.int .i64 0) (.string ⟨#[]⟩) (.slice none 0 0)
  have hw := below_alloc1 w (.cells #[.int .i64 0, .string ⟨#[]⟩, .slice none 0 0] 24)
  have hz := size_alloc1 w (.cells #[.int .i64 0, .string ⟨#[]⟩, .slice none 0 0] 24)
  have HD := Lib.hid (hd.below hw hgl); have HGL := Lib.hid hgl
  clear hd hgl
  go_enter Try.func26, Try.ntmps26
  go_upto_region 1 with fail
  generalize w.alloc (.cells #[.int .i64 0, .string ⟨#[]⟩, .slice none 0 0] 24) = w1 at bx hw hz HD ⊢
  have HB := Lib.hid bx; have HW := Lib.hid hw; have HZ := Lib.hid hz
  clear bx hw hz
  go_wp2_with fail
  refine (made_next B g 8 _ HD.out (by omega) (by omega)).mono ?_; rintro e w2 ⟨v, hv0, hv1, rfl, hd2, hg2⟩
  have HB2 := Lib.hid (HB.out.grown hg2 (fun e => by have e' := Option.some.inj e; have := HGL.out; omega))
  have HG2 := Lib.hid (grownBy_trans (grownBy_of_below (some g) HW.out) hg2); have HD2 := Lib.hid hd2
  have HZ2 := Lib.hid (show w.heap.size + 1 ≤ w2.heap.size by have := hg2.size; have := HZ.out; omega)
  clear hd2 hg2
  have h1 : (D : Int) ≤ 1 := by omega
  go_upto_region 3 with fail
  go_wp2_with fail
  refine (made_atom B g _ _ HD2.out).mono ?_; rintro e w3 ⟨k, s, hk, rfl, hd3, hg3⟩
  have HB3 := Lib.hid (HB2.out.grown hg3 (fun e => by have e' := Option.some.inj e; have := HGL.out; omega))
  have HG3 := Lib.hid (grownBy_trans HG2.out hg3); have HD3 := Lib.hid hd3
  have HK := Lib.hid hk
  obtain ⟨x0, x1, x2⟩ := HB3.out.cells
  obtain ⟨f0, f1, f2⟩ := HB3.out.free
  clear hd3 hg3 hk
  go_wp2_with fail
  obtain ⟨d0, d1, d2⟩ := (box_set3 HB3.out (.int .i64 k) (.string s) (.slice none 0 0)).cells
  refine bodyPost_ret (v := .agg #[.int .i64 k, .string s, .slice none 0 0]) (by simp [results, Try.results26, go_sem, d0, d1, d2]) rfl ?_
  exact made_ends (t := .mk k s []) (A := none) (cap := 0) HG3.out HGL.out HD3.out (T.made_of_atom HK.out D) (atom_in _ _ k s (by have := (T.made0_facts HK.out).1; omega) (by have := (T.made0_facts HK.out).2.2; unfold maxLen; omega)) _ _ _
end Go.Proofs.Ytlecmcfmaneejaa
