/- Chapter 40: the maker of terms: a name or a variable. -/
import Derived.Test.YtlecmcfmaneejaaTermMill
import Derived.Test.YtlecmcfmaneejaaTermNrm
import Derived.Test.YtlecmcfmaneejaaTermPTerm
namespace Go.Proofs.Ytlecmcfmaneejaa
open Go.RowKit

/-- Which names and variables the maker gives. -/
def T.made0 (k : Int) (s : ByteArray) : Bool :=
  (decide (k = 2) && (decide (s = ⟨#[120]⟩) || decide (s = ⟨#[121]⟩) || decide (s = ⟨#[122]⟩))) ||
  (decide (k = 1) && (decide (s = ⟨#[97]⟩) || decide (s = ⟨#[98]⟩) || decide (s = ⟨#[99]⟩) || decide (s = ⟨#[107]⟩) || decide (s = ⟨#[110, 49]⟩)))
def AtomPost (B g : Nat) (w : World) (e : Ending) (w' : World) : Prop := ∃ (k : Int) (s : ByteArray), T.made0 k s = true ∧ e = .returned (.agg #[.int .i64 k, .string s, .slice none 0 0]) ∧ DiceAt B g w' ∧ w.grownBy w' (some g)
theorem DiceAt.other {B g h : Nat} {w : World} (hd : DiceAt B g w) (hh : h ≠ g) (hB : B ≤ h) (v0 v1 v2 : Value) :
    DiceAt B g (((w.setCell ⟨h, 0, none⟩ v0).setCell ⟨h, 1, none⟩ v1).setCell ⟨h, 2, none⟩ v2) := by
  obtain ⟨h0, A, n, c, k, h1, h2, h3, h3', h4⟩ := hd
  refine ⟨h0, A, n, c, k, (set3_other _ _ _ _ _ _ (fun e => hh e.symm)).trans h1, h2, h3, h3', ?_⟩
  rcases h4 with h4 | ⟨b, off, hbB, e, hc⟩
  · exact .inl h4
  · refine .inr ⟨b, off, hbB, e, fun j hj => ?_⟩
    obtain ⟨z, g1, g2⟩ := hc j hj
    have hbh : b ≠ h := by omega
    have hs := set3_other w h v0 v1 v2 b hbh
    refine ⟨z, ?_, g2⟩
    rw [← g1]
    exact World.cell?_of_block hs
theorem atom_ends {B g : Nat} {w W : World} (hg : w.grownBy W (some g)) (hgl : g < w.heap.size) (hd : DiceAt B g W) (k : Int) (s : ByteArray) (hk : T.made0 k s = true) (v0 v1 v2 : Value) :
    AtomPost B g w (.returned (.agg #[.int .i64 k, .string s, .slice none 0 0])) (((W.setCell ⟨w.heap.size, 0, none⟩ v0).setCell ⟨w.heap.size, 1, none⟩ v1).setCell ⟨w.heap.size, 2, none⟩ v2) := by
  refine ⟨k, s, hk, rfl, hd.other (by omega) (by have := hd.1; omega) _ _ _, ?_⟩
  have h := below_set3 W w.heap.size v0 v1 v2
  exact ⟨h.os.trans hg.os, h.tape.trans hg.tape, h.output.trans hg.output, Nat.le_trans hg.size h.size, fun i hi hn => (h.block i hi).trans (hg.block i hi hn)⟩

set_option maxRecDepth 100000 in
set_option maxHeartbeats 4000000 in
theorem made_atom (B g : Nat) (vars : Int) (w : World) (hd : DiceAt B g w) :
    Calls Try.prog 45 #[.pointer (some ⟨g, 0, none⟩), .int .i64 vars] w (AtomPost B g w) := by
  have hgl := hd.lt
  have bx := Box.new w (.int .i64 0) (.string ⟨#[]⟩) (.slice none 0 0)
  have hw := below_alloc1 w (.cells #[.int .i64 0, .string ⟨#[]⟩, .slice none 0 0] 24)
  have hz := size_alloc1 w (.cells #[.int .i64 0, .string ⟨#[]⟩, .slice none 0 0] 24)
  have HD := Lib.hid (hd.below hw hgl); have HGL := Lib.hid hgl
  clear hd hgl
  go_enter Try.func45, Try.ntmps45
  go_upto_region 1 with fail
  generalize w.alloc (.cells #[.int .i64 0, .string ⟨#[]⟩, .slice none 0 0] 24) = w1 at bx hw hz HD ⊢
  have HB := Lib.hid bx; have HW := Lib.hid hw; have HZ := Lib.hid hz
  clear bx hw hz
  go_wp2_with fail
  refine (made_next B g 10 _ HD.out (by omega) (by omega)).mono ?_; rintro e w2 ⟨v, hv0, hv1, rfl, hd2, hg2⟩
  have HB2 := Lib.hid (HB.out.grown hg2 (fun e => by have e' := Option.some.inj e; have := HGL.out; omega))
  have HG2 := Lib.hid (grownBy_trans (grownBy_of_below (some g) HW.out) hg2); have HD2 := Lib.hid hd2
  have HZ2 := Lib.hid (show w.heap.size + 1 ≤ w2.heap.size by have := hg2.size; have := HZ.out; omega)
  clear hd2 hg2 hv0 hv1
  by_cases hv : v < vars
  · have hrow := heap_alloc_new w2 (.cells #[.string ⟨#[120]⟩, .string ⟨#[121]⟩, .string ⟨#[122]⟩] 9)
    have hw3 := below_alloc1 w2 (.cells #[.string ⟨#[120]⟩, .string ⟨#[121]⟩, .string ⟨#[122]⟩] 9)
    have hz3 := size_alloc1 w2 (.cells #[.string ⟨#[120]⟩, .string ⟨#[121]⟩, .string ⟨#[122]⟩] 9)
    have HD3 := Lib.hid (HD2.out.below hw3 HD2.out.lt); have HB3 := Lib.hid (HB2.out.later hw3); have HG3 := Lib.hid (grownBy_trans HG2.out (grownBy_of_below (some g) hw3))
    clear hw3
    go_upto_region 2 with fail
    go_wp2_with fail
    generalize w2.alloc (.cells #[.string ⟨#[120]⟩, .string ⟨#[121]⟩, .string ⟨#[122]⟩] 9) = w3 at hrow hz3 HD3 HB3 HG3 ⊢
    refine (made_next B g 3 _ HD3.out (by omega) (by omega)).mono ?_; rintro e w4 ⟨u, hu0, hu1, rfl, hd4, hg4⟩
    have hgz : g < w2.heap.size := by have := HGL.out; have := HZ2.out; omega
    have hrow4 := (hg4.block w2.heap.size (by omega) (fun e => by have e' : w2.heap.size = g := Option.some.inj e; omega)).trans hrow
    have HD4 := Lib.hid hd4; have HB4 := Lib.hid (HB3.out.grown hg4 (fun e => by have e' := Option.some.inj e; have := HGL.out; omega)); have HG4 := Lib.hid (grownBy_trans HG3.out hg4)
    have c0 : w4.cell? ⟨w2.heap.size, 0, none⟩ = some (.string ⟨#[120]⟩) := cell_of_row _ _ 0 _ _ _ hrow4
    have c1 : w4.cell? ⟨w2.heap.size, 1, none⟩ = some (.string ⟨#[121]⟩) := cell_of_row _ _ 1 _ _ _ hrow4
    have c2 : w4.cell? ⟨w2.heap.size, 2, none⟩ = some (.string ⟨#[122]⟩) := cell_of_row _ _ 2 _ _ _ hrow4
    obtain ⟨x0, x1, x2⟩ := HB4.out.cells
    obtain ⟨f0, f1, f2⟩ := HB4.out.free
    clear hd4 hg4 hrow4 hrow
    obtain rfl | rfl | rfl : u = 0 ∨ u = 1 ∨ u = 2 := by omega
    · go_wp2_with fail
      obtain ⟨d0, d1, d2⟩ := (box_set3 HB4.out (.int .i64 2) (.string ⟨#[120]⟩) (.slice none 0 0)).cells
      refine bodyPost_ret (v := .agg #[.int .i64 2, .string ⟨#[120]⟩, .slice none 0 0]) (by simp [results, Try.results45, go_sem, d0, d1, d2]) rfl ?_
      exact atom_ends HG4.out HGL.out HD4.out 2 ⟨#[120]⟩ (by decide) _ _ _
    · go_wp2_with fail
      obtain ⟨d0, d1, d2⟩ := (box_set3 HB4.out (.int .i64 2) (.string ⟨#[121]⟩) (.slice none 0 0)).cells
      refine bodyPost_ret (v := .agg #[.int .i64 2, .string ⟨#[121]⟩, .slice none 0 0]) (by simp [results, Try.results45, go_sem, d0, d1, d2]) rfl ?_
      exact atom_ends HG4.out HGL.out HD4.out 2 ⟨#[121]⟩ (by decide) _ _ _
    · go_wp2_with fail
      obtain ⟨d0, d1, d2⟩ := (box_set3 HB4.out (.int .i64 2) (.string ⟨#[122]⟩) (.slice none 0 0)).cells
      refine bodyPost_ret (v := .agg #[.int .i64 2, .string ⟨#[122]⟩, .slice none 0 0]) (by simp [results, Try.results45, go_sem, d0, d1, d2]) rfl ?_
      exact atom_ends HG4.out HGL.out HD4.out 2 ⟨#[122]⟩ (by decide) _ _ _
  · have hv' : vars ≤ v := by omega
    have hrow := heap_alloc_new w2 (.cells #[.string ⟨#[97]⟩, .string ⟨#[98]⟩, .string ⟨#[99]⟩, .string ⟨#[107]⟩, .string ⟨#[110, 49]⟩] 9)
    have hw3 := below_alloc1 w2 (.cells #[.string ⟨#[97]⟩, .string ⟨#[98]⟩, .string ⟨#[99]⟩, .string ⟨#[107]⟩, .string ⟨#[110, 49]⟩] 9)
    have hz3 := size_alloc1 w2 (.cells #[.string ⟨#[97]⟩, .string ⟨#[98]⟩, .string ⟨#[99]⟩, .string ⟨#[107]⟩, .string ⟨#[110, 49]⟩] 9)
    have HD3 := Lib.hid (HD2.out.below hw3 HD2.out.lt); have HB3 := Lib.hid (HB2.out.later hw3); have HG3 := Lib.hid (grownBy_trans HG2.out (grownBy_of_below (some g) hw3))
    clear hw3
    go_upto_region 3 with fail
    go_wp2_with fail
    generalize w2.alloc (.cells #[.string ⟨#[97]⟩, .string ⟨#[98]⟩, .string ⟨#[99]⟩, .string ⟨#[107]⟩, .string ⟨#[110, 49]⟩] 9) = w3 at hrow hz3 HD3 HB3 HG3 ⊢
    refine (made_next B g 5 _ HD3.out (by omega) (by omega)).mono ?_; rintro e w4 ⟨u, hu0, hu1, rfl, hd4, hg4⟩
    have hgz : g < w2.heap.size := by have := HGL.out; have := HZ2.out; omega
    have hrow4 := (hg4.block w2.heap.size (by omega) (fun e => by have e' : w2.heap.size = g := Option.some.inj e; omega)).trans hrow
    have HD4 := Lib.hid hd4; have HB4 := Lib.hid (HB3.out.grown hg4 (fun e => by have e' := Option.some.inj e; have := HGL.out; omega)); have HG4 := Lib.hid (grownBy_trans HG3.out hg4)
    have c0 : w4.cell? ⟨w2.heap.size, 0, none⟩ = some (.string ⟨#[97]⟩) := cell_of_row _ _ 0 _ _ _ hrow4
    have c1 : w4.cell? ⟨w2.heap.size, 1, none⟩ = some (.string ⟨#[98]⟩) := cell_of_row _ _ 1 _ _ _ hrow4
    have c2 : w4.cell? ⟨w2.heap.size, 2, none⟩ = some (.string ⟨#[99]⟩) := cell_of_row _ _ 2 _ _ _ hrow4
    have c3 : w4.cell? ⟨w2.heap.size, 3, none⟩ = some (.string ⟨#[107]⟩) := cell_of_row _ _ 3 _ _ _ hrow4
    have c4 : w4.cell? ⟨w2.heap.size, 4, none⟩ = some (.string ⟨#[110, 49]⟩) := cell_of_row _ _ 4 _ _ _ hrow4
    obtain ⟨x0, x1, x2⟩ := HB4.out.cells
    obtain ⟨f0, f1, f2⟩ := HB4.out.free
    clear hd4 hg4 hrow4 hrow
    obtain rfl | rfl | rfl | rfl | rfl : u = 0 ∨ u = 1 ∨ u = 2 ∨ u = 3 ∨ u = 4 := by omega
    · go_wp2_with fail
      obtain ⟨d0, d1, d2⟩ := (box_set3 HB4.out (.int .i64 1) (.string ⟨#[97]⟩) (.slice none 0 0)).cells
      refine bodyPost_ret (v := .agg #[.int .i64 1, .string ⟨#[97]⟩, .slice none 0 0]) (by simp [results, Try.results45, go_sem, d0, d1, d2]) rfl ?_
      exact atom_ends HG4.out HGL.out HD4.out 1 ⟨#[97]⟩ (by decide) _ _ _
    · go_wp2_with fail
      obtain ⟨d0, d1, d2⟩ := (box_set3 HB4.out (.int .i64 1) (.string ⟨#[98]⟩) (.slice none 0 0)).cells
      refine bodyPost_ret (v := .agg #[.int .i64 1, .string ⟨#[98]⟩, .slice none 0 0]) (by simp [results, Try.results45, go_sem, d0, d1, d2]) rfl ?_
      exact atom_ends HG4.out HGL.out HD4.out 1 ⟨#[98]⟩ (by decide) _ _ _
    · go_wp2_with fail
      obtain ⟨d0, d1, d2⟩ := (box_set3 HB4.out (.int .i64 1) (.string ⟨#[99]⟩) (.slice none 0 0)).cells
      refine bodyPost_ret (v := .agg #[.int .i64 1, .string ⟨#[99]⟩, .slice none 0 0]) (by simp [results, Try.results45, go_sem, d0, d1, d2]) rfl ?_
      exact atom_ends HG4.out HGL.out HD4.out 1 ⟨#[99]⟩ (by decide) _ _ _
    · go_wp2_with fail
      obtain ⟨d0, d1, d2⟩ := (box_set3 HB4.out (.int .i64 1) (.string ⟨#[107]⟩) (.slice none 0 0)).cells
      refine bodyPost_ret (v := .agg #[.int .i64 1, .string ⟨#[107]⟩, .slice none 0 0]) (by simp [results, Try.results45, go_sem, d0, d1, d2]) rfl ?_
      exact atom_ends HG4.out HGL.out HD4.out 1 ⟨#[107]⟩ (by decide) _ _ _
    · go_wp2_with fail
      obtain ⟨d0, d1, d2⟩ := (box_set3 HB4.out (.int .i64 1) (.string ⟨#[110, 49]⟩) (.slice none 0 0)).cells
      refine bodyPost_ret (v := .agg #[.int .i64 1, .string ⟨#[110, 49]⟩, .slice none 0 0]) (by simp [results, Try.results45, go_sem, d0, d1, d2]) rfl ?_
      exact atom_ends HG4.out HGL.out HD4.out 1 ⟨#[110, 49]⟩ (by decide) _ _ _
end Go.Proofs.Ytlecmcfmaneejaa
