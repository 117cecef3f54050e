/- Several texts in one: TermPTerm, TermAtom, TermMade, WebS. -/
import Derived.Test.YtihbmgkbipeakaaGreatWebG9
import Derived.Test.YtihbmgkbipeakaaGreatWebG8
import Derived.Test.YtihbmgkbipeakaaGreatWebG6
import Derived.Test.YtihbmgkbipeakaaGreatWebG7
import Derived.Test.YtihbmgkbipeakaaGreatWebG2
namespace Go.Proofs.YtihbmgkbipeakaaGreat
open Go.RowKit

theorem below_set3 (W : World) (g : Nat) (x y z : Value) : Below g W (((W.setCell ⟨g, 0, none⟩ x).setCell ⟨g, 1, none⟩ y).setCell ⟨g, 2, none⟩ z) :=
  (((Below.refl g W).setCell (p := ⟨g, 0, none⟩) (Nat.le_refl _) _).setCell (p := ⟨g, 1, none⟩) (Nat.le_refl _) _).setCell (p := ⟨g, 2, none⟩) (Nat.le_refl _) _
/-- A reader beside the zero block of a result. -/
def PSt (ty : TypeId) (w : World) (g : Nat) (s : ByteArray) (W : World) (j : Nat) (b : Bool) : Prop :=
  PBox ty W g s j b ∧ Box W w.heap.size (.int .i64 0) (.string ⟨#[]⟩) (.slice none 0 0) ∧ w.grownBy W (some g) ∧ w.heap.size + 1 ≤ W.heap.size
section
variable {ty : TypeId} {w W W' : World} {g j j' : Nat} {s : ByteArray} {b b' : Bool}
theorem PSt.step (h : PSt ty w g s W j b) (hg : g < w.heap.size) (k : W.grownBy W' (some g)) (hp : PBox ty W' g s j' b') : PSt ty w g s W' j' b' :=
  ⟨hp, h.2.1.grown k (fun e => by injection e; omega), grownBy_trans h.2.2.1 k, Nat.le_trans h.2.2.2 k.size⟩
theorem PSt.later (h : PSt ty w g s W j b) (k : Below W.heap.size W W') : PSt ty w g s W' j b :=
  ⟨h.1.later k, h.2.1.later k, grown_below2 h.2.2.1 k, Nat.le_trans h.2.2.2 k.size⟩
theorem PSt.drewN (h : PSt ty w g s W j b) (n : Nat) : PSt ty w g s (W.drewN n) j b := ⟨h.1.drewN n, h.2.1, grown_drewN h.2.2.1 n, h.2.2.2⟩
theorem PSt.start (h : PBox ty w g s j b) : PSt ty w g s (w.alloc (.cells #[.int .i64 0, .string ⟨#[]⟩, .slice none 0 0] 29)) j b :=
  ⟨h.later (below_alloc1 _ _), Box.new _ _ _ _, grown_below2 (grown_refl _ _) (below_alloc1 _ _), by rw [size_alloc1]; omega⟩
/-- What is known of the value that is to be returned. -/
def TermVal (ty : TypeId) (w : World) (g : Nat) (s : ByteArray) (W : World) (x y z : Value) : Except Nat (T × Nat) → Prop
  | .ok (t, j) => PBox ty W g s j false ∧ ∃ A cap, x = .int .i64 t.kind ∧ y = .string t.name ∧ z = .slice A t.kids.length cap ∧ TermIn (from_ (w.heap.size + 1)) W (.agg #[x, y, z]) t
  | .error j => PBox ty W g s j true ∧ ∃ (k : Int) (nm : ByteArray) (A : Option Addr) (n cap : Nat), x = .int .i64 k ∧ y = .string nm ∧ z = .slice A n cap
theorem PSt.ends {x y z : Value} {r : Except Nat (T × Nat)} (h : PSt ty w g s W j b) (hg : g < w.heap.size) (hv : TermVal ty w g s W x y z r) :
    TermPost ty g s w r (.returned (.agg #[x, y, z])) (((W.setCell ⟨w.heap.size, 0, none⟩ x).setCell ⟨w.heap.size, 1, none⟩ y).setCell ⟨w.heap.size, 2, none⟩ z) := by
  have hp : ∀ {j b}, PBox ty W g s j b → PBox ty (((W.setCell ⟨w.heap.size, 0, none⟩ x).setCell ⟨w.heap.size, 1, none⟩ y).setCell ⟨w.heap.size, 2, none⟩ z) g s j b := fun hp => (set3_other _ _ _ _ _ _ (by omega)).trans hp
  have hb := below_set3 W w.heap.size x y z
  refine ⟨⟨hb.os.trans h.2.2.1.os, hb.tape.trans h.2.2.1.tape, hb.output.trans h.2.2.1.output, Nat.le_trans h.2.2.1.size hb.size, fun k hk hn => (hb.block k hk).trans (h.2.2.1.block k hk hn)⟩, ?_⟩
  rcases r with e | ⟨t, j'⟩
  · obtain ⟨h1, k, nm, A, n, cap, rfl, rfl, rfl⟩ := hv
    exact ⟨hp h1, k, nm, A, n, cap, rfl⟩
  · obtain ⟨h1, A, cap, rfl, rfl, rfl, h2⟩ := hv
    refine ⟨hp h1, A, cap, rfl, h2.keep fun b hb _ => ?_⟩
    have := of_decide_eq_true hb
    exact ⟨decide_eq_true (by omega), set3_other _ _ _ _ _ _ (by omega)⟩
end
theorem atom_in (S : Nat → Bool) (W : World) (k : Int) (nm : ByteArray) (hk : -9223372036854775808 ≤ k ∧ k ≤ 9223372036854775807) (hs : nm.size ≤ maxLen) : TermIn S W (.agg #[.int .i64 k, .string nm, .slice none 0 0]) (.mk k nm []) :=
  TermAt.mk k nm none 0 [] (fun _ => (undef, undef, undef)) hk hs (Nat.le_refl _) (Nat.zero_le _) (.inl rfl) (fun i h => by simp at h)
theorem T.nameStr_le (l : List UInt8) (i : Nat) : (T.nameStr l i (T.nameEnd l i)).size ≤ 16 := by
  have := (T.nameEnd_le l i).2.1
  unfold T.nameStr; rw [strOf_size, List.length_take]; omega
theorem T.fnKind_range (s : ByteArray) : 0 ≤ T.fnKind s ∧ T.fnKind s ≤ 7 := by
  unfold T.fnKind; repeat' split
  all_goals omega
end Go.Proofs.YtihbmgkbipeakaaGreat

namespace Go.Proofs.YtihbmgkbipeakaaGreat
open Go.RowKit

/-- Which names and variables the maker gives: a variable only if some are allowed. -/
def T.made0 (vars k : Int) (s : ByteArray) : Bool :=
  (decide (0 < vars) && decide (k = 2) && (decide (s = ⟨#[120]⟩) || decide (s = ⟨#[121]⟩) || decide (s = ⟨#[122]⟩))) ||
  (decide (k = 1) && (decide (s = ⟨#[97]⟩) || decide (s = ⟨#[98]⟩) || decide (s = ⟨#[99]⟩) || decide (s = ⟨#[107]⟩) || decide (s = ⟨#[110, 49]⟩)))
def AtomPost (vars : Int) (B g : Nat) (w : World) (e : Ending) (w' : World) : Prop := ∃ (k : Int) (s : ByteArray), T.made0 vars k s = true ∧ e = .returned (.agg #[.int .i64 k, .string s, .slice none 0 0]) ∧ DiceAt B g w' ∧ w.grownBy w' (some g)
theorem DiceAt.other {B g h : Nat} {w : World} (hd : DiceAt B g w) (hh : h ≠ g) (hB : B ≤ h) (v0 v1 v2 : Value) :
    DiceAt B g (((w.setCell ⟨h, 0, none⟩ v0).setCell ⟨h, 1, none⟩ v1).setCell ⟨h, 2, none⟩ v2) := by
  obtain ⟨h0, A, n, c, k, h1, h2, h3, h3', h4⟩ := hd
  refine ⟨h0, A, n, c, k, (set3_other _ _ _ _ _ _ (fun e => hh e.symm)).trans h1, h2, h3, h3', ?_⟩
  rcases h4 with h4 | ⟨b, off, hbB, e, hc⟩
  · exact .inl h4
  · refine .inr ⟨b, off, hbB, e, fun j hj => ?_⟩
    obtain ⟨z, g1, g2⟩ := hc j hj
    have hbh : b ≠ h := by omega
    have hs := set3_other w h v0 v1 v2 b hbh
    refine ⟨z, ?_, g2⟩
    rw [← g1]
    exact World.cell?_of_block hs
theorem atom_ends {vars : Int} {B g : Nat} {w W : World} (hg : w.grownBy W (some g)) (hgl : g < w.heap.size) (hd : DiceAt B g W) (k : Int) (s : ByteArray) (hk : T.made0 vars k s = true) (v0 v1 v2 : Value) :
    AtomPost vars B g w (.returned (.agg #[.int .i64 k, .string s, .slice none 0 0])) (((W.setCell ⟨w.heap.size, 0, none⟩ v0).setCell ⟨w.heap.size, 1, none⟩ v1).setCell ⟨w.heap.size, 2, none⟩ v2) := by
  refine ⟨k, s, hk, rfl, hd.other (by omega) (by have := hd.1; omega) _ _ _, ?_⟩
  have h := below_set3 W w.heap.size v0 v1 v2
  exact ⟨h.os.trans hg.os, h.tape.trans hg.tape, h.output.trans hg.output, Nat.le_trans hg.size h.size, fun i hi hn => (h.block i hi).trans (hg.block i hi hn)⟩

set_option maxRecDepth 100000 in
set_option maxHeartbeats 4000000 in
theorem made_atom (B g : Nat) (vars : Int) (w : World) (hd : DiceAt B g w) :
    Calls Tryz.prog 33 #[.pointer (some ⟨g, 0, none⟩), .int .i64 vars] w (AtomPost vars B g w) := by
  have hgl := hd.lt
  have bx := Box.new w (.int .i64 0) (.string ⟨#[]⟩) (.slice none 0 0)
  have hw := below_alloc1 w (.cells #[.int .i64 0, .string ⟨#[]⟩, .slice none 0 0] 29)
  have hz := size_alloc1 w (.cells #[.int .i64 0, .string ⟨#[]⟩, .slice none 0 0] 29)
  have HD := Lib.hid (hd.below hw hgl); have HGL := Lib.hid hgl
  clear hd hgl
  go_enter Tryz.func33, Tryz.ntmps33
  go_upto_region 1 with fail
  generalize w.alloc (.cells #[.int .i64 0, .string ⟨#[]⟩, .slice none 0 0] 29) = w1 at bx hw hz HD ⊢
  have HB := Lib.hid bx; have HW := Lib.hid hw; have HZ := Lib.hid hz
  clear bx hw hz
  go_wp2_with fail
  refine (made_next B g 10 _ HD.out (by omega) (by omega)).mono ?_; rintro e w2 ⟨v, hv0, hv1, rfl, hd2, hg2⟩
  have HB2 := Lib.hid (HB.out.grown hg2 (fun e => by have e' := Option.some.inj e; have := HGL.out; omega))
  have HG2 := Lib.hid (grownBy_trans (grownBy_of_below (some g) HW.out) hg2); have HD2 := Lib.hid hd2
  have HZ2 := Lib.hid (show w.heap.size + 1 ≤ w2.heap.size by have := hg2.size; have := HZ.out; omega)
  clear hd2 hg2 hv1
  by_cases hv : v < vars
  · have hv0 : (0 : Int) < vars := by omega
    have hrow := heap_alloc_new w2 (.cells #[.string ⟨#[120]⟩, .string ⟨#[121]⟩, .string ⟨#[122]⟩] 9)
    have hw3 := below_alloc1 w2 (.cells #[.string ⟨#[120]⟩, .string ⟨#[121]⟩, .string ⟨#[122]⟩] 9)
    have hz3 := size_alloc1 w2 (.cells #[.string ⟨#[120]⟩, .string ⟨#[121]⟩, .string ⟨#[122]⟩] 9)
    have HD3 := Lib.hid (HD2.out.below hw3 HD2.out.lt); have HB3 := Lib.hid (HB2.out.later hw3); have HG3 := Lib.hid (grownBy_trans HG2.out (grownBy_of_below (some g) hw3))
    clear hw3
    go_upto_region 2 with fail
    go_wp2_with fail
    generalize w2.alloc (.cells #[.string ⟨#[120]⟩, .string ⟨#[121]⟩, .string ⟨#[122]⟩] 9) = w3 at hrow hz3 HD3 HB3 HG3 ⊢
    refine (made_next B g 3 _ HD3.out (by omega) (by omega)).mono ?_; rintro e w4 ⟨u, hu0, hu1, rfl, hd4, hg4⟩
    have hgz : g < w2.heap.size := by have := HGL.out; have := HZ2.out; omega
    have hrow4 := (hg4.block w2.heap.size (by omega) (fun e => by have e' : w2.heap.size = g := Option.some.inj e; omega)).trans hrow
    have HD4 := Lib.hid hd4; have HB4 := Lib.hid (HB3.out.grown hg4 (fun e => by have e' := Option.some.inj e; have := HGL.out; omega)); have HG4 := Lib.hid (grownBy_trans HG3.out hg4)
    have c0 : w4.cell? ⟨w2.heap.size, 0, none⟩ = some (.string ⟨#[120]⟩) := cell_of_row _ _ 0 _ _ _ hrow4
    have c1 : w4.cell? ⟨w2.heap.size, 1, none⟩ = some (.string ⟨#[121]⟩) := cell_of_row _ _ 1 _ _ _ hrow4
    have c2 : w4.cell? ⟨w2.heap.size, 2, none⟩ = some (.string ⟨#[122]⟩) := cell_of_row _ _ 2 _ _ _ hrow4
    obtain ⟨x0, x1, x2⟩ := HB4.out.cells
    obtain ⟨f0, f1, f2⟩ := HB4.out.free
    clear hd4 hg4 hrow4 hrow
    obtain rfl | rfl | rfl : u = 0 ∨ u = 1 ∨ u = 2 := by omega
    · go_wp2_with fail
      obtain ⟨d0, d1, d2⟩ := (box_set3 HB4.out (.int .i64 2) (.string ⟨#[120]⟩) (.slice none 0 0)).cells
      refine bodyPost_ret (v := .agg #[.int .i64 2, .string ⟨#[120]⟩, .slice none 0 0]) (by simp [results, Tryz.results33, go_sem, d0, d1, d2]) rfl ?_
      exact atom_ends HG4.out HGL.out HD4.out 2 ⟨#[120]⟩ (by rw [T.made0, decide_eq_true hv0]; decide) _ _ _
    · go_wp2_with fail
      obtain ⟨d0, d1, d2⟩ := (box_set3 HB4.out (.int .i64 2) (.string ⟨#[121]⟩) (.slice none 0 0)).cells
      refine bodyPost_ret (v := .agg #[.int .i64 2, .string ⟨#[121]⟩, .slice none 0 0]) (by simp [results, Tryz.results33, go_sem, d0, d1, d2]) rfl ?_
      exact atom_ends HG4.out HGL.out HD4.out 2 ⟨#[121]⟩ (by rw [T.made0, decide_eq_true hv0]; decide) _ _ _
    · go_wp2_with fail
      obtain ⟨d0, d1, d2⟩ := (box_set3 HB4.out (.int .i64 2) (.string ⟨#[122]⟩) (.slice none 0 0)).cells
      refine bodyPost_ret (v := .agg #[.int .i64 2, .string ⟨#[122]⟩, .slice none 0 0]) (by simp [results, Tryz.results33, go_sem, d0, d1, d2]) rfl ?_
      exact atom_ends HG4.out HGL.out HD4.out 2 ⟨#[122]⟩ (by rw [T.made0, decide_eq_true hv0]; decide) _ _ _
  · have hv' : vars ≤ v := by omega
    have hrow := heap_alloc_new w2 (.cells #[.string ⟨#[97]⟩, .string ⟨#[98]⟩, .string ⟨#[99]⟩, .string ⟨#[107]⟩, .string ⟨#[110, 49]⟩] 9)
    have hw3 := below_alloc1 w2 (.cells #[.string ⟨#[97]⟩, .string ⟨#[98]⟩, .string ⟨#[99]⟩, .string ⟨#[107]⟩, .string ⟨#[110, 49]⟩] 9)
    have hz3 := size_alloc1 w2 (.cells #[.string ⟨#[97]⟩, .string ⟨#[98]⟩, .string ⟨#[99]⟩, .string ⟨#[107]⟩, .string ⟨#[110, 49]⟩] 9)
    have HD3 := Lib.hid (HD2.out.below hw3 HD2.out.lt); have HB3 := Lib.hid (HB2.out.later hw3); have HG3 := Lib.hid (grownBy_trans HG2.out (grownBy_of_below (some g) hw3))
    clear hw3
    go_upto_region 3 with fail
    go_wp2_with fail
    generalize w2.alloc (.cells #[.string ⟨#[97]⟩, .string ⟨#[98]⟩, .string ⟨#[99]⟩, .string ⟨#[107]⟩, .string ⟨#[110, 49]⟩] 9) = w3 at hrow hz3 HD3 HB3 HG3 ⊢
    refine (made_next B g 5 _ HD3.out (by omega) (by omega)).mono ?_; rintro e w4 ⟨u, hu0, hu1, rfl, hd4, hg4⟩
    have hgz : g < w2.heap.size := by have := HGL.out; have := HZ2.out; omega
    have hrow4 := (hg4.block w2.heap.size (by omega) (fun e => by have e' : w2.heap.size = g := Option.some.inj e; omega)).trans hrow
    have HD4 := Lib.hid hd4; have HB4 := Lib.hid (HB3.out.grown hg4 (fun e => by have e' := Option.some.inj e; have := HGL.out; omega)); have HG4 := Lib.hid (grownBy_trans HG3.out hg4)
    have c0 : w4.cell? ⟨w2.heap.size, 0, none⟩ = some (.string ⟨#[97]⟩) := cell_of_row _ _ 0 _ _ _ hrow4
    have c1 : w4.cell? ⟨w2.heap.size, 1, none⟩ = some (.string ⟨#[98]⟩) := cell_of_row _ _ 1 _ _ _ hrow4
    have c2 : w4.cell? ⟨w2.heap.size, 2, none⟩ = some (.string ⟨#[99]⟩) := cell_of_row _ _ 2 _ _ _ hrow4
    have c3 : w4.cell? ⟨w2.heap.size, 3, none⟩ = some (.string ⟨#[107]⟩) := cell_of_row _ _ 3 _ _ _ hrow4
    have c4 : w4.cell? ⟨w2.heap.size, 4, none⟩ = some (.string ⟨#[110, 49]⟩) := cell_of_row _ _ 4 _ _ _ hrow4
    obtain ⟨x0, x1, x2⟩ := HB4.out.cells
    obtain ⟨f0, f1, f2⟩ := HB4.out.free
    clear hd4 hg4 hrow4 hrow
    obtain rfl | rfl | rfl | rfl | rfl : u = 0 ∨ u = 1 ∨ u = 2 ∨ u = 3 ∨ u = 4 := by omega
    · go_wp2_with fail
      obtain ⟨d0, d1, d2⟩ := (box_set3 HB4.out (.int .i64 1) (.string ⟨#[97]⟩) (.slice none 0 0)).cells
      refine bodyPost_ret (v := .agg #[.int .i64 1, .string ⟨#[97]⟩, .slice none 0 0]) (by simp [results, Tryz.results33, go_sem, d0, d1, d2]) rfl ?_
      exact atom_ends HG4.out HGL.out HD4.out 1 ⟨#[97]⟩ (by rw [T.made0]; simp) _ _ _
    · go_wp2_with fail
      obtain ⟨d0, d1, d2⟩ := (box_set3 HB4.out (.int .i64 1) (.string ⟨#[98]⟩) (.slice none 0 0)).cells
      refine bodyPost_ret (v := .agg #[.int .i64 1, .string ⟨#[98]⟩, .slice none 0 0]) (by simp [results, Tryz.results33, go_sem, d0, d1, d2]) rfl ?_
      exact atom_ends HG4.out HGL.out HD4.out 1 ⟨#[98]⟩ (by rw [T.made0]; simp) _ _ _
    · go_wp2_with fail
      obtain ⟨d0, d1, d2⟩ := (box_set3 HB4.out (.int .i64 1) (.string ⟨#[99]⟩) (.slice none 0 0)).cells
      refine bodyPost_ret (v := .agg #[.int .i64 1, .string ⟨#[99]⟩, .slice none 0 0]) (by simp [results, Tryz.results33, go_sem, d0, d1, d2]) rfl ?_
      exact atom_ends HG4.out HGL.out HD4.out 1 ⟨#[99]⟩ (by rw [T.made0]; simp) _ _ _
    · go_wp2_with fail
      obtain ⟨d0, d1, d2⟩ := (box_set3 HB4.out (.int .i64 1) (.string ⟨#[107]⟩) (.slice none 0 0)).cells
      refine bodyPost_ret (v := .agg #[.int .i64 1, .string ⟨#[107]⟩, .slice none 0 0]) (by simp [results, Tryz.results33, go_sem, d0, d1, d2]) rfl ?_
      exact atom_ends HG4.out HGL.out HD4.out 1 ⟨#[107]⟩ (by rw [T.made0]; simp) _ _ _
    · go_wp2_with fail
      obtain ⟨d0, d1, d2⟩ := (box_set3 HB4.out (.int .i64 1) (.string ⟨#[110, 49]⟩) (.slice none 0 0)).cells
      refine bodyPost_ret (v := .agg #[.int .i64 1, .string ⟨#[110, 49]⟩, .slice none 0 0]) (by simp [results, Tryz.results33, go_sem, d0, d1, d2]) rfl ?_
      exact atom_ends HG4.out HGL.out HD4.out 1 ⟨#[110, 49]⟩ (by rw [T.made0]; simp) _ _ _
end Go.Proofs.YtihbmgkbipeakaaGreat

namespace Go.Proofs.YtihbmgkbipeakaaGreat

namespace T
mutual
/-- All names are of at most two bytes. -/
def lw : T → Bool
  | .mk _ s ks => decide (s.size ≤ 2) && lowAll ks
def lowAll : List T → Bool
  | [] => true
  | t :: r => lw t && lowAll r
end
theorem lowAll_iff : ∀ l : List T, lowAll l = true ↔ ∀ t ∈ l, t.lw = true
  | [] => by simp [lowAll]
  | t :: r => by simp only [lowAll, Bool.and_eq_true, lowAll_iff r, List.mem_cons, forall_eq_or_imp]
mutual
theorem low_norm : ∀ t : T, t.lw = true → t.norm.lw = true
  | .mk k s ks => fun h => by
    simp only [lw, Bool.and_eq_true] at h
    simp only [norm, lw, Bool.and_eq_true]
    have hk' := low_normAll ks h.2
    refine ⟨h.1, ?_⟩
    by_cases h7 : k = 7
    · rw [if_pos h7]
      rw [lowAll_iff] at hk' ⊢
      exact fun t ht => hk' t ((isort_perm _).mem_iff.1 ht)
    · rw [if_neg h7]; exact hk'
theorem low_normAll : ∀ l : List T, lowAll l = true → lowAll (normAll l) = true
  | [] => fun _ => rfl
  | t :: r => fun h => by
    simp only [lowAll, normAll, Bool.and_eq_true] at h ⊢
    exact ⟨low_norm t h.1, low_normAll r h.2⟩
end
mutual
theorem hasVar_norm : ∀ t : T, t.norm.hasVar = t.hasVar
  | .mk k s ks => by
    have h := hasVar_normAll ks
    simp only [norm, hasVar]
    congr 1
    by_cases h7 : k = 7
    · rw [if_pos h7, ← h, hasVarAll_any, hasVarAll_any]
      exact (isort_perm _).any_eq
    · rw [if_neg h7]; exact h
theorem hasVar_normAll : ∀ l : List T, hasVarAll (normAll l) = hasVarAll l
  | [] => rfl
  | t :: r => by simp only [normAll, hasVarAll, hasVar_norm t, hasVar_normAll r]
end
/-- What is known of a term that the maker gives at depth D. -/
def Made (vars : Int) (D : Nat) (t : T) : Prop := t.shape = true ∧ t.size + 1 ≤ 5 * 2 ^ (D - 1) ∧ t.bulk ≤ 6 * t.size ∧ t.lw = true ∧ (t.hasVar = true → 0 < vars)
variable {vars : Int}
theorem made0_var {k : Int} {s : ByteArray} (h : made0 vars k s = true) : k = 2 → 0 < vars := by
  unfold made0 at h
  simp only [Bool.or_eq_true, Bool.and_eq_true, decide_eq_true_eq] at h
  rcases h with h | h
  · exact fun _ => h.1.1
  · omega
theorem made0_facts {k : Int} {s : ByteArray} (h : made0 vars k s = true) : (k = 1 ∨ k = 2) ∧ isName s = true ∧ s.size ≤ 2 := by
  unfold made0 at h
  simp only [Bool.or_eq_true, Bool.and_eq_true, decide_eq_true_eq] at h
  rcases h with ⟨⟨-, rfl⟩, (rfl | rfl) | rfl⟩ | ⟨rfl, (((rfl | rfl) | rfl) | rfl) | rfl⟩
  all_goals exact ⟨by decide, by kernel_rfl, by decide⟩
theorem pow_pos_ (n : Nat) : 1 ≤ 2 ^ n := Nat.one_le_two_pow
theorem made_of_atom {k : Int} {s : ByteArray} (h : made0 vars k s = true) (D : Nat) : Made vars D (.mk k s []) := by
  obtain ⟨h1, h2, h3⟩ := made0_facts h
  have := pow_pos_ (D - 1)
  have hv := made0_var h
  refine ⟨?_, ?_, ?_, ?_, fun e => hv (by simpa [hasVar, hasVarAll] using e)⟩
  · simp only [shape]; rw [if_pos h1, h2]; rfl
  · simp only [size, sizeAll]; omega
  · simp only [T.bulk, bulkAll, size, sizeAll]; omega
  · simp [lw, lowAll, h3]
/-- It is normal, too. -/
def MadeN (vars : Int) (D : Nat) (t : T) : Prop := Made vars D t ∧ t.norm = t
theorem maden_of_atom {k : Int} {s : ByteArray} (h : made0 vars k s = true) (D : Nat) : MadeN vars D (.mk k s []) :=
  ⟨made_of_atom h D, by have := (made0_facts h).1; simp only [norm, normAll]; rw [if_neg (by omega)]⟩
theorem Made.norm {D : Nat} {t : T} (h : Made vars D t) : MadeN vars D t.norm :=
  ⟨⟨shape_norm t h.1, by rw [size_norm]; exact h.2.1, by rw [bulk_norm, size_norm]; exact h.2.2.1, low_norm t h.2.2.2.1, by rw [hasVar_norm]; exact h.2.2.2.2⟩, norm_norm t⟩
theorem Made.valid {D : Nat} {t : T} (h : Made vars D t) (hD : D ≤ 4) : t.valid = true := by
  have h2 : 2 ^ (D - 1) ≤ 2 ^ 3 := Nat.pow_le_pow_right (by decide) (by omega)
  have h1 := h.2.1
  unfold T.valid
  rw [Bool.and_eq_true]
  exact ⟨decide_eq_true (by omega), h.1⟩
theorem Made.bulk {D : Nat} {t : T} (h : Made vars D t) (hD : D ≤ 4) : t.bulk ≤ 240 := by
  have h2 : 2 ^ (D - 1) ≤ 2 ^ 3 := Nat.pow_le_pow_right (by decide) (by omega)
  have h1 := h.2.1
  have h3 := h.2.2.1
  omega
theorem Made.text {D : Nat} {t : T} (h : Made vars D t) (hD : D ≤ 4) : t.text.length ≤ 1024 := by
  have h1 := h.bulk hD
  have h2 := text_len t
  omega
theorem pow_next {D : Nat} (h : 1 ≤ D) : 2 ^ D = 2 * 2 ^ (D - 1) := by
  obtain ⟨n, rfl⟩ : ∃ n, D = n + 1 := ⟨D - 1, by omega⟩
  simp [Nat.pow_succ, Nat.mul_comm]
theorem emp_size : (⟨#[]⟩ : ByteArray).size = 0 := rfl
/-- Two kids under a pair or a seal. -/
theorem made_two {D : Nat} (hD : 1 ≤ D) (k : Int) (hk : k = 3 ∨ k = 5) {a b : T} (ha : Made vars D a) (hb : Made vars D b) : Made vars (D + 1) (.mk k ⟨#[]⟩ [a, b]) := by
  obtain ⟨a1, a2, a3, a4, a5⟩ := ha
  obtain ⟨b1, b2, b3, b4, b5⟩ := hb
  have h := pow_next hD
  refine ⟨?_, ?_, ?_, ?_, fun e => ?_⟩
  · simp only [shape]
    rw [if_neg (by omega)]
    simp only [shapeAll, a1, b1]
    rcases hk with rfl | rfl <;> kernel_rfl
  · simp only [size, sizeAll]; rw [Nat.add_sub_cancel, h]; omega
  · simp only [T.bulk, bulkAll, size, sizeAll, emp_size]; omega
  · simp [lw, lowAll, a4, b4, emp_size]
  · simp only [hasVar, hasVarAll, Bool.or_eq_true, Bool.or_false, beq_iff_eq] at e
    rcases e with e | e | e
    · omega
    · exact a5 e
    · exact b5 e
theorem made_hash {D : Nat} (hD : 1 ≤ D) {a : T} (ha : Made vars D a) : Made vars (D + 1) (.mk 4 ⟨#[]⟩ [a]) := by
  obtain ⟨a1, a2, a3, a4, a5⟩ := ha
  have h := pow_next hD
  refine ⟨?_, ?_, ?_, ?_, fun e => ?_⟩
  · simp only [shape]
    rw [if_neg (by omega)]
    simp only [shapeAll, a1]
    kernel_rfl
  · simp only [size, sizeAll]; rw [Nat.add_sub_cancel, h]; omega
  · simp only [T.bulk, bulkAll, size, sizeAll, emp_size]; omega
  · simp [lw, lowAll, a4, emp_size]
  · simp only [hasVar, hasVarAll, Bool.or_eq_true, Bool.or_false, beq_iff_eq] at e
    rcases e with e | e
    · omega
    · exact a5 e
theorem made_sign {D : Nat} (hD : 1 ≤ D) {k : Int} {s : ByteArray} (hk : made0 vars k s = true) {b : T} (hb : Made vars D b) : Made vars (D + 1) (.mk 6 ⟨#[]⟩ [.mk k s [], b]) := by
  obtain ⟨a1, a2, a3, a4, a5⟩ := made_of_atom hk 1
  obtain ⟨b1, b2, b3, b4, b5⟩ := hb
  have h := pow_next hD
  have hp := pow_pos_ (D - 1)
  have hat : atom (.mk k s []) = true := by
    rcases (made0_facts hk).1 with rfl | rfl <;> rfl
  refine ⟨?_, ?_, ?_, ?_, fun e => ?_⟩
  · simp only [shape]
    rw [if_neg (by omega)]
    simp only [shapeAll, shape, b1, headOk]
    simp [hat, ByteArray.toList_eq]
    exact ⟨(made0_facts hk).1, (made0_facts hk).2.1⟩
  · simp only [size, sizeAll] at a2 ⊢; rw [Nat.add_sub_cancel, h]; omega
  · simp only [T.bulk, bulkAll, size, sizeAll, emp_size] at a3 ⊢; omega
  · simp only [lw, lowAll, Bool.and_eq_true] at a4 ⊢
    exact ⟨by simp [emp_size], a4, b4, trivial⟩
  · have e2 : (T.mk k s []).hasVar = true ∨ b.hasVar = true := by
      simp only [hasVar, hasVarAll, Bool.or_eq_true, Bool.or_false, beq_iff_eq] at e ⊢
      rcases e with e | e | e
      · omega
      · exact .inl e
      · exact .inr e
    exact e2.elim a5 b5
/-- A list of names and variables. -/
def Atoms (vars : Int) (l : List T) : Prop := ∀ t ∈ l, ∃ k s, made0 vars k s = true ∧ t = .mk k s []
theorem Atoms.lw {l : List T} (h : Atoms vars l) : lowAll l = true := by
  rw [lowAll_iff]
  intro t ht
  obtain ⟨k, s, hk, rfl⟩ := h t ht
  exact (made_of_atom hk 1).2.2.2.1
theorem Atoms.sums {l : List T} (h : Atoms vars l) : sizeAll l = l.length ∧ bulkAll l ≤ 6 * l.length ∧ shapeAll l = true ∧ l.any (fun t => !t.atom) = false := by
  induction l with
  | nil => exact ⟨rfl, by simp [bulkAll], rfl, rfl⟩
  | cons t r ih =>
    obtain ⟨h1, h2, h3, h4⟩ := ih fun x hx => h x (List.mem_cons_of_mem _ hx)
    obtain ⟨k, s, hk, rfl⟩ := h t List.mem_cons_self
    obtain ⟨a1, a2, a3, -, -⟩ := made_of_atom hk 1
    have hat : atom (.mk k s []) = true := by
      rcases (made0_facts hk).1 with rfl | rfl <;> rfl
    have hz : (T.mk k s []).size = 1 := rfl
    refine ⟨?_, ?_, ?_, ?_⟩
    · simp only [sizeAll, h1, hz, List.length_cons]; omega
    · rw [hz] at a3; simp only [bulkAll, List.length_cons]; omega
    · simp only [shapeAll, a1, h3]; rfl
    · rw [List.any_cons, hat, h4]; rfl
theorem made_power {D : Nat} (hD : 1 ≤ D) {l : List T} (h : Atoms vars l) (h1 : 1 ≤ l.length) (h3 : l.length ≤ 3) : Made vars (D + 1) (.mk 7 ⟨#[]⟩ l) := by
  obtain ⟨a1, a2, a3, a4⟩ := h.sums
  have hn := pow_next hD
  have hp := pow_pos_ (D - 1)
  refine ⟨?_, ?_, ?_, ?_, fun e => ?_⟩
  · simp only [shape]
    rw [if_neg (by omega)]
    simp only [a3, headOk, a4]
    simp [ByteArray.toList_eq]
    omega
  · simp only [size, a1]; rw [Nat.add_sub_cancel, hn]; omega
  · simp only [T.bulk, size, a1, emp_size]; omega
  · simp only [lw, h.lw, Bool.and_true]; exact decide_eq_true (by simp [emp_size])
  · simp only [hasVar, hasVarAll_any, Bool.or_eq_true, List.any_eq_true, beq_iff_eq] at e
    rcases e with e | ⟨x, hx, e⟩
    · omega
    · obtain ⟨k, s, hk, rfl⟩ := h x hx
      exact (made_of_atom hk 1).2.2.2.2 e
end T
end Go.Proofs.YtihbmgkbipeakaaGreat

namespace Go.Proofs.YtihbmgkbipeakaaGreat

namespace T
mutual
/-- A name does not lie where it can be taken from. -/
def safe (z : ByteArray) : T → Bool
  | .mk k s ks => if k = 1 then decide (s ≠ z) else if k = 3 then safeAll z ks else if k = 5 ∨ k = 6 then safeSnd z ks else true
def safeAll (z : ByteArray) : List T → Bool
  | [] => true
  | t :: r => safe z t && safeAll z r
def safeSnd (z : ByteArray) : List T → Bool
  | [] => true
  | _ :: r => safeAll z r
end
theorem safeAll_iff (z : ByteArray) : ∀ l : List T, safeAll z l = true ↔ ∀ t ∈ l, t.safe z = true
  | [] => by simp [safeAll]
  | t :: r => by simp only [safeAll, Bool.and_eq_true, safeAll_iff z r, List.mem_cons, forall_eq_or_imp]
theorem safeSnd_tail (z : ByteArray) : ∀ l : List T, safeSnd z l = safeAll z l.tail
  | [] => rfl
  | _ :: _ => rfl
theorem safe_pair {z : ByteArray} {t : T} (h : t.kind = 3) : t.safe z = safeAll z t.kids := by
  obtain ⟨k, s, ks⟩ := t
  simp only [kind] at h; subst h
  simp [safe, kids]
theorem safe_snd {z : ByteArray} {t : T} (h : t.kind = 5 ∨ t.kind = 6) : t.safe z = safeAll z t.kids.tail := by
  obtain ⟨k, s, ks⟩ := t
  simp only [kind] at h
  rcases h with rfl | rfl <;> simp [safe, kids, safeSnd_tail]
theorem safe_else {z : ByteArray} {t : T} (h1 : t.kind ≠ 1) (h3 : t.kind ≠ 3) (h5 : t.kind ≠ 5) (h6 : t.kind ≠ 6) : t.safe z = true := by
  obtain ⟨k, s, ks⟩ := t
  simp only [kind] at h1 h3 h5 h6
  simp [safe, h1, h3, h5, h6]
theorem two_kids {t : T} (h : t.kids.length = 2) : t.kids = [t.kid 0, t.kid 1] := by
  obtain ⟨k, s, ks⟩ := t
  simp only [kids] at h
  match ks, h with
  | [a, b], _ => rfl
theorem kid_safe {z : ByteArray} {t : T} (hk : t.kids.length = 2) (h3 : t.kind = 3) : t.safe z = true ↔ (t.kid 0).safe z = true ∧ (t.kid 1).safe z = true := by
  rw [safe_pair h3, safeAll_iff, two_kids hk]
  simp
theorem kid_safe1 {z : ByteArray} {t : T} (hk : t.kids.length = 2) (h : t.kind = 5 ∨ t.kind = 6) : t.safe z = true ↔ (t.kid 1).safe z = true := by
  rw [safe_snd h, safeAll_iff, two_kids hk]
  simp
mutual
theorem low_safe {z : ByteArray} (hz : 2 < z.size) : ∀ t : T, t.lw = true → t.safe z = true
  | .mk k s ks => fun h => by
    simp only [lw, Bool.and_eq_true, decide_eq_true_eq] at h
    have hk := lowAll_safe hz ks h.2
    simp only [safe]
    split
    · exact decide_eq_true (fun e => by rw [e] at h; omega)
    · split
      · exact hk
      · split
        · rw [safeSnd_tail]
          cases ks with
          | nil => rfl
          | cons a r =>
            simp only [safeAll, Bool.and_eq_true] at hk
            exact hk.2
        · rfl
theorem lowAll_safe {z : ByteArray} (hz : 2 < z.size) : ∀ l : List T, lowAll l = true → safeAll z l = true
  | [] => fun _ => rfl
  | t :: r => fun h => by
    simp only [lowAll, Bool.and_eq_true] at h
    simp only [safeAll, Bool.and_eq_true]
    exact ⟨low_safe hz t h.1, lowAll_safe hz r h.2⟩
end
end T
namespace Wb
def SafeW (z : ByteArray) (W : List Stp) : Prop := ∀ s ∈ W, s.t.safe z = true
theorem find_eq {U : List T} (hU : Uni U) {W : List Stp} (hW : Inv U W) {t : T} (ht : t ∈ U) {i : Nat} (h : find W t = some i) : ∃ hi : i < W.length, W[i].t = t := by
  obtain ⟨hi, hk⟩ := findK_get (W := W) (k := t.key) h
  exact ⟨hi, T.key_inj (hU.ok _ (hW.mem _ (List.getElem_mem hi))) (hU.ok t ht) hk⟩
theorem find_safe {U : List T} (hU : Uni U) {W : List Stp} (hW : Inv U W) {z : ByteArray} (hs : SafeW z W) {t : T} (ht : t ∈ U) {i : Nat} (h : find W t = some i) : t.safe z = true := by
  obtain ⟨hi, e⟩ := find_eq hU hW ht h
  rw [← e]; exact hs _ (List.getElem_mem hi)
theorem SafeW.add {z : ByteArray} {W : List Stp} (h : SafeW z W) {t : T} (ht : t.safe z = true) (how : Nat) (frm : List Nat) : SafeW z (add W t how frm).1 := by
  cases hf : find W t with
  | some i => rw [add_some hf]; exact h
  | none =>
    rw [add_none hf]
    intro s hs
    rcases List.mem_append.1 hs with hs | hs
    · exact h s hs
    · rw [List.mem_singleton] at hs; rw [hs]; exact ht
theorem SafeW.mark {z : ByteArray} {W : List Stp} (h : SafeW z W) (i : Nat) : SafeW z (mark W i) := fun x hx => by
  obtain ⟨j, hj, rfl⟩ := List.getElem_of_mem hx
  have h3 : j < W.length := by rwa [mark_len] at hj
  rw [(mark_t W i j hj h3).1]
  exact h _ (List.getElem_mem h3)
theorem SafeW.take {z : ByteArray} {W : List Stp} (h : SafeW z W) {t : T} (ht : t.safe z = true) (how : Nat) (frm : List Nat) : SafeW z (take W t how frm).1 := by
  unfold Wb.take
  split
  · exact h.add ht how frm
  · exact (h.add ht how frm).mark _
/-- What is put together is safe, too. -/
def PutsS (z : ByteArray) (U : List T) (rec : List Stp → T → List Stp × Option Nat) (t : T) : Prop := ∀ W, Inv U W → SafeW z W → SafeW z (rec W t).1 ∧ ∀ i, (rec W t).2 = some i → t.safe z = true
theorem both_safe {U : List T} {z : ByteArray} {rec : List Stp → T → List Stp × Option Nat} {t : T} (how : Nat) (h0 : Puts U rec (t.kid 0)) (s0 : PutsS z U rec (t.kid 0)) (s1 : PutsS z U rec (t.kid 1))
    (hs : (t.kid 0).safe z = true → (t.kid 1).safe z = true → t.safe z = true) : PutsS z U (fun W t => both rec W t how) t := fun W hW hS => by
  obtain ⟨a1, _, _⟩ := h0 W hW
  obtain ⟨b1, b2⟩ := s0 W hW hS
  obtain ⟨c1, c2⟩ := s1 _ a1 b1
  simp only [both]
  split
  · exact ⟨b1, fun i h => by cases h⟩
  · rename_i a ha
    split
    · exact ⟨c1, fun i h => by cases h⟩
    · rename_i b hb
      have ht := hs (b2 a ha) (c2 b hb)
      exact ⟨c1.add ht _ _, fun _ _ => ht⟩
theorem pow_safe {U : List T} {z : ByteArray} {rec : List Stp → T → List Stp × Option Nat} {t : T} (ht : t.safe z = true) (hl : ∀ i, i < t.kids.length → 1 < t.kids.length → Puts U rec (t.lessOf i) ∧ PutsS z U rec (t.lessOf i)) :
    ∀ (f i : Nat), f + i = t.kids.length → PutsS z U (fun W _ => pow rec t f i W) t
  | 0, i, _, W, _, hS => ⟨hS, fun _ _ => ht⟩
  | f + 1, i, hfi, W, hW, hS => by
    have ih := pow_safe ht hl f (i + 1) (by omega)
    simp only [pow]
    split
    · exact ih W hW hS
    · split
      · exact ⟨hS.add ht _ _, fun _ _ => ht⟩
      · obtain ⟨p1, p2⟩ := hl i (by omega) (by omega)
        obtain ⟨a1, _, _⟩ := p1 W hW
        obtain ⟨b1, _⟩ := p2 W hW hS
        split
        · exact ih _ a1 b1
        · exact ⟨b1.add ht _ _, fun _ _ => ht⟩
theorem build_safe {U : List T} (hU : Uni U) (z : ByteArray) : ∀ (n : Nat) (t : T), t ∈ U → PutsS z U (build n) t
  | 0, t, _, W, _, hS => ⟨hS, fun i h => by cases h⟩
  | n + 1, t, ht, W, hW, hS => by
    have hs := T.shapeK (Bool.and_eq_true_iff.1 (hU.ok t ht)).2
    have ihk : ∀ i, i < t.kids.length → PutsS z U (build n) (t.kid i) := fun i hi => build_safe hU z n _ (hU.kid t ht i hi)
    have ihp : ∀ i, i < t.kids.length → Puts U (build n) (t.kid i) := fun i hi => build_puts hU n _ (hU.kid t ht i hi)
    simp only [build]
    split
    · rename_i i hi
      exact ⟨hS, fun _ _ => find_safe hU hW hS ht hi⟩
    · split
      · rename_i h4
        obtain ⟨a1, _⟩ := ihk 0 (by omega) W hW hS
        have htt : t.safe z = true := T.safe_else (by omega) (by omega) (by omega) (by omega)
        split
        · exact ⟨a1, fun i h => by cases h⟩
        · exact ⟨a1.add htt _ _, fun _ _ => htt⟩
      · split
        · rename_i h3
          exact both_safe 6 (ihp 0 (by omega)) (ihk 0 (by omega)) (ihk 1 (by omega)) (fun h0 h1 => (T.kid_safe (by omega) h3).2 ⟨h0, h1⟩) W hW hS
        · split
          · rename_i h5
            exact both_safe 8 (ihp 0 (by omega)) (ihk 0 (by omega)) (ihk 1 (by omega)) (fun _ h1 => (T.kid_safe1 (by omega) (.inl h5)).2 h1) W hW hS
          · split
            · rename_i h6
              exact both_safe 9 (ihp 0 (by omega)) (ihk 0 (by omega)) (ihk 1 (by omega)) (fun _ h1 => (T.kid_safe1 (by omega) (.inr h6)).2 h1) W hW hS
            · split
              · rename_i h7
                exact pow_safe (T.safe_else (by omega) (by omega) (by omega) (by omega)) (fun i hi h1 => ⟨build_puts hU n _ (hU.less t ht h7 h1 i hi), build_safe hU z n _ (hU.less t ht h7 h1 i hi)⟩) t.kids.length 0 rfl W hW hS
              · exact ⟨hS, fun i h => by cases h⟩
theorem term_at {W : List Stp} {i : Nat} (h : i < W.length) : termAt W i = W[i].t := by unfold termAt; rw [List.getElem?_eq_getElem h]; rfl
theorem bld_inv {U : List T} (hU : Uni U) {t : T} (ht : t ∈ U) {W : List Stp} (hW : Inv U W) : Inv U (bld W t).1 ∧ W <+: (bld W t).1 ∧ ∀ i, (bld W t).2 = some i → i < (bld W t).1.length := build_puts hU _ t ht W hW
theorem apart_inv {U : List T} (hU : Uni U) {W : List Stp} (hW : Inv U W) {i : Nat} (hi : i < W.length) : Inv U (apart W i).1 ∧ W.length ≤ (apart W i).1.length := by
  have hm : W[i].t ∈ U := hW.mem _ (List.getElem_mem hi)
  have hs := T.shapeK (Bool.and_eq_true_iff.1 (hU.ok _ hm)).2
  unfold apart
  rw [term_at hi]
  generalize W[i].t = t at hm hs ⊢
  dsimp only
  split
  · have k0 := hU.kid t hm 0 (by omega)
    have k1 := hU.kid t hm 1 (by omega)
    exact ⟨take_inv _ _ (take_inv _ _ hW k0) k1, Nat.le_trans (take_len _ _ _ _) (take_len _ _ _ _)⟩
  · split
    · exact ⟨take_inv _ _ hW (hU.kid t hm 1 (by omega)), take_len _ _ _ _⟩
    · split
      · split
        · exact ⟨hW, Nat.le_refl _⟩
        · obtain ⟨b1, b2, _⟩ := bld_inv hU (hU.kid t hm 0 (by omega)) hW
          split
          · exact ⟨b1, b2.length_le⟩
          · exact ⟨take_inv _ _ b1 (hU.kid t hm 1 (by omega)), Nat.le_trans b2.length_le (take_len _ _ _ _)⟩
      · exact ⟨hW, Nat.le_refl _⟩
theorem apart_safe {U : List T} (hU : Uni U) (z : ByteArray) {W : List Stp} (hW : Inv U W) (hS : SafeW z W) {i : Nat} (hi : i < W.length) : SafeW z (apart W i).1 := by
  have hm : W[i].t ∈ U := hW.mem _ (List.getElem_mem hi)
  have hs := T.shapeK (Bool.and_eq_true_iff.1 (hU.ok _ hm)).2
  have ht := hS _ (List.getElem_mem hi)
  unfold apart
  rw [term_at hi]
  generalize W[i].t = t at hm hs ht ⊢
  dsimp only
  split
  · rename_i h3
    obtain ⟨a, b⟩ := (T.kid_safe (by omega) h3).1 ht
    exact (hS.take a _ _).take b _ _
  · split
    · rename_i h6
      exact hS.take ((T.kid_safe1 (by omega) (.inr h6)).1 ht) _ _
    · split
      · rename_i h5
        split
        · exact hS
        · obtain ⟨b1, _⟩ := build_safe hU z _ _ (hU.kid t hm 0 (by omega)) W hW hS
          split
          · exact b1
          · exact SafeW.take b1 ((T.kid_safe1 (by omega) (.inl h5)).1 ht) _ _
      · exact hS
theorem rnd_facts {U : List T} (hU : Uni U) (z : ByteArray) : ∀ (f i : Nat) (m : Bool) (W : List Stp), Inv U W → Inv U (rnd f i m W).1 ∧ (SafeW z W → SafeW z (rnd f i m W).1)
  | 0, _, _, _, hW => ⟨hW, id⟩
  | f + 1, i, m, W, hW => by
    simp only [rnd]
    split
    · rename_i hi
      split
      · obtain ⟨a1, a2⟩ := rnd_facts hU z f (i + 1) (m || (apart W i).2) _ (apart_inv hU hW hi).1
        exact ⟨a1, fun hS => a2 (apart_safe hU z hW hS hi)⟩
      · exact rnd_facts hU z f (i + 1) m W hW
    · exact ⟨hW, id⟩
theorem run_facts {U : List T} (hU : Uni U) (z : ByteArray) (n : Nat) : ∀ (f : Nat) (W : List Stp), Inv U W → Inv U (run n f W) ∧ (SafeW z W → SafeW z (run n f W))
  | 0, _, hW => ⟨hW, id⟩
  | f + 1, W, hW => by
    obtain ⟨a1, a2⟩ := rnd_facts hU z n 0 false W hW
    simp only [run]
    split
    · obtain ⟨b1, b2⟩ := run_facts hU z n f _ a1
      exact ⟨b1, fun hS => b2 (a2 hS)⟩
    · exact ⟨a1, a2⟩
theorem start_facts {U : List T} (z : ByteArray) : ∀ (ts : List T) (W : List Stp), (∀ t ∈ ts, t ∈ U) → Inv U W → Inv U (ts.foldl (fun W t => (take W t 1 []).1) W) ∧ ((∀ t ∈ ts, t.safe z = true) → SafeW z W → SafeW z (ts.foldl (fun W t => (take W t 1 []).1) W))
  | [], _, _, hW => ⟨hW, fun _ h => h⟩
  | t :: r, W, h, hW => by
    obtain ⟨a1, a2⟩ := start_facts z r _ (fun x hx => h x (List.mem_cons_of_mem _ hx)) (take_inv 1 [] hW (h t (by simp)))
    exact ⟨a1, fun hs hS => a2 (fun x hx => hs x (List.mem_cons_of_mem _ hx)) (hS.take (hs t (by simp)) _ _)⟩
end Wb
end Go.Proofs.YtihbmgkbipeakaaGreat
