/- Several texts in one: TermAtom, TermText, TermMade, TermSame, TermIsN, TermCopy. -/
import Derived.Test.YtihbmgkbipeakaaGreatWebG4
import Derived.Test.YtihbmgkbipeakaaGreatWebG6
import Derived.Test.YtihbmgkbipeakaaGreatWebG7
import Derived.Test.YtihbmgkbipeakaaGreatShelf
import Derived.Lib.Join
import Derived.Test.YtihbmgkbipeakaaGreatWebG3
import Derived.Test.YtihbmgkbipeakaaGreatWebG2
import Derived.Test.YtihbmgkbipeakaaGreatWebG1
import Derived.Test.YtihbmgkbipeakaaGreatWebG0
import Derived.Deep.RegionHeld3
namespace Go.Proofs.YtihbmgkbipeakaaGreat
open Go.RowKit

/-- Which names and variables the maker gives: a variable only if some are allowed. -/
def T.made0 (vars k : Int) (s : ByteArray) : Bool :=
  (decide (0 < vars) && decide (k = 2) && (decide (s = ⟨#[120]⟩) || decide (s = ⟨#[121]⟩) || decide (s = ⟨#[122]⟩))) ||
  (decide (k = 1) && (decide (s = ⟨#[97]⟩) || decide (s = ⟨#[98]⟩) || decide (s = ⟨#[99]⟩) || decide (s = ⟨#[107]⟩) || decide (s = ⟨#[110, 49]⟩)))
def AtomPost (vars : Int) (B g : Nat) (w : World) (e : Ending) (w' : World) : Prop := ∃ (k : Int) (s : ByteArray), T.made0 vars k s = true ∧ e = .returned (.agg #[.int .i64 k, .string s, .slice none 0 0]) ∧ DiceAt B g w' ∧ w.grownBy w' (some g)
theorem DiceAt.other {B g h : Nat} {w : World} (hd : DiceAt B g w) (hh : h ≠ g) (hB : B ≤ h) (v0 v1 v2 : Value) :
    DiceAt B g (((w.setCell ⟨h, 0, none⟩ v0).setCell ⟨h, 1, none⟩ v1).setCell ⟨h, 2, none⟩ v2) := by
  obtain ⟨h0, A, n, c, k, h1, h2, h3, h3', h4⟩ := hd
  refine ⟨h0, A, n, c, k, (set3_other _ _ _ _ _ _ (fun e => hh e.symm)).trans h1, h2, h3, h3', ?_⟩
  rcases h4 with h4 | ⟨b, off, hbB, e, hc⟩
  · exact .inl h4
  · refine .inr ⟨b, off, hbB, e, fun j hj => ?_⟩
    obtain ⟨z, g1, g2⟩ := hc j hj
    have hbh : b ≠ h := by omega
    have hs := set3_other w h v0 v1 v2 b hbh
    refine ⟨z, ?_, g2⟩
    rw [← g1]
    exact World.cell?_of_block hs
theorem atom_ends {vars : Int} {B g : Nat} {w W : World} (hg : w.grownBy W (some g)) (hgl : g < w.heap.size) (hd : DiceAt B g W) (k : Int) (s : ByteArray) (hk : T.made0 vars k s = true) (v0 v1 v2 : Value) :
    AtomPost vars B g w (.returned (.agg #[.int .i64 k, .string s, .slice none 0 0])) (((W.setCell ⟨w.heap.size, 0, none⟩ v0).setCell ⟨w.heap.size, 1, none⟩ v1).setCell ⟨w.heap.size, 2, none⟩ v2) := by
  refine ⟨k, s, hk, rfl, hd.other (by omega) (by have := hd.1; omega) _ _ _, ?_⟩
  have h := below_set3 W w.heap.size v0 v1 v2
  exact ⟨h.os.trans hg.os, h.tape.trans hg.tape, h.output.trans hg.output, Nat.le_trans hg.size h.size, fun i hi hn => (h.block i hi).trans (hg.block i hi hn)⟩

set_option maxRecDepth 100000 in
set_option maxHeartbeats 4000000 in
theorem made_atom (B g : Nat) (vars : Int) (w : World) (hd : DiceAt B g w) :
    Calls Tryz.prog 33 #[.pointer (some ⟨g, 0, none⟩), .int .i64 vars] w (AtomPost vars B g w) := by
  have hgl := hd.lt
  have bx := Box.new w (.int .i64 0) (.string ⟨#[]⟩) (.slice none 0 0)
  have hw := below_alloc1 w (.cells #[.int .i64 0, .string ⟨#[]⟩, .slice none 0 0] 29)
  have hz := size_alloc1 w (.cells #[.int .i64 0, .string ⟨#[]⟩, .slice none 0 0] 29)
  have HD := Lib.hid (hd.below hw hgl); have HGL := Lib.hid hgl
  clear hd hgl
  go_enter Tryz.func33, Tryz.ntmps33
  go_upto_region 1 with fail
  generalize w.alloc (.cells #[.int .i64 0, .string ⟨#[]⟩, .slice none 0 0] 29) = w1 at bx hw hz HD ⊢
  have HB := Lib.hid bx; have HW := Lib.hid hw; have HZ := Lib.hid hz
  clear bx hw hz
  go_wp2_with fail
  refine (made_next B g 10 _ HD.out (by omega) (by omega)).mono ?_; rintro e w2 ⟨v, hv0, hv1, rfl, hd2, hg2⟩
  have HB2 := Lib.hid (HB.out.grown hg2 (fun e => by have e' := Option.some.inj e; have := HGL.out; omega))
  have HG2 := Lib.hid (grownBy_trans (grownBy_of_below (some g) HW.out) hg2); have HD2 := Lib.hid hd2
  have HZ2 := Lib.hid (show w.heap.size + 1 ≤ w2.heap.size by have := hg2.size; have := HZ.out; omega)
  clear hd2 hg2 hv1
  by_cases hv : v < vars
  · have hv0 : (0 : Int) < vars := by omega
    have hrow := heap_alloc_new w2 (.cells #[.string ⟨#[120]⟩, .string ⟨#[121]⟩, .string ⟨#[122]⟩] 9)
    have hw3 := below_alloc1 w2 (.cells #[.string ⟨#[120]⟩, .string ⟨#[121]⟩, .string ⟨#[122]⟩] 9)
    have hz3 := size_alloc1 w2 (.cells #[.string ⟨#[120]⟩, .string ⟨#[121]⟩, .string ⟨#[122]⟩] 9)
    have HD3 := Lib.hid (HD2.out.below hw3 HD2.out.lt); have HB3 := Lib.hid (HB2.out.later hw3); have HG3 := Lib.hid (grownBy_trans HG2.out (grownBy_of_below (some g) hw3))
    clear hw3
    go_upto_region 2 with fail
    go_wp2_with fail
    generalize w2.alloc (.cells #[.string ⟨#[120]⟩, .string ⟨#[121]⟩, .string ⟨#[122]⟩] 9) = w3 at hrow hz3 HD3 HB3 HG3 ⊢
    refine (made_next B g 3 _ HD3.out (by omega) (by omega)).mono ?_; rintro e w4 ⟨u, hu0, hu1, rfl, hd4, hg4⟩
    have hgz : g < w2.heap.size := by have := HGL.out; have := HZ2.out; omega
    have hrow4 := (hg4.block w2.heap.size (by omega) (fun e => by have e' : w2.heap.size = g := Option.some.inj e; omega)).trans hrow
    have HD4 := Lib.hid hd4; have HB4 := Lib.hid (HB3.out.grown hg4 (fun e => by have e' := Option.some.inj e; have := HGL.out; omega)); have HG4 := Lib.hid (grownBy_trans HG3.out hg4)
    have c0 : w4.cell? ⟨w2.heap.size, 0, none⟩ = some (.string ⟨#[120]⟩) := cell_of_row _ _ 0 _ _ _ hrow4
    have c1 : w4.cell? ⟨w2.heap.size, 1, none⟩ = some (.string ⟨#[121]⟩) := cell_of_row _ _ 1 _ _ _ hrow4
    have c2 : w4.cell? ⟨w2.heap.size, 2, none⟩ = some (.string ⟨#[122]⟩) := cell_of_row _ _ 2 _ _ _ hrow4
    obtain ⟨x0, x1, x2⟩ := HB4.out.cells
    obtain ⟨f0, f1, f2⟩ := HB4.out.free
    clear hd4 hg4 hrow4 hrow
    obtain rfl | rfl | rfl : u = 0 ∨ u = 1 ∨ u = 2 := by omega
    · go_wp2_with fail
      obtain ⟨d0, d1, d2⟩ := (box_set3 HB4.out (.int .i64 2) (.string ⟨#[120]⟩) (.slice none 0 0)).cells
      refine bodyPost_ret (v := .agg #[.int .i64 2, .string ⟨#[120]⟩, .slice none 0 0]) (by simp [results, Tryz.results33, go_sem, d0, d1, d2]) rfl ?_
      exact atom_ends HG4.out HGL.out HD4.out 2 ⟨#[120]⟩ (by rw [T.made0, decide_eq_true hv0]; decide) _ _ _
    · go_wp2_with fail
      obtain ⟨d0, d1, d2⟩ := (box_set3 HB4.out (.int .i64 2) (.string ⟨#[121]⟩) (.slice none 0 0)).cells
      refine bodyPost_ret (v := .agg #[.int .i64 2, .string ⟨#[121]⟩, .slice none 0 0]) (by simp [results, Tryz.results33, go_sem, d0, d1, d2]) rfl ?_
      exact atom_ends HG4.out HGL.out HD4.out 2 ⟨#[121]⟩ (by rw [T.made0, decide_eq_true hv0]; decide) _ _ _
    · go_wp2_with fail
      obtain ⟨d0, d1, d2⟩ := (box_set3 HB4.out (.int .i64 2) (.string ⟨#[122]⟩) (.slice none 0 0)).cells
      refine bodyPost_ret (v := .agg #[.int .i64 2, .string ⟨#[122]⟩, .slice none 0 0]) (by simp [results, Tryz.results33, go_sem, d0, d1, d2]) rfl ?_
      exact atom_ends HG4.out HGL.out HD4.out 2 ⟨#[122]⟩ (by rw [T.made0, decide_eq_true hv0]; decide) _ _ _
  · have hv' : vars ≤ v := by omega
    have hrow := heap_alloc_new w2 (.cells #[.string ⟨#[97]⟩, .string ⟨#[98]⟩, .string ⟨#[99]⟩, .string ⟨#[107]⟩, .string ⟨#[110, 49]⟩] 9)
    have hw3 := below_alloc1 w2 (.cells #[.string ⟨#[97]⟩, .string ⟨#[98]⟩, .string ⟨#[99]⟩, .string ⟨#[107]⟩, .string ⟨#[110, 49]⟩] 9)
    have hz3 := size_alloc1 w2 (.cells #[.string ⟨#[97]⟩, .string ⟨#[98]⟩, .string ⟨#[99]⟩, .string ⟨#[107]⟩, .string ⟨#[110, 49]⟩] 9)
    have HD3 := Lib.hid (HD2.out.below hw3 HD2.out.lt); have HB3 := Lib.hid (HB2.out.later hw3); have HG3 := Lib.hid (grownBy_trans HG2.out (grownBy_of_below (some g) hw3))
    clear hw3
    go_upto_region 3 with fail
    go_wp2_with fail
    generalize w2.alloc (.cells #[.string ⟨#[97]⟩, .string ⟨#[98]⟩, .string ⟨#[99]⟩, .string ⟨#[107]⟩, .string ⟨#[110, 49]⟩] 9) = w3 at hrow hz3 HD3 HB3 HG3 ⊢
    refine (made_next B g 5 _ HD3.out (by omega) (by omega)).mono ?_; rintro e w4 ⟨u, hu0, hu1, rfl, hd4, hg4⟩
    have hgz : g < w2.heap.size := by have := HGL.out; have := HZ2.out; omega
    have hrow4 := (hg4.block w2.heap.size (by omega) (fun e => by have e' : w2.heap.size = g := Option.some.inj e; omega)).trans hrow
    have HD4 := Lib.hid hd4; have HB4 := Lib.hid (HB3.out.grown hg4 (fun e => by have e' := Option.some.inj e; have := HGL.out; omega)); have HG4 := Lib.hid (grownBy_trans HG3.out hg4)
    have c0 : w4.cell? ⟨w2.heap.size, 0, none⟩ = some (.string ⟨#[97]⟩) := cell_of_row _ _ 0 _ _ _ hrow4
    have c1 : w4.cell? ⟨w2.heap.size, 1, none⟩ = some (.string ⟨#[98]⟩) := cell_of_row _ _ 1 _ _ _ hrow4
    have c2 : w4.cell? ⟨w2.heap.size, 2, none⟩ = some (.string ⟨#[99]⟩) := cell_of_row _ _ 2 _ _ _ hrow4
    have c3 : w4.cell? ⟨w2.heap.size, 3, none⟩ = some (.string ⟨#[107]⟩) := cell_of_row _ _ 3 _ _ _ hrow4
    have c4 : w4.cell? ⟨w2.heap.size, 4, none⟩ = some (.string ⟨#[110, 49]⟩) := cell_of_row _ _ 4 _ _ _ hrow4
    obtain ⟨x0, x1, x2⟩ := HB4.out.cells
    obtain ⟨f0, f1, f2⟩ := HB4.out.free
    clear hd4 hg4 hrow4 hrow
    obtain rfl | rfl | rfl | rfl | rfl : u = 0 ∨ u = 1 ∨ u = 2 ∨ u = 3 ∨ u = 4 := by omega
    · go_wp2_with fail
      obtain ⟨d0, d1, d2⟩ := (box_set3 HB4.out (.int .i64 1) (.string ⟨#[97]⟩) (.slice none 0 0)).cells
      refine bodyPost_ret (v := .agg #[.int .i64 1, .string ⟨#[97]⟩, .slice none 0 0]) (by simp [results, Tryz.results33, go_sem, d0, d1, d2]) rfl ?_
      exact atom_ends HG4.out HGL.out HD4.out 1 ⟨#[97]⟩ (by rw [T.made0]; simp) _ _ _
    · go_wp2_with fail
      obtain ⟨d0, d1, d2⟩ := (box_set3 HB4.out (.int .i64 1) (.string ⟨#[98]⟩) (.slice none 0 0)).cells
      refine bodyPost_ret (v := .agg #[.int .i64 1, .string ⟨#[98]⟩, .slice none 0 0]) (by simp [results, Tryz.results33, go_sem, d0, d1, d2]) rfl ?_
      exact atom_ends HG4.out HGL.out HD4.out 1 ⟨#[98]⟩ (by rw [T.made0]; simp) _ _ _
    · go_wp2_with fail
      obtain ⟨d0, d1, d2⟩ := (box_set3 HB4.out (.int .i64 1) (.string ⟨#[99]⟩) (.slice none 0 0)).cells
      refine bodyPost_ret (v := .agg #[.int .i64 1, .string ⟨#[99]⟩, .slice none 0 0]) (by simp [results, Tryz.results33, go_sem, d0, d1, d2]) rfl ?_
      exact atom_ends HG4.out HGL.out HD4.out 1 ⟨#[99]⟩ (by rw [T.made0]; simp) _ _ _
    · go_wp2_with fail
      obtain ⟨d0, d1, d2⟩ := (box_set3 HB4.out (.int .i64 1) (.string ⟨#[107]⟩) (.slice none 0 0)).cells
      refine bodyPost_ret (v := .agg #[.int .i64 1, .string ⟨#[107]⟩, .slice none 0 0]) (by simp [results, Tryz.results33, go_sem, d0, d1, d2]) rfl ?_
      exact atom_ends HG4.out HGL.out HD4.out 1 ⟨#[107]⟩ (by rw [T.made0]; simp) _ _ _
    · go_wp2_with fail
      obtain ⟨d0, d1, d2⟩ := (box_set3 HB4.out (.int .i64 1) (.string ⟨#[110, 49]⟩) (.slice none 0 0)).cells
      refine bodyPost_ret (v := .agg #[.int .i64 1, .string ⟨#[110, 49]⟩, .slice none 0 0]) (by simp [results, Tryz.results33, go_sem, d0, d1, d2]) rfl ?_
      exact atom_ends HG4.out HGL.out HD4.out 1 ⟨#[110, 49]⟩ (by rw [T.made0]; simp) _ _ _
end Go.Proofs.YtihbmgkbipeakaaGreat

namespace Go.Proofs.YtihbmgkbipeakaaGreat
open Go.RowKit

namespace T
/-- What stands in front of the kids. -/
def headS (k : Int) : List UInt8 := if k = 4 then [104, 97, 115, 104] else if k = 5 then [115, 101, 97, 108] else if k = 6 then [115, 105, 103, 110] else [112, 111, 119, 101, 114]
mutual
/-- A term as text. -/
def text : T → List UInt8
  | .mk k s ks => if k = 1 then s.data.toList else if k = 2 then 63 :: s.data.toList else if k = 3 then [60] ++ textAll ks ++ [62] else headS k ++ [40] ++ textAll ks ++ [41]
def textAll : List T → List UInt8
  | [] => []
  | t :: r => text t ++ textTail r
/-- The further kids, each behind a comma. -/
def textTail : List T → List UInt8
  | [] => []
  | t :: r => [44, 32] ++ text t ++ textTail r
end
theorem headS_len (k : Int) : (headS k).length ≤ 5 := by
  unfold headS; repeat' split
  all_goals simp
mutual
theorem text_len : ∀ t : T, t.text.length + 2 ≤ 3 * t.bulk
  | .mk k s ks => by
    have h := textAll_len ks
    have h' := headS_len k
    simp only [text, bulk]
    repeat' split
    all_goals simp <;> omega
theorem textAll_len : ∀ l : List T, (textAll l).length ≤ 3 * bulkAll l
  | [] => by simp [textAll]
  | t :: r => by
    have h := text_len t
    have h' := textTail_len r
    simp only [textAll, bulkAll, List.length_append]; omega
theorem textTail_len : ∀ l : List T, (textTail l).length ≤ 3 * bulkAll l
  | [] => by simp [textTail]
  | t :: r => by
    have h := text_len t
    have h' := textTail_len r
    simp only [textTail, bulkAll, List.length_append, List.length_cons, List.length_nil]; omega
end
end T
end Go.Proofs.YtihbmgkbipeakaaGreat

namespace Go.Proofs.YtihbmgkbipeakaaGreat

namespace T
mutual
/-- All names are of at most two bytes. -/
def lw : T → Bool
  | .mk _ s ks => decide (s.size ≤ 2) && lowAll ks
def lowAll : List T → Bool
  | [] => true
  | t :: r => lw t && lowAll r
end
theorem lowAll_iff : ∀ l : List T, lowAll l = true ↔ ∀ t ∈ l, t.lw = true
  | [] => by simp [lowAll]
  | t :: r => by simp only [lowAll, Bool.and_eq_true, lowAll_iff r, List.mem_cons, forall_eq_or_imp]
mutual
theorem low_norm : ∀ t : T, t.lw = true → t.norm.lw = true
  | .mk k s ks => fun h => by
    simp only [lw, Bool.and_eq_true] at h
    simp only [norm, lw, Bool.and_eq_true]
    have hk' := low_normAll ks h.2
    refine ⟨h.1, ?_⟩
    by_cases h7 : k = 7
    · rw [if_pos h7]
      rw [lowAll_iff] at hk' ⊢
      exact fun t ht => hk' t ((isort_perm _).mem_iff.1 ht)
    · rw [if_neg h7]; exact hk'
theorem low_normAll : ∀ l : List T, lowAll l = true → lowAll (normAll l) = true
  | [] => fun _ => rfl
  | t :: r => fun h => by
    simp only [lowAll, normAll, Bool.and_eq_true] at h ⊢
    exact ⟨low_norm t h.1, low_normAll r h.2⟩
end
mutual
theorem hasVar_norm : ∀ t : T, t.norm.hasVar = t.hasVar
  | .mk k s ks => by
    have h := hasVar_normAll ks
    simp only [norm, hasVar]
    congr 1
    by_cases h7 : k = 7
    · rw [if_pos h7, ← h, hasVarAll_any, hasVarAll_any]
      exact (isort_perm _).any_eq
    · rw [if_neg h7]; exact h
theorem hasVar_normAll : ∀ l : List T, hasVarAll (normAll l) = hasVarAll l
  | [] => rfl
  | t :: r => by simp only [normAll, hasVarAll, hasVar_norm t, hasVar_normAll r]
end
/-- What is known of a term that the maker gives at depth D. -/
def Made (vars : Int) (D : Nat) (t : T) : Prop := t.shape = true ∧ t.size + 1 ≤ 5 * 2 ^ (D - 1) ∧ t.bulk ≤ 6 * t.size ∧ t.lw = true ∧ (t.hasVar = true → 0 < vars)
variable {vars : Int}
theorem made0_var {k : Int} {s : ByteArray} (h : made0 vars k s = true) : k = 2 → 0 < vars := by
  unfold made0 at h
  simp only [Bool.or_eq_true, Bool.and_eq_true, decide_eq_true_eq] at h
  rcases h with h | h
  · exact fun _ => h.1.1
  · omega
theorem made0_facts {k : Int} {s : ByteArray} (h : made0 vars k s = true) : (k = 1 ∨ k = 2) ∧ isName s = true ∧ s.size ≤ 2 := by
  unfold made0 at h
  simp only [Bool.or_eq_true, Bool.and_eq_true, decide_eq_true_eq] at h
  rcases h with ⟨⟨-, rfl⟩, (rfl | rfl) | rfl⟩ | ⟨rfl, (((rfl | rfl) | rfl) | rfl) | rfl⟩
  all_goals exact ⟨by decide, by kernel_rfl, by decide⟩
theorem pow_pos_ (n : Nat) : 1 ≤ 2 ^ n := Nat.one_le_two_pow
theorem made_of_atom {k : Int} {s : ByteArray} (h : made0 vars k s = true) (D : Nat) : Made vars D (.mk k s []) := by
  obtain ⟨h1, h2, h3⟩ := made0_facts h
  have := pow_pos_ (D - 1)
  have hv := made0_var h
  refine ⟨?_, ?_, ?_, ?_, fun e => hv (by simpa [hasVar, hasVarAll] using e)⟩
  · simp only [shape]; rw [if_pos h1, h2]; rfl
  · simp only [size, sizeAll]; omega
  · simp only [T.bulk, bulkAll, size, sizeAll]; omega
  · simp [lw, lowAll, h3]
/-- It is normal, too. -/
def MadeN (vars : Int) (D : Nat) (t : T) : Prop := Made vars D t ∧ t.norm = t
theorem maden_of_atom {k : Int} {s : ByteArray} (h : made0 vars k s = true) (D : Nat) : MadeN vars D (.mk k s []) :=
  ⟨made_of_atom h D, by have := (made0_facts h).1; simp only [norm, normAll]; rw [if_neg (by omega)]⟩
theorem Made.norm {D : Nat} {t : T} (h : Made vars D t) : MadeN vars D t.norm :=
  ⟨⟨shape_norm t h.1, by rw [size_norm]; exact h.2.1, by rw [bulk_norm, size_norm]; exact h.2.2.1, low_norm t h.2.2.2.1, by rw [hasVar_norm]; exact h.2.2.2.2⟩, norm_norm t⟩
theorem Made.valid {D : Nat} {t : T} (h : Made vars D t) (hD : D ≤ 4) : t.valid = true := by
  have h2 : 2 ^ (D - 1) ≤ 2 ^ 3 := Nat.pow_le_pow_right (by decide) (by omega)
  have h1 := h.2.1
  unfold T.valid
  rw [Bool.and_eq_true]
  exact ⟨decide_eq_true (by omega), h.1⟩
theorem Made.bulk {D : Nat} {t : T} (h : Made vars D t) (hD : D ≤ 4) : t.bulk ≤ 240 := by
  have h2 : 2 ^ (D - 1) ≤ 2 ^ 3 := Nat.pow_le_pow_right (by decide) (by omega)
  have h1 := h.2.1
  have h3 := h.2.2.1
  omega
theorem Made.text {D : Nat} {t : T} (h : Made vars D t) (hD : D ≤ 4) : t.text.length ≤ 1024 := by
  have h1 := h.bulk hD
  have h2 := text_len t
  omega
theorem pow_next {D : Nat} (h : 1 ≤ D) : 2 ^ D = 2 * 2 ^ (D - 1) := by
  obtain ⟨n, rfl⟩ : ∃ n, D = n + 1 := ⟨D - 1, by omega⟩
  simp [Nat.pow_succ, Nat.mul_comm]
theorem emp_size : (⟨#[]⟩ : ByteArray).size = 0 := rfl
/-- Two kids under a pair or a seal. -/
theorem made_two {D : Nat} (hD : 1 ≤ D) (k : Int) (hk : k = 3 ∨ k = 5) {a b : T} (ha : Made vars D a) (hb : Made vars D b) : Made vars (D + 1) (.mk k ⟨#[]⟩ [a, b]) := by
  obtain ⟨a1, a2, a3, a4, a5⟩ := ha
  obtain ⟨b1, b2, b3, b4, b5⟩ := hb
  have h := pow_next hD
  refine ⟨?_, ?_, ?_, ?_, fun e => ?_⟩
  · simp only [shape]
    rw [if_neg (by omega)]
    simp only [shapeAll, a1, b1]
    rcases hk with rfl | rfl <;> kernel_rfl
  · simp only [size, sizeAll]; rw [Nat.add_sub_cancel, h]; omega
  · simp only [T.bulk, bulkAll, size, sizeAll, emp_size]; omega
  · simp [lw, lowAll, a4, b4, emp_size]
  · simp only [hasVar, hasVarAll, Bool.or_eq_true, Bool.or_false, beq_iff_eq] at e
    rcases e with e | e | e
    · omega
    · exact a5 e
    · exact b5 e
theorem made_hash {D : Nat} (hD : 1 ≤ D) {a : T} (ha : Made vars D a) : Made vars (D + 1) (.mk 4 ⟨#[]⟩ [a]) := by
  obtain ⟨a1, a2, a3, a4, a5⟩ := ha
  have h := pow_next hD
  refine ⟨?_, ?_, ?_, ?_, fun e => ?_⟩
  · simp only [shape]
    rw [if_neg (by omega)]
    simp only [shapeAll, a1]
    kernel_rfl
  · simp only [size, sizeAll]; rw [Nat.add_sub_cancel, h]; omega
  · simp only [T.bulk, bulkAll, size, sizeAll, emp_size]; omega
  · simp [lw, lowAll, a4, emp_size]
  · simp only [hasVar, hasVarAll, Bool.or_eq_true, Bool.or_false, beq_iff_eq] at e
    rcases e with e | e
    · omega
    · exact a5 e
theorem made_sign {D : Nat} (hD : 1 ≤ D) {k : Int} {s : ByteArray} (hk : made0 vars k s = true) {b : T} (hb : Made vars D b) : Made vars (D + 1) (.mk 6 ⟨#[]⟩ [.mk k s [], b]) := by
  obtain ⟨a1, a2, a3, a4, a5⟩ := made_of_atom hk 1
  obtain ⟨b1, b2, b3, b4, b5⟩ := hb
  have h := pow_next hD
  have hp := pow_pos_ (D - 1)
  have hat : atom (.mk k s []) = true := by
    rcases (made0_facts hk).1 with rfl | rfl <;> rfl
  refine ⟨?_, ?_, ?_, ?_, fun e => ?_⟩
  · simp only [shape]
    rw [if_neg (by omega)]
    simp only [shapeAll, shape, b1, headOk]
    simp [hat, ByteArray.toList_eq]
    exact ⟨(made0_facts hk).1, (made0_facts hk).2.1⟩
  · simp only [size, sizeAll] at a2 ⊢; rw [Nat.add_sub_cancel, h]; omega
  · simp only [T.bulk, bulkAll, size, sizeAll, emp_size] at a3 ⊢; omega
  · simp only [lw, lowAll, Bool.and_eq_true] at a4 ⊢
    exact ⟨by simp [emp_size], a4, b4, trivial⟩
  · have e2 : (T.mk k s []).hasVar = true ∨ b.hasVar = true := by
      simp only [hasVar, hasVarAll, Bool.or_eq_true, Bool.or_false, beq_iff_eq] at e ⊢
      rcases e with e | e | e
      · omega
      · exact .inl e
      · exact .inr e
    exact e2.elim a5 b5
/-- A list of names and variables. -/
def Atoms (vars : Int) (l : List T) : Prop := ∀ t ∈ l, ∃ k s, made0 vars k s = true ∧ t = .mk k s []
theorem Atoms.lw {l : List T} (h : Atoms vars l) : lowAll l = true := by
  rw [lowAll_iff]
  intro t ht
  obtain ⟨k, s, hk, rfl⟩ := h t ht
  exact (made_of_atom hk 1).2.2.2.1
theorem Atoms.sums {l : List T} (h : Atoms vars l) : sizeAll l = l.length ∧ bulkAll l ≤ 6 * l.length ∧ shapeAll l = true ∧ l.any (fun t => !t.atom) = false := by
  induction l with
  | nil => exact ⟨rfl, by simp [bulkAll], rfl, rfl⟩
  | cons t r ih =>
    obtain ⟨h1, h2, h3, h4⟩ := ih fun x hx => h x (List.mem_cons_of_mem _ hx)
    obtain ⟨k, s, hk, rfl⟩ := h t List.mem_cons_self
    obtain ⟨a1, a2, a3, -, -⟩ := made_of_atom hk 1
    have hat : atom (.mk k s []) = true := by
      rcases (made0_facts hk).1 with rfl | rfl <;> rfl
    have hz : (T.mk k s []).size = 1 := rfl
    refine ⟨?_, ?_, ?_, ?_⟩
    · simp only [sizeAll, h1, hz, List.length_cons]; omega
    · rw [hz] at a3; simp only [bulkAll, List.length_cons]; omega
    · simp only [shapeAll, a1, h3]; rfl
    · rw [List.any_cons, hat, h4]; rfl
theorem made_power {D : Nat} (hD : 1 ≤ D) {l : List T} (h : Atoms vars l) (h1 : 1 ≤ l.length) (h3 : l.length ≤ 3) : Made vars (D + 1) (.mk 7 ⟨#[]⟩ l) := by
  obtain ⟨a1, a2, a3, a4⟩ := h.sums
  have hn := pow_next hD
  have hp := pow_pos_ (D - 1)
  refine ⟨?_, ?_, ?_, ?_, fun e => ?_⟩
  · simp only [shape]
    rw [if_neg (by omega)]
    simp only [a3, headOk, a4]
    simp [ByteArray.toList_eq]
    omega
  · simp only [size, a1]; rw [Nat.add_sub_cancel, hn]; omega
  · simp only [T.bulk, size, a1, emp_size]; omega
  · simp only [lw, h.lw, Bool.and_true]; exact decide_eq_true (by simp [emp_size])
  · simp only [hasVar, hasVarAll_any, Bool.or_eq_true, List.any_eq_true, beq_iff_eq] at e
    rcases e with e | ⟨x, hx, e⟩
    · omega
    · obtain ⟨k, s, hk, rfl⟩ := h x hx
      exact (made_of_atom hk 1).2.2.2.2 e
end T
end Go.Proofs.YtihbmgkbipeakaaGreat

namespace Go.Proofs.YtihbmgkbipeakaaGreat
open Go.RowKit

theorem rsame (t t' : T) (v v' : Value) (w : World) (ht : TermAt w v t) (ht' : TermAt w v' t') (hb : t.bulk ≤ 1048576) (hb' : t'.bulk ≤ 1048576) :
    Calls Tryz.prog 25 #[v, v'] w fun e w' => e = .returned (.bool (decide (t.cmp t' = 0))) ∧ Below w.heap.size w w' := by
  cases ht with
  | mk k s A cap ks U h1 h2 h3 h4 hA hU =>
  cases ht' with
  | mk k' s' A' cap' ks' U' h1' h2' h3' h4' hA' hU' =>
    have hc := fun W hW hW' => rcmp ((T.mk k s ks).bulk + 1) (.mk k s ks) (.mk k' s' ks') (.agg #[.int .i64 k, .string s, .slice A ks.length cap]) (.agg #[.int .i64 k', .string s', .slice A' ks'.length cap']) W (by omega) hW hW' hb hb'
    have ht := TermAt.mk k s A cap ks U h1 h2 h3 h4 hA hU
    have ht' := TermAt.mk k' s' A' cap' ks' U' h1' h2' h3' h4' hA' hU'
    have HC := Lib.hid hc; have HT := Lib.hid ht; have HT' := Lib.hid ht'
    obtain ⟨c, hcv⟩ : ∃ c, (T.mk k s ks).cmp (.mk k' s' ks') = c := ⟨_, rfl⟩
    have HCV := Lib.hid hcv
    clear hc ht ht' hA hA' hU hU' hcv
    go_enter Tryz.func25, Tryz.ntmps25
    go_wp2_with fail
    have hb1 := (boxed_two w (.int .i64 k) (.string s) (.slice A ks.length cap) (.int .i64 k') (.string s') (.slice A' ks'.length cap') 29).2.2
    refine (HC.out _ (HT.out.later hb1) (HT'.out.later hb1)).mono ?_; rintro e w2 ⟨rfl, hb4⟩
    replace hb4 := hb1.trans (hb4.mono hb1.size)
    rw [HCV.out]
    go_wp2_with fail
    go_ret
    exact ⟨ret_bool (by rw [HCV.out, Bool.eq_iff_iff, beq_iff_eq, decide_eq_true_eq]), hb4⟩
end Go.Proofs.YtihbmgkbipeakaaGreat

namespace Go.Proofs.YtihbmgkbipeakaaGreat
open Go.RowKit

namespace T
/-- Is a term valid, and its own normal form? -/
def isN (t : T) : Bool := t.valid && decide (cmp t t.norm = 0)
theorem isN_iff (t : T) : t.isN = true ↔ t.valid = true ∧ t.norm = t := by
  unfold isN
  rw [Bool.and_eq_true, decide_eq_true_eq]
  constructor
  · rintro ⟨h1, h2⟩; exact ⟨h1, (cmp_eq _ _ h2).symm⟩
  · rintro ⟨h1, h2⟩; exact ⟨h1, by rw [h2]; exact cmp_self t⟩
end T

theorem isn_later {w1 W W2 : World} {p0 p1 p2 : Addr} {v0 v1 v2 : Value} {a : Value} {ta : T} (h : W.cell? p0 = some v0 ∧ W.cell? p1 = some v1 ∧ W.cell? p2 = some v2 ∧ TermAt W a ta ∧ Below w1.heap.size w1 W)
    (hb : Below W.heap.size W W2) : W2.cell? p0 = some v0 ∧ W2.cell? p1 = some v1 ∧ W2.cell? p2 = some v2 ∧ TermAt W2 a ta ∧ Below w1.heap.size w1 W2 := by
  obtain ⟨h0, h1, h2, h6, h8⟩ := h
  exact ⟨cell_later hb h0, cell_later hb h1, cell_later hb h2, h6.later hb, h8.trans (hb.mono h8.size)⟩

set_option maxRecDepth 100000 in
set_option maxHeartbeats 4000000 in
theorem oisn (t : T) (v : Value) (w : World) (ht : TermAt w v t) (hbk : t.bulk ≤ 1048576) :
    Calls Tryz.prog 59 #[v] w fun e w' => e = .returned (.bool t.isN) ∧ Below w.heap.size w w' := by
  have HV := Lib.hid (fun W hW r c hr hc => ovalid t v W hW hbk r c hr hc)
  have HA := Lib.hid (fun W hW (hs : t.shape = true) => oarr (t.bulk + 1) t v W (by omega) hW hbk hs)
  have HC := Lib.hid (fun v' W hW hW' => ocmp (t.bulk + 1) t t.norm v v' W (by omega) hW hW' hbk (by rw [T.bulk_norm]; exact hbk))
  have hI : t.isN = (t.valid && decide (T.cmp t t.norm = 0)) := rfl
  obtain ⟨q, hq⟩ : ∃ q, t.valid = q := ⟨_, rfl⟩
  obtain ⟨c, hc⟩ : ∃ c, T.cmp t t.norm = c := ⟨_, rfl⟩
  have HSH := Lib.hid (fun (h : q = true) => show t.shape = true by rw [← hq] at h; exact (Bool.and_eq_true_iff.1 h).2)
  rw [hI]
  rw [hc] at HC ⊢
  rw [hq] at HV ⊢
  clear hI hbk hq hc
  generalize t.norm = tn at HA HC
  cases ht with
  | mk k s A cap ks U h1 h2 h3 h4 hA hU =>
  have HT := Lib.hid (TermAt.mk k s A cap ks U h1 h2 h3 h4 hA hU)
  have hbx := boxed_new w (.int .i64 k) (.string s) (.slice A ks.length cap) 29
  have hb1 := below_alloc1 w (.cells #[.int .i64 k, .string s, .slice A ks.length cap] 29)
  clear hA hU
  go_enter Tryz.func59, Tryz.ntmps59
  go_upto_region 1 with fail
  generalize w.alloc (.cells #[.int .i64 k, .string s, .slice A ks.length cap] 29) = w1 at hbx hb1 ⊢
  obtain ⟨x0, x1, x2⟩ := hbx
  have HT1 := Lib.hid (HT.out.later hb1); have HB1 := Lib.hid hb1
  clear hb1
  cases q
  · (refine wp_region_held_drew (S := (fun W => W.cell? ⟨w.heap.size, 0, none⟩ = some (.int .i64 k) ∧ W.cell? ⟨w.heap.size, 1, none⟩ = some (.string s) ∧ W.cell? ⟨w.heap.size, 2, none⟩ = some (.slice A ks.length cap) ∧ TermAt W (.agg #[.int .i64 k, .string s, .slice A ks.length cap]) (.mk k s ks) ∧ Below w1.heap.size w1 W)) (by kernel_rfl) (show _ ∧ _ ∧ _ ∧ _ ∧ _ from ⟨x0, x1, x2, HT1.out.drew, (Below.refl _ _).drew⟩) (fun hHeld => ?_))
    (first | (refine tkJ 0 _ (h := ?_)) | (refine tkM 0 (h := ?_)))
    (refine rdJ 1 (h := fun K hK => ?_); go_simp; go_at_call 74; refine (HV.out _ hHeld.2.2.2.1 false 76 rfl (.inr ⟨rfl, rfl⟩)).mono ?_; rintro e w' ⟨rfl, hb4⟩; refine shK hK (isn_later hHeld hb4) (h := fun hHeld => ?_); clear hK K)
    (first | (refine tkJ 2 _ (h := ?_)) | (refine tkM 2 (h := ?_)))
    (first | (refine tkJ 3 _ (h := ?_)) | (refine tkM 3 (h := ?_)))
    (first | (refine tkJ 4 _ (h := ?_)) | (refine tkM 4 (h := ?_)))
    (first | (refine tkJ 5 _ (h := ?_)) | (refine tkM 5 (h := ?_)))
    (first | (refine tkJ 6 _ (h := ?_)) | (refine tkM 6 (h := ?_)))
    (first | (refine tkJ 7 _ (h := ?_)) | (refine tkM 7 (h := ?_)))
    (first | (refine tkJ 8 _ (h := ?_)) | (refine tkM 8 (h := ?_)))
    (first | (refine tkJ 9 _ (h := ?_)) | (refine tkM 9 (h := ?_)))
    (first | (refine tkJ 10 _ (h := ?_)) | (refine tkM 10 (h := ?_)))
    (refine wpAnyH_done (by kernel_rfl) ?_ _)
    have HB := Lib.hid (HB1.out.trans (hHeld.2.2.2.2.mono HB1.out.size))
    clear hHeld x0 x1 x2
    go_wp2_with fail
    go_ret
    exact ⟨rfl, HB.out⟩
  · (refine wp_region_held_drew (S := (fun W => W.cell? ⟨w.heap.size, 0, none⟩ = some (.int .i64 k) ∧ W.cell? ⟨w.heap.size, 1, none⟩ = some (.string s) ∧ W.cell? ⟨w.heap.size, 2, none⟩ = some (.slice A ks.length cap) ∧ TermAt W (.agg #[.int .i64 k, .string s, .slice A ks.length cap]) (.mk k s ks) ∧ Below w1.heap.size w1 W)) (by kernel_rfl) (show _ ∧ _ ∧ _ ∧ _ ∧ _ from ⟨x0, x1, x2, HT1.out.drew, (Below.refl _ _).drew⟩) (fun hHeld => ?_))
    (first | (refine tkJ 0 _ (h := ?_)) | (refine tkM 0 (h := ?_)))
    (refine rdJ 1 (h := fun K hK => ?_); go_simp; go_at_call 74; refine (HV.out _ hHeld.2.2.2.1 true 0 rfl (.inl ⟨rfl, rfl⟩)).mono ?_; rintro e w' ⟨rfl, hb4⟩; refine shK hK (isn_later hHeld hb4) (h := fun hHeld => ?_); clear hK K)
    (first | (refine tkJ 2 _ (h := ?_)) | (refine tkM 2 (h := ?_)))
    (first | (refine tkJ 3 _ (h := ?_)) | (refine tkM 3 (h := ?_)))
    (first | (refine tkJ 4 _ (h := ?_)) | (refine tkM 4 (h := ?_)))
    (first | (refine tkJ 5 _ (h := ?_)) | (refine tkM 5 (h := ?_)))
    (refine rdJ 6 (h := fun K hK => ?_); go_simp; go_at_call 106; refine (HA.out _ hHeld.2.2.2.1 (HSH.out rfl)).mono ?_; rintro e w' ⟨A3, C3, rfl, hti, hb4⟩; have HN := Lib.hid hti.at; refine shK hK (isn_later hHeld hb4) (h := fun hHeld => ?_); clear hK K)
    (refine rdJ 7 (h := fun K hK => ?_); go_simp; go_at_call 103; refine (HC.out _ _ hHeld.2.2.2.1 HN.out).mono ?_; rintro e w' ⟨rfl, hb4⟩; refine shK hK (isn_later hHeld hb4) (h := fun hHeld => ?_); clear hK K)
    (first | (refine tkJ 8 _ (h := ?_)) | (refine tkM 8 (h := ?_)))
    (first | (refine tkJ 9 _ (h := ?_)) | (refine tkM 9 (h := ?_)))
    (first | (refine tkJ 10 _ (h := ?_)) | (refine tkM 10 (h := ?_)))
    (refine wpAnyH_done (by kernel_rfl) ?_ _)
    have HB := Lib.hid (HB1.out.trans (hHeld.2.2.2.2.mono HB1.out.size))
    clear hHeld x0 x1 x2
    go_wp2_with fail
    go_ret
    exact ⟨ret_bool (by first | rfl | simp), HB.out⟩

end Go.Proofs.YtihbmgkbipeakaaGreat

namespace Go.Proofs.YtihbmgkbipeakaaGreat
open Go.RowKit

attribute [local go_sem ↓] Go.wp_at_zero Go.wp_at_succ

set_option maxRecDepth 100000 in
set_option maxHeartbeats 8000000 in
theorem ocopy : ∀ (N : Nat) (t : T) (v : Value) (w : World), t.bulk < N → TermAt w v t → t.bulk ≤ 1048576 →
    Calls Tryz.prog 53 #[v] w (RetT t w) := by
  intro N
  induction N with
  | zero => intro t v w h; omega
  | succ N ih =>
    intro t v w hN ht hbk
    cases ht with
    | mk k s A cap ks U h1 h2 h3 h4 hA hU =>
      simp only [T.bulk] at hN hbk
      have hkn : ks.length ≤ 262144 := by have := T.len_le ks; omega
      have HT := Lib.hid (TermAt.mk k s A cap ks U h1 h2 h3 h4 hA hU)
      obtain ⟨i0, hi0, hz0, hz1, hz2⟩ := info_parts Tryz.infoT
      go_enter Tryz.func53, Tryz.ntmps53
      go_wp2_with fail
      obtain ⟨bx, by', hb1, hsz⟩ := box_two w (.int .i64 k) (.string s) (.slice none 0 0) (.int .i64 0) (.string ⟨#[]⟩) (.slice none 0 0)
      generalize (w.alloc (.cells #[.int .i64 k, .string s, .slice none 0 0] 29)).alloc (.cells #[.int .i64 0, .string ⟨#[]⟩, .slice none 0 0] 29) = w1 at bx by' hb1 hsz ⊢
      have hstart : ArrAt w k s [] w1 := ⟨_, bx, by', TermsRow.nil _ _, hb1, by omega⟩
      have HST := Lib.hid hstart
      have IH := Lib.hid ih
      clear bx by' hb1 hsz hstart ih
      have hA2 := Lib.hid hA; have hU2 := Lib.hid hU
      clear hA hU
      go_loopw [11] (fun i wr => ∃ j : Nat, j ≤ ks.length ∧ i = .int .i64 j ∧ ArrAt w k s (ks.take j) wr) (fun i _ => ks.length - (intOf i).toNat)
      case atStart => exact ⟨0, Nat.zero_le _, rfl, by simpa using HST.out⟩
      case round =>
        obtain ⟨j, hj, rfl, hat⟩ := hrel
        by_cases hlt : j < ks.length
        · obtain ⟨kv, bx, bz, hrow, hbw, hsz⟩ := hat
          obtain ⟨b, off, B1, C1, rfl, d0, d1, d2, hu⟩ := TermAt.cells hlt hA2.out hU2.out
          have e0 := cell_later hbw d0; have e1 := cell_later hbw d1; have e2 := cell_later hbw d2
          have hi : (j : Int) < (ks.length : Int) := by omega
          have HU := Lib.hid (hu.later hbw); have HLT := Lib.hid hlt; have HJ := Lib.hid hj
          have HB2 := Lib.hid (show ks[j].bulk < N ∧ ks[j].bulk ≤ 1048576 by have := T.bulk_at ks j hlt; omega)
          clear d0 d1 d2 hu hj
          go_upto_region 6 with fail
          have hq := below_alloc1 wr (.cells #[.int .i64 ks[j].kind, .string ks[j].name, .slice B1 ks[j].kids.length C1] 29)
          have qx := Box.new wr (.int .i64 ks[j].kind) (.string ks[j].name) (.slice B1 ks[j].kids.length C1)
          have hqs := size_alloc1 wr (.cells #[.int .i64 ks[j].kind, .string ks[j].name, .slice B1 ks[j].kids.length C1] 29)
          generalize wr.alloc (.cells #[.int .i64 ks[j].kind, .string ks[j].name, .slice B1 ks[j].kids.length C1] 29) = wq at hq qx hqs ⊢
          replace bx := bx.later hq; replace bz := bz.later hq
          replace hrow := hrow.later hq
          replace hbw := hbw.trans (hq.mono hbw.size)
          have hsz' : w.heap.size + 2 ≤ wq.heap.size := by omega
          have HU2 := Lib.hid (HU.out.later hq)
          obtain ⟨xs, hown, hx⟩ := hrow.owns
          have hlen : (List.take j ks).length = j := by rw [List.length_take]; omega
          have HSTEP := Lib.hid (fun t w3 w4 u0 u1 u2 g cap => ArrAt.step (k := k) (s := s) (t := t) (w3 := w3) (w4 := w4) (u0 := u0) (u1 := u1) (u2 := u2) (g := g) (cap := cap) bx bz hrow hbw hsz' hx hown.1)
          have HTK := Lib.hid (show List.take j ks ++ [ks[j]] = List.take (j + 1) ks from (List.take_succ_eq_append_getElem hlt).symm)
          obtain ⟨y0, y1, y2⟩ := bx.cells
          obtain ⟨f0, f1, f2⟩ := bx.free
          obtain ⟨q0, q1, q2⟩ := qx.cells
          have hblk := hrow.block
          rw [hlen] at hown HSTEP
          have HOWN := Lib.hid hown; have HBX := Lib.hid bx; have HBLK := Lib.hid hblk
          have hbz : w.heap.size < wq.heap.size := by omega
          have HSZ := Lib.hid hsz'
          have HNE := Lib.hid (show kv.ownBlock ≠ some w.heap.size from fun e => by have := (hblk _ e).1; omega)
          clear e0 e1 e2 hx hrow bz hsz hsz' hlen hown bx hq hbw hblk hqs
          go_region_law (first | (refine step_append_lies _ (by rfl) _ _ _ (by rfl) (w.heap.size + 2) 29 i0 _ 3 48 Tryz.underlying27 hi0 hz0 hz1 hz2 rfl (by omega) _ _ _ (by rfl) HOWN3.out ⟨_, 0, none⟩ 1 1 _ (by rfl) (by rfl) (World.news_of_block (heap_alloc_new _ _)) HONE.out (by omega) (by unfold maxLen; omega) (by omega) HBS.out _ rfl ?_; intro g cap w4 hown4 hgrow hat hlt4; have HB4 := (HBX.out.later (hb3'.trans ((below_alloc1 w3 _).mono hb3'.size))).grown hgrow HNE.out; have c4 := HB4.cells.2.2; have f4 := HB4.free.2.2) | (go_simp; go_at_call 53; refine (IH.out _ _ _ HB2.out.1 HU2.out.drew HB2.out.2).mono ?_; rintro e w3 ⟨A3, C3, rfl, hti, hb3⟩; have hb3' := below_undrew hb3; have z0 := cell_later hb3' y0; have z1 := cell_later hb3' y1; have z2 := cell_later hb3' y2; have zz2 := cell_later (below_alloc1 w3 (.cells #[.int .i64 ks[j].kind, .string ks[j].name, .slice A3 ks[j].kids.length C3] 29)) z2; have HOWN3 := Lib.hid ((own_later HOWN.out hb3').alloc (.cells #[.int .i64 ks[j].kind, .string ks[j].name, .slice A3 ks[j].kids.length C3] 29)); have HONE := Lib.hid hti.one; have HBS := Lib.hid (show w.heap.size + 2 ≤ (w3.alloc (.cells #[.int .i64 ks[j].kind, .string ks[j].name, .slice A3 ks[j].kids.length C3] 29)).heap.size by rw [size_alloc1]; have := hb3'.size; have := HSZ.out; omega)))
          all_goals
            have hfin := HSTEP.out ks[j] w3 w4 _ _ _ g cap hb3' hti hown4 hgrow (hat.imp id (fun h => h.trans (size_alloc1 _ _)))
            rw [HTK.out] at hfin
            have HFIN := Lib.hid hfin
            clear hfin hgrow hown4 hti c4 f4 HB4 z0 z1 z2 zz2 hat hlt4
            go_wp2_with fail
            go_roundw
            case rel => exact ⟨j + 1, HLT.out, by go_num, HFIN.out⟩
            case measure => have := HLT.out; simp [intOf]; omega
        · obtain rfl : j = ks.length := by omega
          rw [List.take_of_length_le (Nat.le_refl _)] at hat
          obtain ⟨kv, bx, bz, hrow, hbw, hsz⟩ := hat
          obtain ⟨A4, C4, hkv, _, _⟩ := hrow.shape
          obtain ⟨y0, y1, y2⟩ := bx.cells
          obtain ⟨q0, q1, q2⟩ := bz.cells
          obtain ⟨f0, f1, f2⟩ := bz.free
          have HTM := Lib.hid (hrow.term k s h1 h2)
          have HBW := Lib.hid hbw; have HBZ := Lib.hid bz
          rw [hkv] at y2 HTM
          clear hkv hrow hbw bx bz
          go_wp2_with fail
          obtain ⟨d0, d1, d2⟩ := (box_set3 HBZ.out (.int .i64 k) (.string s) (.slice A4 ks.length C4)).cells
          refine bodyPost_ret (v := .agg #[.int .i64 k, .string s, .slice A4 ks.length C4]) (by simp [results, Tryz.results53, go_sem, d0, d1, d2]) rfl ?_
          exact ret_set3 (t := .mk k s ks) _ _ _ HBW.out (by omega) rfl rfl rfl HTM.out
end Go.Proofs.YtihbmgkbipeakaaGreat
