/- The walks of chapter 3: Parse of the program and of the reference. -/
import Derived.Test.YtelngghecmkipaaGreatDoorDatTexts
import Derived.Deep.OwnRows
import Derived.BigRegion
namespace Go.Proofs.YtelngghecmkipaaGreatDoor
open Go.RowKit

namespace Dat
/-- What a byte says as a digit. -/
def dg (b : UInt8) : Int := (b.toNat : Int) - 48
def isD (b : UInt8) : Prop := 48 ≤ (b.toNat : Int) ∧ (b.toNat : Int) ≤ 57
/-- The three numbers after k digits. -/
def ptv (b0 b1 b2 b3 b4 b5 : UInt8) (k j : Nat) : Value :=
  match j, k with
  | 0, 0 => .int .i64 0 | 0, 1 => .int .i64 (dg b0) | 0, _ => .int .i64 (10 * dg b0 + dg b1)
  | 1, 0 => .int .i64 0 | 1, 1 => .int .i64 0 | 1, 2 => .int .i64 0 | 1, 3 => .int .i64 (dg b2) | 1, _ => .int .i64 (10 * dg b2 + dg b3)
  | _, 0 => .int .i64 0 | _, 1 => .int .i64 0 | _, 2 => .int .i64 0 | _, 3 => .int .i64 0 | _, 4 => .int .i64 0 | _, 5 => .int .i64 (dg b4) | _, _ => .int .i64 (10 * dg b4 + dg b5)
def firstD (b0 b1 b2 b3 b4 b5 : UInt8) : Nat → Prop
  | 0 => True | 1 => isD b0 | 2 => isD b0 ∧ isD b1 | 3 => isD b0 ∧ isD b1 ∧ isD b2 | 4 => isD b0 ∧ isD b1 ∧ isD b2 ∧ isD b3
  | 5 => isD b0 ∧ isD b1 ∧ isD b2 ∧ isD b3 ∧ isD b4 | _ => isD b0 ∧ isD b1 ∧ isD b2 ∧ isD b3 ∧ isD b4 ∧ isD b5
def allD (b0 b1 b2 b3 b4 b5 : UInt8) : Prop := isD b0 ∧ isD b1 ∧ isD b2 ∧ isD b3 ∧ isD b4 ∧ isD b5
/-- The year of two digits, from a first one on. -/
def yr (f p : Int) : Int := if f - f % 100 + p < f then f - f % 100 + p + 100 else f - f % 100 + p
end Dat

set_option maxHeartbeats 800000 in
theorem dparse_six (s : ByteArray) (hs : s.size = 6) (f : Int) (w : World) (hw : Dat.At w) (h1 : 1900 ≤ f) (h2 : f ≤ 2000) (V E : Int)
    (hno : ¬ Dat.allD (s[0]'(by omega)) (s[1]'(by omega)) (s[2]'(by omega)) (s[3]'(by omega)) (s[4]'(by omega)) (s[5]'(by omega)) → V = 0 ∧ E = 1)
    (hyes : V = Dat.ofV (Dat.yr f (10 * Dat.dg (s[0]'(by omega)) + Dat.dg (s[1]'(by omega)))) (10 * Dat.dg (s[2]'(by omega)) + Dat.dg (s[3]'(by omega))) (10 * Dat.dg (s[4]'(by omega)) + Dat.dg (s[5]'(by omega))) ∧
      E = Dat.ofE (Dat.yr f (10 * Dat.dg (s[0]'(by omega)) + Dat.dg (s[1]'(by omega)))) (10 * Dat.dg (s[2]'(by omega)) + Dat.dg (s[3]'(by omega))) (10 * Dat.dg (s[4]'(by omega)) + Dat.dg (s[5]'(by omega))) ∨ ¬ Dat.allD (s[0]'(by omega)) (s[1]'(by omega)) (s[2]'(by omega)) (s[3]'(by omega)) (s[4]'(by omega)) (s[5]'(by omega))) :
    Calls Tryz.prog 56 #[.string s, .int .i64 f] w fun e w' => e = .returned (.tuple #[.int .i64 V, .int .i64 E]) ∧ Below w.heap.size w w' := by
  have Hno := Lib.hid hno; clear hno
  have Hyes := Lib.hid hyes; clear hyes
  have n0 : 0 < s.size := by omega
  have n1 : 1 < s.size := by omega
  have n2 : 2 < s.size := by omega
  have n3 : 3 < s.size := by omega
  have n4 : 4 < s.size := by omega
  have n5 : 5 < s.size := by omega
  go_enter Tryz.func56, Tryz.ntmps56
  go_wp2_with fail
  go_loopw [20] (fun i wr => ∃ k : Nat, k ≤ 6 ∧ i = .int .i64 k ∧ Dat.firstD s[0] s[1] s[2] s[3] s[4] s[5] k ∧ wr.rowIs w.heap.size 111 3 (Dat.ptv s[0] s[1] s[2] s[3] s[4] s[5] k) ∧ Below w.heap.size w wr) (fun i _ => 6 - (intOf i).toNat)
  case atStart => 
    refine ⟨0, by omega, rfl, trivial, (World.rowIs_alloc _ _ _ _ ?_), (Below.refl _ _).alloc (Nat.le_refl _) _⟩
    intro i hi
    have : i = 0 ∨ i = 1 ∨ i = 2 := by simp at hi; omega
    rcases this with rfl | rfl | rfl <;> rfl
  case round =>
    obtain ⟨k, hk, rfl, hfd, hrow, hb⟩ := hrel
    have : k = 0 ∨ k = 1 ∨ k = 2 ∨ k = 3 ∨ k = 4 ∨ k = 5 ∨ k = 6 := by omega
    rcases this with rfl | rfl | rfl | rfl | rfl | rfl | rfl
    · by_cases hd : 48 ≤ (s[0].toNat : Int) ∧ (s[0].toNat : Int) ≤ 57
      · obtain ⟨hd1, hd2⟩ := hd
        have c0 : wr.cell? ⟨w.heap.size, 0, none⟩ = some (.int .i64 (0)) := hrow.cell (i := 0) (by omega)
        have f0 := hrow.frozen 0
        go_wp2_with fail
        go_region
        all_goals
          go_wp2_with fail
          go_roundw
          case rel =>
            refine ⟨1, by omega, by go_num, ⟨hd1, hd2⟩, (hrow.drew.set 0 _).congr ?_, hb.drew.setCell (by simp) _⟩
            intro i hi
            have : i = 0 ∨ i = 1 ∨ i = 2 := by omega
            rcases this with rfl | rfl | rfl <;> simp [Dat.ptv, Dat.dg]
          case measure => simp [intOf]
      · have hv := Hno.out (by rintro ⟨g0, g1, g2, g3, g4, g5⟩; exact hd g0)
        obtain ⟨rfl, rfl⟩ := hv
        have hd' : (s[0].toNat : Int) < 48 ∨ 57 < (s[0].toNat : Int) := by omega
        clear hd
        rcases hd' with hd' | hd'
        all_goals
          go_wp2_with fail
          go_ret2
          exact ⟨rfl, hb⟩
    · by_cases hd : 48 ≤ (s[1].toNat : Int) ∧ (s[1].toNat : Int) ≤ 57
      · obtain ⟨hd1, hd2⟩ := hd
        have c0 : wr.cell? ⟨w.heap.size, 0, none⟩ = some (.int .i64 (Dat.dg s[0])) := hrow.cell (i := 0) (by omega)
        have f0 := hrow.frozen 0
        have hx : 0 ≤ Dat.dg s[0] ∧ Dat.dg s[0] ≤ 9 := by
          have h' : Dat.isD s[0] := hfd
          unfold Dat.isD at h'; unfold Dat.dg; omega
        go_wp2_with fail
        go_region
        all_goals
          go_wp2_with fail
          go_roundw
          case rel =>
            refine ⟨2, by omega, by go_num, ⟨hfd, hd1, hd2⟩, (hrow.drew.set 0 _).congr ?_, hb.drew.setCell (by simp) _⟩
            intro i hi
            have : i = 0 ∨ i = 1 ∨ i = 2 := by omega
            rcases this with rfl | rfl | rfl <;> simp [Dat.ptv, Dat.dg]
          case measure => simp [intOf]
      · have hv := Hno.out (by rintro ⟨g0, g1, g2, g3, g4, g5⟩; exact hd g1)
        obtain ⟨rfl, rfl⟩ := hv
        have hd' : (s[1].toNat : Int) < 48 ∨ 57 < (s[1].toNat : Int) := by omega
        clear hd
        rcases hd' with hd' | hd'
        all_goals
          go_wp2_with fail
          go_ret2
          exact ⟨rfl, hb⟩
    · by_cases hd : 48 ≤ (s[2].toNat : Int) ∧ (s[2].toNat : Int) ≤ 57
      · obtain ⟨hd1, hd2⟩ := hd
        have c0 : wr.cell? ⟨w.heap.size, 1, none⟩ = some (.int .i64 (0)) := hrow.cell (i := 1) (by omega)
        have f0 := hrow.frozen 1
        go_wp2_with fail
        go_region
        all_goals
          go_wp2_with fail
          go_roundw
          case rel =>
            refine ⟨3, by omega, by go_num, ⟨hfd.1, hfd.2, hd1, hd2⟩, (hrow.drew.set 1 _).congr ?_, hb.drew.setCell (by simp) _⟩
            intro i hi
            have : i = 0 ∨ i = 1 ∨ i = 2 := by omega
            rcases this with rfl | rfl | rfl <;> simp [Dat.ptv, Dat.dg]
          case measure => simp [intOf]
      · have hv := Hno.out (by rintro ⟨g0, g1, g2, g3, g4, g5⟩; exact hd g2)
        obtain ⟨rfl, rfl⟩ := hv
        have hd' : (s[2].toNat : Int) < 48 ∨ 57 < (s[2].toNat : Int) := by omega
        clear hd
        rcases hd' with hd' | hd'
        all_goals
          go_wp2_with fail
          go_ret2
          exact ⟨rfl, hb⟩
    · by_cases hd : 48 ≤ (s[3].toNat : Int) ∧ (s[3].toNat : Int) ≤ 57
      · obtain ⟨hd1, hd2⟩ := hd
        have c0 : wr.cell? ⟨w.heap.size, 1, none⟩ = some (.int .i64 (Dat.dg s[2])) := hrow.cell (i := 1) (by omega)
        have f0 := hrow.frozen 1
        have hx : 0 ≤ Dat.dg s[2] ∧ Dat.dg s[2] ≤ 9 := by
          have h' : Dat.isD s[2] := hfd.2.2
          unfold Dat.isD at h'; unfold Dat.dg; omega
        go_wp2_with fail
        go_region
        all_goals
          go_wp2_with fail
          go_roundw
          case rel =>
            refine ⟨4, by omega, by go_num, ⟨hfd.1, hfd.2.1, hfd.2.2, hd1, hd2⟩, (hrow.drew.set 1 _).congr ?_, hb.drew.setCell (by simp) _⟩
            intro i hi
            have : i = 0 ∨ i = 1 ∨ i = 2 := by omega
            rcases this with rfl | rfl | rfl <;> simp [Dat.ptv, Dat.dg]
          case measure => simp [intOf]
      · have hv := Hno.out (by rintro ⟨g0, g1, g2, g3, g4, g5⟩; exact hd g3)
        obtain ⟨rfl, rfl⟩ := hv
        have hd' : (s[3].toNat : Int) < 48 ∨ 57 < (s[3].toNat : Int) := by omega
        clear hd
        rcases hd' with hd' | hd'
        all_goals
          go_wp2_with fail
          go_ret2
          exact ⟨rfl, hb⟩
    · by_cases hd : 48 ≤ (s[4].toNat : Int) ∧ (s[4].toNat : Int) ≤ 57
      · obtain ⟨hd1, hd2⟩ := hd
        have c0 : wr.cell? ⟨w.heap.size, 2, none⟩ = some (.int .i64 (0)) := hrow.cell (i := 2) (by omega)
        have f0 := hrow.frozen 2
        go_wp2_with fail
        go_region
        all_goals
          go_wp2_with fail
          go_roundw
          case rel =>
            refine ⟨5, by omega, by go_num, ⟨hfd.1, hfd.2.1, hfd.2.2.1, hfd.2.2.2, hd1, hd2⟩, (hrow.drew.set 2 _).congr ?_, hb.drew.setCell (by simp) _⟩
            intro i hi
            have : i = 0 ∨ i = 1 ∨ i = 2 := by omega
            rcases this with rfl | rfl | rfl <;> simp [Dat.ptv, Dat.dg]
          case measure => simp [intOf]
      · have hv := Hno.out (by rintro ⟨g0, g1, g2, g3, g4, g5⟩; exact hd g4)
        obtain ⟨rfl, rfl⟩ := hv
        have hd' : (s[4].toNat : Int) < 48 ∨ 57 < (s[4].toNat : Int) := by omega
        clear hd
        rcases hd' with hd' | hd'
        all_goals
          go_wp2_with fail
          go_ret2
          exact ⟨rfl, hb⟩
    · by_cases hd : 48 ≤ (s[5].toNat : Int) ∧ (s[5].toNat : Int) ≤ 57
      · obtain ⟨hd1, hd2⟩ := hd
        have c0 : wr.cell? ⟨w.heap.size, 2, none⟩ = some (.int .i64 (Dat.dg s[4])) := hrow.cell (i := 2) (by omega)
        have f0 := hrow.frozen 2
        have hx : 0 ≤ Dat.dg s[4] ∧ Dat.dg s[4] ≤ 9 := by
          have h' : Dat.isD s[4] := hfd.2.2.2.2
          unfold Dat.isD at h'; unfold Dat.dg; omega
        go_wp2_with fail
        go_region
        all_goals
          go_wp2_with fail
          go_roundw
          case rel =>
            refine ⟨6, by omega, by go_num, ⟨hfd.1, hfd.2.1, hfd.2.2.1, hfd.2.2.2.1, hfd.2.2.2.2, hd1, hd2⟩, (hrow.drew.set 2 _).congr ?_, hb.drew.setCell (by simp) _⟩
            intro i hi
            have : i = 0 ∨ i = 1 ∨ i = 2 := by omega
            rcases this with rfl | rfl | rfl <;> simp [Dat.ptv, Dat.dg]
          case measure => simp [intOf]
      · have hv := Hno.out (by rintro ⟨g0, g1, g2, g3, g4, g5⟩; exact hd g5)
        obtain ⟨rfl, rfl⟩ := hv
        have hd' : (s[5].toNat : Int) < 48 ∨ 57 < (s[5].toNat : Int) := by omega
        clear hd
        rcases hd' with hd' | hd'
        all_goals
          go_wp2_with fail
          go_ret2
          exact ⟨rfl, hb⟩
    · have hall : Dat.allD s[0] s[1] s[2] s[3] s[4] s[5] := hfd
      have hv := Hyes.out.resolve_right (fun h => h hall)
      obtain ⟨a0, a1, a2, a3, a4, a5⟩ := hall
      have p0 : 0 ≤ 10 * Dat.dg s[0] + Dat.dg s[1] ∧ 10 * Dat.dg s[0] + Dat.dg s[1] ≤ 99 := by unfold Dat.isD at a0 a1; unfold Dat.dg; omega
      have p1 : 0 ≤ 10 * Dat.dg s[2] + Dat.dg s[3] ∧ 10 * Dat.dg s[2] + Dat.dg s[3] ≤ 99 := by unfold Dat.isD at a2 a3; unfold Dat.dg; omega
      have p2 : 0 ≤ 10 * Dat.dg s[4] + Dat.dg s[5] ∧ 10 * Dat.dg s[4] + Dat.dg s[5] ≤ 99 := by unfold Dat.isD at a4 a5; unfold Dat.dg; omega
      have c0 : wr.cell? ⟨w.heap.size, 0, none⟩ = some (.int .i64 (10 * Dat.dg s[0] + Dat.dg s[1])) := hrow.cell (i := 0) (by omega)
      have c1 : wr.cell? ⟨w.heap.size, 1, none⟩ = some (.int .i64 (10 * Dat.dg s[2] + Dat.dg s[3])) := hrow.cell (i := 1) (by omega)
      have c2 : wr.cell? ⟨w.heap.size, 2, none⟩ = some (.int .i64 (10 * Dat.dg s[4] + Dat.dg s[5])) := hrow.cell (i := 2) (by omega)
      generalize 10 * Dat.dg s[0] + Dat.dg s[1] = P0 at *
      generalize 10 * Dat.dg s[2] + Dat.dg s[3] = P1 at *
      generalize 10 * Dat.dg s[4] + Dat.dg s[5] = P2 at *
      clear hrow hfd a0 a1 a2 a3 a4 a5
      by_cases hy : f - f % 100 + P0 < f
      · have ey : Dat.yr f P0 = f - f % 100 + P0 + 100 := if_pos hy
        rw [ey] at hv; clear ey
        obtain ⟨rfl, rfl⟩ := hv
        go_wp2_with fail
        refine (dof_any _ _ _ _ (hw.below hb)).mono ?_; rintro e w' ⟨rfl, rfl⟩
        go_wp2_with fail
        go_ret2
        exact ⟨rfl, hb⟩
      · have ey : Dat.yr f P0 = f - f % 100 + P0 := if_neg hy
        rw [ey] at hv; clear ey
        obtain ⟨rfl, rfl⟩ := hv
        go_wp2_with fail
        refine (dof_any _ _ _ _ (hw.below hb)).mono ?_; rintro e w' ⟨rfl, rfl⟩
        go_wp2_with fail
        go_ret2
        exact ⟨rfl, hb⟩

set_option maxHeartbeats 800000 in
theorem rparse_six (s : ByteArray) (hs : s.size = 6) (f : Int) (w : World) (h1 : 1900 ≤ f) (h2 : f ≤ 2000) (V E : Int)
    (hno : ¬ Dat.allD (s[0]'(by omega)) (s[1]'(by omega)) (s[2]'(by omega)) (s[3]'(by omega)) (s[4]'(by omega)) (s[5]'(by omega)) → V = 0 ∧ E = 1)
    (hyes : V = Dat.ofV (Dat.yr f (10 * Dat.dg (s[0]'(by omega)) + Dat.dg (s[1]'(by omega)))) (10 * Dat.dg (s[2]'(by omega)) + Dat.dg (s[3]'(by omega))) (10 * Dat.dg (s[4]'(by omega)) + Dat.dg (s[5]'(by omega))) ∧
      E = Dat.ofE (Dat.yr f (10 * Dat.dg (s[0]'(by omega)) + Dat.dg (s[1]'(by omega)))) (10 * Dat.dg (s[2]'(by omega)) + Dat.dg (s[3]'(by omega))) (10 * Dat.dg (s[4]'(by omega)) + Dat.dg (s[5]'(by omega))) ∨ ¬ Dat.allD (s[0]'(by omega)) (s[1]'(by omega)) (s[2]'(by omega)) (s[3]'(by omega)) (s[4]'(by omega)) (s[5]'(by omega))) :
    Calls Tryz.prog 67 #[.string s, .int .i64 f] w fun e w' => e = .returned (.tuple #[.int .i64 V, .int .i64 E]) ∧ Below w.heap.size w w' := by
  have Hno := Lib.hid hno; clear hno
  have Hyes := Lib.hid hyes; clear hyes
  have n0 : 0 < s.size := by omega
  have n1 : 1 < s.size := by omega
  have n2 : 2 < s.size := by omega
  have n3 : 3 < s.size := by omega
  have n4 : 4 < s.size := by omega
  have n5 : 5 < s.size := by omega
  go_enter Tryz.func67, Tryz.ntmps67
  go_wp2_with fail
  go_loopw [7] (fun i wr => ∃ k : Nat, k ≤ 6 ∧ i = .int .i64 k ∧ Dat.firstD s[0] s[1] s[2] s[3] s[4] s[5] k ∧ wr.rowIs w.heap.size 111 3 (Dat.ptv s[0] s[1] s[2] s[3] s[4] s[5] k) ∧ Below w.heap.size w wr) (fun i _ => 6 - (intOf i).toNat)
  case atStart => 
    refine ⟨0, by omega, rfl, trivial, (World.rowIs_alloc _ _ _ _ ?_), (Below.refl _ _).alloc (Nat.le_refl _) _⟩
    intro i hi
    have : i = 0 ∨ i = 1 ∨ i = 2 := by simp at hi; omega
    rcases this with rfl | rfl | rfl <;> rfl
  case round =>
    obtain ⟨k, hk, rfl, hfd, hrow, hb⟩ := hrel
    have : k = 0 ∨ k = 1 ∨ k = 2 ∨ k = 3 ∨ k = 4 ∨ k = 5 ∨ k = 6 := by omega
    rcases this with rfl | rfl | rfl | rfl | rfl | rfl | rfl
    · by_cases hd : 48 ≤ (s[0].toNat : Int) ∧ (s[0].toNat : Int) ≤ 57
      · obtain ⟨hd1, hd2⟩ := hd
        have c0 : wr.cell? ⟨w.heap.size, 0, none⟩ = some (.int .i64 (0)) := hrow.cell (i := 0) (by omega)
        have f0 := hrow.frozen 0
        go_wp2_with fail
        go_region
        all_goals
          go_wp2_with fail
          go_roundw
          case rel =>
            refine ⟨1, by omega, by go_num, ⟨hd1, hd2⟩, (hrow.drew.set 0 _).congr ?_, hb.drew.setCell (by simp) _⟩
            intro i hi
            have : i = 0 ∨ i = 1 ∨ i = 2 := by omega
            rcases this with rfl | rfl | rfl <;> simp [Dat.ptv, Dat.dg]
          case measure => simp [intOf]
      · have hv := Hno.out (by rintro ⟨g0, g1, g2, g3, g4, g5⟩; exact hd g0)
        obtain ⟨rfl, rfl⟩ := hv
        have hd' : (s[0].toNat : Int) < 48 ∨ 57 < (s[0].toNat : Int) := by omega
        clear hd
        rcases hd' with hd' | hd'
        all_goals
          go_wp2_with fail
          go_ret2
          exact ⟨rfl, hb⟩
    · by_cases hd : 48 ≤ (s[1].toNat : Int) ∧ (s[1].toNat : Int) ≤ 57
      · obtain ⟨hd1, hd2⟩ := hd
        have c0 : wr.cell? ⟨w.heap.size, 0, none⟩ = some (.int .i64 (Dat.dg s[0])) := hrow.cell (i := 0) (by omega)
        have f0 := hrow.frozen 0
        have hx : 0 ≤ Dat.dg s[0] ∧ Dat.dg s[0] ≤ 9 := by
          have h' : Dat.isD s[0] := hfd
          unfold Dat.isD at h'; unfold Dat.dg; omega
        go_wp2_with fail
        go_region
        all_goals
          go_wp2_with fail
          go_roundw
          case rel =>
            refine ⟨2, by omega, by go_num, ⟨hfd, hd1, hd2⟩, (hrow.drew.set 0 _).congr ?_, hb.drew.setCell (by simp) _⟩
            intro i hi
            have : i = 0 ∨ i = 1 ∨ i = 2 := by omega
            rcases this with rfl | rfl | rfl <;> simp [Dat.ptv, Dat.dg]
          case measure => simp [intOf]
      · have hv := Hno.out (by rintro ⟨g0, g1, g2, g3, g4, g5⟩; exact hd g1)
        obtain ⟨rfl, rfl⟩ := hv
        have hd' : (s[1].toNat : Int) < 48 ∨ 57 < (s[1].toNat : Int) := by omega
        clear hd
        rcases hd' with hd' | hd'
        all_goals
          go_wp2_with fail
          go_ret2
          exact ⟨rfl, hb⟩
    · by_cases hd : 48 ≤ (s[2].toNat : Int) ∧ (s[2].toNat : Int) ≤ 57
      · obtain ⟨hd1, hd2⟩ := hd
        have c0 : wr.cell? ⟨w.heap.size, 1, none⟩ = some (.int .i64 (0)) := hrow.cell (i := 1) (by omega)
        have f0 := hrow.frozen 1
        go_wp2_with fail
        go_region
        all_goals
          go_wp2_with fail
          go_roundw
          case rel =>
            refine ⟨3, by omega, by go_num, ⟨hfd.1, hfd.2, hd1, hd2⟩, (hrow.drew.set 1 _).congr ?_, hb.drew.setCell (by simp) _⟩
            intro i hi
            have : i = 0 ∨ i = 1 ∨ i = 2 := by omega
            rcases this with rfl | rfl | rfl <;> simp [Dat.ptv, Dat.dg]
          case measure => simp [intOf]
      · have hv := Hno.out (by rintro ⟨g0, g1, g2, g3, g4, g5⟩; exact hd g2)
        obtain ⟨rfl, rfl⟩ := hv
        have hd' : (s[2].toNat : Int) < 48 ∨ 57 < (s[2].toNat : Int) := by omega
        clear hd
        rcases hd' with hd' | hd'
        all_goals
          go_wp2_with fail
          go_ret2
          exact ⟨rfl, hb⟩
    · by_cases hd : 48 ≤ (s[3].toNat : Int) ∧ (s[3].toNat : Int) ≤ 57
      · obtain ⟨hd1, hd2⟩ := hd
        have c0 : wr.cell? ⟨w.heap.size, 1, none⟩ = some (.int .i64 (Dat.dg s[2])) := hrow.cell (i := 1) (by omega)
        have f0 := hrow.frozen 1
        have hx : 0 ≤ Dat.dg s[2] ∧ Dat.dg s[2] ≤ 9 := by
          have h' : Dat.isD s[2] := hfd.2.2
          unfold Dat.isD at h'; unfold Dat.dg; omega
        go_wp2_with fail
        go_region
        all_goals
          go_wp2_with fail
          go_roundw
          case rel =>
            refine ⟨4, by omega, by go_num, ⟨hfd.1, hfd.2.1, hfd.2.2, hd1, hd2⟩, (hrow.drew.set 1 _).congr ?_, hb.drew.setCell (by simp) _⟩
            intro i hi
            have : i = 0 ∨ i = 1 ∨ i = 2 := by omega
            rcases this with rfl | rfl | rfl <;> simp [Dat.ptv, Dat.dg]
          case measure => simp [intOf]
      · have hv := Hno.out (by rintro ⟨g0, g1, g2, g3, g4, g5⟩; exact hd g3)
        obtain ⟨rfl, rfl⟩ := hv
        have hd' : (s[3].toNat : Int) < 48 ∨ 57 < (s[3].toNat : Int) := by omega
        clear hd
        rcases hd' with hd' | hd'
        all_goals
          go_wp2_with fail
          go_ret2
          exact ⟨rfl, hb⟩
    · by_cases hd : 48 ≤ (s[4].toNat : Int) ∧ (s[4].toNat : Int) ≤ 57
      · obtain ⟨hd1, hd2⟩ := hd
        have c0 : wr.cell? ⟨w.heap.size, 2, none⟩ = some (.int .i64 (0)) := hrow.cell (i := 2) (by omega)
        have f0 := hrow.frozen 2
        go_wp2_with fail
        go_region
        all_goals
          go_wp2_with fail
          go_roundw
          case rel =>
            refine ⟨5, by omega, by go_num, ⟨hfd.1, hfd.2.1, hfd.2.2.1, hfd.2.2.2, hd1, hd2⟩, (hrow.drew.set 2 _).congr ?_, hb.drew.setCell (by simp) _⟩
            intro i hi
            have : i = 0 ∨ i = 1 ∨ i = 2 := by omega
            rcases this with rfl | rfl | rfl <;> simp [Dat.ptv, Dat.dg]
          case measure => simp [intOf]
      · have hv := Hno.out (by rintro ⟨g0, g1, g2, g3, g4, g5⟩; exact hd g4)
        obtain ⟨rfl, rfl⟩ := hv
        have hd' : (s[4].toNat : Int) < 48 ∨ 57 < (s[4].toNat : Int) := by omega
        clear hd
        rcases hd' with hd' | hd'
        all_goals
          go_wp2_with fail
          go_ret2
          exact ⟨rfl, hb⟩
    · by_cases hd : 48 ≤ (s[5].toNat : Int) ∧ (s[5].toNat : Int) ≤ 57
      · obtain ⟨hd1, hd2⟩ := hd
        have c0 : wr.cell? ⟨w.heap.size, 2, none⟩ = some (.int .i64 (Dat.dg s[4])) := hrow.cell (i := 2) (by omega)
        have f0 := hrow.frozen 2
        have hx : 0 ≤ Dat.dg s[4] ∧ Dat.dg s[4] ≤ 9 := by
          have h' : Dat.isD s[4] := hfd.2.2.2.2
          unfold Dat.isD at h'; unfold Dat.dg; omega
        go_wp2_with fail
        go_region
        all_goals
          go_wp2_with fail
          go_roundw
          case rel =>
            refine ⟨6, by omega, by go_num, ⟨hfd.1, hfd.2.1, hfd.2.2.1, hfd.2.2.2.1, hfd.2.2.2.2, hd1, hd2⟩, (hrow.drew.set 2 _).congr ?_, hb.drew.setCell (by simp) _⟩
            intro i hi
            have : i = 0 ∨ i = 1 ∨ i = 2 := by omega
            rcases this with rfl | rfl | rfl <;> simp [Dat.ptv, Dat.dg]
          case measure => simp [intOf]
      · have hv := Hno.out (by rintro ⟨g0, g1, g2, g3, g4, g5⟩; exact hd g5)
        obtain ⟨rfl, rfl⟩ := hv
        have hd' : (s[5].toNat : Int) < 48 ∨ 57 < (s[5].toNat : Int) := by omega
        clear hd
        rcases hd' with hd' | hd'
        all_goals
          go_wp2_with fail
          go_ret2
          exact ⟨rfl, hb⟩
    · have hall : Dat.allD s[0] s[1] s[2] s[3] s[4] s[5] := hfd
      have hv := Hyes.out.resolve_right (fun h => h hall)
      obtain ⟨a0, a1, a2, a3, a4, a5⟩ := hall
      have p0 : 0 ≤ 10 * Dat.dg s[0] + Dat.dg s[1] ∧ 10 * Dat.dg s[0] + Dat.dg s[1] ≤ 99 := by unfold Dat.isD at a0 a1; unfold Dat.dg; omega
      have p1 : 0 ≤ 10 * Dat.dg s[2] + Dat.dg s[3] ∧ 10 * Dat.dg s[2] + Dat.dg s[3] ≤ 99 := by unfold Dat.isD at a2 a3; unfold Dat.dg; omega
      have p2 : 0 ≤ 10 * Dat.dg s[4] + Dat.dg s[5] ∧ 10 * Dat.dg s[4] + Dat.dg s[5] ≤ 99 := by unfold Dat.isD at a4 a5; unfold Dat.dg; omega
      have c0 : wr.cell? ⟨w.heap.size, 0, none⟩ = some (.int .i64 (10 * Dat.dg s[0] + Dat.dg s[1])) := hrow.cell (i := 0) (by omega)
      have c1 : wr.cell? ⟨w.heap.size, 1, none⟩ = some (.int .i64 (10 * Dat.dg s[2] + Dat.dg s[3])) := hrow.cell (i := 1) (by omega)
      have c2 : wr.cell? ⟨w.heap.size, 2, none⟩ = some (.int .i64 (10 * Dat.dg s[4] + Dat.dg s[5])) := hrow.cell (i := 2) (by omega)
      generalize 10 * Dat.dg s[0] + Dat.dg s[1] = P0 at *
      generalize 10 * Dat.dg s[2] + Dat.dg s[3] = P1 at *
      generalize 10 * Dat.dg s[4] + Dat.dg s[5] = P2 at *
      clear hrow hfd a0 a1 a2 a3 a4 a5
      by_cases hy : f - f % 100 + P0 < f
      · have ey : Dat.yr f P0 = f - f % 100 + P0 + 100 := if_pos hy
        rw [ey] at hv; clear ey
        obtain ⟨rfl, rfl⟩ := hv
        go_wp2_with fail
        refine (rof_any _ _ _ _).mono ?_; rintro e w' ⟨rfl, rfl⟩
        go_wp2_with fail
        go_ret2
        exact ⟨rfl, hb⟩
      · have ey : Dat.yr f P0 = f - f % 100 + P0 := if_neg hy
        rw [ey] at hv; clear ey
        obtain ⟨rfl, rfl⟩ := hv
        go_wp2_with fail
        refine (rof_any _ _ _ _).mono ?_; rintro e w' ⟨rfl, rfl⟩
        go_wp2_with fail
        go_ret2
        exact ⟨rfl, hb⟩

namespace Dat
/-- What Parse gives. -/
noncomputable def prV (s : ByteArray) (f : Int) : Int := open Classical in
  if h : 1900 ≤ f ∧ f ≤ 2000 ∧ s.size = 6 then
    if allD (s[0]'(by omega)) (s[1]'(by omega)) (s[2]'(by omega)) (s[3]'(by omega)) (s[4]'(by omega)) (s[5]'(by omega)) then
      ofV (yr f (10 * dg (s[0]'(by omega)) + dg (s[1]'(by omega)))) (10 * dg (s[2]'(by omega)) + dg (s[3]'(by omega))) (10 * dg (s[4]'(by omega)) + dg (s[5]'(by omega)))
    else 0
  else 0
noncomputable def prE (s : ByteArray) (f : Int) : Int := open Classical in
  if f < 1900 ∨ 2000 < f then 3 else
  if h : s.size = 6 then
    if allD (s[0]'(by omega)) (s[1]'(by omega)) (s[2]'(by omega)) (s[3]'(by omega)) (s[4]'(by omega)) (s[5]'(by omega)) then
      ofE (yr f (10 * dg (s[0]'(by omega)) + dg (s[1]'(by omega)))) (10 * dg (s[2]'(by omega)) + dg (s[3]'(by omega))) (10 * dg (s[4]'(by omega)) + dg (s[5]'(by omega)))
    else 1
  else 1
theorem pr_no {s : ByteArray} {f : Int} (h1 : 1900 ≤ f) (h2 : f ≤ 2000) (hs : s.size = 6) (h : ¬ allD (s[0]'(by omega)) (s[1]'(by omega)) (s[2]'(by omega)) (s[3]'(by omega)) (s[4]'(by omega)) (s[5]'(by omega))) : prV s f = 0 ∧ prE s f = 1 := by
  unfold prV prE
  rw [dif_pos ⟨h1, h2, hs⟩, if_neg h, if_neg (by omega), dif_pos hs, if_neg h]
  exact ⟨rfl, rfl⟩
theorem pr_yes {s : ByteArray} {f : Int} (h1 : 1900 ≤ f) (h2 : f ≤ 2000) (hs : s.size = 6) (h : allD (s[0]'(by omega)) (s[1]'(by omega)) (s[2]'(by omega)) (s[3]'(by omega)) (s[4]'(by omega)) (s[5]'(by omega))) :
    prV s f = ofV (yr f (10 * dg (s[0]'(by omega)) + dg (s[1]'(by omega)))) (10 * dg (s[2]'(by omega)) + dg (s[3]'(by omega))) (10 * dg (s[4]'(by omega)) + dg (s[5]'(by omega))) ∧
    prE s f = ofE (yr f (10 * dg (s[0]'(by omega)) + dg (s[1]'(by omega)))) (10 * dg (s[2]'(by omega)) + dg (s[3]'(by omega))) (10 * dg (s[4]'(by omega)) + dg (s[5]'(by omega))) := by
  unfold prV prE
  rw [dif_pos ⟨h1, h2, hs⟩, if_pos h, if_neg (by omega), dif_pos hs, if_pos h]
  exact ⟨rfl, rfl⟩
end Dat

set_option maxHeartbeats 800000 in
theorem dparse_any (s : ByteArray) (f : Int) (w : World) (hw : Dat.At w) :
    Calls Tryz.prog 56 #[.string s, .int .i64 f] w fun e w' => e = .returned (.tuple #[.int .i64 (Dat.prV s f), .int .i64 (Dat.prE s f)]) ∧ Below w.heap.size w w' := by
  by_cases c1 : f < 1900
  · have e1 : Dat.prV s f = 0 := dif_neg (by omega)
    have e2 : Dat.prE s f = 3 := if_pos (.inl c1)
    rw [e1, e2]; clear e1 e2
    go_enter Tryz.func56, Tryz.ntmps56
    go_wp2_with fail
    go_ret2
    exact ⟨rfl, Below.refl _ _⟩
  by_cases c2 : 2000 < f
  · have e1 : Dat.prV s f = 0 := dif_neg (by omega)
    have e2 : Dat.prE s f = 3 := if_pos (.inr c2)
    rw [e1, e2]; clear e1 e2
    go_enter Tryz.func56, Tryz.ntmps56
    go_wp2_with fail
    go_ret2
    exact ⟨rfl, Below.refl _ _⟩
  by_cases hs : s.size = 6
  · refine dparse_six s hs f w hw (by omega) (by omega) _ _ (fun h => Dat.pr_no (by omega) (by omega) hs h) ?_
    by_cases h : Dat.allD (s[0]'(by omega)) (s[1]'(by omega)) (s[2]'(by omega)) (s[3]'(by omega)) (s[4]'(by omega)) (s[5]'(by omega))
    · exact .inl (Dat.pr_yes (by omega) (by omega) hs h)
    · exact .inr h
  · have e1 : Dat.prV s f = 0 := dif_neg (by omega)
    have e2 : Dat.prE s f = 1 := (if_neg (by omega)).trans (dif_neg hs)
    rw [e1, e2]; clear e1 e2
    have hs1 : ((s.size : Int) != 6) = true := by simp; omega
    have hs2 : ((s.size : Int) == 6) = false := by simp; omega
    clear hs
    go_enter Tryz.func56, Tryz.ntmps56
    go_wp2_with fail
    go_ret2
    exact ⟨rfl, Below.refl _ _⟩

set_option maxHeartbeats 800000 in
theorem rparse_any (s : ByteArray) (f : Int) (w : World) :
    Calls Tryz.prog 67 #[.string s, .int .i64 f] w fun e w' => e = .returned (.tuple #[.int .i64 (Dat.prV s f), .int .i64 (Dat.prE s f)]) ∧ Below w.heap.size w w' := by
  by_cases c1 : f < 1900
  · have e1 : Dat.prV s f = 0 := dif_neg (by omega)
    have e2 : Dat.prE s f = 3 := if_pos (.inl c1)
    rw [e1, e2]; clear e1 e2
    go_enter Tryz.func67, Tryz.ntmps67
    go_wp2_with fail
    go_ret2
    exact ⟨rfl, Below.refl _ _⟩
  by_cases c2 : 2000 < f
  · have e1 : Dat.prV s f = 0 := dif_neg (by omega)
    have e2 : Dat.prE s f = 3 := if_pos (.inr c2)
    rw [e1, e2]; clear e1 e2
    go_enter Tryz.func67, Tryz.ntmps67
    go_wp2_with fail
    go_ret2
    exact ⟨rfl, Below.refl _ _⟩
  by_cases hs : s.size = 6
  · refine rparse_six s hs f w (by omega) (by omega) _ _ (fun h => Dat.pr_no (by omega) (by omega) hs h) ?_
    by_cases h : Dat.allD (s[0]'(by omega)) (s[1]'(by omega)) (s[2]'(by omega)) (s[3]'(by omega)) (s[4]'(by omega)) (s[5]'(by omega))
    · exact .inl (Dat.pr_yes (by omega) (by omega) hs h)
    · exact .inr h
  · have e1 : Dat.prV s f = 0 := dif_neg (by omega)
    have e2 : Dat.prE s f = 1 := (if_neg (by omega)).trans (dif_neg hs)
    rw [e1, e2]; clear e1 e2
    have hs1 : ((s.size : Int) != 6) = true := by simp; omega
    have hs2 : ((s.size : Int) == 6) = false := by simp; omega
    clear hs
    go_enter Tryz.func67, Tryz.ntmps67
    go_wp2_with fail
    go_ret2
    exact ⟨rfl, Below.refl _ _⟩
end Go.Proofs.YtelngghecmkipaaGreatDoor
