/- Chapter 11: the small functions of the reference's Build. -/
import Derived.Test.YtelngghecmkipaaGreatDoorZonRValid
import Derived.Test.YtelngghecmkipaaGreatDoorZonBld
namespace Go.Proofs.YtelngghecmkipaaGreatDoor
open Go.RowKit
namespace Zn
def wS (s : ByteArray) (n : Nat) : ByteArray := ⟨(s.data.toList ++ List.replicate (n - s.size) 60).toArray⟩
theorem wS_size {s : ByteArray} {n : Nat} (h : s.size ≤ n) : (wS s n).size = n := by
  unfold wS; rw [arr_size, List.length_append, List.length_replicate, Opt.size_len]; omega
theorem wS_le (s : ByteArray) (n : Nat) : (wS s n).size ≤ s.size + n := by
  unfold wS; rw [arr_size, List.length_append, List.length_replicate, Opt.size_len]; omega
def ckS (s : ByteArray) : ByteArray := s ++ Opt.digS s
def nuA (n : ByteArray) : ByteArray := if n.size ≤ 9 then ckS (wS n 9) else n.extract 0 9 ++ ⟨#[60]⟩
def nuB (n : ByteArray) : ByteArray := if n.size ≤ 9 then ⟨#[]⟩ else n.extract 9 n.size ++ Opt.digS n ++ ⟨#[60]⟩
end Zn
theorem rwideS (s : ByteArray) (n : Nat) (w : World) (h : n ≤ 64) :
    Calls Tryz.prog 51 #[.string s, .int .i64 n] w fun e w' => e = .returned (.string (Zn.wS s n)) ∧ Below w.heap.size w w' := by
  have h1 := rwide s.data.toList n w (by omega) (by omega)
  rw [Int.toNat_natCast, Opt.size_len] at h1
  exact h1.mono fun e w' ⟨h2, h3⟩ => ⟨h2, h3 ▸ Below.refl _ _⟩
set_option maxHeartbeats 400000 in
theorem rchecked (s : ByteArray) (w : World) (hs : s.size ≤ 140737488351232) :
    Calls Tryz.prog 53 #[.string s] w fun e w' => e = .returned (.string (Zn.ckS s)) ∧ Below w.heap.size w w' := by
  have HD := Lib.hid (rdigit s w hs)
  have h1 := digS_one s
  unfold Zn.ckS
  generalize Opt.digS s = D at HD h1 ⊢
  generalize Opt.digE s = E at HD
  have s1 : ¬ (9223372036854775807 < s.size + D.size) := by omega
  go_enter Tryz.func53, Tryz.ntmps53
  go_wp2_with fail
  refine HD.out.mono ?_; rintro e w1 ⟨rfl, hb⟩
  go_wp2_with fail
  go_ret
  exact ⟨rfl, hb⟩
set_option maxRecDepth 100000 in
set_option maxHeartbeats 1000000 in
theorem rnumber (n : ByteArray) (w : World) (hs : n.size ≤ 140737488351000) :
    Calls Tryz.prog 52 #[.string n] w fun e w' => e = .returned (.tuple #[.string (Zn.nuA n), .string (Zn.nuB n)]) ∧ Below w.heap.size w w' := by
  by_cases h9 : n.size ≤ 9
  · have eA : Zn.nuA n = Zn.ckS (Zn.wS n 9) := if_pos h9
    have eB : Zn.nuB n = ⟨#[]⟩ := if_pos h9
    rw [eA, eB]
    have hz := Zn.wS_size h9
    have HW := Lib.hid (fun W => rwideS n 9 W (by omega))
    generalize Zn.wS n 9 = X at HW hz ⊢
    have HC := Lib.hid (fun W => rchecked X W (by omega))
    generalize Zn.ckS X = Y at HC ⊢
    clear eA eB hz
    have e1 : (n.size : Int) ≤ 9 := by omega
    go_enter Tryz.func52, Tryz.ntmps52
    go_wp2_with fail
    refine (HW.out _).mono ?_; rintro e w1 ⟨rfl, hb1⟩
    have HB1 := Lib.hid hb1; clear hb1
    go_wp2_with fail
    refine (HC.out _).mono ?_; rintro e w2 ⟨rfl, hb2⟩
    have HB2 := Lib.hid (HB1.out.trans (hb2.mono HB1.out.size)); clear hb2
    go_wp2_with fail
    go_ret2
    exact ⟨rfl, HB2.out⟩
  · have eA : Zn.nuA n = n.extract 0 9 ++ ⟨#[60]⟩ := if_neg h9
    have eB : Zn.nuB n = n.extract 9 n.size ++ Opt.digS n ++ ⟨#[60]⟩ := if_neg h9
    rw [eA, eB]
    have HD := Lib.hid (rdigit n w (by omega))
    have h1 := digS_one n
    generalize Opt.digS n = D at HD h1 ⊢
    generalize Opt.digE n = E at HD
    have z1 : (n.extract 0 9).size ≤ 9 := by rw [ByteArray.size_extract]; omega
    have z2 : (n.extract 9 n.size).size ≤ n.size := by rw [ByteArray.size_extract]; omega
    have e1 : ¬ ((n.size : Int) ≤ 9) := by omega
    have e2 : (9 : Int) ≤ (n.size : Int) := by omega
    have s1 : ¬ (9223372036854775807 < (n.extract 0 9).size + 1) := by omega
    have s2 : ¬ (9223372036854775807 < (n.extract 9 n.size).size + D.size) := by omega
    have s3 : ¬ (9223372036854775807 < (n.extract 9 n.size).size + D.size + 1) := by omega
    clear eA eB z1 z2
    go_enter Tryz.func52, Tryz.ntmps52
    go_wp2_with fail
    refine HD.out.mono ?_; rintro e w1 ⟨rfl, hb⟩
    have HB := Lib.hid hb; clear hb
    go_wp2_with fail
    go_quiet (fail)
    go_wp2_with fail
    go_ret2
    exact ⟨rfl, below_drewN HB.out _⟩
end Go.Proofs.YtelngghecmkipaaGreatDoor
