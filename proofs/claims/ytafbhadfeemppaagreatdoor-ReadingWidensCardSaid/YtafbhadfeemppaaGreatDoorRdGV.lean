/- Chapter 12: several texts in one (RdMay, RdKind, RdWidP, RdWid, RdWidO, RdWidW, RdTin, RdWidV, RdLaw7). -/
import Derived.Test.YtafbhadfeemppaaGreatDoorRdGA
import Derived.Test.YtafbhadfeemppaaGreatDoorMade
import Derived.Test.YtafbhadfeemppaaGreatDoorRdGF
import Derived.Test.YtafbhadfeemppaaGreatDoorZonRSmall
import Derived.Test.YtafbhadfeemppaaGreatDoorRdGL
import Derived.Test.YtafbhadfeemppaaGreatDoorRdLeaf
import Derived.Test.YtafbhadfeemppaaGreatDoorRdGN
import Derived.Test.YtafbhadfeemppaaGreatDoorZonParseW
import Derived.Test.YtafbhadfeemppaaGreatDoorRows
import Derived.Lib.LaidTab
import Derived.MakeChecks
import Derived.ProofKit
import Derived.OpenShut
import Derived.Shelf.Vars
import Derived.SliceStrings
import Derived.SizedLaws
import Derived.Test.YtafbhadfeemppaaGreatDoorRdGB
import Derived.Test.YtafbhadfeemppaaGreatDoorZonGR
namespace Go.Proofs.YtafbhadfeemppaaGreatDoor
open Go.RowKit

/-- Whether a character may stand at a place: 0 all, 1 digits and the filler, 2 letters and the filler. -/
def mayP (c : UInt8) (q : Nat) : Bool := if q = 0 ∨ c = 60 then true else if q = 1 then decide (48 ≤ c.toNat ∧ c.toNat ≤ 57) else !decide (48 ≤ c.toNat ∧ c.toNat ≤ 57)
def kb (q : Nat) : Int := if q = 0 then 97 else if q = 1 then 100 else 108
set_option maxRecDepth 100000 in
theorem omay (c : UInt8) (q : Nat) (hq : q ≤ 2) (w : World) : Calls Tryz.prog 61 #[.int .u8 (c.toNat : Int), .int .u8 (kb q)] w fun e w' => e = .returned (.bool (mayP c q)) ∧ w = w' := by
  obtain ⟨n, hn⟩ : ∃ n, c.toNat = n := ⟨_, rfl⟩
  have h60 : c = 60 ↔ n = 60 := ⟨fun h => by rw [← hn, h]; rfl, fun h => UInt8.toNat_inj.1 (by rw [hn, h]; rfl)⟩
  have hm : mayP c q = if q = 0 ∨ n = 60 then true else if q = 1 then decide (48 ≤ n ∧ n ≤ 57) else !decide (48 ≤ n ∧ n ≤ 57) := by
    unfold mayP; rw [hn]; simp only [h60]
  have hn2 : n < 256 := by rw [← hn]; exact c.toNat_lt
  rw [hm, hn]
  clear hm h60 hn
  have hq3 : q = 0 ∨ q = 1 ∨ q = 2 := by omega
  clear hq
  by_cases h1 : 48 ≤ n
  · by_cases h2 : n ≤ 57
    · have a1 : (48 : Int) ≤ (n : Int) := by omega
      have a2 : (n : Int) ≤ 57 := by omega
      have a3 : ¬ ((n : Int) = 60) := by omega
      have a4 : ¬ (n = 60) := by omega
      rcases hq3 with rfl | rfl | rfl <;> (unfold kb; (try simp only [h1, h2, a4]); go_enter Tryz.func61, Tryz.ntmps61; go_wp2_with fail; go_ret; exact ⟨rfl, rfl⟩)
    · have a1 : (48 : Int) ≤ (n : Int) := by omega
      have a2 : ¬ ((n : Int) ≤ 57) := by omega
      by_cases h3 : n = 60
      · subst h3
        rcases hq3 with rfl | rfl | rfl <;> (unfold kb; go_enter Tryz.func61, Tryz.ntmps61; go_wp2_with fail; go_ret; exact ⟨rfl, rfl⟩)
      · have a3 : ¬ ((n : Int) = 60) := by omega
        rcases hq3 with rfl | rfl | rfl <;> (unfold kb; (try simp only [h1, h2, h3]); go_enter Tryz.func61, Tryz.ntmps61; go_wp2_with fail; go_ret; exact ⟨rfl, rfl⟩)
  · have a1 : ¬ ((48 : Int) ≤ (n : Int)) := by omega
    have a3 : ¬ ((n : Int) = 60) := by omega
    have a4 : ¬ (n = 60) := by omega
    rcases hq3 with rfl | rfl | rfl <;> (unfold kb; (try simp only [h1, a4]); go_enter Tryz.func61, Tryz.ntmps61; go_wp2_with fail; go_ret; exact ⟨rfl, rfl⟩)
set_option maxRecDepth 100000 in
theorem rmay (c : UInt8) (q : Nat) (hq : q ≤ 2) (w : World) : Calls Tryz.prog 63 #[.int .u8 (c.toNat : Int), .int .i64 (q : Int)] w fun e w' => e = .returned (.bool (mayP c q)) ∧ w = w' := by
  obtain ⟨n, hn⟩ : ∃ n, c.toNat = n := ⟨_, rfl⟩
  have h60 : c = 60 ↔ n = 60 := ⟨fun h => by rw [← hn, h]; rfl, fun h => UInt8.toNat_inj.1 (by rw [hn, h]; rfl)⟩
  have hm : mayP c q = if q = 0 ∨ n = 60 then true else if q = 1 then decide (48 ≤ n ∧ n ≤ 57) else !decide (48 ≤ n ∧ n ≤ 57) := by
    unfold mayP; rw [hn]; simp only [h60]
  have hn2 : n < 256 := by rw [← hn]; exact c.toNat_lt
  rw [hm, hn]
  clear hm h60 hn
  have hq3 : q = 0 ∨ q = 1 ∨ q = 2 := by omega
  clear hq
  by_cases h1 : 48 ≤ n
  · by_cases h2 : n ≤ 57
    · have a1 : (48 : Int) ≤ (n : Int) := by omega
      have a2 : (n : Int) ≤ 57 := by omega
      have a3 : ¬ ((n : Int) = 60) := by omega
      have a4 : ¬ (n = 60) := by omega
      rcases hq3 with rfl | rfl | rfl <;> ((try simp only [h1, h2, a4]); go_enter Tryz.func63, Tryz.ntmps63; go_wp2_with fail; go_ret; exact ⟨rfl, rfl⟩)
    · have a1 : (48 : Int) ≤ (n : Int) := by omega
      have a2 : ¬ ((n : Int) ≤ 57) := by omega
      by_cases h3 : n = 60
      · subst h3
        rcases hq3 with rfl | rfl | rfl <;> (go_enter Tryz.func63, Tryz.ntmps63; go_wp2_with fail; go_ret; exact ⟨rfl, rfl⟩)
      · have a3 : ¬ ((n : Int) = 60) := by omega
        rcases hq3 with rfl | rfl | rfl <;> ((try simp only [h1, h2, h3]); go_enter Tryz.func63, Tryz.ntmps63; go_wp2_with fail; go_ret; exact ⟨rfl, rfl⟩)
  · have a1 : ¬ ((48 : Int) ≤ (n : Int)) := by omega
    have a3 : ¬ ((n : Int) = 60) := by omega
    have a4 : ¬ (n = 60) := by omega
    rcases hq3 with rfl | rfl | rfl <;> ((try simp only [h1, a4]); go_enter Tryz.func63, Tryz.ntmps63; go_wp2_with fail; go_ret; exact ⟨rfl, rfl⟩)
/-- What may stand at a place of a format. -/
def kindP (f i k : Nat) : Nat :=
  if f = 1 ∧ i = 0 then (if k < 5 then 2 else if k = 14 then 1 else 0)
  else if f = 1 ∧ i = 1 then (if k < 7 ∨ (8 ≤ k ∧ k < 15) ∨ k = 29 then 1 else if k = 7 ∨ k < 18 then 2 else 0)
  else if f = 1 ∨ i = 0 then 2
  else if k = 9 ∨ (13 ≤ k ∧ k < 20) ∨ (21 ≤ k ∧ k < 28) ∨ k = (if f = 3 then 43 else 35) ∨ (f = 3 ∧ k = 42) then 1
  else if (10 ≤ k ∧ k < 13) ∨ k = 20 then 2 else 0
theorem kindP_le (f i k : Nat) : kindP f i k ≤ 2 := by
  unfold kindP
  repeat' split
  all_goals omega
theorem kind_letters : ([1, 2, 3].all fun f => (List.range (Zn.nLines f)).all fun i => (List.range (Zn.wLine f)).all fun k => decide ((((fmL f).getD i ByteArray.empty).data.toList.getD k 0).toNat = if kindP f i k = 0 then 97 else if kindP f i k = 1 then 100 else 108)) = true := by kernel_rfl
end Go.Proofs.YtafbhadfeemppaaGreatDoor

namespace Go.Proofs.YtafbhadfeemppaaGreatDoor
open Go.RowKit

set_option maxRecDepth 100000 in
set_option maxHeartbeats 4000000 in
theorem rkind_10 (k : Nat) (hk : k < 44) (w : World) : Calls Tryz.prog 64 #[.int .i64 1, .int .i64 0, .int .i64 (k : Int)] w fun e w' => e = .returned (.int .i64 (kindP 1 0 k : Nat)) ∧ w = w' := by
  obtain ⟨q, hq⟩ : ∃ q, kindP 1 0 k = q := ⟨_, rfl⟩
  rw [hq]
  have HQ := Lib.hid hq
  clear hq
  go_enter Tryz.func64, Tryz.ntmps64
  go_wp2_with fail
  all_goals
    go_ret
    refine ⟨ret_i64 ?_, rfl⟩
    try simp only [beq_iff_eq, beq_eq_false_iff_ne, ne_eq] at *
    rw [← HQ.out]
    unfold kindP
    (repeat' split) <;> omega
set_option maxRecDepth 100000 in
set_option maxHeartbeats 4000000 in
theorem rkind_11 (k : Nat) (hk : k < 44) (w : World) : Calls Tryz.prog 64 #[.int .i64 1, .int .i64 1, .int .i64 (k : Int)] w fun e w' => e = .returned (.int .i64 (kindP 1 1 k : Nat)) ∧ w = w' := by
  obtain ⟨q, hq⟩ : ∃ q, kindP 1 1 k = q := ⟨_, rfl⟩
  rw [hq]
  have HQ := Lib.hid hq
  clear hq
  go_enter Tryz.func64, Tryz.ntmps64
  go_wp2_with fail
  all_goals
    go_ret
    refine ⟨ret_i64 ?_, rfl⟩
    try simp only [beq_iff_eq, beq_eq_false_iff_ne, ne_eq] at *
    rw [← HQ.out]
    unfold kindP
    (repeat' split) <;> omega
set_option maxRecDepth 100000 in
set_option maxHeartbeats 4000000 in
theorem rkind_12 (k : Nat) (hk : k < 44) (w : World) : Calls Tryz.prog 64 #[.int .i64 1, .int .i64 2, .int .i64 (k : Int)] w fun e w' => e = .returned (.int .i64 (kindP 1 2 k : Nat)) ∧ w = w' := by
  obtain ⟨q, hq⟩ : ∃ q, kindP 1 2 k = q := ⟨_, rfl⟩
  rw [hq]
  have HQ := Lib.hid hq
  clear hq
  go_enter Tryz.func64, Tryz.ntmps64
  go_wp2_with fail
  all_goals
    go_ret
    refine ⟨ret_i64 ?_, rfl⟩
    try simp only [beq_iff_eq, beq_eq_false_iff_ne, ne_eq] at *
    rw [← HQ.out]
    unfold kindP
    (repeat' split) <;> omega
set_option maxRecDepth 100000 in
set_option maxHeartbeats 4000000 in
theorem rkind_20 (k : Nat) (hk : k < 44) (w : World) : Calls Tryz.prog 64 #[.int .i64 2, .int .i64 0, .int .i64 (k : Int)] w fun e w' => e = .returned (.int .i64 (kindP 2 0 k : Nat)) ∧ w = w' := by
  obtain ⟨q, hq⟩ : ∃ q, kindP 2 0 k = q := ⟨_, rfl⟩
  rw [hq]
  have HQ := Lib.hid hq
  clear hq
  go_enter Tryz.func64, Tryz.ntmps64
  go_wp2_with fail
  all_goals
    go_ret
    refine ⟨ret_i64 ?_, rfl⟩
    try simp only [beq_iff_eq, beq_eq_false_iff_ne, ne_eq] at *
    rw [← HQ.out]
    unfold kindP
    (repeat' split) <;> omega
set_option maxRecDepth 100000 in
set_option maxHeartbeats 4000000 in
theorem rkind_21 (k : Nat) (hk : k < 44) (w : World) : Calls Tryz.prog 64 #[.int .i64 2, .int .i64 1, .int .i64 (k : Int)] w fun e w' => e = .returned (.int .i64 (kindP 2 1 k : Nat)) ∧ w = w' := by
  obtain ⟨q, hq⟩ : ∃ q, kindP 2 1 k = q := ⟨_, rfl⟩
  rw [hq]
  have HQ := Lib.hid hq
  clear hq
  go_enter Tryz.func64, Tryz.ntmps64
  go_wp2_with fail
  all_goals
    go_ret
    refine ⟨ret_i64 ?_, rfl⟩
    try simp only [beq_iff_eq, beq_eq_false_iff_ne, ne_eq] at *
    rw [← HQ.out]
    unfold kindP
    (repeat' split) <;> omega
set_option maxRecDepth 100000 in
set_option maxHeartbeats 4000000 in
theorem rkind_22 (k : Nat) (hk : k < 44) (w : World) : Calls Tryz.prog 64 #[.int .i64 2, .int .i64 2, .int .i64 (k : Int)] w fun e w' => e = .returned (.int .i64 (kindP 2 2 k : Nat)) ∧ w = w' := by
  obtain ⟨q, hq⟩ : ∃ q, kindP 2 2 k = q := ⟨_, rfl⟩
  rw [hq]
  have HQ := Lib.hid hq
  clear hq
  go_enter Tryz.func64, Tryz.ntmps64
  go_wp2_with fail
  all_goals
    go_ret
    refine ⟨ret_i64 ?_, rfl⟩
    try simp only [beq_iff_eq, beq_eq_false_iff_ne, ne_eq] at *
    rw [← HQ.out]
    unfold kindP
    (repeat' split) <;> omega
set_option maxRecDepth 100000 in
set_option maxHeartbeats 4000000 in
theorem rkind_30 (k : Nat) (hk : k < 44) (w : World) : Calls Tryz.prog 64 #[.int .i64 3, .int .i64 0, .int .i64 (k : Int)] w fun e w' => e = .returned (.int .i64 (kindP 3 0 k : Nat)) ∧ w = w' := by
  obtain ⟨q, hq⟩ : ∃ q, kindP 3 0 k = q := ⟨_, rfl⟩
  rw [hq]
  have HQ := Lib.hid hq
  clear hq
  go_enter Tryz.func64, Tryz.ntmps64
  go_wp2_with fail
  all_goals
    go_ret
    refine ⟨ret_i64 ?_, rfl⟩
    try simp only [beq_iff_eq, beq_eq_false_iff_ne, ne_eq] at *
    rw [← HQ.out]
    unfold kindP
    (repeat' split) <;> omega
set_option maxRecDepth 100000 in
set_option maxHeartbeats 4000000 in
theorem rkind_31 (k : Nat) (hk : k < 44) (w : World) : Calls Tryz.prog 64 #[.int .i64 3, .int .i64 1, .int .i64 (k : Int)] w fun e w' => e = .returned (.int .i64 (kindP 3 1 k : Nat)) ∧ w = w' := by
  obtain ⟨q, hq⟩ : ∃ q, kindP 3 1 k = q := ⟨_, rfl⟩
  rw [hq]
  have HQ := Lib.hid hq
  clear hq
  go_enter Tryz.func64, Tryz.ntmps64
  go_wp2_with fail
  all_goals
    go_ret
    refine ⟨ret_i64 ?_, rfl⟩
    try simp only [beq_iff_eq, beq_eq_false_iff_ne, ne_eq] at *
    rw [← HQ.out]
    unfold kindP
    (repeat' split) <;> omega
set_option maxRecDepth 100000 in
set_option maxHeartbeats 4000000 in
theorem rkind_32 (k : Nat) (hk : k < 44) (w : World) : Calls Tryz.prog 64 #[.int .i64 3, .int .i64 2, .int .i64 (k : Int)] w fun e w' => e = .returned (.int .i64 (kindP 3 2 k : Nat)) ∧ w = w' := by
  obtain ⟨q, hq⟩ : ∃ q, kindP 3 2 k = q := ⟨_, rfl⟩
  rw [hq]
  have HQ := Lib.hid hq
  clear hq
  go_enter Tryz.func64, Tryz.ntmps64
  go_wp2_with fail
  all_goals
    go_ret
    refine ⟨ret_i64 ?_, rfl⟩
    try simp only [beq_iff_eq, beq_eq_false_iff_ne, ne_eq] at *
    rw [← HQ.out]
    unfold kindP
    (repeat' split) <;> omega
theorem rkind (f i k : Nat) (hf : 1 ≤ f ∧ f ≤ 3) (hi : i < 3) (hk : k < 44) (w : World) : Calls Tryz.prog 64 #[.int .i64 (f : Int), .int .i64 (i : Int), .int .i64 (k : Int)] w fun e w' => e = .returned (.int .i64 (kindP f i k : Nat)) ∧ w = w' := by
  have h1 : f = 1 ∨ f = 2 ∨ f = 3 := by omega
  have h2 : i = 0 ∨ i = 1 ∨ i = 2 := by omega
  rcases h1 with rfl | rfl | rfl
  · rcases h2 with rfl | rfl | rfl
    · exact rkind_10 k hk w
    · exact rkind_11 k hk w
    · exact rkind_12 k hk w
  · rcases h2 with rfl | rfl | rfl
    · exact rkind_20 k hk w
    · exact rkind_21 k hk w
    · exact rkind_22 k hk w
  · rcases h2 with rfl | rfl | rfl
    · exact rkind_30 k hk w
    · exact rkind_31 k hk w
    · exact rkind_32 k hk w
end Go.Proofs.YtafbhadfeemppaaGreatDoor

namespace Go.Proofs.YtafbhadfeemppaaGreatDoor
open Go.RowKit

/-- The similar characters that may stand at a place. -/
def widL (f i k : Nat) (c : UInt8) : List UInt8 := if (simL c).filter (fun d => mayP d (kindP f i k)) = [] then [c] else (simL c).filter fun d => mayP d (kindP f i k)
def widS (f i k : Nat) (c : UInt8) : ByteArray := ⟨(Rd.srt (widL f i k c)).toArray⟩
theorem sort_nodup {l : List UInt8} (h : l.Nodup) : (l.mergeSort fun x y => decide (x ≤ y)) = Rd.srt l := by
  refine Rd.srt_is ?_ fun c => List.mem_mergeSort
  have hs := List.pairwise_mergeSort (le := fun x y : UInt8 => decide (x ≤ y)) (fun a b c h1 h2 => by
    rw [decide_eq_true_eq] at *
    exact UInt8.le_trans h1 h2) (fun a b => by
    rw [Bool.or_eq_true, decide_eq_true_eq, decide_eq_true_eq]
    exact UInt8.le_total a b) l
  have hn : (l.mergeSort fun x y => decide (x ≤ y)).Nodup := (List.mergeSort_perm l _).nodup_iff.2 h
  refine (hs.and hn).imp fun {a b} hab => ?_
  have h1 : a ≤ b := of_decide_eq_true hab.1
  exact UInt8.lt_of_le_of_ne h1 hab.2
theorem simL_nodup : ∀ c : UInt8, (simL c).Nodup := by
  have h : (List.range 256).all (fun n => decide (simL (UInt8.ofNat n)).Nodup) = true := by kernel_rfl
  intro c
  have h1 := List.all_eq_true.1 h c.toNat (List.mem_range.2 c.toNat_lt)
  rw [show UInt8.ofNat c.toNat = c by simp] at h1
  exact of_decide_eq_true h1
theorem widL_nodup (f i k : Nat) (c : UInt8) : (widL f i k c).Nodup := by
  unfold widL
  split
  · simp
  · exact (simL_nodup c).filter _
end Go.Proofs.YtafbhadfeemppaaGreatDoor

namespace Go.Proofs.YtafbhadfeemppaaGreatDoor
open Go.RowKit

/-- The characters that may stand at the places of a line. -/
def widRow (f i : Nat) (s : ByteArray) (n : Nat) : List ByteArray := (List.range n).map fun k => widS f i k (s.data.toList.getD k 0)
theorem widRow_succ (f i : Nat) (s : ByteArray) (n : Nat) : widRow f i s (n + 1) = widRow f i s n ++ [widS f i n (s.data.toList.getD n 0)] := by
  unfold widRow; rw [List.range_succ, List.map_append]; rfl
theorem widRow_len (f i : Nat) (s : ByteArray) (n : Nat) : (widRow f i s n).length = n := by unfold widRow; rw [List.length_map, List.length_range]
def widG (f : Nat) (R : List ByteArray) (n : Nat) : List (List ByteArray) := (List.range n).map fun i => widRow f i (R.getD i ByteArray.empty) (R.getD i ByteArray.empty).size
theorem widG_succ (f : Nat) (R : List ByteArray) (n : Nat) : widG f R (n + 1) = widG f R n ++ [widRow f n (R.getD n ByteArray.empty) (R.getD n ByteArray.empty).size] := by
  unfold widG; rw [List.range_succ, List.map_append]; rfl
theorem widG_len (f : Nat) (R : List ByteArray) (n : Nat) : (widG f R n).length = n := by unfold widG; rw [List.length_map, List.length_range]
theorem getD_at7 {R : List ByteArray} {i : Nat} (h : i < R.length) : R.getD i ByteArray.empty = R[i] := by
  rw [List.getD_eq_getElem?_getD, List.getElem?_eq_getElem h]; rfl
theorem getD_byte7 {s : ByteArray} {k : Nat} (h : k < s.size) : s.data.toList.getD k 0 = s[k] := by
  have h' : k < s.data.toList.length := by rw [Opt.size_len]; exact h
  rw [List.getD_eq_getElem?_getD, List.getElem?_eq_getElem h']; rfl
/-- The error of Widen. -/
def widE (R : List ByteArray) : Nat := if Zn.shape (txts R) = 0 then 2 else if R.all (fun s => Opt.valid s.data.toList) = true then 0 else 12
theorem widE_shape {R : List ByteArray} (h : Zn.shape (txts R) = 0) : widE R = 2 := by unfold widE; rw [if_pos h]
theorem widE_bad {R : List ByteArray} (h : Zn.shape (txts R) ≠ 0) {i : Nat} (hi : i < R.length) (hv : Opt.valid R[i].data.toList = false) : widE R = 12 := by
  unfold widE
  rw [if_neg h, if_neg]
  intro ha
  have := List.all_eq_true.1 ha _ (List.getElem_mem hi)
  rw [hv] at this; cases this
theorem widE_ok {R : List ByteArray} (h : Zn.shape (txts R) ≠ 0) (hv : ∀ i (hi : i < R.length), Opt.valid R[i].data.toList = true) : widE R = 0 := by
  unfold widE
  rw [if_neg h, if_pos]
  refine List.all_eq_true.2 fun s hs => ?_
  obtain ⟨i, hi, rfl⟩ := List.getElem_of_mem hs
  exact hv i hi
theorem fm_big {h w : Nat} (h2 : h ≠ 2) (h3 : h ≠ 3) : fm h w = 0 := by
  unfold fm; rw [if_neg (fun g => h3 g.1), if_neg (fun g => h2 g.1), if_neg (fun g => h2 g.1)]
theorem fm_shape (R : List ByteArray) : fmN (R.map ByteArray.size) = Zn.shape (txts R) := by
  by_cases h2 : R.length = 2
  · match R, h2 with
    | [a, b], _ =>
      rw [shape_two]
      have e : fmN ([a, b].map ByteArray.size) = if b.size = a.size then fm 2 a.size else 0 := by
        simp [fmN]
      rw [e]
      unfold fm
      repeat' split
      all_goals first | omega | simp_all
  · by_cases h3 : R.length = 3
    · match R, h3 with
      | [a, b, c], _ =>
        rw [shape_three]
        have e : fmN ([a, b, c].map ByteArray.size) = if b.size = a.size ∧ c.size = a.size then fm 3 a.size else 0 := by
          simp [fmN]
        rw [e]
        unfold fm
        repeat' split
        all_goals first | omega | simp_all
    · rw [shape_else R h2 h3]
      unfold fmN
      split
      · exact fm_big (by rwa [List.length_map]) (by rwa [List.length_map])
      · rfl
theorem shape_facts {R : List ByteArray} (h : Zn.shape (txts R) ≠ 0) : (1 ≤ Zn.shape (txts R) ∧ Zn.shape (txts R) ≤ 3) ∧ R.length = Zn.nLines (Zn.shape (txts R)) ∧ ∀ s ∈ R, s.size = Zn.wLine (Zn.shape (txts R)) := by
  have h1 := Zn.shape_of h
  refine ⟨⟨Nat.pos_of_ne_zero h, Zn.shape_le _⟩, ?_, fun s hs => ?_⟩
  · rw [← h1.1]; unfold txts; rw [List.length_map]
  · rw [← Opt.size_len]
    exact h1.2 _ (List.mem_map.2 ⟨s, hs, rfl⟩)
theorem wLine_le (f : Nat) : Zn.wLine f ≤ 44 := by
  unfold Zn.wLine
  split
  · omega
  · split <;> omega
theorem nLines_le (f : Nat) : Zn.nLines f ≤ 3 := by unfold Zn.nLines; split <;> omega
theorem fmL_all : ([1, 2, 3].all fun f => decide ((fmL f).length = Zn.nLines f) && (fmL f).all fun s => decide (s.size = Zn.wLine f)) = true := by kernel_rfl
theorem mem3 {f : Nat} (h : 1 ≤ f ∧ f ≤ 3) : f ∈ [1, 2, 3] := by
  have : f = 1 ∨ f = 2 ∨ f = 3 := by omega
  rcases this with rfl | rfl | rfl <;> decide
theorem fmL_len {f : Nat} (h : 1 ≤ f ∧ f ≤ 3) : (fmL f).length = Zn.nLines f := by
  have := List.all_eq_true.1 fmL_all f (mem3 h)
  rw [Bool.and_eq_true] at this
  exact of_decide_eq_true this.1
theorem fmL_size {f : Nat} (h : 1 ≤ f ∧ f ≤ 3) {i : Nat} (hi : i < (fmL f).length) : ((fmL f)[i]).size = Zn.wLine f := by
  have := List.all_eq_true.1 fmL_all f (mem3 h)
  rw [Bool.and_eq_true] at this
  exact of_decide_eq_true (List.all_eq_true.1 this.2 _ (List.getElem_mem hi))
theorem fmL_kind {f : Nat} (h : 1 ≤ f ∧ f ≤ 3) {i : Nat} (hi : i < (fmL f).length) {k : Nat} (hk : k < ((fmL f)[i]).size) : ((((fmL f)[i])[k]).toNat : Int) = kb (kindP f i k) := by
  have h1 := List.all_eq_true.1 kind_letters f (mem3 h)
  have h2 := List.all_eq_true.1 h1 i (List.mem_range.2 (by rw [← fmL_len h]; exact hi))
  have h3 := of_decide_eq_true (List.all_eq_true.1 h2 k (List.mem_range.2 (by rw [← fmL_size h hi]; exact hk)))
  rw [getD_at7 hi, getD_byte7 hk] at h3
  rw [h3]
  unfold kb
  split
  · rfl
  · split <;> rfl
theorem filter_take {L : List UInt8} {p : UInt8 → Bool} {j : Nat} (hj : j < L.length) : (L.take (j + 1)).filter p = (L.take j).filter p ++ if p L[j] = true then [L[j]] else [] := by
  rw [List.take_succ_eq_append_getElem hj, List.filter_append]
  congr 1
  rw [List.filter_cons, List.filter_nil]
theorem filter_le {L : List UInt8} {p : UInt8 → Bool} (j : Nat) : ((L.take j).filter p).length ≤ L.length := by
  refine Nat.le_trans (List.length_filter_le _ _) ?_
  rw [List.length_take]; omega
theorem simL_le : ∀ c : UInt8, (simL c).length ≤ 4 := by
  have h : (List.range 256).all (fun n => decide ((simL (UInt8.ofNat n)).length ≤ 4)) = true := by kernel_rfl
  intro c
  have h1 := List.all_eq_true.1 h c.toNat (List.mem_range.2 c.toNat_lt)
  rw [show UInt8.ofNat c.toNat = c by simp] at h1
  exact of_decide_eq_true h1
theorem widL_le (f i k : Nat) (c : UInt8) : 0 < (widL f i k c).length ∧ (widL f i k c).length ≤ 4 := by
  unfold widL
  split
  · simp
  · rename_i h
    exact ⟨List.length_pos_iff.2 h, Nat.le_trans (List.length_filter_le _ _) (simL_le c)⟩
theorem widL_some {f i k : Nat} {c : UInt8} {l : List UInt8} (h : (simL c).filter (fun d => mayP d (kindP f i k)) = l) (h0 : l ≠ []) : widL f i k c = l := by
  unfold widL; rw [if_neg (by rw [h]; exact h0), h]
theorem widL_none {f i k : Nat} {c : UInt8} (h : (simL c).filter (fun d => mayP d (kindP f i k)) = []) : widL f i k c = [c] := by
  unfold widL; rw [if_pos h]
/-- The row under way stays while another block of the call grows. -/
theorem SP.later {w : World} {v u : Value} {vs : List Value} {K : List (List ByteArray)} {xs : List ByteArray} {wr w4 : World} (h : SP w v vs K u xs wr) (hb : Below wr.heap.size wr w4) : SP w v vs K u xs w4 :=
  ⟨h.1.later hb, ownsRow_later h.2.1 hb, h.2.2.1, h.2.2.2.trans (hb.mono h.2.2.2.size)⟩
theorem SP.kept {w : World} {v u l : Value} {vs : List Value} {K : List (List ByteArray)} {xs : List ByteArray} {n : Nat} {ys : List Value} {wr w4 : World} (h : SP w v vs K u xs wr) (hl : wr.ownsRow w.heap.size 5 1 l n ys) (hg : wr.grownBy w4 l.ownBlock) : SP w v vs K u xs w4 :=
  ⟨h.1.kept hg (own_ne_type h.1.1 hl (by decide)) (fun i hi => own_ne_type (h.1.2.2.1 i hi (by rw [← h.1.2.1]; exact hi)) hl (by decide)), h.2.1.kept hg (own_ne_type h.2.1 hl (by decide)), h.2.2.1, h.2.2.2.grown hg h.2.2.2.size (fun j hj => (own_lt hl hj).1)⟩
/-- Another byte of the characters at a place. -/
theorem SP.byte {w : World} {v u l l' : Value} {vs : List Value} {K : List (List ByteArray)} {xs : List ByteArray} {bs : List UInt8} {b : UInt8} {wr w4 : World} {tmp : Obj} (h : SP w v vs K u xs wr) (hl : wr.ownsRow w.heap.size 5 1 l bs.length (BL bs))
    (hown : w4.ownsRow w.heap.size 5 1 l' (bs.length + 1) (BL bs ++ [.int .u8 (b.toNat : Int)])) (hgrow : (wr.alloc tmp).grownBy w4 l.ownBlock) : SP w v vs K u xs w4 ∧ w4.ownsRow w.heap.size 5 1 l' (bs ++ [b]).length (BL (bs ++ [b])) := by
  have ha := below_alloc1 wr tmp
  refine ⟨(h.later ha).kept (ownsRow_later hl ha) hgrow, ?_⟩
  rw [List.length_append, BL_append]
  exact hown
/-- A new block of one byte. -/
theorem own_byte (w : World) (base : Nat) (b : UInt8) (hb : base ≤ w.heap.size) : (w.alloc (.cells #[.int .u8 (b.toNat : Int)] 5)).ownsRow base 5 1 (.slice (some ⟨w.heap.size, 0, none⟩) 1 1) [b].length (BL [b]) :=
  ⟨rfl, .inr ⟨w.heap.size, 1, _, rfl, hb, heap_alloc_new _ _, Nat.le_refl _, by unfold maxLen; omega, rfl, rfl⟩⟩
theorem own_bytes {w : World} {base g n c : Nat} {l : List UInt8} (h : w.ownsRow base 5 1 (.slice (some ⟨g, 0, none⟩) n c) l.length (BL l)) : BytesAt w g l ∧ base ≤ g ∧ g < w.heap.size ∧ n = l.length := by
  rcases h.2 with ⟨e, _⟩ | ⟨g', cap, cur, e, h1, h2, h3, h4, h5, h6⟩
  · cases e
  · simp only [Value.slice.injEq, Option.some.injEq, Addr.mk.injEq] at e
    obtain ⟨⟨rfl, -⟩, rfl, rfl⟩ := e
    refine ⟨fun i hi => ⟨?_, World.ownsRow.frozenAt h i⟩, h1, (Array.getElem?_eq_some_iff.1 h2).1, rfl⟩
    have := h.cellAt (g := g) i (by omega)
    rw [this]
    simp [BL, List.getElem?_eq_getElem hi]
/-- The characters at a place are sorted and made a text. -/
theorem SP.sorted {w : World} {v u : Value} {vs : List Value} {K : List (List ByteArray)} {xs : List ByteArray} {l : List UInt8} {g c : Nat} {wr w4 : World} (h : SP w v vs K u xs wr) (hl : wr.ownsRow w.heap.size 5 1 (.slice (some ⟨g, 0, none⟩) l.length c) l.length (BL l)) (hg : wr.grownBy w4 (some g)) : SP w v vs K u xs w4 :=
  h.kept hl hg
/-- What Widen returns: the error, the rows. -/
def widK (R : List ByteArray) : List (List ByteArray) := if widE R = 0 then widG (Zn.shape (txts R)) R R.length else []
theorem widK_no {R : List ByteArray} (h : widE R ≠ 0) : widK R = [] := by unfold widK; rw [if_neg h]
theorem widK_ok {R : List ByteArray} (h : widE R = 0) : widK R = widG (Zn.shape (txts R)) R R.length := by unfold widK; rw [if_pos h]
theorem widE_0 {R : List ByteArray} (h : widE R = 0) : Zn.shape (txts R) ≠ 0 := fun e => by
  rw [widE_shape e] at h; cases h
theorem widK_small (R : List ByteArray) : (widK R).length ≤ 3 ∧ ∀ Q ∈ widK R, Q.length ≤ 44 := by
  by_cases h : widE R = 0
  · obtain ⟨h1, h2, h3⟩ := shape_facts (widE_0 h)
    rw [widK_ok h]
    refine ⟨by rw [widG_len, h2]; exact nLines_le _, fun Q hQ => ?_⟩
    obtain ⟨i, hi, rfl⟩ := List.mem_map.1 hQ
    have hi' := List.mem_range.1 hi
    rw [widRow_len, getD_at7 hi', h3 _ (List.getElem_mem hi')]
    exact wLine_le _
  · rw [widK_no h]; exact ⟨Nat.zero_le _, fun Q hQ => by cases hQ⟩
def WidPost (R : List ByteArray) (w : World) (e : Ending) (w' : World) : Prop :=
  ∃ A c, e = .returned (.tuple #[.slice A (widK R).length c, .int .i64 (widE R : Int)]) ∧ GridAt w' A (widK R) ∧ Below w.heap.size w w'
theorem widPost_no {R : List ByteArray} {w w' : World} {q : Nat} (h : widE R = q) (h0 : q ≠ 0) (hb : Below w.heap.size w w') : WidPost R w (.returned (.tuple #[.slice none 0 0, .int .i64 (q : Int)])) w' := by
  subst h
  refine ⟨none, 0, by rw [widK_no h0]; rfl, by rw [widK_no h0]; exact .inl rfl, hb⟩
theorem widPost_ok {R : List ByteArray} {w w' : World} {v : Value} {vs : List Value} {base : Nat} (h : widE R = 0) (hr : RowsAt w' base v vs (widG (Zn.shape (txts R)) R R.length)) (hb : Below w.heap.size w w') : WidPost R w (.returned (.tuple #[v, .int .i64 0])) w' := by
  obtain ⟨A, c, rfl, _, _⟩ := own_form hr.1
  refine ⟨A, c, by rw [widK_ok h, h]; rfl, ?_, hb⟩
  rw [widK_ok h]
  exact hr.grid rfl
end Go.Proofs.YtafbhadfeemppaaGreatDoor

namespace Go.Proofs.YtafbhadfeemppaaGreatDoor
open Go.RowKit

theorem may_at {f i k : Nat} (hf : 1 ≤ f ∧ f ≤ 3) (hi : i < (fmL f).length) {s : ByteArray} (hs : (fmL f)[i] = s) (hk : k < s.size) (c : UInt8) (w : World) :
    Calls Tryz.prog 61 #[.int .u8 (c.toNat : Int), .int .u8 ((s[k]).toNat : Int)] w fun e w' => e = .returned (.bool (mayP c (kindP f i k))) ∧ w = w' := by
  subst hs
  rw [fmL_kind hf hi hk]
  exact omay c _ (kindP_le f i k) w
theorem sort_done {w : World} {base : Nat} {l : List UInt8} {b c : Nat} (h : w.ownsRow base 5 1 (.slice (some ⟨b, 0, none⟩) l.length c) l.length (BL l)) (hn : l.Nodup) (hl : l.length ≤ 1000) :
    Calls Tryz.prog 62 #[.slice (some ⟨b, 0, none⟩) l.length c] w fun e w' => e = .returned (.tuple #[]) ∧ BytesAt w' b (Rd.srt l) ∧ w.grownBy w' (some b) := by
  obtain ⟨h1, _, h3, _⟩ := own_bytes h
  refine (osort l b c w h1 h3 (by omega)).mono ?_
  rintro e w' ⟨h4, h5, h6⟩
  rw [sort_nodup hn] at h5
  exact ⟨h4, h5, h6⟩
theorem srt_len {l : List UInt8} (hn : l.Nodup) : (Rd.srt l).length = l.length := by rw [← sort_nodup hn, List.length_mergeSort]
theorem Tryz.infoU8 : (Tryz.prog.info? 5).map (fun i => (i.zero, i.size, i.bytes)) = some (some (.int .u8 0), 1, 1) := by kernel_rfl
theorem conv_all {w : World} {b : Nat} {l : List UInt8} (h : BytesAt w b l) (c : Nat) : Sem.run Tryz.prog (convert 59 9 (.slice (some ⟨b, 0, none⟩) l.length c)) w = .ok (.string ⟨l.toArray⟩) w := by
  have := conv_mid h (q := 0) (n := l.length) (by omega) c
  rw [List.drop_zero, List.take_length] at this
  exact this
theorem own_some7 {w : World} {base e n c : Nat} {A : Option Addr} {l : List Value} (h : w.ownsRow base e 1 (.slice A n c) n l) (h0 : n ≠ 0) : ∃ b, A = some ⟨b, 0, none⟩ := by
  rcases h.2 with ⟨h1, h2⟩ | ⟨g, cap, cur, h1, _⟩
  · injection h1 with h1 h3 h4
    exact absurd (by omega) h0
  · injection h1 with h1
    exact ⟨g, h1⟩
set_option maxRecDepth 100000 in
set_option maxHeartbeats 8000000 in
theorem owiden (R : List ByteArray) (A : Option Addr) (c : Nat) (w : World) (hA : TextsAt w A R) (hR : R.length ≤ 8796093022208) (hs : ∀ s ∈ R, s.size ≤ 140737488351232) :
    Calls Tryz.prog 30 #[.slice A R.length c] w (WidPost R w) := by
  have HA := Lib.hid hA; have HS := Lib.hid hs
  clear hA hs
  go_enter Tryz.func30, Tryz.ntmps30
  go_wp2_with fail
  go_loopw [4, 18] (fun v3 vi wr => ∃ i : Nat, i ≤ R.length ∧ vi = .int .i64 i ∧ wr.ownsRow w.heap.size 3 1 v3 ((R.take i).map ByteArray.size).length (((R.take i).map ByteArray.size).map fun n : Nat => Value.int .i64 (n : Int)) ∧ Below w.heap.size w wr) (fun _ vi _ => R.length - (intOf vi).toNat)
  case atStart => exact ⟨0, Nat.zero_le _, rfl, World.ownsRow_nil _ _ _ _, Below.refl _ _⟩
  case round =>
    obtain ⟨i, hi, rfl, ho, hb⟩ := hrel
    obtain ⟨ns, hns⟩ : ∃ ns, (R.take i).map ByteArray.size = ns := ⟨_, rfl⟩
    rw [hns] at ho
    have HNL := Lib.hid (show ns.length = i by rw [← hns, List.length_map, List.length_take]; omega)
    have HNS := Lib.hid hns; have HO := Lib.hid ho; have HB := Lib.hid hb
    clear hns ho hb
    by_cases hlt : i < R.length
    · obtain ⟨s, hs⟩ : ∃ s, R[i]'hlt = s := ⟨_, rfl⟩
      have hsz := HS.out _ (List.getElem_mem hlt)
      rw [hs] at hsz
      obtain ⟨b, off, rfl, e0⟩ := (HA.out.later HB.out).cell i hlt
      rw [hs] at e0
      have HSI := Lib.hid hs; have HLT := Lib.hid hlt
      obtain ⟨i0, hi0, hz0, hz1, hz2⟩ := info_parts Tryz.infoInt
      have HOWN := Lib.hid (HO.out.alloc (.cells #[.int .i64 (s.size : Int)] 3))
      clear hs
      go_wp2_with (at_builtin; refine wpList_append_own_at _ rfl _ _ 25 rfl w.heap.size 3 i0 (.int .i64 0) 1 8 Tryz.underlying25 hi0 hz0 hz1 hz2 rfl (by decide) _ _ _ rfl HOWN.out ⟨wr.heap.size, 0, none⟩ 1 1 [.int .i64 (s.size : Int)] rfl rfl ?c1 ?c2 ?c3 ?c4 ?c5 ?_)
      case c1 => exact cell_one_new _ _ _
      case c2 => intro u hu; simp at hu; subst hu; rfl
      case c3 => have := HNL.out; unfold maxLen; omega
      case c4 => have := HNL.out; omega
      case c5 => have := HB.out.size; simp; omega
      · intro v3' w4 hown' hgrow _ _
        have HN := Lib.hid (show w4.ownsRow w.heap.size 3 1 v3' ((R.take (i + 1)).map ByteArray.size).length (((R.take (i + 1)).map ByteArray.size).map fun n : Nat => Value.int .i64 (n : Int)) by
          rw [List.take_succ_eq_append_getElem HLT.out, List.map_append, HNS.out, HSI.out, List.length_append, List.map_append]; exact hown')
        have HBN := Lib.hid (show Below w.heap.size w w4 from (HB.out.trans ((below_alloc1 wr _).mono HB.out.size)).grown hgrow (by have := HB.out.size; rw [size_alloc1]; omega) (fun j hj => (own_lt HO.out hj).1))
        clear hown' hgrow hi0 hz0 hz1 hz2
        go_wp2_with fail
        go_roundw
        case rel => exact ⟨i + 1, HLT.out, by go_num, HN.out, HBN.out⟩
        case measure => have := HLT.out; simp [intOf]; omega
    · obtain rfl : i = R.length := by omega
      have HNG := Lib.hid (show ns = R.map ByteArray.size from by have e := HNS.out; rw [List.take_length] at e; exact e.symm)
      obtain ⟨A5, c5, rfl, hn5⟩ := own_nums HO.out
      have HF := Lib.hid (oforms ns A5 c5 wr hn5 (by have := HNL.out; omega) (fun n hn' => by
        rw [HNG.out] at hn'
        obtain ⟨r, hr, rfl⟩ := List.mem_map.1 hn'
        have := HS.out r hr
        omega))
      have hFE : fmN ns = Zn.shape (txts R) := by rw [HNG.out]; exact fm_shape R
      obtain ⟨F, hF⟩ : ∃ F, Zn.shape (txts R) = F := ⟨_, rfl⟩
      rw [hFE, hF] at HF
      have HFF := Lib.hid hF
      have hnl : ns.length ≤ 8796093022208 := by have := HNL.out; omega
      clear hn5 hFE hF
      go_wp2_with fail
      refine HF.out.mono ?_; rintro e wf hp1
      by_cases hz : F = 0
      · rw [hp1.1 hz]
        have HO2 := Lib.hid (widE_shape (HFF.out.trans hz))
        have HBE := Lib.hid (HB.out.trans (hp1.2.2.mono HB.out.size))
        have heq : Sem.run Tryz.prog (binOp .eql 29 (.slice none 0 0) (.slice none 0 0)) wf = .ok (.bool true) wf := by rfl
        clear hp1 hz
        go_wp2_with fail
        go_ret2
        exact widPost_no HO2.out (by decide) HBE.out
      · obtain ⟨g, cc, rfl, ht⟩ := hp1.2.1 hz
        have HZ := Lib.hid (show Zn.shape (txts R) ≠ 0 by rw [HFF.out]; exact hz)
        have HFT := Lib.hid ht
        have HBF := Lib.hid (HB.out.trans (hp1.2.2.mono HB.out.size))
        have HAF := Lib.hid (HA.out.later HBF.out)
        obtain ⟨h13, hRn, hRw⟩ := shape_facts HZ.out
        rw [HFF.out] at h13 hRn hRw
        have H13 := Lib.hid h13; have HRW := Lib.hid hRw
        obtain ⟨FL, hFL⟩ : ∃ FL, (fmL F).length = FL := ⟨_, rfl⟩
        have hFLR : FL = R.length := by rw [← hFL, fmL_len h13, hRn]
        have HFL := Lib.hid hFL; have HFLR := Lib.hid hFLR
        rw [hFL]
        have hR3 : R.length ≤ 3 := by rw [hRn]; exact nLines_le F
        have heq : Sem.run Tryz.prog (binOp .eql 29 (.slice (some ⟨g, 0, none⟩) FL cc) (.slice none 0 0)) wf = .ok (.bool false) wf := by rfl
        clear hp1 hz ht hFL hFLR h13 hRn hRw hnl hR
        go_wp2_with fail
        go_loopw [8, 34] (fun v7 vi wr => ∃ (i : Nat) (vs : List Value), i ≤ R.length ∧ vi = .int .i64 i ∧ (∀ m (hm : m < R.length), m < i → Opt.valid R[m].data.toList = true) ∧ SP wf v7 vs (widG F R i) (.slice none 0 0) [] wr) (fun _ vi _ => R.length - (intOf vi).toNat)
        case atStart => exact ⟨0, [], Nat.zero_le _, rfl, fun m _ h => absurd h (Nat.not_lt_zero _), RowsAt.nil _ _, World.ownsRow_nil _ _ _ _, fun i h => absurd h (by simp), Below.refl _ _⟩
        case round =>
          obtain ⟨i, vs, hi, rfl, hvl, hsp⟩ := hrel
          have HVL := Lib.hid hvl; have HSP := Lib.hid hsp
          clear hvl hsp
          obtain ⟨wo, rfl⟩ : ∃ wo : World, wo = wr := ⟨_, rfl⟩
          by_cases hlt : i < R.length
          · obtain ⟨K, hK⟩ : ∃ K, widG F R i = K := ⟨_, rfl⟩
            rw [hK] at HSP
            have hkl : K.length = i := by rw [← hK]; exact widG_len F R i
            have HK := Lib.hid hK; have HKL := Lib.hid hkl; have HLT := Lib.hid hlt
            obtain ⟨s, hs⟩ : ∃ s, R[i]'hlt = s := ⟨_, rfl⟩
            have hsz := HRW.out _ (List.getElem_mem hlt)
            rw [hs] at hsz
            have hs44 : s.size ≤ 44 := by rw [hsz]; exact wLine_le F
            have HSI := Lib.hid hs; have HSZ := Lib.hid hsz
            obtain ⟨b, off, rfl, e0⟩ := (HAF.out.later HSP.out.2.2.2).cell i hlt
            rw [hs] at e0
            have HOV := Lib.hid (fun W => ovalid s W (by unfold maxLen; omega))
            obtain ⟨q, hq⟩ : ∃ q, Opt.valid s.data.toList = q := ⟨_, rfl⟩
            rw [hq] at HOV
            have HQ := Lib.hid hq
            clear hK hs hq hsz hkl
            go_wp2_with fail
            refine (HOV.out _).mono ?_; rintro e w' ⟨rfl, rfl⟩
            cases q
            · have HE := Lib.hid (show widE R = 12 from widE_bad HZ.out HLT.out (by rw [HSI.out]; exact HQ.out))
              have HBE := Lib.hid (HBF.out.trans (HSP.out.2.2.2.mono HBF.out.size))
              clear e0
              go_wp2_with fail
              go_ret2
              exact widPost_no HE.out (by decide) HBE.out
            · clear e0
              go_wp2_with fail
              go_loopw [11, 44] (fun u vk wr => ∃ k : Nat, k ≤ s.size ∧ vk = .int .i64 k ∧ SP wf u8 vs K u (widRow F i s k) wr) (fun _ vk _ => s.size - (intOf vk).toNat)
              case atStart => exact ⟨0, Nat.zero_le _, rfl, HSP.out⟩
              case round =>
                obtain ⟨k, hk, rfl, hsp⟩ := hrel
                obtain ⟨xs, hxs⟩ : ∃ xs, widRow F i s k = xs := ⟨_, rfl⟩
                rw [hxs] at hsp
                have HX := Lib.hid hxs; have HXL := Lib.hid (show xs.length = k by rw [← hxs]; exact widRow_len F i s k)
                have HP := Lib.hid hsp
                clear hxs hsp
                obtain ⟨wk, rfl⟩ : ∃ wk : World, wk = wr := ⟨_, rfl⟩
                by_cases hkt : k < s.size
                · obtain ⟨ch, hch⟩ : ∃ ch, s[k]'hkt = ch := ⟨_, rfl⟩
                  have HCH := Lib.hid hch; have HKT := Lib.hid hkt
                  have HSIM := Lib.hid (show ∀ W, Calls Tryz.prog 10 #[.int .u8 ((s[k]'hkt).toNat : Int)] W fun e w' => e = .returned (.string (simS ch)) ∧ Below W.heap.size W w' from fun W => by rw [hch]; exact osimilar ch W)
                  obtain ⟨S, hS⟩ : ∃ S, simS ch = S := ⟨_, rfl⟩
                  rw [hS] at HSIM
                  have HSS := Lib.hid hS
                  obtain ⟨L, hL⟩ : ∃ L, simL ch = L := ⟨_, rfl⟩
                  have hSL : S = ⟨L.toArray⟩ := by rw [← hS, ← hL]; rfl
                  have hLs : S.size = L.length := by rw [hSL]; exact str_size L
                  have hL4 : L.length ≤ 4 := by rw [← hL]; exact simL_le ch
                  have HLL := Lib.hid hL; have HSL := Lib.hid hSL; have HLS := Lib.hid hLs; have HL4 := Lib.hid hL4
                  have hki : (k : Int) < (s.size : Int) := by omega
                  clear hch hS hL hSL
                  go_wp2_with fail
                  refine (HSIM.out _).mono ?_; rintro e w1 ⟨rfl, hb1⟩
                  have HP1 := Lib.hid (HP.out.later hb1)
                  clear hb1
                  obtain ⟨W0, cap, hcv, hbw, hzw, hbyw, hcapw⟩ := conv_line w1 S
                  have HP2 := Lib.hid (HP1.out.later hbw); have HZW := Lib.hid hzw; have HBY := Lib.hid hbyw
                  clear hbw hzw hbyw hcapw
                  go_wp2_with fail
                  go_loopw [13, 53] (fun l vj wr => ∃ j : Nat, j ≤ S.size ∧ vj = .int .i64 j ∧ SP wf u8 vs K u11 xs wr ∧ wr.ownsRow W0.heap.size 5 1 l ((L.take j).filter fun d => mayP d (kindP F i k)).length (BL ((L.take j).filter fun d => mayP d (kindP F i k))) ∧ Below W0.heap.size W0 wr) (fun _ vj _ => S.size - (intOf vj).toNat)
                  case atStart => exact ⟨0, Nat.zero_le _, rfl, HP2.out, World.ownsRow_nil _ _ _ _, Below.refl _ _⟩
                  case round =>
                    obtain ⟨j, hj, rfl, hsp, hown, hbel⟩ := hrel
                    have HPJ := Lib.hid hsp
                    have HBL := Lib.hid hbel
                    obtain ⟨bs, hbs⟩ : ∃ bs, ((L.take j).filter fun d => mayP d (kindP F i k)) = bs := ⟨_, rfl⟩
                    rw [hbs] at hown
                    have HO := Lib.hid hown; have HBS := Lib.hid hbs
                    have hb4 : bs.length ≤ 4 := by rw [← hbs]; exact Nat.le_trans (filter_le j) HL4.out
                    clear hsp hown hbel hbs
                    by_cases hjt : j < S.size
                    · have hjl : j < L.length := by rw [← HLS.out]; exact hjt
                      obtain ⟨c2, hc2⟩ : ∃ c2, L[j]'hjl = c2 := ⟨_, rfl⟩
                      have HC2 := Lib.hid hc2; have HJT := Lib.hid hjt
                      have hby := (HBY.out.later HBL.out (by have := HZW.out; omega)) j (by rw [HSL.out]; exact hjl)
                      have hcell : wr.cell? ⟨w1.heap.size, j, none⟩ = some (.int .u8 (c2.toNat : Int)) := by
                        rw [hby.1]
                        congr 3
                        rw [← hc2]
                        have : ∀ (S' : ByteArray) (e : S' = ⟨L.toArray⟩) (h : j < S'.data.toList.length), (S'.data.toList[j]).toNat = (L[j]'hjl).toNat := fun S' e h => by subst e; rfl
                        exact this S HSL.out _
                      have hfl : i < (fmL F).length := by rw [HFL.out, HFLR.out]; exact HLT.out
                      obtain ⟨fs, hfs⟩ : ∃ fs, (fmL F)[i]'hfl = fs := ⟨_, rfl⟩
                      have hfk : k < fs.size := by rw [← hfs, fmL_size H13.out hfl, ← HSZ.out]; exact HKT.out
                      obtain ⟨gb, go, hge, hgc⟩ := (HFT.out.later HPJ.out.2.2.2).cell i hfl
                      injection hge with hge; injection hge with hge1 hge2
                      subst hge1; subst hge2
                      rw [hfs, Nat.zero_add] at hgc
                      have hiF : (i : Int) < (FL : Int) := by rw [HFLR.out]; have := HLT.out; omega
                      have HMAY := Lib.hid (fun W => may_at H13.out hfl hfs hfk c2 W)
                      obtain ⟨q, hq⟩ : ∃ q, mayP c2 (kindP F i k) = q := ⟨_, rfl⟩
                      rw [hq] at HMAY
                      have HQ2 := Lib.hid hq
                      clear hby hc2 hfs hq
                      go_wp2_with fail
                      refine (HMAY.out _).mono ?_; rintro e w' ⟨rfl, rfl⟩
                      have hft : (L.take (j + 1)).filter (fun d => mayP d (kindP F i k)) = bs ++ if mayP c2 (kindP F i k) = true then [c2] else [] := by
                        rw [filter_take hjl, HBS.out, HC2.out]
                      have HFTK := Lib.hid hft
                      clear hft hcell hgc
                      cases q
                      · have HE := Lib.hid (show (L.take (j + 1)).filter (fun d => mayP d (kindP F i k)) = bs by rw [HFTK.out, HQ2.out]; simp)
                        go_wp2_with fail
                        go_roundw
                        case rel => exact ⟨j + 1, HJT.out, by go_num, HPJ.out, by rw [HE.out]; exact HO.out, HBL.out⟩
                        case measure => have := HJT.out; simp [intOf]; omega
                      · have HE := Lib.hid (show (L.take (j + 1)).filter (fun d => mayP d (kindP F i k)) = bs ++ [c2] by rw [HFTK.out, HQ2.out]; simp)
                        obtain ⟨i0, hi0, hz0, hz1, hz2⟩ := info_parts Tryz.infoU8
                        have HOWN := Lib.hid (HO.out.alloc (.cells #[.int .u8 (c2.toNat : Int)] 5))
                        go_wp2_with (at_builtin; refine wpList_append_own_at _ rfl _ _ 59 rfl W0.heap.size 5 i0 (.int .u8 0) 1 1 Tryz.underlying59 hi0 hz0 hz1 hz2 rfl (by decide) _ _ _ rfl HOWN.out ⟨wr.heap.size, 0, none⟩ 1 1 [.int .u8 (c2.toNat : Int)] rfl rfl ?c1 ?c2 ?c3 ?c4 ?c5 ?_)
                        case c1 => exact cell_one_new _ _ _
                        case c2 => intro u hu; simp at hu; subst hu; rfl
                        case c3 => unfold maxLen; omega
                        case c4 => omega
                        case c5 => have := HBL.out.size; simp; omega
                        · intro u' w4 hown' hgrow _ _
                          have hb0 : wf.heap.size ≤ W0.heap.size := HP2.out.2.2.2.size
                          have HPN := Lib.hid (HPJ.out.byte (b := c2) (own_less HO.out hb0) (own_less hown' hb0) hgrow)
                          have HON := Lib.hid (show w4.ownsRow W0.heap.size 5 1 u' (bs ++ [c2]).length (BL (bs ++ [c2])) by rw [List.length_append, BL_append]; exact hown')
                          have HBN := Lib.hid (show Below W0.heap.size W0 w4 from (HBL.out.trans ((below_alloc1 wr _).mono HBL.out.size)).grown hgrow (by have := HBL.out.size; rw [size_alloc1]; omega) (fun j hj => (own_lt HO.out hj).1))
                          clear hown' hgrow hi0 hz0 hz1 hz2
                          go_wp2_with fail
                          go_roundw
                          case rel => exact ⟨j + 1, HJT.out, by go_num, HPN.out.1, by rw [HE.out]; exact HON.out, HBN.out⟩
                          case measure => have := HJT.out; simp [intOf]; omega
                    · obtain rfl : j = S.size := by omega
                      have hbf : (L.filter fun d => mayP d (kindP F i k)) = bs := by
                        rw [← HBS.out, List.take_of_length_le (by rw [HLS.out]; exact Nat.le_refl _)]
                      have hb0 : wf.heap.size ≤ W0.heap.size := HP2.out.2.2.2.size
                      by_cases hbe : bs = []
                      · have HW0 := Lib.hid (show widL F i k ch = [ch] from widL_none (by rw [HLL.out, hbf]; exact hbe))
                        subst hbe
                        obtain ⟨A6, c6, rfl, _, _⟩ := own_form HO.out
                        obtain ⟨bs, hbs⟩ : ∃ bs, [ch] = bs := ⟨_, rfl⟩
                        have hNB := own_byte wr wf.heap.size ch HPJ.out.2.2.2.size
                        have HPA := HPJ.out.later (below_alloc1 wr (.cells #[.int .u8 (ch.toNat : Int)] 5))
                        have h1 : bs.length = 1 := by rw [← hbs]; rfl
                        rw [hbs] at hNB
                        have HNB := Lib.hid hNB; have HPB := Lib.hid HPA
                        have HW := Lib.hid (show widL F i k ch = bs by rw [HW0.out, hbs])
                        have hck : ((s[k]'HKT.out).toNat : Int) = (ch.toNat : Int) := by rw [HCH.out]
                        have HTAIL := Lib.hid (show ∀ W, wr.alloc (.cells #[.int .u8 (ch.toNat : Int)] 5) = W → W.ownsRow wf.heap.size 5 1 (.slice (some ⟨wr.heap.size, 0, none⟩) 1 1) bs.length (BL bs) ∧ SP wf u8 vs K u11 xs W from fun W h => by
                          subst h
                          have h2 := HNB.out
                          rw [h1] at h2
                          rw [h1]
                          exact ⟨h2, HPB.out⟩)
                        have HH1 := Lib.hid h1
                        clear hbf hNB HPA hbs h1
                        have HLN := Lib.hid (show bs.Nodup ∧ bs.length ≤ 4 by rw [← HW.out]; exact ⟨widL_nodup F i k ch, (widL_le F i k ch).2⟩)
                        obtain ⟨W, hWe⟩ : ∃ W : World, wr.alloc (.cells #[.int .u8 (ch.toNat : Int)] 5) = W := ⟨_, rfl⟩
                        have hHT := HTAIL.out W hWe
                        have HSRT := Lib.hid (sort_done (c := 1) (b := wr.heap.size) (by rw [HH1.out]; have h := hHT.1; rw [HH1.out] at h; exact h) HLN.out.1 (by have := HLN.out.2; omega))
                        have HSRL := Lib.hid ((srt_len HLN.out.1).trans HH1.out)
                        have HSPW := Lib.hid hHT.2
                        have HOW := Lib.hid (show W.ownsRow wf.heap.size 5 1 (.slice (some ⟨wr.heap.size, 0, none⟩) bs.length 1) bs.length (BL bs) by have h := hHT.1; rw [HH1.out] at h ⊢; exact h)
                        rw [HH1.out] at HSRT
                        obtain ⟨q, hq⟩ : ∃ q : ByteArray, ⟨(Rd.srt bs).toArray⟩ = q := ⟨_, rfl⟩
                        clear hHT
                        go_upto_region 29 with fail
                        try rw [hck]
                        try rw [hWe]
                        go_wp2_with fail
                        refine HSRT.out.mono ?_; rintro e w5 ⟨rfl, hby5, hg5⟩
                        have HP5 := Lib.hid (HSPW.out.sorted HOW.out hg5)
                        have hcv := conv_all hby5 1
                        rw [HSRL.out, hq] at hcv
                        obtain ⟨i0, hi0, hz0, hz1, hz2⟩ := info_parts Tryz.infoStr
                        have HOWN := Lib.hid (HP5.out.2.1.alloc (.cells #[.string q] 9))
                        have HQ5 := Lib.hid hq
                        clear hby5 hg5 hq
                        go_wp2_with (at_builtin; refine wpList_append_own_at _ rfl _ _ 29 rfl wf.heap.size 9 i0 (.string ByteArray.empty) 1 16 Tryz.underlying29 hi0 hz0 hz1 hz2 rfl (by decide) _ _ _ rfl HOWN.out ⟨w5.heap.size, 0, none⟩ 1 1 [.string q] rfl rfl ?c1 ?c2 ?c3 ?c4 ?c5 ?_)
                        case c1 => exact cell_one_new _ _ _
                        case c2 => intro u hu; simp at hu; subst hu; rfl
                        case c3 => have := HXL.out; have := HKT.out; unfold maxLen; omega
                        case c4 => have := HXL.out; have := HKT.out; omega
                        case c5 => have := HP5.out.2.2.2.size; simp; omega
                        · intro u' w4 hown' hgrow _ hloc
                          have HPN := Lib.hid (HP5.out.push (s := q) hown' hgrow (by rw [size_alloc1]; exact hloc))
                          clear hown' hgrow hloc hi0 hz0 hz1 hz2
                          go_wp2_with fail
                          go_roundw
                          case rel =>
                            refine ⟨k + 1, HKT.out, by go_num, ?_⟩
                            rw [widRow_succ, HX.out, getD_byte7 HKT.out, HCH.out, show widS F i k ch = q by unfold widS; rw [HW.out]; exact HQ5.out]
                            exact HPN.out
                          case measure => have := HKT.out; simp [intOf]; omega
                      · obtain ⟨A6, c6, rfl, _, _⟩ := own_form HO.out
                        obtain ⟨b6, rfl⟩ : ∃ b6, A6 = some ⟨b6, 0, none⟩ := own_some7 HO.out (by intro e; exact hbe (List.eq_nil_of_length_eq_zero e))
                        have HW := Lib.hid (show widL F i k ch = bs from widL_some (by rw [HLL.out, hbf]) hbe)
                        have HLN := Lib.hid (show bs.Nodup ∧ bs.length ≤ 4 by rw [← HW.out]; exact ⟨widL_nodup F i k ch, (widL_le F i k ch).2⟩)
                        have HOW := Lib.hid (own_less HO.out hb0)
                        obtain ⟨n6, hn6⟩ : ∃ n6, bs.length = n6 := ⟨_, rfl⟩
                        have hn0 : ¬ ((n6 : Int) = 0) := by intro e; exact hbe (List.eq_nil_of_length_eq_zero (by omega))
                        have HSRT := Lib.hid (sort_done HOW.out HLN.out.1 (by have := HLN.out.2; omega))
                        have HSRL := Lib.hid ((srt_len HLN.out.1).trans hn6)
                        have HSPW := Lib.hid HPJ.out
                        rw [hn6] at HSRT ⊢
                        obtain ⟨q, hq⟩ : ∃ q : ByteArray, ⟨(Rd.srt bs).toArray⟩ = q := ⟨_, rfl⟩
                        clear hbf hn6
                        go_wp2_with fail
                        refine HSRT.out.mono ?_; rintro e w5 ⟨rfl, hby5, hg5⟩
                        have HP5 := Lib.hid (HSPW.out.sorted HOW.out hg5)
                        have hcv := conv_all hby5 c6
                        rw [HSRL.out, hq] at hcv
                        obtain ⟨i0, hi0, hz0, hz1, hz2⟩ := info_parts Tryz.infoStr
                        have HOWN := Lib.hid (HP5.out.2.1.alloc (.cells #[.string q] 9))
                        have HQ5 := Lib.hid hq
                        clear hby5 hg5 hq
                        go_wp2_with (at_builtin; refine wpList_append_own_at _ rfl _ _ 29 rfl wf.heap.size 9 i0 (.string ByteArray.empty) 1 16 Tryz.underlying29 hi0 hz0 hz1 hz2 rfl (by decide) _ _ _ rfl HOWN.out ⟨w5.heap.size, 0, none⟩ 1 1 [.string q] rfl rfl ?c1 ?c2 ?c3 ?c4 ?c5 ?_)
                        case c1 => exact cell_one_new _ _ _
                        case c2 => intro u hu; simp at hu; subst hu; rfl
                        case c3 => have := HXL.out; have := HKT.out; unfold maxLen; omega
                        case c4 => have := HXL.out; have := HKT.out; omega
                        case c5 => have := HP5.out.2.2.2.size; simp; omega
                        · intro u' w4 hown' hgrow _ hloc
                          have HPN := Lib.hid (HP5.out.push (s := q) hown' hgrow (by rw [size_alloc1]; exact hloc))
                          clear hown' hgrow hloc hi0 hz0 hz1 hz2
                          go_wp2_with fail
                          go_roundw
                          case rel =>
                            refine ⟨k + 1, HKT.out, by go_num, ?_⟩
                            rw [widRow_succ, HX.out, getD_byte7 HKT.out, HCH.out, show widS F i k ch = q by unfold widS; rw [HW.out]; exact HQ5.out]
                            exact HPN.out
                          case measure => have := HKT.out; simp [intOf]; omega
                · obtain rfl : k = s.size := by omega
                  have HX2 := Lib.hid (show xs = widRow F i s s.size by rw [← HX.out])
                  obtain ⟨A5, c5, rfl, _, _⟩ := own_form HP.out.2.1
                  obtain ⟨i0, hi0, hz0, hz1, hz2⟩ := info_parts Tryz.infoRow
                  have HOWN := Lib.hid (HP.out.1.1.alloc (.cells #[.slice A5 xs.length c5] 29))
                  obtain ⟨xl, hxl⟩ : ∃ xl, xs.length = xl := ⟨_, rfl⟩
                  rw [hxl] at HOWN ⊢
                  have HXLL := Lib.hid hxl
                  clear hxl
                  go_wp2_with (at_builtin; refine wpList_append_own_at _ rfl _ _ 31 rfl wf.heap.size 29 i0 (.slice none 0 0) 1 24 Tryz.underlying31 hi0 hz0 hz1 hz2 rfl (by decide) _ _ _ rfl HOWN.out ⟨wk.heap.size, 0, none⟩ 1 1 [.slice A5 xl c5] rfl rfl ?c1 ?c2 ?c3 ?c4 ?c5 ?_)
                  case c1 => exact cell_one_new _ _ _
                  case c2 => intro u hu; simp at hu; subst hu; rfl
                  case c3 => have := HKL.out; unfold maxLen; omega
                  case c4 => have := HKL.out; omega
                  case c5 => have := HP.out.2.2.2.size; simp; omega
                  · intro v' w4 hown' hgrow _ _
                    have HPC := Lib.hid (HP.out.close (by rw [HXLL.out]; exact hown') hgrow)
                    clear hown' hgrow hi0 hz0 hz1 hz2
                    go_wp2_with fail
                    go_roundw
                    case rel =>
                      refine ⟨i + 1, vs ++ [.slice A5 xs.length c5], HLT.out, by go_num, fun m hm hmi => ?_, ?_⟩
                      · rcases Nat.lt_or_ge m i with g' | g'
                        · exact HVL.out m hm g'
                        · obtain rfl : m = i := by omega
                          rw [HSI.out]; exact HQ.out
                      · rw [widG_succ, HK.out, getD_at7 HLT.out, HSI.out, ← HX2.out]
                        exact HPC.out
                    case measure => have := HLT.out; simp [intOf]; omega
          · obtain rfl : i = R.length := by omega
            have HE := Lib.hid (show widE R = 0 from widE_ok HZ.out fun m hm => HVL.out m hm hm)
            have HRR := Lib.hid (show RowsAt wo wf.heap.size u8 vs (widG (Zn.shape (txts R)) R R.length) by rw [HFF.out]; exact HSP.out.1)
            have HBE := Lib.hid (HBF.out.trans (HSP.out.2.2.2.mono HBF.out.size))
            go_wp2_with fail
            go_ret2
            exact widPost_ok HE.out HRR.out HBE.out
end Go.Proofs.YtafbhadfeemppaaGreatDoor

namespace Go.Proofs.YtafbhadfeemppaaGreatDoor
open Go.RowKit

/-- The similar characters from the j-th on. -/
def strL (l : List UInt8) : ByteArray := ⟨l.toArray⟩
theorem strL_size (l : List UInt8) : (strL l).size = l.length := str_size l
theorem strL_cut (a : UInt8) (r : List UInt8) : (strL (a :: r)).extract 1 (strL (a :: r)).size = strL r := by
  apply str_eq
  rw [Lib.extract_data, strL_size]
  simp [strL]
theorem strL_one (a : UInt8) (r : List UInt8) : (strL (a :: r)).extract 0 1 = strL [a] := by
  apply str_eq
  rw [Lib.extract_data]
  simp [strL]
theorem strL_app (a b : List UInt8) : strL a ++ strL b = strL (a ++ b) := by
  apply str_eq
  simp [strL]
theorem toList_some {G : ByteArray} (h : 0 < G.size) : G.toList.isEmpty = false := by
  rw [ByteArray.toList_eq]
  cases hd : G.data.toList with
  | nil => have := Opt.size_len G; rw [hd] at this; simp at this; omega
  | cons a r => rfl
theorem strL_nil : strL [] = ⟨#[]⟩ := rfl
set_option maxRecDepth 100000 in
set_option maxHeartbeats 8000000 in
theorem rwiden (R : List ByteArray) (A : Option Addr) (c : Nat) (w : World) (hA : TextsAt w A R) (hR : R.length ≤ 8796093022208) (hs : ∀ s ∈ R, s.size ≤ 140737488351232) (hG : GrpAt w) :
    Calls Tryz.prog 31 #[.slice A R.length c] w (WidPost R w) := by
  have HA := Lib.hid hA; have HS := Lib.hid hs; have HGR := Lib.hid hG
  have HSHP := Lib.hid (rshape R A c w hR hA)
  obtain ⟨F, hF⟩ : ∃ F, Zn.shape (txts R) = F := ⟨_, rfl⟩
  rw [hF] at HSHP
  have HFF := Lib.hid hF
  clear hA hs hF hG
  go_enter Tryz.func31, Tryz.ntmps31
  go_wp2_with fail
  refine HSHP.out.mono ?_; rintro e w' ⟨rfl, rfl⟩
  by_cases hz : F = 0
  · subst hz
    go_wp2_with fail
    go_ret2
    exact widPost_no (widE_shape HFF.out) (by decide) (Below.refl _ _)
  · have HZ := Lib.hid (show Zn.shape (txts R) ≠ 0 by rw [HFF.out]; exact hz)
    obtain ⟨h13, hRn, hRw⟩ := shape_facts HZ.out
    rw [HFF.out] at h13 hRn hRw
    have H13 := Lib.hid h13; have HRW := Lib.hid hRw
    have hR3 : R.length ≤ 3 := by rw [hRn]; exact nLines_le F
    have hF0 : ((F : Int) == 0) = false := by rw [beq_eq_false_iff_ne]; omega
    clear hz h13 hRn hRw hR
    go_wp2_with fail
    go_loopw [5] (fun vi wr => ∃ i : Nat, i ≤ R.length ∧ vi = .int .i64 i ∧ (∀ m (hm : m < R.length), m < i → Opt.valid R[m].data.toList = true) ∧ w = wr) (fun vi _ => R.length - (intOf vi).toNat)
    case atStart => exact ⟨0, Nat.zero_le _, rfl, fun m _ h => absurd h (Nat.not_lt_zero _), rfl⟩
    case round =>
      obtain ⟨i, hi, rfl, hvl, rfl⟩ := hrel
      have HVL := Lib.hid hvl
      clear hvl
      by_cases hlt : i < R.length
      · obtain ⟨s, hs⟩ : ∃ s, R[i]'hlt = s := ⟨_, rfl⟩
        have hsz := HRW.out _ (List.getElem_mem hlt)
        rw [hs] at hsz
        have hs44 : s.size ≤ 44 := by rw [hsz]; exact wLine_le F
        have HSI := Lib.hid hs; have HLT := Lib.hid hlt
        obtain ⟨b, off, rfl, e0⟩ := HA.out.cell i hlt
        rw [hs] at e0
        have HOV := Lib.hid (fun W => rvalid10 s W (by unfold maxLen; omega))
        obtain ⟨q, hq⟩ : ∃ q, Opt.valid s.data.toList = q := ⟨_, rfl⟩
        rw [hq] at HOV
        have HQ := Lib.hid hq
        clear hs hq hsz
        go_wp2_with fail
        refine (HOV.out _).mono ?_; rintro e w' ⟨rfl, rfl⟩
        cases q
        · have HE := Lib.hid (show widE R = 12 from widE_bad HZ.out HLT.out (by rw [HSI.out]; exact HQ.out))
          clear e0
          go_wp2_with fail
          go_ret2
          exact widPost_no HE.out (by decide) (Below.refl _ _)
        · clear e0
          go_wp2_with fail
          go_roundw
          case rel =>
            refine ⟨i + 1, HLT.out, by go_num, fun m hm h => ?_, trivial⟩
            rcases Nat.lt_or_ge m i with g' | g'
            · exact HVL.out m hm g'
            · obtain rfl : m = i := by omega
              rw [HSI.out]; exact HQ.out
          case measure => have := HLT.out; simp [intOf]; omega
      · obtain rfl : i = R.length := by omega
        clear hlt hi
        go_wp2_with fail
        go_loopw [6, 7] (fun v6 vi wr => ∃ (i : Nat) (vs : List Value), i ≤ R.length ∧ vi = .int .i64 i ∧ SP w v6 vs (widG F R i) (.slice none 0 0) [] wr) (fun _ vi _ => R.length - (intOf vi).toNat)
        case atStart => exact ⟨0, [], Nat.zero_le _, rfl, RowsAt.nil _ _, World.ownsRow_nil _ _ _ _, fun i h => absurd h (by simp), Below.refl _ _⟩
        case round =>
          obtain ⟨i, vs, hi, rfl, hsp⟩ := hrel
          have HSP := Lib.hid hsp
          clear hsp
          obtain ⟨wo, rfl⟩ : ∃ wo : World, wo = wr := ⟨_, rfl⟩
          by_cases hlt : i < R.length
          · obtain ⟨K, hK⟩ : ∃ K, widG F R i = K := ⟨_, rfl⟩
            rw [hK] at HSP
            have hkl : K.length = i := by rw [← hK]; exact widG_len F R i
            have HK := Lib.hid hK; have HKL := Lib.hid hkl; have HLT := Lib.hid hlt
            obtain ⟨s, hs⟩ : ∃ s, R[i]'hlt = s := ⟨_, rfl⟩
            have hsz := HRW.out _ (List.getElem_mem hlt)
            rw [hs] at hsz
            have hs44 : s.size ≤ 44 := by rw [hsz]; exact wLine_le F
            have HSI := Lib.hid hs; have HSZ := Lib.hid hsz
            obtain ⟨b, off, rfl, e0⟩ := HA.out.cell i hlt
            rw [hs] at e0
            have HE0 := Lib.hid e0
            clear hK hs hsz hkl e0
            go_wp2_with fail
            go_loopw [8, 9] (fun u vk wr => ∃ k : Nat, k ≤ s.size ∧ vk = .int .i64 k ∧ SP w u6 vs K u (widRow F i s k) wr) (fun _ vk _ => s.size - (intOf vk).toNat)
            case atStart => exact ⟨0, Nat.zero_le _, rfl, HSP.out⟩
            case round =>
              obtain ⟨k, hk, rfl, hsp⟩ := hrel
              obtain ⟨xs, hxs⟩ : ∃ xs, widRow F i s k = xs := ⟨_, rfl⟩
              rw [hxs] at hsp
              have HX := Lib.hid hxs; have HXL := Lib.hid (show xs.length = k by rw [← hxs]; exact widRow_len F i s k)
              have HP := Lib.hid hsp
              have e0 := cell_later hsp.2.2.2 HE0.out
              clear hxs hsp
              obtain ⟨wk, rfl⟩ : ∃ wk : World, wk = wr := ⟨_, rfl⟩
              by_cases hkt : k < s.size
              · obtain ⟨ch, hch⟩ : ∃ ch, s[k]'hkt = ch := ⟨_, rfl⟩
                have HCH := Lib.hid hch; have HKT := Lib.hid hkt
                have HSIM := Lib.hid (show ∀ W, Below w.heap.size w W → Calls Tryz.prog 12 #[.int .u8 ((s[k]'hkt).toNat : Int)] W fun e w' => e = .returned (.string (simS ch)) ∧ Below W.heap.size W w' from fun W hW => by rw [hch]; exact rsimilar ch W (HGR.out.later hW))
                obtain ⟨L, hL⟩ : ∃ L, simL ch = L := ⟨_, rfl⟩
                have hSS : simS ch = strL L := by rw [← hL]; rfl
                rw [hSS] at HSIM
                have hL4 : L.length ≤ 4 := by rw [← hL]; exact simL_le ch
                have HLL := Lib.hid hL; have HL4 := Lib.hid hL4
                have hki : (k : Int) < (s.size : Int) := by omega
                have HRK := Lib.hid (fun W => rkind F i k H13.out (by omega) (by omega) W)
                have hq2 := kindP_le F i k
                obtain ⟨q, hq⟩ : ∃ q, kindP F i k = q := ⟨_, rfl⟩
                rw [hq] at HRK hq2
                have HQ := Lib.hid hq; have HQ2 := Lib.hid hq2
                clear hch hL hSS hq hq2
                go_wp2_with fail
                refine (HSIM.out _ HP.out.2.2.2).mono ?_; rintro e w1 ⟨rfl, hb1⟩
                have HP1 := Lib.hid (HP.out.later hb1)
                clear hb1 e0
                go_wp2_with fail
                go_loopw [11, 12] (fun v11 v12 wr => ∃ (j n : Nat), j ≤ L.length ∧ v12 = .string (strL (L.drop j)) ∧ v11 = .string (strL ((L.take j).filter fun d => mayP d q)) ∧ wr = w1.drewN n) (fun _ v12 _ => (match v12 with | .string s => s.size | _ => 0))
                case atStart => exact ⟨0, 0, Nat.zero_le _, rfl, rfl, rfl⟩
                case round =>
                  obtain ⟨j, n, hj, rfl, rfl, rfl⟩ := hrel
                  by_cases hjt : j < L.length
                  · obtain ⟨c2, hc2⟩ : ∃ c2, L[j]'hjt = c2 := ⟨_, rfl⟩
                    have hdr : L.drop j = c2 :: L.drop (j + 1) := by rw [← hc2]; exact List.drop_eq_getElem_cons hjt
                    have hft : (L.take (j + 1)).filter (fun d => mayP d q) = ((L.take j).filter fun d => mayP d q) ++ if mayP c2 q = true then [c2] else [] := by rw [filter_take hjt, hc2]
                    have hfl := filter_le (L := L) (p := fun d => mayP d q) j
                    obtain ⟨D, hD⟩ : ∃ D, L.drop (j + 1) = D := ⟨_, rfl⟩
                    obtain ⟨bs, hbs⟩ : ∃ bs, ((L.take j).filter fun d => mayP d q) = bs := ⟨_, rfl⟩
                    obtain ⟨G, hG⟩ : ∃ G, strL (L.drop j) = G := ⟨_, rfl⟩
                    have hG1 : G.size = (L.drop j).length := by rw [← hG]; exact strL_size _
                    have hGl : (L.drop j).length = D.length + 1 := by rw [hdr, hD]; rfl
                    have hG0 : (0 : Nat) < G.size := by omega
                    have hGc : (G[0]'hG0).toNat = c2.toNat := by
                      have : ∀ (X : ByteArray) (h : 0 < X.size) (e : X = strL (c2 :: D)), (X[0]'h) = c2 := fun X h e => by subst e; rfl
                      rw [this G hG0 (by rw [← hG, hdr, hD])]
                    have hGn : G.toList.isEmpty = false := toList_some hG0
                    have hGt : G.extract 1 G.size = strL D := by rw [← hG, hdr, hD]; exact strL_cut _ _
                    have hGo : G.extract 0 1 = strL [c2] := by rw [← hG, hdr]; exact strL_one _ _
                    have hGi : (1 : Int) ≤ (G.size : Int) := by omega
                    have hG5 : G.size ≤ 4 := by have : (L.drop j).length ≤ L.length := by rw [List.length_drop]; omega
                                                omega
                    rw [hbs] at hft hfl ⊢
                    rw [hG]
                    obtain ⟨B, hB⟩ : ∃ B, strL bs = B := ⟨_, rfl⟩
                    have hBs : B.size ≤ 4 := by rw [← hB, strL_size]; have := HL4.out; omega
                    rw [hB]
                    have HMY := Lib.hid (show ∀ W, Calls Tryz.prog 63 #[.int .u8 ((G[0]'hG0).toNat : Int), .int .i64 (q : Int)] W fun e w' => e = .returned (.bool (mayP c2 q)) ∧ W = w' from fun W => by rw [hGc]; exact rmay c2 q HQ2.out W)
                    have HJT := Lib.hid hjt; have HFT := Lib.hid hft; have HBB := Lib.hid hB; have HDD := Lib.hid hD; have HGT := Lib.hid hGt; have HGO := Lib.hid hGo; have HGS := Lib.hid hG1
                    obtain ⟨p, hp⟩ : ∃ p, mayP c2 q = p := ⟨_, rfl⟩
                    rw [hp] at HMY
                    have HP2 := Lib.hid hp
                    clear hc2 hdr hft hfl hD hbs hG hG1 hGl hGc hGt hGo hB hp hj hjt
                    have HRK2 := Lib.hid (fun m => show Calls Tryz.prog 64 #[.int .i64 (F : Int), .int .i64 (i : Int), .int .i64 (k : Int)] (w1.drewN (n + m)) fun e w' => e = .returned (.int .i64 (q : Int)) ∧ ∃ k, w' = w1.drewN (n + k) from (HRK.out _).mono (by rintro e w' ⟨h, rfl⟩; exact ⟨h, m, rfl⟩))
                    have HMY2 := Lib.hid (fun m => show Calls Tryz.prog 63 #[.int .u8 ((G[0]'hG0).toNat : Int), .int .i64 (q : Int)] (w1.drewN (n + m)) fun e w' => e = .returned (.bool p) ∧ ∃ k, w' = w1.drewN (n + k) from (HMY.out _).mono (by rintro e w' ⟨h, rfl⟩; exact ⟨h, m, rfl⟩))
                    go_wp2_with fail
                    go_quiet (first | (go_at_call 64; exact HRK2.out _) | (go_at_call 63; exact HMY2.out _))
                    cases p
                    · have HE := Lib.hid (show (L.take (j + 1)).filter (fun d => mayP d q) = bs by rw [HFT.out, HP2.out]; simp)
                      go_wp2_with fail
                      go_roundw
                      case rel => exact ⟨j + 1, _, HJT.out, by rw [HGT.out, HDD.out], by rw [HE.out, HBB.out], rfl⟩
                      case measure => have := HJT.out; simp; omega
                    · have HE := Lib.hid (show strL ((L.take (j + 1)).filter fun d => mayP d q) = B ++ G.extract 0 1 by rw [HFT.out, HP2.out, HGO.out, ← HBB.out, strL_app]; simp)
                      have hq9 : B.size + (G.extract 0 1).size ≤ 9223372036854775807 := by rw [HGO.out, strL_size]; simp; omega
                      go_wp2_with fail
                      go_roundw
                      case rel => exact ⟨j + 1, _, HJT.out, by rw [HGT.out, HDD.out], by rw [HE.out], rfl⟩
                      case measure => have := HJT.out; simp; omega
                  · obtain rfl : j = L.length := by omega
                    obtain ⟨bs, hbs⟩ : ∃ bs, (L.filter fun d => mayP d q) = bs := ⟨_, rfl⟩
                    have hdn : L.drop L.length = [] := List.drop_length
                    have htn : L.take L.length = L := List.take_length
                    rw [htn, hbs, hdn, strL_nil]
                    have hb4 : bs.length ≤ 4 := by rw [← hbs]; exact Nat.le_trans (List.length_filter_le _ _) HL4.out
                    have HWN := Lib.hid (HP1.out.later (below_drewN (Below.refl _ w1) n))
                    obtain ⟨wn, hwn⟩ : ∃ wn, w1.drewN n = wn := ⟨_, rfl⟩
                    rw [hwn] at HWN ⊢
                    clear hdn htn hwn hj hjt
                    by_cases hbe : bs = []
                    · subst hbe
                      have HW := Lib.hid (show widL F i k ch = [ch] from widL_none (by rw [HLL.out, HQ.out]; exact hbs))
                      rw [strL_nil]
                      have hcv := conv_one (P := Tryz.prog) wn 59 9 5 ((s[k]'HKT.out).toNat : Int) (u8_le _) 1 Tryz.underlying59 Tryz.underlying5 Tryz.underlying9
                      have hb8 : b8 ((s[k]'HKT.out).toNat : Int) = ch := by rw [HCH.out]; unfold b8; simp
                      rw [hb8] at hcv
                      obtain ⟨l, hl⟩ : ∃ l : ByteArray, ⟨#[ch]⟩ = l := ⟨_, rfl⟩
                      rw [hl] at hcv
                      have HL9 := Lib.hid (show widL F i k ch = l.data.toList by rw [HW.out, ← hl])
                      have HW := HL9
                      have hlz : l.size = 1 := by rw [← hl]; rfl
                      have HSO := Lib.hid (fun W => rsorted l W (by omega))
                      have HPB := Lib.hid (HWN.out.later (below_alloc1 wn (.cells #[.int .u8 ((s[k]'HKT.out).toNat : Int)] 5)))
                      clear hbs hb8 hl hb4
                      go_upto_region 26 with fail
                      generalize wn.alloc (.cells #[.int .u8 ((s[k]'HKT.out).toNat : Int)] 5) = WB at hcv HPB ⊢
                      obtain ⟨Q, hQ⟩ : ∃ Q : ByteArray, ⟨(Rd.srt l.data.toList).toArray⟩ = Q := ⟨_, rfl⟩
                      rw [hQ] at HSO
                      have HQW := Lib.hid (show widS F i k ch = Q by unfold widS; rw [HW.out]; exact hQ)
                      obtain ⟨i0, hi0, hz0, hz1, hz2⟩ := info_parts Tryz.infoStr
                      have HOWN := Lib.hid (HPB.out.2.1.alloc (.cells #[.string Q] 9))
                      clear hQ
                      go_wp2_with fail
                      refine (HSO.out _).mono ?_; rintro e w' ⟨rfl, rfl⟩
                      go_wp2_with (at_builtin; refine wpList_append_own_at _ rfl _ _ 29 rfl w.heap.size 9 i0 (.string ByteArray.empty) 1 16 Tryz.underlying29 hi0 hz0 hz1 hz2 rfl (by decide) _ _ _ rfl HOWN.out ⟨WB.heap.size, 0, none⟩ 1 1 [.string Q] rfl rfl ?c1 ?c2 ?c3 ?c4 ?c5 ?_)
                      case c1 => exact cell_one_new _ _ _
                      case c2 => intro u hu; simp at hu; subst hu; rfl
                      case c3 => have := HXL.out; have := HKT.out; unfold maxLen; omega
                      case c4 => have := HXL.out; have := HKT.out; omega
                      case c5 => have := HPB.out.2.2.2.size; simp; omega
                      · intro u' w4 hown' hgrow _ hloc
                        have HPN := Lib.hid (HPB.out.push (s := Q) hown' hgrow (by rw [size_alloc1]; exact hloc))
                        clear hown' hgrow hloc hi0 hz0 hz1 hz2
                        go_wp2_with fail
                        go_roundw
                        case rel =>
                          refine ⟨k + 1, HKT.out, by go_num, ?_⟩
                          rw [widRow_succ, HX.out, getD_byte7 HKT.out, HCH.out, HQW.out]
                          exact HPN.out
                        case measure => have := HKT.out; simp [intOf]; omega
                    · have HW := Lib.hid (show widL F i k ch = bs from widL_some (by rw [HLL.out, HQ.out]; exact hbs) hbe)
                      obtain ⟨l, hl⟩ : ∃ l : ByteArray, strL bs = l := ⟨_, rfl⟩
                      have hlz : l.size = bs.length := by rw [← hl]; exact strL_size bs
                      have hln : l.toList.isEmpty = false := toList_some (by rw [hlz]; exact List.length_pos_iff.2 hbe)
                      have HL9 := Lib.hid (show widL F i k ch = l.data.toList by rw [HW.out, ← hl]; rfl)
                      have HW := HL9
                      have HSO := Lib.hid (fun W => rsorted l W (by omega))
                      have HPB := HWN
                      rw [hl]
                      clear hbs hbe hl hb4
                      obtain ⟨WB, rfl⟩ : ∃ WB, WB = wn := ⟨_, rfl⟩
                      obtain ⟨Q, hQ⟩ : ∃ Q : ByteArray, ⟨(Rd.srt l.data.toList).toArray⟩ = Q := ⟨_, rfl⟩
                      rw [hQ] at HSO
                      have HQW := Lib.hid (show widS F i k ch = Q by unfold widS; rw [HW.out]; exact hQ)
                      obtain ⟨i0, hi0, hz0, hz1, hz2⟩ := info_parts Tryz.infoStr
                      have HOWN := Lib.hid (HPB.out.2.1.alloc (.cells #[.string Q] 9))
                      clear hQ
                      go_wp2_with fail
                      refine (HSO.out _).mono ?_; rintro e w' ⟨rfl, rfl⟩
                      go_wp2_with (at_builtin; refine wpList_append_own_at _ rfl _ _ 29 rfl w.heap.size 9 i0 (.string ByteArray.empty) 1 16 Tryz.underlying29 hi0 hz0 hz1 hz2 rfl (by decide) _ _ _ rfl HOWN.out ⟨WB.heap.size, 0, none⟩ 1 1 [.string Q] rfl rfl ?c1 ?c2 ?c3 ?c4 ?c5 ?_)
                      case c1 => exact cell_one_new _ _ _
                      case c2 => intro u hu; simp at hu; subst hu; rfl
                      case c3 => have := HXL.out; have := HKT.out; unfold maxLen; omega
                      case c4 => have := HXL.out; have := HKT.out; omega
                      case c5 => have := HPB.out.2.2.2.size; simp; omega
                      · intro u' w4 hown' hgrow _ hloc
                        have HPN := Lib.hid (HPB.out.push (s := Q) hown' hgrow (by rw [size_alloc1]; exact hloc))
                        clear hown' hgrow hloc hi0 hz0 hz1 hz2
                        go_wp2_with fail
                        go_roundw
                        case rel =>
                          refine ⟨k + 1, HKT.out, by go_num, ?_⟩
                          rw [widRow_succ, HX.out, getD_byte7 HKT.out, HCH.out, HQW.out]
                          exact HPN.out
                        case measure => have := HKT.out; simp [intOf]; omega
              · obtain rfl : k = s.size := by omega
                have HX2 := Lib.hid (show xs = widRow F i s s.size by rw [← HX.out])
                obtain ⟨A5, c5, rfl, _, _⟩ := own_form HP.out.2.1
                obtain ⟨i0, hi0, hz0, hz1, hz2⟩ := info_parts Tryz.infoRow
                have HOWN := Lib.hid (HP.out.1.1.alloc (.cells #[.slice A5 xs.length c5] 29))
                obtain ⟨xl, hxl⟩ : ∃ xl, xs.length = xl := ⟨_, rfl⟩
                rw [hxl] at HOWN ⊢
                have HXLL := Lib.hid hxl
                clear hxl
                go_wp2_with (at_builtin; refine wpList_append_own_at _ rfl _ _ 31 rfl w.heap.size 29 i0 (.slice none 0 0) 1 24 Tryz.underlying31 hi0 hz0 hz1 hz2 rfl (by decide) _ _ _ rfl HOWN.out ⟨wk.heap.size, 0, none⟩ 1 1 [.slice A5 xl c5] rfl rfl ?c1 ?c2 ?c3 ?c4 ?c5 ?_)
                case c1 => exact cell_one_new _ _ _
                case c2 => intro u hu; simp at hu; subst hu; rfl
                case c3 => have := HKL.out; unfold maxLen; omega
                case c4 => have := HKL.out; omega
                case c5 => have := HP.out.2.2.2.size; simp; omega
                · intro v' w4 hown' hgrow _ _
                  have HPC := Lib.hid (HP.out.close (by rw [HXLL.out]; exact hown') hgrow)
                  clear hown' hgrow hi0 hz0 hz1 hz2
                  go_wp2_with fail
                  go_roundw
                  case rel =>
                    refine ⟨i + 1, vs ++ [.slice A5 xs.length c5], HLT.out, by go_num, ?_⟩
                    rw [widG_succ, HK.out, getD_at7 HLT.out, HSI.out, ← HX2.out]
                    exact HPC.out
                  case measure => have := HLT.out; simp [intOf]; omega
          · obtain rfl : i = R.length := by omega
            have HE := Lib.hid (show widE R = 0 from widE_ok HZ.out fun m hm => HVL.out m hm hm)
            have HRR := Lib.hid (show RowsAt wo w.heap.size u6 vs (widG (Zn.shape (txts R)) R R.length) by rw [HFF.out]; exact HSP.out.1)
            have HBE := Lib.hid HSP.out.2.2.2
            go_wp2_with fail
            go_ret2
            exact widPost_ok HE.out HRR.out HBE.out
end Go.Proofs.YtafbhadfeemppaaGreatDoor

namespace Go.Proofs.YtafbhadfeemppaaGreatDoor
open Go.RowKit Go.ChangeShapes Go.WideShapes

theorem weightsAll_in {H : Type} {P : Program} {e : TypeId} {n : Nat} : ∀ {ds : List (DataW H)} {d : DataW H}, d ∈ ds → n ∈ d.weights P e → n ∈ DataW.weightsAll P e ds
  | d0 :: r, d, hd, hn => by
    simp only [DataW.weightsAll, List.mem_append]
    rcases List.mem_cons.1 hd with rfl | h
    · exact Or.inl hn
    · exact Or.inr (weightsAll_in h hn)
/-- The form's reach, of a string inside a slice of strings. -/
theorem sized_text {H : Type} {P : Program} {ts : List TypeId} {ds : List (DataW H)} (h : (DataW.weightsEach P ts ds).all (· ≤ reachBytes) = true) {j : Nat} {t e : TypeId} {elems spare : List (DataW H)} {bytes : List UInt8}
    (ht : ts[j]? = some t) (hd : ds[j]? = some (.slice elems spare)) (hu : P.underlying t = some (.slice e)) (hx : DataW.lit (.string bytes) ∈ elems) : bytes.length ≤ reachBytes := by
  refine of_decide_eq_true (List.all_eq_true.1 h _ (DataW.weights_mem_each ht hd _ ?_))
  simp only [DataW.weights, hu, List.mem_cons, List.mem_append]
  exact Or.inr (Or.inl (weightsAll_in hx (by simp [DataW.weights])))
theorem reach_is : reachBytes = 140737488351232 := by decide
set_option maxRecDepth 100000 in
/-- An argument of the type []string, opened. -/
theorem open_texts {H : Type} {enc : TypeId × Value → H} {w : World} {b0 : Nat} {v : Value} {d : DataW H} {p : List MemPlace} {r : Reach} {ts : List TypeId} {ds : List (DataW H)} {j : Nat}
    (hv : Value.okWide Tryz.prog w r b0 29 v) (h : DataW.Trod enc Tryz.prog w 0 (fun _ => true) true 29 v d p)
    (hsz : (DataW.weightsEach Tryz.prog ts ds).all (· ≤ reachBytes) = true) (ht : ts[j]? = some 29) (hd : ds[j]? = some d) :
    ∃ (A : Option Addr) (R : List ByteArray) (c : Nat), v = .slice A R.length c ∧ R.length ≤ c ∧ R.length ≤ 8796093022208 ∧ TextsAt w A R ∧ ∀ s ∈ R, s.size ≤ 140737488351232 := by
  obtain ⟨a0, len, cap, rfl⟩ := okWide_slice Tryz.underlying29 hv
  obtain ⟨fuel, hf⟩ := h
  rcases open_strings Tryz.underlying29 Tryz.underlying9 (by kernel_rfl) hf with ⟨hcs, _⟩ | ⟨x, l, c, ss, hcs, _, hl, hm, hz, hx, hcell, hwz⟩
  · simp [Value.cells] at hcs
    obtain ⟨rfl, rfl, rfl⟩ := hcs
    exact ⟨none, [], 0, rfl, Nat.le_refl _, Nat.zero_le _, ⟨by simp, .inl rfl⟩, fun s hs => by cases hs⟩
  · simp [Value.cells] at hcs
    obtain ⟨rfl, rfl, rfl⟩ := hcs
    injection hx with hx1 hx2
    subst hx1
    have hz' : ss.length = cap := by simpa using hz
    have hlt : (ss.take len).length = len := by rw [List.length_take]; omega
    have hb := sized_slice hsz ht hd Tryz.underlying29
    have hbo : Tryz.prog.bytesOf 9 = 16 := by kernel_rfl
    rw [hbo, reach_is] at hb
    simp only [strs, List.length_map, List.length_take, List.length_drop] at hb
    refine ⟨some x, ss.take len, cap, by rw [hlt], by rw [hlt]; exact hl, by rw [hlt]; omega, ⟨by simp, ?_⟩, fun s hs => ?_⟩
    · rcases Nat.eq_zero_or_pos len with h0 | h0
      · left; rw [h0]; simp
      · obtain ⟨b, off, spot⟩ := x
        have hspot : spot = none := by simpa [Addr.add] using World.cell?_spot (hcell 0 (by omega))
        subst hspot
        refine .inr ⟨b, off, rfl, fun i u hu => ?_⟩
        rw [List.getElem?_map, List.getElem?_take] at hu
        split at hu
        · have h2 := hcell i (by omega)
          rw [Go.WideShapes.add_plain] at h2
          rw [h2]
          rw [List.getElem?_eq_getElem (by omega)] at hu
          simp only [Option.map_some] at hu
          rw [List.getD_eq_getElem?_getD, List.getElem?_eq_getElem (by omega)]
          exact hu
        · cases hu
    · have h1 := sized_text (bytes := s.data.toList) hsz ht hd Tryz.underlying29 (by unfold strs; exact List.mem_map.2 ⟨s, hs, rfl⟩)
      rw [reach_is, Opt.size_len] at h1
      exact h1
end Go.Proofs.YtafbhadfeemppaaGreatDoor

namespace Go.Proofs.YtafbhadfeemppaaGreatDoor
open Go.RowKit
namespace Zn
theorem wds (F : Nat) (hF : 1 ≤ F ∧ F ≤ 3) : wd F 0 = 2 ∧ wd F 1 = 3 ∧ wd F 3 = 9 ∧ wd F 4 = 1 ∧ wd F 5 = 3 ∧ wd F 6 = 6 ∧ wd F 7 = 1 ∧ wd F 8 = 1 ∧ wd F 9 = 6 ∧ wd F 10 = 1 ∧ wd F 14 = 1 ∧ (1 ≤ wd F 2 ∧ wd F 2 ≤ 64) := by
  have h3 : F = 1 ∨ F = 2 ∨ F = 3 := by omega
  rcases h3 with rfl | rfl | rfl <;> exact ⟨rfl, rfl, rfl, rfl, rfl, rfl, rfl, rfl, rfl, rfl, rfl, by decide⟩
theorem letter_ok {x : UInt8} (h : Opt.fchar x = true) : Opt.ok x = true := by
  unfold Opt.fchar Opt.isL at h
  simp only [Bool.or_eq_true, Bool.and_eq_true, decide_eq_true_eq, beq_iff_eq] at h
  rcases h with h | h
  · unfold Opt.ok Opt.val
    rw [if_neg (by omega), if_pos h]; exact decide_eq_true (by omega)
  · first | (rw [h]; decide) | (unfold Opt.ok Opt.val; rw [if_neg (by omega), if_neg (by omega), if_pos h]; rfl)
theorem nm_valid {z : Z} (h : Good z) (n : Nat) (h1 : 1 ≤ n ∧ n ≤ 64) : Opt.valid (Opt.nmV z.sur.data.toList z.giv.data.toList n) = true := by
  have hok : Opt.nmOk z.sur.data.toList z.giv.data.toList := ⟨h.sur, h.giv, fun e => h.sur0 (by rw [← Opt.size_len, e]; rfl)⟩
  unfold Opt.nmV
  rw [if_neg (by rintro (g | g | g); exact g hok; omega; omega)]
  refine valid_takeN (valid_app ?_ (valid_fill _)) _
  have hc := Opt.nmL_chars (a := z.sur.data.toList) (b := z.giv.data.toList) h.sur h.giv
  unfold Opt.chars at hc
  refine List.all_eq_true.2 fun x hx => ?_
  have := List.all_eq_true.1 hc x hx
  exact letter_ok this
theorem mtxt_valid {z : Z} (h : Good z) (F : Nat) (hF : 1 ≤ F ∧ F ≤ 3) (o : Nat) : Opt.valid (bl (mtxt ⟨0, z, ⟨(Opt.nmV z.sur.data.toList z.giv.data.toList (wd F 2)).toArray⟩, Opt.digS z.birth, Opt.digS z.exp⟩ o)) = true := by
  unfold mtxt
  split
  · exact letters_valid h.kind
  · exact letters_valid h.state
  · exact nm_valid h _ (wds F hF).2.2.2.2.2.2.2.2.2.2.2
  · exact letters_valid h.nat
  · exact birth_valid h.birth
  · exact digS_valid _
  · exact sex_valid h.sex
  · exact exp_valid h.exp
  · exact digS_valid _
  · exact extra_valid h.sec
  · rfl
theorem mapF_valid {z : Z} (h : Good z) (F : Nat) (hF : 1 ≤ F ∧ F ≤ 3) (i : Nat) : Opt.valid (mapF F z i) = true := by
  unfold mapF midF
  split
  · rw [if_neg (fun hh => (by cases hh))]
    exact valid_wide (mtxt_valid h F hF _) _
  · exact valid_fill _
theorem upd_valid {G : Nat → List UInt8} (hG : ∀ i, Opt.valid (G i) = true) (j : Nat) {t : List UInt8} (ht : Opt.valid t = true) (i : Nat) : Opt.valid (upd G j t i) = true := by
  unfold upd
  split
  · exact ht
  · exact hG i
theorem numF_valid {z : Z} (h : Good z) {F : Nat} {G : Nat → List UInt8} (hG : ∀ i, Opt.valid (G i) = true) (i : Nat) : Opt.valid (numF z F G i) = true := by
  have hn := plain_valid h.num
  unfold numF
  split
  · refine upd_valid (upd_valid hG 3 (valid_wide ?_ _)) 11 (valid_wide ?_ _) i
    · show Opt.valid (bl _) = true
      rw [bl_extract, ext_len]; exact valid_takeN (valid_dropN hn _) _
    · show Opt.valid (bl _) = true
      rw [bl_app, bl_app, bl_app, bl_extract, ext_len]
      exact valid_app (valid_app (valid_app (valid_takeN (valid_dropN hn _) _) (digS_valid _)) (by decide)) (extra_valid h.opt)
  · exact upd_valid (upd_valid (upd_valid hG 3 (valid_wide hn _)) 4 (valid_wide (digS_valid _) _)) 11 (valid_wide (extra_valid h.opt) _) i
theorem optF_valid {z : Z} {F : Nat} {G : Nat → List UInt8} (hG : ∀ i, Opt.valid (G i) = true) (i : Nat) : Opt.valid (optF z F G i) = true := by
  unfold optF
  split
  · exact hG i
  · exact upd_valid hG 12 (valid_wide (digS_valid _) _) i
theorem bldF_valid {z : Z} (h : Good z) (F : Nat) (hF : 1 ≤ F ∧ F ≤ 3) (i : Nat) : Opt.valid (bldF F z i) = true :=
  upd_valid (optF_valid (numF_valid h (mapF_valid h F hF))) 14 (valid_wide (digS_valid _) _) i
theorem asm_valid {F : Nat} {G : Nat → List UInt8} (hG : ∀ i, Opt.valid (G i) = true) : (asm F G).all Opt.valid = true := by
  refine List.all_eq_true.2 fun l hl => ?_
  obtain ⟨o, _, rfl⟩ := List.mem_map.1 hl
  refine List.all_eq_true.2 fun c hc => ?_
  obtain ⟨t, ht, hct⟩ := List.mem_flatten.1 hc
  obtain ⟨i, _, rfl⟩ := List.mem_map.1 ht
  exact List.all_eq_true.1 (hG i) c hct
theorem bldK_valid {z : Z} (h : Good z) : ∀ s ∈ bldK z, Opt.valid s.data.toList = true := by
  intro s hs
  obtain ⟨l, hl, rfl⟩ := List.mem_map.1 hs
  have hf := h.fmt
  have h1 : (bld z).all Opt.valid = true := asm_valid (bldF_valid h z.fmt.toNat (by omega))
  exact List.all_eq_true.1 h1 l hl
end Zn
set_option maxRecDepth 100000 in
set_option maxHeartbeats 4000000 in
/-- The maker's lines, of the alphabet. -/
theorem made_linesV (g : Nat) (w : World) (hd : DiceAt g g w) :
    Calls Tryz.prog 15 #[.pointer (some ⟨g, 0, none⟩)] w fun e w' => ∃ A c K, e = .returned (.slice A (K : List ByteArray).length c) ∧ (LinesOf K ∧ ∀ s ∈ K, Opt.valid s.data.toList = true) ∧ TextsAt w' A K ∧ DiceAt g g w' ∧ w.grownBy w' (some g) := by
  go_enter Tryz.func15, Tryz.ntmps15
  go_wp2_with fail
  refine (made_zone g g w hd).mono ?_; rintro e w1 ⟨z, rfl, hz, hd1, hg1⟩
  have HG := Lib.hid hg1
  have HZ := Lib.hid hz; have HD := Lib.hid hd1
  clear hd hd1 hg1 hz
  have HRB := Lib.hid (rbuild z w1 (fits_le12 (fits_good12 HZ.out) (by decide)) (by have h1 := HZ.out.2.1; have h2 := HZ.out.2.2; omega))
  go_wp2_with fail
  refine HRB.out.mono ?_; rintro e w2 ⟨v, rfl, _, hown, hb⟩
  have ho := hown HZ.out.1.vld
  obtain ⟨b, c, rfl, _, ht⟩ := own_texts ho
  have HT := Lib.hid ht
  have HGR := Lib.hid (grown_trans HG.out (grown_of_below hb (some g)))
  have HD2 := Lib.hid (HD.out.below hb HD.out.lt)
  clear hown hb ho ht
  go_wp2_with fail
  go_ret
  exact ⟨b, c, _, rfl, ⟨bldK_lines HZ.out.1, Zn.bldK_valid HZ.out.1⟩, HT.out, HD2.out, HGR.out⟩
end Go.Proofs.YtafbhadfeemppaaGreatDoor

namespace Go.Proofs.YtafbhadfeemppaaGreatDoor
open Go.RowKit Go.ChangeShapes Go.WideShapes

theorem lines_shape {K : List ByteArray} (h : LinesOf K) : Zn.shape (txts K) ≠ 0 := by
  obtain ⟨f, hf, h1, h2⟩ := h
  have hl : (txts K).length = K.length := by unfold txts; rw [List.length_map]
  have hm : ∀ l ∈ txts K, l.length = Zn.wLine f := fun l hl => by
    obtain ⟨s, hs, rfl⟩ := List.mem_map.1 hl
    rw [Opt.size_len]; exact h2 s hs
  have h3 : f = 1 ∨ f = 2 ∨ f = 3 := by omega
  intro e
  unfold Zn.shape at e
  rcases h3 with rfl | rfl | rfl
  · rw [if_neg (by rw [hl, h1]; rintro ⟨a, _⟩; cases a), if_neg (by rw [hl, h1]; rintro ⟨a, _⟩; cases a), if_pos ⟨by rw [hl, h1]; rfl, hm⟩] at e
    cases e
  · by_cases c : (txts K).length = 2 ∧ ∀ l ∈ txts K, l.length = 44
    · rw [if_pos c] at e; cases e
    · rw [if_neg c, if_pos ⟨by rw [hl, h1]; rfl, hm⟩] at e; cases e
  · rw [if_pos ⟨by rw [hl, h1]; rfl, hm⟩] at e; cases e
theorem widE_lines {K : List ByteArray} (h : LinesOf K) (hv : ∀ s ∈ K, Opt.valid s.data.toList = true) : widE K = 0 :=
  widE_ok (lines_shape h) fun _ hi => hv _ (List.getElem_mem hi)
theorem below_diceV {w w1 w2 : World} {g : Nat} (hb : Below w.heap.size w w1) (hg : w1.grownBy w2 (some g)) (h : w.heap.size ≤ g) : Below w.heap.size w w2 :=
  hb.grown hg hb.size (fun k hk => by injection hk with hk; omega)
set_option maxRecDepth 100000 in
set_option maxHeartbeats 8000000 in
theorem walkReadingWidens {H : Type} {enc : TypeId × Value → H} (w : World) (v : Value) (d : DataW H) {b0 : Nat} {p : List MemPlace} {r : Reach} (hv : Value.okWide Tryz.prog w r b0 29 v) (hd : DataW.Trod enc Tryz.prog w 0 (fun _ => true) true 29 v d p)
    (v1 : Value) (d1 : DataW H) {b1 : Nat} {p1 : List MemPlace} {r1 : Reach} (hv1 : Value.okWide Tryz.prog w r1 b1 25 v1) (hd1 : DataW.Trod enc Tryz.prog w 0 (fun _ => true) true 25 v1 d1 p1)
    {ts : List TypeId} {ds : List (DataW H)} (hsz : (DataW.weightsEach Tryz.prog (29 :: ts) (d :: ds)).all (· ≤ reachBytes) = true) (hL : laidMetH Tryz.prog Rows.readingWidensRow.laid w) (hsh : w.ShapedOpen Tryz.prog) :
    Calls Tryz.prog 9 #[v, v1] w fun e w' => e = .returned (.bool true) ∧ Below w.heap.size w w' := by
  obtain ⟨A, R, c, rfl, hc, hl, hT, hs⟩ := open_texts (j := 0) hv hd hsz rfl rfl
  obtain ⟨A1, n, c1, rfl, hnc, hcm, hl1⟩ := open_list hv1 hd1
  have hnm := Nat.le_trans hnc hcm
  have HDX := Lib.hid (And.intro (laid_dat (by kernel_rfl) hL) (And.intro (Opt.lax_of hsh) (laid_grp (by kernel_rfl) (by rfl) hL)))
  have HAW := Lib.hid (fun W (h : Below w.heap.size w W) => oawake W (HDX.out.1.below h) (HDX.out.2.1.below h))
  have HL := Lib.hid hl1; have HT := Lib.hid hT
  have HOW := Lib.hid (owiden R A c w hT hl hs)
  have HRW := Lib.hid (fun W (h : Below w.heap.size w W) => rwiden R A c W (hT.later h) hl hs (HDX.out.2.2.later h))
  have HSM := Lib.hid (widK_small R)
  unfold WidPost at HOW HRW
  obtain ⟨E, hE⟩ : ∃ E, widE R = E := ⟨_, rfl⟩
  obtain ⟨K, hK⟩ : ∃ K, widK R = K := ⟨_, rfl⟩
  rw [hE, hK] at HOW
  simp only [hE, hK] at HRW HSM
  obtain ⟨k, hk⟩ : ∃ k, K.length = k := ⟨_, rfl⟩
  have HKL := Lib.hid hk
  have HSA := Lib.hid (fun W A B c d hA hB => rsame12 W A B K c d hA hB (by have := HSM.out.1; omega) (fun R hR => by have := HSM.out.2 R hR; omega))
  rw [hk] at HOW
  simp only [hk] at HRW HSA
  have e1 : ((E : Int) != (E : Int)) = false := by rw [bne_eq_false_iff_eq]
  clear hsz hL hsh hv hd hv1 hd1 hT hl1 hs hE hK hk hc hl
  go_enter Tryz.func9, Tryz.ntmps9
  go_wp2_with fail
  refine HOW.out.mono ?_; rintro e w1 ⟨A2, c2, rfl, hg, hb1⟩
  have HG1 := Lib.hid hg; have HB1 := Lib.hid hb1
  clear hg hb1
  go_wp2_with fail
  refine (HRW.out _ HB1.out).mono ?_; rintro e w2 ⟨A3, c3, rfl, hg, hb2⟩
  have HG2 := Lib.hid (And.intro (HG1.out.later hb2) hg); have HB2 := Lib.hid (HB1.out.trans (hb2.mono HB1.out.size))
  clear hg hb2
  go_wp2_with fail
  refine (HAW.out _ HB2.out).mono ?_; rintro e w3 ⟨rfl, hb3⟩
  have HG3 := Lib.hid (And.intro (HG2.out.1.later hb3) (HG2.out.2.later hb3)); have HB3 := Lib.hid (HB2.out.trans (hb3.mono HB2.out.size))
  clear hb3
  go_wp2_with fail
  refine (HSA.out _ _ _ _ _ HG3.out.1 HG3.out.2).mono ?_; rintro e w4 ⟨rfl, hb4⟩
  have HB4 := Lib.hid (HB3.out.trans (hb4.mono HB3.out.size))
  clear hb4 e1
  go_wp2_with fail
  refine (made_light _ _ _ _ hnm).mono ?_; rintro e w' ⟨rfl, rfl⟩
  by_cases hn : n ≤ 400
  · have e1 : decide (n ≤ 400) = true := decide_eq_true hn
    rw [e1]
    clear e1
    go_wp2_with fail
    refine (made_roll _ _ _ _ hn hnc (HL.out.below HB4.out)).mono ?_; rintro e w5 ⟨rfl, hd5, hb5⟩
    obtain ⟨g, hg⟩ : ∃ g, w4.heap.size = g := ⟨_, rfl⟩
    have HB5 := Lib.hid (HB4.out.trans (hb5.mono HB4.out.size))
    have HG := Lib.hid (show w.heap.size ≤ g by have := HB4.out.size; omega)
    rw [hg] at hd5 ⊢
    have HD5 := Lib.hid hd5
    clear hd5 hb5 hg hnc hcm hnm
    go_wp2_with fail
    refine (made_linesV g w5 HD5.out).mono ?_; rintro e w6 ⟨A6, c6, L, rfl, hlo, ht6, -, hg6⟩
    have HB6 := Lib.hid (below_diceV HB5.out hg6 HG.out)
    have hls := hlo.1.small
    have HOW := Lib.hid (owiden L A6 c6 w6 ht6 (by omega) (fun s hs => by have := hls.2 s hs; omega))
    have HRW := Lib.hid (fun W (h : Below w6.heap.size w6 W) (hg : GrpAt W) => rwiden L A6 c6 W (ht6.later h) (by omega) (fun s hs => by have := hls.2 s hs; omega) hg)
    have HSM := Lib.hid (widK_small L)
    have hl3 : L.length ≤ 3 := hls.1.2
    unfold WidPost at HOW HRW
    rw [widE_lines hlo.1 hlo.2] at HOW
    simp only [widE_lines hlo.1 hlo.2] at HRW
    obtain ⟨K, hK⟩ : ∃ K, widK L = K := ⟨_, rfl⟩
    rw [hK] at HOW
    simp only [hK] at HRW HSM
    obtain ⟨k, hk⟩ : ∃ k, K.length = k := ⟨_, rfl⟩
    have HSA := Lib.hid (fun W A B c d hA hB => rsame12 W A B K c d hA hB (by have := HSM.out.1; omega) (fun R hR => by have := HSM.out.2 R hR; omega))
    rw [hk] at HOW
    simp only [hk] at HRW HSA
    clear hlo ht6 hg6 hls hK hk
    go_wp2_with fail
    refine HOW.out.mono ?_; rintro e w7 ⟨A7, c7, rfl, hg7, hb7⟩
    have HG7 := Lib.hid hg7; have HB67 := Lib.hid hb7; have HB7 := Lib.hid (HB6.out.trans (hb7.mono HB6.out.size))
    clear hg7 hb7
    go_wp2_with fail
    refine (HRW.out _ HB67.out (HDX.out.2.2.later HB7.out)).mono ?_; rintro e w8 ⟨A8, c8, rfl, hg8, hb8⟩
    have HG8 := Lib.hid (And.intro (HG7.out.later hb8) hg8); have HB8 := Lib.hid (HB7.out.trans (hb8.mono HB7.out.size))
    clear hg8 hb8
    go_wp2_with fail
    refine (HSA.out _ _ _ _ _ HG8.out.1 HG8.out.2).mono ?_; rintro e w9 ⟨rfl, hb9⟩
    have HB9 := Lib.hid (HB8.out.trans (hb9.mono HB8.out.size))
    clear hb9
    go_wp2_with fail
    go_ret
    exact ⟨rfl, HB9.out⟩
  · have e1 : decide (n ≤ 400) = false := decide_eq_false hn
    rw [e1]
    clear e1
    go_wp2_with fail
    go_ret
    exact ⟨rfl, HB4.out⟩
end Go.Proofs.YtafbhadfeemppaaGreatDoor
