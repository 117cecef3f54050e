/- Chapter 40: the forms of terms, and the walks of shape and shaped. -/
import Derived.Test.YtihbmgkbipeakaaGreatTermCmpP
namespace Go.Proofs.YtihbmgkbipeakaaGreat
open Go.RowKit

namespace T
def atom : T → Bool | .mk k _ _ => k == 1 || k == 2
/-- Do the number of kids and the first ones fit the kind of a term with a function? -/
def headOk (k : Int) (ks : List T) : Bool :=
  if k = 3 ∨ k = 5 then ks.length == 2 else if k = 6 then ks.length == 2 && ((ks[0]?).map atom).getD false else if k = 4 then ks.length == 1 else if k = 7 then (1 ≤ ks.length && ks.length ≤ 4) && !ks.any (fun t => !t.atom) else false
mutual
def shape : T → Bool
  | .mk k s ks => if k = 1 ∨ k = 2 then isName s && ks.length == 0 else (headOk k ks && s.toList.isEmpty) && shapeAll ks
def shapeAll : List T → Bool
  | [] => true
  | t :: r => shape t && shapeAll r
end
theorem shapeAll_any : ∀ l : List T, shapeAll l = !l.any fun t => !t.shape
  | [] => rfl
  | t :: r => by simp only [shapeAll, List.any_cons, Bool.not_or, Bool.not_not, shapeAll_any r]
/-- The place of the first term with a property, or -1. -/
def idx (p : T → Bool) : List T → Int
  | [] => -1
  | t :: r => if p t then 0 else if idx p r < 0 then -1 else idx p r + 1
theorem idx_ge (p : T → Bool) : ∀ l, -1 ≤ idx p l
  | [] => by simp [idx]
  | t :: r => by have := idx_ge p r; simp only [idx]; split <;> (try split) <;> omega
theorem idx_iff (p : T → Bool) : ∀ l, 0 ≤ idx p l ↔ l.any p = true
  | [] => by simp [idx]
  | t :: r => by
    have h := idx_iff p r
    simp only [idx, List.any_cons, Bool.or_eq_true]
    rw [← h]
    rcases Bool.eq_false_or_eq_true (p t) with e | e
    · simp [e]
    · simp only [e, Bool.false_eq_true, if_false, false_or]
      split <;> omega
theorem idx_any (p : T → Bool) (l : List T) : decide (0 ≤ idx p l) = l.any p := by
  rw [Bool.eq_iff_iff, decide_eq_true_eq]; exact idx_iff p l
theorem idx_at (p : T → Bool) : ∀ (l : List T) (j : Nat) (h : j < l.length), (∀ m (g : m < j), p l[m] = false) → p l[j] = true → idx p l = j
  | [], j, h, _, _ => by simp at h
  | t :: r, 0, h, _, hp => by simp only [List.getElem_cons_zero] at hp; simp [idx, hp]
  | t :: r, j + 1, h, hz, hp => by
    have h0 := hz 0 (by omega)
    simp only [List.getElem_cons_zero] at h0
    have ih := idx_at p r j (by simpa using h) (fun m g => by have := hz (m + 1) (by omega); simpa using this) (by simpa using hp)
    simp only [idx, h0, ih]
    rw [if_neg (by simp), if_neg (by omega)]; push_cast; rfl
theorem idx_no (p : T → Bool) : ∀ (l : List T), (∀ m (g : m < l.length), p l[m] = false) → idx p l = -1
  | [], _ => rfl
  | t :: r, hz => by
    have h0 := hz 0 (by simp)
    simp only [List.getElem_cons_zero] at h0
    have ih := idx_no p r (fun m g => by have := hz (m + 1) (by simpa using g); simpa using this)
    simp [idx, h0, ih]
end T

set_option maxRecDepth 100000 in
set_option maxHeartbeats 2000000 in
theorem index_simple (p : T → Bool) (A : Option Addr) (cap : Nat) (ks : List T) (U : Nat → Value × Value × Value) (w : World) (hkn : ks.length ≤ 1048576)
    (hA : ks.length = 0 ∨ ∃ b off, A = some ⟨b, off, none⟩ ∧ ∀ i, i < ks.length → w.cell? ⟨b, off + i * 3, none⟩ = some (U i).1 ∧ w.cell? ⟨b, off + i * 3 + 1, none⟩ = some (U i).2.1 ∧ w.cell? ⟨b, off + i * 3 + 2, none⟩ = some (U i).2.2)
    (hU : ∀ i (h : i < ks.length), TermAt w (.agg #[(U i).1, (U i).2.1, (U i).2.2]) ks[i])
    (hC : ∀ j (h : j < ks.length) (v : Value) (W : World), TermAt W v ks[j] → Calls Tryz.prog 143 #[v] W fun e w' => e = .returned (.bool (p ks[j])) ∧ Below W.heap.size W w') :
    Calls Tryz.prog 123 #[.slice A ks.length cap, .func (.func 143) #[] #[]] w fun e w' => e = .returned (.int .i64 (T.idx p ks)) ∧ Below w.heap.size w w' := by
  have HC := Lib.hid hC; clear hC
  go_enter Tryz.func123, Tryz.ntmps123
  go_wp2_with fail
  go_loopw [8] (fun i wr => ∃ j : Nat, j ≤ ks.length ∧ i = .int .i64 j ∧ (∀ m (h : m < j) (h1 : m < ks.length), p ks[m] = false) ∧ Below w.heap.size w wr) (fun i _ => ks.length - (intOf i).toNat)
  case atStart => exact ⟨0, Nat.zero_le _, rfl, fun m h => absurd h (by omega), Below.refl _ _⟩
  case round =>
    obtain ⟨j, hj, rfl, hz, hbl⟩ := hrel
    have HZ := Lib.hid hz; clear hz
    by_cases hlt : j < ks.length
    · obtain ⟨b, off, B1, C1, rfl, d0, d1, d2, hu⟩ := TermAt.cells hlt hA hU
      have e0 := cell_later hbl d0; have e1 := cell_later hbl d1; have e2 := cell_later hbl d2
      have hi : (j : Int) < (ks.length : Int) := by omega
      clear d0 d1 d2
      have HU := Lib.hid (hu.later hbl)
      have HLT := Lib.hid hlt
      have hc := HC.out j hlt
      have HC' := Lib.hid hc
      clear hc hu
      obtain ⟨q, hq⟩ : ∃ q, p ks[j] = q := ⟨_, rfl⟩
      have HQ := Lib.hid hq; clear hq
      go_wp2_with fail
      refine (HC'.out _ _ HU.out).mono ?_; rintro e w2 ⟨he, hb4⟩
      have he' : e = .returned (.bool q) := he.trans (ret_bool HQ.out)
      clear he; subst he'
      replace hb4 := hbl.trans (hb4.mono hbl.size)
      clear e0 e1 e2
      cases q
      · go_wp2_with fail
        go_roundw
        case rel =>
          refine ⟨j + 1, HLT.out, by go_num, fun m h g1 => ?_, hb4⟩
          rcases Nat.lt_or_ge m j with g | g
          · exact HZ.out m g g1
          · obtain rfl : m = j := by omega
            exact HQ.out
        case measure => have := HLT.out; simp [intOf]; omega
      · have HR := Lib.hid (T.idx_at p ks j hlt (fun m g => HZ.out m g (by omega)) HQ.out)
        go_wp2_with fail
        go_ret
        exact ⟨ret_i64 HR.out.symm, hb4⟩
    · have hi : (ks.length : Int) ≤ (j : Int) := by omega
      have HL := Lib.hid (T.idx_no p ks (fun m g => HZ.out m (by omega) g))
      go_wp2_with fail
      go_ret
      exact ⟨ret_i64 HL.out.symm, hbl⟩
theorem contains_simple (p : T → Bool) (A : Option Addr) (cap : Nat) (ks : List T) (U : Nat → Value × Value × Value) (w : World) (hkn : ks.length ≤ 1048576)
    (hA : ks.length = 0 ∨ ∃ b off, A = some ⟨b, off, none⟩ ∧ ∀ i, i < ks.length → w.cell? ⟨b, off + i * 3, none⟩ = some (U i).1 ∧ w.cell? ⟨b, off + i * 3 + 1, none⟩ = some (U i).2.1 ∧ w.cell? ⟨b, off + i * 3 + 2, none⟩ = some (U i).2.2)
    (hU : ∀ i (h : i < ks.length), TermAt w (.agg #[(U i).1, (U i).2.1, (U i).2.2]) ks[i])
    (hC : ∀ j (h : j < ks.length) (v : Value) (W : World), TermAt W v ks[j] → Calls Tryz.prog 143 #[v] W fun e w' => e = .returned (.bool (p ks[j])) ∧ Below W.heap.size W w') (r : Bool) (hr : ks.any p = r) :
    Calls Tryz.prog 84 #[.slice A ks.length cap, .func (.func 143) #[] #[]] w fun e w' => e = .returned (.bool r) ∧ Below w.heap.size w w' := by
  have HI := Lib.hid (index_simple p A cap ks U w hkn hA hU hC)
  have HR := Lib.hid ((T.idx_any p ks).trans hr)
  clear hr hA hU hC
  generalize T.idx p ks = q at HI HR
  go_enter Tryz.func84, Tryz.ntmps84
  go_wp2_with fail
  refine HI.out.mono ?_; rintro e w2 ⟨rfl, hb4⟩
  go_wp2_with fail
  go_ret
  exact ⟨ret_bool HR.out, hb4⟩

set_option maxRecDepth 100000 in
set_option maxHeartbeats 2000000 in
theorem index_shape (p : T → Bool) (A : Option Addr) (cap : Nat) (ks : List T) (U : Nat → Value × Value × Value) (w : World) (hkn : ks.length ≤ 1048576)
    (hA : ks.length = 0 ∨ ∃ b off, A = some ⟨b, off, none⟩ ∧ ∀ i, i < ks.length → w.cell? ⟨b, off + i * 3, none⟩ = some (U i).1 ∧ w.cell? ⟨b, off + i * 3 + 1, none⟩ = some (U i).2.1 ∧ w.cell? ⟨b, off + i * 3 + 2, none⟩ = some (U i).2.2)
    (hU : ∀ i (h : i < ks.length), TermAt w (.agg #[(U i).1, (U i).2.1, (U i).2.2]) ks[i])
    (hC : ∀ j (h : j < ks.length) (v : Value) (W : World), TermAt W v ks[j] → Calls Tryz.prog 144 #[v] W fun e w' => e = .returned (.bool (p ks[j])) ∧ Below W.heap.size W w') :
    Calls Tryz.prog 123 #[.slice A ks.length cap, .func (.func 144) #[] #[]] w fun e w' => e = .returned (.int .i64 (T.idx p ks)) ∧ Below w.heap.size w w' := by
  have HC := Lib.hid hC; clear hC
  go_enter Tryz.func123, Tryz.ntmps123
  go_wp2_with fail
  go_loopw [8] (fun i wr => ∃ j : Nat, j ≤ ks.length ∧ i = .int .i64 j ∧ (∀ m (h : m < j) (h1 : m < ks.length), p ks[m] = false) ∧ Below w.heap.size w wr) (fun i _ => ks.length - (intOf i).toNat)
  case atStart => exact ⟨0, Nat.zero_le _, rfl, fun m h => absurd h (by omega), Below.refl _ _⟩
  case round =>
    obtain ⟨j, hj, rfl, hz, hbl⟩ := hrel
    have HZ := Lib.hid hz; clear hz
    by_cases hlt : j < ks.length
    · obtain ⟨b, off, B1, C1, rfl, d0, d1, d2, hu⟩ := TermAt.cells hlt hA hU
      have e0 := cell_later hbl d0; have e1 := cell_later hbl d1; have e2 := cell_later hbl d2
      have hi : (j : Int) < (ks.length : Int) := by omega
      clear d0 d1 d2
      have HU := Lib.hid (hu.later hbl)
      have HLT := Lib.hid hlt
      have hc := HC.out j hlt
      have HC' := Lib.hid hc
      clear hc hu
      obtain ⟨q, hq⟩ : ∃ q, p ks[j] = q := ⟨_, rfl⟩
      have HQ := Lib.hid hq; clear hq
      go_wp2_with fail
      refine (HC'.out _ _ HU.out).mono ?_; rintro e w2 ⟨he, hb4⟩
      have he' : e = .returned (.bool q) := he.trans (ret_bool HQ.out)
      clear he; subst he'
      replace hb4 := hbl.trans (hb4.mono hbl.size)
      clear e0 e1 e2
      cases q
      · go_wp2_with fail
        go_roundw
        case rel =>
          refine ⟨j + 1, HLT.out, by go_num, fun m h g1 => ?_, hb4⟩
          rcases Nat.lt_or_ge m j with g | g
          · exact HZ.out m g g1
          · obtain rfl : m = j := by omega
            exact HQ.out
        case measure => have := HLT.out; simp [intOf]; omega
      · have HR := Lib.hid (T.idx_at p ks j hlt (fun m g => HZ.out m g (by omega)) HQ.out)
        go_wp2_with fail
        go_ret
        exact ⟨ret_i64 HR.out.symm, hb4⟩
    · have hi : (ks.length : Int) ≤ (j : Int) := by omega
      have HL := Lib.hid (T.idx_no p ks (fun m g => HZ.out m (by omega) g))
      go_wp2_with fail
      go_ret
      exact ⟨ret_i64 HL.out.symm, hbl⟩
theorem contains_shape (p : T → Bool) (A : Option Addr) (cap : Nat) (ks : List T) (U : Nat → Value × Value × Value) (w : World) (hkn : ks.length ≤ 1048576)
    (hA : ks.length = 0 ∨ ∃ b off, A = some ⟨b, off, none⟩ ∧ ∀ i, i < ks.length → w.cell? ⟨b, off + i * 3, none⟩ = some (U i).1 ∧ w.cell? ⟨b, off + i * 3 + 1, none⟩ = some (U i).2.1 ∧ w.cell? ⟨b, off + i * 3 + 2, none⟩ = some (U i).2.2)
    (hU : ∀ i (h : i < ks.length), TermAt w (.agg #[(U i).1, (U i).2.1, (U i).2.2]) ks[i])
    (hC : ∀ j (h : j < ks.length) (v : Value) (W : World), TermAt W v ks[j] → Calls Tryz.prog 144 #[v] W fun e w' => e = .returned (.bool (p ks[j])) ∧ Below W.heap.size W w') (r : Bool) (hr : ks.any p = r) :
    Calls Tryz.prog 84 #[.slice A ks.length cap, .func (.func 144) #[] #[]] w fun e w' => e = .returned (.bool r) ∧ Below w.heap.size w w' := by
  have HI := Lib.hid (index_shape p A cap ks U w hkn hA hU hC)
  have HR := Lib.hid ((T.idx_any p ks).trans hr)
  clear hr hA hU hC
  generalize T.idx p ks = q at HI HR
  go_enter Tryz.func84, Tryz.ntmps84
  go_wp2_with fail
  refine HI.out.mono ?_; rintro e w2 ⟨rfl, hb4⟩
  go_wp2_with fail
  go_ret
  exact ⟨ret_bool HR.out, hb4⟩

set_option maxRecDepth 100000 in
set_option maxHeartbeats 2000000 in
theorem index_var (p : T → Bool) (A : Option Addr) (cap : Nat) (ks : List T) (U : Nat → Value × Value × Value) (w : World) (hkn : ks.length ≤ 1048576)
    (hA : ks.length = 0 ∨ ∃ b off, A = some ⟨b, off, none⟩ ∧ ∀ i, i < ks.length → w.cell? ⟨b, off + i * 3, none⟩ = some (U i).1 ∧ w.cell? ⟨b, off + i * 3 + 1, none⟩ = some (U i).2.1 ∧ w.cell? ⟨b, off + i * 3 + 2, none⟩ = some (U i).2.2)
    (hU : ∀ i (h : i < ks.length), TermAt w (.agg #[(U i).1, (U i).2.1, (U i).2.2]) ks[i])
    (hC : ∀ j (h : j < ks.length) (v : Value) (W : World), TermAt W v ks[j] → Calls Tryz.prog 118 #[v] W fun e w' => e = .returned (.bool (p ks[j])) ∧ Below W.heap.size W w') :
    Calls Tryz.prog 123 #[.slice A ks.length cap, .func (.func 118) #[] #[]] w fun e w' => e = .returned (.int .i64 (T.idx p ks)) ∧ Below w.heap.size w w' := by
  have HC := Lib.hid hC; clear hC
  go_enter Tryz.func123, Tryz.ntmps123
  go_wp2_with fail
  go_loopw [8] (fun i wr => ∃ j : Nat, j ≤ ks.length ∧ i = .int .i64 j ∧ (∀ m (h : m < j) (h1 : m < ks.length), p ks[m] = false) ∧ Below w.heap.size w wr) (fun i _ => ks.length - (intOf i).toNat)
  case atStart => exact ⟨0, Nat.zero_le _, rfl, fun m h => absurd h (by omega), Below.refl _ _⟩
  case round =>
    obtain ⟨j, hj, rfl, hz, hbl⟩ := hrel
    have HZ := Lib.hid hz; clear hz
    by_cases hlt : j < ks.length
    · obtain ⟨b, off, B1, C1, rfl, d0, d1, d2, hu⟩ := TermAt.cells hlt hA hU
      have e0 := cell_later hbl d0; have e1 := cell_later hbl d1; have e2 := cell_later hbl d2
      have hi : (j : Int) < (ks.length : Int) := by omega
      clear d0 d1 d2
      have HU := Lib.hid (hu.later hbl)
      have HLT := Lib.hid hlt
      have hc := HC.out j hlt
      have HC' := Lib.hid hc
      clear hc hu
      obtain ⟨q, hq⟩ : ∃ q, p ks[j] = q := ⟨_, rfl⟩
      have HQ := Lib.hid hq; clear hq
      go_wp2_with fail
      refine (HC'.out _ _ HU.out).mono ?_; rintro e w2 ⟨he, hb4⟩
      have he' : e = .returned (.bool q) := he.trans (ret_bool HQ.out)
      clear he; subst he'
      replace hb4 := hbl.trans (hb4.mono hbl.size)
      clear e0 e1 e2
      cases q
      · go_wp2_with fail
        go_roundw
        case rel =>
          refine ⟨j + 1, HLT.out, by go_num, fun m h g1 => ?_, hb4⟩
          rcases Nat.lt_or_ge m j with g | g
          · exact HZ.out m g g1
          · obtain rfl : m = j := by omega
            exact HQ.out
        case measure => have := HLT.out; simp [intOf]; omega
      · have HR := Lib.hid (T.idx_at p ks j hlt (fun m g => HZ.out m g (by omega)) HQ.out)
        go_wp2_with fail
        go_ret
        exact ⟨ret_i64 HR.out.symm, hb4⟩
    · have hi : (ks.length : Int) ≤ (j : Int) := by omega
      have HL := Lib.hid (T.idx_no p ks (fun m g => HZ.out m (by omega) g))
      go_wp2_with fail
      go_ret
      exact ⟨ret_i64 HL.out.symm, hbl⟩
theorem contains_var (p : T → Bool) (A : Option Addr) (cap : Nat) (ks : List T) (U : Nat → Value × Value × Value) (w : World) (hkn : ks.length ≤ 1048576)
    (hA : ks.length = 0 ∨ ∃ b off, A = some ⟨b, off, none⟩ ∧ ∀ i, i < ks.length → w.cell? ⟨b, off + i * 3, none⟩ = some (U i).1 ∧ w.cell? ⟨b, off + i * 3 + 1, none⟩ = some (U i).2.1 ∧ w.cell? ⟨b, off + i * 3 + 2, none⟩ = some (U i).2.2)
    (hU : ∀ i (h : i < ks.length), TermAt w (.agg #[(U i).1, (U i).2.1, (U i).2.2]) ks[i])
    (hC : ∀ j (h : j < ks.length) (v : Value) (W : World), TermAt W v ks[j] → Calls Tryz.prog 118 #[v] W fun e w' => e = .returned (.bool (p ks[j])) ∧ Below W.heap.size W w') (r : Bool) (hr : ks.any p = r) :
    Calls Tryz.prog 84 #[.slice A ks.length cap, .func (.func 118) #[] #[]] w fun e w' => e = .returned (.bool r) ∧ Below w.heap.size w w' := by
  have HI := Lib.hid (index_var p A cap ks U w hkn hA hU hC)
  have HR := Lib.hid ((T.idx_any p ks).trans hr)
  clear hr hA hU hC
  generalize T.idx p ks = q at HI HR
  go_enter Tryz.func84, Tryz.ntmps84
  go_wp2_with fail
  refine HI.out.mono ?_; rintro e w2 ⟨rfl, hb4⟩
  go_wp2_with fail
  go_ret
  exact ⟨ret_bool HR.out, hb4⟩

end Go.Proofs.YtihbmgkbipeakaaGreat
