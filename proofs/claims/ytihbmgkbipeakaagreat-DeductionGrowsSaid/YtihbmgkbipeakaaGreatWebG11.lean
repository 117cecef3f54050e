/- Several texts in one: TermPar, TermPName, TermPKids. -/
import Derived.Test.YtihbmgkbipeakaaGreatWebG7
import Derived.BigQuiet
import Derived.Deep.QuietTactic
import Derived.Deep.LoopGhost
import Derived.Deep.CutRange
namespace Go.Proofs.YtihbmgkbipeakaaGreat
open Go.RowKit

/-- A reader in memory: text, place, wrong. -/
def PBox (ty : TypeId) (w : World) (g : Nat) (s : ByteArray) (i : Nat) (b : Bool) : Prop := w.heap[g]? = some (.cells #[.string s, .int .i64 i, .bool b] ty (0, 0))
section
variable {ty : TypeId} {w w' : World} {g i : Nat} {s : ByteArray} {b : Bool}
theorem PBox.cells (h : PBox ty w g s i b) : w.cell? ⟨g, 0, none⟩ = some (.string s) ∧ w.cell? ⟨g, 1, none⟩ = some (.int .i64 i) ∧ w.cell? ⟨g, 2, none⟩ = some (.bool b) := by
  unfold PBox at h
  refine ⟨?_, ?_, ?_⟩ <;> simp [World.cell?, h]
theorem PBox.free (h : PBox ty w g s i b) : w.frozen? ⟨g, 0, none⟩ = false ∧ w.frozen? ⟨g, 1, none⟩ = false ∧ w.frozen? ⟨g, 2, none⟩ = false := by
  unfold PBox at h
  refine ⟨?_, ?_, ?_⟩ <;> simp [World.frozen?, h]
theorem PBox.lt (h : PBox ty w g s i b) : g < w.heap.size := (Array.getElem?_eq_some_iff.1 h).1
theorem PBox.set1 (h : PBox ty w g s i b) (j : Nat) (v : Int) (hv : v = j) : PBox ty (w.setCell ⟨g, 1, none⟩ (.int .i64 v)) g s j b := by
  subst hv; unfold PBox at *
  simp [World.setCell, Array.getElem?_modify, h]
theorem PBox.set2 (h : PBox ty w g s i b) (c : Bool) : PBox ty (w.setCell ⟨g, 2, none⟩ (.bool c)) g s i c := by
  unfold PBox at *
  simp [World.setCell, Array.getElem?_modify, h]
theorem PBox.later (h : PBox ty w g s i b) (hb : Below w.heap.size w w') : PBox ty w' g s i b := (hb.block g h.lt).trans h
theorem PBox.grown {row : Option Nat} (h : PBox ty w g s i b) (hg : w.grownBy w' row) (hr : row ≠ some g) : PBox ty w' g s i b := (hg.block g h.lt (fun e => hr e.symm)).trans h
theorem PBox.drewN (h : PBox ty w g s i b) (n : Nat) : PBox ty (w.drewN n) g s i b := h
end
theorem grown_refl (w : World) (row : Option Nat) : w.grownBy w row := ⟨rfl, rfl, rfl, Nat.le_refl _, fun _ _ _ => rfl⟩
theorem grown_drewN {w w' : World} {row : Option Nat} (h : w.grownBy w' row) (n : Nat) : w.grownBy (w'.drewN n) row := ⟨h.os, h.tape, h.output, h.size, h.block⟩
theorem grown_set {w w' : World} {g : Nat} (h : w.grownBy w' (some g)) (i : Nat) (v : Value) : w.grownBy (w'.setCell ⟨g, i, none⟩ v) (some g) :=
  ⟨h.os, h.tape, h.output, by rw [show (w'.setCell ⟨g, i, none⟩ v).heap.size = w'.heap.size by simp [World.setCell]]; exact h.size, fun k hk hn => by rw [Below.heap_setCell _ _ _ _ (fun e => hn (by rw [e]))]; exact h.block k hk hn⟩
/-- Where the reader stands behind a step. -/
def Stands (ty : TypeId) (w : World) (g : Nat) (s : ByteArray) : Except Nat Nat → Prop
  | .ok j => PBox ty w g s j false
  | .error j => PBox ty w g s j true
theorem T.now_at (s : ByteArray) (i : Nat) (h : i < s.size) (c : UInt8) : T.now s.data.toList i c = (s[i] == c) := by
  unfold T.now
  have hl : i < s.data.toList.length := by simpa using h
  rw [List.getElem?_eq_getElem hl]
  show (some s[i] == some c) = _
  rfl
theorem T.now_past (s : ByteArray) (i : Nat) (h : s.size ≤ i) (c : UInt8) : T.now s.data.toList i c = false := by
  unfold T.now; rw [List.getElem?_eq_none (by simpa using h)]; rfl
theorem u8_ne {a b : UInt8} (h : (a == b) = false) : ((a.toNat : Int) == (b.toNat : Int)) = false ∧ ((a.toNat : Int) != (b.toNat : Int)) = true := by
  have hne : a ≠ b := by rw [beq_eq_false_iff_ne] at h; exact h
  have : (a.toNat : Int) ≠ (b.toNat : Int) := fun e => hne (UInt8.toNat_inj.1 (by omega))
  exact ⟨by rw [beq_eq_false_iff_ne]; exact this, by rw [bne_iff_ne]; exact this⟩
theorem u8_eq {a b : UInt8} (h : (a == b) = true) : ((a.toNat : Int) == (b.toNat : Int)) = true ∧ ((a.toNat : Int) != (b.toNat : Int)) = false := by
  have := beq_iff_eq.1 h; subst this; exact ⟨beq_self_eq_true _, by simp⟩

set_option maxRecDepth 100000 in
set_option maxHeartbeats 1000000 in
/-- now, where nothing is wrong. -/
theorem onow (g i : Nat) (s : ByteArray) (c : UInt8) (w : World) (h : PBox 152 w g s i false) (hi : i ≤ 4096) (r : Bool) (hr : T.now s.data.toList i c = r) :
    Calls Tryz.prog 179 #[.pointer (some ⟨g, 0, none⟩), .int .u8 (c.toNat : Int)] w fun e w' => e = .returned (.bool r) ∧ ∃ n, w' = w.drewN n := by
  obtain ⟨x0, x1, x2⟩ := h.cells
  rcases Nat.lt_or_ge i s.size with hlt | hge
  · rw [T.now_at s i hlt] at hr
    have h1 : (i : Int) < (s.size : Int) := by omega
    have h2 : (0 : Int) ≤ (i : Int) := by omega
    have hv : ((s[i].toNat : Int) == (c.toNat : Int)) = r := by
      rcases Bool.eq_false_or_eq_true (s[i] == c) with e | e
      · rw [← hr, e]; exact (u8_eq e).1
      · rw [← hr, e]; exact (u8_ne e).1
    have HV := Lib.hid hv
    clear hr hv
    go_enter Tryz.func179, Tryz.ntmps179
    go_wp2_with fail
    go_quiet (fail)
    go_wp2_with fail
    go_ret
    exact ⟨ret_bool (by have := HV.out; simpa using this), _, rfl⟩
  · rw [T.now_past s i hge] at hr
    subst hr
    have h1 : decide ((i : Int) < (s.size : Int)) = false := decide_eq_false (by omega)
    have h2 : decide (i < s.size) = false := decide_eq_false (by omega)
    go_enter Tryz.func179, Tryz.ntmps179
    go_wp2_with fail
    go_quiet (fail)
    go_wp2_with fail
    go_ret
    exact ⟨rfl, _, rfl⟩
set_option maxRecDepth 100000 in
set_option maxHeartbeats 1000000 in
/-- now, where something is wrong. -/
theorem onow_wrong (g i : Nat) (s : ByteArray) (c : Int) (w : World) (h : PBox 152 w g s i true) :
    Calls Tryz.prog 179 #[.pointer (some ⟨g, 0, none⟩), .int .u8 c] w fun e w' => e = .returned (.bool false) ∧ ∃ n, w' = w.drewN n := by
  obtain ⟨x0, x1, x2⟩ := h.cells
  go_enter Tryz.func179, Tryz.ntmps179
  go_wp2_with fail
  go_quiet (fail)
  go_wp2_with fail
  go_ret
  exact ⟨rfl, _, rfl⟩

set_option maxRecDepth 100000 in
set_option maxHeartbeats 2000000 in
theorem oneed (g i : Nat) (s q : ByteArray) (w : World) (h : PBox 152 w g s i false) (_hi : i ≤ 4096) (hs : s.size ≤ 4096) (hq : q.size ≤ 16) :
    Calls Tryz.prog 180 #[.pointer (some ⟨g, 0, none⟩), .string q] w fun e w' => e = .returned (.tuple #[]) ∧ w.grownBy w' (some g) ∧ Stands 152 w' g s (T.need s.data.toList q.data.toList i) := by
  have HW := Lib.hid h; clear h
  go_enter Tryz.func180, Tryz.ntmps180
  go_wp2_with fail
  go_loopw [4] (fun v4 wr => ∃ k m : Nat, k ≤ q.size ∧ m ≤ i + k ∧ v4 = .int .i64 k ∧ T.need s.data.toList q.data.toList i = T.need s.data.toList (q.data.toList.drop k) m ∧ PBox 152 wr g s m false ∧ w.grownBy wr (some g)) (fun v4 _ => q.size - (intOf v4).toNat)
  case atStart => exact ⟨0, i, Nat.zero_le _, by omega, rfl, rfl, HW.out, grown_refl _ _⟩
  case round =>
    obtain ⟨k, m, hk, hm, rfl, hnd, hp, hg⟩ := hrel
    obtain ⟨x0, x1, x2⟩ := hp.cells
    obtain ⟨f0, f1, f2⟩ := hp.free
    have HND := Lib.hid hnd; have HP := Lib.hid hp; have HG := Lib.hid hg
    clear hnd hp hg
    by_cases hlt : k < q.size
    · have h1 : (k : Int) < (q.size : Int) := by omega
      have h1' : decide ((k : Int) < (q.size : Int)) = true := decide_eq_true h1
      have h1'' : decide (k < q.size) = true := decide_eq_true hlt
      have h2 : (0 : Int) ≤ (k : Int) := by omega
      have h3 : (0 : Int) ≤ (m : Int) := by omega
      have hdr : q.data.toList.drop k = q[k] :: q.data.toList.drop (k + 1) := by
        rw [List.drop_eq_getElem_cons (by simpa using hlt)]; rfl
      have hst : T.need s.data.toList q.data.toList i = if T.now s.data.toList m q[k] = true then T.need s.data.toList (q.data.toList.drop (k + 1)) (m + 1) else .error m := by rw [HND.out, hdr]; rfl
      have HST := Lib.hid hst
      clear hst hdr
      rcases Nat.lt_or_ge m s.size with hms | hms
      · have h4 : (m : Int) < (s.size : Int) := by omega
        have h4' : decide ((s.size : Int) ≤ (m : Int)) = false := decide_eq_false (by omega)
        have h4'' : decide (s.size ≤ m) = false := decide_eq_false (by omega)
        rcases Bool.eq_false_or_eq_true (s[m] == q[k]) with e | e
        · have HE := Lib.hid (show T.need s.data.toList q.data.toList i = T.need s.data.toList (q.data.toList.drop (k + 1)) (m + 1) by rw [HST.out, T.now_at s m hms, if_pos e])
          obtain ⟨e1, e2⟩ := u8_eq e
          have HLT := Lib.hid hlt
          clear e
          go_upto_region 3 with fail
          go_quiet (fail)
          go_wp2_with fail
          go_roundw
          case rel => exact ⟨k + 1, m + 1, HLT.out, by omega, by go_num, HE.out, (HP.out.drewN nq).set1 (m + 1) _ (by push_cast; rfl), grown_set (grown_drewN HG.out nq) _ _⟩
          case measure => have := HLT.out; simp [intOf]; omega
        · have HE := Lib.hid (show T.need s.data.toList q.data.toList i = .error m by rw [HST.out, T.now_at s m hms, if_neg (by rw [e]; decide)])
          obtain ⟨e1, e2⟩ := u8_ne e
          clear e
          go_upto_region 3 with fail
          go_quiet (fail)
          go_wp2_with fail
          refine bodyPost_ret (results_none rfl _ _ _) rfl ?_
          exact ⟨rfl, grown_set (grown_drewN HG.out nq) _ _, by rw [HE.out]; exact (HP.out.drewN nq).set2 true⟩
      · have h4 : (s.size : Int) ≤ (m : Int) := by omega
        have h4' : decide ((s.size : Int) ≤ (m : Int)) = true := decide_eq_true (by omega)
        have h4'' : decide (s.size ≤ m) = true := decide_eq_true (by omega)
        have HE := Lib.hid (show T.need s.data.toList q.data.toList i = .error m by rw [HST.out, T.now_past s m hms, if_neg (by decide)])
        go_upto_region 3 with fail
        go_quiet (fail)
        go_wp2_with fail
        refine bodyPost_ret (results_none rfl _ _ _) rfl ?_
        exact ⟨rfl, grown_set (grown_drewN HG.out nq) _ _, by rw [HE.out]; exact (HP.out.drewN nq).set2 true⟩
    · obtain rfl : k = q.size := by omega
      have HE := Lib.hid (show T.need s.data.toList q.data.toList i = .ok m by rw [HND.out, List.drop_of_length_le (by simp)]; rfl)
      clear hlt
      go_wp2_with fail
      go_end0
      exact ⟨rfl, HG.out, by rw [HE.out]; exact HP.out⟩
set_option maxRecDepth 100000 in
set_option maxHeartbeats 1000000 in
theorem oneed_wrong (g i : Nat) (s : ByteArray) (b0 : UInt8) (bs : List UInt8) (w : World) (h : PBox 152 w g s i true) :
    Calls Tryz.prog 180 #[.pointer (some ⟨g, 0, none⟩), .string ⟨(b0 :: bs).toArray⟩] w fun e w' => e = .returned (.tuple #[]) ∧ w = w' := by
  obtain ⟨x0, x1, x2⟩ := h.cells
  have hz : (⟨(b0 :: bs).toArray⟩ : ByteArray).size = bs.length + 1 := by rw [str_size]; rfl
  generalize (⟨(b0 :: bs).toArray⟩ : ByteArray) = q at hz ⊢
  have h1 : (0 : Int) < (q.size : Int) := by omega
  have h1' : decide ((0 : Int) < (q.size : Int)) = true := decide_eq_true h1
  have h1'' : decide (0 < q.size) = true := decide_eq_true (by omega)
  clear hz
  go_enter Tryz.func180, Tryz.ntmps180
  go_wp2_with fail
  refine wp_loop_rounds 1 ?_; rw [rounds_succ]
  go_wp2_with fail
  go_end0
  exact ⟨rfl, rfl⟩

set_option maxRecDepth 100000 in
set_option maxHeartbeats 2000000 in
theorem rneed (g i : Nat) (s q : ByteArray) (w : World) (h : PBox 133 w g s i false) (_hi : i ≤ 4096) (hs : s.size ≤ 4096) (hq : q.size ≤ 16) :
    Calls Tryz.prog 187 #[.pointer (some ⟨g, 0, none⟩), .string q] w fun e w' => e = .returned (.tuple #[]) ∧ w.grownBy w' (some g) ∧ Stands 133 w' g s (T.need s.data.toList q.data.toList i) := by
  have HW := Lib.hid h; clear h
  go_enter Tryz.func187, Tryz.ntmps187
  go_wp2_with fail
  go_loopw [4] (fun v4 wr => ∃ k m : Nat, k ≤ q.size ∧ m ≤ i + k ∧ v4 = .int .i64 k ∧ T.need s.data.toList q.data.toList i = T.need s.data.toList (q.data.toList.drop k) m ∧ PBox 133 wr g s m false ∧ w.grownBy wr (some g)) (fun v4 _ => q.size - (intOf v4).toNat)
  case atStart => exact ⟨0, i, Nat.zero_le _, by omega, rfl, rfl, HW.out, grown_refl _ _⟩
  case round =>
    obtain ⟨k, m, hk, hm, rfl, hnd, hp, hg⟩ := hrel
    obtain ⟨x0, x1, x2⟩ := hp.cells
    obtain ⟨f0, f1, f2⟩ := hp.free
    have HND := Lib.hid hnd; have HP := Lib.hid hp; have HG := Lib.hid hg
    clear hnd hp hg
    by_cases hlt : k < q.size
    · have h1 : (k : Int) < (q.size : Int) := by omega
      have h1' : decide ((k : Int) < (q.size : Int)) = true := decide_eq_true h1
      have h1'' : decide (k < q.size) = true := decide_eq_true hlt
      have h2 : (0 : Int) ≤ (k : Int) := by omega
      have h3 : (0 : Int) ≤ (m : Int) := by omega
      have hdr : q.data.toList.drop k = q[k] :: q.data.toList.drop (k + 1) := by
        rw [List.drop_eq_getElem_cons (by simpa using hlt)]; rfl
      have hst : T.need s.data.toList q.data.toList i = if T.now s.data.toList m q[k] = true then T.need s.data.toList (q.data.toList.drop (k + 1)) (m + 1) else .error m := by rw [HND.out, hdr]; rfl
      have HST := Lib.hid hst
      clear hst hdr
      rcases Nat.lt_or_ge m s.size with hms | hms
      · have h4 : (m : Int) < (s.size : Int) := by omega
        have h4' : decide ((s.size : Int) ≤ (m : Int)) = false := decide_eq_false (by omega)
        have h4'' : decide (s.size ≤ m) = false := decide_eq_false (by omega)
        rcases Bool.eq_false_or_eq_true (s[m] == q[k]) with e | e
        · have HE := Lib.hid (show T.need s.data.toList q.data.toList i = T.need s.data.toList (q.data.toList.drop (k + 1)) (m + 1) by rw [HST.out, T.now_at s m hms, if_pos e])
          obtain ⟨e1, e2⟩ := u8_eq e
          have HLT := Lib.hid hlt
          clear e
          go_upto_region 3 with fail
          go_quiet (fail)
          go_wp2_with fail
          go_roundw
          case rel => exact ⟨k + 1, m + 1, HLT.out, by omega, by go_num, HE.out, (HP.out.drewN nq).set1 (m + 1) _ (by push_cast; rfl), grown_set (grown_drewN HG.out nq) _ _⟩
          case measure => have := HLT.out; simp [intOf]; omega
        · have HE := Lib.hid (show T.need s.data.toList q.data.toList i = .error m by rw [HST.out, T.now_at s m hms, if_neg (by rw [e]; decide)])
          obtain ⟨e1, e2⟩ := u8_ne e
          clear e
          go_upto_region 3 with fail
          go_quiet (fail)
          go_wp2_with fail
          refine bodyPost_ret (results_none rfl _ _ _) rfl ?_
          exact ⟨rfl, grown_set (grown_drewN HG.out nq) _ _, by rw [HE.out]; exact (HP.out.drewN nq).set2 true⟩
      · have h4 : (s.size : Int) ≤ (m : Int) := by omega
        have h4' : decide ((s.size : Int) ≤ (m : Int)) = true := decide_eq_true (by omega)
        have h4'' : decide (s.size ≤ m) = true := decide_eq_true (by omega)
        have HE := Lib.hid (show T.need s.data.toList q.data.toList i = .error m by rw [HST.out, T.now_past s m hms, if_neg (by decide)])
        go_upto_region 3 with fail
        go_quiet (fail)
        go_wp2_with fail
        refine bodyPost_ret (results_none rfl _ _ _) rfl ?_
        exact ⟨rfl, grown_set (grown_drewN HG.out nq) _ _, by rw [HE.out]; exact (HP.out.drewN nq).set2 true⟩
    · obtain rfl : k = q.size := by omega
      have HE := Lib.hid (show T.need s.data.toList q.data.toList i = .ok m by rw [HND.out, List.drop_of_length_le (by simp)]; rfl)
      clear hlt
      go_wp2_with fail
      go_end0
      exact ⟨rfl, HG.out, by rw [HE.out]; exact HP.out⟩
set_option maxRecDepth 100000 in
set_option maxHeartbeats 1000000 in
theorem rneed_wrong (g i : Nat) (s : ByteArray) (b0 : UInt8) (bs : List UInt8) (w : World) (h : PBox 133 w g s i true) :
    Calls Tryz.prog 187 #[.pointer (some ⟨g, 0, none⟩), .string ⟨(b0 :: bs).toArray⟩] w fun e w' => e = .returned (.tuple #[]) ∧ w = w' := by
  obtain ⟨x0, x1, x2⟩ := h.cells
  have hz : (⟨(b0 :: bs).toArray⟩ : ByteArray).size = bs.length + 1 := by rw [str_size]; rfl
  generalize (⟨(b0 :: bs).toArray⟩ : ByteArray) = q at hz ⊢
  have h1 : (0 : Int) < (q.size : Int) := by omega
  have h1' : decide ((0 : Int) < (q.size : Int)) = true := decide_eq_true h1
  have h1'' : decide (0 < q.size) = true := decide_eq_true (by omega)
  clear hz
  go_enter Tryz.func187, Tryz.ntmps187
  go_wp2_with fail
  refine wp_loop_rounds 1 ?_; rw [rounds_succ]
  go_wp2_with fail
  go_end0
  exact ⟨rfl, rfl⟩
end Go.Proofs.YtihbmgkbipeakaaGreat

namespace Go.Proofs.YtihbmgkbipeakaaGreat
open Go.RowKit

theorem T.extract_name (s : ByteArray) (i j : Nat) : s.extract i j = T.nameStr s.data.toList i j := by
  apply str_eq
  rw [Lib.extract_data, T.nameStr, strOf_data]
theorem T.nameOk_at (s : ByteArray) (i m : Nat) (h : m < s.size) : T.nameOk s.data.toList i m = (T.low s[m] || (decide (i < m) && T.dig s[m])) := by
  unfold T.nameOk; rw [T.getD_at s m h]
theorem T.low_dec (c : UInt8) : (decide (97 ≤ (c.toNat : Int)) && decide ((c.toNat : Int) ≤ 122)) = T.low c := rfl
theorem T.dig_dec (c : UInt8) : (decide (48 ≤ (c.toNat : Int)) && decide ((c.toNat : Int) ≤ 57)) = T.dig c := rfl
/-- What name leaves. -/
def NameEnds (ty : TypeId) (g i : Nat) (s : ByteArray) (w : World) (e : Ending) (w' : World) : Prop :=
  w.grownBy w' (some g) ∧ ((T.nameEnd s.data.toList i = i ∧ e = .returned (.string ⟨#[]⟩) ∧ PBox ty w' g s i true) ∨
    (T.nameEnd s.data.toList i ≠ i ∧ e = .returned (.string (T.nameStr s.data.toList i (T.nameEnd s.data.toList i))) ∧ PBox ty w' g s (T.nameEnd s.data.toList i) false))

set_option maxRecDepth 100000 in
set_option maxHeartbeats 4000000 in
theorem opname (g i : Nat) (s : ByteArray) (w : World) (h : PBox 152 w g s i false) (hi : i ≤ s.size) (hs : s.size ≤ 4096) :
    Calls Tryz.prog 182 #[.pointer (some ⟨g, 0, none⟩)] w (NameEnds 152 g i s w) := by
  obtain ⟨x0, x1, x2⟩ := h.cells
  have HW := Lib.hid h; clear h
  go_enter Tryz.func182, Tryz.ntmps182
  go_wp2_with fail
  clear x0 x1 x2
  go_loopg [] 16 (fun n wr => ∃ m : Nat, n + m = 16 + i ∧ n ≤ 16 ∧ m ≤ s.size ∧ T.nameEnd s.data.toList i = T.nameRun s.data.toList i n m ∧ PBox 152 wr g s m false ∧ w.grownBy wr (some g))
  case atStart => exact ⟨i, by omega, Nat.le_refl _, hi, rfl, HW.out, grown_refl _ _⟩
  case round =>
    obtain ⟨m, hnm, hn16, hms, hend, hp, hg⟩ := hrel
    obtain ⟨x0, x1, x2⟩ := hp.cells
    obtain ⟨f0, f1, f2⟩ := hp.free
    obtain ⟨d, hd⟩ : ∃ d, m = i + d := ⟨m - i, by omega⟩
    have q1 : IntKind.i64.wrap ((m : Int) - (i : Int)) = (d : Int) := by rw [IntWalk.i64_in _ (by omega)]; omega
    have HP := Lib.hid hp; have HG := Lib.hid hg
    have hcase : ((gk = 0 ∨ s.size ≤ m ∨ T.nameOk s.data.toList i m = false) ∧ T.nameEnd s.data.toList i = m) ∨ (∃ n, gk = n + 1 ∧ m < s.size ∧ T.nameOk s.data.toList i m = true ∧ T.nameEnd s.data.toList i = T.nameRun s.data.toList i n (m + 1)) := by
      cases gk with
      | zero => left; exact ⟨.inl rfl, hend⟩
      | succ n =>
        simp only [T.nameRun] at hend
        split at hend
        · rename_i hh
          right; exact ⟨n, rfl, by have := hh.1; simpa using this, hh.2, hend⟩
        · rename_i hh
          left
          refine ⟨.inr ?_, hend⟩
          rcases Nat.lt_or_ge m s.size with g1 | g1
          · right
            rw [Bool.eq_false_iff]; intro hb; exact hh ⟨by simpa using g1, hb⟩
          · left; exact g1
    have HD := Lib.hid hd; have HNM := Lib.hid hnm; have HMS := Lib.hid hms
    have h3 : (0 : Int) ≤ (m : Int) := by omega
    clear hp hg hend hd
    rcases hcase with ⟨hstop, hE⟩ | ⟨n, hgn, hlt, hok, hE⟩
    · have HE := Lib.hid hE
      have hst : s.size ≤ m ∨ (m < s.size ∧ d = 16) ∨ (m < s.size ∧ d < 16 ∧ T.low s[m]! = false ∧ i = m) ∨ (m < s.size ∧ d < 16 ∧ T.low s[m]! = false ∧ i < m ∧ T.dig s[m]! = false) := by
        rcases Nat.lt_or_ge m s.size with g1 | g1
        · right
          have hbang : s[m]! = s[m] := getElem!_pos s m g1
          rcases hstop with h | h | h
          · left; have := HD.out; exact ⟨g1, by omega⟩
          · omega
          · rw [T.nameOk_at s i m g1, Bool.or_eq_false_iff] at h
            obtain ⟨a, b⟩ := h
            by_cases d16 : d = 16
            · left; exact ⟨g1, d16⟩
            · right
              have hd' := HD.out
              by_cases hz : i = m
              · left; exact ⟨g1, by omega, by rw [hbang]; exact a, hz⟩
              · right
                rw [decide_eq_true (show i < m by omega), Bool.true_and] at b
                exact ⟨g1, by omega, by rw [hbang]; exact a, by omega, by rw [hbang]; exact b⟩
        · left; exact g1
      clear hstop hE hnm hn16 hms
      have hfin : ∀ nq, PBox 152 (wr.drewN nq) g s m false ∧ w.grownBy (wr.drewN nq) (some g) := fun nq => ⟨HP.out.drewN nq, grown_drewN HG.out nq⟩
      have HFIN := Lib.hid hfin; clear hfin
      rcases hst with g1 | ⟨g1, g2⟩ | ⟨g1, g2, g3, g4⟩ | ⟨g1, g2, g3, g4, g5⟩
      · have a1 : (s.size : Int) ≤ (m : Int) := by omega
        have a2 : decide ((m : Int) < (s.size : Int)) = false := decide_eq_false (by omega)
        have a3 : decide (m < s.size) = false := decide_eq_false (by omega)
        go_upto_region 2 with fail
        go_quiet (fail)
        go_upto_region 4 with fail
        obtain ⟨hp9, hg9⟩ := HFIN.out nq
        generalize wr.drewN nq = w9 at hp9 hg9 ⊢
        obtain ⟨y0, y1, y2⟩ := hp9.cells
        obtain ⟨k0, k1, k2⟩ := hp9.free
        have HP9 := Lib.hid hp9; have HG9 := Lib.hid hg9
        clear hp9 hg9 x0 x1 x2 f0 f1 f2
        by_cases hmi : m = i
        · have e1 : ((m : Int) == (i : Int)) = true := by rw [hmi]; simp
          have HMI := Lib.hid hmi
          have hp8 := HP9.out.set2 true
          have hg8 := grown_set HG9.out 2 (.bool true)
          clear hmi
          go_upto_region 6 with fail
          generalize w9.setCell ⟨g, 2, none⟩ (.bool true) = w8 at hp8 hg8 ⊢
          obtain ⟨z0, z1, z2⟩ := hp8.cells
          have HP8 := Lib.hid hp8; have HG8 := Lib.hid hg8
          have l1 : (i : Int) ≤ (m : Int) := by have := HMI.out; omega
          have l2 : (m : Int) ≤ (s.size : Int) := by have := HMS.out; omega
          have l3 : (0 : Int) ≤ (i : Int) := by omega
          clear hp8 hg8 y0 y1 y2 k0 k1 k2
          go_quiet (fail)
          go_wp2_with fail
          go_ret
          refine ⟨grown_drewN HG8.out nq, .inl ⟨by rw [HE.out, HMI.out], ret_str (str_eq (by rw [HMI.out, Lib.extract_data]; simp)), by have := HP8.out.drewN nq; rw [HMI.out] at this; exact this⟩⟩
        · have e1 : ((m : Int) == (i : Int)) = false := by rw [beq_eq_false_iff_ne]; omega
          have HMI := Lib.hid hmi
          have l1 : (i : Int) ≤ (m : Int) := by have := HD.out; omega
          have l2 : (m : Int) ≤ (s.size : Int) := by have := HMS.out; omega
          have l3 : (0 : Int) ≤ (i : Int) := by omega
          clear hmi
          go_upto_region 6 with fail
          go_quiet (fail)
          go_wp2_with fail
          go_ret
          exact ⟨grown_drewN HG9.out nq, .inr ⟨by rw [HE.out]; exact HMI.out, ret_str (by rw [HE.out]; exact T.extract_name s i m), by rw [HE.out]; exact HP9.out.drewN nq⟩⟩
      · have a1 : (m : Int) < (s.size : Int) := by omega
        have a2 : decide ((d : Int) < 16) = false := decide_eq_false (by omega)
        have a3 : decide (d < 16) = false := decide_eq_false (by omega)
        go_upto_region 2 with fail
        go_quiet (fail)
        go_upto_region 4 with fail
        obtain ⟨hp9, hg9⟩ := HFIN.out nq
        generalize wr.drewN nq = w9 at hp9 hg9 ⊢
        obtain ⟨y0, y1, y2⟩ := hp9.cells
        obtain ⟨k0, k1, k2⟩ := hp9.free
        have HP9 := Lib.hid hp9; have HG9 := Lib.hid hg9
        clear hp9 hg9 x0 x1 x2 f0 f1 f2
        by_cases hmi : m = i
        · have e1 : ((m : Int) == (i : Int)) = true := by rw [hmi]; simp
          have HMI := Lib.hid hmi
          have hp8 := HP9.out.set2 true
          have hg8 := grown_set HG9.out 2 (.bool true)
          clear hmi
          go_upto_region 6 with fail
          generalize w9.setCell ⟨g, 2, none⟩ (.bool true) = w8 at hp8 hg8 ⊢
          obtain ⟨z0, z1, z2⟩ := hp8.cells
          have HP8 := Lib.hid hp8; have HG8 := Lib.hid hg8
          have l1 : (i : Int) ≤ (m : Int) := by have := HMI.out; omega
          have l2 : (m : Int) ≤ (s.size : Int) := by have := HMS.out; omega
          have l3 : (0 : Int) ≤ (i : Int) := by omega
          clear hp8 hg8 y0 y1 y2 k0 k1 k2
          go_quiet (fail)
          go_wp2_with fail
          go_ret
          refine ⟨grown_drewN HG8.out nq, .inl ⟨by rw [HE.out, HMI.out], ret_str (str_eq (by rw [HMI.out, Lib.extract_data]; simp)), by have := HP8.out.drewN nq; rw [HMI.out] at this; exact this⟩⟩
        · have e1 : ((m : Int) == (i : Int)) = false := by rw [beq_eq_false_iff_ne]; omega
          have HMI := Lib.hid hmi
          have l1 : (i : Int) ≤ (m : Int) := by have := HD.out; omega
          have l2 : (m : Int) ≤ (s.size : Int) := by have := HMS.out; omega
          have l3 : (0 : Int) ≤ (i : Int) := by omega
          clear hmi
          go_upto_region 6 with fail
          go_quiet (fail)
          go_wp2_with fail
          go_ret
          exact ⟨grown_drewN HG9.out nq, .inr ⟨by rw [HE.out]; exact HMI.out, ret_str (by rw [HE.out]; exact T.extract_name s i m), by rw [HE.out]; exact HP9.out.drewN nq⟩⟩
      · have a1 : (m : Int) < (s.size : Int) := by omega
        have a2 : (d : Int) < 16 := by omega
        have a4 : decide ((i : Int) < (m : Int)) = false := decide_eq_false (by omega)
        have a5 : decide (i < m) = false := decide_eq_false (by omega)
        have hb := u8_le s[m]
        rw [getElem!_pos s m g1] at g3
        have G3 := Lib.hid g3
        clear g3 g4
        go_upto_region 2 with fail
        go_quiet ((go_at_call 104; exact quiet_any (tletter _ _ hb.1 hb.2 false G3.out)))
        go_upto_region 4 with fail
        obtain ⟨hp9, hg9⟩ := HFIN.out nq
        generalize wr.drewN nq = w9 at hp9 hg9 ⊢
        obtain ⟨y0, y1, y2⟩ := hp9.cells
        obtain ⟨k0, k1, k2⟩ := hp9.free
        have HP9 := Lib.hid hp9; have HG9 := Lib.hid hg9
        clear hp9 hg9 x0 x1 x2 f0 f1 f2
        by_cases hmi : m = i
        · have e1 : ((m : Int) == (i : Int)) = true := by rw [hmi]; simp
          have HMI := Lib.hid hmi
          have hp8 := HP9.out.set2 true
          have hg8 := grown_set HG9.out 2 (.bool true)
          clear hmi
          go_upto_region 6 with fail
          generalize w9.setCell ⟨g, 2, none⟩ (.bool true) = w8 at hp8 hg8 ⊢
          obtain ⟨z0, z1, z2⟩ := hp8.cells
          have HP8 := Lib.hid hp8; have HG8 := Lib.hid hg8
          have l1 : (i : Int) ≤ (m : Int) := by have := HMI.out; omega
          have l2 : (m : Int) ≤ (s.size : Int) := by have := HMS.out; omega
          have l3 : (0 : Int) ≤ (i : Int) := by omega
          clear hp8 hg8 y0 y1 y2 k0 k1 k2
          go_quiet (fail)
          go_wp2_with fail
          go_ret
          refine ⟨grown_drewN HG8.out nq, .inl ⟨by rw [HE.out, HMI.out], ret_str (str_eq (by rw [HMI.out, Lib.extract_data]; simp)), by have := HP8.out.drewN nq; rw [HMI.out] at this; exact this⟩⟩
        · have e1 : ((m : Int) == (i : Int)) = false := by rw [beq_eq_false_iff_ne]; omega
          have HMI := Lib.hid hmi
          have l1 : (i : Int) ≤ (m : Int) := by have := HD.out; omega
          have l2 : (m : Int) ≤ (s.size : Int) := by have := HMS.out; omega
          have l3 : (0 : Int) ≤ (i : Int) := by omega
          clear hmi
          go_upto_region 6 with fail
          go_quiet (fail)
          go_wp2_with fail
          go_ret
          exact ⟨grown_drewN HG9.out nq, .inr ⟨by rw [HE.out]; exact HMI.out, ret_str (by rw [HE.out]; exact T.extract_name s i m), by rw [HE.out]; exact HP9.out.drewN nq⟩⟩
      · have a1 : (m : Int) < (s.size : Int) := by omega
        have a2 : (d : Int) < 16 := by omega
        have a4 : decide ((i : Int) < (m : Int)) = true := decide_eq_true (by omega)
        have a5 : decide (i < m) = true := decide_eq_true (by omega)
        have a6 : (i : Int) < (m : Int) := by omega
        have hb := u8_le s[m]
        rw [getElem!_pos s m g1] at g3 g5
        have G3 := Lib.hid g3; have G5 := Lib.hid g5
        clear g3 g5
        go_upto_region 2 with fail
        go_quiet (first | (go_at_call 104; exact quiet_any (tletter _ _ hb.1 hb.2 false G3.out)) | (go_at_call 105; exact quiet_any (tdigit _ _ hb.1 hb.2 false G5.out)))
        go_upto_region 4 with fail
        obtain ⟨hp9, hg9⟩ := HFIN.out nq
        generalize wr.drewN nq = w9 at hp9 hg9 ⊢
        obtain ⟨y0, y1, y2⟩ := hp9.cells
        obtain ⟨k0, k1, k2⟩ := hp9.free
        have HP9 := Lib.hid hp9; have HG9 := Lib.hid hg9
        clear hp9 hg9 x0 x1 x2 f0 f1 f2
        by_cases hmi : m = i
        · have e1 : ((m : Int) == (i : Int)) = true := by rw [hmi]; simp
          have HMI := Lib.hid hmi
          have hp8 := HP9.out.set2 true
          have hg8 := grown_set HG9.out 2 (.bool true)
          clear hmi
          go_upto_region 6 with fail
          generalize w9.setCell ⟨g, 2, none⟩ (.bool true) = w8 at hp8 hg8 ⊢
          obtain ⟨z0, z1, z2⟩ := hp8.cells
          have HP8 := Lib.hid hp8; have HG8 := Lib.hid hg8
          have l1 : (i : Int) ≤ (m : Int) := by have := HMI.out; omega
          have l2 : (m : Int) ≤ (s.size : Int) := by have := HMS.out; omega
          have l3 : (0 : Int) ≤ (i : Int) := by omega
          clear hp8 hg8 y0 y1 y2 k0 k1 k2
          go_quiet (fail)
          go_wp2_with fail
          go_ret
          refine ⟨grown_drewN HG8.out nq, .inl ⟨by rw [HE.out, HMI.out], ret_str (str_eq (by rw [HMI.out, Lib.extract_data]; simp)), by have := HP8.out.drewN nq; rw [HMI.out] at this; exact this⟩⟩
        · have e1 : ((m : Int) == (i : Int)) = false := by rw [beq_eq_false_iff_ne]; omega
          have HMI := Lib.hid hmi
          have l1 : (i : Int) ≤ (m : Int) := by have := HD.out; omega
          have l2 : (m : Int) ≤ (s.size : Int) := by have := HMS.out; omega
          have l3 : (0 : Int) ≤ (i : Int) := by omega
          clear hmi
          go_upto_region 6 with fail
          go_quiet (fail)
          go_wp2_with fail
          go_ret
          exact ⟨grown_drewN HG9.out nq, .inr ⟨by rw [HE.out]; exact HMI.out, ret_str (by rw [HE.out]; exact T.extract_name s i m), by rw [HE.out]; exact HP9.out.drewN nq⟩⟩
    · have HE := Lib.hid hE
      rw [T.nameOk_at s i m hlt] at hok
      have hd' := HD.out
      have a1 : (m : Int) < (s.size : Int) := by omega
      have a2 : (d : Int) < 16 := by omega
      have hb := u8_le s[m]
      have HLT := Lib.hid hlt
      have HGN := Lib.hid hgn
      have HN6 := Lib.hid hn16
      clear hE hd' hnm hn16 hms hgn
      have hl : T.low (s[m]'hlt) = true ∨ (T.low (s[m]'hlt) = false ∧ i < m ∧ T.dig (s[m]'hlt) = true) := by
        rcases Bool.eq_false_or_eq_true (T.low (s[m]'hlt)) with a | a
        · exact .inl a
        · right; rw [a, Bool.false_or, Bool.and_eq_true, decide_eq_true_eq] at hok; exact ⟨a, hok.1, hok.2⟩
      clear hok
      rcases hl with g3 | ⟨g3, hok1, hok2⟩
      · have G3 := Lib.hid g3
        clear g3
        go_upto_region 2 with fail
        go_quiet ((go_at_call 104; exact quiet_any (tletter _ _ hb.1 hb.2 true G3.out)))
        go_wp2_with fail
        go_roundg n
        case measure => have := HGN.out; omega
        case rel => exact ⟨m + 1, by have := HNM.out; have := HGN.out; omega, by have := HN6.out; have := HGN.out; omega, HLT.out, HE.out, (HP.out.drewN nq).set1 (m + 1) _ (by push_cast; rfl), grown_set (grown_drewN HG.out nq) _ _⟩
      · have a4 : decide ((i : Int) < (m : Int)) = true := decide_eq_true (by omega)
        have a5 : decide (i < m) = true := decide_eq_true (by omega)
        have a6 : (i : Int) < (m : Int) := by omega
        have G3 := Lib.hid g3; have G5 := Lib.hid hok2
        clear g3 hok2
        go_upto_region 2 with fail
        go_quiet (first | (go_at_call 104; exact quiet_any (tletter _ _ hb.1 hb.2 false G3.out)) | (go_at_call 105; exact quiet_any (tdigit _ _ hb.1 hb.2 true G5.out)))
        go_wp2_with fail
        go_roundg n
        case measure => have := HGN.out; omega
        case rel => exact ⟨m + 1, by have := HNM.out; have := HGN.out; omega, by have := HN6.out; have := HGN.out; omega, HLT.out, HE.out, (HP.out.drewN nq).set1 (m + 1) _ (by push_cast; rfl), grown_set (grown_drewN HG.out nq) _ _⟩
end Go.Proofs.YtihbmgkbipeakaaGreat

namespace Go.Proofs.YtihbmgkbipeakaaGreat
open Go.RowKit

namespace T
def pre (acc : List T) : Option (Except Nat (List T × Nat)) → Option (Except Nat (List T × Nat))
  | none => none
  | some (.error e) => some (.error e)
  | some (.ok (ks, j)) => some (.ok (acc ++ ks, j))
theorem pre_nil (r : Option (Except Nat (List T × Nat))) : pre [] r = r := by rcases r with _ | _ | ⟨ks, j⟩ <;> rfl
theorem pre_more (acc : List T) (t : T) (r : Option (Except Nat (List T × Nat))) : pre acc (more t r) = pre (acc ++ [t]) r := by
  rcases r with _ | _ | ⟨ks, j⟩
  · rfl
  · rfl
  · simp [pre, more]
end T
/-- What term leaves. -/
def TermPost (ty : TypeId) (g : Nat) (s : ByteArray) (w : World) (r : Except Nat (T × Nat)) (e : Ending) (w' : World) : Prop :=
  w.grownBy w' (some g) ∧ (match r with
    | .ok (t, j) => PBox ty w' g s j false ∧ ∃ A cap, e = .returned (.agg #[.int .i64 t.kind, .string t.name, .slice A t.kids.length cap]) ∧ TermIn (from_ w.heap.size) w' (.agg #[.int .i64 t.kind, .string t.name, .slice A t.kids.length cap]) t
    | .error j => PBox ty w' g s j true ∧ ∃ (k : Int) (nm : ByteArray) (A : Option Addr) (n cap : Nat), e = .returned (.agg #[.int .i64 k, .string nm, .slice A n cap]))
/-- What kids leaves. -/
def KidsPost (ty : TypeId) (g : Nat) (s : ByteArray) (w : World) (r : Except Nat (List T × Nat)) (e : Ending) (w' : World) : Prop :=
  w.grownBy w' (some g) ∧ (match r with
    | .ok (ks, j) => PBox ty w' g s j false ∧ ∃ v, e = .returned v ∧ TermsRow w' w.heap.size v ks
    | .error j => PBox ty w' g s j true ∧ ∃ (A : Option Addr) (n cap : Nat), e = .returned (.slice A n cap))
theorem onow_lit (ci : Int) (c : UInt8) (hc : ci = (c.toNat : Int)) (g i : Nat) (s : ByteArray) (w : World) (h : PBox 152 w g s i false) (hi : i ≤ 4096) (r : Bool) (hr : T.now s.data.toList i c = r) :
    Calls Tryz.prog 179 #[.pointer (some ⟨g, 0, none⟩), .int .u8 ci] w fun e w' => e = .returned (.bool r) ∧ ∃ n, w' = w.drewN n := by
  subst hc; exact onow g i s c w h hi r hr
/-- The head of the loop of kids. -/
def KidsAt (ty : TypeId) (g : Nat) (s : ByteArray) (n : Nat) (r : Except Nat (List T × Nat)) (w : World) (fuel : Nat) (v5 : Value) (wr : World) : Prop :=
  (∃ (m : Nat) (acc : List T), some r = T.pre acc (T.pkids s.data.toList fuel n acc.length m) ∧ TermsRow wr w.heap.size v5 acc ∧ PBox ty wr g s m false ∧ m ≤ s.size ∧ acc.length + fuel ≤ 9000 ∧ w.grownBy wr (some g)) ∨
  (∃ (m : Nat) (A : Option Addr) (k cap : Nat), r = .error m ∧ v5 = .slice A k cap ∧ PBox ty wr g s m true ∧ w.grownBy wr (some g))
theorem grown_trans2 {w w1 w2 : World} {g : Nat} {row : Option Nat} (h : w.grownBy w1 (some g)) (k : w1.grownBy w2 row) (hr : ∀ b, row = some b → w.heap.size ≤ b) : w.grownBy w2 (some g) :=
  ⟨k.os.trans h.os, k.tape.trans h.tape, k.output.trans h.output, Nat.le_trans h.size k.size, fun i hi hn => by
    rw [k.block i (Nat.lt_of_lt_of_le hi h.size) (fun e => by have := hr i e.symm; omega)]; exact h.block i hi hn⟩
theorem grown_below2 {w w1 w2 : World} {g : Nat} (h : w.grownBy w1 (some g)) (k : Below w1.heap.size w1 w2) : w.grownBy w2 (some g) :=
  grownBy_trans h (grownBy_of_below _ k)
theorem TermsRow.step {w w1 w2 : World} {g : Nat} {v : Value} {L : List T} (h : TermsRow w1 w.heap.size v L) (hg : g < w.heap.size) (k : w1.grownBy w2 (some g)) : TermsRow w2 w.heap.size v L :=
  h.keep fun b hb hl => k.block b hl (fun e => by injection e with e; omega)

set_option maxRecDepth 100000 in
set_option maxHeartbeats 4000000 in
theorem okids (f : Nat) (hf : f ≤ 8999) (ht : ∀ f', f' ≤ f → ∀ (g i : Nat) (s : ByteArray) (w : World) (r : Except Nat (T × Nat)), PBox 152 w g s i false → i ≤ s.size → s.size ≤ 4096 → T.pterm s.data.toList f' i = some r →
      Calls Tryz.prog 141 #[.pointer (some ⟨g, 0, none⟩)] w (TermPost 152 g s w r))
    (g i n : Nat) (s : ByteArray) (w : World) (r : Except Nat (List T × Nat)) (h : PBox 152 w g s i false) (hi : i ≤ s.size) (hs : s.size ≤ 4096) (hn : n ≤ 2) (hr : T.pkids s.data.toList (f + 1) n 0 i = some r) :
    Calls Tryz.prog 181 #[.pointer (some ⟨g, 0, none⟩), .int .i64 n] w (KidsPost 152 g s w r) := by
  have hglt := h.lt
  obtain ⟨i0, hi0, hz0, hz1, hz2⟩ := info_parts Tryz.infoT
  have HST := Lib.hid (show KidsAt 152 g s n r w (f + 1) (.slice none 0 0) w from .inl ⟨i, [], by rw [T.pre_nil]; exact hr.symm, TermsRow.nil _ _, h, hi, by simp; omega, grown_refl _ _⟩)
  have HT := Lib.hid ht
  have HGL := Lib.hid hglt
  clear h hr ht hglt
  go_enter Tryz.func181, Tryz.ntmps181
  go_wp2_with fail
  go_loopg [5] (f + 1) (fun fuel v5 wr => ∃ v, v = v5 ∧ (KidsAt 152 g s n r w fuel v wr ∧ (0 < fuel ∨ ∃ m, r = .error m)) ∧ fuel ≤ f + 1)
  case atStart => exact ⟨_, rfl, ⟨HST.out, .inl (by omega)⟩, Nat.le_refl _⟩
  case round =>
    obtain ⟨lv, rfl, ⟨hat, _⟩, hfu⟩ := hrel
    rcases hat with ⟨m, acc, hreq, hrow, hp, hm, hcf, hg⟩ | ⟨m, A, k, cap, rfl, rfl, hp, hg⟩
    · cases gk with
      | zero => simp [T.pkids, T.pre] at hreq
      | succ fu =>
        obtain ⟨x0, x1, x2⟩ := hp.cells
        obtain ⟨rt, hrt⟩ : ∃ rt, T.pterm s.data.toList fu m = some rt := by
          cases h : T.pterm s.data.toList fu m with
          | none => simp [T.pkids, T.pre, h] at hreq
          | some rt => exact ⟨rt, rfl⟩
        simp only [T.pkids, hrt] at hreq
        have HREQ := Lib.hid hreq; have HROW := Lib.hid hrow; have HP := Lib.hid hp; have HG := Lib.hid hg
        have HRT := Lib.hid hrt
        clear hreq hrow hp hg hrt
        go_wp2_with fail
        refine (HT.out fu (by omega) g m s wr rt HP.out hm hs HRT.out).mono ?_
        rintro e w2 ⟨hg2, hres⟩
        have HG2 := Lib.hid hg2
        have hrow2 := HROW.out.step HGL.out hg2
        obtain ⟨A5, C5, hkv, hk1, hk2⟩ := hrow2.shape
        obtain ⟨xs, hown, hct⟩ := hrow2.owns
        have hblk := hrow2.block
        have HROW2 := Lib.hid hrow2; have HOWN := Lib.hid hown; have HCT := Lib.hid hct; have HBLK := Lib.hid hblk
        have HKV := Lib.hid hkv
        have HC1 := Lib.hid (show acc.length + 1 ≤ maxLen by unfold maxLen; omega)
        have HC2 := Lib.hid (show (acc.length + 1) * 48 ≤ 140737488355328 by omega)
        have hz2' := HG.out.size; have hz3' := hg2.size
        clear hg2 hrow2 hkv hk1 hk2 hown hct hblk x0 x1 x2
        rcases rt with e' | ⟨t, j⟩
        · obtain ⟨hp2, k0, nm, A6, n6, c6, rfl⟩ := hres
          have hr' : r = .error e' := by have := HREQ.out; simpa [T.pre] using this
          subst hr'
          have HONE := Lib.hid (show ∀ u ∈ [Value.int .i64 k0, .string nm, .slice A6 n6 c6], u.oneCell' = true from fun u hu => by simp at hu; rcases hu with rfl | rfl | rfl <;> rfl)
          have HOWN3 := Lib.hid (HOWN.out.alloc (.cells #[.int .i64 k0, .string nm, .slice A6 n6 c6] 29))
          have HMS := Lib.hid (show w.heap.size ≤ (w2.alloc (.cells #[.int .i64 k0, .string nm, .slice A6 n6 c6] 29)).heap.size by rw [size_alloc1]; omega)
          have HNE := Lib.hid (show lv.ownBlock ≠ some g from fun e => by have := (HBLK.out g e).1; have := HGL.out; omega)
          have HP3 := Lib.hid (hp2.later (below_alloc1 w2 (.cells #[.int .i64 k0, .string nm, .slice A6 n6 c6] 29)))
          have HG3 := Lib.hid (grown_below2 (grownBy_trans HG.out HG2.out) (below_alloc1 w2 (.cells #[.int .i64 k0, .string nm, .slice A6 n6 c6] 29)))
          clear hp2
          by_cases hn0 : n = 0
          · subst hn0
            go_wp2_with (at_builtin; refine wpList_append_lies _ rfl _ _ 27 rfl w.heap.size 29 i0 _ 3 48 Tryz.underlying27 hi0 hz0 hz1 hz2 rfl (by omega) _ acc.length _ rfl HOWN3.out ⟨w2.heap.size, 0, none⟩ 1 1 _ rfl rfl (World.news_of_block (heap_alloc_new _ _)) HONE.out (by omega) HC1.out HC2.out HMS.out _ rfl ?_; intro g4 cap4 w4 hown4 hg4 hat4 hlt4)
            have HP4 := Lib.hid (HP3.out.grown hg4 HNE.out)
            have HG4 := Lib.hid (grown_trans2 HG3.out hg4 (fun b hb => (HBLK.out b hb).1))
            clear hown4 hg4 hat4 hlt4
            refine (onow_wrong g e' s _ _ HP4.out).mono ?_; rintro e w6 ⟨rfl, nq, rfl⟩
            go_wp2_with fail
            go_ret
            exact ⟨grown_drewN HG4.out nq, HP4.out.drewN nq, _, _, _, rfl⟩
          · by_cases hcn : acc.length + 1 = n
            · have HCN := Lib.hid hcn
              have n1 : (0 : Int) < (n : Int) := by omega
              have n1' : decide ((0 : Int) < (n : Int)) = true := decide_eq_true n1
              have n1'' : decide (0 < n) = true := decide_eq_true (by omega)
              have n2 : ((n : Int) == 0) = false := by rw [beq_eq_false_iff_ne]; omega
              have n3 : ((acc.length : Int) + 1 == (n : Int)) = true := by rw [beq_iff_eq]; omega
              clear hcn hn0
              go_wp2_with (at_builtin; refine wpList_append_lies _ rfl _ _ 27 rfl w.heap.size 29 i0 _ 3 48 Tryz.underlying27 hi0 hz0 hz1 hz2 rfl (by omega) _ acc.length _ rfl HOWN3.out ⟨w2.heap.size, 0, none⟩ 1 1 _ rfl rfl (World.news_of_block (heap_alloc_new _ _)) HONE.out (by omega) HC1.out HC2.out HMS.out _ rfl ?_; intro g4 cap4 w4 hown4 hg4 hat4 hlt4)
              go_ret
              have HP4 := Lib.hid (HP3.out.grown hg4 HNE.out)
              have HG4 := Lib.hid (grown_trans2 HG3.out hg4 (fun b hb => (HBLK.out b hb).1))
              exact ⟨HG4.out, HP4.out, _, _, _, rfl⟩
            · have HCN := Lib.hid hcn
              have n1 : (0 : Int) < (n : Int) := by omega
              have n1' : decide ((0 : Int) < (n : Int)) = true := decide_eq_true n1
              have n1'' : decide (0 < n) = true := decide_eq_true (by omega)
              have n2 : ((n : Int) == 0) = false := by rw [beq_eq_false_iff_ne]; omega
              have n3 : ((acc.length : Int) + 1 == (n : Int)) = false := by rw [beq_eq_false_iff_ne]; omega
              clear hcn hn0
              go_wp2_with (at_builtin; refine wpList_append_lies _ rfl _ _ 27 rfl w.heap.size 29 i0 _ 3 48 Tryz.underlying27 hi0 hz0 hz1 hz2 rfl (by omega) _ acc.length _ rfl HOWN3.out ⟨w2.heap.size, 0, none⟩ 1 1 _ rfl rfl (World.news_of_block (heap_alloc_new _ _)) HONE.out (by omega) HC1.out HC2.out HMS.out _ rfl ?_; intro g4 cap4 w4 hown4 hg4 hat4 hlt4)
              have HP4 := Lib.hid (HP3.out.grown hg4 HNE.out)
              have HG4 := Lib.hid (grown_trans2 HG3.out hg4 (fun b hb => (HBLK.out b hb).1))
              clear hown4 hg4 hat4 hlt4
              refine (oneed_wrong g e' s 44 [32] _ HP4.out).mono ?_; rintro e w6 ⟨rfl, rfl⟩
              go_wp2_with fail
              go_roundg fu
              case measure => omega
              case rel => exact ⟨_, rfl, ⟨.inr ⟨e', _, _, _, rfl, rfl, HP4.out, HG4.out⟩, .inr ⟨e', rfl⟩⟩, by omega⟩
        · obtain ⟨hp2, A6, c6, rfl, hti⟩ := hres
          have hj := ((T.p_ok s.data.toList fu).1 _ _ _ HRT.out).2.1
          have hjs : j ≤ s.size := by simpa using hj
          have HONE := Lib.hid hti.one
          have HLV := Lib.hid (show ∀ b, lv.ownBlock = some b → b < wr.heap.size from fun b hb => (HROW.out.block b hb).2)
          have HOWN3 := Lib.hid (HOWN.out.alloc (.cells #[.int .i64 t.kind, .string t.name, .slice A6 t.kids.length c6] 29))
          have HMS := Lib.hid (show w.heap.size ≤ (w2.alloc (.cells #[.int .i64 t.kind, .string t.name, .slice A6 t.kids.length c6] 29)).heap.size by rw [size_alloc1]; omega)
          have HNE := Lib.hid (show lv.ownBlock ≠ some g from fun e => by have := (HBLK.out g e).1; have := HGL.out; omega)
          have HP3 := Lib.hid (hp2.later (below_alloc1 w2 (.cells #[.int .i64 t.kind, .string t.name, .slice A6 t.kids.length c6] 29)))
          have HG3 := Lib.hid (grown_below2 (grownBy_trans HG.out HG2.out) (below_alloc1 w2 (.cells #[.int .i64 t.kind, .string t.name, .slice A6 t.kids.length c6] 29)))
          clear hp2 hj
          by_cases hend : (0 < n ∧ acc.length + 1 = n) ∨ (n = 0 ∧ T.now s.data.toList j 44 = false)
          · have hr' : r = .ok (acc ++ [t], j) := by have := HREQ.out; dsimp only at this; rw [if_pos hend] at this; simpa [T.pre] using this
            subst hr'
            rcases hend with ⟨hn0, hcn⟩ | ⟨hn0, hnow⟩
            · have HCN := Lib.hid hcn
              have n1 : (0 : Int) < (n : Int) := by omega
              have n1' : decide ((0 : Int) < (n : Int)) = true := decide_eq_true n1
              have n1'' : decide (0 < n) = true := decide_eq_true (by omega)
              have n2 : ((n : Int) == 0) = false := by rw [beq_eq_false_iff_ne]; omega
              have n3 : ((acc.length : Int) + 1 == (n : Int)) = true := by rw [beq_iff_eq]; omega
              clear hcn hn0
              go_wp2_with (at_builtin; refine wpList_append_lies _ rfl _ _ 27 rfl w.heap.size 29 i0 _ 3 48 Tryz.underlying27 hi0 hz0 hz1 hz2 rfl (by omega) _ acc.length _ rfl HOWN3.out ⟨w2.heap.size, 0, none⟩ 1 1 _ rfl rfl (World.news_of_block (heap_alloc_new _ _)) HONE.out (by omega) HC1.out HC2.out HMS.out _ rfl ?_; intro g4 cap4 w4 hown4 hg4 hat4 hlt4)
              go_ret
              have HP4 := Lib.hid (HP3.out.grown hg4 HNE.out)
              have HG4 := Lib.hid (grown_trans2 HG3.out hg4 (fun b hb => (HBLK.out b hb).1))
              have HROW4 := Lib.hid (TermsRow.snoc (w := w2.alloc (.cells #[.int .i64 t.kind, .string t.name, .slice A6 t.kids.length c6] 29)) (H := w2.heap.size + 1) (t := t) (fun i hi => by
                  obtain ⟨a0, a1, a2, b0, b1, b2, b3⟩ := HCT.out i hi
                  exact ⟨a0, a1, a2, b0, b1, b2, b3.keep fun b hb hl => ⟨hb, Below.heap_alloc _ _ b hl⟩⟩) HOWN.out.1
                (hti.keep fun b hb hl => ⟨but_iff.2 ⟨by have := of_decide_eq_true hb; have := HG.out.size; omega, fun e => by have := HLV.out b e; have := of_decide_eq_true hb; omega⟩, Below.heap_alloc _ _ b hl⟩) hown4 hg4 (hat4.imp id fun h => h.trans (size_alloc1 _ _)) (size_alloc1 _ _))
              exact ⟨HG4.out, HP4.out, _, rfl, HROW4.out⟩
            · subst hn0
              have HNOW := Lib.hid hnow; clear hnow
              go_wp2_with (at_builtin; refine wpList_append_lies _ rfl _ _ 27 rfl w.heap.size 29 i0 _ 3 48 Tryz.underlying27 hi0 hz0 hz1 hz2 rfl (by omega) _ acc.length _ rfl HOWN3.out ⟨w2.heap.size, 0, none⟩ 1 1 _ rfl rfl (World.news_of_block (heap_alloc_new _ _)) HONE.out (by omega) HC1.out HC2.out HMS.out _ rfl ?_; intro g4 cap4 w4 hown4 hg4 hat4 hlt4)
              have HP4 := Lib.hid (HP3.out.grown hg4 HNE.out)
              have HG4 := Lib.hid (grown_trans2 HG3.out hg4 (fun b hb => (HBLK.out b hb).1))
              have HROW4 := Lib.hid (TermsRow.snoc (w := w2.alloc (.cells #[.int .i64 t.kind, .string t.name, .slice A6 t.kids.length c6] 29)) (H := w2.heap.size + 1) (t := t) (fun i hi => by
                  obtain ⟨a0, a1, a2, b0, b1, b2, b3⟩ := HCT.out i hi
                  exact ⟨a0, a1, a2, b0, b1, b2, b3.keep fun b hb hl => ⟨hb, Below.heap_alloc _ _ b hl⟩⟩) HOWN.out.1
                (hti.keep fun b hb hl => ⟨but_iff.2 ⟨by have := of_decide_eq_true hb; have := HG.out.size; omega, fun e => by have := HLV.out b e; have := of_decide_eq_true hb; omega⟩, Below.heap_alloc _ _ b hl⟩) hown4 hg4 (hat4.imp id fun h => h.trans (size_alloc1 _ _)) (size_alloc1 _ _))
              clear hown4 hg4 hat4 hlt4
              refine (onow_lit 44 44 (by decide) g j s _ HP4.out (by omega) _ HNOW.out).mono ?_; rintro e w6 ⟨rfl, nq, rfl⟩
              go_wp2_with fail
              go_ret
              exact ⟨grown_drewN HG4.out nq, HP4.out.drewN nq, _, rfl, HROW4.out.keep fun _ _ _ => rfl⟩
          · have hreq2 : some r = T.pre acc (match T.need s.data.toList [44, 32] j with
                | .error e => some (.error e)
                | .ok j' => T.more t (T.pkids s.data.toList fu n (acc.length + 1) j')) := by
              have := HREQ.out
              dsimp only at this
              rw [if_neg hend] at this
              exact this
            have hwalk : ∀ (W : World), PBox 152 W g s j false → Calls Tryz.prog 180 #[.pointer (some ⟨g, 0, none⟩), .string ⟨#[44, 32]⟩] W fun e w' => e = .returned (.tuple #[]) ∧ W.grownBy w' (some g) ∧ Stands 152 w' g s (T.need s.data.toList [44, 32] j) := fun W hW => oneed g j s ⟨#[44, 32]⟩ W hW (by omega) hs (by decide)
            have HWALK := Lib.hid hwalk; have HREQ2 := Lib.hid hreq2
            clear hreq2 hwalk
            have hfin : ∀ (v : Value) (w6 w8 : World), TermsRow w6 w.heap.size v (acc ++ [t]) → w.grownBy w6 (some g) → w6.grownBy w8 (some g) → Stands 152 w8 g s (T.need s.data.toList [44, 32] j) →
                (KidsAt 152 g s n r w fu v w8 ∧ (0 < fu ∨ ∃ m, r = .error m)) := fun v w6 w8 hr6 hg6 hg8 hst => by
              have hq := HREQ2.out
              have hrow8 := hr6.step HGL.out hg8
              cases hne : T.need s.data.toList [44, 32] j with
              | error e' =>
                rw [hne] at hq hst
                have : r = .error e' := by simpa [T.pre] using hq
                obtain ⟨A9, C9, hv9, _, _⟩ := hrow8.shape
                exact ⟨.inr ⟨e', A9, _, C9, this, hv9, hst, grownBy_trans hg6 hg8⟩, .inr ⟨e', this⟩⟩
              | ok j' =>
                rw [hne] at hq hst
                have hj' := (T.need_ok _ _ _ hne).2 (by simp)
                refine ⟨.inl ⟨j', acc ++ [t], ?_, hrow8, hst, by simpa using hj', by simp; omega, grownBy_trans hg6 hg8⟩, ?_⟩
                · rw [hq, ← T.pre_more]; simp
                · cases fu with
                  | zero => simp [T.pkids, T.more, T.pre] at hq
                  | succ q => left; omega
            have HFIN := Lib.hid hfin; clear hfin
            by_cases hn0 : n = 0
            · subst hn0
              have hnow : T.now s.data.toList j 44 = true := by
                rcases Bool.eq_false_or_eq_true (T.now s.data.toList j 44) with h | h
                · exact h
                · exact absurd (.inr ⟨rfl, h⟩) hend
              have HNOW := Lib.hid hnow; clear hnow hend
              go_wp2_with (at_builtin; refine wpList_append_lies _ rfl _ _ 27 rfl w.heap.size 29 i0 _ 3 48 Tryz.underlying27 hi0 hz0 hz1 hz2 rfl (by omega) _ acc.length _ rfl HOWN3.out ⟨w2.heap.size, 0, none⟩ 1 1 _ rfl rfl (World.news_of_block (heap_alloc_new _ _)) HONE.out (by omega) HC1.out HC2.out HMS.out _ rfl ?_; intro g4 cap4 w4 hown4 hg4 hat4 hlt4)
              have HP4 := Lib.hid (HP3.out.grown hg4 HNE.out)
              have HG4 := Lib.hid (grown_trans2 HG3.out hg4 (fun b hb => (HBLK.out b hb).1))
              have HROW4 := Lib.hid (TermsRow.snoc (w := w2.alloc (.cells #[.int .i64 t.kind, .string t.name, .slice A6 t.kids.length c6] 29)) (H := w2.heap.size + 1) (t := t) (fun i hi => by
                  obtain ⟨a0, a1, a2, b0, b1, b2, b3⟩ := HCT.out i hi
                  exact ⟨a0, a1, a2, b0, b1, b2, b3.keep fun b hb hl => ⟨hb, Below.heap_alloc _ _ b hl⟩⟩) HOWN.out.1
                (hti.keep fun b hb hl => ⟨but_iff.2 ⟨by have := of_decide_eq_true hb; have := HG.out.size; omega, fun e => by have := HLV.out b e; have := of_decide_eq_true hb; omega⟩, Below.heap_alloc _ _ b hl⟩) hown4 hg4 (hat4.imp id fun h => h.trans (size_alloc1 _ _)) (size_alloc1 _ _))
              clear hown4 hg4 hat4 hlt4
              refine (onow_lit 44 44 (by decide) g j s _ HP4.out (by omega) _ HNOW.out).mono ?_; rintro e w6 ⟨rfl, nq, rfl⟩
              go_wp2_with fail
              refine (HWALK.out _ (HP4.out.drewN nq)).mono ?_; rintro e w8 ⟨rfl, hg8, hst8⟩
              have HF := Lib.hid (HFIN.out _ _ w8 (HROW4.out.keep (w' := w4.drewN nq) fun _ _ _ => rfl) (grown_drewN HG4.out nq) hg8 hst8)
              clear hg8 hst8
              go_wp2_with fail
              go_roundg fu
              case measure => omega
              case rel => exact ⟨_, rfl, HF.out, by omega⟩
            · have hcn : acc.length + 1 ≠ n := fun h => hend (.inl ⟨by omega, h⟩)
              have n1 : (0 : Int) < (n : Int) := by omega
              have n1' : decide ((0 : Int) < (n : Int)) = true := decide_eq_true n1
              have n1'' : decide (0 < n) = true := decide_eq_true (by omega)
              have n2 : ((n : Int) == 0) = false := by rw [beq_eq_false_iff_ne]; omega
              have n3 : ((acc.length : Int) + 1 == (n : Int)) = false := by rw [beq_eq_false_iff_ne]; omega
              clear hcn hn0 hend
              go_wp2_with (at_builtin; refine wpList_append_lies _ rfl _ _ 27 rfl w.heap.size 29 i0 _ 3 48 Tryz.underlying27 hi0 hz0 hz1 hz2 rfl (by omega) _ acc.length _ rfl HOWN3.out ⟨w2.heap.size, 0, none⟩ 1 1 _ rfl rfl (World.news_of_block (heap_alloc_new _ _)) HONE.out (by omega) HC1.out HC2.out HMS.out _ rfl ?_; intro g4 cap4 w4 hown4 hg4 hat4 hlt4)
              have HP4 := Lib.hid (HP3.out.grown hg4 HNE.out)
              have HG4 := Lib.hid (grown_trans2 HG3.out hg4 (fun b hb => (HBLK.out b hb).1))
              have HROW4 := Lib.hid (TermsRow.snoc (w := w2.alloc (.cells #[.int .i64 t.kind, .string t.name, .slice A6 t.kids.length c6] 29)) (H := w2.heap.size + 1) (t := t) (fun i hi => by
                  obtain ⟨a0, a1, a2, b0, b1, b2, b3⟩ := HCT.out i hi
                  exact ⟨a0, a1, a2, b0, b1, b2, b3.keep fun b hb hl => ⟨hb, Below.heap_alloc _ _ b hl⟩⟩) HOWN.out.1
                (hti.keep fun b hb hl => ⟨but_iff.2 ⟨by have := of_decide_eq_true hb; have := HG.out.size; omega, fun e => by have := HLV.out b e; have := of_decide_eq_true hb; omega⟩, Below.heap_alloc _ _ b hl⟩) hown4 hg4 (hat4.imp id fun h => h.trans (size_alloc1 _ _)) (size_alloc1 _ _))
              clear hown4 hg4 hat4 hlt4
              refine (HWALK.out _ HP4.out).mono ?_; rintro e w8 ⟨rfl, hg8, hst8⟩
              have HF := Lib.hid (HFIN.out _ _ w8 HROW4.out HG4.out hg8 hst8)
              clear hg8 hst8
              go_wp2_with fail
              go_roundg fu
              case measure => omega
              case rel => exact ⟨_, rfl, HF.out, by omega⟩
    · obtain ⟨x0, x1, x2⟩ := hp.cells
      have HP := Lib.hid hp; have HG := Lib.hid hg
      clear hp hg
      go_wp2_with fail
      go_ret
      exact ⟨HG.out, HP.out, _, _, _, rfl⟩
end Go.Proofs.YtihbmgkbipeakaaGreat
