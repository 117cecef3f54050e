/- Several texts in one: TermPar, TermPName, TermPKids. -/
import Derived.Test.YtihbmgkbipeakaaGreatWebG8
import Derived.BigQuiet
import Derived.Deep.QuietTactic
import Derived.Deep.LoopGhost
import Derived.Deep.CutRange
namespace Go.Proofs.YtihbmgkbipeakaaGreat
open Go.RowKit

/-- A reader in memory: text, place, wrong. -/
def PBox (ty : TypeId) (w : World) (g : Nat) (s : ByteArray) (i : Nat) (b : Bool) : Prop := w.heap[g]? = some (.cells #[.string s, .int .i64 i, .bool b] ty (0, 0))
section
variable {ty : TypeId} {w w' : World} {g i : Nat} {s : ByteArray} {b : Bool}
theorem PBox.cells (h : PBox ty w g s i b) : w.cell? ⟨g, 0, none⟩ = some (.string s) ∧ w.cell? ⟨g, 1, none⟩ = some (.int .i64 i) ∧ w.cell? ⟨g, 2, none⟩ = some (.bool b) := by
  unfold PBox at h
  refine ⟨?_, ?_, ?_⟩ <;> simp [World.cell?, h]
theorem PBox.free (h : PBox ty w g s i b) : w.frozen? ⟨g, 0, none⟩ = false ∧ w.frozen? ⟨g, 1, none⟩ = false ∧ w.frozen? ⟨g, 2, none⟩ = false := by
  unfold PBox at h
  refine ⟨?_, ?_, ?_⟩ <;> simp [World.frozen?, h]
theorem PBox.lt (h : PBox ty w g s i b) : g < w.heap.size := (Array.getElem?_eq_some_iff.1 h).1
theorem PBox.set1 (h : PBox ty w g s i b) (j : Nat) (v : Int) (hv : v = j) : PBox ty (w.setCell ⟨g, 1, none⟩ (.int .i64 v)) g s j b := by
  subst hv; unfold PBox at *
  simp [World.setCell, Array.getElem?_modify, h]
theorem PBox.set2 (h : PBox ty w g s i b) (c : Bool) : PBox ty (w.setCell ⟨g, 2, none⟩ (.bool c)) g s i c := by
  unfold PBox at *
  simp [World.setCell, Array.getElem?_modify, h]
theorem PBox.later (h : PBox ty w g s i b) (hb : Below w.heap.size w w') : PBox ty w' g s i b := (hb.block g h.lt).trans h
theorem PBox.grown {row : Option Nat} (h : PBox ty w g s i b) (hg : w.grownBy w' row) (hr : row ≠ some g) : PBox ty w' g s i b := (hg.block g h.lt (fun e => hr e.symm)).trans h
theorem PBox.drewN (h : PBox ty w g s i b) (n : Nat) : PBox ty (w.drewN n) g s i b := h
end
theorem grown_refl (w : World) (row : Option Nat) : w.grownBy w row := ⟨rfl, rfl, rfl, Nat.le_refl _, fun _ _ _ => rfl⟩
theorem grown_drewN {w w' : World} {row : Option Nat} (h : w.grownBy w' row) (n : Nat) : w.grownBy (w'.drewN n) row := ⟨h.os, h.tape, h.output, h.size, h.block⟩
theorem grown_set {w w' : World} {g : Nat} (h : w.grownBy w' (some g)) (i : Nat) (v : Value) : w.grownBy (w'.setCell ⟨g, i, none⟩ v) (some g) :=
  ⟨h.os, h.tape, h.output, by rw [show (w'.setCell ⟨g, i, none⟩ v).heap.size = w'.heap.size by simp [World.setCell]]; exact h.size, fun k hk hn => by rw [Below.heap_setCell _ _ _ _ (fun e => hn (by rw [e]))]; exact h.block k hk hn⟩
/-- Where the reader stands behind a step. -/
def Stands (ty : TypeId) (w : World) (g : Nat) (s : ByteArray) : Except Nat Nat → Prop
  | .ok j => PBox ty w g s j false
  | .error j => PBox ty w g s j true
theorem T.now_at (s : ByteArray) (i : Nat) (h : i < s.size) (c : UInt8) : T.now s.data.toList i c = (s[i] == c) := by
  unfold T.now
  have hl : i < s.data.toList.length := by simpa using h
  rw [List.getElem?_eq_getElem hl]
  show (some s[i] == some c) = _
  rfl
theorem T.now_past (s : ByteArray) (i : Nat) (h : s.size ≤ i) (c : UInt8) : T.now s.data.toList i c = false := by
  unfold T.now; rw [List.getElem?_eq_none (by simpa using h)]; rfl
theorem u8_ne {a b : UInt8} (h : (a == b) = false) : ((a.toNat : Int) == (b.toNat : Int)) = false ∧ ((a.toNat : Int) != (b.toNat : Int)) = true := by
  have hne : a ≠ b := by rw [beq_eq_false_iff_ne] at h; exact h
  have : (a.toNat : Int) ≠ (b.toNat : Int) := fun e => hne (UInt8.toNat_inj.1 (by omega))
  exact ⟨by rw [beq_eq_false_iff_ne]; exact this, by rw [bne_iff_ne]; exact this⟩
theorem u8_eq {a b : UInt8} (h : (a == b) = true) : ((a.toNat : Int) == (b.toNat : Int)) = true ∧ ((a.toNat : Int) != (b.toNat : Int)) = false := by
  have := beq_iff_eq.1 h; subst this; exact ⟨beq_self_eq_true _, by simp⟩

set_option maxRecDepth 100000 in
set_option maxHeartbeats 2000000 in
theorem rneed (g i : Nat) (s q : ByteArray) (w : World) (h : PBox 133 w g s i false) (_hi : i ≤ 4096) (hs : s.size ≤ 4096) (hq : q.size ≤ 16) :
    Calls Tryz.prog 187 #[.pointer (some ⟨g, 0, none⟩), .string q] w fun e w' => e = .returned (.tuple #[]) ∧ w.grownBy w' (some g) ∧ Stands 133 w' g s (T.need s.data.toList q.data.toList i) := by
  have HW := Lib.hid h; clear h
  go_enter Tryz.func187, Tryz.ntmps187
  go_wp2_with fail
  go_loopw [4] (fun v4 wr => ∃ k m : Nat, k ≤ q.size ∧ m ≤ i + k ∧ v4 = .int .i64 k ∧ T.need s.data.toList q.data.toList i = T.need s.data.toList (q.data.toList.drop k) m ∧ PBox 133 wr g s m false ∧ w.grownBy wr (some g)) (fun v4 _ => q.size - (intOf v4).toNat)
  case atStart => exact ⟨0, i, Nat.zero_le _, by omega, rfl, rfl, HW.out, grown_refl _ _⟩
  case round =>
    obtain ⟨k, m, hk, hm, rfl, hnd, hp, hg⟩ := hrel
    obtain ⟨x0, x1, x2⟩ := hp.cells
    obtain ⟨f0, f1, f2⟩ := hp.free
    have HND := Lib.hid hnd; have HP := Lib.hid hp; have HG := Lib.hid hg
    clear hnd hp hg
    by_cases hlt : k < q.size
    · have h1 : (k : Int) < (q.size : Int) := by omega
      have h1' : decide ((k : Int) < (q.size : Int)) = true := decide_eq_true h1
      have h1'' : decide (k < q.size) = true := decide_eq_true hlt
      have h2 : (0 : Int) ≤ (k : Int) := by omega
      have h3 : (0 : Int) ≤ (m : Int) := by omega
      have hdr : q.data.toList.drop k = q[k] :: q.data.toList.drop (k + 1) := by
        rw [List.drop_eq_getElem_cons (by simpa using hlt)]; rfl
      have hst : T.need s.data.toList q.data.toList i = if T.now s.data.toList m q[k] = true then T.need s.data.toList (q.data.toList.drop (k + 1)) (m + 1) else .error m := by rw [HND.out, hdr]; rfl
      have HST := Lib.hid hst
      clear hst hdr
      rcases Nat.lt_or_ge m s.size with hms | hms
      · have h4 : (m : Int) < (s.size : Int) := by omega
        have h4' : decide ((s.size : Int) ≤ (m : Int)) = false := decide_eq_false (by omega)
        have h4'' : decide (s.size ≤ m) = false := decide_eq_false (by omega)
        rcases Bool.eq_false_or_eq_true (s[m] == q[k]) with e | e
        · have HE := Lib.hid (show T.need s.data.toList q.data.toList i = T.need s.data.toList (q.data.toList.drop (k + 1)) (m + 1) by rw [HST.out, T.now_at s m hms, if_pos e])
          obtain ⟨e1, e2⟩ := u8_eq e
          have HLT := Lib.hid hlt
          clear e
          go_upto_region 3 with fail
          go_quiet (fail)
          go_wp2_with fail
          go_roundw
          case rel => exact ⟨k + 1, m + 1, HLT.out, by omega, by go_num, HE.out, (HP.out.drewN nq).set1 (m + 1) _ (by push_cast; rfl), grown_set (grown_drewN HG.out nq) _ _⟩
          case measure => have := HLT.out; simp [intOf]; omega
        · have HE := Lib.hid (show T.need s.data.toList q.data.toList i = .error m by rw [HST.out, T.now_at s m hms, if_neg (by rw [e]; decide)])
          obtain ⟨e1, e2⟩ := u8_ne e
          clear e
          go_upto_region 3 with fail
          go_quiet (fail)
          go_wp2_with fail
          refine bodyPost_ret (results_none rfl _ _ _) rfl ?_
          exact ⟨rfl, grown_set (grown_drewN HG.out nq) _ _, by rw [HE.out]; exact (HP.out.drewN nq).set2 true⟩
      · have h4 : (s.size : Int) ≤ (m : Int) := by omega
        have h4' : decide ((s.size : Int) ≤ (m : Int)) = true := decide_eq_true (by omega)
        have h4'' : decide (s.size ≤ m) = true := decide_eq_true (by omega)
        have HE := Lib.hid (show T.need s.data.toList q.data.toList i = .error m by rw [HST.out, T.now_past s m hms, if_neg (by decide)])
        go_upto_region 3 with fail
        go_quiet (fail)
        go_wp2_with fail
        refine bodyPost_ret (results_none rfl _ _ _) rfl ?_
        exact ⟨rfl, grown_set (grown_drewN HG.out nq) _ _, by rw [HE.out]; exact (HP.out.drewN nq).set2 true⟩
    · obtain rfl : k = q.size := by omega
      have HE := Lib.hid (show T.need s.data.toList q.data.toList i = .ok m by rw [HND.out, List.drop_of_length_le (by simp)]; rfl)
      clear hlt
      go_wp2_with fail
      go_end0
      exact ⟨rfl, HG.out, by rw [HE.out]; exact HP.out⟩
set_option maxRecDepth 100000 in
set_option maxHeartbeats 1000000 in
theorem rneed_wrong (g i : Nat) (s : ByteArray) (b0 : UInt8) (bs : List UInt8) (w : World) (h : PBox 133 w g s i true) :
    Calls Tryz.prog 187 #[.pointer (some ⟨g, 0, none⟩), .string ⟨(b0 :: bs).toArray⟩] w fun e w' => e = .returned (.tuple #[]) ∧ w = w' := by
  obtain ⟨x0, x1, x2⟩ := h.cells
  have hz : (⟨(b0 :: bs).toArray⟩ : ByteArray).size = bs.length + 1 := by rw [str_size]; rfl
  generalize (⟨(b0 :: bs).toArray⟩ : ByteArray) = q at hz ⊢
  have h1 : (0 : Int) < (q.size : Int) := by omega
  have h1' : decide ((0 : Int) < (q.size : Int)) = true := decide_eq_true h1
  have h1'' : decide (0 < q.size) = true := decide_eq_true (by omega)
  clear hz
  go_enter Tryz.func187, Tryz.ntmps187
  go_wp2_with fail
  refine wp_loop_rounds 1 ?_; rw [rounds_succ]
  go_wp2_with fail
  go_end0
  exact ⟨rfl, rfl⟩
end Go.Proofs.YtihbmgkbipeakaaGreat

namespace Go.Proofs.YtihbmgkbipeakaaGreat
open Go.RowKit

theorem T.extract_name (s : ByteArray) (i j : Nat) : s.extract i j = T.nameStr s.data.toList i j := by
  apply str_eq
  rw [Lib.extract_data, T.nameStr, strOf_data]
theorem T.nameOk_at (s : ByteArray) (i m : Nat) (h : m < s.size) : T.nameOk s.data.toList i m = (T.low s[m] || (decide (i < m) && T.dig s[m])) := by
  unfold T.nameOk; rw [T.getD_at s m h]
theorem T.dig_dec (c : UInt8) : (decide (48 ≤ (c.toNat : Int)) && decide ((c.toNat : Int) ≤ 57)) = T.dig c := rfl
/-- What name leaves. -/
def NameEnds (ty : TypeId) (g i : Nat) (s : ByteArray) (w : World) (e : Ending) (w' : World) : Prop :=
  w.grownBy w' (some g) ∧ ((T.nameEnd s.data.toList i = i ∧ e = .returned (.string ⟨#[]⟩) ∧ PBox ty w' g s i true) ∨
    (T.nameEnd s.data.toList i ≠ i ∧ e = .returned (.string (T.nameStr s.data.toList i (T.nameEnd s.data.toList i))) ∧ PBox ty w' g s (T.nameEnd s.data.toList i) false))

end Go.Proofs.YtihbmgkbipeakaaGreat

namespace Go.Proofs.YtihbmgkbipeakaaGreat
open Go.RowKit

namespace T
def pre (acc : List T) : Option (Except Nat (List T × Nat)) → Option (Except Nat (List T × Nat))
  | none => none
  | some (.error e) => some (.error e)
  | some (.ok (ks, j)) => some (.ok (acc ++ ks, j))
theorem pre_more (acc : List T) (t : T) (r : Option (Except Nat (List T × Nat))) : pre acc (more t r) = pre (acc ++ [t]) r := by
  rcases r with _ | _ | ⟨ks, j⟩
  · rfl
  · rfl
  · simp [pre, more]
end T
/-- What term leaves. -/
def TermPost (ty : TypeId) (g : Nat) (s : ByteArray) (w : World) (r : Except Nat (T × Nat)) (e : Ending) (w' : World) : Prop :=
  w.grownBy w' (some g) ∧ (match r with
    | .ok (t, j) => PBox ty w' g s j false ∧ ∃ A cap, e = .returned (.agg #[.int .i64 t.kind, .string t.name, .slice A t.kids.length cap]) ∧ TermIn (from_ w.heap.size) w' (.agg #[.int .i64 t.kind, .string t.name, .slice A t.kids.length cap]) t
    | .error j => PBox ty w' g s j true ∧ ∃ (k : Int) (nm : ByteArray) (A : Option Addr) (n cap : Nat), e = .returned (.agg #[.int .i64 k, .string nm, .slice A n cap]))
theorem grown_trans2 {w w1 w2 : World} {g : Nat} {row : Option Nat} (h : w.grownBy w1 (some g)) (k : w1.grownBy w2 row) (hr : ∀ b, row = some b → w.heap.size ≤ b) : w.grownBy w2 (some g) :=
  ⟨k.os.trans h.os, k.tape.trans h.tape, k.output.trans h.output, Nat.le_trans h.size k.size, fun i hi hn => by
    rw [k.block i (Nat.lt_of_lt_of_le hi h.size) (fun e => by have := hr i e.symm; omega)]; exact h.block i hi hn⟩
theorem grown_below2 {w w1 w2 : World} {g : Nat} (h : w.grownBy w1 (some g)) (k : Below w1.heap.size w1 w2) : w.grownBy w2 (some g) :=
  grownBy_trans h (grownBy_of_below _ k)
theorem TermsRow.step {w w1 w2 : World} {g : Nat} {v : Value} {L : List T} (h : TermsRow w1 w.heap.size v L) (hg : g < w.heap.size) (k : w1.grownBy w2 (some g)) : TermsRow w2 w.heap.size v L :=
  h.keep fun b hb hl => k.block b hl (fun e => by injection e with e; omega)

end Go.Proofs.YtihbmgkbipeakaaGreat
