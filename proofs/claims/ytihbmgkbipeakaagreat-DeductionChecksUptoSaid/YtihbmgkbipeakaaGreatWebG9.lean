/- Several texts in one: TermPName, TermPKids, TermPFn. -/
import Derived.Test.YtihbmgkbipeakaaGreatWebG8
import Derived.Deep.LoopGhost
import Derived.Deep.CutRange
namespace Go.Proofs.YtihbmgkbipeakaaGreat
open Go.RowKit

theorem T.extract_name (s : ByteArray) (i j : Nat) : s.extract i j = T.nameStr s.data.toList i j := by
  apply str_eq
  rw [Lib.extract_data, T.nameStr, strOf_data]
theorem T.nameOk_at (s : ByteArray) (i m : Nat) (h : m < s.size) : T.nameOk s.data.toList i m = (T.low s[m] || (decide (i < m) && T.dig s[m])) := by
  unfold T.nameOk; rw [T.getD_at s m h]
theorem T.dig_dec (c : UInt8) : (decide (48 ≤ (c.toNat : Int)) && decide ((c.toNat : Int) ≤ 57)) = T.dig c := rfl
/-- What name leaves. -/
def NameEnds (ty : TypeId) (g i : Nat) (s : ByteArray) (w : World) (e : Ending) (w' : World) : Prop :=
  w.grownBy w' (some g) ∧ ((T.nameEnd s.data.toList i = i ∧ e = .returned (.string ⟨#[]⟩) ∧ PBox ty w' g s i true) ∨
    (T.nameEnd s.data.toList i ≠ i ∧ e = .returned (.string (T.nameStr s.data.toList i (T.nameEnd s.data.toList i))) ∧ PBox ty w' g s (T.nameEnd s.data.toList i) false))

end Go.Proofs.YtihbmgkbipeakaaGreat

namespace Go.Proofs.YtihbmgkbipeakaaGreat
open Go.RowKit

namespace T
def pre (acc : List T) : Option (Except Nat (List T × Nat)) → Option (Except Nat (List T × Nat))
  | none => none
  | some (.error e) => some (.error e)
  | some (.ok (ks, j)) => some (.ok (acc ++ ks, j))
theorem pre_more (acc : List T) (t : T) (r : Option (Except Nat (List T × Nat))) : pre acc (more t r) = pre (acc ++ [t]) r := by
  rcases r with _ | _ | ⟨ks, j⟩
  · rfl
  · rfl
  · simp [pre, more]
end T
/-- What term leaves. -/
def TermPost (ty : TypeId) (g : Nat) (s : ByteArray) (w : World) (r : Except Nat (T × Nat)) (e : Ending) (w' : World) : Prop :=
  w.grownBy w' (some g) ∧ (match r with
    | .ok (t, j) => PBox ty w' g s j false ∧ ∃ A cap, e = .returned (.agg #[.int .i64 t.kind, .string t.name, .slice A t.kids.length cap]) ∧ TermIn (from_ w.heap.size) w' (.agg #[.int .i64 t.kind, .string t.name, .slice A t.kids.length cap]) t
    | .error j => PBox ty w' g s j true ∧ ∃ (k : Int) (nm : ByteArray) (A : Option Addr) (n cap : Nat), e = .returned (.agg #[.int .i64 k, .string nm, .slice A n cap]))
theorem grown_trans2 {w w1 w2 : World} {g : Nat} {row : Option Nat} (h : w.grownBy w1 (some g)) (k : w1.grownBy w2 row) (hr : ∀ b, row = some b → w.heap.size ≤ b) : w.grownBy w2 (some g) :=
  ⟨k.os.trans h.os, k.tape.trans h.tape, k.output.trans h.output, Nat.le_trans h.size k.size, fun i hi hn => by
    rw [k.block i (Nat.lt_of_lt_of_le hi h.size) (fun e => by have := hr i e.symm; omega)]; exact h.block i hi hn⟩
theorem grown_below2 {w w1 w2 : World} {g : Nat} (h : w.grownBy w1 (some g)) (k : Below w1.heap.size w1 w2) : w.grownBy w2 (some g) :=
  grownBy_trans h (grownBy_of_below _ k)
theorem TermsRow.step {w w1 w2 : World} {g : Nat} {v : Value} {L : List T} (h : TermsRow w1 w.heap.size v L) (hg : g < w.heap.size) (k : w1.grownBy w2 (some g)) : TermsRow w2 w.heap.size v L :=
  h.keep fun b hb hl => k.block b hl (fun e => by injection e with e; omega)

end Go.Proofs.YtihbmgkbipeakaaGreat

namespace Go.Proofs.YtihbmgkbipeakaaGreat
open Go.RowKit

theorem str_lit_ne {s : ByteArray} {l : List UInt8} (h : s ≠ ⟨l.toArray⟩) : (s.toList == l) = false := by
  rw [beq_eq_false_iff_ne]; intro e; apply h
  apply str_eq; rw [← ByteArray.toList_eq, e]

set_option maxHeartbeats 1000000 in
theorem rfn (s : ByteArray) (w : World) : Calls Tryz.prog 153 #[.string s] w fun e w' => e = .returned (.tuple #[.int .i64 (T.fnKind s), .int .i64 (T.fnKids s)]) ∧ w = w' := by
  by_cases h1 : s = ⟨#[104, 97, 115, 104]⟩
  · subst h1
    go_enter Tryz.func153, Tryz.ntmps153
    go_wp2
    go_ret2
    exact ⟨rfl, rfl⟩
  by_cases h2 : s = ⟨#[115, 101, 97, 108]⟩
  · subst h2
    go_enter Tryz.func153, Tryz.ntmps153
    go_wp2
    go_ret2
    exact ⟨rfl, rfl⟩
  by_cases h3 : s = ⟨#[115, 105, 103, 110]⟩
  · subst h3
    go_enter Tryz.func153, Tryz.ntmps153
    go_wp2
    go_ret2
    exact ⟨rfl, rfl⟩
  by_cases h4 : s = ⟨#[112, 111, 119, 101, 114]⟩
  · subst h4
    go_enter Tryz.func153, Tryz.ntmps153
    go_wp2
    go_ret2
    exact ⟨rfl, rfl⟩
  have E := Lib.hid (show T.fnKind s = 0 ∧ T.fnKids s = 0 by unfold T.fnKind T.fnKids; simp [h1, h2, h3, h4])
  have g1 : (s.toList == [104, 97, 115, 104]) = false := str_lit_ne h1
  have g2 : (s.toList == [115, 101, 97, 108]) = false := str_lit_ne h2
  have g3 : (s.toList == [115, 105, 103, 110]) = false := str_lit_ne h3
  have g4 : (s.toList == [112, 111, 119, 101, 114]) = false := str_lit_ne h4
  clear h1 h2 h3 h4
  go_enter Tryz.func153, Tryz.ntmps153
  go_wp2
  go_ret2
  exact ⟨by rw [E.out.1, E.out.2]; rfl, rfl⟩
end Go.Proofs.YtihbmgkbipeakaaGreat
