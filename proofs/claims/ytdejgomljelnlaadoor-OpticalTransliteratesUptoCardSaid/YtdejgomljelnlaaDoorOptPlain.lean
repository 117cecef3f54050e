/- Chapter 10, plain: values of characters, check digits, names. No program in sight. -/
import Derived.Test.YtdejgomljelnlaaDoorUtil
namespace Go.Proofs.YtdejgomljelnlaaDoor.Opt
open Go.RowKit

/-- The value of a character, -1 for another byte. -/
def val (n : Int) : Int := if 48 ≤ n ∧ n ≤ 57 then n - 48 else if 65 ≤ n ∧ n ≤ 90 then n - 55 else if n = 60 then 0 else -1
theorem val_bd (n : Int) : -1 ≤ val n ∧ val n ≤ 35 := by unfold val; repeat' split
                                                         all_goals omega
def isLet (n : Int) : Prop := 65 ≤ n ∧ n ≤ 90
/-- The characters of a text. -/
def ok (c : UInt8) : Bool := decide (0 ≤ val (c.toNat : Int))
def valid (l : List UInt8) : Bool := l.all ok
/-- The weight of a place. -/
def wt (k : Nat) : Int := if k % 3 = 0 then 7 else if k % 3 = 1 then 3 else 1
theorem wt_bd (k : Nat) : 1 ≤ wt k ∧ wt k ≤ 7 := by unfold wt; repeat' split
                                                    all_goals omega
/-- The weighed sum of a text, from a place on. -/
def sumFrom : Nat → List UInt8 → Int
  | _, [] => 0
  | k, c :: r => wt k * val (c.toNat : Int) + sumFrom (k + 1) r
def sum (l : List UInt8) : Int := sumFrom 0 l
theorem sumFrom_append (l m : List UInt8) : ∀ k, sumFrom k (l ++ m) = sumFrom k l + sumFrom (k + l.length) m := by
  induction l with
  | nil => intro k; simp [sumFrom]
  | cons c r ih => intro k; simp only [List.cons_append, sumFrom, ih, List.length_cons]; rw [show k + 1 + r.length = k + (r.length + 1) by omega]; omega
theorem sum_snoc (l : List UInt8) (c : UInt8) : sum (l ++ [c]) = sum l + wt l.length * val (c.toNat : Int) := by
  unfold sum; rw [sumFrom_append]; simp [sumFrom]
theorem mul_bd {a b : Int} (ha : 0 ≤ a ∧ a ≤ 7) (hb : -1 ≤ b ∧ b ≤ 35) : -7 ≤ a * b ∧ a * b ≤ 245 := by
  have : a = 0 ∨ a = 1 ∨ a = 2 ∨ a = 3 ∨ a = 4 ∨ a = 5 ∨ a = 6 ∨ a = 7 := by omega
  rcases this with rfl | rfl | rfl | rfl | rfl | rfl | rfl | rfl <;> omega
theorem sumFrom_bd (l : List UInt8) (h : valid l = true) : ∀ k, 0 ≤ sumFrom k l ∧ sumFrom k l ≤ 245 * l.length := by
  induction l with
  | nil => intro k; simp [sumFrom]
  | cons c r ih =>
    intro k
    simp only [valid, List.all_cons, Bool.and_eq_true] at h
    have h1 := ih h.2 (k + 1)
    have h2 := val_bd (c.toNat : Int)
    have h3 : 0 ≤ val (c.toNat : Int) := by simpa [ok] using h.1
    have h4 := wt_bd k
    have h5 := mul_bd (a := wt k) (b := val (c.toNat : Int)) ⟨by omega, by omega⟩ h2
    have h6 : 0 ≤ wt k * val (c.toNat : Int) := Int.mul_nonneg (by omega) h3
    simp only [sumFrom, List.length_cons]
    omega
theorem sum_bd (l : List UInt8) (h : valid l = true) : 0 ≤ sum l ∧ sum l ≤ 245 * l.length := sumFrom_bd l h 0
/-- The check digit, as a byte. -/
def digit (l : List UInt8) : UInt8 := b8 (48 + sum l % 10)
def digS (s : ByteArray) : ByteArray := if valid s.data.toList = true then ⟨#[digit s.data.toList]⟩ else ⟨#[]⟩
def digE (s : ByteArray) : Int := if valid s.data.toList = true then 0 else 12
theorem take_snoc (s : ByteArray) (k : Nat) (h : k < s.size) : s.data.toList.take (k + 1) = s.data.toList.take k ++ [s[k]] := by
  rw [List.take_succ_eq_append_getElem (by simpa using h)]; rfl
theorem size_len (s : ByteArray) : s.data.toList.length = s.size := by simp
theorem take_all (s : ByteArray) : s.data.toList.take s.size = s.data.toList := List.take_of_length_le (by simp)
theorem take_len (s : ByteArray) (k : Nat) (h : k ≤ s.size) : (s.data.toList.take k).length = k := by simp; omega
theorem valid_get (l : List UInt8) (h : valid l = true) (k : Nat) (hk : k < l.length) : 0 ≤ val (l[k].toNat : Int) := by
  have := List.all_eq_true.1 h _ (List.getElem_mem hk)
  simpa [ok] using this
theorem valid_take (l : List UInt8) (h : valid l = true) (k : Nat) : valid (l.take k) = true :=
  List.all_eq_true.2 fun x hx => List.all_eq_true.1 h x (List.mem_of_mem_take hx)
theorem valid_take_snoc (s : ByteArray) (k : Nat) (h : k < s.size) : valid (s.data.toList.take (k + 1)) = (valid (s.data.toList.take k) && decide (0 ≤ val (s[k].toNat : Int))) := by
  rw [take_snoc s k h]; simp [valid, ok, List.all_append]
theorem not_valid (s : ByteArray) (k : Nat) (h : k < s.size) (hv : val (s[k].toNat : Int) < 0) : valid s.data.toList = false := by
  rw [Bool.eq_false_iff]; intro hh
  have := valid_get _ hh k (by simpa using h)
  have e : s.data.toList[k]'(by simpa using h) = s[k] := rfl
  rw [e] at this; omega
end Go.Proofs.YtdejgomljelnlaaDoor.Opt
