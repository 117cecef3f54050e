/- Chapter 10, plain: one digit replaced, neighbours exchanged. -/
import Derived.Test.YtdejgomljelnlaaDoorOptPlain
import Derived.Test.YtdejgomljelnlaaDoorMadeSigns
namespace Go.Proofs.YtdejgomljelnlaaDoor.Opt
open Go.RowKit

theorem sign_ok {c : UInt8} (h : isSign c) : ok c = true := by
  unfold isSign at h; unfold ok val
  apply decide_eq_true
  repeat' split
  all_goals omega
theorem signs_valid {l : List UInt8} (h : ∀ c ∈ l, isSign c) : valid l = true := List.all_eq_true.2 fun c hc => sign_ok (h c hc)
theorem signs_set {l : List UInt8} (h : ∀ c ∈ l, isSign c) (k : Nat) (x : UInt8) (hx : isSign x) : ∀ c ∈ l.set k x, isSign c := by
  intro c hc
  rcases List.mem_or_eq_of_mem_set hc with h1 | h1
  · exact h c h1
  · rw [h1]; exact hx
theorem sumFrom_set (l : List UInt8) (x : UInt8) : ∀ (k j : Nat) (h : k < l.length), sumFrom j (l.set k x) = sumFrom j l + wt (j + k) * val (x.toNat : Int) - wt (j + k) * val (l[k].toNat : Int) := by
  induction l with
  | nil => intro k j h; simp at h
  | cons c r ih =>
    intro k j h
    cases k with
    | zero => simp only [List.set_cons_zero, sumFrom, List.getElem_cons_zero, Nat.add_zero]; omega
    | succ k =>
      have := ih k (j + 1) (by simpa using h)
      simp only [List.set_cons_succ, sumFrom, List.getElem_cons_succ, this]
      rw [show j + 1 + k = j + (k + 1) by omega]; omega
theorem sum_set (l : List UInt8) (x : UInt8) (k : Nat) (h : k < l.length) : sum (l.set k x) = sum l + wt k * val (x.toNat : Int) - wt k * val (l[k].toNat : Int) := by
  have := sumFrom_set l x k 0 h
  rwa [Nat.zero_add] at this
theorem b8_inj {a b : Int} (ha : 0 ≤ a ∧ a ≤ 255) (hb : 0 ≤ b ∧ b ≤ 255) (h : b8 a = b8 b) : a = b := by
  have h1 := b8_toNat a ha.1 ha.2; have h2 := b8_toNat b hb.1 hb.2
  rw [h] at h1; omega
theorem digit_eq (a b : List UInt8) : digit a = digit b ↔ sum a % 10 = sum b % 10 := by
  unfold digit
  constructor
  · intro h
    have := b8_inj (a := 48 + sum a % 10) (b := 48 + sum b % 10) (by omega) (by omega) h
    omega
  · intro h; rw [h]
theorem digS_signs (l : List UInt8) (h : ∀ c ∈ l, isSign c) : digS ⟨l.toArray⟩ = ⟨#[digit l]⟩ ∧ digE ⟨l.toArray⟩ = 0 := by
  have := signs_valid h
  unfold digS digE
  constructor <;> simp [this]
theorem digS_eq (a b : List UInt8) (ha : ∀ c ∈ a, isSign c) (hb : ∀ c ∈ b, isSign c) : digS ⟨a.toArray⟩ = digS ⟨b.toArray⟩ ↔ sum a % 10 = sum b % 10 := by
  rw [(digS_signs a ha).1, (digS_signs b hb).1, ← digit_eq]
  constructor
  · intro h; injection h with h; injection h with h; injection h
  · intro h; rw [h]
theorem sign_val {c : UInt8} (h : isSign c) : 0 ≤ val (c.toNat : Int) ∧ val (c.toNat : Int) ≤ 35 := by
  unfold isSign at h; unfold val
  repeat' split
  all_goals omega

/-- A digit is replaced by another one. -/
theorem one_digit (l : List UInt8) (h : ∀ c ∈ l, isSign c) (k : Nat) (hk : k < l.length) (h0 : 48 ≤ (l[k].toNat : Int)) (h1 : (l[k].toNat : Int) ≤ 57) (x : Int) (hx : 0 ≤ x ∧ x < 9) :
    isSign (b8 (48 + ((l[k].toNat : Int) - 48 + 1 + x) % 10)) ∧ digS ⟨l.toArray⟩ ≠ digS ⟨(l.set k (b8 (48 + ((l[k].toNat : Int) - 48 + 1 + x) % 10))).toArray⟩ ∧
    digE ⟨(l.set k (b8 (48 + ((l[k].toNat : Int) - 48 + 1 + x) % 10))).toArray⟩ = 0 := by
  have hb := b8_toNat (48 + ((l[k].toNat : Int) - 48 + 1 + x) % 10) (by omega) (by omega)
  have hs : isSign (b8 (48 + ((l[k].toNat : Int) - 48 + 1 + x) % 10)) := by unfold isSign; rw [hb]; left; omega
  have hall := signs_set h k _ hs
  refine ⟨hs, ?_, (digS_signs _ hall).2⟩
  rw [Ne, digS_eq l _ h hall, sum_set l _ k hk, hb]
  have e1 : val (l[k].toNat : Int) = (l[k].toNat : Int) - 48 := by unfold val; rw [if_pos ⟨h0, h1⟩]
  have e2 : val (48 + ((l[k].toNat : Int) - 48 + 1 + x) % 10) = ((l[k].toNat : Int) - 48 + 1 + x) % 10 := by unfold val; rw [if_pos (by omega)]; omega
  rw [e1, e2]
  generalize (l[k].toNat : Int) = c at *
  rcases wt_cases k with h | h | h <;> rw [h] <;> omega
where
  wt_cases (k : Nat) : wt k = 7 ∨ wt k = 3 ∨ wt k = 1 := by unfold wt; repeat' split
                                                            all_goals simp
theorem wt_two (k : Nat) : (wt k = 7 ∧ wt (k + 1) = 3) ∨ (wt k = 3 ∧ wt (k + 1) = 1) ∨ (wt k = 1 ∧ wt (k + 1) = 7) := by
  have : k % 3 < 3 := Nat.mod_lt _ (by omega)
  have h : k % 3 = 0 ∨ k % 3 = 1 ∨ k % 3 = 2 := by omega
  unfold wt
  rcases h with h | h | h
  · left; rw [h, show (k + 1) % 3 = 1 by omega]; simp
  · right; left; rw [h, show (k + 1) % 3 = 2 by omega]; simp
  · right; right; rw [h, show (k + 1) % 3 = 0 by omega]; simp
/-- Two neighbours change places. -/
def swap (l : List UInt8) (k : Nat) (h : k + 1 < l.length) : List UInt8 := (l.set k l[k+1]).set (k + 1) l[k]
theorem swap_eq (l : List UInt8) (h : ∀ c ∈ l, isSign c) (k : Nat) (hk : k + 1 < l.length) :
    (digS ⟨l.toArray⟩ = digS ⟨(swap l k hk).toArray⟩ ↔ (val (l[k].toNat : Int) - val (l[k+1].toNat : Int)).tmod 5 = 0) ∧ digE ⟨(swap l k hk).toArray⟩ = 0 := by
  have hs : ∀ c ∈ swap l k hk, isSign c := signs_set (signs_set h k _ (h _ (List.getElem_mem _))) _ _ (h _ (List.getElem_mem _))
  refine ⟨?_, (digS_signs _ hs).2⟩
  rw [digS_eq l _ h hs]
  unfold swap
  rw [sum_set _ _ _ (by simpa using hk), sum_set _ _ _ (by omega), List.getElem_set_ne (by omega)]
  have b1 := sign_val (h _ (List.getElem_mem (show k < l.length by omega)))
  have b2 := sign_val (h _ (List.getElem_mem hk))
  generalize val (l[k].toNat : Int) = a at *
  generalize val (l[k+1].toNat : Int) = b at *
  have e : (a - b).tmod 5 = 0 ↔ (a - b) % 5 = 0 := by
    rw [← Int.dvd_iff_tmod_eq_zero, Int.dvd_iff_emod_eq_zero]
  rw [e]
  rcases wt_two k with ⟨h, h'⟩ | ⟨h, h'⟩ | ⟨h, h'⟩ <;> rw [h, h'] <;> omega
end Go.Proofs.YtdejgomljelnlaaDoor.Opt
