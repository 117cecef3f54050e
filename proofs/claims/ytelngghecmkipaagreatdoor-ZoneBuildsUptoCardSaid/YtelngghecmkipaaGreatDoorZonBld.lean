/- Chapter 11: what a valid zone is, and its lines, as plain functions; no program in sight. -/
import Derived.Test.YtelngghecmkipaaGreatDoorZonLoop
namespace Go.Proofs.YtelngghecmkipaaGreatDoor
namespace Zn
/-- What the first error 0 says. -/
structure Good (z : Z) : Prop where
  fmt : 1 ≤ z.fmt ∧ z.fmt ≤ 3
  kind : letters z.kind 2 = true
  state : letters z.state 3 = true
  sur : Opt.words 32 z.sur.data.toList = true
  sur0 : z.sur.size ≠ 0
  giv : Opt.words 32 z.giv.data.toList = true
  num0 : z.num.size ≠ 0
  num : plain z.num = true
  numLe : (z.num.size : Int) ≤ longest z.fmt
  nat : letters z.nat 3 = true
  birth : birthB z.birth = true
  sex : sexB z.sex = true
  exp : Dat.prE z.exp 2000 = 0
  opt : extra z.opt = true
  sec : extra z.sec = true
  secF : z.fmt ≠ 1 → z.sec.size = 0
  needLe : need z ≤ wide z.fmt
  secLe : (z.sec.size : Int) ≤ 11
theorem good_of {z : Z} (h : vldE z = 0) : Good z := by
  unfold vldE at h
  by_cases h0 : ¬ (1 ≤ z.fmt ∧ z.fmt ≤ 3)
  · rw [if_pos h0] at h; cases h
  rw [if_neg h0] at h
  by_cases h1 : letters z.kind 2 = false
  · rw [if_pos h1] at h; cases h
  rw [if_neg h1] at h
  by_cases h2 : letters z.state 3 = false
  · rw [if_pos h2] at h; cases h
  rw [if_neg h2] at h
  by_cases h3 : Opt.words 32 z.sur.data.toList = false
  · rw [if_pos h3] at h; cases h
  rw [if_neg h3] at h
  by_cases h4 : z.sur.size = 0
  · rw [if_pos h4] at h; cases h
  rw [if_neg h4] at h
  by_cases h5 : Opt.words 32 z.giv.data.toList = false
  · rw [if_pos h5] at h; cases h
  rw [if_neg h5] at h
  by_cases h6 : z.num.size = 0
  · rw [if_pos h6] at h; cases h
  rw [if_neg h6] at h
  by_cases h7 : plain z.num = false
  · rw [if_pos h7] at h; cases h
  rw [if_neg h7] at h
  by_cases h8 : longest z.fmt < z.num.size
  · rw [if_pos h8] at h; cases h
  rw [if_neg h8] at h
  by_cases h9 : letters z.nat 3 = false
  · rw [if_pos h9] at h; cases h
  rw [if_neg h9] at h
  by_cases h10 : birthB z.birth = false
  · rw [if_pos h10] at h; cases h
  rw [if_neg h10] at h
  by_cases h11 : sexB z.sex = false
  · rw [if_pos h11] at h; cases h
  rw [if_neg h11] at h
  by_cases h12 : Dat.prE z.exp 2000 ≠ 0
  · rw [if_pos h12] at h; cases h
  rw [if_neg h12] at h
  by_cases h13 : extra z.opt = false
  · rw [if_pos h13] at h; cases h
  rw [if_neg h13] at h
  by_cases h14 : extra z.sec = false
  · rw [if_pos h14] at h; cases h
  rw [if_neg h14] at h
  by_cases h15 : z.fmt ≠ 1 ∧ z.sec.size ≠ 0
  · rw [if_pos h15] at h; cases h
  rw [if_neg h15] at h
  by_cases h16 : wide z.fmt < need z
  · rw [if_pos h16] at h; cases h
  rw [if_neg h16] at h
  by_cases h17 : (11 : Int) < z.sec.size
  · rw [if_pos h17] at h; cases h
  rw [if_neg h17] at h
  clear h
  exact ⟨(by apply Classical.byContradiction; exact h0), (by simpa using h1), (by simpa using h2), (by simpa using h3), (h4), (by simpa using h5), (h6), (by simpa using h7), (by omega), (by simpa using h9), (by simpa using h10), (by simpa using h11), (by apply Classical.byContradiction; exact h12), (by simpa using h13), (by simpa using h14), (fun hf => by apply Classical.byContradiction; exact fun hn => h15 ⟨hf, hn⟩), (by omega), (by omega)⟩
theorem Good.vld {z : Z} (h : Good z) : vldE z = 0 := by
  unfold vldE
  rw [if_neg (fun hn => hn h.fmt)]
  rw [if_neg (by rw [h.kind]; decide)]
  rw [if_neg (by rw [h.state]; decide)]
  rw [if_neg (by rw [h.sur]; decide)]
  rw [if_neg (h.sur0)]
  rw [if_neg (by rw [h.giv]; decide)]
  rw [if_neg (h.num0)]
  rw [if_neg (by rw [h.num]; decide)]
  rw [if_neg (by have := h.numLe; omega)]
  rw [if_neg (by rw [h.nat]; decide)]
  rw [if_neg (by rw [h.birth]; decide)]
  rw [if_neg (by rw [h.sex]; decide)]
  rw [if_neg (fun hn => hn h.exp)]
  rw [if_neg (by rw [h.opt]; decide)]
  rw [if_neg (by rw [h.sec]; decide)]
  rw [if_neg (fun hn => hn.2 (h.secF hn.1))]
  rw [if_neg (by have := h.needLe; omega)]
  rw [if_neg (by have := h.secLe; omega)]
theorem Good.numLe20 {z : Z} (h : Good z) : z.num.size ≤ 20 := by
  have := h.numLe; unfold longest at this; split at this
  · omega
  · split at this <;> omega
theorem letters_le {s : ByteArray} {n : Int} (h : letters s n = true) : (s.size : Int) ≤ n := by
  unfold letters at h
  simp only [Bool.and_eq_true, decide_eq_true_eq] at h
  exact h.2.1
theorem birth_size {s : ByteArray} (h : birthB s = true) : s.size = 6 := by
  unfold birthB at h; split at h
  · assumption
  · cases h
theorem prE_size {s : ByteArray} {f : Int} (h : Dat.prE s f = 0) : s.size = 6 := by
  unfold Dat.prE at h
  split at h
  · cases h
  · split at h
    · assumption
    · cases h
theorem Good.optLe {z : Z} (h : Good z) : z.opt.size ≤ 15 := by
  have := h.needLe; unfold need wide at this
  repeat' split at this
  all_goals omega
theorem sex_le {s : ByteArray} (h : sexB s = true) : s.size = 1 := by
  unfold sexB at h
  simp only [Bool.or_eq_true, decide_eq_true_eq] at h
  rcases h with rfl | rfl | rfl <;> rfl
/-- The lines of a zone. -/
noncomputable def bldF (F : Nat) (z : Z) : Nat → List UInt8 :=
  endF F (optF z F (numF z F (midF ⟨0, z, ⟨(Opt.nmV z.sur.data.toList z.giv.data.toList (wd F 2)).toArray⟩, Opt.digS z.birth, Opt.digS z.exp⟩ F fun _ => false)))
noncomputable def bld (z : Z) : List (List UInt8) := asm z.fmt.toNat (bldF z.fmt.toNat z)
noncomputable def bldK (z : Z) : List ByteArray := (bld z).map fun l => ⟨l.toArray⟩
end Zn
theorem endF_wide {f : Nat} {F : Nat → List UInt8} (h : Zn.Wide f F) : Zn.Wide f (endF f F) := Zn.upd_wide h _ _
theorem Zn.bld_wide (F : Nat) (z : Zn.Z) : Zn.Wide F (Zn.bldF F z) := endF_wide (optF_wide (numF_wide (mid_wide _ _ _)))
theorem midF_free (g g' : Nat) (z : Zn.Z) (a b c : ByteArray) (F : Nat) (left : Lit → Bool) : midF ⟨g, z, a, b, c⟩ F left = midF ⟨g', z, a, b, c⟩ F left := rfl
theorem digS_one (s : ByteArray) : (Opt.digS s).size ≤ 1 := by unfold Opt.digS; split <;> exact Nat.le_of_ble_eq_true rfl
theorem empty_is2 (s : ByteArray) : (s.size = 0 → s.toList.isEmpty = true ∧ (!s.toList.isEmpty) = false ∧ s.toList = []) ∧ (s.size ≠ 0 → s.toList.isEmpty = false ∧ (!s.toList.isEmpty) = true ∧ ¬ s.toList = []) := by
  rw [ByteArray.toList_eq, ← Opt.size_len]
  cases s.data.toList with
  | nil => exact ⟨fun _ => ⟨rfl, rfl, rfl⟩, fun h => absurd rfl h⟩
  | cons a b => exact ⟨fun h => (by simp at h), fun _ => ⟨rfl, rfl, by simp⟩⟩
end Go.Proofs.YtelngghecmkipaaGreatDoor
