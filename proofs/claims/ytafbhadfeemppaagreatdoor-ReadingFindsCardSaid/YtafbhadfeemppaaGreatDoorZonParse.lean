/- Chapter 11: what Parse returns, as plain functions; no program in sight. -/
import Derived.Test.YtafbhadfeemppaaGreatDoorZonSheet
import Derived.Test.YtafbhadfeemppaaGreatDoorOptSplit
namespace Go.Proofs.YtafbhadfeemppaaGreatDoor
namespace Zn
open Go.RowKit

/-- The format of lines by their lengths. -/
def shape (L : List (List UInt8)) : Nat :=
  if L.length = 2 ∧ ∀ l ∈ L, l.length = 44 then 3 else if L.length = 2 ∧ ∀ l ∈ L, l.length = 36 then 2 else if L.length = 3 ∧ ∀ l ∈ L, l.length = 30 then 1 else 0
theorem shape_le (L : List (List UInt8)) : shape L ≤ 3 := by unfold shape; repeat' split
                                                             all_goals omega
theorem shape_of {L : List (List UInt8)} (h : shape L ≠ 0) : Shaped (shape L) L := by
  unfold shape at *
  split at h
  · rename_i g; rw [if_pos g]; exact g
  · rename_i g
    rw [if_neg g]
    split at h
    · rename_i g2; rw [if_pos g2]; exact g2
    · rename_i g2
      rw [if_neg g2]
      split at h
      · rename_i g3; rw [if_pos g3]; exact g3
      · exact absurd rfl h
def tr (l : List UInt8) : List UInt8 := Lib.trimRightB l 60
def dg (l : List UInt8) : List UInt8 := [Opt.digit l]
/-- The text of which the composite check digit is made. -/
def comp (f : Nat) (L : List (List UInt8)) : List UInt8 :=
  if f = 1 then (L.getD 0 []).drop 5 ++ (L.getD 1 []).take 7 ++ ((L.getD 1 []).drop 8).take 7 ++ ((L.getD 1 []).drop 18).take 11
  else (L.getD 1 []).take 10 ++ ((L.getD 1 []).drop 13).take 7 ++ ((L.getD 1 []).drop 21).take (wLine f - 22)
/-- Is the digit in one field that of another one? -/
def pok (f : Nat) (L : List (List UInt8)) (p q : Nat) : Bool :=
  decide ((place f q).2.2 = 0) || (decide (p = 3 ∧ fld f L q = [60]) || (decide (p = 11 ∧ tr (fld f L p) = [] ∧ fld f L q = [60]) || decide (fld f L q = dg (fld f L p))))
def pairs : List (Nat × Nat) := [(3, 4), (6, 7), (9, 10), (11, 12)]
def chk (f : Nat) (L : List (List UInt8)) : Bool := pairs.all (fun p => pok f L p.1 p.2) && decide (fld f L 14 = dg (comp f L))
/-- The number and the optional part. -/
def nums (f : Nat) (L : List (List UInt8)) : List UInt8 × List UInt8 × Int :=
  if fld f L 4 ≠ [60] then (tr (fld f L 3), tr (fld f L 11), 0)
  else if (Lib.cut (fld f L 11) [60]).1.length < 2 ∨ (Lib.cut (fld f L 11) [60]).2.2 = false ∨ f = 3 then ([], [], 1)
  else if dg (fld f L 3 ++ (Lib.cut (fld f L 11) [60]).1.dropLast) ≠ (Lib.cut (fld f L 11) [60]).1.drop ((Lib.cut (fld f L 11) [60]).1.length - 1) then ([], [], 13)
  else (fld f L 3 ++ (Lib.cut (fld f L 11) [60]).1.dropLast, tr (Lib.cut (fld f L 11) [60]).2.1, 0)
/-- The zone of lines that pass. -/
noncomputable def prsZ (f : Nat) (L : List (List UInt8)) : Z :=
  ⟨f, ⟨(tr (fld f L 0)).toArray⟩, ⟨(tr (fld f L 1)).toArray⟩, (Opt.splV ⟨(fld f L 2).toArray⟩).1, (Opt.splV ⟨(fld f L 2).toArray⟩).2.1, ⟨(nums f L).1.toArray⟩, ⟨(tr (fld f L 5)).toArray⟩, ⟨(fld f L 6).toArray⟩, ⟨(fld f L 8).toArray⟩, ⟨(fld f L 9).toArray⟩, ⟨(nums f L).2.1.toArray⟩, ⟨(tr (fld f L 13)).toArray⟩⟩
/-- The first error of lines. -/
noncomputable def prsE (L : List (List UInt8)) : Int :=
  if shape L = 0 then 2 else if L.all Opt.valid = false then 12 else if chk (shape L) L = false then 13 else if (nums (shape L) L).2.2 ≠ 0 then (nums (shape L) L).2.2
  else if (Opt.splV ⟨(fld (shape L) L 2).toArray⟩).2.2.2 ≠ 0 then (Opt.splV ⟨(fld (shape L) L 2).toArray⟩).2.2.2 else vldE (prsZ (shape L) L)
noncomputable def prsV (L : List (List UInt8)) : Z := if prsE L = 0 then prsZ (shape L) L else Z.zero

theorem trimB_nil (l : List UInt8) : (Lib.trimB l 60).isEmpty = decide (tr l = []) := by
  have h1 : (Lib.trimB l 60).isEmpty = l.all (· == 60) := by
    unfold Lib.trimB Lib.trimLeftB Lib.trimRightB
    rw [dropWhile_all, List.all_reverse, all_dropWhile, List.all_reverse]
  have h2 : (tr l).isEmpty = l.all (· == 60) := by
    unfold tr Lib.trimRightB
    rw [List.isEmpty_reverse, dropWhile_all, List.all_reverse]
  rw [h1, ← h2]
  cases tr l <;> rfl
theorem fld_valid (f : Nat) (L : List (List UInt8)) (h : L.all Opt.valid = true) (i : Nat) : Opt.valid (fld f L i) = true := by
  unfold fld
  have h1 : Opt.valid (L.getD (place f i).1 []) = true := by
    rw [List.getD_eq_getElem?_getD]
    cases hq : L[(place f i).1]? with
    | none => rfl
    | some x => exact List.all_eq_true.1 h x (List.mem_of_getElem? hq)
  exact List.all_eq_true.2 fun x hx => List.all_eq_true.1 h1 x (List.mem_of_mem_drop (List.mem_of_mem_take hx))
end Zn
end Go.Proofs.YtafbhadfeemppaaGreatDoor
