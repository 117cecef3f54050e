/- Chapter 12: several texts in one (RegInv, ZonAsm, ZonMap, ZonLoop, ZonBld, ZonSmp). -/
import Derived.Test.YtafbhadfeemppaaGreatDoorUtil
import Derived.RegionTactic
import Derived.Deep.RegionWith
import Derived.Test.YtafbhadfeemppaaGreatDoorZonGP
import Derived.Maps.Own
import Derived.Maps.RangeWalk
import Derived.Maps.StringElems
import Derived.Maps.Views
import Derived.Maps.OwnSet
import Derived.Test.YtafbhadfeemppaaGreatDoorZonLines
import Derived.Test.YtafbhadfeemppaaGreatDoorZonSheet2
import Derived.Test.YtafbhadfeemppaaGreatDoorZonParse
namespace Go.Proofs.YtafbhadfeemppaaGreatDoor
open Go.RowKit

section
variable {P : Program} {ops : Array Oper} {Q : Exit → Act → World → Prop}

end
end Go.Proofs.YtafbhadfeemppaaGreatDoor

namespace Go.Proofs.YtafbhadfeemppaaGreatDoor
open Go.RowKit
namespace Zn
/-- The fields of each line, in their order. -/
def order (f : Nat) : List (List Nat) := if f = 3 then [[0, 1, 2], [3, 4, 5, 6, 7, 8, 9, 10, 11, 12, 14]] else if f = 2 then [[0, 1, 2], [3, 4, 5, 6, 7, 8, 9, 10, 11, 14]] else [[0, 1, 3, 4, 11], [6, 7, 8, 9, 10, 5, 13, 14], [2]]
def wd (f i : Nat) : Nat := (place f i).2.2
/-- Texts of the fields, each as wide as its field. -/
def Wide (f : Nat) (F : Nat → List UInt8) : Prop := ∀ i, (F i).length = wd f i
def asm (f : Nat) (F : Nat → List UInt8) : List (List UInt8) := (order f).map fun o => (o.map F).flatten
/-- One text replaced. -/
def upd (F : Nat → List UInt8) (i : Nat) (t : List UInt8) : Nat → List UInt8 := fun j => if j = i then t else F j
/-- Where a field stands in its line. -/
theorem spot (f : Nat) (hf : 1 ≤ f ∧ f ≤ 3) (i : Nat) (hi : i < 15) : wd f i = 0 ∧ place f i = (0, 0, 0) ∨ ∃ pre post, (order f)[(place f i).1]? = some (pre ++ i :: post) ∧ (pre.map (wd f)).sum = (place f i).2.1 ∧ i ∉ pre ∧ i ∉ post ∧ ∀ k, k ≠ (place f i).1 → ∀ o, (order f)[k]? = some o → i ∉ o := by
  have h3 : f = 1 ∨ f = 2 ∨ f = 3 := by omega
  have h15 : i = 0 ∨ i = 1 ∨ i = 2 ∨ i = 3 ∨ i = 4 ∨ i = 5 ∨ i = 6 ∨ i = 7 ∨ i = 8 ∨ i = 9 ∨ i = 10 ∨ i = 11 ∨ i = 12 ∨ i = 13 ∨ i = 14 := by omega
  have key : ∀ (O : List (List Nat)) (n m : Nat), (∀ k, k < O.length → k ≠ n → m ∉ O.getD k []) → ∀ k, k ≠ n → ∀ o, O[k]? = some o → m ∉ o := fun O n m h k hk o ho => by
    have hl := (List.getElem?_eq_some_iff.1 ho).1
    have := h k hl hk
    rwa [List.getD_eq_getElem?_getD, ho] at this
  rcases h3 with rfl | rfl | rfl
  · rcases h15 with rfl | rfl | rfl | rfl | rfl | rfl | rfl | rfl | rfl | rfl | rfl | rfl | rfl | rfl | rfl
    · exact .inr ⟨[], [1, 3, 4, 11], rfl, rfl, by decide, by decide, key _ _ _ (by decide)⟩
    · exact .inr ⟨[0], [3, 4, 11], rfl, rfl, by decide, by decide, key _ _ _ (by decide)⟩
    · exact .inr ⟨[], [], rfl, rfl, by decide, by decide, key _ _ _ (by decide)⟩
    · exact .inr ⟨[0, 1], [4, 11], rfl, rfl, by decide, by decide, key _ _ _ (by decide)⟩
    · exact .inr ⟨[0, 1, 3], [11], rfl, rfl, by decide, by decide, key _ _ _ (by decide)⟩
    · exact .inr ⟨[6, 7, 8, 9, 10], [13, 14], rfl, rfl, by decide, by decide, key _ _ _ (by decide)⟩
    · exact .inr ⟨[], [7, 8, 9, 10, 5, 13, 14], rfl, rfl, by decide, by decide, key _ _ _ (by decide)⟩
    · exact .inr ⟨[6], [8, 9, 10, 5, 13, 14], rfl, rfl, by decide, by decide, key _ _ _ (by decide)⟩
    · exact .inr ⟨[6, 7], [9, 10, 5, 13, 14], rfl, rfl, by decide, by decide, key _ _ _ (by decide)⟩
    · exact .inr ⟨[6, 7, 8], [10, 5, 13, 14], rfl, rfl, by decide, by decide, key _ _ _ (by decide)⟩
    · exact .inr ⟨[6, 7, 8, 9], [5, 13, 14], rfl, rfl, by decide, by decide, key _ _ _ (by decide)⟩
    · exact .inr ⟨[0, 1, 3, 4], [], rfl, rfl, by decide, by decide, key _ _ _ (by decide)⟩
    · exact .inl ⟨rfl, rfl⟩
    · exact .inr ⟨[6, 7, 8, 9, 10, 5], [14], rfl, rfl, by decide, by decide, key _ _ _ (by decide)⟩
    · exact .inr ⟨[6, 7, 8, 9, 10, 5, 13], [], rfl, rfl, by decide, by decide, key _ _ _ (by decide)⟩
  · rcases h15 with rfl | rfl | rfl | rfl | rfl | rfl | rfl | rfl | rfl | rfl | rfl | rfl | rfl | rfl | rfl
    · exact .inr ⟨[], [1, 2], rfl, rfl, by decide, by decide, key _ _ _ (by decide)⟩
    · exact .inr ⟨[0], [2], rfl, rfl, by decide, by decide, key _ _ _ (by decide)⟩
    · exact .inr ⟨[0, 1], [], rfl, rfl, by decide, by decide, key _ _ _ (by decide)⟩
    · exact .inr ⟨[], [4, 5, 6, 7, 8, 9, 10, 11, 14], rfl, rfl, by decide, by decide, key _ _ _ (by decide)⟩
    · exact .inr ⟨[3], [5, 6, 7, 8, 9, 10, 11, 14], rfl, rfl, by decide, by decide, key _ _ _ (by decide)⟩
    · exact .inr ⟨[3, 4], [6, 7, 8, 9, 10, 11, 14], rfl, rfl, by decide, by decide, key _ _ _ (by decide)⟩
    · exact .inr ⟨[3, 4, 5], [7, 8, 9, 10, 11, 14], rfl, rfl, by decide, by decide, key _ _ _ (by decide)⟩
    · exact .inr ⟨[3, 4, 5, 6], [8, 9, 10, 11, 14], rfl, rfl, by decide, by decide, key _ _ _ (by decide)⟩
    · exact .inr ⟨[3, 4, 5, 6, 7], [9, 10, 11, 14], rfl, rfl, by decide, by decide, key _ _ _ (by decide)⟩
    · exact .inr ⟨[3, 4, 5, 6, 7, 8], [10, 11, 14], rfl, rfl, by decide, by decide, key _ _ _ (by decide)⟩
    · exact .inr ⟨[3, 4, 5, 6, 7, 8, 9], [11, 14], rfl, rfl, by decide, by decide, key _ _ _ (by decide)⟩
    · exact .inr ⟨[3, 4, 5, 6, 7, 8, 9, 10], [14], rfl, rfl, by decide, by decide, key _ _ _ (by decide)⟩
    · exact .inl ⟨rfl, rfl⟩
    · exact .inl ⟨rfl, rfl⟩
    · exact .inr ⟨[3, 4, 5, 6, 7, 8, 9, 10, 11], [], rfl, rfl, by decide, by decide, key _ _ _ (by decide)⟩
  · rcases h15 with rfl | rfl | rfl | rfl | rfl | rfl | rfl | rfl | rfl | rfl | rfl | rfl | rfl | rfl | rfl
    · exact .inr ⟨[], [1, 2], rfl, rfl, by decide, by decide, key _ _ _ (by decide)⟩
    · exact .inr ⟨[0], [2], rfl, rfl, by decide, by decide, key _ _ _ (by decide)⟩
    · exact .inr ⟨[0, 1], [], rfl, rfl, by decide, by decide, key _ _ _ (by decide)⟩
    · exact .inr ⟨[], [4, 5, 6, 7, 8, 9, 10, 11, 12, 14], rfl, rfl, by decide, by decide, key _ _ _ (by decide)⟩
    · exact .inr ⟨[3], [5, 6, 7, 8, 9, 10, 11, 12, 14], rfl, rfl, by decide, by decide, key _ _ _ (by decide)⟩
    · exact .inr ⟨[3, 4], [6, 7, 8, 9, 10, 11, 12, 14], rfl, rfl, by decide, by decide, key _ _ _ (by decide)⟩
    · exact .inr ⟨[3, 4, 5], [7, 8, 9, 10, 11, 12, 14], rfl, rfl, by decide, by decide, key _ _ _ (by decide)⟩
    · exact .inr ⟨[3, 4, 5, 6], [8, 9, 10, 11, 12, 14], rfl, rfl, by decide, by decide, key _ _ _ (by decide)⟩
    · exact .inr ⟨[3, 4, 5, 6, 7], [9, 10, 11, 12, 14], rfl, rfl, by decide, by decide, key _ _ _ (by decide)⟩
    · exact .inr ⟨[3, 4, 5, 6, 7, 8], [10, 11, 12, 14], rfl, rfl, by decide, by decide, key _ _ _ (by decide)⟩
    · exact .inr ⟨[3, 4, 5, 6, 7, 8, 9], [11, 12, 14], rfl, rfl, by decide, by decide, key _ _ _ (by decide)⟩
    · exact .inr ⟨[3, 4, 5, 6, 7, 8, 9, 10], [12, 14], rfl, rfl, by decide, by decide, key _ _ _ (by decide)⟩
    · exact .inr ⟨[3, 4, 5, 6, 7, 8, 9, 10, 11], [14], rfl, rfl, by decide, by decide, key _ _ _ (by decide)⟩
    · exact .inl ⟨rfl, rfl⟩
    · exact .inr ⟨[3, 4, 5, 6, 7, 8, 9, 10, 11, 12], [], rfl, rfl, by decide, by decide, key _ _ _ (by decide)⟩
theorem flat_len {f : Nat} {F : Nat → List UInt8} (h : Wide f F) : ∀ l : List Nat, (l.map F).flatten.length = (l.map (wd f)).sum
  | [] => rfl
  | i :: r => by rw [List.map_cons, List.flatten_cons, List.length_append, flat_len h r, h i, List.map_cons, List.sum_cons]
theorem asm_len (f : Nat) (hf : 1 ≤ f ∧ f ≤ 3) (F : Nat → List UInt8) (h : Wide f F) : Shaped f (asm f F) := by
  have h3 : f = 1 ∨ f = 2 ∨ f = 3 := by omega
  refine ⟨?_, fun l hl => ?_⟩
  · unfold asm
    rw [List.length_map]
    rcases h3 with rfl | rfl | rfl <;> rfl
  · obtain ⟨o, ho, rfl⟩ := List.mem_map.1 hl
    rw [flat_len h o]
    clear hl
    revert o
    rcases h3 with rfl | rfl | rfl <;> decide
theorem upd_wide {f : Nat} {F : Nat → List UInt8} (h : Wide f F) (i : Nat) (t : List UInt8) : Wide f (upd F i (wide_ t (wd f i))) := fun j => by
  unfold upd
  split
  · rename_i e; rw [wide_len, e]
  · exact h j
end Zn
end Go.Proofs.YtafbhadfeemppaaGreatDoor

namespace Go.Proofs.YtafbhadfeemppaaGreatDoor
open Go.RowKit Go.Maps

/-- What the map is made of. -/
structure MP where
  g : Nat
  z : Zn.Z
  nm : ByteArray
  d7 : ByteArray
  d10 : ByteArray
def mslot (i : Nat) : Nat := [0, 59, 60, 0, 61, 62, 0, 63, 0, 64, 65, 0, 66, 67, 0, 68, 69, 70, 0, 71, 72, 0, 73, 74, 0, 75, 76, 77, 0, 78, 79, 0, 0, 0].getD i 0
def misval (i : Nat) : Bool := [1, 2, 4, 5, 7, 9, 10, 12, 13, 15, 16, 17, 19, 20, 22, 23, 25, 26, 27, 29, 30].contains i
def mval (m : MP) (i : Nat) : Value := match i with
  | 1 => .pointer (some ⟨m.g, 1, none⟩)
  | 2 => .string m.z.kind
  | 4 => .pointer (some ⟨m.g, 2, none⟩)
  | 5 => .string m.z.state
  | 7 => .string m.nm
  | 9 => .pointer (some ⟨m.g, 6, none⟩)
  | 10 => .string m.z.nat
  | 12 => .pointer (some ⟨m.g, 7, none⟩)
  | 13 => .string m.z.birth
  | 15 => .pointer (some ⟨m.g, 7, none⟩)
  | 16 => .string m.z.birth
  | 17 => .string m.d7
  | 19 => .pointer (some ⟨m.g, 8, none⟩)
  | 20 => .string m.z.sex
  | 22 => .pointer (some ⟨m.g, 9, none⟩)
  | 23 => .string m.z.exp
  | 25 => .pointer (some ⟨m.g, 9, none⟩)
  | 26 => .string m.z.exp
  | 27 => .string m.d10
  | 29 => .pointer (some ⟨m.g, 11, none⟩)
  | 30 => .string m.z.sec
  | _ => undef
/-- The key that an operation inserts. -/
def mkey (i : Nat) : Option Int := match i with
  | 3 => some 0
  | 6 => some 1
  | 8 => some 2
  | 11 => some 5
  | 14 => some 6
  | 18 => some 7
  | 21 => some 8
  | 24 => some 9
  | 28 => some 10
  | 31 => some 13
  | _ => none
def mtxt (m : MP) (i : Nat) : ByteArray := match i with
  | 3 => m.z.kind
  | 6 => m.z.state
  | 8 => m.nm
  | 11 => m.z.nat
  | 14 => m.z.birth
  | 18 => m.d7
  | 21 => m.z.sex
  | 24 => m.z.exp
  | 28 => m.d10
  | 31 => m.z.sec
  | _ => ⟨#[]⟩
theorem mslot_inj (i j : Nat) (hi : misval i = true) (hj : misval j = true) (h : mslot i = mslot j) : i = j := by
  have hk : ([1, 2, 4, 5, 7, 9, 10, 12, 13, 15, 16, 17, 19, 20, 22, 23, 25, 26, 27, 29, 30].all fun i => [1, 2, 4, 5, 7, 9, 10, 12, 13, 15, 16, 17, 19, 20, 22, 23, 25, 26, 27, 29, 30].all fun j => decide (mslot i = mslot j → i = j)) = true := by kernel_rfl
  have h1 := List.all_eq_true.1 hk i (by simpa [misval] using hi)
  have h2 := List.all_eq_true.1 h1 j (by simpa [misval] using hj)
  exact (of_decide_eq_true h2) h
theorem mslot_in (i : Nat) (hi : misval i = true) : 58 < mslot i ∧ mslot i < 80 := by
  have hk : ([1, 2, 4, 5, 7, 9, 10, 12, 13, 15, 16, 17, 19, 20, 22, 23, 25, 26, 27, 29, 30].all fun i => decide (58 < mslot i ∧ mslot i < 80)) = true := by kernel_rfl
  exact of_decide_eq_true (List.all_eq_true.1 hk i (by simpa [misval] using hi))
abbrev opsK : List Nat := [3, 6, 8, 11, 14, 18, 21, 24, 28, 31]
/-- The state of the region: which operations are done. -/
structure MInv (m : MP) (a0 : Act) (w0 : World) (mb : Nat) (L : Nat → Bool) (a : Act) (w : World) : Prop where
  size : a.tmps.size = a0.tmps.size
  defs : a.defers = a0.defers
  same : ∀ j, j < 58 ∨ 81 < j → a.tmps[j]? = a0.tmps[j]?
  vals : ∀ i, misval i = true → L i = true → a.tmps[mslot i]? = some (mval m i)
  below : Below w0.heap.size w0 w
  at0 : L 0 = true → a.tmps[58]? = some (.map (some mb)) ∧ w0.heap.size ≤ mb
  at32 : L 32 = true → a.tmps[80]? = some (.map (some mb))
  map : L 0 = true → ∃ (D : DataW Unit) (n : Nat), w.ownsMap Tryz.prog 3 (plainElem Tryz.prog 9) mb n D ∧ n ≤ (opsK.filter L).length ∧
    (∀ k : Int, Maps.has D (.int .i64 k) = opsK.any fun i => L i && decide (mkey i = some k)) ∧ ∀ i k, mkey i = some k → L i = true → ∀ zd, D.atKey (.int .i64 k) zd = .lit (.string (mtxt m i).data.toList)
  none_ : L 0 = false → ∀ i ∈ opsK, L i = false
  d32 : L 32 = true → ∀ j, j < 32 → L j = true

theorem or_self {L : Nat → Bool} {i : Nat} (j : Nat) (h : (L j || j == i) = true) (hne : j ≠ i) : L j = true := by
  rcases Bool.or_eq_true_iff.1 h with h | h
  · exact h
  · exact absurd (by simpa using h) hne
/-- A quiet operation. -/
theorem MInv.val {m : MP} {a0 a : Act} {w0 w : World} {mb : Nat} {L : Nat → Bool} (h : MInv m a0 w0 mb L a w) (hs0 : 82 ≤ a0.tmps.size) (i : Nat) (hi : misval i = true) (w' : World) (hb : Below w.heap.size w w') (h0 : i ≠ 0) (h32 : i ≠ 32) (hk : i ∉ opsK) :
    MInv m a0 w0 mb (fun j => L j || j == i) (a.put (some (mslot i)) (mval m i)) w' := by
  have hin := mslot_in i hi
  have hput : ∀ j, (a.put (some (mslot i)) (mval m i)).tmps[j]? = if mslot i = j then some (mval m i) else a.tmps[j]? := fun j => by
    simp only [Act.put, Array.getElem?_setIfInBounds]
    split
    · rename_i e; subst e; rw [if_pos (by have := h.size; omega)]
    · rfl
  have e0 : ∀ n, n ≠ i → ((L n || n == i) = true) → L n = true := fun n hn hh => or_self n hh hn
  refine ⟨by simp only [Act.put, Array.size_setIfInBounds]; exact h.size, h.defs, fun j hj => ?_, fun j hj hL => ?_, h.below.trans (hb.mono h.below.size), fun hL => ?_, fun hL => ?_, fun hL => ?_, fun hL j hj => ?_, fun hL j hj => by rw [h.d32 (e0 32 (fun e => h32 e.symm) hL) j hj]; rfl⟩
  · rw [hput, if_neg (by omega)]; exact h.same j hj
  · rw [hput]
    split
    · rename_i e; rw [mslot_inj i j hi hj e]
    · rename_i e; exact h.vals j hj (e0 j (fun e' => e (by rw [e'])) hL)
  · rw [hput, if_neg (by omega)]; exact h.at0 (e0 0 (fun e => h0 e.symm) hL)
  · rw [hput, if_neg (by omega)]; exact h.at32 (e0 32 (fun e => h32 e.symm) hL)
  · obtain ⟨D, n, d1, d2, d3, d4⟩ := h.map (e0 0 (fun e => h0 e.symm) hL)
    have hf : ∀ j ∈ opsK, (L j || j == i) = L j := fun j hj => by
      have : (j == i) = false := by rw [beq_eq_false_iff_ne]; exact fun e => hk (e ▸ hj)
      rw [this, Bool.or_false]
    refine ⟨D, n, d1.kept (row := none) ⟨hb.os, hb.tape, hb.output, hb.size, fun k hk _ => hb.block k hk⟩ (by simp), ?_, fun k => ?_, fun j k hjk hL' => d4 j k hjk (e0 j (fun e => hk ?_) hL')⟩
    · rw [List.filter_congr hf]; exact d2
    · rw [d3 k]
      rw [Bool.eq_iff_iff, List.any_eq_true, List.any_eq_true]
      exact ⟨fun ⟨j, hj, hh⟩ => ⟨j, hj, by rw [hf j hj]; exact hh⟩, fun ⟨j, hj, hh⟩ => ⟨j, hj, by rw [hf j hj] at hh; exact hh⟩⟩
    · subst e
      unfold mkey at hjk
      split at hjk <;> first | (cases hjk; done) | decide
  · have hL' : L 0 = false := by
      have := Bool.or_eq_false_iff.1 hL; exact this.1
    have hn := h.none_ hL' j hj
    have : (j == i) = false := by rw [beq_eq_false_iff_ne]; exact fun e => hk (e ▸ hj)
    show (L j || j == i) = false
    rw [hn, this]; rfl
theorem MInv.start (m : MP) (a0 : Act) (w0 : World) : MInv m a0 w0 0 (fun _ => false) a0 w0.drew :=
  ⟨rfl, rfl, fun _ _ => rfl, (fun _ _ h => absurd h (by simp)), (Below.refl _ _).drew, (fun h => absurd h (by simp)), (fun h => absurd h (by simp)), (fun h => absurd h (by simp)), fun _ _ _ => rfl, (fun h => absurd h (by simp))⟩
end Go.Proofs.YtafbhadfeemppaaGreatDoor

namespace Go.Proofs.YtafbhadfeemppaaGreatDoor
open Go.RowKit

/-- The fields' texts, while the keys of 'left' are still to come. -/
noncomputable def midF (m : MP) (F : Nat) (left : Lit → Bool) (i : Nat) : List UInt8 :=
  match opsK.find? fun o => decide (mkey o = some (i : Int)) with
  | some o => if left (.int .i64 i) = true then List.replicate (Zn.wd F i) 60 else Zn.wide_ (mtxt m o).data.toList (Zn.wd F i)
  | none => List.replicate (Zn.wd F i) 60
theorem mid_wide (m : MP) (F : Nat) (left : Lit → Bool) : Zn.Wide F (midF m F left) := fun i => by
  unfold midF
  split
  · split
    · rw [List.length_replicate]
    · rw [Zn.wide_len]
  · rw [List.length_replicate]
/-- The sheet in the loop: its lines, and their row, lie below what the loop goes by. -/
def BM (w : World) (z : Zn.Z) (g5 g8 F bnd : Nat) (Fn : Nat → List UInt8) (W : World) : Prop :=
  ZBox W w.heap.size z ∧ LayAt W g5 (Zn.lay F) ∧ Below w.heap.size w W ∧ ∃ rows, SheetAt W (g8 + 1) g8 F rows ∧ Ln.txt rows = Zn.asm F Fn ∧ (∀ k ∈ rows.map (·.1), k < bnd) ∧ (∀ v, SheetIs W g8 (Zn.lay F) v → ∀ b, v.ownBlock = some b → b < bnd) ∧ g5 < g8 ∧ w.heap.size < g5 ∧ g8 < bnd
theorem SheetAt.lt {W : World} {base g F : Nat} {rows : List Ln} (h : SheetAt W base g F rows) : g < W.heap.size := by
  obtain ⟨v, h1, _⟩ := h; exact h1.lt
theorem BM.later {w W W' : World} {z : Zn.Z} {g5 g8 F bnd : Nat} {Fn : Nat → List UInt8} (h : BM w z g5 g8 F bnd Fn W) (hb : Below W.heap.size W W') : BM w z g5 g8 F bnd Fn W' := by
  obtain ⟨h1, h2, h3, rows, h4, h5, h6, h7, h8⟩ := h
  exact ⟨h1.later hb, h2.later hb, h3.trans (hb.mono h3.size), rows, h4.later hb, h5, h6, fun v hv => h7 v ((hb.block g8 h4.lt).symm.trans hv), h8⟩
/-- The fields once the number is put. -/
noncomputable def numF (z : Zn.Z) (f : Nat) (F : Nat → List UInt8) : Nat → List UInt8 :=
  if 9 < z.num.size then Zn.upd (Zn.upd F 3 (Zn.wide_ (z.num.extract 0 9).data.toList (Zn.wd f 3))) 11 (Zn.wide_ (z.num.extract 9 z.num.size ++ Opt.digS z.num ++ ⟨#[60]⟩ ++ z.opt).data.toList (Zn.wd f 11))
  else Zn.upd (Zn.upd (Zn.upd F 3 (Zn.wide_ z.num.data.toList (Zn.wd f 3))) 4 (Zn.wide_ (Opt.digS ⟨(Zn.upd F 3 (Zn.wide_ z.num.data.toList (Zn.wd f 3)) 3).toArray⟩).data.toList (Zn.wd f 4))) 11 (Zn.wide_ z.opt.data.toList (Zn.wd f 11))
noncomputable def optF (z : Zn.Z) (f : Nat) (F : Nat → List UInt8) : Nat → List UInt8 :=
  if z.opt.size = 0 then F else Zn.upd F 12 (Zn.wide_ (Opt.digS ⟨(F 11).toArray⟩).data.toList (Zn.wd f 12))
noncomputable def endF (f : Nat) (F : Nat → List UInt8) : Nat → List UInt8 := Zn.upd F 14 (Zn.wide_ (Opt.digS ⟨(Zn.comp f (Zn.asm f F)).toArray⟩).data.toList (Zn.wd f 14))
theorem numF_wide {z : Zn.Z} {f : Nat} {F : Nat → List UInt8} (h : Zn.Wide f F) : Zn.Wide f (numF z f F) := by
  unfold numF; split
  · exact Zn.upd_wide (Zn.upd_wide h _ _) _ _
  · exact Zn.upd_wide (Zn.upd_wide (Zn.upd_wide h _ _) _ _) _ _
theorem optF_wide {z : Zn.Z} {f : Nat} {F : Nat → List UInt8} (h : Zn.Wide f F) : Zn.Wide f (optF z f F) := by
  unfold optF; split
  · exact h
  · exact Zn.upd_wide h _ _
theorem arr_size (l : List UInt8) : (⟨l.toArray⟩ : ByteArray).size = l.length := by simp [ByteArray.size]
end Go.Proofs.YtafbhadfeemppaaGreatDoor

namespace Go.Proofs.YtafbhadfeemppaaGreatDoor
namespace Zn
/-- What the first error 0 says. -/
structure Good (z : Z) : Prop where
  fmt : 1 ≤ z.fmt ∧ z.fmt ≤ 3
  kind : letters z.kind 2 = true
  state : letters z.state 3 = true
  sur : Opt.words 32 z.sur.data.toList = true
  sur0 : z.sur.size ≠ 0
  giv : Opt.words 32 z.giv.data.toList = true
  num0 : z.num.size ≠ 0
  num : plain z.num = true
  numLe : (z.num.size : Int) ≤ longest z.fmt
  nat : letters z.nat 3 = true
  birth : birthB z.birth = true
  sex : sexB z.sex = true
  exp : Dat.prE z.exp 2000 = 0
  opt : extra z.opt = true
  sec : extra z.sec = true
  secF : z.fmt ≠ 1 → z.sec.size = 0
  needLe : need z ≤ wide z.fmt
  secLe : (z.sec.size : Int) ≤ 11
theorem good_of {z : Z} (h : vldE z = 0) : Good z := by
  unfold vldE at h
  by_cases h0 : ¬ (1 ≤ z.fmt ∧ z.fmt ≤ 3)
  · rw [if_pos h0] at h; cases h
  rw [if_neg h0] at h
  by_cases h1 : letters z.kind 2 = false
  · rw [if_pos h1] at h; cases h
  rw [if_neg h1] at h
  by_cases h2 : letters z.state 3 = false
  · rw [if_pos h2] at h; cases h
  rw [if_neg h2] at h
  by_cases h3 : Opt.words 32 z.sur.data.toList = false
  · rw [if_pos h3] at h; cases h
  rw [if_neg h3] at h
  by_cases h4 : z.sur.size = 0
  · rw [if_pos h4] at h; cases h
  rw [if_neg h4] at h
  by_cases h5 : Opt.words 32 z.giv.data.toList = false
  · rw [if_pos h5] at h; cases h
  rw [if_neg h5] at h
  by_cases h6 : z.num.size = 0
  · rw [if_pos h6] at h; cases h
  rw [if_neg h6] at h
  by_cases h7 : plain z.num = false
  · rw [if_pos h7] at h; cases h
  rw [if_neg h7] at h
  by_cases h8 : longest z.fmt < z.num.size
  · rw [if_pos h8] at h; cases h
  rw [if_neg h8] at h
  by_cases h9 : letters z.nat 3 = false
  · rw [if_pos h9] at h; cases h
  rw [if_neg h9] at h
  by_cases h10 : birthB z.birth = false
  · rw [if_pos h10] at h; cases h
  rw [if_neg h10] at h
  by_cases h11 : sexB z.sex = false
  · rw [if_pos h11] at h; cases h
  rw [if_neg h11] at h
  by_cases h12 : Dat.prE z.exp 2000 ≠ 0
  · rw [if_pos h12] at h; cases h
  rw [if_neg h12] at h
  by_cases h13 : extra z.opt = false
  · rw [if_pos h13] at h; cases h
  rw [if_neg h13] at h
  by_cases h14 : extra z.sec = false
  · rw [if_pos h14] at h; cases h
  rw [if_neg h14] at h
  by_cases h15 : z.fmt ≠ 1 ∧ z.sec.size ≠ 0
  · rw [if_pos h15] at h; cases h
  rw [if_neg h15] at h
  by_cases h16 : wide z.fmt < need z
  · rw [if_pos h16] at h; cases h
  rw [if_neg h16] at h
  by_cases h17 : (11 : Int) < z.sec.size
  · rw [if_pos h17] at h; cases h
  rw [if_neg h17] at h
  clear h
  exact ⟨(by apply Classical.byContradiction; exact h0), (by simpa using h1), (by simpa using h2), (by simpa using h3), (h4), (by simpa using h5), (h6), (by simpa using h7), (by omega), (by simpa using h9), (by simpa using h10), (by simpa using h11), (by apply Classical.byContradiction; exact h12), (by simpa using h13), (by simpa using h14), (fun hf => by apply Classical.byContradiction; exact fun hn => h15 ⟨hf, hn⟩), (by omega), (by omega)⟩
theorem Good.vld {z : Z} (h : Good z) : vldE z = 0 := by
  unfold vldE
  rw [if_neg (fun hn => hn h.fmt)]
  rw [if_neg (by rw [h.kind]; decide)]
  rw [if_neg (by rw [h.state]; decide)]
  rw [if_neg (by rw [h.sur]; decide)]
  rw [if_neg (h.sur0)]
  rw [if_neg (by rw [h.giv]; decide)]
  rw [if_neg (h.num0)]
  rw [if_neg (by rw [h.num]; decide)]
  rw [if_neg (by have := h.numLe; omega)]
  rw [if_neg (by rw [h.nat]; decide)]
  rw [if_neg (by rw [h.birth]; decide)]
  rw [if_neg (by rw [h.sex]; decide)]
  rw [if_neg (fun hn => hn h.exp)]
  rw [if_neg (by rw [h.opt]; decide)]
  rw [if_neg (by rw [h.sec]; decide)]
  rw [if_neg (fun hn => hn.2 (h.secF hn.1))]
  rw [if_neg (by have := h.needLe; omega)]
  rw [if_neg (by have := h.secLe; omega)]
theorem Good.numLe20 {z : Z} (h : Good z) : z.num.size ≤ 20 := by
  have := h.numLe; unfold longest at this; split at this
  · omega
  · split at this <;> omega
theorem letters_le {s : ByteArray} {n : Int} (h : letters s n = true) : (s.size : Int) ≤ n := by
  unfold letters at h
  simp only [Bool.and_eq_true, decide_eq_true_eq] at h
  exact h.2.1
theorem birth_size {s : ByteArray} (h : birthB s = true) : s.size = 6 := by
  unfold birthB at h; split at h
  · assumption
  · cases h
theorem prE_size {s : ByteArray} {f : Int} (h : Dat.prE s f = 0) : s.size = 6 := by
  unfold Dat.prE at h
  split at h
  · cases h
  · split at h
    · assumption
    · cases h
theorem Good.optLe {z : Z} (h : Good z) : z.opt.size ≤ 15 := by
  have := h.needLe; unfold need wide at this
  repeat' split at this
  all_goals omega
theorem sex_le {s : ByteArray} (h : sexB s = true) : s.size = 1 := by
  unfold sexB at h
  simp only [Bool.or_eq_true, decide_eq_true_eq] at h
  rcases h with rfl | rfl | rfl <;> rfl
/-- The lines of a zone. -/
noncomputable def bldF (F : Nat) (z : Z) : Nat → List UInt8 :=
  endF F (optF z F (numF z F (midF ⟨0, z, ⟨(Opt.nmV z.sur.data.toList z.giv.data.toList (wd F 2)).toArray⟩, Opt.digS z.birth, Opt.digS z.exp⟩ F fun _ => false)))
noncomputable def bld (z : Z) : List (List UInt8) := asm z.fmt.toNat (bldF z.fmt.toNat z)
noncomputable def bldK (z : Z) : List ByteArray := (bld z).map fun l => ⟨l.toArray⟩
end Zn
theorem endF_wide {f : Nat} {F : Nat → List UInt8} (h : Zn.Wide f F) : Zn.Wide f (endF f F) := Zn.upd_wide h _ _
theorem Zn.bld_wide (F : Nat) (z : Zn.Z) : Zn.Wide F (Zn.bldF F z) := endF_wide (optF_wide (numF_wide (mid_wide _ _ _)))
theorem digS_one (s : ByteArray) : (Opt.digS s).size ≤ 1 := by unfold Opt.digS; split <;> exact Nat.le_of_ble_eq_true rfl
theorem empty_is2 (s : ByteArray) : (s.size = 0 → s.toList.isEmpty = true ∧ (!s.toList.isEmpty) = false ∧ s.toList = []) ∧ (s.size ≠ 0 → s.toList.isEmpty = false ∧ (!s.toList.isEmpty) = true ∧ ¬ s.toList = []) := by
  rw [ByteArray.toList_eq, ← Opt.size_len]
  cases s.data.toList with
  | nil => exact ⟨fun _ => ⟨rfl, rfl, rfl⟩, fun h => absurd rfl h⟩
  | cons a b => exact ⟨fun h => (by simp at h), fun _ => ⟨rfl, rfl, by simp⟩⟩
end Go.Proofs.YtafbhadfeemppaaGreatDoor

namespace Go.Proofs.YtafbhadfeemppaaGreatDoor
namespace Zn
abbrev smp : Z := ⟨3, ⟨#[80]⟩, ⟨#[85, 84, 79]⟩, ⟨#[69, 82, 73, 75, 83, 83, 79, 78]⟩, ⟨#[65, 78, 78, 65, 32, 77, 65, 82, 73, 65]⟩, ⟨#[76, 56, 57, 56, 57, 48, 50, 67]⟩, ⟨#[85, 84, 79]⟩, ⟨#[54, 57, 48, 56, 48, 54]⟩, ⟨#[70]⟩, ⟨#[57, 52, 48, 54, 50, 51]⟩, ⟨#[90, 69, 49, 56, 52, 50, 50, 54, 66]⟩, ⟨#[]⟩⟩
abbrev smp0 : ByteArray := ⟨#[80, 60, 85, 84, 79, 69, 82, 73, 75, 83, 83, 79, 78, 60, 60, 65, 78, 78, 65, 60, 77, 65, 82, 73, 65, 60, 60, 60, 60, 60, 60, 60, 60, 60, 60, 60, 60, 60, 60, 60, 60, 60, 60, 60]⟩
abbrev smp1 : ByteArray := ⟨#[76, 56, 57, 56, 57, 48, 50, 67, 60, 51, 85, 84, 79, 54, 57, 48, 56, 48, 54, 49, 70, 57, 52, 48, 54, 50, 51, 54, 90, 69, 49, 56, 52, 50, 50, 54, 66, 60, 60, 60, 60, 60, 49, 52]⟩
theorem smp_exp : Dat.prE smp.exp 2000 = 0 := by
  rw [(Dat.pr_yes (s := smp.exp) (f := 2000) (by decide) (by decide) rfl (by unfold Dat.allD Dat.isD; decide)).2]
  unfold Dat.ofE
  rw [if_pos (by unfold Dat.vld; decide)]
theorem smp_good : Good smp := ⟨by decide, by decide, by decide, by decide, by decide, by decide, by decide, by decide, by decide, by decide, by decide, by decide, smp_exp, by decide, by decide, by decide, by decide, by decide⟩
theorem smp_vld : vldE smp = 0 := smp_good.vld
theorem smp_shape : shape (txts [smp0, smp1]) = 3 := by decide
theorem smp_prsZ : prsZ 3 (txts [smp0, smp1]) = smp := by kernel_rfl
theorem smp_prsE : prsE (txts [smp0, smp1]) = 0 := by
  unfold prsE
  rw [smp_shape, smp_prsZ, smp_vld, if_neg (by decide), if_neg (by decide), if_neg (by decide), if_neg (by decide), if_neg (by decide)]
end Zn
end Go.Proofs.YtafbhadfeemppaaGreatDoor
