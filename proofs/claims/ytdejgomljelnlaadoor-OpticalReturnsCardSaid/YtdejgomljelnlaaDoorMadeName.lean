/- The maker's Name. -/
import Derived.Test.YtdejgomljelnlaaDoorMadeSigns
import Derived.Test.YtdejgomljelnlaaDoorOptBack
import Derived.IntWalk
namespace Go.Proofs.YtdejgomljelnlaaDoor
open Go.RowKit

namespace Made
def nm : List (List UInt8) := [[65], [69, 82, 73, 75, 83, 83, 79, 78], [77, 65, 82, 73, 65], [68, 69], [76, 79, 83], [79, 75], [86, 65, 78, 68, 69, 82, 86, 65, 76, 75], [90, 90]]
def nmAt (j : Nat) : List UInt8 := nm.getD j []
def nmV (j : Nat) : Value := .string ⟨(nmAt j).toArray⟩
theorem nm_ok (j : Nat) (h : j < 8) : (nmAt j).all Opt.isL = true ∧ nmAt j ≠ [] ∧ (nmAt j).length ≤ 10 :=
  (by decide : ∀ j : Fin 8, (nmAt j.1).all Opt.isL = true ∧ nmAt j.1 ≠ [] ∧ (nmAt j.1).length ≤ 10) ⟨j, h⟩
end Made
def NamePost (B g : Nat) (most : Int) (w : World) (e : Ending) (w' : World) : Prop := ∃ l : List UInt8, Opt.words 32 l = true ∧ (l.length : Int) ≤ 11 * most ∧ e = .returned (.string ⟨l.toArray⟩) ∧ DiceAt B g w' ∧ w.grownBy w' (some g)
def NameRel (B g : Nat) (most : Int) (w : World) (s i : Value) (wr : World) : Prop := ∃ (k : Nat) (l : List UInt8), i = .int .i64 k ∧ s = .string ⟨l.toArray⟩ ∧ Opt.words 32 l = true ∧ (l.length : Int) + 11 * k ≤ 11 * most ∧
  wr.rowIs w.heap.size 55 8 Made.nmV ∧ DiceAt B g wr ∧ w.grownBy wr (some g)
theorem row_grown {w w' : World} {b g n : Nat} {t : TypeId} {f : Nat → Value} (h : w.rowIs b t n f) (hg : w.grownBy w' (some g)) (hne : b ≠ g) (hb : b < w.heap.size) : w'.rowIs b t n f := by
  have e := hg.block b hb (by intro e; injection e with e; exact hne e)
  simpa [World.rowIs, e] using h

set_option maxRecDepth 100000 in
set_option maxHeartbeats 1000000 in
theorem made_name (B g : Nat) (most : Int) (w : World) (hd : DiceAt B g w) (h1 : 1 ≤ most) (h2 : most ≤ 100) :
    Calls Tryd.prog 26 #[.pointer (some ⟨g, 0, none⟩), .int .i64 most] w (NamePost B g most w) := by
  have hgw := hd.lt
  go_enter Tryd.func26, Tryd.ntmps26
  have q0 : IntKind.i64.wrap (most + 1) = most + 1 := IntWalk.i64_in _ (by omega)
  go_wp2_with fail
  have hba := (Below.refl (w.heap.size) w).alloc (Nat.le_refl _) (.cells #[.string ⟨#[65]⟩, .string ⟨#[69, 82, 73, 75, 83, 83, 79, 78]⟩, .string ⟨#[77, 65, 82, 73, 65]⟩, .string ⟨#[68, 69]⟩, .string ⟨#[76, 79, 83]⟩, .string ⟨#[79, 75]⟩, .string ⟨#[86, 65, 78, 68, 69, 82, 86, 65, 76, 75]⟩, .string ⟨#[90, 90]⟩] 55)
  have hrow : (w.alloc (.cells #[.string ⟨#[65]⟩, .string ⟨#[69, 82, 73, 75, 83, 83, 79, 78]⟩, .string ⟨#[77, 65, 82, 73, 65]⟩, .string ⟨#[68, 69]⟩, .string ⟨#[76, 79, 83]⟩, .string ⟨#[79, 75]⟩, .string ⟨#[86, 65, 78, 68, 69, 82, 86, 65, 76, 75]⟩, .string ⟨#[90, 90]⟩] 55)).rowIs w.heap.size 55 8 Made.nmV :=
    World.rowIs_alloc _ _ _ _ (by
      intro i hi
      have : i = 0 ∨ i = 1 ∨ i = 2 ∨ i = 3 ∨ i = 4 ∨ i = 5 ∨ i = 6 ∨ i = 7 := by simp at hi; omega
      rcases this with rfl | rfl | rfl | rfl | rfl | rfl | rfl | rfl <;> rfl)
  have hga := World.grownBy_alloc w (.cells #[.string ⟨#[65]⟩, .string ⟨#[69, 82, 73, 75, 83, 83, 79, 78]⟩, .string ⟨#[77, 65, 82, 73, 65]⟩, .string ⟨#[68, 69]⟩, .string ⟨#[76, 79, 83]⟩, .string ⟨#[79, 75]⟩, .string ⟨#[86, 65, 78, 68, 69, 82, 86, 65, 76, 75]⟩, .string ⟨#[90, 90]⟩] 55) (some g)
  have hda := hd.below hba hgw
  have hsz : w.heap.size < (w.alloc (.cells #[.string ⟨#[65]⟩, .string ⟨#[69, 82, 73, 75, 83, 83, 79, 78]⟩, .string ⟨#[77, 65, 82, 73, 65]⟩, .string ⟨#[68, 69]⟩, .string ⟨#[76, 79, 83]⟩, .string ⟨#[79, 75]⟩, .string ⟨#[86, 65, 78, 68, 69, 82, 86, 65, 76, 75]⟩, .string ⟨#[90, 90]⟩] 55)).heap.size := by
    show _ < (w.heap.push _).size; rw [Array.size_push]; omega
  generalize w.alloc (.cells #[.string ⟨#[65]⟩, .string ⟨#[69, 82, 73, 75, 83, 83, 79, 78]⟩, .string ⟨#[77, 65, 82, 73, 65]⟩, .string ⟨#[68, 69]⟩, .string ⟨#[76, 79, 83]⟩, .string ⟨#[79, 75]⟩, .string ⟨#[86, 65, 78, 68, 69, 82, 86, 65, 76, 75]⟩, .string ⟨#[90, 90]⟩] 55) = wa at hba hrow hga hda hsz ⊢
  refine (made_next B g _ _ hda (by omega) (by omega)).mono ?_; rintro e w1 ⟨v, v1, v2, rfl, hd1, hg1⟩
  have hrow1 := row_grown hrow hg1 (by omega) hsz
  have hgr1 := hga.trans hg1
  clear hba hrow hga hda hg1 q0 hd
  go_wp2_with fail
  go_loopw [6, 7] (NameRel B g most w) (fun _ i _ => (intOf i).toNat)
  case atStart =>
    exact ⟨v.toNat, [], by rw [Int.toNat_of_nonneg v1], rfl, rfl, by simp; omega, hrow1, hd1, hgr1⟩
  case round =>
    obtain ⟨k, l, rfl, rfl, hl, hlen, hrow, hdr, hgr⟩ := hrel
    clear hrow1 hd1 hgr1
    by_cases hk : 0 < k
    · have hbw : w.heap.size < wr.heap.size := by
        rcases Nat.lt_or_ge w.heap.size wr.heap.size with h | h
        · exact h
        · exfalso; have := hrow.cell (i := 0) (by omega); have h3 := World.block_lt_of_cell? _ _ this; exact absurd h3 (by show ¬ w.heap.size < _; omega)
      obtain ⟨S, hS⟩ : ∃ S : ByteArray, (⟨l.toArray⟩ : ByteArray) = S := ⟨_, rfl⟩
      have hSs : S.size = l.length := by rw [← hS, str_size]
      have hSs2 : S.size ≤ 1100 := by omega
      have HSS := Lib.hid hSs
      rw [hS]
      have hem := fun (b : Bool) (h : l.isEmpty = b) => (str_empty (s := S) (l := l) (by rw [← hS]) h).1
      have HEM := Lib.hid hem
      have HS := Lib.hid hS; clear hS hem
      have hone : (⟨#[32]⟩ : ByteArray).size = 1 := rfl
      by_cases he : l = []
      · have e1 := HEM.out true (by rw [he]; rfl)
        have HE := Lib.hid he; clear he
        go_wp2_with fail
        refine (made_next B g _ _ hdr (by omega) (by omega)).mono ?_; rintro e w2 ⟨x, x1, x2, rfl, hd2, hg2⟩
        have hrow2 := row_grown hrow hg2 (by have := hgw; omega) hbw
        have hgr2 := hgr.trans hg2
        have hcell := hrow2.cell (i := x.toNat) (by omega)
        have hok := Made.nm_ok x.toNat (by omega)
        unfold Made.nmV at hcell
        obtain ⟨N, hN⟩ : ∃ N : ByteArray, (⟨(Made.nmAt x.toNat).toArray⟩ : ByteArray) = N := ⟨_, rfl⟩
        have hNs : N.size ≤ 10 := by rw [← hN, str_size]; omega
        rw [hN] at hcell
        have hadd : S ++ N = ⟨(l ++ Made.nmAt x.toNat).toArray⟩ := by rw [← HS.out, ← hN, str_add]
        have hwd : Opt.words 32 (l ++ Made.nmAt x.toNat) = true := Opt.wordsb_letters hl hok.1
        have hln : ((l ++ Made.nmAt x.toNat).length : Int) + 11 * ((k - 1 : Nat) : Int) ≤ 11 * most := by rw [List.length_append]; omega
        have HADD := Lib.hid hadd; have HWD := Lib.hid hwd; have HLN := Lib.hid hln
        have hz : S.size + N.size ≤ 9223372036854775807 := by omega
        clear hN hadd hwd hln hok hrow hg2 hdr hgr HEM
        go_wp2_with fail
        go_roundw
        case rel => exact ⟨k - 1, l ++ Made.nmAt x.toNat, by congr 1; omega, by rw [HADD.out], HWD.out, HLN.out, hrow2, hd2, hgr2⟩
        case measure => simp [intOf]; omega
      · have e1 := HEM.out false (by cases l with | nil => exact absurd rfl he | cons _ _ => rfl)
        have HE := Lib.hid he; clear he
        have hz0 : S.size + (⟨#[32]⟩ : ByteArray).size ≤ 9223372036854775807 := by rw [hone]; omega
        go_wp2_with fail
        refine (made_next B g _ _ hdr (by omega) (by omega)).mono ?_; rintro e w2 ⟨x, x1, x2, rfl, hd2, hg2⟩
        have hrow2 := row_grown hrow hg2 (by have := hgw; omega) hbw
        have hgr2 := hgr.trans hg2
        have hcell := hrow2.cell (i := x.toNat) (by omega)
        have hok := Made.nm_ok x.toNat (by omega)
        unfold Made.nmV at hcell
        obtain ⟨N, hN⟩ : ∃ N : ByteArray, (⟨(Made.nmAt x.toNat).toArray⟩ : ByteArray) = N := ⟨_, rfl⟩
        have hNs : N.size ≤ 10 := by rw [← hN, str_size]; omega
        rw [hN] at hcell
        have hsp : (S ++ (⟨#[32]⟩ : ByteArray)).size ≤ 1101 := by rw [ByteArray.size_append, hone]; omega
        have hadd : S ++ (⟨#[32]⟩ : ByteArray) ++ N = ⟨(l ++ [32] ++ Made.nmAt x.toNat).toArray⟩ := by rw [← HS.out, ← hN, ← str_add, ← str_add]
        have hwd : Opt.words 32 (l ++ [32] ++ Made.nmAt x.toNat) = true := Opt.wordsb_word (by decide) hl HE.out hok.1 hok.2.1
        have hln : ((l ++ [32] ++ Made.nmAt x.toNat).length : Int) + 11 * ((k - 1 : Nat) : Int) ≤ 11 * most := by simp only [List.length_append, List.length_singleton]; omega
        have HWD := Lib.hid hwd; have HLN := Lib.hid hln
        generalize S ++ (⟨#[32]⟩ : ByteArray) = C at hsp hadd ⊢
        have HADD := Lib.hid hadd
        have hz : C.size + N.size ≤ 9223372036854775807 := by omega
        clear hN hadd hwd hln hok hrow hg2 hdr hgr HEM
        go_wp2_with fail
        go_roundw
        case rel => exact ⟨k - 1, l ++ [32] ++ Made.nmAt x.toNat, by congr 1; omega, by rw [HADD.out], HWD.out, HLN.out, hrow2, hd2, hgr2⟩
        case measure => simp [intOf]; omega
    · obtain rfl : k = 0 := by omega
      go_wp2_with fail
      go_ret
      exact ⟨l, hl, by omega, by first | rfl | (simp), hdr, hgr⟩
end Go.Proofs.YtdejgomljelnlaaDoor
