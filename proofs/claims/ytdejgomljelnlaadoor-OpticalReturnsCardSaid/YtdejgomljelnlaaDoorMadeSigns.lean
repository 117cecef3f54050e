/- The maker's Signs: letters and digits. -/
import Derived.Test.YtdejgomljelnlaaDoorMade
namespace Go.Proofs.YtdejgomljelnlaaDoor
open Go.RowKit

def isSign (c : UInt8) : Prop := (48 ≤ (c.toNat : Int) ∧ (c.toNat : Int) ≤ 57) ∨ (65 ≤ (c.toNat : Int) ∧ (c.toNat : Int) ≤ 90)
theorem u8_infoM : (Tryd.prog.info? 5).map (fun i => (i.zero, i.size, i.bytes)) = some (some (.int .u8 0), 1, 1) := by kernel_rfl
theorem own_block_le {w : World} {B e size n : Nat} {v : Value} {xs : List Value} (h : w.ownsRow B e size v n xs) : ∀ k, v.ownBlock = some k → B ≤ k := by
  intro k hk
  rcases h.2 with ⟨rfl, _⟩ | ⟨g, cap, cur, rfl, hB, _⟩
  · simp [Value.ownBlock] at hk
  · simp [Value.ownBlock] at hk; omega
theorem own_keep {w w' : World} {B e size n g : Nat} {v : Value} {xs : List Value} (h : w.ownsRow B e size v n xs) (hg : w.grownBy w' (some g)) (hB : g < B) : w'.ownsRow B e size v n xs := by
  refine h.kept hg ?_
  rcases hv : v.ownBlock with _ | k
  · exact .inl rfl
  · refine .inr ?_
    have := own_block_le h k hv
    intro e; injection e with e; omega
def SignsPost (B g : Nat) (most : Int) (w : World) (e : Ending) (w' : World) : Prop := ∃ l : List UInt8, 1 ≤ l.length ∧ (l.length : Int) ≤ most ∧ (∀ c ∈ l, isSign c) ∧ e = .returned (.string ⟨l.toArray⟩) ∧ DiceAt B g w' ∧ w.grownBy w' (some g)
def SignsRel (B g : Nat) (most : Int) (w : World) (v i : Value) (wr : World) : Prop := ∃ (k : Nat) (l : List UInt8), i = .int .i64 k ∧ 1 ≤ l.length + k ∧ ((l.length + k : Nat) : Int) ≤ most ∧ (∀ c ∈ l, isSign c) ∧ wr.ownsRow w.heap.size 5 1 v l.length (BL l) ∧ DiceAt B g wr ∧ w.grownBy wr (some g)
instance (c : UInt8) : Decidable (isSign c) := by unfold isSign; exact inferInstance
def signTab : List UInt8 := [48, 49, 50, 51, 52, 53, 54, 55, 56, 57, 65, 66, 67, 68, 69, 70, 71, 72, 73, 74, 75, 76, 77, 78, 79, 80, 81, 82, 83, 84, 85, 86, 87, 88, 89, 90]
theorem sign_at (j : Nat) (h : j < 36) : isSign (signTab.getD j 0) := (by decide : ∀ j : Fin 36, isSign (signTab.getD j.1 0)) ⟨j, h⟩
theorem sign_get (j : Nat) (h : j < (⟨signTab.toArray⟩ : ByteArray).size) : isSign ((⟨signTab.toArray⟩ : ByteArray)[j]) := by
  have h' : j < signTab.length := h
  have e : (⟨signTab.toArray⟩ : ByteArray)[j] = signTab[j]'(h') := rfl
  have := sign_at j h'
  rw [e]; simpa [List.getD, List.getElem?_eq_getElem h'] using this
set_option maxRecDepth 100000 in
set_option maxHeartbeats 800000 in
theorem made_signs (B g : Nat) (most : Int) (w : World) (hd : DiceAt B g w) (h1 : 1 ≤ most) (h2 : most ≤ 100000) :
    Calls Tryd.prog 22 #[.pointer (some ⟨g, 0, none⟩), .int .i64 most] w (SignsPost B g most w) := by
  obtain ⟨i0, hi, hz0, hz1, hz2⟩ := info_parts u8_infoM
  have hgw := hd.lt
  go_enter Tryd.func22, Tryd.ntmps22
  go_wp2_with fail
  refine (made_next B g _ _ hd h1 (by omega)).mono ?_; rintro e w1 ⟨v, v1, v2, rfl, hd1, hg1⟩
  go_wp2_with fail
  go_loopw [5, 6] (SignsRel B g most w) (fun _ i _ => (intOf i).toNat)
  case atStart =>
    refine ⟨(1 + v).toNat, [], ?_, ?_, ?_, (by intro c hc; cases hc), ⟨rfl, .inl ⟨rfl, rfl⟩⟩, hd1, hg1⟩
    · rw [Int.toNat_of_nonneg (by omega)]
    · simp; omega
    · simp; omega
  case round =>
    obtain ⟨k, l, rfl, k1, k2, hl, hown, hdr, hgr⟩ := hrel
    by_cases hk : 0 < k
    · go_wp2_with fail
      refine (made_next B g _ _ hdr (by omega) (by omega)).mono ?_; rintro e w2 ⟨x, x1, x2, rfl, hd2, hg2⟩
      have hown2 := own_keep hown hg2 hgw
      have hsg := sign_get x.toNat (by show x.toNat < 36; omega)
      have hsz := hg2.size
      have hsz0 := hgr.size
      have hgr2 := hgr.trans hg2
      clear hown hg2 hdr
      go_wp2_with (at_builtin; refine wpList_append_own _ rfl _ _ 35 rfl w.heap.size 5 i0 (.int .u8 0) 1 1 Tryd.underlying35 hi hz0 hz1 hz2 rfl (by decide) _ _ _ rfl (hown2.alloc _) ⟨w2.heap.size, 0, none⟩ 1 1 [_] rfl rfl (cell_one_new _ _ _) (by intro u hu; simp at hu; subst hu; rfl) (by unfold maxLen; omega) (by omega) (by simp; omega) ?_; intro v' w3 hown3 hg3 _)
      have hd3 : DiceAt B g w3 := (hd2.below ((Below.refl w2.heap.size w2).alloc (Nat.le_refl _) _) hd2.lt).below (B' := w.heap.size) ⟨hg3.os, hg3.tape, hg3.output, hg3.size, fun i hi => hg3.block i (by simp; omega) (fun e => by have := own_block_le hown2 i e.symm; omega)⟩ hgw
      have hgr3 : w.grownBy w3 (some g) := (hgr2.andThen (World.grownBy_alloc w2 _ none) (by intro j hj; cases hj)).andThen hg3 (by intro j hj; exact .inl (own_block_le hown2 j hj))
      have hown4 : w3.ownsRow w.heap.size 5 1 v' (l.length + 1) (BL (l ++ [(⟨signTab.toArray⟩ : ByteArray)[x.toNat]'(by show x.toNat < 36; omega)])) := by rw [BL_append]; exact hown3
      clear hown3 hg3 hown2 hgr2 hd2
      go_roundw
      case rel =>
        refine ⟨k - 1, l ++ [(⟨signTab.toArray⟩ : ByteArray)[x.toNat]'(by show x.toNat < 36; omega)], ?_, ?_, ?_, ?_, ?_, hd3, hgr3⟩
        rotate_left 4
        · rw [List.length_append]; exact hown4
        · congr 1; omega
        · simp; omega
        · simp; omega
        · intro c hc
          rcases List.mem_append.1 hc with h | h
          · exact hl c h
          · have := List.mem_singleton.1 h; subst this; exact hsg
      case measure => simp [intOf]; omega
    · obtain rfl : k = 0 := by omega
      have hcv := conv_own (P := Tryd.prog) 35 9 5 l l.length rfl hown Tryd.underlying35 Tryd.underlying5 Tryd.underlying9
      clear hown
      go_wp2_with fail
      go_ret
      exact ⟨l, by omega, by omega, hl, rfl, hdr, hgr⟩
end Go.Proofs.YtdejgomljelnlaaDoor
