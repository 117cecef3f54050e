/- The walks of chapter 3: Format and Parse of the program and of the reference, two, and the sanity check. -/
import Derived.Test.YtnhkmifpppffnaaDoorDatMonths
namespace Go.Proofs.YtnhkmifpppffnaaDoor
open Go.RowKit

namespace Dat
theorem At.below {w w' : World} (h : At w) (hb : Below w.heap.size w w') : At w' := fun i hi => cell_later hb (h i hi)
/-- Two digits. -/
def dig2 (k : Int) : List UInt8 := [b8 (48 + k / 10), b8 (48 + k % 10)]
def fm (a b c : Int) : Nat → List UInt8
  | 0 => []
  | 1 => dig2 a
  | 2 => dig2 a ++ dig2 b
  | _ => dig2 a ++ dig2 b ++ dig2 c
/-- The text of a day. -/
def fmt (n : Int) : ByteArray := ⟨(fm (yOf n % 100) (mOf n) (dOf n) 3).toArray⟩
noncomputable def foS (n : Int) : ByteArray := open Classical in if inR n then fmt n else ⟨#[]⟩
theorem BL_dig2 (k : Int) (h : 0 ≤ k) (h' : k ≤ 99) : BL (dig2 k) = [.int .u8 (48 + k / 10), .int .u8 (48 + k % 10)] := by
  simp only [BL, dig2, List.map_cons, List.map_nil]
  rw [b8_toNat _ (by omega) (by omega), b8_toNat _ (by omega) (by omega)]
theorem fmt_own {w : World} {B e : Nat} {v : Value} (a b c : Int) (k : Nat) (x p q : Int) (hx : 0 ≤ x) (hx' : x ≤ 99) (hp : p = 48 + x / 10) (hq : q = 48 + x % 10) (hk : (k = 0 ∧ x = a) ∨ (k = 1 ∧ x = b) ∨ (k = 2 ∧ x = c))
    (h : w.ownsRow B e 1 v (2 * k + 2) (BL (fm a b c k) ++ [.int .u8 p, .int .u8 q])) : w.ownsRow B e 1 v (2 * (k + 1)) (BL (fm a b c (k + 1))) := by
  subst hp hq
  rw [← BL_dig2 x hx hx', ← BL_append] at h
  rcases hk with ⟨rfl, rfl⟩ | ⟨rfl, rfl⟩ | ⟨rfl, rfl⟩ <;> exact h
end Dat
theorem own_block_le {w : World} {B e size n : Nat} {v : Value} {xs : List Value} (h : w.ownsRow B e size v n xs) : ∀ k, v.ownBlock = some k → B ≤ k := by
  intro k hk
  rcases h.2 with ⟨rfl, _⟩ | ⟨g, cap, cur, rfl, hB, _⟩
  · simp [Value.ownBlock] at hk
  · simp [Value.ownBlock] at hk; omega

theorem u8_info : (Tryd.prog.info? 5).map (fun i => (i.zero, i.size, i.bytes)) = some (some (.int .u8 0), 1, 1) := by kernel_rfl

set_option maxHeartbeats 800000 in
theorem dformat_yes (n : Int) (w : World) (hw : Dat.At w) (h : 0 ≤ n) (h' : n ≤ 73048) :
    Calls Tryd.prog 23 #[.int .i64 n] w fun e w' => e = .returned (.tuple #[.string (Dat.fmt n), .int .i64 0]) ∧ Below w.heap.size w w' := by
  obtain ⟨⟨h1, h2, h3, h4, h5, h6⟩, _⟩ := Dat.parts_ok n h h'
  have hd := Dat.dim_bd (Dat.yOf n) (Dat.mOf n)
  obtain ⟨i0, hi, hz0, hz1, hz2⟩ := info_parts u8_info
  have hfin : Dat.fmt n = ⟨(Dat.fm (Dat.yOf n % 100) (Dat.mOf n) (Dat.dOf n) 3).toArray⟩ := rfl
  have HF := Lib.hid hfin; clear hfin
  have x0 : ∀ W : World, (Instr.index 22 (.agg #[.int .i64 (Dat.yOf n % 100), .int .i64 (Dat.mOf n), .int .i64 (Dat.dOf n)]) (.int .i64 0)).run Tryd.prog W = .ok (.int .i64 (Dat.yOf n % 100)) W := fun _ => by kernel_rfl
  have x1 : ∀ W : World, (Instr.index 22 (.agg #[.int .i64 (Dat.yOf n % 100), .int .i64 (Dat.mOf n), .int .i64 (Dat.dOf n)]) (.int .i64 1)).run Tryd.prog W = .ok (.int .i64 (Dat.mOf n)) W := fun _ => by kernel_rfl
  have x2 : ∀ W : World, (Instr.index 22 (.agg #[.int .i64 (Dat.yOf n % 100), .int .i64 (Dat.mOf n), .int .i64 (Dat.dOf n)]) (.int .i64 2)).run Tryd.prog W = .ok (.int .i64 (Dat.dOf n)) W := fun _ => by kernel_rfl
  go_enter Tryd.func23, Tryd.ntmps23
  go_wp2_with fail
  refine (dparts_yes _ _ hw h h').mono ?_; rintro e w' ⟨rfl, rfl⟩
  go_wp2_with fail
  go_loopw [8, 26] (fun v i wr => ∃ k : Nat, k ≤ 3 ∧ i = .int .i64 k ∧ wr.ownsRow w.heap.size 5 1 v (2 * k) (BL (Dat.fm (Dat.yOf n % 100) (Dat.mOf n) (Dat.dOf n) k)) ∧ Below w.heap.size w wr) (fun _ i _ => 3 - (intOf i).toNat)
  case atStart => exact ⟨0, by omega, rfl, ⟨rfl, .inl ⟨rfl, rfl⟩⟩, Below.refl _ _⟩
  case round =>
    obtain ⟨k, hk, rfl, hown, hb⟩ := hrel
    have : k = 0 ∨ k = 1 ∨ k = 2 ∨ k = 3 := by omega
    rcases this with rfl | rfl | rfl | rfl
    · go_wp2_with (at_builtin; refine wpList_append_own _ rfl _ _ 39 rfl w.heap.size 5 i0 (.int .u8 0) 1 1 Tryd.underlying39 hi hz0 hz1 hz2 rfl (by decide) _ _ _ rfl (hown.alloc _) ⟨wr.heap.size, 0, none⟩ 2 2 [_, _] rfl rfl (cell_two_new _ _ _ _) (by intro u hu; simp at hu; rcases hu with rfl | rfl <;> rfl) (by unfold maxLen; omega) (by omega) (by have := hb.size; simp; omega) ?_; intro v' w1 hown1 hg1 _)
      have hown2 := Dat.fmt_own (Dat.yOf n % 100) (Dat.mOf n) (Dat.dOf n) 0 _ _ _ (by omega) (by omega) rfl (by omega) (by omega) hown1
      have hb2 : Below w.heap.size w w1 := (hb.alloc hb.size _).grown hg1 (by have := hb.size; simp; omega) (own_block_le hown)
      clear hown1 hown hb hg1
      go_roundw
      case rel => exact ⟨1, by omega, by go_num, hown2, hb2⟩
      case measure => simp [intOf]
    · go_wp2_with (at_builtin; refine wpList_append_own _ rfl _ _ 39 rfl w.heap.size 5 i0 (.int .u8 0) 1 1 Tryd.underlying39 hi hz0 hz1 hz2 rfl (by decide) _ _ _ rfl (hown.alloc _) ⟨wr.heap.size, 0, none⟩ 2 2 [_, _] rfl rfl (cell_two_new _ _ _ _) (by intro u hu; simp at hu; rcases hu with rfl | rfl <;> rfl) (by unfold maxLen; omega) (by omega) (by have := hb.size; simp; omega) ?_; intro v' w1 hown1 hg1 _)
      have hown2 := Dat.fmt_own (Dat.yOf n % 100) (Dat.mOf n) (Dat.dOf n) 1 _ _ _ (by omega) (by omega) rfl (by omega) (by omega) hown1
      have hb2 : Below w.heap.size w w1 := (hb.alloc hb.size _).grown hg1 (by have := hb.size; simp; omega) (own_block_le hown)
      clear hown1 hown hb hg1
      go_roundw
      case rel => exact ⟨2, by omega, by go_num, hown2, hb2⟩
      case measure => simp [intOf]
    · go_wp2_with (at_builtin; refine wpList_append_own _ rfl _ _ 39 rfl w.heap.size 5 i0 (.int .u8 0) 1 1 Tryd.underlying39 hi hz0 hz1 hz2 rfl (by decide) _ _ _ rfl (hown.alloc _) ⟨wr.heap.size, 0, none⟩ 2 2 [_, _] rfl rfl (cell_two_new _ _ _ _) (by intro u hu; simp at hu; rcases hu with rfl | rfl <;> rfl) (by unfold maxLen; omega) (by omega) (by have := hb.size; simp; omega) ?_; intro v' w1 hown1 hg1 _)
      have hown2 := Dat.fmt_own (Dat.yOf n % 100) (Dat.mOf n) (Dat.dOf n) 2 _ _ _ (by omega) (by omega) rfl (by omega) (by omega) hown1
      have hb2 : Below w.heap.size w w1 := (hb.alloc hb.size _).grown hg1 (by have := hb.size; simp; omega) (own_block_le hown)
      clear hown1 hown hb hg1
      go_roundw
      case rel => exact ⟨3, by omega, by go_num, hown2, hb2⟩
      case measure => simp [intOf]
    · have hcv := conv_own (P := Tryd.prog) 39 9 5 _ (2 * 3) rfl hown Tryd.underlying39 Tryd.underlying5 Tryd.underlying9
      rw [← HF.out] at hcv
      go_wp2
      go_ret2
      exact ⟨rfl, hb⟩

set_option maxHeartbeats 400000 in
theorem rtwo (k : Int) (w : World) (h : 0 ≤ k) (h' : k ≤ 99) :
    Calls Tryd.prog 32 #[.int .i64 k] w fun e w' => e = .returned (.string ⟨(Dat.dig2 k).toArray⟩) ∧ Below w.heap.size w w' := by
  have hcv := conv_two (P := Tryd.prog) w 39 9 5 (48 + k / 10) (48 + k % 10) (by omega) (by omega) 2 Tryd.underlying39 Tryd.underlying5 Tryd.underlying9
  have hfin : (⟨#[b8 (48 + k / 10), b8 (48 + k % 10)]⟩ : ByteArray) = ⟨(Dat.dig2 k).toArray⟩ := rfl
  rw [hfin] at hcv; clear hfin
  go_enter Tryd.func32, Tryd.ntmps32
  go_wp2
  go_ret
  exact ⟨rfl, (Below.refl _ _).alloc (Nat.le_refl _) _⟩

set_option maxHeartbeats 800000 in
theorem rformat_yes (n : Int) (w : World) (h : 0 ≤ n) (h' : n ≤ 73048) :
    Calls Tryd.prog 24 #[.int .i64 n] w fun e w' => e = .returned (.tuple #[.string (Dat.fmt n), .int .i64 0]) ∧ Below w.heap.size w w' := by
  obtain ⟨⟨h1, h2, h3, h4, h5, h6⟩, _⟩ := Dat.parts_ok n h h'
  have hd := Dat.dim_bd (Dat.yOf n) (Dat.mOf n)
  go_enter Tryd.func24, Tryd.ntmps24
  go_wp2_with fail
  refine (rparts_yes _ _ h h').mono ?_; rintro e w' ⟨rfl, rfl⟩
  go_wp2_with fail
  refine (rtwo _ _ (by omega) (by omega)).mono ?_; rintro e w1 ⟨rfl, hb1⟩
  go_wp2_with fail
  refine (rtwo _ _ (by omega) (by omega)).mono ?_; rintro e w2 ⟨rfl, hb2⟩
  go_wp2_with fail
  refine (rtwo _ _ (by omega) (by omega)).mono ?_; rintro e w3 ⟨rfl, hb3⟩
  go_wp2_with fail
  go_ret2
  exact ⟨rfl, (hb1.trans (hb2.mono hb1.size)).trans (hb3.mono (Nat.le_trans hb1.size hb2.size))⟩

theorem dformat_no (n : Int) (w : World) (h : ¬ Dat.inR n) :
    Calls Tryd.prog 23 #[.int .i64 n] w fun e w' => e = .returned (.tuple #[.string ⟨#[]⟩, .int .i64 8]) ∧ Below w.heap.size w w' := by
  have H := Lib.hid h; clear h
  go_enter Tryd.func23, Tryd.ntmps23
  go_wp2_with fail
  refine (dparts_no _ _ H.out).mono ?_; rintro e w' ⟨rfl, rfl⟩
  go_wp2_with fail
  go_ret2
  exact ⟨rfl, Below.refl _ _⟩
theorem rformat_no (n : Int) (w : World) (h : ¬ Dat.inR n) :
    Calls Tryd.prog 24 #[.int .i64 n] w fun e w' => e = .returned (.tuple #[.string ⟨#[]⟩, .int .i64 8]) ∧ Below w.heap.size w w' := by
  have H := Lib.hid h; clear h
  go_enter Tryd.func24, Tryd.ntmps24
  go_wp2_with fail
  refine (rparts_no _ _ H.out).mono ?_; rintro e w' ⟨rfl, rfl⟩
  go_wp2_with fail
  go_ret2
  exact ⟨rfl, Below.refl _ _⟩
theorem dformat_any (n : Int) (w : World) (hw : Dat.At w) :
    Calls Tryd.prog 23 #[.int .i64 n] w fun e w' => e = .returned (.tuple #[.string (Dat.foS n), .int .i64 (Dat.paE n)]) ∧ Below w.heap.size w w' := by
  by_cases h : Dat.inR n
  · simpa only [Dat.foS, Dat.paE, if_pos h] using dformat_yes n w hw h.1 h.2
  · simpa only [Dat.foS, Dat.paE, if_neg h] using dformat_no n w h
theorem rformat_any (n : Int) (w : World) :
    Calls Tryd.prog 24 #[.int .i64 n] w fun e w' => e = .returned (.tuple #[.string (Dat.foS n), .int .i64 (Dat.paE n)]) ∧ Below w.heap.size w w' := by
  by_cases h : Dat.inR n
  · simpa only [Dat.foS, Dat.paE, if_pos h] using rformat_yes n w h.1 h.2
  · simpa only [Dat.foS, Dat.paE, if_neg h] using rformat_no n w h
end Go.Proofs.YtnhkmifpppffnaaDoor
