/- The walks of chapter 3: Format and Parse of the program and of the reference, two, and the sanity check. -/
import Derived.Test.YtelngghecmkipaaGreatDoorDatMonths
namespace Go.Proofs.YtelngghecmkipaaGreatDoor
open Go.RowKit

namespace Dat
theorem At.below {w w' : World} (h : At w) (hb : Below w.heap.size w w') : At w' := fun i hi => cell_later hb (h i hi)
/-- Two digits. -/
def dig2 (k : Int) : List UInt8 := [b8 (48 + k / 10), b8 (48 + k % 10)]
def fm (a b c : Int) : Nat → List UInt8
  | 0 => []
  | 1 => dig2 a
  | 2 => dig2 a ++ dig2 b
  | _ => dig2 a ++ dig2 b ++ dig2 c
/-- The text of a day. -/
def fmt (n : Int) : ByteArray := ⟨(fm (yOf n % 100) (mOf n) (dOf n) 3).toArray⟩
noncomputable def foS (n : Int) : ByteArray := open Classical in if inR n then fmt n else ⟨#[]⟩
theorem BL_dig2 (k : Int) (h : 0 ≤ k) (h' : k ≤ 99) : BL (dig2 k) = [.int .u8 (48 + k / 10), .int .u8 (48 + k % 10)] := by
  simp only [BL, dig2, List.map_cons, List.map_nil]
  rw [b8_toNat _ (by omega) (by omega), b8_toNat _ (by omega) (by omega)]
theorem fmt_own {w : World} {B e : Nat} {v : Value} (a b c : Int) (k : Nat) (x p q : Int) (hx : 0 ≤ x) (hx' : x ≤ 99) (hp : p = 48 + x / 10) (hq : q = 48 + x % 10) (hk : (k = 0 ∧ x = a) ∨ (k = 1 ∧ x = b) ∨ (k = 2 ∧ x = c))
    (h : w.ownsRow B e 1 v (2 * k + 2) (BL (fm a b c k) ++ [.int .u8 p, .int .u8 q])) : w.ownsRow B e 1 v (2 * (k + 1)) (BL (fm a b c (k + 1))) := by
  subst hp hq
  rw [← BL_dig2 x hx hx', ← BL_append] at h
  rcases hk with ⟨rfl, rfl⟩ | ⟨rfl, rfl⟩ | ⟨rfl, rfl⟩ <;> exact h
end Dat
theorem own_block_le {w : World} {B e size n : Nat} {v : Value} {xs : List Value} (h : w.ownsRow B e size v n xs) : ∀ k, v.ownBlock = some k → B ≤ k := by
  intro k hk
  rcases h.2 with ⟨rfl, _⟩ | ⟨g, cap, cur, rfl, hB, _⟩
  · simp [Value.ownBlock] at hk
  · simp [Value.ownBlock] at hk; omega

theorem u8_info : (Tryz.prog.info? 5).map (fun i => (i.zero, i.size, i.bytes)) = some (some (.int .u8 0), 1, 1) := by kernel_rfl

set_option maxHeartbeats 400000 in
theorem rtwo (k : Int) (w : World) (h : 0 ≤ k) (h' : k ≤ 99) :
    Calls Tryz.prog 82 #[.int .i64 k] w fun e w' => e = .returned (.string ⟨(Dat.dig2 k).toArray⟩) ∧ Below w.heap.size w w' := by
  have hcv := conv_two (P := Tryz.prog) w 41 9 5 (48 + k / 10) (48 + k % 10) (by omega) (by omega) 2 Tryz.underlying41 Tryz.underlying5 Tryz.underlying9
  have hfin : (⟨#[b8 (48 + k / 10), b8 (48 + k % 10)]⟩ : ByteArray) = ⟨(Dat.dig2 k).toArray⟩ := rfl
  rw [hfin] at hcv; clear hfin
  go_enter Tryz.func82, Tryz.ntmps82
  go_wp2
  go_ret
  exact ⟨rfl, (Below.refl _ _).alloc (Nat.le_refl _) _⟩

set_option maxHeartbeats 800000 in
theorem rformat_yes (n : Int) (w : World) (h : 0 ≤ n) (h' : n ≤ 73048) :
    Calls Tryz.prog 44 #[.int .i64 n] w fun e w' => e = .returned (.tuple #[.string (Dat.fmt n), .int .i64 0]) ∧ Below w.heap.size w w' := by
  obtain ⟨⟨h1, h2, h3, h4, h5, h6⟩, _⟩ := Dat.parts_ok n h h'
  have hd := Dat.dim_bd (Dat.yOf n) (Dat.mOf n)
  go_enter Tryz.func44, Tryz.ntmps44
  go_wp2_with fail
  refine (rparts_yes _ _ h h').mono ?_; rintro e w' ⟨rfl, rfl⟩
  go_wp2_with fail
  refine (rtwo _ _ (by omega) (by omega)).mono ?_; rintro e w1 ⟨rfl, hb1⟩
  go_wp2_with fail
  refine (rtwo _ _ (by omega) (by omega)).mono ?_; rintro e w2 ⟨rfl, hb2⟩
  go_wp2_with fail
  refine (rtwo _ _ (by omega) (by omega)).mono ?_; rintro e w3 ⟨rfl, hb3⟩
  go_wp2_with fail
  go_ret2
  exact ⟨rfl, (hb1.trans (hb2.mono hb1.size)).trans (hb3.mono (Nat.le_trans hb1.size hb2.size))⟩

theorem rformat_no (n : Int) (w : World) (h : ¬ Dat.inR n) :
    Calls Tryz.prog 44 #[.int .i64 n] w fun e w' => e = .returned (.tuple #[.string ⟨#[]⟩, .int .i64 8]) ∧ Below w.heap.size w w' := by
  have H := Lib.hid h; clear h
  go_enter Tryz.func44, Tryz.ntmps44
  go_wp2_with fail
  refine (rparts_no _ _ H.out).mono ?_; rintro e w' ⟨rfl, rfl⟩
  go_wp2_with fail
  go_ret2
  exact ⟨rfl, Below.refl _ _⟩
theorem rformat_any (n : Int) (w : World) :
    Calls Tryz.prog 44 #[.int .i64 n] w fun e w' => e = .returned (.tuple #[.string (Dat.foS n), .int .i64 (Dat.paE n)]) ∧ Below w.heap.size w w' := by
  by_cases h : Dat.inR n
  · simpa only [Dat.foS, Dat.paE, if_pos h] using rformat_yes n w h.1 h.2
  · simpa only [Dat.foS, Dat.paE, if_neg h] using rformat_no n w h
end Go.Proofs.YtelngghecmkipaaGreatDoor
