/- The walks of chapter 10: Digit of the program and of the reference. -/
import Derived.Test.YtdejgomljelnlaaDoorOptDigit
namespace Go.Proofs.YtdejgomljelnlaaDoor
open Go.RowKit

theorem Opt.wt_mod (k : Nat) : (Opt.wt k = 7 ∧ k % 3 = 0) ∨ (Opt.wt k = 3 ∧ k % 3 = 1) ∨ (Opt.wt k = 1 ∧ k % 3 = 2) := by
  unfold Opt.wt; have : k % 3 < 3 := Nat.mod_lt _ (by omega); omega
def Opt.wv (j : Nat) : Value := .int .i64 (Opt.wt j)
theorem Opt.wt_of_mod (k : Nat) : Opt.wt (k % 3) = Opt.wt k := by unfold Opt.wt; rw [Nat.mod_mod]

theorem Opt.enc_ascii (n : Int) (h : 0 ≤ n) (h' : n < 128) : Utf8.encode n = ⟨#[b8 n]⟩ := by
  unfold Utf8.encode
  have hv : Utf8.valid n = true := by unfold Utf8.valid; simp; omega
  have hc : n.toNat < 128 := by omega
  simp only [hv, if_true, hc]
  rfl
theorem Opt.ret_si {a b : ByteArray} {c d : Int} (h : a = b) (h' : c = d) : Ending.returned (.tuple #[.string a, .int .i64 c]) = .returned (.tuple #[.string b, .int .i64 d]) := by rw [h, h']

set_option maxHeartbeats 800000 in
theorem odigit (s : ByteArray) (w : World) (hs : s.size ≤ 140737488351232) :
    Calls Tryd.prog 9 #[.string s] w fun e w' => e = .returned (.tuple #[.string (Opt.digS s), .int .i64 (Opt.digE s)]) ∧ Below w.heap.size w w' := by
  have hs' : s.size ≤ maxLen := by unfold maxLen; omega
  cases hv : Opt.valid s.data.toList with
  | false =>
    have e1 : Opt.digS s = ⟨#[]⟩ := by unfold Opt.digS; simp [hv]
    have e2 : Opt.digE s = 12 := by unfold Opt.digE; simp [hv]
    rw [e1, e2]; clear e1 e2
    have HV := Lib.hid hv; clear hv
    go_enter Tryd.func9, Tryd.ntmps9
    go_wp2_with fail
    refine (ovalid _ _ hs').mono ?_; rintro e w' ⟨rfl, rfl⟩; rw [HV.out]
    go_wp2_with fail
    go_ret2
    exact ⟨rfl, Below.refl _ _⟩
  | true =>
    have hsb := Opt.sum_bd _ hv
    rw [Opt.size_len] at hsb
    have e1 : Opt.digS s = ⟨#[Opt.digit s.data.toList]⟩ := by unfold Opt.digS; simp [hv]
    have e2 : Opt.digE s = 0 := by unfold Opt.digE; simp [hv]
    rw [e1, e2]; clear e1 e2
    have HV := Lib.hid hv; clear hv
    go_enter Tryd.func9, Tryd.ntmps9
    go_wp2_with fail
    refine (ovalid _ _ hs').mono ?_; rintro e w' ⟨rfl, rfl⟩; rw [HV.out]
    go_wp2_with fail
    go_loopw [5, 13] (fun sm i wr => ∃ k : Nat, k ≤ s.size ∧ i = .int .i64 k ∧ sm = .int .i64 (Opt.sum (s.data.toList.take k)) ∧ wr.rowIs w.heap.size 42 3 Opt.wv ∧ Below w.heap.size w wr) (fun _ i _ => s.size - (intOf i).toNat)
    case atStart =>
      refine ⟨0, Nat.zero_le _, rfl, rfl, World.rowIs_alloc _ _ _ _ ?_, (Below.refl _ _).alloc (Nat.le_refl _) _⟩
      intro i hi
      have : i = 0 ∨ i = 1 ∨ i = 2 := by simp at hi; omega
      rcases this with rfl | rfl | rfl <;> rfl
    case round =>
      obtain ⟨k, hk, rfl, rfl, hrow, hb⟩ := hrel
      have hsk := Opt.sum_bd _ (Opt.valid_take _ HV.out k)
      rw [Opt.take_len s k hk] at hsk
      by_cases hlt : k < s.size
      · have hcb := u8_le s[k]
        have hsn := Opt.take_snoc s k hlt
        have hsn2 : Opt.sum (s.data.toList.take (k + 1)) = Opt.sum (s.data.toList.take k) + Opt.wt k * Opt.val (s[k].toNat : Int) := by rw [hsn, Opt.sum_snoc, Opt.take_len s k hk]
        have HS := Lib.hid hsn2; clear hsn2 hsn
        have hvb := Opt.val_bd (s[k].toNat : Int)
        have hwb := Opt.wt_bd k
        have hm := Opt.mul_bd (a := Opt.wt k) (b := Opt.val (s[k].toNat : Int)) ⟨by omega, by omega⟩ hvb
        have hc : wr.cell? ⟨w.heap.size, k % 3, none⟩ = some (.int .i64 (Opt.wt k)) := by
          rw [← Opt.wt_of_mod]; exact hrow.cell (i := k % 3) (Nat.mod_lt _ (by omega))
        have l1 : IntKind.i64.wrap (Opt.wt k * Opt.val (s[k].toNat : Int)) = Opt.wt k * Opt.val (s[k].toNat : Int) := IntWalk.i64_in _ (by omega)
        have l2 : IntKind.i64.wrap (Opt.sum (s.data.toList.take k) + Opt.wt k * Opt.val (s[k].toNat : Int)) = Opt.sum (s.data.toList.take k) + Opt.wt k * Opt.val (s[k].toNat : Int) := IntWalk.i64_in _ (by omega)
        go_wp2_with fail
        go_quiet ((go_at_call 12; exact quiet_l (ovalue _ _ hcb.1 hcb.2)))
        go_wp2_with fail
        go_roundw
        case rel => exact ⟨k + 1, by omega, by go_num, by rw [HS.out], rowIs_drewN hrow _, below_drewN hb _⟩
        case measure => simp [intOf]; omega
      · obtain rfl : k = s.size := by omega
        have he : Utf8.encode (48 + Opt.sum (s.data.toList.take s.size) % 10) = ⟨#[Opt.digit s.data.toList]⟩ := by
          rw [Opt.enc_ascii _ (by omega) (by omega), Opt.take_all]; rfl
        have HE := Lib.hid he; clear he
        go_wp2_with fail
        go_ret2
        exact ⟨Opt.ret_si HE.out rfl, hb⟩

set_option maxHeartbeats 800000 in
theorem rdigit (s : ByteArray) (w : World) (hs : s.size ≤ 140737488351232) :
    Calls Tryd.prog 10 #[.string s] w fun e w' => e = .returned (.tuple #[.string (Opt.digS s), .int .i64 (Opt.digE s)]) ∧ Below w.heap.size w w' := by
  have hs' : s.size ≤ maxLen := by unfold maxLen; omega
  cases hv : Opt.valid s.data.toList with
  | false =>
    have e1 : Opt.digS s = ⟨#[]⟩ := by unfold Opt.digS; simp [hv]
    have e2 : Opt.digE s = 12 := by unfold Opt.digE; simp [hv]
    rw [e1, e2]; clear e1 e2
    have HV := Lib.hid hv; clear hv
    go_enter Tryd.func10, Tryd.ntmps10
    go_wp2_with fail
    refine (rvalid10 _ _ hs').mono ?_; rintro e w' ⟨rfl, rfl⟩; rw [HV.out]
    go_wp2_with fail
    go_ret2
    exact ⟨rfl, Below.refl _ _⟩
  | true =>
    have hsb := Opt.sum_bd _ hv
    rw [Opt.size_len] at hsb
    have e1 : Opt.digS s = ⟨#[Opt.digit s.data.toList]⟩ := by unfold Opt.digS; simp [hv]
    have e2 : Opt.digE s = 0 := by unfold Opt.digE; simp [hv]
    rw [e1, e2]; clear e1 e2
    have HV := Lib.hid hv; clear hv
    go_enter Tryd.func10, Tryd.ntmps10
    go_wp2_with fail
    refine (rvalid10 _ _ hs').mono ?_; rintro e w' ⟨rfl, rfl⟩; rw [HV.out]
    go_wp2_with fail
    go_loopw [4, 5] (fun sm i wr => ∃ k : Nat, k ≤ s.size ∧ i = .int .i64 k ∧ sm = .int .i64 (Opt.sum (s.data.toList.take k)) ∧ Below w.heap.size w wr) (fun _ i _ => s.size - (intOf i).toNat)
    case atStart => exact ⟨0, Nat.zero_le _, rfl, rfl, Below.refl _ _⟩
    case round =>
      obtain ⟨k, hk, rfl, rfl, hb⟩ := hrel
      have hsk := Opt.sum_bd _ (Opt.valid_take _ HV.out k)
      rw [Opt.take_len s k hk] at hsk
      by_cases hlt : k < s.size
      · have hcb := u8_le s[k]
        have hsn := Opt.take_snoc s k hlt
        have hsn2 : Opt.sum (s.data.toList.take (k + 1)) = Opt.sum (s.data.toList.take k) + Opt.val (s[k].toNat : Int) * Opt.wt k := by rw [hsn, Opt.sum_snoc, Opt.take_len s k hk, Int.mul_comm]
        have HS := Lib.hid hsn2; clear hsn2 hsn
        have hvb := Opt.val_bd (s[k].toNat : Int)
        have hwb := Opt.wt_bd k
        have hm := Opt.mul_bd (a := Opt.wt k) (b := Opt.val (s[k].toNat : Int)) ⟨by omega, by omega⟩ hvb
        rw [Int.mul_comm] at hm
        have hix : ∀ W : World, (Instr.index 42 (.agg #[.int .i64 7, .int .i64 3, .int .i64 1]) (.int .i64 ((k : Int) % 3))).run Tryd.prog W = .ok (.int .i64 (Opt.wt k)) W := fun W => by
          rcases Opt.wt_mod k with ⟨e, h⟩ | ⟨e, h⟩ | ⟨e, h⟩
          · rw [e, show (k : Int) % 3 = 0 by omega]; kernel_rfl
          · rw [e, show (k : Int) % 3 = 1 by omega]; kernel_rfl
          · rw [e, show (k : Int) % 3 = 2 by omega]; kernel_rfl
        have l1 : IntKind.i64.wrap (Opt.val (s[k].toNat : Int) * Opt.wt k) = Opt.val (s[k].toNat : Int) * Opt.wt k := IntWalk.i64_in _ (by omega)
        have l2 : IntKind.i64.wrap (Opt.sum (s.data.toList.take k) + Opt.val (s[k].toNat : Int) * Opt.wt k) = Opt.sum (s.data.toList.take k) + Opt.val (s[k].toNat : Int) * Opt.wt k := IntWalk.i64_in _ (by omega)
        go_wp2_with fail
        go_quiet ((go_at_call 13; exact quiet_l (rvalue _ _ hcb.1 hcb.2)))
        go_wp2_with fail
        go_roundw
        case rel => exact ⟨k + 1, by omega, by go_num, by rw [HS.out], below_drewN hb _⟩
        case measure => simp [intOf]; omega
      · obtain rfl : k = s.size := by omega
        have he : b8 (48 + Opt.sum (s.data.toList.take s.size) % 10) = Opt.digit s.data.toList := by rw [Opt.take_all]; rfl
        have hcv := conv_one (P := Tryd.prog) wr 35 9 5 (48 + Opt.sum (s.data.toList.take s.size) % 10) (by omega) 1 Tryd.underlying35 Tryd.underlying5 Tryd.underlying9
        have HE := Lib.hid he; clear he
        go_wp2_with fail
        go_ret2
        exact ⟨Opt.ret_si (by rw [HE.out]) rfl, hb.alloc hb.size _⟩
end Go.Proofs.YtdejgomljelnlaaDoor
