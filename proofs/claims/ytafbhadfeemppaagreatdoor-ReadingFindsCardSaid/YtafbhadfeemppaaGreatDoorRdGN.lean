/- Chapter 12: several texts in one (RdRef, RdSame2). -/
import Derived.Test.YtafbhadfeemppaaGreatDoorRdGA
import Derived.BigQuiet
namespace Go.Proofs.YtafbhadfeemppaaGreatDoor
open Go.RowKit

/-- The bytes below c that stand in l, ascending. -/
def srtN (l : List UInt8) (c : Nat) : List UInt8 := ((List.range c).map UInt8.ofNat).filter fun d => l.contains d
theorem srtN_succ (l : List UInt8) (c : Nat) : srtN l (c + 1) = srtN l c ++ if l.contains (UInt8.ofNat c) = true then [UInt8.ofNat c] else [] := by
  unfold srtN
  rw [List.range_succ, List.map_append, List.filter_append]
  congr 1
  rw [List.map_cons, List.map_nil, List.filter_cons, List.filter_nil]
theorem srtN_le (l : List UInt8) (c : Nat) : (srtN l c).length ≤ c := by
  unfold srtN
  refine Nat.le_trans (List.length_filter_le _ _) ?_
  rw [List.length_map, List.length_range]; exact Nat.le_refl _
def srtS (s : ByteArray) (c : Nat) : ByteArray := ⟨(srtN s.data.toList c).toArray⟩
theorem srtS_size (s : ByteArray) (c : Nat) : (srtS s c).size ≤ c := by unfold srtS; rw [str_size]; exact srtN_le _ _
theorem srtS_miss {s : ByteArray} {c : Nat} (hc : c < 256) (h : ∀ j (hj : j < s.size), s[j].toNat ≠ c) : srtS s (c + 1) = srtS s c := by
  unfold srtS
  rw [srtN_succ, if_neg, List.append_nil]
  intro hm
  rw [List.contains_iff_mem] at hm
  obtain ⟨j, hj, e⟩ := List.getElem_of_mem hm
  have hj' : j < s.size := by rw [← Opt.size_len]; exact hj
  refine h j hj' ?_
  have e2 : s[j] = UInt8.ofNat c := e
  rw [e2]; exact UInt8.toNat_ofNat_of_lt' (by simpa using hc)
theorem srtS_hit {s : ByteArray} {c j : Nat} (hj : j < s.size) (h : s[j].toNat = c) : srtS s (c + 1) = srtS s c ++ s.extract j (j + 1) := by
  have e2 : s[j] = UInt8.ofNat c := by rw [← h]; simp
  rw [sharpL_get hj, e2]
  unfold srtS
  rw [srtN_succ, if_pos]
  · apply str_eq; simp
  · rw [List.contains_iff_mem, ← e2]
    exact List.getElem_mem (l := s.data.toList) (by rw [Opt.size_len]; exact hj)
set_option maxRecDepth 100000 in
set_option maxHeartbeats 4000000 in
theorem rsorted (s : ByteArray) (w : World) (hs : s.size ≤ 140737488351232) :
    Calls Tryz.prog 50 #[.string s] w fun e w' => e = .returned (.string ⟨(Rd.srt s.data.toList).toArray⟩) ∧ w = w' := by
  go_enter Tryz.func50, Tryz.ntmps50
  go_wp2_with fail
  go_loop [3, 4] (fun v3 v4 => ∃ c : Nat, c ≤ 256 ∧ v4 = .int .i64 c ∧ v3 = .string (srtS s c)) (fun _ v4 => 256 - (intOf v4).toNat)
  case atStart => exact ⟨0, Nat.zero_le _, rfl, rfl⟩
  case round =>
    obtain ⟨c, hc, rfl, rfl⟩ := hrel
    by_cases hlt : c < 256
    · have HLT := Lib.hid hlt
      obtain ⟨q, hq⟩ : ∃ q, srtS s c = q := ⟨_, rfl⟩
      have hqs := srtS_size s c
      rw [hq] at hqs ⊢
      have HQ := Lib.hid hq
      clear hq
      go_wp2_with fail
      go_loop [3, 5] (fun v3 v5 => ∃ i : Nat, i ≤ s.size ∧ v5 = .int .i64 i ∧ v3 = .string q ∧ ∀ j (hj : j < s.size), j < i → s[j].toNat ≠ c) (fun _ v5 => s.size - (intOf v5).toNat)
      case atStart => exact ⟨0, Nat.zero_le _, rfl, rfl, fun j hj h => absurd h (Nat.not_lt_zero _)⟩
      case round =>
        obtain ⟨i, hi, rfl, rfl, hno⟩ := hrel
        have HNO := Lib.hid hno
        clear hno
        by_cases hit : i < s.size
        · obtain ⟨b, hb⟩ : ∃ b : Nat, (s[i]'hit).toNat = b := ⟨_, rfl⟩
          have HB := Lib.hid hb; have HIT := Lib.hid hit
          obtain ⟨z, hz⟩ : ∃ z : ByteArray, s.extract i (i + 1) = z := ⟨_, rfl⟩
          have hzs : z.size = 1 := by rw [← hz, sharpL_get hit]; rfl
          have HZ := Lib.hid hz
          by_cases hbc : b = c
          · have HE := Lib.hid (show srtS s (c + 1) = q ++ z by rw [srtS_hit HIT.out (HB.out.trans hbc), HQ.out, HZ.out])
            subst hbc
            have hb2 : (b : Int) ≤ 255 := by have := HLT.out; omega
            clear hz
            go_wp2_with fail
            go_round
            case rel => exact ⟨_ + 1, HLT.out, by go_num, by rw [HE.out, HZ.out]⟩
            case measure => have := HLT.out; simp [intOf]; omega
          · have hbi : ¬ ((b : Int) = (c : Int)) := by omega
            have hb2 : (b : Int) ≤ 255 := by have := (s[i]'hit).toNat_lt; rw [hb] at this; omega
            have HBC := Lib.hid hbc
            clear hz hbc
            go_wp2_with fail
            go_round
            case rel =>
              refine ⟨i + 1, HIT.out, by go_num, rfl, fun j hj h => ?_⟩
              by_cases e : j = i
              · subst e; rw [HB.out]; exact HBC.out
              · exact HNO.out j hj (by omega)
            case measure => have := HIT.out; simp [intOf]; omega
        · obtain rfl : i = s.size := by omega
          have HE := Lib.hid (show srtS s (c + 1) = q by rw [srtS_miss HLT.out (fun j hj => HNO.out j hj hj), HQ.out])
          go_wp2_with fail
          go_round
          case rel => exact ⟨c + 1, HLT.out, by go_num, by rw [HE.out]⟩
          case measure => have := HLT.out; simp [intOf]; omega
    · obtain rfl : c = 256 := by omega
      go_wp2_with fail
      go_ret
      exact ⟨rfl, rfl⟩
end Go.Proofs.YtafbhadfeemppaaGreatDoor

namespace Go.Proofs.YtafbhadfeemppaaGreatDoor
open Go.RowKit

set_option maxRecDepth 100000 in
set_option maxHeartbeats 4000000 in
theorem rsame12 (w : World) (A B : Option Addr) (K : List (List ByteArray)) (c d : Nat) (hA : GridAt w A K) (hB : GridAt w B K) (hK : K.length ≤ 1099511627776) (hr : ∀ R ∈ K, R.length ≤ 1099511627776) :
    Calls Tryz.prog 21 #[.slice A K.length c, .slice B K.length d] w fun e w' => e = .returned (.bool true) ∧ Below w.heap.size w w' := by
  have HA := Lib.hid hA; have HB := Lib.hid hB; have HR := Lib.hid hr
  clear hA hB hr
  have e1 : ((K.length : Int) != (K.length : Int)) = false := by rw [bne_eq_false_iff_eq]
  go_enter Tryz.func21, Tryz.ntmps21
  go_wp2_with fail
  clear e1
  go_loopw [5] (fun i wr => ∃ j : Nat, j ≤ K.length ∧ i = .int .i64 j ∧ ∃ n, wr = w.drewN n) (fun i _ => K.length - (intOf i).toNat)
  case atStart => exact ⟨0, Nat.zero_le _, rfl, 0, rfl⟩
  case round =>
    obtain ⟨j, hj, rfl, n, rfl⟩ := hrel
    by_cases hlt : j < K.length
    · obtain ⟨b, off, rfl, hc⟩ : ∃ b off, A = some ⟨b, off, none⟩ ∧ ∀ i (h : i < K.length), ∃ Ai ci, w.cell? ⟨b, off + i, none⟩ = some (.slice Ai K[i].length ci) ∧ TextsAt w Ai K[i] := by
        rcases HA.out with h | h
        · omega
        · exact h
      obtain ⟨b2, off2, rfl, hc2⟩ : ∃ b off, B = some ⟨b, off, none⟩ ∧ ∀ i (h : i < K.length), ∃ Ai ci, w.cell? ⟨b, off + i, none⟩ = some (.slice Ai K[i].length ci) ∧ TextsAt w Ai K[i] := by
        rcases HB.out with h | h
        · omega
        · exact h
      obtain ⟨Ai, ci, e0, h0⟩ := hc j hlt
      obtain ⟨Bi, di, e1, h1⟩ := hc2 j hlt
      have hrl := HR.out _ (List.getElem_mem hlt)
      obtain ⟨R, hR⟩ : ∃ R, K[j]'hlt = R := ⟨_, rfl⟩
      rw [hR] at e0 e1 h0 h1 hrl
      have HS := Lib.hid (show ∀ m, Calls Tryz.prog 22 #[.slice Ai R.length ci, .slice Bi R.length di] (w.drewN (n + m)) fun e w' => e = .returned (.bool true) ∧ ∃ k, w' = w.drewN (n + k) from fun m => by
        have hb : Below w.heap.size w (w.drewN (n + m)) := below_drewN (Below.refl _ _) _
        refine (rsame _ Ai Bi R R ci di (h0.later hb) (h1.later hb) hrl hrl).mono ?_
        rintro e w' ⟨h, k, h'⟩
        exact ⟨by rw [h, decide_eq_true rfl], m + k, by rw [h', World.drewN_drewN, Nat.add_assoc]⟩)
      have HLT := Lib.hid hlt
      have hi : (j : Int) < (K.length : Int) := by omega
      clear hc hc2 h0 h1 hR hrl hlt
      go_wp2_with fail
      go_quiet (first | (go_at_call 22; exact HS.out _))
      go_wp2_with fail
      go_roundw
      case rel => exact ⟨j + 1, HLT.out, by go_num, _, rfl⟩
      case measure => have := HLT.out; simp [intOf]; omega
    · obtain rfl : j = K.length := by omega
      have hi : ¬ ((K.length : Int) < (K.length : Int)) := by omega
      clear hlt hj
      go_wp2_with fail
      go_ret
      exact ⟨rfl, below_drewN (Below.refl _ _) n⟩
end Go.Proofs.YtafbhadfeemppaaGreatDoor
