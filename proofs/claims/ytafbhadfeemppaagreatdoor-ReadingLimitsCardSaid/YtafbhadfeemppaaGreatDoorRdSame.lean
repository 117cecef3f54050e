/- Chapter 12: the walk of Same (as in chapter 11). -/
import Derived.Test.YtafbhadfeemppaaGreatDoorZonParseW
namespace Go.Proofs.YtafbhadfeemppaaGreatDoor
open Go.RowKit

set_option maxRecDepth 100000 in
set_option maxHeartbeats 4000000 in
/-- Same of two rows of texts. -/
theorem rsame (w : World) (A B : Option Addr) (K M : List ByteArray) (c d : Nat) (hA : TextsAt w A K) (hB : TextsAt w B M) (hK : K.length ≤ 1099511627776) (hM : M.length ≤ 1099511627776) :
    Calls Tryz.prog 22 #[.slice A K.length c, .slice B M.length d] w fun e w' => e = .returned (.bool (decide (K = M))) ∧ ∃ n, w' = w.drewN n := by
  have HA := Lib.hid hA; have HB := Lib.hid hB
  clear hA hB
  by_cases hl : K.length = M.length
  · have HL := Lib.hid hl
    have e1 : ((K.length : Int) != (M.length : Int)) = false := by rw [bne_eq_false_iff_eq]; omega
    obtain ⟨q, hq⟩ : ∃ q, decide (K = M) = q := ⟨_, rfl⟩
    rw [hq]
    have HQ := Lib.hid hq
    clear hq hl
    go_enter Tryz.func22, Tryz.ntmps22
    go_wp2_with fail
    clear e1
    go_loopw [5] (fun i wr => ∃ j : Nat, j ≤ K.length ∧ i = .int .i64 j ∧ (∀ m (h : m < j) (h1 : m < K.length) (h2 : m < M.length), K[m] = M[m]) ∧ ∃ n, wr = w.drewN n) (fun i _ => K.length - (intOf i).toNat)
    case atStart => exact ⟨0, Nat.zero_le _, rfl, fun m h => absurd h (by omega), 0, rfl⟩
    case round =>
      obtain ⟨j, hj, rfl, heq, n, rfl⟩ := hrel
      have HEQ := Lib.hid heq
      clear heq
      by_cases hlt : j < K.length
      · have hlt2 : j < M.length := by have := HL.out; omega
        obtain ⟨b1, o1, rfl, d1⟩ := HA.out.cell j hlt
        obtain ⟨b2, o2, rfl, d2⟩ := HB.out.cell j hlt2
        have i1 : (j : Int) < (K.length : Int) := by omega
        have i2 : (j : Int) < (M.length : Int) := by omega
        obtain ⟨s, hs⟩ : ∃ s, K[j]'hlt = s := ⟨_, rfl⟩
        obtain ⟨t, ht⟩ : ∃ t, M[j]'hlt2 = t := ⟨_, rfl⟩
        rw [hs] at d1; rw [ht] at d2
        have HS := Lib.hid (And.intro hs ht); have HLT := Lib.hid (And.intro hlt hlt2)
        clear hs ht
        by_cases hst : s = t
        · subst hst
          have e2 : (s.toList != s.toList) = false := by rw [bne_eq_false_iff_eq]
          go_wp2_with fail
          go_quiet (fail)
          go_wp2_with fail
          go_roundw
          case rel =>
            refine ⟨j + 1, HLT.out.1, by go_num, fun m h h1 h2 => ?_, _, rfl⟩
            rcases Nat.lt_or_ge m j with g | g
            · exact HEQ.out m g h1 h2
            · obtain rfl : m = j := by omega
              exact HS.out.1.trans HS.out.2.symm
          case measure => have := HLT.out.1; simp [intOf]; omega
        · have e2 : (s.toList != t.toList) = true := by
            rw [bne_iff_ne]; intro h; apply hst
            rw [ByteArray.toList_eq, ByteArray.toList_eq] at h
            exact str_eq h
          have e3 : (s.toList == t.toList) = false := by rw [bne, Bool.not_eq_true'] at e2; exact e2
          have HR := Lib.hid (show q = false by
            rw [← HQ.out, decide_eq_false_iff_not]
            intro h
            subst h
            exact hst (HS.out.1.symm.trans HS.out.2))
          clear hst
          go_wp2_with fail
          go_quiet (fail)
          go_wp2_with fail
          go_ret
          have hr := HR.out
          subst hr
          exact ⟨rfl, _, World.drewN_drewN _ _ _⟩
      · obtain rfl : j = K.length := by omega
        have hi : ¬ ((K.length : Int) < (K.length : Int)) := by omega
        have HR := Lib.hid (show q = true by
          rw [← HQ.out, decide_eq_true_eq]
          exact List.ext_getElem HL.out fun m h1 h2 => HEQ.out m h1 h1 h2)
        clear hlt hj
        go_wp2_with fail
        go_ret
        have hr := HR.out
        subst hr
        exact ⟨rfl, _, rfl⟩
  · have e1 : ((K.length : Int) != (M.length : Int)) = true := by rw [bne_iff_ne]; omega
    have HR := Lib.hid (show decide (K = M) = false by rw [decide_eq_false_iff_not]; intro h; exact hl (by rw [h]))
    clear hl
    rw [HR.out]
    go_enter Tryz.func22, Tryz.ntmps22
    go_wp2_with fail
    go_ret
    exact ⟨rfl, 0, rfl⟩
theorem rsame_same (w : World) (A B : Option Addr) (K : List ByteArray) (c d : Nat) (hA : TextsAt w A K) (hB : TextsAt w B K) (hK : K.length ≤ 1099511627776) :
    Calls Tryz.prog 22 #[.slice A K.length c, .slice B K.length d] w fun e w' => e = .returned (.bool true) ∧ Below w.heap.size w w' :=
  (rsame w A B K K c d hA hB hK hK).mono fun e w' ⟨h1, n, h2⟩ => ⟨by rw [h1, decide_eq_true rfl], by rw [h2]; exact below_drewN (Below.refl _ _) n⟩
theorem own_texts {w : World} {base : Nat} {v : Value} {K : List ByteArray} (h : w.ownsRow base 9 1 v K.length (K.map .string)) : ∃ A c, v = .slice A K.length c ∧ K.length ≤ c ∧ TextsAt w A K := by
  rcases h.2 with ⟨rfl, h0⟩ | ⟨g, cap, cur, rfl, h1, h2, h3, h4, h5, h6⟩
  · have : K = [] := List.eq_nil_of_length_eq_zero h0
    subst this
    exact ⟨none, 0, rfl, Nat.le_refl _, ⟨by simp, .inl rfl⟩⟩
  · refine ⟨_, cap, rfl, h3, ⟨by simp, .inr ⟨g, 0, rfl, fun j u hu => ?_⟩⟩⟩
    have hj : j < K.length := by have := (List.getElem?_eq_some_iff.1 hu).1; rwa [List.length_map] at this
    rw [Nat.zero_add]
    exact (World.ownsRow.cellAt h j (by omega)).trans hu
end Go.Proofs.YtafbhadfeemppaaGreatDoor
