/- Chapter 11: the walk of the program's born. -/
import Derived.Test.YtelngghecmkipaaGreatDoorZonGA
import Derived.Deep.LoopGhost
namespace Go.Proofs.YtelngghecmkipaaGreatDoor
open Go.RowKit

theorem bad_pair {s : ByteArray} {q : Bool} {j : Nat} (hq : q = (Zn.pairOk 0 (pairAt s 0) && (Zn.pairOk 1 (pairAt s 2) && Zn.pairOk 2 (pairAt s 4)))) (hj : j < 3) (h : Zn.pairOk j (pairAt s (2 * j)) = false) : false = q := by
  have h3 : j = 0 ∨ j = 1 ∨ j = 2 := by omega
  rcases h3 with rfl | rfl | rfl
  · rw [hq, show pairAt s 0 = pairAt s (2 * 0) from rfl, h]; rfl
  · rw [hq, show pairAt s 2 = pairAt s (2 * 1) from rfl, h, Bool.false_and, Bool.and_false]
  · rw [hq, show pairAt s 4 = pairAt s (2 * 2) from rfl, h, Bool.and_false, Bool.and_false]
theorem cut_is (s : ByteArray) (i : Nat) (h : i + 2 ≤ s.size) : ((s.extract i (i + 2)).toList == [60, 60]) = decide (s[i]'(by omega) = 60 ∧ s[i + 1]'(by omega) = 60) := by
  obtain ⟨hz, h0, h1⟩ := cut_two s i (i + 2) rfl h
  rw [two_is _ hz, h0, h1]
set_option maxRecDepth 100000 in
set_option maxHeartbeats 4000000 in
theorem zborn (s : ByteArray) (w : World) :
    Calls Tryz.prog 61 #[.string s] w fun e w' => e = .returned (.bool (Zn.birthB s)) ∧ w = w' := by
  by_cases h6 : s.size = 6
  · have hq := birth_pairs s h6
    obtain ⟨q, hq'⟩ : ∃ q, Zn.birthB s = q := ⟨_, rfl⟩
    rw [hq'] at hq ⊢
    have HQ := Lib.hid hq
    have hn : ((s.size : Int) != 6) = false := by simp; omega
    have H6 := Lib.hid h6
    clear hq hq' h6
    have a0 : ∀ w, (Instr.index 111 (.agg #[.int .i64 99, .int .i64 12, .int .i64 31]) (.int .i64 0)).run Tryz.prog w = .ok (.int .i64 99) w := fun _ => by kernel_rfl
    have a1 : ∀ w, (Instr.index 111 (.agg #[.int .i64 99, .int .i64 12, .int .i64 31]) (.int .i64 1)).run Tryz.prog w = .ok (.int .i64 12) w := fun _ => by kernel_rfl
    have a2 : ∀ w, (Instr.index 111 (.agg #[.int .i64 99, .int .i64 12, .int .i64 31]) (.int .i64 2)).run Tryz.prog w = .ok (.int .i64 31) w := fun _ => by kernel_rfl
    go_enter Tryz.func61, Tryz.ntmps61
    go_wp2
    go_step3
    go_wp2
    go_step3
    go_wp2
    go_loopg [12] 3 (fun g i wr => ∃ j : Nat, j + g = 3 ∧ i = .int .i64 j ∧ (∀ i, i < j → Zn.pairOk i (pairAt s (2 * i)) = true) ∧ w = wr)
    case atStart => exact ⟨0, by omega, rfl, fun i h => absurd h (by omega), rfl⟩
    case round =>
      obtain ⟨j, hjg, rfl, hok, rfl⟩ := hrel
      have HOK := Lib.hid hok
      clear hok
      cases gk with
      | zero =>
        obtain rfl : j = 3 := by omega
        have hqt : true = q := by rw [HQ.out, HOK.out 0 (by omega), show pairAt s 2 = pairAt s (2 * 1) from rfl, HOK.out 1 (by omega), show pairAt s 4 = pairAt s (2 * 2) from rfl, HOK.out 2 (by omega)]; rfl
        subst hqt
        clear HQ HOK
        go_wp2
        try rw [Exit.noGoto_ret]
        go_ret
        exact ⟨rfl, rfl⟩
      | succ g =>
        have hj3 : j < 3 := by omega
        obtain ⟨mo, hmo, aj⟩ : ∃ mo : Int, ((j = 0 ∧ mo = 99) ∨ (j = 1 ∧ mo = 12) ∨ (j = 2 ∧ mo = 31)) ∧ ∀ w, (Instr.index 111 (.agg #[.int .i64 99, .int .i64 12, .int .i64 31]) (.int .i64 (j : Int))).run Tryz.prog w = .ok (.int .i64 mo) w := by
          have hj : j = 0 ∨ j = 1 ∨ j = 2 := by omega
          rcases hj with rfl | rfl | rfl
          · exact ⟨99, .inl ⟨rfl, rfl⟩, a0⟩
          · exact ⟨12, .inr (.inl ⟨rfl, rfl⟩), a1⟩
          · exact ⟨31, .inr (.inr ⟨rfl, rfl⟩), a2⟩
        have H6' := H6.out
        have hji : (j : Int) < 3 := by omega
        have hj0 : (0 : Int) ≤ (j : Int) := by omega
        have z0 : 2 * j < s.size := by omega
        have z1 : 2 * j + 1 < s.size := by omega
        have HPA := Lib.hid (pairAt_eq s (2 * j) z1)
        have HBAD := Lib.hid (fun h : Zn.pairOk j (pairAt s (2 * j)) = false => bad_pair HQ.out hj3 h)
        obtain ⟨ca, hca⟩ : ∃ ca, s[2 * j]'z0 = ca := ⟨_, rfl⟩
        obtain ⟨cb, hcb⟩ : ∃ cb, s[2 * j + 1]'z1 = cb := ⟨_, rfl⟩
        have hcut := cut_is s (2 * j) (by omega)
        rw [hca, hcb] at hcut
        have HCUT := Lib.hid hcut
        have HCA := Lib.hid hca; have HCB := Lib.hid hcb
        have hda := u8_le ca; have hdb := u8_le cb
        have HMO := Lib.hid hmo; have HJG := Lib.hid hjg; have HJ3 := Lib.hid hj3
        have t0 : ((2 : Int) * (j : Int)).toNat = 2 * j := by omega
        have t1 : ((2 : Int) * (j : Int) + 1).toNat = 2 * j + 1 := by omega
        have t2 : ((2 : Int) * (j : Int) + 2).toNat = 2 * j + 2 := by omega
        have s0 : (2 : Int) * (j : Int) < (s.size : Int) := by omega
        have s1 : (2 : Int) * (j : Int) + 1 < (s.size : Int) := by omega
        have s2 : (2 : Int) * (j : Int) + 2 ≤ (s.size : Int) := by omega
        clear a0 a1 a2 hmo hjg hcut hca hcb H6' hj3
        go_wp2
        clear aj
        go_loopg [16, 5] 2 (fun g2 k n wr => ∃ m : Nat, m + g2 = 2 ∧ k = .int .i64 m ∧ ((m = 0 ∧ n = .int .i64 0) ∨ (m = 1 ∧ Zn.isDig ca = true ∧ n = .int .i64 ((ca.toNat : Int) - 48)) ∨ (m = 2 ∧ Zn.isDig ca = true ∧ Zn.isDig cb = true ∧ n = .int .i64 (10 * ((ca.toNat : Int) - 48) + ((cb.toNat : Int) - 48)))) ∧ w = wr)
        case atStart => exact ⟨0, rfl, rfl, .inl ⟨rfl, rfl⟩, rfl⟩
        case round =>
          obtain ⟨m, hmg, rfl, hst, rfl⟩ := hrel
          rcases hst with ⟨rfl, rfl⟩ | ⟨rfl, hdA, rfl⟩ | ⟨rfl, hdA, hdB, rfl⟩
          · obtain rfl : gk = 1 + 1 := by omega
            clear hmg
            have c0 := HCA.out
            by_cases hA : 48 ≤ (ca.toNat : Int) ∧ (ca.toNat : Int) ≤ 57
            · have HDA := Lib.hid ((dig_iff ca).2 hA)
              obtain ⟨x1, x2⟩ := hA
              go_wp2
              go_roundg 1
              case measure => omega
              case rel => exact ⟨1, by omega, by go_num, .inr (.inl ⟨rfl, HDA.out, by go_num⟩), rfl⟩
            · have hnd : Zn.isDig ca = false := by rw [Bool.eq_false_iff]; exact fun h => hA ((dig_iff ca).1 h)
              by_cases h60 : ca = 60 ∧ cb = 60
              · have hc := HCUT.out
                rw [decide_eq_true h60] at hc
                have HPOK := Lib.hid (show Zn.pairOk j (pairAt s (2 * j)) = true by
                  rw [← HPA.out, HCA.out, HCB.out]
                  have hp : Zn.pair ca cb = -1 := by unfold Zn.pair; rw [if_pos h60]
                  rw [hp]; unfold Zn.pairOk; split
                  · rfl
                  · split <;> rfl)
                obtain ⟨h61, h62⟩ := h60
                have x1 : (ca.toNat : Int) = 60 := by rw [h61]; rfl
                have x2 : 48 ≤ (ca.toNat : Int) := by omega
                have x3 : 57 < (ca.toNat : Int) := by omega
                clear hA hnd h61 h62 x1
                go_wp2
                go_roundg g
                case measure => omega
                case rel => exact ⟨j + 1, by have := HJG.out; omega, by go_num, fun i hi => by
                    rcases Nat.lt_or_ge i j with h | h
                    · exact HOK.out i h
                    · obtain rfl : i = j := by omega
                      exact HPOK.out, rfl⟩
              · have hc := HCUT.out
                rw [decide_eq_false h60] at hc
                have HPNO := Lib.hid (show Zn.pairOk j (pairAt s (2 * j)) = false by
                  rw [← HPA.out, HCA.out, HCB.out]
                  have hp : Zn.pair ca cb = -2 := by unfold Zn.pair; rw [if_neg h60, hnd]; rfl
                  rw [hp]; unfold Zn.pairOk; split
                  · rfl
                  · split <;> rfl)
                clear hnd h60
                by_cases x1 : (ca.toNat : Int) < 48
                · go_wp2
                  (try rw [Exit.noGoto_ret])
                  go_ret
                  exact ⟨ret_bool (HBAD.out HPNO.out), rfl⟩
                · have x2 : 48 ≤ (ca.toNat : Int) := by omega
                  have x3 : 57 < (ca.toNat : Int) := by omega
                  clear hA
                  go_wp2
                  (try rw [Exit.noGoto_ret])
                  go_ret
                  exact ⟨ret_bool (HBAD.out HPNO.out), rfl⟩
          · obtain rfl : gk = 0 + 1 := by omega
            clear hmg
            have c1 := HCB.out
            have hA := (dig_iff ca).1 hdA
            have HDA := Lib.hid hdA
            obtain ⟨y1, y2⟩ := hA
            clear hdA
            by_cases hB : 48 ≤ (cb.toNat : Int) ∧ (cb.toNat : Int) ≤ 57
            · have HDB := Lib.hid ((dig_iff cb).2 hB)
              obtain ⟨x1, x2⟩ := hB
              go_wp2
              go_roundg 0
              case measure => omega
              case rel => exact ⟨2, by omega, by go_num, .inr (.inr ⟨rfl, HDA.out, HDB.out, by go_num⟩), rfl⟩
            · have hnd : Zn.isDig cb = false := by rw [Bool.eq_false_iff]; exact fun h => hB ((dig_iff cb).1 h)
              have hne : ¬ (ca = 60 ∧ cb = 60) := fun h => by rw [h.1] at y2; exact absurd y2 (by decide)
              have hc := HCUT.out
              rw [decide_eq_false hne] at hc
              have HPNO := Lib.hid (show Zn.pairOk j (pairAt s (2 * j)) = false by
                rw [← HPA.out, HCA.out, HCB.out]
                have hp : Zn.pair ca cb = -2 := by unfold Zn.pair; rw [if_neg hne, hnd, Bool.and_false]; rfl
                rw [hp]; unfold Zn.pairOk; split
                · rfl
                · split <;> rfl)
              clear hnd hne y1 y2
              by_cases x1 : (cb.toNat : Int) < 48
              · go_wp2
                (try rw [Exit.noGoto_ret])
                go_ret
                exact ⟨ret_bool (HBAD.out HPNO.out), rfl⟩
              · have x2 : 48 ≤ (cb.toNat : Int) := by omega
                have x3 : 57 < (cb.toNat : Int) := by omega
                clear hB
                go_wp2
                (try rw [Exit.noGoto_ret])
                go_ret
                exact ⟨ret_bool (HBAD.out HPNO.out), rfl⟩
          · obtain rfl : gk = 0 := by omega
            clear hmg
            have hA := (dig_iff ca).1 hdA
            have hB := (dig_iff cb).1 hdB
            obtain ⟨nv, hnv⟩ : ∃ nv, 10 * ((ca.toNat : Int) - 48) + ((cb.toNat : Int) - 48) = nv := ⟨_, rfl⟩
            have hp : pairAt s (2 * j) = nv := by
              rw [← HPA.out, HCA.out, HCB.out, ← hnv]
              have hne : ¬ (ca = 60 ∧ cb = 60) := fun h => by have y2 := hA.2; rw [h.1] at y2; exact absurd y2 (by decide)
              unfold Zn.pair; rw [if_neg hne, hdA, hdB]; rfl
            have n0 : 0 ≤ nv := by omega
            have n1 : nv ≤ 99 := by omega
            rw [hnv]
            have HP := Lib.hid hp
            clear hA hB hdA hdB hnv hp
            by_cases hgt : mo < nv
            · have HPNO := Lib.hid (show Zn.pairOk j (pairAt s (2 * j)) = false by
                rw [HP.out]
                rcases HMO.out with ⟨rfl, rfl⟩ | ⟨rfl, rfl⟩ | ⟨rfl, rfl⟩
                · omega
                · simp [Zn.pairOk]; omega
                · simp [Zn.pairOk]; omega)
              go_wp2
              (try rw [Exit.noGoto_ret])
              go_ret
              exact ⟨ret_bool (HBAD.out HPNO.out), rfl⟩
            · have hgt' : nv ≤ mo := by omega
              by_cases hz : 0 < (j : Int) ∧ nv = 0
              · have HPNO := Lib.hid (show Zn.pairOk j (pairAt s (2 * j)) = false by
                  rw [HP.out, hz.2]
                  rcases HMO.out with ⟨rfl, rfl⟩ | ⟨rfl, rfl⟩ | ⟨rfl, rfl⟩
                  · exact absurd hz.1 (by decide)
                  · rfl
                  · rfl)
                obtain ⟨hz1, rfl⟩ := hz
                clear hgt
                go_wp2
                (try rw [Exit.noGoto_ret])
                go_ret
                exact ⟨ret_bool (HBAD.out HPNO.out), rfl⟩
              · have HPOK := Lib.hid (show Zn.pairOk j (pairAt s (2 * j)) = true by
                  rw [HP.out]
                  rcases HMO.out with ⟨rfl, rfl⟩ | ⟨rfl, rfl⟩ | ⟨rfl, rfl⟩
                  · simp [Zn.pairOk]; omega
                  · simp [Zn.pairOk]; omega
                  · simp [Zn.pairOk]; omega)
                by_cases hj1 : 0 < (j : Int)
                · have hnz : (nv == 0) = false := by rw [beq_eq_false_iff_ne]; exact fun h => hz ⟨hj1, h⟩
                  clear hz hgt
                  go_wp2
                  go_roundg g
                  case measure => omega
                  case rel => exact ⟨j + 1, by have := HJG.out; omega, by go_num, fun i hi => by
                      rcases Nat.lt_or_ge i j with h | h
                      · exact HOK.out i h
                      · obtain rfl : i = j := by omega
                        exact HPOK.out, rfl⟩
                · clear hz hgt
                  go_wp2
                  go_roundg g
                  case measure => omega
                  case rel => exact ⟨j + 1, by have := HJG.out; omega, by go_num, fun i hi => by
                      rcases Nat.lt_or_ge i j with h | h
                      · exact HOK.out i h
                      · obtain rfl : i = j := by omega
                        exact HPOK.out, rfl⟩
  · have hq : Zn.birthB s = false := by unfold Zn.birthB; rw [dif_neg h6]
    rw [hq]
    have hn : ((s.size : Int) != 6) = true := by simp; omega
    clear h6 hq
    go_enter Tryz.func61, Tryz.ntmps61
    go_wp2
    go_step3
    go_wp2
    try rw [Exit.noGoto_ret]
    go_ret
    exact ⟨rfl, rfl⟩
end Go.Proofs.YtelngghecmkipaaGreatDoor
