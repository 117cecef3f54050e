/- Chapter 11: the walks of the small functions: letters, plain, longest, room. -/
import Derived.Test.YtafbhadfeemppaaGreatDoorZonPlain
import Derived.Test.YtafbhadfeemppaaGreatDoorShelf
namespace Go.Proofs.YtafbhadfeemppaaGreatDoor
open Go.RowKit

theorem zlongest (f : Int) (w : World) : Calls Tryz.prog 100 #[.int .i64 f] w fun e w' => e = .returned (.int .i64 (Zn.longest f)) ∧ w = w' := by
  by_cases h1 : f = 1
  · subst h1
    go_enter Tryz.func100, Tryz.ntmps100
    go_wp2_with fail
    go_ret
    exact ⟨rfl, rfl⟩
  have e1 : (f == 1) = false := by rw [beq_eq_false_iff_ne]; exact h1
  by_cases h2 : f = 2
  · subst h2
    go_enter Tryz.func100, Tryz.ntmps100
    go_wp2_with fail
    go_ret
    exact ⟨rfl, rfl⟩
  have e2 : (f == 2) = false := by rw [beq_eq_false_iff_ne]; exact h2
  have hr : Zn.longest f = 9 := by unfold Zn.longest; rw [if_neg h1, if_neg h2]
  rw [hr]
  clear h1 h2 hr
  go_enter Tryz.func100, Tryz.ntmps100
  go_wp2_with fail
  go_ret
  exact ⟨rfl, rfl⟩

theorem all_snoc (s : ByteArray) (p : UInt8 → Bool) (k : Nat) (h : k < s.size) : (s.data.toList.take (k + 1)).all p = ((s.data.toList.take k).all p && p s[k]) := by
  rw [Opt.take_snoc s k h, List.all_append]; simp
theorem all_no (s : ByteArray) (p : UInt8 → Bool) (k : Nat) (h : k < s.size) (hp : p s[k] = false) : s.data.toList.all p = false := by
  rw [List.all_eq_false]
  exact ⟨s[k], Array.mem_toList_iff.2 (by show s.data[k] ∈ s.data; exact Array.getElem_mem _), by rw [hp]; simp⟩

set_option maxHeartbeats 1000000 in
theorem rletters (s : ByteArray) (m : Int) (w : World) (hs : s.size ≤ maxLen) :
    Calls Tryz.prog 79 #[.string s, .int .i64 m] w fun e w' => e = .returned (.bool (Zn.letters s m)) ∧ w = w' := by
  unfold maxLen at hs
  obtain ⟨q, hq⟩ : ∃ q, Zn.letters s m = q := ⟨_, rfl⟩
  rw [hq]
  unfold Zn.letters at hq
  by_cases h1 : (s.size : Int) < 1
  · have hqf : false = q := by rw [← hq, decide_eq_false (by omega)]; rfl
    subst hqf
    clear hq
    go_enter Tryz.func79, Tryz.ntmps79
    go_wp2_with fail
    go_ret
    exact ⟨rfl, rfl⟩
  by_cases h2 : m < (s.size : Int)
  · have hqf : false = q := by rw [← hq, decide_eq_true (show (1 : Int) ≤ s.size by omega), decide_eq_false (by omega)]; rfl
    subst hqf
    have h1' : (1 : Int) ≤ (s.size : Int) := by omega
    clear hq h1
    go_enter Tryz.func79, Tryz.ntmps79
    go_wp2_with fail
    go_ret
    exact ⟨rfl, rfl⟩
  rw [decide_eq_true (show (1 : Int) ≤ s.size by omega), decide_eq_true (show (s.size : Int) ≤ m by omega), Bool.true_and, Bool.true_and] at hq
  have HQ := Lib.hid hq
  have h1' : (1 : Int) ≤ (s.size : Int) := by omega
  have h2' : (s.size : Int) ≤ m := by omega
  clear hq h1 h2
  go_enter Tryz.func79, Tryz.ntmps79
  go_wp2_with fail
  go_loop [5] (fun i => ∃ k : Nat, k ≤ s.size ∧ i = .int .i64 k ∧ (s.data.toList.take k).all Opt.isL = true) (fun i => s.size - (intOf i).toNat)
  case atStart => exact ⟨0, Nat.zero_le _, rfl, rfl⟩
  case round =>
    obtain ⟨k, hk, rfl, hall⟩ := hrel
    have HALL := Lib.hid hall
    clear hall
    by_cases hlt : k < s.size
    · have hd := u8_le s[k]
      have hall' := all_snoc s Opt.isL k hlt
      rw [HALL.out, Bool.true_and] at hall'
      have HS := Lib.hid hall'
      clear hall'
      by_cases hL : 65 ≤ (s[k].toNat : Int) ∧ (s[k].toNat : Int) ≤ 90
      · have hLt : Opt.isL s[k] = true := by unfold Opt.isL; rw [decide_eq_true hL.1, decide_eq_true hL.2]; rfl
        rw [hLt] at HS
        obtain ⟨ha, hb⟩ := hL
        have ha' : ¬ (s[k].toNat : Int) < 65 := by omega
        have hb' : ¬ 90 < (s[k].toNat : Int) := by omega
        clear hLt
        go_wp2_with fail
        go_round
        case rel => exact ⟨k + 1, by omega, by go_num, HS.out⟩
        case measure => simp [intOf]; omega
      · have hLf : Opt.isL s[k] = false := by unfold Opt.isL; rw [← Bool.decide_and, decide_eq_false hL]
        have hqf : false = q := by rw [← HQ.out]; exact (all_no s _ k hlt hLf).symm
        subst hqf
        clear hLf HQ HS
        by_cases ha : (s[k].toNat : Int) < 65
        · go_wp2_with fail
          go_ret
          exact ⟨rfl, rfl⟩
        · have hb : 90 < (s[k].toNat : Int) := by omega
          have ha' : 65 ≤ (s[k].toNat : Int) := by omega
          clear hL
          go_wp2_with fail
          go_ret
          exact ⟨rfl, rfl⟩
    · obtain rfl : k = s.size := by omega
      have hqt : true = q := by rw [← HQ.out, ← HALL.out, Opt.take_all]
      subst hqt
      clear HQ HALL
      go_wp2_with fail
      go_ret
      exact ⟨rfl, rfl⟩

set_option maxHeartbeats 1000000 in
theorem rplain (s : ByteArray) (w : World) (hs : s.size ≤ maxLen) :
    Calls Tryz.prog 81 #[.string s] w fun e w' => e = .returned (.bool (Zn.plain s)) ∧ w = w' := by
  unfold maxLen at hs
  obtain ⟨q, hq⟩ : ∃ q, Zn.plain s = q := ⟨_, rfl⟩
  rw [hq]
  unfold Zn.plain at hq
  have HQ := Lib.hid hq
  clear hq
  go_enter Tryz.func81, Tryz.ntmps81
  go_wp2_with fail
  go_loop [3] (fun i => ∃ k : Nat, k ≤ s.size ∧ i = .int .i64 k ∧ (s.data.toList.take k).all (fun c => Opt.ok c && c != 60) = true) (fun i => s.size - (intOf i).toNat)
  case atStart => exact ⟨0, Nat.zero_le _, rfl, rfl⟩
  case round =>
    obtain ⟨k, hk, rfl, hall⟩ := hrel
    have HALL := Lib.hid hall
    clear hall
    by_cases hlt : k < s.size
    · have hd := u8_le s[k]
      have hall' := all_snoc s (fun c => Opt.ok c && c != 60) k hlt
      rw [HALL.out, Bool.true_and] at hall'
      have HS := Lib.hid hall'
      have HNO := Lib.hid (fun h => all_no s (fun c => Opt.ok c && c != 60) k hlt h)
      clear hall'
      have HV := Lib.hid (fun W => rvalue (s[k].toNat : Int) W hd.1 hd.2)
      obtain ⟨v, hv⟩ : ∃ v, Opt.val (s[k].toNat : Int) = v := ⟨_, rfl⟩
      have hok : Opt.ok s[k] = decide (0 ≤ v) := by unfold Opt.ok; rw [hv]
      rw [hv] at HV
      have HOK := Lib.hid hok
      clear hv hok
      by_cases h60 : (s[k].toNat : Int) = 60
      · have hqf : false = q := by
          rw [← HQ.out]
          exact (HNO.out (by
            have : s[k] = 60 := by apply UInt8.toNat_inj.1; show s[k].toNat = 60; omega
            rw [this]; simp)).symm
        subst hqf
        clear HQ HS HNO HOK HALL
        go_wp2_with fail
        go_ret
        exact ⟨rfl, rfl⟩
      · have hne : ((s[k].toNat : Int) == 60) = false := by rw [beq_eq_false_iff_ne]; exact h60
        have hne' : (s[k] != 60) = true := by
          rw [bne_iff_ne]; intro h; apply h60; rw [h]; rfl
        have HNE := Lib.hid hne'
        clear h60 hne'
        go_wp2_with fail
        refine (HV.out _).mono ?_; rintro e w2 ⟨rfl, rfl⟩
        by_cases hv0 : v < 0
        · have hqf : false = q := by
            rw [← HQ.out]
            exact (HNO.out (by rw [HOK.out, decide_eq_false (by omega)]; rfl)).symm
          subst hqf
          clear HQ HS HNO HOK HALL HNE
          go_wp2_with fail
          go_ret
          exact ⟨rfl, rfl⟩
        · have hv0' : 0 ≤ v := by omega
          have HS' := Lib.hid (show (s.data.toList.take (k + 1)).all (fun c => Opt.ok c && c != 60) = true by rw [HS.out, HOK.out, HNE.out, decide_eq_true hv0']; rfl)
          clear hv0 HS HNO HOK HNE
          go_wp2_with fail
          go_round
          case rel => exact ⟨k + 1, by omega, by go_num, HS'.out⟩
          case measure => simp [intOf]; omega
    · obtain rfl : k = s.size := by omega
      have hqt : true = q := by rw [← HQ.out, ← HALL.out, Opt.take_all]
      subst hqt
      clear HQ HALL
      go_wp2_with fail
      go_ret
      exact ⟨rfl, rfl⟩
end Go.Proofs.YtafbhadfeemppaaGreatDoor
