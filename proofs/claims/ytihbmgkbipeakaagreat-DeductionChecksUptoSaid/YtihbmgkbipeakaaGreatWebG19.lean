/- Several texts in one: TermPName2. -/
import Derived.Test.YtihbmgkbipeakaaGreatWebG9
namespace Go.Proofs.YtihbmgkbipeakaaGreat
open Go.RowKit

set_option maxRecDepth 100000 in
set_option maxHeartbeats 4000000 in
theorem rpname (g i : Nat) (s : ByteArray) (w : World) (h : PBox 133 w g s i false) (hi : i ≤ s.size) (hs : s.size ≤ 4096) :
    Calls Tryz.prog 151 #[.pointer (some ⟨g, 0, none⟩)] w (NameEnds 133 g i s w) := by
  obtain ⟨x0, x1, x2⟩ := h.cells
  have HW := Lib.hid h; clear h
  go_enter Tryz.func151, Tryz.ntmps151
  go_wp2_with fail
  clear x0 x1 x2
  go_loopg [] 16 (fun n wr => ∃ m : Nat, n + m = 16 + i ∧ n ≤ 16 ∧ m ≤ s.size ∧ T.nameEnd s.data.toList i = T.nameRun s.data.toList i n m ∧ PBox 133 wr g s m false ∧ w.grownBy wr (some g))
  case atStart => exact ⟨i, by omega, Nat.le_refl _, hi, rfl, HW.out, grown_refl _ _⟩
  case round =>
    obtain ⟨m, hnm, hn16, hms, hend, hp, hg⟩ := hrel
    obtain ⟨x0, x1, x2⟩ := hp.cells
    obtain ⟨f0, f1, f2⟩ := hp.free
    obtain ⟨d, hd⟩ : ∃ d, m = i + d := ⟨m - i, by omega⟩
    have q1 : IntKind.i64.wrap ((m : Int) - (i : Int)) = (d : Int) := by rw [IntWalk.i64_in _ (by omega)]; omega
    have HP := Lib.hid hp; have HG := Lib.hid hg
    have hcase : ((gk = 0 ∨ s.size ≤ m ∨ T.nameOk s.data.toList i m = false) ∧ T.nameEnd s.data.toList i = m) ∨ (∃ n, gk = n + 1 ∧ m < s.size ∧ T.nameOk s.data.toList i m = true ∧ T.nameEnd s.data.toList i = T.nameRun s.data.toList i n (m + 1)) := by
      cases gk with
      | zero => left; exact ⟨.inl rfl, hend⟩
      | succ n =>
        simp only [T.nameRun] at hend
        split at hend
        · rename_i hh
          right; exact ⟨n, rfl, by have := hh.1; simpa using this, hh.2, hend⟩
        · rename_i hh
          left
          refine ⟨.inr ?_, hend⟩
          rcases Nat.lt_or_ge m s.size with g1 | g1
          · right
            rw [Bool.eq_false_iff]; intro hb; exact hh ⟨by simpa using g1, hb⟩
          · left; exact g1
    have HD := Lib.hid hd; have HNM := Lib.hid hnm; have HMS := Lib.hid hms
    have h3 : (0 : Int) ≤ (m : Int) := by omega
    clear hp hg hend hd
    rcases hcase with ⟨hstop, hE⟩ | ⟨n, hgn, hlt, hok, hE⟩
    · have HE := Lib.hid hE
      have hst : s.size ≤ m ∨ (m < s.size ∧ d = 16) ∨ (m < s.size ∧ d < 16 ∧ T.low s[m]! = false ∧ i = m) ∨ (m < s.size ∧ d < 16 ∧ T.low s[m]! = false ∧ i < m ∧ T.dig s[m]! = false) := by
        rcases Nat.lt_or_ge m s.size with g1 | g1
        · right
          have hbang : s[m]! = s[m] := getElem!_pos s m g1
          rcases hstop with h | h | h
          · left; have := HD.out; exact ⟨g1, by omega⟩
          · omega
          · rw [T.nameOk_at s i m g1, Bool.or_eq_false_iff] at h
            obtain ⟨a, b⟩ := h
            by_cases d16 : d = 16
            · left; exact ⟨g1, d16⟩
            · right
              have hd' := HD.out
              by_cases hz : i = m
              · left; exact ⟨g1, by omega, by rw [hbang]; exact a, hz⟩
              · right
                rw [decide_eq_true (show i < m by omega), Bool.true_and] at b
                exact ⟨g1, by omega, by rw [hbang]; exact a, by omega, by rw [hbang]; exact b⟩
        · left; exact g1
      clear hstop hE hnm hn16 hms
      have hfin : ∀ nq, PBox 133 (wr.drewN nq) g s m false ∧ w.grownBy (wr.drewN nq) (some g) := fun nq => ⟨HP.out.drewN nq, grown_drewN HG.out nq⟩
      have HFIN := Lib.hid hfin; clear hfin
      rcases hst with g1 | ⟨g1, g2⟩ | ⟨g1, g2, g3, g4⟩ | ⟨g1, g2, g3, g4, g5⟩
      · have a1 : (s.size : Int) ≤ (m : Int) := by omega
        have a2 : decide ((m : Int) < (s.size : Int)) = false := decide_eq_false (by omega)
        have a3 : decide (m < s.size) = false := decide_eq_false (by omega)
        go_upto_region 2 with fail
        go_quiet (fail)
        go_upto_region 4 with fail
        obtain ⟨hp9, hg9⟩ := HFIN.out nq
        generalize wr.drewN nq = w9 at hp9 hg9 ⊢
        obtain ⟨y0, y1, y2⟩ := hp9.cells
        obtain ⟨k0, k1, k2⟩ := hp9.free
        have HP9 := Lib.hid hp9; have HG9 := Lib.hid hg9
        clear hp9 hg9 x0 x1 x2 f0 f1 f2
        by_cases hmi : m = i
        · have e1 : ((m : Int) == (i : Int)) = true := by rw [hmi]; simp
          have HMI := Lib.hid hmi
          have hp8 := HP9.out.set2 true
          have hg8 := grown_set HG9.out 2 (.bool true)
          clear hmi
          go_upto_region 6 with fail
          generalize w9.setCell ⟨g, 2, none⟩ (.bool true) = w8 at hp8 hg8 ⊢
          obtain ⟨z0, z1, z2⟩ := hp8.cells
          have HP8 := Lib.hid hp8; have HG8 := Lib.hid hg8
          have l1 : (i : Int) ≤ (m : Int) := by have := HMI.out; omega
          have l2 : (m : Int) ≤ (s.size : Int) := by have := HMS.out; omega
          have l3 : (0 : Int) ≤ (i : Int) := by omega
          clear hp8 hg8 y0 y1 y2 k0 k1 k2
          go_quiet (fail)
          go_wp2_with fail
          go_ret
          refine ⟨grown_drewN HG8.out nq, .inl ⟨by rw [HE.out, HMI.out], ret_str (str_eq (by rw [HMI.out, Lib.extract_data]; simp)), by have := HP8.out.drewN nq; rw [HMI.out] at this; exact this⟩⟩
        · have e1 : ((m : Int) == (i : Int)) = false := by rw [beq_eq_false_iff_ne]; omega
          have HMI := Lib.hid hmi
          have l1 : (i : Int) ≤ (m : Int) := by have := HD.out; omega
          have l2 : (m : Int) ≤ (s.size : Int) := by have := HMS.out; omega
          have l3 : (0 : Int) ≤ (i : Int) := by omega
          clear hmi
          go_upto_region 6 with fail
          go_quiet (fail)
          go_wp2_with fail
          go_ret
          exact ⟨grown_drewN HG9.out nq, .inr ⟨by rw [HE.out]; exact HMI.out, ret_str (by rw [HE.out]; exact T.extract_name s i m), by rw [HE.out]; exact HP9.out.drewN nq⟩⟩
      · have a1 : (m : Int) < (s.size : Int) := by omega
        have a2 : decide ((d : Int) < 16) = false := decide_eq_false (by omega)
        have a3 : decide (d < 16) = false := decide_eq_false (by omega)
        go_upto_region 2 with fail
        go_quiet (fail)
        go_upto_region 4 with fail
        obtain ⟨hp9, hg9⟩ := HFIN.out nq
        generalize wr.drewN nq = w9 at hp9 hg9 ⊢
        obtain ⟨y0, y1, y2⟩ := hp9.cells
        obtain ⟨k0, k1, k2⟩ := hp9.free
        have HP9 := Lib.hid hp9; have HG9 := Lib.hid hg9
        clear hp9 hg9 x0 x1 x2 f0 f1 f2
        by_cases hmi : m = i
        · have e1 : ((m : Int) == (i : Int)) = true := by rw [hmi]; simp
          have HMI := Lib.hid hmi
          have hp8 := HP9.out.set2 true
          have hg8 := grown_set HG9.out 2 (.bool true)
          clear hmi
          go_upto_region 6 with fail
          generalize w9.setCell ⟨g, 2, none⟩ (.bool true) = w8 at hp8 hg8 ⊢
          obtain ⟨z0, z1, z2⟩ := hp8.cells
          have HP8 := Lib.hid hp8; have HG8 := Lib.hid hg8
          have l1 : (i : Int) ≤ (m : Int) := by have := HMI.out; omega
          have l2 : (m : Int) ≤ (s.size : Int) := by have := HMS.out; omega
          have l3 : (0 : Int) ≤ (i : Int) := by omega
          clear hp8 hg8 y0 y1 y2 k0 k1 k2
          go_quiet (fail)
          go_wp2_with fail
          go_ret
          refine ⟨grown_drewN HG8.out nq, .inl ⟨by rw [HE.out, HMI.out], ret_str (str_eq (by rw [HMI.out, Lib.extract_data]; simp)), by have := HP8.out.drewN nq; rw [HMI.out] at this; exact this⟩⟩
        · have e1 : ((m : Int) == (i : Int)) = false := by rw [beq_eq_false_iff_ne]; omega
          have HMI := Lib.hid hmi
          have l1 : (i : Int) ≤ (m : Int) := by have := HD.out; omega
          have l2 : (m : Int) ≤ (s.size : Int) := by have := HMS.out; omega
          have l3 : (0 : Int) ≤ (i : Int) := by omega
          clear hmi
          go_upto_region 6 with fail
          go_quiet (fail)
          go_wp2_with fail
          go_ret
          exact ⟨grown_drewN HG9.out nq, .inr ⟨by rw [HE.out]; exact HMI.out, ret_str (by rw [HE.out]; exact T.extract_name s i m), by rw [HE.out]; exact HP9.out.drewN nq⟩⟩
      · have a1 : (m : Int) < (s.size : Int) := by omega
        have a2 : (d : Int) < 16 := by omega
        have a4 : decide ((i : Int) < (m : Int)) = false := decide_eq_false (by omega)
        have a5 : decide (i < m) = false := decide_eq_false (by omega)
        have hb := u8_le s[m]
        rw [getElem!_pos s m g1] at g3
        have G3 := Lib.hid g3
        clear g3 g4
        go_upto_region 2 with fail
        go_quiet ((go_at_call 112; exact quiet_any (rletter _ _ hb.1 hb.2 false G3.out)))
        go_upto_region 4 with fail
        obtain ⟨hp9, hg9⟩ := HFIN.out nq
        generalize wr.drewN nq = w9 at hp9 hg9 ⊢
        obtain ⟨y0, y1, y2⟩ := hp9.cells
        obtain ⟨k0, k1, k2⟩ := hp9.free
        have HP9 := Lib.hid hp9; have HG9 := Lib.hid hg9
        clear hp9 hg9 x0 x1 x2 f0 f1 f2
        by_cases hmi : m = i
        · have e1 : ((m : Int) == (i : Int)) = true := by rw [hmi]; simp
          have HMI := Lib.hid hmi
          have hp8 := HP9.out.set2 true
          have hg8 := grown_set HG9.out 2 (.bool true)
          clear hmi
          go_upto_region 6 with fail
          generalize w9.setCell ⟨g, 2, none⟩ (.bool true) = w8 at hp8 hg8 ⊢
          obtain ⟨z0, z1, z2⟩ := hp8.cells
          have HP8 := Lib.hid hp8; have HG8 := Lib.hid hg8
          have l1 : (i : Int) ≤ (m : Int) := by have := HMI.out; omega
          have l2 : (m : Int) ≤ (s.size : Int) := by have := HMS.out; omega
          have l3 : (0 : Int) ≤ (i : Int) := by omega
          clear hp8 hg8 y0 y1 y2 k0 k1 k2
          go_quiet (fail)
          go_wp2_with fail
          go_ret
          refine ⟨grown_drewN HG8.out nq, .inl ⟨by rw [HE.out, HMI.out], ret_str (str_eq (by rw [HMI.out, Lib.extract_data]; simp)), by have := HP8.out.drewN nq; rw [HMI.out] at this; exact this⟩⟩
        · have e1 : ((m : Int) == (i : Int)) = false := by rw [beq_eq_false_iff_ne]; omega
          have HMI := Lib.hid hmi
          have l1 : (i : Int) ≤ (m : Int) := by have := HD.out; omega
          have l2 : (m : Int) ≤ (s.size : Int) := by have := HMS.out; omega
          have l3 : (0 : Int) ≤ (i : Int) := by omega
          clear hmi
          go_upto_region 6 with fail
          go_quiet (fail)
          go_wp2_with fail
          go_ret
          exact ⟨grown_drewN HG9.out nq, .inr ⟨by rw [HE.out]; exact HMI.out, ret_str (by rw [HE.out]; exact T.extract_name s i m), by rw [HE.out]; exact HP9.out.drewN nq⟩⟩
      · have a1 : (m : Int) < (s.size : Int) := by omega
        have a2 : (d : Int) < 16 := by omega
        have a4 : decide ((i : Int) < (m : Int)) = true := decide_eq_true (by omega)
        have a5 : decide (i < m) = true := decide_eq_true (by omega)
        have a6 : (i : Int) < (m : Int) := by omega
        have hb := u8_le s[m]
        rw [getElem!_pos s m g1] at g3 g5
        have G3 := Lib.hid g3; have G5 := Lib.hid g5
        clear g3 g5
        have h57 : (s[m].toNat : Int) < 48 ∨ (48 ≤ (s[m].toNat : Int) ∧ 57 < (s[m].toNat : Int)) := by have h := G5.out; rw [← T.dig_dec] at h; simp at h; omega
        rcases h57 with h57 | ⟨h57, h58⟩
        · have b1 : decide (48 ≤ (s[m].toNat : Int)) = false := decide_eq_false (by omega)
          go_upto_region 2 with fail
          go_quiet ((go_at_call 112; exact quiet_any (rletter _ _ hb.1 hb.2 false G3.out)))
          go_upto_region 4 with fail
          obtain ⟨hp9, hg9⟩ := HFIN.out nq
          generalize wr.drewN nq = w9 at hp9 hg9 ⊢
          obtain ⟨y0, y1, y2⟩ := hp9.cells
          obtain ⟨k0, k1, k2⟩ := hp9.free
          have HP9 := Lib.hid hp9; have HG9 := Lib.hid hg9
          clear hp9 hg9 x0 x1 x2 f0 f1 f2
          by_cases hmi : m = i
          · have e1 : ((m : Int) == (i : Int)) = true := by rw [hmi]; simp
            have HMI := Lib.hid hmi
            have hp8 := HP9.out.set2 true
            have hg8 := grown_set HG9.out 2 (.bool true)
            clear hmi
            go_upto_region 6 with fail
            generalize w9.setCell ⟨g, 2, none⟩ (.bool true) = w8 at hp8 hg8 ⊢
            obtain ⟨z0, z1, z2⟩ := hp8.cells
            have HP8 := Lib.hid hp8; have HG8 := Lib.hid hg8
            have l1 : (i : Int) ≤ (m : Int) := by have := HMI.out; omega
            have l2 : (m : Int) ≤ (s.size : Int) := by have := HMS.out; omega
            have l3 : (0 : Int) ≤ (i : Int) := by omega
            clear hp8 hg8 y0 y1 y2 k0 k1 k2
            go_quiet (fail)
            go_wp2_with fail
            go_ret
            refine ⟨grown_drewN HG8.out nq, .inl ⟨by rw [HE.out, HMI.out], ret_str (str_eq (by rw [HMI.out, Lib.extract_data]; simp)), by have := HP8.out.drewN nq; rw [HMI.out] at this; exact this⟩⟩
          · have e1 : ((m : Int) == (i : Int)) = false := by rw [beq_eq_false_iff_ne]; omega
            have HMI := Lib.hid hmi
            have l1 : (i : Int) ≤ (m : Int) := by have := HD.out; omega
            have l2 : (m : Int) ≤ (s.size : Int) := by have := HMS.out; omega
            have l3 : (0 : Int) ≤ (i : Int) := by omega
            clear hmi
            go_upto_region 6 with fail
            go_quiet (fail)
            go_wp2_with fail
            go_ret
            exact ⟨grown_drewN HG9.out nq, .inr ⟨by rw [HE.out]; exact HMI.out, ret_str (by rw [HE.out]; exact T.extract_name s i m), by rw [HE.out]; exact HP9.out.drewN nq⟩⟩
        · have b1 : decide (48 ≤ (s[m].toNat : Int)) = true := decide_eq_true (by omega)
          have b2 : decide ((s[m].toNat : Int) ≤ 57) = false := decide_eq_false (by omega)
          go_upto_region 2 with fail
          go_quiet ((go_at_call 112; exact quiet_any (rletter _ _ hb.1 hb.2 false G3.out)))
          go_upto_region 4 with fail
          obtain ⟨hp9, hg9⟩ := HFIN.out nq
          generalize wr.drewN nq = w9 at hp9 hg9 ⊢
          obtain ⟨y0, y1, y2⟩ := hp9.cells
          obtain ⟨k0, k1, k2⟩ := hp9.free
          have HP9 := Lib.hid hp9; have HG9 := Lib.hid hg9
          clear hp9 hg9 x0 x1 x2 f0 f1 f2
          by_cases hmi : m = i
          · have e1 : ((m : Int) == (i : Int)) = true := by rw [hmi]; simp
            have HMI := Lib.hid hmi
            have hp8 := HP9.out.set2 true
            have hg8 := grown_set HG9.out 2 (.bool true)
            clear hmi
            go_upto_region 6 with fail
            generalize w9.setCell ⟨g, 2, none⟩ (.bool true) = w8 at hp8 hg8 ⊢
            obtain ⟨z0, z1, z2⟩ := hp8.cells
            have HP8 := Lib.hid hp8; have HG8 := Lib.hid hg8
            have l1 : (i : Int) ≤ (m : Int) := by have := HMI.out; omega
            have l2 : (m : Int) ≤ (s.size : Int) := by have := HMS.out; omega
            have l3 : (0 : Int) ≤ (i : Int) := by omega
            clear hp8 hg8 y0 y1 y2 k0 k1 k2
            go_quiet (fail)
            go_wp2_with fail
            go_ret
            refine ⟨grown_drewN HG8.out nq, .inl ⟨by rw [HE.out, HMI.out], ret_str (str_eq (by rw [HMI.out, Lib.extract_data]; simp)), by have := HP8.out.drewN nq; rw [HMI.out] at this; exact this⟩⟩
          · have e1 : ((m : Int) == (i : Int)) = false := by rw [beq_eq_false_iff_ne]; omega
            have HMI := Lib.hid hmi
            have l1 : (i : Int) ≤ (m : Int) := by have := HD.out; omega
            have l2 : (m : Int) ≤ (s.size : Int) := by have := HMS.out; omega
            have l3 : (0 : Int) ≤ (i : Int) := by omega
            clear hmi
            go_upto_region 6 with fail
            go_quiet (fail)
            go_wp2_with fail
            go_ret
            exact ⟨grown_drewN HG9.out nq, .inr ⟨by rw [HE.out]; exact HMI.out, ret_str (by rw [HE.out]; exact T.extract_name s i m), by rw [HE.out]; exact HP9.out.drewN nq⟩⟩
    · have HE := Lib.hid hE
      rw [T.nameOk_at s i m hlt] at hok
      have hd' := HD.out
      have a1 : (m : Int) < (s.size : Int) := by omega
      have a2 : (d : Int) < 16 := by omega
      have hb := u8_le s[m]
      have HLT := Lib.hid hlt
      have HGN := Lib.hid hgn
      have HN6 := Lib.hid hn16
      clear hE hd' hnm hn16 hms hgn
      have hl : T.low (s[m]'hlt) = true ∨ (T.low (s[m]'hlt) = false ∧ i < m ∧ T.dig (s[m]'hlt) = true) := by
        rcases Bool.eq_false_or_eq_true (T.low (s[m]'hlt)) with a | a
        · exact .inl a
        · right; rw [a, Bool.false_or, Bool.and_eq_true, decide_eq_true_eq] at hok; exact ⟨a, hok.1, hok.2⟩
      clear hok
      rcases hl with g3 | ⟨g3, hok1, hok2⟩
      · have G3 := Lib.hid g3
        clear g3
        go_upto_region 2 with fail
        go_quiet ((go_at_call 112; exact quiet_any (rletter _ _ hb.1 hb.2 true G3.out)))
        go_wp2_with fail
        go_roundg n
        case measure => have := HGN.out; omega
        case rel => exact ⟨m + 1, by have := HNM.out; have := HGN.out; omega, by have := HN6.out; have := HGN.out; omega, HLT.out, HE.out, (HP.out.drewN nq).set1 (m + 1) _ (by push_cast; rfl), grown_set (grown_drewN HG.out nq) _ _⟩
      · have a4 : decide ((i : Int) < (m : Int)) = true := decide_eq_true (by omega)
        have a5 : decide (i < m) = true := decide_eq_true (by omega)
        have a6 : (i : Int) < (m : Int) := by omega
        have G3 := Lib.hid g3; have G5 := Lib.hid hok2
        clear g3 hok2
        have h57 : 48 ≤ ((s[m]'hlt).toNat : Int) ∧ ((s[m]'hlt).toNat : Int) ≤ 57 := by have h := G5.out; rw [← T.dig_dec] at h; simp at h; omega
        obtain ⟨h57, h58⟩ := h57
        have b1 : decide (48 ≤ ((s[m]'hlt).toNat : Int)) = true := decide_eq_true (by omega)
        have b2 : decide (((s[m]'hlt).toNat : Int) ≤ 57) = true := decide_eq_true (by omega)
        go_upto_region 2 with fail
        go_quiet ((go_at_call 112; exact quiet_any (rletter _ _ hb.1 hb.2 false G3.out)))
        go_wp2_with fail
        go_roundg n
        case measure => have := HGN.out; omega
        case rel => exact ⟨m + 1, by have := HNM.out; have := HGN.out; omega, by have := HN6.out; have := HGN.out; omega, HLT.out, HE.out, (HP.out.drewN nq).set1 (m + 1) _ (by push_cast; rfl), grown_set (grown_drewN HG.out nq) _ _⟩
end Go.Proofs.YtihbmgkbipeakaaGreat
