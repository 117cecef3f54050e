/- Chapter 12: the walk of Count of the program. -/
import Derived.Test.YtafbhadfeemppaaGreatDoorRdGF
namespace Go.Proofs.YtafbhadfeemppaaGreatDoor
open Go.RowKit

/-- What Count returns. -/
def cntE (G : List (List ByteArray)) : Int := if okG G = false then 1 else if 4096 < Rd.size (flatG G) then 24 else 0
def cntN (G : List (List ByteArray)) : Int := if cntE G = 0 then (Rd.size (flatG G) : Int) else 0
theorem okG_full {G : List (List ByteArray)} (h : okG G = true) : ∀ b ∈ flatG G, b ≠ [] := by
  unfold okG at h
  rw [Bool.and_eq_true] at h
  intro b hb
  obtain ⟨s, hs, rfl⟩ := List.mem_map.1 hb
  obtain ⟨r, hr, hsr⟩ := List.mem_flatten.1 hs
  have := of_decide_eq_true (List.all_eq_true.1 (List.all_eq_true.1 h.1 r hr) s hsr)
  refine Rd.srt_nil fun e => this ?_
  rw [← Opt.size_len, e]; rfl
theorem size_take {L : List (List UInt8)} (h : ∀ b ∈ L, b ≠ []) (k : Nat) : Rd.size (L.take k) ≤ Rd.size L := by
  have e : Rd.size L = Rd.size (L.take k) * Rd.size (L.drop k) := by rw [← Rd.size_append, List.take_append_drop]
  rw [e]
  exact Nat.le_mul_of_pos_right _ (Rd.size_pos fun b hb => h b (List.mem_of_mem_drop hb))
theorem size_succ {L : List (List UInt8)} {k : Nat} (h : k < L.length) : Rd.size (L.take (k + 1)) = Rd.size (L.take k) * L[k].length := by
  rw [List.take_succ_eq_append_getElem h, Rd.size_append]
  simp [Rd.size]
theorem own_form {w : World} {base e size n : Nat} {v : Value} {xs : List Value} (h : w.ownsRow base e size v n xs) : ∃ A c, v = .slice A n c ∧ n ≤ c ∧ c ≤ maxLen := by
  rcases h.2 with ⟨rfl, h0⟩ | ⟨g, cap, cur, rfl, _, _, h1, h2, _⟩
  · subst h0; exact ⟨none, 0, rfl, Nat.le_refl _, by unfold maxLen; omega⟩
  · exact ⟨_, cap, rfl, h1, h2⟩
/-- A line of lines. -/
theorem LinesAt.get {w : World} {base : Nat} {A : Option Addr} {c n : Nat} {rows : List Ln} (h : LinesAt w base (.slice A n c) rows) (hn : n = rows.length) {k : Nat} (hk : k < rows.length) :
    ∃ g off, A = some ⟨g, off, none⟩ ∧ w.cell? ⟨g, off + k, none⟩ = some (.slice (some ⟨rows[k].1, 0, none⟩) rows[k].2.2.length rows[k].2.1) ∧ BytesAt w rows[k].1 rows[k].2.2 := by
  subst hn
  rcases (Src.of_own h.1).2 with h0 | ⟨g, off, e, hc⟩
  · omega
  · refine ⟨g, off, e, hc k _ (by rw [List.getElem?_map, List.getElem?_eq_getElem hk]; rfl), (h.2.2 _ (List.getElem_mem hk)).2.2.2.2⟩
set_option maxRecDepth 100000 in
set_option maxHeartbeats 4000000 in
theorem ocount (G : List (List ByteArray)) (A : Option Addr) (c : Nat) (w : World) (hG : GridAt w A G) (hn : G.length ≤ 4194304) (hN : G.flatten.length ≤ 4194304) (hs : ∀ r ∈ G, ∀ s ∈ r, s.size ≤ 140737488351232) :
    Calls Tryz.prog 29 #[.slice A G.length c] w fun e w' => e = .returned (.tuple #[.int .i64 (cntN G), .int .i64 (cntE G)]) ∧ Below w.heap.size w w' := by
  have HC := Lib.hid (ochoices G A c w hG hn hN hs)
  have HN := Lib.hid hN
  clear hG hs hN
  go_enter Tryz.func29, Tryz.ntmps29
  go_wp2_with fail
  refine HC.out.mono ?_; rintro e w1 hp1
  cases hok : okG G with
  | false =>
    rw [hp1.1 hok]
    have HB := Lib.hid hp1.2.2
    have HE := Lib.hid (show cntE G = 1 from if_pos hok)
    clear hp1 hok
    go_wp2_with fail
    go_ret2
    refine ⟨?_, HB.out⟩
    have hN0 : cntN G = 0 := by unfold cntN; rw [if_neg (by rw [HE.out]; decide)]
    rw [hN0, HE.out]; rfl
  | true =>
    obtain ⟨v, rows, rfl, hl, ht⟩ := hp1.2.1 hok
    have HB := Lib.hid hp1.2.2
    have HF := Lib.hid (okG_full hok)
    have hE : cntE G = if 4096 < Rd.size (flatG G) then 24 else 0 := by unfold cntE; rw [if_neg (by rw [hok]; decide)]
    have HE := Lib.hid hE
    obtain ⟨A1, c1, rfl, hc1, hm1⟩ := own_form hl.1
    have hrl : rows.length ≤ 4194304 := by rw [txt_len ht]; unfold flatG; rw [List.length_map]; exact HN.out
    have HL := Lib.hid hl
    obtain ⟨L, hL⟩ : ∃ L, flatG G = L := ⟨_, rfl⟩
    rw [hL] at HF HE ht
    have HLG := Lib.hid hL; have HT := Lib.hid ht
    have HLN := Lib.hid (txt_len ht)
    clear hp1 hok hE hl ht hL hc1 hm1
    go_wp2_with fail
    go_loop [7, 20] (fun v7 v20 => ∃ k : Nat, k ≤ rows.length ∧ v20 = .int .i64 k ∧ v7 = .int .i64 (Rd.size (L.take k) : Nat) ∧ Rd.size (L.take k) ≤ 4096) (fun _ v20 => rows.length - (intOf v20).toNat)
    case atStart => exact ⟨0, Nat.zero_le _, rfl, rfl, by rw [List.take_zero]; decide⟩
    case round =>
      obtain ⟨k, hk, rfl, rfl, hq⟩ := hrel
      by_cases hlt : k < rows.length
      · obtain ⟨g, off, rfl, e0, _⟩ := HL.out.get rfl hlt
        have hkl : k < L.length := by rw [← HLN.out]; exact hlt
        have hlen : (rows[k]'hlt).2.2.length = (L[k]'hkl).length := by
          have h1 := HT.out
          have h2 : (Ln.txt rows)[k]? = some (L[k]'hkl) := by rw [h1, List.getElem?_eq_getElem hkl]
          unfold Ln.txt at h2
          rw [List.getElem?_map, List.getElem?_eq_getElem hlt] at h2
          injection h2 with h2
          exact congrArg List.length h2
        have hss := size_succ hkl
        rw [← hlen] at hss
        have hle : (rows[k]'hlt).2.2.length ≤ 4194304 * 64 := by
          rw [hlen]
          have h1 : L[k]'hkl ∈ flatG G := by rw [HLG.out]; exact List.getElem_mem _
          obtain ⟨s, _, e⟩ := List.mem_map.1 h1
          rw [← e]
          exact Nat.le_trans (Rd.srt_len _) (by decide)
        obtain ⟨m, hm⟩ : ∃ m, (rows[k]'hlt).2.2.length = m := ⟨_, rfl⟩
        obtain ⟨q, hqq⟩ : ∃ q, Rd.size (L.take k) = q := ⟨_, rfl⟩
        rw [hm] at e0 hss hle
        rw [hqq] at hss hq ⊢
        have HSS := Lib.hid hss; have HLT := Lib.hid hlt
        have hmul : (q : Int) * (m : Int) ≤ 9223372036854775807 := by
          have h1 : q * m ≤ 4096 * (4194304 * 64) := Nat.mul_le_mul hq hle
          have h2 : (q : Int) * (m : Int) = ((q * m : Nat) : Int) := by push_cast; rfl
          omega
        have hmul0 : 0 ≤ (q : Int) * (m : Int) := Int.mul_nonneg (by omega) (by omega)
        clear hss hlen hm hqq hle
        by_cases hbig : 4096 < q * m
        · have hb2 : 4096 < (q : Int) * (m : Int) := by have h2 : (q : Int) * (m : Int) = ((q * m : Nat) : Int) := by push_cast; rfl
                                                        omega
          have HE2 := Lib.hid (show cntE G = 24 from by
            rw [HE.out, if_pos]
            have := size_take HF.out (k + 1)
            rw [HSS.out] at this
            omega)
          clear hbig
          go_wp2_with fail
          go_ret2
          refine ⟨?_, HB.out⟩
          have hN0 : cntN G = 0 := by unfold cntN; rw [if_neg (by rw [HE2.out]; decide)]
          rw [hN0, HE2.out]; rfl
        · have hb2 : ¬ (4096 < (q : Int) * (m : Int)) := by have h2 : (q : Int) * (m : Int) = ((q * m : Nat) : Int) := by push_cast; rfl
                                                            omega
          have HBG := Lib.hid hbig
          clear hbig
          go_wp2_with fail
          go_round
          case rel => exact ⟨k + 1, HLT.out, by go_num, by rw [HSS.out]; push_cast; rfl, by rw [HSS.out]; have := HBG.out; omega⟩
          case measure => have := HLT.out; simp [intOf]; omega
      · obtain rfl : k = rows.length := by omega
        have e1 : L.take rows.length = L := by rw [HLN.out, List.take_length]
        rw [e1] at hq ⊢
        have HQ := Lib.hid hq
        clear e1 hq
        go_wp2_with fail
        go_ret2
        refine ⟨?_, HB.out⟩
        have hE0 : cntE G = 0 := by rw [HE.out, if_neg (by have := HQ.out; omega)]
        have hN0 : cntN G = (Rd.size L : Int) := by unfold cntN; rw [if_pos hE0, HLG.out]
        rw [hN0, hE0]; rfl
end Go.Proofs.YtafbhadfeemppaaGreatDoor
