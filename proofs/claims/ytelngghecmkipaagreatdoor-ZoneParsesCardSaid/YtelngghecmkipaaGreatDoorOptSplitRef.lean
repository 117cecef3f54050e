/- The walks of chapter 10: Trim and Split of the reference. -/
import Derived.Test.YtelngghecmkipaaGreatDoorOptSplitWalk
namespace Go.Proofs.YtelngghecmkipaaGreatDoor
open Go.RowKit

set_option maxHeartbeats 800000 in
theorem rtrim (s : ByteArray) (w : World) (hs : s.size ≤ 64) :
    Calls Tryz.prog 37 #[.string s] w fun e w' => e = .returned (.string ⟨(Lib.trimRightB s.data.toList 60).toArray⟩) ∧ w = w' := by
  go_enter Tryz.func37, Tryz.ntmps37
  go_wp2_with fail
  go_loop [3] (fun i => ∃ k : Nat, k ≤ s.size ∧ i = .int .i64 k ∧ Lib.trimRightB (s.data.toList.take k) 60 = Lib.trimRightB s.data.toList 60) (fun i => (intOf i).toNat)
  case atStart => exact ⟨s.size, Nat.le_refl _, rfl, by rw [Opt.take_all]⟩
  case round =>
    obtain ⟨k, hk, rfl, hv⟩ := hrel
    have HV := Lib.hid hv; clear hv
    by_cases h0 : k = 0
    · subst h0
      have e : ByteArray.empty = ⟨(Lib.trimRightB s.data.toList 60).toArray⟩ := by rw [← HV.out]; apply str_eq; simp [Lib.trimRightB]
      have E := Lib.hid e; clear e
      go_wp2_with fail
      go_ret
      exact ⟨ret_str E.out, rfl⟩
    · have hpos : (0 : Int) < (k : Int) := by omega
      have hlt : k - 1 < s.size := by omega
      have ht := Opt.take_snoc s (k - 1) hlt
      rw [show k - 1 + 1 = k by omega] at ht
      have hb := u8_le s[k - 1]
      rcases Bool.eq_false_or_eq_true ((s[k - 1].toNat : Int) == 60) with h60 | h60
      · have hn : Lib.trimRightB (s.data.toList.take (k - 1)) 60 = Lib.trimRightB s.data.toList 60 := by
          have : s[k - 1] = 60 := by have := beq_iff_eq.1 h60; apply UInt8.toNat_inj.1; show s[k - 1].toNat = 60; omega
          rw [← HV.out, ht, this, Opt.trim_snoc]
        have HN := Lib.hid hn; clear hn ht
        go_wp2_with fail
        go_round
        case rel => exact ⟨k - 1, by omega, by congr 1; omega, HN.out⟩
        case measure => simp [intOf]; omega
      · have e : s.extract 0 k = ⟨(Lib.trimRightB s.data.toList 60).toArray⟩ := by
          have hne : s[k - 1] ≠ 60 := by rintro e; rw [e] at h60; simp at h60
          rw [← HV.out, ht, Opt.trim_stop _ _ hne, ← ht]
          apply str_eq; rw [Lib.extract_data]; simp
        have E := Lib.hid e; clear e ht
        go_wp2_with fail
        go_ret
        exact ⟨ret_str E.out, rfl⟩

namespace Opt
/-- How far the reference's loop has come. -/
def At (t : List UInt8) (k : Nat) (a b : List UInt8) (q r : Nat) : Prop := words 60 a = true ∧ words 60 b = true ∧ k ≤ t.length ∧
  ((q = 0 ∧ b = [] ∧ t.take k = a ++ List.replicate r 60) ∨ (q = 1 ∧ a ≠ [] ∧ b ≠ [] ∧ t.take k = a ++ 60 :: 60 :: (b ++ List.replicate r 60)))
theorem at_start (t : List UInt8) : At t 0 [] [] 0 0 := ⟨words_nil, words_nil, Nat.zero_le _, .inl ⟨rfl, rfl, rfl⟩⟩
variable {t a b : List UInt8} {k q r : Nat}
theorem at_r (h : At t k a b q r) : r ≤ k := by
  obtain ⟨_, _, hk, h⟩ := h
  have e : (t.take k).length = k := by simp; omega
  rcases h with ⟨_, _, h⟩ | ⟨_, _, _, h⟩ <;> rw [h] at e <;> simp at e <;> omega
theorem at_q (h : At t k a b q r) : q = 0 ∨ q = 1 := by rcases h.2.2.2 with h | h; exact .inl h.1; exact .inr h.1
theorem at_gap (h : At t k a b q r) (hk : k < t.length) (hc : t[k] = 60) : At t (k + 1) a b q (r + 1) := by
  refine ⟨h.1, h.2.1, hk, ?_⟩
  rw [List.take_succ_eq_append_getElem hk, hc]
  rcases h.2.2.2 with ⟨h1, h2, h3⟩ | ⟨h1, h2, h3, h4⟩
  · exact .inl ⟨h1, h2, by rw [h3, List.append_assoc, ← List.replicate_succ']⟩
  · exact .inr ⟨h1, h2, h3, by rw [h4]; simp [List.replicate_succ']⟩
theorem at_split : t = t.take k ++ t.drop k := (List.take_append_drop k t).symm
theorem at_bad (h : At t k a b q r) (hk : k < t.length) (hb : 2 < r ∨ (0 < r ∧ k = r) ∨ (r = 2 ∧ q = 1)) : spl t = none := by
  have e := at_split (t := t) (k := k)
  have hlen : (t.take k).length = k := by simp; omega
  obtain ⟨hw, hw', _, h⟩ := h
  rcases h with ⟨rfl, rfl, h⟩ | ⟨rfl, h1, h2, h⟩
  · have hr : 0 < r := by omega
    by_cases ha : a = []
    · subst ha
      obtain ⟨r', rfl⟩ : ∃ r', r = r' + 1 := ⟨r - 1, by omega⟩
      rw [e, h, List.nil_append, List.replicate_succ, List.cons_append]
      exact spl_head _
    · rw [h] at hlen
      have hl : 0 < a.length := List.length_pos_iff.2 ha
      simp at hlen
      obtain ⟨r', rfl⟩ : ∃ r', r = r' + 3 := ⟨r - 3, by omega⟩
      rw [e, h, List.append_assoc, List.replicate_succ, List.replicate_succ, List.replicate_succ]
      exact spl_three _ hw ha
  · rw [h] at hlen
    simp at hlen
    obtain ⟨r', rfl⟩ : ∃ r', r = r' + 2 := ⟨r - 2, by omega⟩
    rw [e, h, List.append_assoc, List.replicate_succ, List.replicate_succ]
    simp only [List.cons_append, List.append_assoc]
    exact spl_run _ hw h1
theorem at_zero0 (h : At t k a b 0 0) (hk : k < t.length) (hc : isL t[k] = true) : At t (k + 1) (a ++ [t[k]]) b 0 0 := by
  refine ⟨words_snoc h.1 hc, h.2.1, hk, ?_⟩
  rw [List.take_succ_eq_append_getElem hk]
  rcases h.2.2.2 with ⟨h1, h2, h3⟩ | ⟨h1, _⟩
  · exact .inl ⟨h1, h2, by rw [h3]; simp⟩
  · cases h1
theorem at_zero1 (h : At t k a b 1 0) (hk : k < t.length) (hc : isL t[k] = true) : At t (k + 1) a (b ++ [t[k]]) 1 0 := by
  refine ⟨h.1, words_snoc h.2.1 hc, hk, ?_⟩
  rw [List.take_succ_eq_append_getElem hk]
  rcases h.2.2.2 with ⟨h1, _⟩ | ⟨h1, h2, h3, h4⟩
  · cases h1
  · exact .inr ⟨h1, h2, by simp, by rw [h4]; simp⟩
theorem at_one0 (h : At t k a b 0 1) (hk : k < t.length) (hk1 : k ≠ 1) (hc : isL t[k] = true) : At t (k + 1) (a ++ [60, t[k]]) b 0 0 := by
  have hlen : (t.take k).length = k := by simp; omega
  rcases h.2.2.2 with ⟨h1, h2, h3⟩ | ⟨h1, _⟩
  · have ha : a ≠ [] := by rintro rfl; rw [h3] at hlen; simp at hlen; omega
    refine ⟨words_gap h.1 ha hc, h.2.1, hk, .inl ⟨h1, h2, ?_⟩⟩
    rw [List.take_succ_eq_append_getElem hk, h3]; simp
  · cases h1
theorem at_one1 (h : At t k a b 1 1) (hk : k < t.length) (hc : isL t[k] = true) : At t (k + 1) a (b ++ [60, t[k]]) 1 0 := by
  rcases h.2.2.2 with ⟨h1, _⟩ | ⟨h1, h2, h3, h4⟩
  · cases h1
  · refine ⟨h.1, words_gap h.2.1 h3 hc, hk, .inr ⟨h1, h2, by simp, ?_⟩⟩
    rw [List.take_succ_eq_append_getElem hk, h4]; simp
theorem at_two (h : At t k a b 0 2) (hk : k < t.length) (hk1 : k ≠ 2) (hc : isL t[k] = true) : b = [] ∧ At t (k + 1) a [t[k]] 1 0 := by
  have hlen : (t.take k).length = k := by simp; omega
  rcases h.2.2.2 with ⟨h1, h2, h3⟩ | ⟨h1, _⟩
  · have ha : a ≠ [] := by rintro rfl; rw [h3] at hlen; simp at hlen; omega
    refine ⟨h2, h.1, words_snoc words_nil hc, hk, .inr ⟨rfl, ha, by simp, ?_⟩⟩
    rw [List.take_succ_eq_append_getElem hk, h3]; simp [List.replicate_succ]
  · cases h1
theorem at_end (h : At t t.length a b q r) (hn : t = [] ∨ t.getD (t.length - 1) 0 ≠ 60) : (a = [] → spl t = none) ∧ (a ≠ [] → spl t = some (sub 60 32 a, sub 60 32 b)) := by
  obtain ⟨hw, hw', _, h⟩ := h
  rw [List.take_length] at h
  have hr : r = 0 := by
    rcases Nat.eq_zero_or_pos r with h0 | h0
    · exact h0
    · exfalso
      obtain ⟨r', rfl⟩ : ∃ r', r = r' + 1 := ⟨r - 1, by omega⟩
      have ht : ∃ m, t = m ++ [60] := by
        rcases h with ⟨_, _, h⟩ | ⟨_, _, _, h⟩
        · exact ⟨a ++ List.replicate r' 60, by rw [h, List.replicate_succ']; simp⟩
        · exact ⟨a ++ 60 :: 60 :: (b ++ List.replicate r' 60), by rw [h, List.replicate_succ']; simp⟩
      obtain ⟨m, rfl⟩ := ht
      rcases hn with hn | hn
      · simp at hn
      · apply hn
        simp
  subst hr
  rcases h with ⟨_, rfl, h⟩ | ⟨_, h1, h2, h⟩
  · rw [List.replicate_zero, List.append_nil] at h
    subst h
    exact ⟨fun h => by rw [h]; exact spl_nil, fun h => spl_one hw h⟩
  · rw [List.replicate_zero, List.append_nil] at h
    refine ⟨fun h' => absurd h' h1, fun _ => ?_⟩
    rw [h]; exact spl_two hw h1 hw' h2
theorem trim_end (l : List UInt8) : Lib.trimRightB l 60 = [] ∨ (Lib.trimRightB l 60).getD ((Lib.trimRightB l 60).length - 1) 0 ≠ 60 := by
  obtain ⟨n, hn, e, h⟩ := trim_take l
  rw [e]
  rcases h with rfl | h
  · exact .inl rfl
  · rcases Nat.eq_zero_or_pos n with h0 | h0
    · subst h0; exact .inl rfl
    · refine .inr ?_
      have hl : (l.take n).length = n := by simp; omega
      rw [hl]
      have : (l.take n).getD (n - 1) 0 = l.getD (n - 1) 0 := by
        rw [getD_eq _ _ (by omega), getD_eq _ _ (by omega)]; simp
      rw [this]; exact h
theorem trim_all (l : List UInt8) (h : chars l = true) : chars (Lib.trimRightB l 60) = true := by
  obtain ⟨n, hn, e, _⟩ := trim_take l
  rw [e]
  exact List.all_eq_true.2 fun x hx => List.all_eq_true.1 h x (List.mem_of_mem_take hx)
theorem sub_snoc (a : List UInt8) (c : UInt8) (h : isL c = true) : sub 60 32 (a ++ [c]) = sub 60 32 a ++ [c] := by
  simp [sub, isL_ne h]
theorem sub_gap (a : List UInt8) (c : UInt8) (h : isL c = true) : sub 60 32 (a ++ [60, c]) = sub 60 32 a ++ [32] ++ [c] := by
  simp [sub, isL_ne h]
end Opt
end Go.Proofs.YtelngghecmkipaaGreatDoor
