/- Chapter 42: lists of terms that are equal; both Protocols at any name. -/
import Derived.Test.YtihbmgkbipeakaaGreatStrRProto
import Derived.Test.YtihbmgkbipeakaaGreatStrAwake
import Derived.Test.YtihbmgkbipeakaaGreatTermAnti
import Derived.Test.YtihbmgkbipeakaaGreatTermSame
namespace Go.Proofs.YtihbmgkbipeakaaGreat
open Go.RowKit

theorem same_self (t : T) (v v' : Value) (w : World) (ht : TermAt w v t) (ht' : TermAt w v' t) (hb : t.bulk ≤ 1048576) :
    Calls Tryz.prog 25 #[v, v'] w fun e w' => e = .returned (.bool true) ∧ Below w.heap.size w w' := by
  have := rsame t t v v' w ht ht' hb hb
  rw [T.cmp_self] at this; exact this
theorem TermsL.later {w w' : World} {v : Value} {L : List T} (h : TermsL w v L) (hb : Below w.heap.size w w') : TermsL w' v L := TermAt.later h hb

set_option maxRecDepth 100000 in
set_option maxHeartbeats 4000000 in
theorem same_all (K : List T) (v v' : Value) (w : World) (h : TermsL w v K) (h' : TermsL w v' K) (hb : ∀ t ∈ K, t.bulk ≤ 1048576) (hl : K.length ≤ 1000000) :
    Calls Tryz.prog 22 #[v, v'] w fun e w' => e = .returned (.bool true) ∧ Below w.heap.size w w' := by
  unfold TermsL at h h'
  have HBK := Lib.hid hb
  clear hb
  generalize hk0 : (0 : Int) = k0 at h h'
  generalize hs0 : (⟨#[]⟩ : ByteArray) = s0 at h h'
  cases h with
  | mk _ _ A cap _ U h1 h2 h3 h4 hA hU =>
  cases h' with
  | mk _ _ A' cap' _ U' h1' h2' h3' h4' hA' hU' =>
  have HA := Lib.hid hA; have HU := Lib.hid hU; have HA' := Lib.hid hA'; have HU' := Lib.hid hU'
  clear hA hU hA' hU' hk0 hs0 h1 h2 h1' h2'
  have hnn : ((K.length : Int) != (K.length : Int)) = false := by simp
  go_enter Tryz.func22, Tryz.ntmps22
  go_wp2_with fail
  go_loopw [5] (fun i wr => ∃ j : Nat, j ≤ K.length ∧ i = .int .i64 j ∧ Below w.heap.size w wr) (fun i _ => K.length - (intOf i).toNat)
  case atStart => exact ⟨0, Nat.zero_le _, rfl, Below.refl _ _⟩
  case round =>
    obtain ⟨j, hj, rfl, hbw⟩ := hrel
    by_cases hlt : j < K.length
    · obtain ⟨b, off, B1, C1, rfl, d0, d1, d2, hu⟩ := TermAt.cells hlt HA.out HU.out
      obtain ⟨b', off', B2, C2, rfl, d0', d1', d2', hu'⟩ := TermAt.cells hlt HA'.out HU'.out
      have e0 := cell_later hbw d0; have e1 := cell_later hbw d1; have e2 := cell_later hbw d2
      have f0 := cell_later hbw d0'; have f1 := cell_later hbw d1'; have f2 := cell_later hbw d2'
      have hi : (j : Int) < (K.length : Int) := by omega
      have hu1 := hu.later hbw; have hu2 := hu'.later hbw
      have HLT := Lib.hid hlt
      have HB2 := Lib.hid (HBK.out _ (List.getElem_mem hlt))
      have hbq := hbw.drew
      have huq := TermAt.drew hu1
      have huq' := TermAt.drew hu2
      clear d0 d1 d2 d0' d1' d2' hu hu' hu1 hu2 hj hbw
      go_wp2_with fail
      go_still_tail 8, (by kernel_rfl)
      change wpList _ _ _ _ _ wr.drew
      generalize wr.drew = wq at hbq huq huq' ⊢
      have HUQ := Lib.hid huq; have HUQ' := Lib.hid huq'; have HBQ := Lib.hid hbq
      clear huq huq' hbq e0 e1 e2 f0 f1 f2
      go_wp2_with fail
      refine (same_self _ _ _ _ HUQ.out HUQ'.out HB2.out).mono ?_; rintro e w2 ⟨rfl, hb4⟩
      have HB4 := Lib.hid (HBQ.out.trans (hb4.mono HBQ.out.size))
      clear hb4
      go_wp2_with fail
      go_roundw
      case rel => exact ⟨j + 1, HLT.out, by go_num, HB4.out⟩
      case measure => have := HLT.out; simp [intOf]; omega
    · have hi : ¬ (j : Int) < (K.length : Int) := by omega
      have HBW := Lib.hid hbw
      clear hbw
      go_wp2_with fail
      go_ret
      exact ⟨rfl, HBW.out⟩

/-- What both Protocols leave. -/
def ProtoIs (l : List (ByteArray × List (Int × T))) (K : List T) (ok : Bool) (w : World) (e : Ending) (w' : World) : Prop :=
  ∃ A c A' c', e = .returned (.tuple #[.slice A l.length c, .slice A' K.length c', .bool ok]) ∧ StrandsAt w' A l ∧ TermsL w' (.slice A' K.length c') K ∧ Below w.heap.size w w'
theorem ProtoPost.is {l : List (ByteArray × List (Int × T))} {K : List T} {w : World} {e : Ending} {w' : World} (h : ProtoPost l K w e w') : ProtoIs l K true w e w' := h
theorem proto_none_is {w : World} {e : Ending} {w' : World} (h : e = .returned (.tuple #[.slice none 0 0, .slice none 0 0, .bool false]) ∧ Below w.heap.size w w') : ProtoIs [] [] false w e w' := by
  obtain ⟨rfl, hb⟩ := h
  exact ⟨none, 0, none, 0, rfl, .inl rfl, TermAt.mk 0 ⟨#[]⟩ none 0 [] (fun _ => (undef, undef, undef)) (by omega) (by decide) (Nat.le_refl _) (Nat.zero_le _) (.inl rfl) (fun i h => by simp at h), hb⟩
/-- What is known of the strands of a protocol. -/
def GoodL (l : List (ByteArray × List (Int × T))) : Prop := l.length ≤ 3 ∧ ∀ s ∈ l, okStrand s.1 s.2 = 0 ∧ (∀ m ∈ s.2, m.2.bulk ≤ 1048576) ∧ s.1.size ≤ maxLen ∧ s.2.length ≤ 16
theorem good_nil : GoodL [] := ⟨by decide, fun s h => by cases h⟩
theorem good_one {a : ByteArray × List (Int × T)} (h : okStrand a.1 a.2 = 0 ∧ (∀ m ∈ a.2, m.2.bulk ≤ 1048576) ∧ a.1.size ≤ maxLen ∧ a.2.length ≤ 16) : GoodL [a] := ⟨by simp, fun s hs => by simp at hs; subst hs; exact h⟩
theorem good_cons {a : ByteArray × List (Int × T)} {l : List (ByteArray × List (Int × T))} (h : okStrand a.1 a.2 = 0 ∧ (∀ m ∈ a.2, m.2.bulk ≤ 1048576) ∧ a.1.size ≤ maxLen ∧ a.2.length ≤ 16) (hl : GoodL l) (h2 : l.length ≤ 2) : GoodL (a :: l) :=
  ⟨by simp; omega, fun s hs => by rcases List.mem_cons.1 hs with rfl | hs; exact h; exact hl.2 s hs⟩
theorem g_cA : okStrand s_cA.1 s_cA.2 = 0 ∧ (∀ m ∈ s_cA.2, m.2.bulk ≤ 1048576) ∧ s_cA.1.size ≤ maxLen ∧ s_cA.2.length ≤ 16 := ⟨ok_cA, small_cA, by decide, by decide⟩
theorem g_cE : okStrand s_cE.1 s_cE.2 = 0 ∧ (∀ m ∈ s_cE.2, m.2.bulk ≤ 1048576) ∧ s_cE.1.size ≤ maxLen ∧ s_cE.2.length ≤ 16 := ⟨ok_cE, small_cE, by decide, by decide⟩
theorem g_cP : okStrand s_cP.1 s_cP.2 = 0 ∧ (∀ m ∈ s_cP.2, m.2.bulk ≤ 1048576) ∧ s_cP.1.size ≤ maxLen ∧ s_cP.2.length ≤ 16 := ⟨ok_cP, small_cP, by decide, by decide⟩
theorem g_rA : okStrand s_rA.1 s_rA.2 = 0 ∧ (∀ m ∈ s_rA.2, m.2.bulk ≤ 1048576) ∧ s_rA.1.size ≤ maxLen ∧ s_rA.2.length ≤ 16 := ⟨ok_rA, small_rA, by decide, by decide⟩
theorem g_rE : okStrand s_rE.1 s_rE.2 = 0 ∧ (∀ m ∈ s_rE.2, m.2.bulk ≤ 1048576) ∧ s_rE.1.size ≤ maxLen ∧ s_rE.2.length ≤ 16 := ⟨ok_rE, small_rE, by decide, by decide⟩
theorem g_rP : okStrand s_rP.1 s_rP.2 = 0 ∧ (∀ m ∈ s_rP.2, m.2.bulk ≤ 1048576) ∧ s_rP.1.size ≤ maxLen ∧ s_rP.2.length ≤ 16 := ⟨ok_rP, small_rP, by decide, by decide⟩
set_option maxRecDepth 100000 in
theorem small_known : ∀ t ∈ m_known, t.bulk ≤ 1048576 := fun m hm => of_decide_eq_true (List.all_eq_true.1 (show (m_known.all fun m => decide (m.bulk ≤ 1048576)) = true by kernel_rfl) m hm)
/-- Both Protocols give the same. -/
theorem both_proto (n : ByteArray) : ∃ l K ok, GoodL l ∧ (∀ t ∈ K, t.bulk ≤ 1048576) ∧ K.length ≤ 5 ∧ (∀ w, Calls Tryz.prog 30 #[.string n] w (ProtoIs l K ok w)) ∧ (∀ w, Calls Tryz.prog 31 #[.string n] w (ProtoIs l K ok w)) := by
  by_cases h1 : n = b_passive
  · subst h1; exact ⟨[s_cP, s_rP], m_known, true, good_cons g_cP (good_one g_rP) (by simp), small_known, by decide, oproto_passive, rproto_passive⟩
  by_cases h2 : n = b_active
  · subst h2; exact ⟨[s_cA, s_rA], m_known, true, good_cons g_cA (good_one g_rA) (by simp), small_known, by decide, oproto_active, rproto_active⟩
  by_cases h3 : n = b_exchange
  · subst h3; exact ⟨[s_cE, s_rE], m_known, true, good_cons g_cE (good_one g_rE) (by simp), small_known, by decide, oproto_exchange, rproto_exchange⟩
  by_cases h4 : n = b_blind
  · subst h4; exact ⟨[s_cA, s_cA, s_rA], m_known, true, good_cons g_cA (good_cons g_cA (good_one g_rA) (by simp)) (by simp), small_known, by decide, oproto_blind, rproto_blind⟩
  by_cases h5 : n = b_clone
  · subst h5; exact ⟨[s_rP], m_known, true, good_one g_rP, small_known, by decide, oproto_clone, rproto_clone⟩
  exact ⟨[], [], false, good_nil, (fun t h => by cases h), by decide, fun w => (oproto_none n w ⟨h1, h2, h3, h4, h5⟩).mono fun _ _ h => proto_none_is h, fun w => (rproto_none n w ⟨h1, h2, h3, h4, h5⟩).mono fun _ _ h => proto_none_is h⟩
end Go.Proofs.YtihbmgkbipeakaaGreat
