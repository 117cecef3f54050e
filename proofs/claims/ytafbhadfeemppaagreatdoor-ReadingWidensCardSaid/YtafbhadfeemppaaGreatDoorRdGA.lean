/- Chapter 12: several texts in one (RdSharp, RdSame, RdAwake, RdLaw1). -/
import Derived.Test.YtafbhadfeemppaaGreatDoorRdGR
import Derived.Test.YtafbhadfeemppaaGreatDoorZonParseW
import Derived.Test.YtafbhadfeemppaaGreatDoorRdGL
import Derived.Test.YtafbhadfeemppaaGreatDoorZonGM
import Derived.OpenShut
namespace Go.Proofs.YtafbhadfeemppaaGreatDoor
open Go.RowKit

/-- A slice of slices of strings that the call owns, each row in a block of its own. -/
def RowsAt (w : World) (base : Nat) (v : Value) (vs : List Value) (K : List (List ByteArray)) : Prop :=
  w.ownsRow base 29 1 v K.length vs ∧ vs.length = K.length ∧ (∀ i (h : i < vs.length) (h' : i < K.length), w.ownsRow base 9 1 vs[i] K[i].length (K[i].map Value.string)) ∧
    ∀ i j (h : i < vs.length) (h' : j < vs.length), i ≠ j → vs[i].ownBlock = none ∨ vs[i].ownBlock ≠ vs[j].ownBlock
theorem RowsAt.later {w w' : World} {base : Nat} {v : Value} {vs : List Value} {K : List (List ByteArray)} (h : RowsAt w base v vs K) (hb : Below w.heap.size w w') : RowsAt w' base v vs K :=
  ⟨ownsRow_later h.1 hb, h.2.1, fun i a b => ownsRow_later (h.2.2.1 i a b) hb, h.2.2.2⟩
theorem RowsAt.nil (w : World) (base : Nat) : RowsAt w base (.slice none 0 0) [] [] := ⟨World.ownsRow_nil _ _ _ _, rfl, fun i h => absurd h (by simp), fun i j h => absurd h (by simp)⟩
theorem RowsAt.grid {w : World} {base n c : Nat} {A : Option Addr} {vs : List Value} {K : List (List ByteArray)} (h : RowsAt w base (.slice A n c) vs K) (hn : n = K.length) : GridAt w A K := by
  subst hn
  rcases (Src.of_own h.1).2 with h0 | ⟨g, off, e, hc⟩
  · exact .inl h0
  · refine .inr ⟨g, off, e, fun i hi => ?_⟩
    have hi' : i < vs.length := by rw [h.2.1]; exact hi
    have ho := h.2.2.1 i hi' hi
    obtain ⟨Ai, ci, e1, _, _⟩ := own_form ho
    refine ⟨Ai, ci, ?_, ?_⟩
    · rw [hc i _ (List.getElem?_eq_getElem hi'), e1]
    · rw [e1] at ho; exact Src.of_own ho
/-- A row's own block changes: the others lie on. -/
theorem RowsAt.kept {w w' : World} {base : Nat} {v : Value} {vs : List Value} {K : List (List ByteArray)} {row : Option Nat} (h : RowsAt w base v vs K) (hg : w.grownBy w' row) (h1 : v.ownBlock = none ∨ v.ownBlock ≠ row) (h2 : ∀ i (h : i < vs.length), vs[i].ownBlock = none ∨ vs[i].ownBlock ≠ row) : RowsAt w' base v vs K :=
  ⟨h.1.kept hg h1, h.2.1, fun i a b => (h.2.2.1 i a b).kept hg (h2 i a), h.2.2.2⟩
/-- The reading of a line without doubts. -/
def sharpL (s : ByteArray) : List ByteArray := s.data.toList.map fun c => ⟨#[c]⟩
def sharpG (R : List ByteArray) : List (List ByteArray) := R.map sharpL
theorem sharpL_len (s : ByteArray) : (sharpL s).length = s.size := by unfold sharpL; rw [List.length_map, Opt.size_len]
theorem sharpL_get {s : ByteArray} {k : Nat} (h : k < s.size) : s.extract k (k + 1) = ⟨#[s[k]]⟩ := by
  apply str_eq
  rw [Lib.extract_data]
  have h' : k < s.data.toList.length := by rw [Opt.size_len]; exact h
  rw [List.drop_eq_getElem_cons h', Nat.add_sub_cancel_left, List.take_succ_cons, List.take_zero]
  rfl
/-- What sharp has done: the rows, and the row under way. -/
def SP (w : World) (v : Value) (vs : List Value) (K : List (List ByteArray)) (u : Value) (xs : List ByteArray) (wr : World) : Prop :=
  RowsAt wr w.heap.size v vs K ∧ wr.ownsRow w.heap.size 9 1 u xs.length (xs.map Value.string) ∧ (∀ i (h : i < vs.length), vs[i].ownBlock = none ∨ vs[i].ownBlock ≠ u.ownBlock) ∧ Below w.heap.size w wr
theorem own_lt {w : World} {base e size n : Nat} {v : Value} {xs : List Value} (h : w.ownsRow base e size v n xs) {b : Nat} (e : v.ownBlock = some b) : base ≤ b ∧ b < w.heap.size := h.lt b e
/-- Another character in the row under way. -/
theorem SP.push {w : World} {v u u' : Value} {vs : List Value} {K : List (List ByteArray)} {xs : List ByteArray} {s : ByteArray} {wr w4 : World} {tmp : Obj} (h : SP w v vs K u xs wr)
    (hown : w4.ownsRow w.heap.size 9 1 u' (xs.length + 1) (xs.map Value.string ++ [.string s])) (hgrow : (wr.alloc tmp).grownBy w4 u.ownBlock) (hloc : u'.ownBlock = u.ownBlock ∨ u'.ownBlock = some (wr.alloc tmp).heap.size) : SP w v vs K u' (xs ++ [s]) w4 := by
  obtain ⟨h1, h2, h3, h4⟩ := h
  have ha := below_alloc1 wr tmp
  have g1 := h1.later ha
  have g2 := ownsRow_later h2 ha
  refine ⟨g1.kept hgrow (own_ne_type g1.1 g2 (by decide)) h3, by rw [List.length_append, List.map_append]; exact hown, fun i hi => ?_, ?_⟩
  · rcases hloc with hl | hl
    · rw [hl]; exact h3 i hi
    · refine .inr fun e => ?_
      rw [hl] at e
      have hi' : i < K.length := by rw [← h1.2.1]; exact hi
      have := (own_lt (h1.2.2.1 i hi hi') e).2
      rw [size_alloc1] at this; omega
  · exact (h4.trans (ha.mono h4.size)).grown hgrow (by have := h4.size; rw [size_alloc1]; omega) (fun j hj => (own_lt g2 hj).1)
/-- The row is done. -/
theorem SP.close {w : World} {v v' u : Value} {vs : List Value} {K : List (List ByteArray)} {xs : List ByteArray} {wr w4 : World} {tmp : Obj} (h : SP w v vs K u xs wr)
    (hown : w4.ownsRow w.heap.size 29 1 v' (K.length + 1) (vs ++ [u])) (hgrow : (wr.alloc tmp).grownBy w4 v.ownBlock) : SP w v' (vs ++ [u]) (K ++ [xs]) (.slice none 0 0) [] w4 := by
  obtain ⟨h1, h2, h3, h4⟩ := h
  have ha := below_alloc1 wr tmp
  have g1 := h1.later ha
  have g2 := ownsRow_later h2 ha
  have hb : Below w.heap.size w w4 := (h4.trans (ha.mono h4.size)).grown hgrow (by have := h4.size; rw [size_alloc1]; omega) (fun j hj => (own_lt g1.1 hj).1)
  refine ⟨⟨by rw [List.length_append]; exact hown, by rw [List.length_append, List.length_append, h1.2.1]; rfl, fun i a b => ?_, fun i j a b hij => ?_⟩, World.ownsRow_nil _ _ _ _, fun i a => Decidable.em _, hb⟩
  · by_cases hlt : i < vs.length
    · rw [List.getElem_append_left hlt, List.getElem_append_left (by rw [← h1.2.1]; exact hlt)]
      have hi' : i < K.length := by rw [← h1.2.1]; exact hlt
      exact (g1.2.2.1 i hlt hi').kept hgrow (own_ne_type (g1.2.2.1 i hlt hi') g1.1 (by decide))
    · have e1 : i = vs.length := by simp at a; omega
      subst e1
      have e2 : (vs ++ [u])[vs.length]'a = u := by simp
      have e3 : (K ++ [xs])[vs.length]'b = xs := by rw [List.getElem_append_right (by rw [h1.2.1]; exact Nat.le_refl _)]; simp
      rw [e2, e3]
      exact g2.kept hgrow (own_ne_type g2 g1.1 (by decide))
  · have key : ∀ i (a : i < vs.length) (a' : i < (vs ++ [u]).length), (vs ++ [u])[i]'(a') = vs[i] := fun i a a' => List.getElem_append_left a
    by_cases hi : i < vs.length
    · rw [key i hi]
      by_cases hj : j < vs.length
      · rw [key j hj]; exact h1.2.2.2 i j hi hj hij
      · have e1 : j = vs.length := by simp at b; omega
        subst e1
        have e2 : (vs ++ [u])[vs.length]'b = u := by simp
        rw [e2]; exact h3 i hi
    · have e1 : i = vs.length := by simp at a; omega
      subst e1
      have hj : j < vs.length := by simp at b; omega
      have e2 : (vs ++ [u])[vs.length]'a = u := by simp
      rw [e2, key j hj]
      rcases h3 j hj with h | h
      · cases hu : u.ownBlock with
        | none => exact .inl rfl
        | some q => right; rw [h]; simp
      · exact .inr fun e => h e.symm
theorem sharpG_take {R : List ByteArray} {i : Nat} (h : i < R.length) : sharpG (R.take (i + 1)) = sharpG (R.take i) ++ [sharpL R[i]] := by
  unfold sharpG
  rw [List.take_succ_eq_append_getElem h, List.map_append]; rfl
theorem sharpL_take {s : ByteArray} {k : Nat} (h : k < s.size) : (sharpL s).take (k + 1) = (sharpL s).take k ++ [⟨#[s[k]]⟩] := by
  have h' : k < s.data.toList.length := by rw [Opt.size_len]; exact h
  unfold sharpL
  rw [← List.map_take, ← List.map_take, List.take_succ_eq_append_getElem h', List.map_append]; rfl
set_option maxRecDepth 100000 in
set_option maxHeartbeats 4000000 in
theorem osharp (R : List ByteArray) (A : Option Addr) (c : Nat) (w : World) (hA : TextsAt w A R) (hR : R.length ≤ 1000) (hs : ∀ s ∈ R, s.size ≤ 1000) :
    Calls Tryz.prog 27 #[.slice A R.length c] w fun e w' => ∃ v vs, e = .returned v ∧ RowsAt w' w.heap.size v vs (sharpG R) ∧ Below w.heap.size w w' := by
  have HA := Lib.hid hA; have HS := Lib.hid hs
  clear hA hs
  go_enter Tryz.func27, Tryz.ntmps27
  go_wp2_with fail
  go_loopw [3, 4] (fun v3 v4 wr => ∃ (i : Nat) (vs : List Value), i ≤ R.length ∧ v4 = .int .i64 i ∧ SP w v3 vs (sharpG (R.take i)) (.slice none 0 0) [] wr) (fun _ v4 _ => R.length - (intOf v4).toNat)
  case atStart => exact ⟨0, [], Nat.zero_le _, rfl, RowsAt.nil _ _, World.ownsRow_nil _ _ _ _, fun i h => absurd h (by simp), Below.refl _ _⟩
  case round =>
    obtain ⟨i, vs, hi, rfl, hsp⟩ := hrel
    have HSP := Lib.hid hsp
    clear hsp
    obtain ⟨wo, rfl⟩ : ∃ wo : World, wo = wr := ⟨_, rfl⟩
    by_cases hlt : i < R.length
    · obtain ⟨K, hK⟩ : ∃ K, sharpG (R.take i) = K := ⟨_, rfl⟩
      rw [hK] at HSP
      have hkl : K.length = i := by rw [← hK]; unfold sharpG; rw [List.length_map, List.length_take]; omega
      have HK := Lib.hid hK; have HKL := Lib.hid hkl; have HLT := Lib.hid hlt
      obtain ⟨s, hs⟩ : ∃ s, R[i]'hlt = s := ⟨_, rfl⟩
      have hsz := HS.out _ (List.getElem_mem hlt)
      rw [hs] at hsz
      have HSI := Lib.hid hs
      obtain ⟨b, off, rfl, e0⟩ := HA.out.cell i hlt
      rw [hs] at e0
      have HE := Lib.hid e0
      clear hK hs e0
      go_wp2_with fail
      go_loopw [5, 6] (fun u v6 wr => ∃ k : Nat, k ≤ s.size ∧ v6 = .int .i64 k ∧ SP w u3 vs K u ((sharpL s).take k) wr) (fun _ v6 _ => s.size - (intOf v6).toNat)
      case atStart => exact ⟨0, Nat.zero_le _, rfl, HSP.out⟩
      case round =>
        obtain ⟨k, hk, rfl, hsp⟩ := hrel
        have e1 := cell_later hsp.2.2.2 HE.out
        have HP := Lib.hid hsp
        have hkl2 : ((sharpL s).take k).length = k := by rw [List.length_take, sharpL_len]; omega
        obtain ⟨xs, hxs⟩ : ∃ xs, (sharpL s).take k = xs := ⟨_, rfl⟩
        rw [hxs] at HP hkl2
        have HX := Lib.hid hxs; have HXL := Lib.hid hkl2
        clear hsp hxs hkl2
        by_cases hkt : k < s.size
        · obtain ⟨i0, hi0, hz0, hz1, hz2⟩ := info_parts Tryz.infoStr
          obtain ⟨q, hq⟩ : ∃ q : ByteArray, s.extract k (k + 1) = q := ⟨_, rfl⟩
          have HQ := Lib.hid hq; have HKT := Lib.hid hkt
          have HOWN := Lib.hid (HP.out.2.1.alloc (.cells #[.string q] 9))
          clear hkt
          have hkt : (k : Int) < (s.size : Int) := by have := HKT.out; omega
          go_wp2_with (at_builtin; refine wpList_append_own_at _ rfl _ _ 29 rfl w.heap.size 9 i0 (.string ByteArray.empty) 1 16 Tryz.underlying29 hi0 hz0 hz1 hz2 rfl (by decide) _ _ _ rfl HOWN.out ⟨wr.heap.size, 0, none⟩ 1 1 [.string q] rfl rfl ?c1 ?c2 ?c3 ?c4 ?c5 ?_)
          case c1 => exact cell_one_new _ _ _
          case c2 => intro u hu; simp at hu; subst hu; rfl
          case c3 => have := HXL.out; unfold maxLen; omega
          case c4 => have := HXL.out; omega
          case c5 => have := HP.out.2.2.2.size; simp; omega
          · intro u' w4 hown' hgrow _ hloc
            have HPN := Lib.hid (HP.out.push (s := q) hown' hgrow (by rw [size_alloc1]; exact hloc))
            clear hown' hgrow hloc hi0 hz0 hz1 hz2
            go_wp2_with fail
            go_roundw
            case rel =>
              refine ⟨k + 1, HKT.out, by go_num, ?_⟩
              rw [sharpL_take HKT.out, HX.out, ← sharpL_get HKT.out, HQ.out]
              exact HPN.out
            case measure => have := HKT.out; simp [intOf]; omega
        · obtain rfl : k = s.size := by omega
          have HX2 := Lib.hid (show xs = sharpL s by rw [← HX.out]; exact List.take_of_length_le (by rw [sharpL_len]; exact Nat.le_refl _))
          obtain ⟨A5, c5, rfl, _, _⟩ := own_form HP.out.2.1
          obtain ⟨i0, hi0, hz0, hz1, hz2⟩ := info_parts Tryz.infoRow
          have HOWN := Lib.hid (HP.out.1.1.alloc (.cells #[.slice A5 xs.length c5] 29))
          obtain ⟨xl, hxl⟩ : ∃ xl, xs.length = xl := ⟨_, rfl⟩
          rw [hxl] at HOWN ⊢
          have HXLL := Lib.hid hxl
          clear hxl
          go_wp2_with (at_builtin; refine wpList_append_own_at _ rfl _ _ 31 rfl w.heap.size 29 i0 (.slice none 0 0) 1 24 Tryz.underlying31 hi0 hz0 hz1 hz2 rfl (by decide) _ _ _ rfl HOWN.out ⟨wr.heap.size, 0, none⟩ 1 1 [.slice A5 xl c5] rfl rfl ?c1 ?c2 ?c3 ?c4 ?c5 ?_)
          case c1 => exact cell_one_new _ _ _
          case c2 => intro u hu; simp at hu; subst hu; rfl
          case c3 => have := HKL.out; unfold maxLen; omega
          case c4 => have := HKL.out; omega
          case c5 => have := HP.out.2.2.2.size; simp; omega
          · intro v' w4 hown' hgrow _ _
            have HPC := Lib.hid (HP.out.close (by rw [HXLL.out, HKL.out]; exact hown') hgrow)
            clear hown' hgrow hi0 hz0 hz1 hz2
            go_wp2_with fail
            go_roundw
            case rel =>
              refine ⟨i + 1, vs ++ [.slice A5 xs.length c5], HLT.out, by go_num, ?_⟩
              rw [sharpG_take HLT.out, HK.out, HSI.out, ← HX2.out]
              exact HPC.out
            case measure => have := HLT.out; simp [intOf]; omega
    · obtain rfl : i = R.length := by omega
      have HSP2 := Lib.hid (show SP w u3 vs (sharpG R) (.slice none 0 0) [] wo by have h := HSP.out; rwa [List.take_length] at h)
      go_wp2_with fail
      go_ret
      exact ⟨_, vs, rfl, HSP2.out.1, HSP2.out.2.2.2⟩
end Go.Proofs.YtafbhadfeemppaaGreatDoor

namespace Go.Proofs.YtafbhadfeemppaaGreatDoor
open Go.RowKit

set_option maxRecDepth 100000 in
set_option maxHeartbeats 4000000 in
/-- Same of two rows of texts. -/
theorem rsame (w : World) (A B : Option Addr) (K M : List ByteArray) (c d : Nat) (hA : TextsAt w A K) (hB : TextsAt w B M) (hK : K.length ≤ 1099511627776) (hM : M.length ≤ 1099511627776) :
    Calls Tryz.prog 22 #[.slice A K.length c, .slice B M.length d] w fun e w' => e = .returned (.bool (decide (K = M))) ∧ ∃ n, w' = w.drewN n := by
  have HA := Lib.hid hA; have HB := Lib.hid hB
  clear hA hB
  by_cases hl : K.length = M.length
  · have HL := Lib.hid hl
    have e1 : ((K.length : Int) != (M.length : Int)) = false := by rw [bne_eq_false_iff_eq]; omega
    obtain ⟨q, hq⟩ : ∃ q, decide (K = M) = q := ⟨_, rfl⟩
    rw [hq]
    have HQ := Lib.hid hq
    clear hq hl
    go_enter Tryz.func22, Tryz.ntmps22
    go_wp2_with fail
    clear e1
    go_loopw [5] (fun i wr => ∃ j : Nat, j ≤ K.length ∧ i = .int .i64 j ∧ (∀ m (h : m < j) (h1 : m < K.length) (h2 : m < M.length), K[m] = M[m]) ∧ ∃ n, wr = w.drewN n) (fun i _ => K.length - (intOf i).toNat)
    case atStart => exact ⟨0, Nat.zero_le _, rfl, fun m h => absurd h (by omega), 0, rfl⟩
    case round =>
      obtain ⟨j, hj, rfl, heq, n, rfl⟩ := hrel
      have HEQ := Lib.hid heq
      clear heq
      by_cases hlt : j < K.length
      · have hlt2 : j < M.length := by have := HL.out; omega
        obtain ⟨b1, o1, rfl, d1⟩ := HA.out.cell j hlt
        obtain ⟨b2, o2, rfl, d2⟩ := HB.out.cell j hlt2
        have i1 : (j : Int) < (K.length : Int) := by omega
        have i2 : (j : Int) < (M.length : Int) := by omega
        obtain ⟨s, hs⟩ : ∃ s, K[j]'hlt = s := ⟨_, rfl⟩
        obtain ⟨t, ht⟩ : ∃ t, M[j]'hlt2 = t := ⟨_, rfl⟩
        rw [hs] at d1; rw [ht] at d2
        have HS := Lib.hid (And.intro hs ht); have HLT := Lib.hid (And.intro hlt hlt2)
        clear hs ht
        by_cases hst : s = t
        · subst hst
          have e2 : (s.toList != s.toList) = false := by rw [bne_eq_false_iff_eq]
          go_wp2_with fail
          go_quiet (fail)
          go_wp2_with fail
          go_roundw
          case rel =>
            refine ⟨j + 1, HLT.out.1, by go_num, fun m h h1 h2 => ?_, _, rfl⟩
            rcases Nat.lt_or_ge m j with g | g
            · exact HEQ.out m g h1 h2
            · obtain rfl : m = j := by omega
              exact HS.out.1.trans HS.out.2.symm
          case measure => have := HLT.out.1; simp [intOf]; omega
        · have e2 : (s.toList != t.toList) = true := by
            rw [bne_iff_ne]; intro h; apply hst
            rw [ByteArray.toList_eq, ByteArray.toList_eq] at h
            exact str_eq h
          have e3 : (s.toList == t.toList) = false := by rw [bne, Bool.not_eq_true'] at e2; exact e2
          have HR := Lib.hid (show q = false by
            rw [← HQ.out, decide_eq_false_iff_not]
            intro h
            subst h
            exact hst (HS.out.1.symm.trans HS.out.2))
          clear hst
          go_wp2_with fail
          go_quiet (fail)
          go_wp2_with fail
          go_ret
          have hr := HR.out
          subst hr
          exact ⟨rfl, _, World.drewN_drewN _ _ _⟩
      · obtain rfl : j = K.length := by omega
        have hi : ¬ ((K.length : Int) < (K.length : Int)) := by omega
        have HR := Lib.hid (show q = true by
          rw [← HQ.out, decide_eq_true_eq]
          exact List.ext_getElem HL.out fun m h1 h2 => HEQ.out m h1 h1 h2)
        clear hlt hj
        go_wp2_with fail
        go_ret
        have hr := HR.out
        subst hr
        exact ⟨rfl, _, rfl⟩
  · have e1 : ((K.length : Int) != (M.length : Int)) = true := by rw [bne_iff_ne]; omega
    have HR := Lib.hid (show decide (K = M) = false by rw [decide_eq_false_iff_not]; intro h; exact hl (by rw [h]))
    clear hl
    rw [HR.out]
    go_enter Tryz.func22, Tryz.ntmps22
    go_wp2_with fail
    go_ret
    exact ⟨rfl, 0, rfl⟩
theorem rsame_same (w : World) (A B : Option Addr) (K : List ByteArray) (c d : Nat) (hA : TextsAt w A K) (hB : TextsAt w B K) (hK : K.length ≤ 1099511627776) :
    Calls Tryz.prog 22 #[.slice A K.length c, .slice B K.length d] w fun e w' => e = .returned (.bool true) ∧ Below w.heap.size w w' :=
  (rsame w A B K K c d hA hB hK hK).mono fun e w' ⟨h1, n, h2⟩ => ⟨by rw [h1, decide_eq_true rfl], by rw [h2]; exact below_drewN (Below.refl _ _) n⟩
theorem own_texts {w : World} {base : Nat} {v : Value} {K : List ByteArray} (h : w.ownsRow base 9 1 v K.length (K.map .string)) : ∃ A c, v = .slice A K.length c ∧ K.length ≤ c ∧ TextsAt w A K := by
  rcases h.2 with ⟨rfl, h0⟩ | ⟨g, cap, cur, rfl, h1, h2, h3, h4, h5, h6⟩
  · have : K = [] := List.eq_nil_of_length_eq_zero h0
    subst this
    exact ⟨none, 0, rfl, Nat.le_refl _, ⟨by simp, .inl rfl⟩⟩
  · refine ⟨_, cap, rfl, h3, ⟨by simp, .inr ⟨g, 0, rfl, fun j u hu => ?_⟩⟩⟩
    have hj : j < K.length := by have := (List.getElem?_eq_some_iff.1 hu).1; rwa [List.length_map] at this
    rw [Nat.zero_add]
    exact (World.ownsRow.cellAt h j (by omega)).trans hu
end Go.Proofs.YtafbhadfeemppaaGreatDoor

namespace Go.Proofs.YtafbhadfeemppaaGreatDoor
open Go.RowKit

theorem smp_ok : okG (sharpG [Zn.smp0, Zn.smp1]) = true := by kernel_rfl
theorem smp_size : Rd.size (flatG (sharpG [Zn.smp0, Zn.smp1])) = 1 := by kernel_rfl
theorem smp_lines : lineS 2 44 (choice (flatG (sharpG [Zn.smp0, Zn.smp1])) 0) = [Zn.smp0, Zn.smp1] := by kernel_rfl
theorem smp_cnt : cntE (sharpG [Zn.smp0, Zn.smp1]) = 0 := by unfold cntE; rw [smp_ok, smp_size]; rfl
theorem smp_rdK : rdK (sharpG [Zn.smp0, Zn.smp1]) = [[Zn.smp0, Zn.smp1]] := by
  unfold rdK KS
  rw [smp_size]
  show ([lineS 2 44 (choice (flatG (sharpG [Zn.smp0, Zn.smp1])) 0)]).filter _ = _
  rw [smp_lines]
  simp [Zn.smp_prsE]
theorem smp_onlE : onlE (sharpG [Zn.smp0, Zn.smp1]) = 0 := by unfold onlE; rw [smp_cnt, smp_rdK]; rfl
theorem smp_onlV : onlV (sharpG [Zn.smp0, Zn.smp1]) = [Zn.smp0, Zn.smp1] := by unfold onlV; rw [if_pos smp_onlE, smp_rdK]; rfl
set_option maxRecDepth 100000 in
theorem osample (w : World) : Calls Tryz.prog 28 #[] w fun e w' => ∃ A c, e = .returned (.slice A 2 c) ∧ TextsAt w' A [Zn.smp0, Zn.smp1] ∧ Below w.heap.size w w' := by
  have HN := Lib.hid (texts_new w [Zn.smp0, Zn.smp1])
  have HB := Lib.hid (below_alloc1 w (.cells ([Zn.smp0, Zn.smp1].map Value.string).toArray 9))
  go_enter Tryz.func28, Tryz.ntmps28
  go_wp2_with fail
  go_ret
  exact ⟨_, _, rfl, HN.out, HB.out⟩
set_option maxRecDepth 100000 in
set_option maxHeartbeats 4000000 in
theorem oawake (w : World) (hd : Dat.At w) (hx : Opt.Lax w) : Calls Tryz.prog 11 #[] w fun e w' => e = .returned (.bool true) ∧ Below w.heap.size w w' := by
  have HDX := Lib.hid (And.intro hd hx)
  have HSM := Lib.hid osample
  have HSH := Lib.hid (fun (W : World) (A : Option Addr) (c : Nat) (h : TextsAt W A [Zn.smp0, Zn.smp1]) => osharp [Zn.smp0, Zn.smp1] A c W h (by decide) (by decide))
  have HON := Lib.hid (show ∀ (W : World) (A : Option Addr) (c : Nat), GridAt W A (sharpG [Zn.smp0, Zn.smp1]) → Dat.At W → Opt.Lax W → Calls Tryz.prog 19 #[.slice A 2 c] W fun e w' => ∃ A' c', e = .returned (.tuple #[.slice A' 2 c', .int .i64 0]) ∧ TextsAt w' A' [Zn.smp0, Zn.smp1] ∧ Below W.heap.size W w' from fun W A c h1 h2 h3 => by
    have h := oonly (sharpG [Zn.smp0, Zn.smp1]) A c W h1 (by decide) (by decide) (by decide) h2 h3
    unfold OnlyPost at h
    rw [smp_onlE, smp_onlV] at h
    exact h)
  have HSS := Lib.hid (fun (W : World) (A B : Option Addr) (c d : Nat) (hA : TextsAt W A [Zn.smp0, Zn.smp1]) (hB : TextsAt W B [Zn.smp0, Zn.smp1]) => rsame_same W A B [Zn.smp0, Zn.smp1] c d hA hB (by decide))
  have HSI := Lib.hid (show ∀ W, Calls Tryz.prog 10 #[.int .u8 79] W fun e w' => e = .returned (.string ⟨#[48, 68, 79, 81]⟩) ∧ Below W.heap.size W w' from fun W => by
    have h := osimilar 79 W
    rw [show simS 79 = ⟨#[48, 68, 79, 81]⟩ by kernel_rfl] at h
    exact h)
  obtain ⟨R, hR⟩ : ∃ R, [Zn.smp0, Zn.smp1] = R := ⟨_, rfl⟩
  rw [hR] at HSM HSH HON HSS
  have HRL := Lib.hid (show R.length = 2 by rw [← hR]; rfl)
  clear hd hx hR
  go_enter Tryz.func11, Tryz.ntmps11
  go_wp2_with fail
  refine (HSM.out _).mono ?_; rintro e w1 ⟨A1, c1, rfl, ht1, hb1⟩
  have HT1 := Lib.hid ht1; have HB1 := Lib.hid hb1
  clear ht1 hb1
  go_wp2_with fail
  have h1 := HSH.out _ _ c1 HT1.out
  rw [HRL.out] at h1
  refine h1.mono ?_; rintro e w2 ⟨v, vs, rfl, hr, hb2⟩
  obtain ⟨A2, c2, rfl, _, _⟩ := own_form hr.1
  have hgl : (sharpG R).length = 2 := by unfold sharpG; rw [List.length_map]; exact HRL.out
  have HG := Lib.hid (hr.grid rfl)
  rw [hgl]
  have HB2 := Lib.hid (HB1.out.trans (hb2.mono HB1.out.size))
  clear h1 hr hb2 hgl
  go_wp2_with fail
  refine (HON.out _ _ c2 HG.out (HDX.out.1.below HB2.out) (HDX.out.2.below HB2.out)).mono ?_; rintro e w3 ⟨A3, c3, rfl, ht3, hb3⟩
  have HT3 := Lib.hid ht3; have HB3 := Lib.hid (HB2.out.trans (hb3.mono HB2.out.size))
  clear ht3 hb3
  go_upto_region 2 with fail
  go_wp2_with fail
  refine (HSM.out _).mono ?_; rintro e w4 ⟨A4, c4, rfl, ht4, hb4⟩
  have HT4 := Lib.hid (And.intro (HT3.out.later hb4) ht4); have HB4 := Lib.hid (HB3.out.trans (hb4.mono HB3.out.size))
  clear ht4 hb4
  go_wp2_with fail
  have h2 := HSS.out _ _ _ c3 c4 HT4.out.1 HT4.out.2
  rw [HRL.out] at h2
  refine h2.mono ?_; rintro e w5 ⟨rfl, hb5⟩
  have HB5 := Lib.hid (HB4.out.trans (hb5.mono HB4.out.size))
  clear h2 hb5
  go_wp2_with fail
  refine (HSI.out _).mono ?_; rintro e w6 ⟨rfl, hb6⟩
  have HB6 := Lib.hid (HB5.out.trans (hb6.mono HB5.out.size))
  clear hb6
  go_wp2_with fail
  go_ret
  exact ⟨rfl, HB6.out⟩
end Go.Proofs.YtafbhadfeemppaaGreatDoor

namespace Go.Proofs.YtafbhadfeemppaaGreatDoor
open Go.RowKit Go.ChangeShapes Go.WideShapes

theorem laid_dat {W : World} {rest : List (String × DataW Unit)} (hp : ((("traveldoc/dates.lengths", Rows.laid_traveldoc_dates_lengths) :: rest).all fun x => x.2.handleName?.isNone) = true) (h : laidMetH Tryz.prog (("traveldoc/dates.lengths", Rows.laid_traveldoc_dates_lengths) :: rest) W) : Dat.At W := by
  rw [MakeChecks.laidMetH_plain _ _ _ hp] at h
  exact dat_of h
theorem laid_grp {W : World} {l : List (String × DataW Unit)} (hp : (l.all fun x => x.2.handleName?.isNone) = true) (hf : (l.filter fun x => x.1 == "traveldoc/traveldocref12.groups") = [("traveldoc/traveldocref12.groups", Rows.laid_traveldoc_traveldocref12_groups)]) (h : laidMetH Tryz.prog l W) : GrpAt W := by
  rw [MakeChecks.laidMetH_plain _ _ _ hp] at h
  have := h.filter fun x => x.1 == "traveldoc/traveldocref12.groups"
  rw [hf] at this
  exact grp_of this
theorem GrpAt.below {B : Nat} {w w' : World} (h : GrpAt w) (hb : Below B w w') (hB : 0 < B) : GrpAt w' := fun i hi => (hb.cell (p := ⟨0, i, none⟩) hB).trans (h i hi)
theorem GrpAt.later {w w' : World} (h : GrpAt w) (hb : Below w.heap.size w w') : GrpAt w' := fun i hi => cell_later hb (h i hi)
set_option maxRecDepth 100000 in
set_option maxHeartbeats 4000000 in
theorem walkReadingSimilar {X : Prop} (w : World) (a0 : Int) (w0 : (Lit.int .u8 a0).wf = true) (_hsz : X) (hL : laidMetH Tryz.prog Rows.readingSimilarRow.laid w) (hsh : w.ShapedOpen Tryz.prog) :
    Calls Tryz.prog 3 #[.int .u8 a0] w fun e w' => e = .returned (.bool true) ∧ Below w.heap.size w w' := by
  have hb := bounds_u8 w0
  obtain ⟨c, hc⟩ : ∃ c : UInt8, a0 = (c.toNat : Int) := ⟨b8 a0, (b8_toNat a0 hb.1 (by omega)).symm⟩
  subst hc
  have HDX := Lib.hid (And.intro (laid_dat (by kernel_rfl) hL) (And.intro (Opt.lax_of hsh) (laid_grp (by kernel_rfl) (by rfl) hL)))
  have HAW := Lib.hid (fun W (h : Below w.heap.size w W) => oawake W (HDX.out.1.below h) (HDX.out.2.1.below h))
  have HSB := Lib.hid (simL_back c)
  clear hL hsh w0 hb
  obtain ⟨s, hs⟩ : ∃ s, simS c = s := ⟨_, rfl⟩
  have HO := Lib.hid (fun W => osimilar c W)
  have HR := Lib.hid (fun W (h : Below w.heap.size w W) => rsimilar c W (HDX.out.2.2.later h))
  rw [hs] at HO HR
  have HS := Lib.hid hs
  clear hs
  go_enter Tryz.func3, Tryz.ntmps3
  go_wp2_with fail
  refine (HO.out _).mono ?_; rintro e w1 ⟨rfl, hb1⟩
  have HB1 := Lib.hid hb1
  clear hb1
  go_wp2_with fail
  refine (HAW.out _ HB1.out).mono ?_; rintro e w2 ⟨rfl, hb2⟩
  have HB2 := Lib.hid (HB1.out.trans (hb2.mono HB1.out.size))
  clear hb2
  have e1 : (s.toList != s.toList) = false := by rw [bne_eq_false_iff_eq]
  go_wp2_with fail
  refine (HR.out _ HB2.out).mono ?_; rintro e w3 ⟨rfl, hb3⟩
  have HB3 := Lib.hid (HB2.out.trans (hb3.mono HB2.out.size))
  clear hb3
  have hsz : s.size ≤ 4 := by
    have h : ∀ c : UInt8, (simL c).length ≤ 4 := by
      have h : (List.range 256).all (fun n => decide ((simL (UInt8.ofNat n)).length ≤ 4)) = true := by kernel_rfl
      intro c
      have h1 := List.all_eq_true.1 h c.toNat (List.mem_range.2 c.toNat_lt)
      rw [show UInt8.ofNat c.toNat = c by simp] at h1
      exact of_decide_eq_true h1
    rw [← HS.out]; unfold simS; rw [str_size]; exact h c
  go_wp2_with fail
  clear e1
  go_loopw [4] (fun v wr => ∃ k : Nat, k ≤ s.size ∧ v = .int .i64 k ∧ Below w.heap.size w wr) (fun v _ => s.size - (intOf v).toNat)
  case atStart => exact ⟨0, Nat.zero_le _, rfl, HB3.out⟩
  case round =>
    obtain ⟨k, hk, rfl, hbr⟩ := hrel
    have HBR := Lib.hid hbr
    clear hbr
    by_cases hlt : k < s.size
    · obtain ⟨q, hq⟩ : ∃ q, s[k]'hlt = q := ⟨_, rfl⟩
      have HQ := Lib.hid (show simS q = s by
        have h1 := HSB.out q (by
          have h2 : (simL c).length = s.size := by rw [← HS.out]; unfold simS; rw [str_size]
          have h3 : (simL c)[k]'(by omega) = q := by
            rw [← hq]
            have : ∀ (s' : ByteArray) (e : simS c = s') (h : k < s'.size), s'[k] = (simL c)[k]'(by omega) := fun s' e h => by subst e; rfl
            exact (this s HS.out hlt).symm
          rw [← h3]; exact List.getElem_mem _)
        rw [← HS.out]; unfold simS; rw [h1])
      have HSQ := Lib.hid (show ∀ W, Calls Tryz.prog 10 #[.int .u8 ((s[k]'hlt).toNat : Int)] W fun e w' => e = .returned (.string s) ∧ Below W.heap.size W w' from fun W => by
        have h := osimilar (s[k]'hlt) W
        rw [hq, HQ.out] at h
        rw [hq]; exact h)
      have HLT := Lib.hid hlt
      clear hq
      go_wp2_with fail
      refine (HSQ.out _).mono ?_; rintro e w4 ⟨rfl, hb4⟩
      have HB4 := Lib.hid (HBR.out.trans (hb4.mono HBR.out.size))
      have e1 : (s.toList != s.toList) = false := by rw [bne_eq_false_iff_eq]
      clear hb4
      go_wp2_with fail
      go_roundw
      case rel => exact ⟨k + 1, HLT.out, by go_num, HB4.out⟩
      case measure => have := HLT.out; simp [intOf]; omega
    · obtain rfl : k = s.size := by omega
      go_wp2_with fail
      go_ret
      exact ⟨rfl, HBR.out⟩
end Go.Proofs.YtafbhadfeemppaaGreatDoor
