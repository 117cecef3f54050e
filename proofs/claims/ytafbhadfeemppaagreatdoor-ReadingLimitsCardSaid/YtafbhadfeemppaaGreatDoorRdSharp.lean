/- Chapter 12: rows of texts that a call owns; the walk of sharp. -/
import Derived.Test.YtafbhadfeemppaaGreatDoorRdGR
namespace Go.Proofs.YtafbhadfeemppaaGreatDoor
open Go.RowKit

/-- A slice of slices of strings that the call owns, each row in a block of its own. -/
def RowsAt (w : World) (base : Nat) (v : Value) (vs : List Value) (K : List (List ByteArray)) : Prop :=
  w.ownsRow base 29 1 v K.length vs ∧ vs.length = K.length ∧ (∀ i (h : i < vs.length) (h' : i < K.length), w.ownsRow base 9 1 vs[i] K[i].length (K[i].map Value.string)) ∧
    ∀ i j (h : i < vs.length) (h' : j < vs.length), i ≠ j → vs[i].ownBlock = none ∨ vs[i].ownBlock ≠ vs[j].ownBlock
theorem RowsAt.later {w w' : World} {base : Nat} {v : Value} {vs : List Value} {K : List (List ByteArray)} (h : RowsAt w base v vs K) (hb : Below w.heap.size w w') : RowsAt w' base v vs K :=
  ⟨ownsRow_later h.1 hb, h.2.1, fun i a b => ownsRow_later (h.2.2.1 i a b) hb, h.2.2.2⟩
theorem RowsAt.nil (w : World) (base : Nat) : RowsAt w base (.slice none 0 0) [] [] := ⟨World.ownsRow_nil _ _ _ _, rfl, fun i h => absurd h (by simp), fun i j h => absurd h (by simp)⟩
theorem RowsAt.grid {w : World} {base n c : Nat} {A : Option Addr} {vs : List Value} {K : List (List ByteArray)} (h : RowsAt w base (.slice A n c) vs K) (hn : n = K.length) : GridAt w A K := by
  subst hn
  rcases (Src.of_own h.1).2 with h0 | ⟨g, off, e, hc⟩
  · exact .inl h0
  · refine .inr ⟨g, off, e, fun i hi => ?_⟩
    have hi' : i < vs.length := by rw [h.2.1]; exact hi
    have ho := h.2.2.1 i hi' hi
    obtain ⟨Ai, ci, e1, _, _⟩ := own_form ho
    refine ⟨Ai, ci, ?_, ?_⟩
    · rw [hc i _ (List.getElem?_eq_getElem hi'), e1]
    · rw [e1] at ho; exact Src.of_own ho
/-- A row's own block changes: the others lie on. -/
theorem RowsAt.kept {w w' : World} {base : Nat} {v : Value} {vs : List Value} {K : List (List ByteArray)} {row : Option Nat} (h : RowsAt w base v vs K) (hg : w.grownBy w' row) (h1 : v.ownBlock = none ∨ v.ownBlock ≠ row) (h2 : ∀ i (h : i < vs.length), vs[i].ownBlock = none ∨ vs[i].ownBlock ≠ row) : RowsAt w' base v vs K :=
  ⟨h.1.kept hg h1, h.2.1, fun i a b => (h.2.2.1 i a b).kept hg (h2 i a), h.2.2.2⟩
/-- The reading of a line without doubts. -/
def sharpL (s : ByteArray) : List ByteArray := s.data.toList.map fun c => ⟨#[c]⟩
def sharpG (R : List ByteArray) : List (List ByteArray) := R.map sharpL
theorem sharpL_len (s : ByteArray) : (sharpL s).length = s.size := by unfold sharpL; rw [List.length_map, Opt.size_len]
theorem sharpL_get {s : ByteArray} {k : Nat} (h : k < s.size) : s.extract k (k + 1) = ⟨#[s[k]]⟩ := by
  apply str_eq
  rw [Lib.extract_data]
  have h' : k < s.data.toList.length := by rw [Opt.size_len]; exact h
  rw [List.drop_eq_getElem_cons h', Nat.add_sub_cancel_left, List.take_succ_cons, List.take_zero]
  rfl
/-- What sharp has done: the rows, and the row under way. -/
def SP (w : World) (v : Value) (vs : List Value) (K : List (List ByteArray)) (u : Value) (xs : List ByteArray) (wr : World) : Prop :=
  RowsAt wr w.heap.size v vs K ∧ wr.ownsRow w.heap.size 9 1 u xs.length (xs.map Value.string) ∧ (∀ i (h : i < vs.length), vs[i].ownBlock = none ∨ vs[i].ownBlock ≠ u.ownBlock) ∧ Below w.heap.size w wr
theorem own_lt {w : World} {base e size n : Nat} {v : Value} {xs : List Value} (h : w.ownsRow base e size v n xs) {b : Nat} (e : v.ownBlock = some b) : base ≤ b ∧ b < w.heap.size := h.lt b e
/-- Another character in the row under way. -/
theorem SP.push {w : World} {v u u' : Value} {vs : List Value} {K : List (List ByteArray)} {xs : List ByteArray} {s : ByteArray} {wr w4 : World} {tmp : Obj} (h : SP w v vs K u xs wr)
    (hown : w4.ownsRow w.heap.size 9 1 u' (xs.length + 1) (xs.map Value.string ++ [.string s])) (hgrow : (wr.alloc tmp).grownBy w4 u.ownBlock) (hloc : u'.ownBlock = u.ownBlock ∨ u'.ownBlock = some (wr.alloc tmp).heap.size) : SP w v vs K u' (xs ++ [s]) w4 := by
  obtain ⟨h1, h2, h3, h4⟩ := h
  have ha := below_alloc1 wr tmp
  have g1 := h1.later ha
  have g2 := ownsRow_later h2 ha
  refine ⟨g1.kept hgrow (own_ne_type g1.1 g2 (by decide)) h3, by rw [List.length_append, List.map_append]; exact hown, fun i hi => ?_, ?_⟩
  · rcases hloc with hl | hl
    · rw [hl]; exact h3 i hi
    · refine .inr fun e => ?_
      rw [hl] at e
      have hi' : i < K.length := by rw [← h1.2.1]; exact hi
      have := (own_lt (h1.2.2.1 i hi hi') e).2
      rw [size_alloc1] at this; omega
  · exact (h4.trans (ha.mono h4.size)).grown hgrow (by have := h4.size; rw [size_alloc1]; omega) (fun j hj => (own_lt g2 hj).1)
/-- The row is done. -/
theorem SP.close {w : World} {v v' u : Value} {vs : List Value} {K : List (List ByteArray)} {xs : List ByteArray} {wr w4 : World} {tmp : Obj} (h : SP w v vs K u xs wr)
    (hown : w4.ownsRow w.heap.size 29 1 v' (K.length + 1) (vs ++ [u])) (hgrow : (wr.alloc tmp).grownBy w4 v.ownBlock) : SP w v' (vs ++ [u]) (K ++ [xs]) (.slice none 0 0) [] w4 := by
  obtain ⟨h1, h2, h3, h4⟩ := h
  have ha := below_alloc1 wr tmp
  have g1 := h1.later ha
  have g2 := ownsRow_later h2 ha
  have hb : Below w.heap.size w w4 := (h4.trans (ha.mono h4.size)).grown hgrow (by have := h4.size; rw [size_alloc1]; omega) (fun j hj => (own_lt g1.1 hj).1)
  refine ⟨⟨by rw [List.length_append]; exact hown, by rw [List.length_append, List.length_append, h1.2.1]; rfl, fun i a b => ?_, fun i j a b hij => ?_⟩, World.ownsRow_nil _ _ _ _, fun i a => Decidable.em _, hb⟩
  · by_cases hlt : i < vs.length
    · rw [List.getElem_append_left hlt, List.getElem_append_left (by rw [← h1.2.1]; exact hlt)]
      have hi' : i < K.length := by rw [← h1.2.1]; exact hlt
      exact (g1.2.2.1 i hlt hi').kept hgrow (own_ne_type (g1.2.2.1 i hlt hi') g1.1 (by decide))
    · have e1 : i = vs.length := by simp at a; omega
      subst e1
      have e2 : (vs ++ [u])[vs.length]'a = u := by simp
      have e3 : (K ++ [xs])[vs.length]'b = xs := by rw [List.getElem_append_right (by rw [h1.2.1]; exact Nat.le_refl _)]; simp
      rw [e2, e3]
      exact g2.kept hgrow (own_ne_type g2 g1.1 (by decide))
  · have key : ∀ i (a : i < vs.length) (a' : i < (vs ++ [u]).length), (vs ++ [u])[i]'a' = vs[i] := fun i a a' => List.getElem_append_left a
    by_cases hi : i < vs.length
    · rw [key i hi]
      by_cases hj : j < vs.length
      · rw [key j hj]; exact h1.2.2.2 i j hi hj hij
      · have e1 : j = vs.length := by simp at b; omega
        subst e1
        have e2 : (vs ++ [u])[vs.length]'b = u := by simp
        rw [e2]; exact h3 i hi
    · have e1 : i = vs.length := by simp at a; omega
      subst e1
      have hj : j < vs.length := by simp at b; omega
      have e2 : (vs ++ [u])[vs.length]'a = u := by simp
      rw [e2, key j hj]
      rcases h3 j hj with h | h
      · cases hu : u.ownBlock with
        | none => exact .inl rfl
        | some q => right; rw [h]; simp
      · exact .inr fun e => h e.symm
theorem sharpG_take {R : List ByteArray} {i : Nat} (h : i < R.length) : sharpG (R.take (i + 1)) = sharpG (R.take i) ++ [sharpL R[i]] := by
  unfold sharpG
  rw [List.take_succ_eq_append_getElem h, List.map_append]; rfl
theorem sharpL_take {s : ByteArray} {k : Nat} (h : k < s.size) : (sharpL s).take (k + 1) = (sharpL s).take k ++ [⟨#[s[k]]⟩] := by
  have h' : k < s.data.toList.length := by rw [Opt.size_len]; exact h
  unfold sharpL
  rw [← List.map_take, ← List.map_take, List.take_succ_eq_append_getElem h', List.map_append]; rfl
set_option maxRecDepth 100000 in
set_option maxHeartbeats 4000000 in
theorem osharp (R : List ByteArray) (A : Option Addr) (c : Nat) (w : World) (hA : TextsAt w A R) (hR : R.length ≤ 1000) (hs : ∀ s ∈ R, s.size ≤ 1000) :
    Calls Tryz.prog 27 #[.slice A R.length c] w fun e w' => ∃ v vs, e = .returned v ∧ RowsAt w' w.heap.size v vs (sharpG R) ∧ Below w.heap.size w w' := by
  have HA := Lib.hid hA; have HS := Lib.hid hs
  clear hA hs
  go_enter Tryz.func27, Tryz.ntmps27
  go_wp2_with fail
  go_loopw [3, 4] (fun v3 v4 wr => ∃ (i : Nat) (vs : List Value), i ≤ R.length ∧ v4 = .int .i64 i ∧ SP w v3 vs (sharpG (R.take i)) (.slice none 0 0) [] wr) (fun _ v4 _ => R.length - (intOf v4).toNat)
  case atStart => exact ⟨0, [], Nat.zero_le _, rfl, RowsAt.nil _ _, World.ownsRow_nil _ _ _ _, fun i h => absurd h (by simp), Below.refl _ _⟩
  case round =>
    obtain ⟨i, vs, hi, rfl, hsp⟩ := hrel
    have HSP := Lib.hid hsp
    clear hsp
    obtain ⟨wo, rfl⟩ : ∃ wo : World, wo = wr := ⟨_, rfl⟩
    by_cases hlt : i < R.length
    · obtain ⟨K, hK⟩ : ∃ K, sharpG (R.take i) = K := ⟨_, rfl⟩
      rw [hK] at HSP
      have hkl : K.length = i := by rw [← hK]; unfold sharpG; rw [List.length_map, List.length_take]; omega
      have HK := Lib.hid hK; have HKL := Lib.hid hkl; have HLT := Lib.hid hlt
      obtain ⟨s, hs⟩ : ∃ s, R[i]'hlt = s := ⟨_, rfl⟩
      have hsz := HS.out _ (List.getElem_mem hlt)
      rw [hs] at hsz
      have HSI := Lib.hid hs
      obtain ⟨b, off, rfl, e0⟩ := HA.out.cell i hlt
      rw [hs] at e0
      have HE := Lib.hid e0
      clear hK hs e0
      go_wp2_with fail
      go_loopw [5, 6] (fun u v6 wr => ∃ k : Nat, k ≤ s.size ∧ v6 = .int .i64 k ∧ SP w u3 vs K u ((sharpL s).take k) wr) (fun _ v6 _ => s.size - (intOf v6).toNat)
      case atStart => exact ⟨0, Nat.zero_le _, rfl, HSP.out⟩
      case round =>
        obtain ⟨k, hk, rfl, hsp⟩ := hrel
        have e1 := cell_later hsp.2.2.2 HE.out
        have HP := Lib.hid hsp
        have hkl2 : ((sharpL s).take k).length = k := by rw [List.length_take, sharpL_len]; omega
        obtain ⟨xs, hxs⟩ : ∃ xs, (sharpL s).take k = xs := ⟨_, rfl⟩
        rw [hxs] at HP hkl2
        have HX := Lib.hid hxs; have HXL := Lib.hid hkl2
        clear hsp hxs hkl2
        by_cases hkt : k < s.size
        · obtain ⟨i0, hi0, hz0, hz1, hz2⟩ := info_parts Tryz.infoStr
          obtain ⟨q, hq⟩ : ∃ q : ByteArray, s.extract k (k + 1) = q := ⟨_, rfl⟩
          have HQ := Lib.hid hq; have HKT := Lib.hid hkt
          have HOWN := Lib.hid (HP.out.2.1.alloc (.cells #[.string q] 9))
          clear hkt
          have hkt : (k : Int) < (s.size : Int) := by have := HKT.out; omega
          go_wp2_with (at_builtin; refine wpList_append_own_at _ rfl _ _ 29 rfl w.heap.size 9 i0 (.string ByteArray.empty) 1 16 Tryz.underlying29 hi0 hz0 hz1 hz2 rfl (by decide) _ _ _ rfl HOWN.out ⟨wr.heap.size, 0, none⟩ 1 1 [.string q] rfl rfl ?c1 ?c2 ?c3 ?c4 ?c5 ?_)
          case c1 => exact cell_one_new _ _ _
          case c2 => intro u hu; simp at hu; subst hu; rfl
          case c3 => have := HXL.out; unfold maxLen; omega
          case c4 => have := HXL.out; omega
          case c5 => have := HP.out.2.2.2.size; simp; omega
          · intro u' w4 hown' hgrow _ hloc
            have HPN := Lib.hid (HP.out.push (s := q) hown' hgrow (by rw [size_alloc1]; exact hloc))
            clear hown' hgrow hloc hi0 hz0 hz1 hz2
            go_wp2_with fail
            go_roundw
            case rel =>
              refine ⟨k + 1, HKT.out, by go_num, ?_⟩
              rw [sharpL_take HKT.out, HX.out, ← sharpL_get HKT.out, HQ.out]
              exact HPN.out
            case measure => have := HKT.out; simp [intOf]; omega
        · obtain rfl : k = s.size := by omega
          have HX2 := Lib.hid (show xs = sharpL s by rw [← HX.out]; exact List.take_of_length_le (by rw [sharpL_len]; exact Nat.le_refl _))
          obtain ⟨A5, c5, rfl, _, _⟩ := own_form HP.out.2.1
          obtain ⟨i0, hi0, hz0, hz1, hz2⟩ := info_parts Tryz.infoRow
          have HOWN := Lib.hid (HP.out.1.1.alloc (.cells #[.slice A5 xs.length c5] 29))
          obtain ⟨xl, hxl⟩ : ∃ xl, xs.length = xl := ⟨_, rfl⟩
          rw [hxl] at HOWN ⊢
          have HXLL := Lib.hid hxl
          clear hxl
          go_wp2_with (at_builtin; refine wpList_append_own_at _ rfl _ _ 31 rfl w.heap.size 29 i0 (.slice none 0 0) 1 24 Tryz.underlying31 hi0 hz0 hz1 hz2 rfl (by decide) _ _ _ rfl HOWN.out ⟨wr.heap.size, 0, none⟩ 1 1 [.slice A5 xl c5] rfl rfl ?c1 ?c2 ?c3 ?c4 ?c5 ?_)
          case c1 => exact cell_one_new _ _ _
          case c2 => intro u hu; simp at hu; subst hu; rfl
          case c3 => have := HKL.out; unfold maxLen; omega
          case c4 => have := HKL.out; omega
          case c5 => have := HP.out.2.2.2.size; simp; omega
          · intro v' w4 hown' hgrow _ _
            have HPC := Lib.hid (HP.out.close (by rw [HXLL.out, HKL.out]; exact hown') hgrow)
            clear hown' hgrow hi0 hz0 hz1 hz2
            go_wp2_with fail
            go_roundw
            case rel =>
              refine ⟨i + 1, vs ++ [.slice A5 xs.length c5], HLT.out, by go_num, ?_⟩
              rw [sharpG_take HLT.out, HK.out, HSI.out, ← HX2.out]
              exact HPC.out
            case measure => have := HLT.out; simp [intOf]; omega
    · obtain rfl : i = R.length := by omega
      have HSP2 := Lib.hid (show SP w u3 vs (sharpG R) (.slice none 0 0) [] wo by have h := HSP.out; rwa [List.take_length] at h)
      go_wp2_with fail
      go_ret
      exact ⟨_, vs, rfl, HSP2.out.1, HSP2.out.2.2.2⟩
end Go.Proofs.YtafbhadfeemppaaGreatDoor
