/- Chapter 11: the map of texts that Build makes, in whatever order. -/
import Derived.Test.YtelngghecmkipaaGreatDoorZonPut
import Derived.Test.YtelngghecmkipaaGreatDoorZonAsm
import Derived.Test.YtelngghecmkipaaGreatDoorRegInv
import Derived.Maps.Own
import Derived.Maps.RangeWalk
import Derived.Maps.StringElems
import Derived.Maps.Views
import Derived.Maps.OwnSet
namespace Go.Proofs.YtelngghecmkipaaGreatDoor
open Go.RowKit Go.Maps

/-- A region of a code. -/
noncomputable def findR (n : Nat) : Code → Option (Array Oper)
  | .region i ops _ => if i = n then some ops else none
  | .seq a b => (findR n a).orElse fun _ => findR n b
  | .cond _ a b => (findR n a).orElse fun _ => findR n b
  | .block _ c => findR n c
  | .loop c => findR n c
  | _ => none
noncomputable def opsMap : Array Oper := (findR 11 ((Tryz.f16.body).getD .skip)).getD #[]
theorem opsMap_size : opsMap.size = 34 := by kernel_rfl
theorem opsMap_back : ∀ (i : Nat) o, opsMap[i]? = some o → ∀ e ∈ o.after, e.on < i := by
  have h : (opsMap.toList.zipIdx.all fun p => p.1.after.all fun e => decide (e.on < p.2)) = true := by kernel_rfl
  intro i o ho e he
  have := List.all_eq_true.1 h (o, i) (by rw [List.mem_zipIdx_iff_getElem?]; simpa using ho)
  have := Array.all_eq_true_iff_forall_mem.1 this e he
  simpa using this
/-- What the map is made of. -/
structure MP where
  g : Nat
  z : Zn.Z
  nm : ByteArray
  d7 : ByteArray
  d10 : ByteArray
def mslot (i : Nat) : Nat := [0, 59, 60, 0, 61, 62, 0, 63, 0, 64, 65, 0, 66, 67, 0, 68, 69, 70, 0, 71, 72, 0, 73, 74, 0, 75, 76, 77, 0, 78, 79, 0, 0, 0].getD i 0
def misval (i : Nat) : Bool := [1, 2, 4, 5, 7, 9, 10, 12, 13, 15, 16, 17, 19, 20, 22, 23, 25, 26, 27, 29, 30].contains i
def mval (m : MP) (i : Nat) : Value := match i with
  | 1 => .pointer (some ⟨m.g, 1, none⟩)
  | 2 => .string m.z.kind
  | 4 => .pointer (some ⟨m.g, 2, none⟩)
  | 5 => .string m.z.state
  | 7 => .string m.nm
  | 9 => .pointer (some ⟨m.g, 6, none⟩)
  | 10 => .string m.z.nat
  | 12 => .pointer (some ⟨m.g, 7, none⟩)
  | 13 => .string m.z.birth
  | 15 => .pointer (some ⟨m.g, 7, none⟩)
  | 16 => .string m.z.birth
  | 17 => .string m.d7
  | 19 => .pointer (some ⟨m.g, 8, none⟩)
  | 20 => .string m.z.sex
  | 22 => .pointer (some ⟨m.g, 9, none⟩)
  | 23 => .string m.z.exp
  | 25 => .pointer (some ⟨m.g, 9, none⟩)
  | 26 => .string m.z.exp
  | 27 => .string m.d10
  | 29 => .pointer (some ⟨m.g, 11, none⟩)
  | 30 => .string m.z.sec
  | _ => undef
/-- The key that an operation inserts. -/
def mkey (i : Nat) : Option Int := match i with
  | 3 => some 0
  | 6 => some 1
  | 8 => some 2
  | 11 => some 5
  | 14 => some 6
  | 18 => some 7
  | 21 => some 8
  | 24 => some 9
  | 28 => some 10
  | 31 => some 13
  | _ => none
def mtxt (m : MP) (i : Nat) : ByteArray := match i with
  | 3 => m.z.kind
  | 6 => m.z.state
  | 8 => m.nm
  | 11 => m.z.nat
  | 14 => m.z.birth
  | 18 => m.d7
  | 21 => m.z.sex
  | 24 => m.z.exp
  | 28 => m.d10
  | 31 => m.z.sec
  | _ => ⟨#[]⟩
theorem mslot_inj (i j : Nat) (hi : misval i = true) (hj : misval j = true) (h : mslot i = mslot j) : i = j := by
  have hk : ([1, 2, 4, 5, 7, 9, 10, 12, 13, 15, 16, 17, 19, 20, 22, 23, 25, 26, 27, 29, 30].all fun i => [1, 2, 4, 5, 7, 9, 10, 12, 13, 15, 16, 17, 19, 20, 22, 23, 25, 26, 27, 29, 30].all fun j => decide (mslot i = mslot j → i = j)) = true := by kernel_rfl
  have h1 := List.all_eq_true.1 hk i (by simpa [misval] using hi)
  have h2 := List.all_eq_true.1 h1 j (by simpa [misval] using hj)
  exact (of_decide_eq_true h2) h
theorem mslot_in (i : Nat) (hi : misval i = true) : 58 < mslot i ∧ mslot i < 80 := by
  have hk : ([1, 2, 4, 5, 7, 9, 10, 12, 13, 15, 16, 17, 19, 20, 22, 23, 25, 26, 27, 29, 30].all fun i => decide (58 < mslot i ∧ mslot i < 80)) = true := by kernel_rfl
  exact of_decide_eq_true (List.all_eq_true.1 hk i (by simpa [misval] using hi))
abbrev opsK : List Nat := [3, 6, 8, 11, 14, 18, 21, 24, 28, 31]
/-- The state of the region: which operations are done. -/
structure MInv (m : MP) (a0 : Act) (w0 : World) (mb : Nat) (L : Nat → Bool) (a : Act) (w : World) : Prop where
  size : a.tmps.size = a0.tmps.size
  defs : a.defers = a0.defers
  same : ∀ j, j < 58 ∨ 81 < j → a.tmps[j]? = a0.tmps[j]?
  vals : ∀ i, misval i = true → L i = true → a.tmps[mslot i]? = some (mval m i)
  below : Below w0.heap.size w0 w
  at0 : L 0 = true → a.tmps[58]? = some (.map (some mb)) ∧ w0.heap.size ≤ mb
  at32 : L 32 = true → a.tmps[80]? = some (.map (some mb))
  map : L 0 = true → ∃ (D : DataW Unit) (n : Nat), w.ownsMap Tryz.prog 3 (plainElem Tryz.prog 9) mb n D ∧ n ≤ (opsK.filter L).length ∧
    (∀ k : Int, Maps.has D (.int .i64 k) = opsK.any fun i => L i && decide (mkey i = some k)) ∧ ∀ i k, mkey i = some k → L i = true → ∀ zd, D.atKey (.int .i64 k) zd = .lit (.string (mtxt m i).data.toList)
  none_ : L 0 = false → ∀ i ∈ opsK, L i = false
  d32 : L 32 = true → ∀ j, j < 32 → L j = true

theorem or_self {L : Nat → Bool} {i : Nat} (j : Nat) (h : (L j || j == i) = true) (hne : j ≠ i) : L j = true := by
  rcases Bool.or_eq_true_iff.1 h with h | h
  · exact h
  · exact absurd (by simpa using h) hne
/-- A quiet operation. -/
theorem MInv.val {m : MP} {a0 a : Act} {w0 w : World} {mb : Nat} {L : Nat → Bool} (h : MInv m a0 w0 mb L a w) (hs0 : 82 ≤ a0.tmps.size) (i : Nat) (hi : misval i = true) (w' : World) (hb : Below w.heap.size w w') (h0 : i ≠ 0) (h32 : i ≠ 32) (hk : i ∉ opsK) :
    MInv m a0 w0 mb (fun j => L j || j == i) (a.put (some (mslot i)) (mval m i)) w' := by
  have hin := mslot_in i hi
  have hput : ∀ j, (a.put (some (mslot i)) (mval m i)).tmps[j]? = if mslot i = j then some (mval m i) else a.tmps[j]? := fun j => by
    simp only [Act.put, Array.getElem?_setIfInBounds]
    split
    · rename_i e; subst e; rw [if_pos (by have := h.size; omega)]
    · rfl
  have e0 : ∀ n, n ≠ i → ((L n || n == i) = true) → L n = true := fun n hn hh => or_self n hh hn
  refine ⟨by simp only [Act.put, Array.size_setIfInBounds]; exact h.size, h.defs, fun j hj => ?_, fun j hj hL => ?_, h.below.trans (hb.mono h.below.size), fun hL => ?_, fun hL => ?_, fun hL => ?_, fun hL j hj => ?_, fun hL j hj => by rw [h.d32 (e0 32 (fun e => h32 e.symm) hL) j hj]; rfl⟩
  · rw [hput, if_neg (by omega)]; exact h.same j hj
  · rw [hput]
    split
    · rename_i e; rw [mslot_inj i j hi hj e]
    · rename_i e; exact h.vals j hj (e0 j (fun e' => e (by rw [e'])) hL)
  · rw [hput, if_neg (by omega)]; exact h.at0 (e0 0 (fun e => h0 e.symm) hL)
  · rw [hput, if_neg (by omega)]; exact h.at32 (e0 32 (fun e => h32 e.symm) hL)
  · obtain ⟨D, n, d1, d2, d3, d4⟩ := h.map (e0 0 (fun e => h0 e.symm) hL)
    have hf : ∀ j ∈ opsK, (L j || j == i) = L j := fun j hj => by
      have : (j == i) = false := by rw [beq_eq_false_iff_ne]; exact fun e => hk (e ▸ hj)
      rw [this, Bool.or_false]
    refine ⟨D, n, d1.kept (row := none) ⟨hb.os, hb.tape, hb.output, hb.size, fun k hk _ => hb.block k hk⟩ (by simp), ?_, fun k => ?_, fun j k hjk hL' => d4 j k hjk (e0 j (fun e => hk ?_) hL')⟩
    · rw [List.filter_congr hf]; exact d2
    · rw [d3 k]
      rw [Bool.eq_iff_iff, List.any_eq_true, List.any_eq_true]
      exact ⟨fun ⟨j, hj, hh⟩ => ⟨j, hj, by rw [hf j hj]; exact hh⟩, fun ⟨j, hj, hh⟩ => ⟨j, hj, by rw [hf j hj] at hh; exact hh⟩⟩
    · subst e
      unfold mkey at hjk
      split at hjk <;> first | (cases hjk; done) | decide
  · have hL' : L 0 = false := by
      have := Bool.or_eq_false_iff.1 hL; exact this.1
    have hn := h.none_ hL' j hj
    have : (j == i) = false := by rw [beq_eq_false_iff_ne]; exact fun e => hk (e ▸ hj)
    show (L j || j == i) = false
    rw [hn, this]; rfl
theorem mkey_mem (i : Nat) (k : Int) (h : mkey i = some k) : i ∈ opsK := by
  unfold mkey at h
  split at h <;> first | (cases h; done) | decide
theorem mkey_inj (i j : Nat) (k : Int) (hi : mkey i = some k) (hj : mkey j = some k) : i = j := by
  have hk : (opsK.all fun i => opsK.all fun j => decide (mkey i = mkey j → i = j)) = true := by kernel_rfl
  exact of_decide_eq_true (List.all_eq_true.1 (List.all_eq_true.1 hk i (mkey_mem i k hi)) j (mkey_mem j k hj)) (hi.trans hj.symm)
theorem filter_more (L : Nat → Bool) (i : Nat) (hL : L i = false) : ∀ l : List Nat, l.Nodup → i ∈ l → (l.filter fun j => L j || j == i).length = (l.filter L).length + 1
  | [], _, h => by simp at h
  | a :: r, hn, h => by
    rw [List.nodup_cons] at hn
    by_cases e : a = i
    · subst e
      have hf : ∀ j ∈ r, (L j || j == a) = L j := fun j hj => by
        have : (j == a) = false := by rw [beq_eq_false_iff_ne]; exact fun e => hn.1 (e ▸ hj)
        rw [this, Bool.or_false]
      rw [List.filter_cons, List.filter_cons, hL, List.filter_congr hf]
      simp
    · have hi : i ∈ r := by
        rcases List.mem_cons.1 h with h | h
        · exact absurd h.symm e
        · exact h
      have ih := filter_more L i hL r hn.2 hi
      have ha : (a == i) = false := by rw [beq_eq_false_iff_ne]; exact e
      rw [List.filter_cons, List.filter_cons, ha, Bool.or_false]
      split <;> simp [ih]
theorem sameT (a : Act) (v : Value) : (a.put none v).tmps = a.tmps := rfl

/-- The map is made. -/
theorem MInv.make {m : MP} {a0 a : Act} {w0 w : World} {mb : Nat} {L : Nat → Bool} (h : MInv m a0 w0 mb L a w) (hs0 : 82 ≤ a0.tmps.size) (hL0 : L 0 = false) :
    MInv m a0 w0 w.heap.size (fun j => L j || j == 0) (a.put (some 58) (.map (some w.heap.size))) (w.alloc (.map #[] 0)) := by
  have hput : ∀ j, (a.put (some 58) (.map (some w.heap.size))).tmps[j]? = if 58 = j then some (.map (some w.heap.size)) else a.tmps[j]? := fun j => by
    simp only [Act.put, Array.getElem?_setIfInBounds]
    split
    · rename_i e; subst e; rw [if_pos (by have := h.size; omega)]
    · rfl
  have h32 : L 32 = false := by
    cases hq : L 32
    · rfl
    · rw [h.d32 hq 0 (by omega)] at hL0; cases hL0
  have hn := h.none_ hL0
  have hk0 : ∀ i ∈ opsK, (L i || i == 0) = false := fun i hi => by
    rw [hn i hi, Bool.false_or, beq_eq_false_iff_ne]
    intro e; subst e; revert hi; decide
  refine ⟨by simp only [Act.put, Array.size_setIfInBounds]; exact h.size, h.defs, fun j hj => ?_, fun j hj hL => ?_, h.below.alloc h.below.size _, fun _ => ⟨by rw [hput, if_pos rfl], h.below.size⟩, fun hL => ?_, fun _ => ?_, fun hL => ?_, fun hL => ?_⟩
  · rw [hput, if_neg (by omega)]; exact h.same j hj
  · rw [hput, if_neg (by have := mslot_in j hj; omega)]
    exact h.vals j hj (or_self j hL (by intro e; subst e; revert hj; decide))
  · have hL : (L 32 || 32 == 0) = true := hL
    rw [h32] at hL; cases hL
  · refine ⟨.map [], 0, World.ownsMap_made _ _ _ _, Nat.zero_le _, fun k => ?_, fun i k hik hL => ?_⟩
    · have : (opsK.any fun i => (L i || i == 0) && decide (mkey i = some k)) = false := by
        rw [List.any_eq_false]
        intro i hi
        rw [hk0 i hi]; simp
      rw [this]; rfl
    · rw [hk0 i (mkey_mem i k hik)] at hL; cases hL
  · have hL : (L 0 || 0 == 0) = false := hL
    rw [hL0] at hL; cases hL
  · have hL : (L 32 || 32 == 0) = true := hL
    rw [h32] at hL; cases hL
/-- A text goes into the map. -/
theorem MInv.ins {m : MP} {a0 a : Act} {w0 w : World} {mb : Nat} {L : Nat → Bool} (h : MInv m a0 w0 mb L a w) (i : Nat) (k : Int) (hik : mkey i = some k) (hk : 0 ≤ k ∧ k ≤ 100) (hL0 : L 0 = true) (hLi : L i = false) (hsz : (mtxt m i).size ≤ maxLen) :
    ∃ w', (Instr.mapUpdate 77 (.map (some mb)) (.int .i64 k) (.string (mtxt m i))).run Tryz.prog w = .ok () w' ∧ MInv m a0 w0 mb (fun j => L j || j == i) a w' := by
  obtain ⟨D, n, d1, d2, d3, d4⟩ := h.map hL0
  have hwf : (Lit.int .i64 k).wf = true := WalkArith.wf_i64 (by omega)
  have hkl : WideAt.IsKeyLit (.int .i64 k) := trivial
  have hfl : (opsK.filter L).length ≤ 10 := Nat.le_trans (List.length_filter_le _ _) (by decide)
  have hmem := mkey_mem i k hik
  have hne0 : i ≠ 0 := by intro e; subst e; revert hmem; decide
  have hne32 : i ≠ 32 := by intro e; subst e; revert hmem; decide
  obtain ⟨w', hrun, hown, hgr⟩ := d1.update (int_keyed Tryz.underlying3) Tryz.underlying77 (by unfold maxLen; omega) (keyOf_int_mk Tryz.underlying3 hwf) (plainElem_string (H := Unit) Tryz.underlying9 hsz)
  have e0 : ∀ n, n ≠ i → ((L n || n == i) = true) → L n = true := fun n hn hh => or_self n hh hn
  refine ⟨w', hrun, h.size, h.defs, h.same, fun j hj hL => h.vals j hj (e0 j (fun e => ?_) hL), h.below.grown hgr h.below.size (fun j hj => by injection hj with hj; rw [← hj]; exact (h.at0 hL0).2), fun _ => h.at0 hL0, fun hL => h.at32 (e0 32 (fun e => hne32 e.symm) hL), fun _ => ?_, fun hL => ?_, fun hL j hj => by rw [h.d32 (e0 32 (fun e => hne32 e.symm) hL) j hj]; rfl⟩
  · subst e
    have hd : (opsK.all fun j => !misval j) = true := by kernel_rfl
    have := List.all_eq_true.1 hd j hmem
    rw [hj] at this; cases this
  · refine ⟨_, n + 1, hown, ?_, fun q => ?_, fun j q hjq hL zd => ?_⟩
    · rw [filter_more L i hLi opsK (by decide) hmem]; omega
    · by_cases e : q = k
      · subst e
        rw [has_put_same d1.isMap hkl]
        symm
        rw [List.any_eq_true]
        exact ⟨i, hmem, by simp [hik]⟩
      · rw [has_put_other (by intro hh; injection hh with _ hh; exact e hh), d3 q]
        rw [Bool.eq_iff_iff, List.any_eq_true, List.any_eq_true]
        constructor
        · rintro ⟨j, hj, hh⟩
          rw [Bool.and_eq_true] at hh
          exact ⟨j, hj, by rw [hh.1]; simpa using of_decide_eq_true hh.2⟩
        · rintro ⟨j, hj, hh⟩
          rw [Bool.and_eq_true] at hh
          have hne : j ≠ i := by
            intro e2; subst e2
            have := of_decide_eq_true hh.2
            rw [hik] at this; injection this with this; exact e this.symm
          exact ⟨j, hj, by rw [e0 j hne hh.1]; simpa using of_decide_eq_true hh.2⟩
    · by_cases e : j = i
      · have hjq' : k = q := Option.some.inj (hik.symm.trans (by rw [← e]; exact hjq))
        rw [← hjq', e]
        exact atKey_put_same d1.isMap hkl _ _
      · have hqk : (Lit.int .i64 q) ≠ .int .i64 k := by
          intro hh; injection hh with _ hh
          exact e (mkey_inj j i k (by rw [hjq, hh]) hik)
        exact (atKey_put_other hqk _ zd).trans (d4 j q hjq (e0 j e hL) zd)
  · have hL : (L 0 || 0 == i) = false := hL
    rw [hL0] at hL; cases hL
/-- The map's name is taken. -/
theorem MInv.m32 {m : MP} {a0 a : Act} {w0 w : World} {mb : Nat} {L : Nat → Bool} (h : MInv m a0 w0 mb L a w) (hs0 : 82 ≤ a0.tmps.size) (hall : ∀ j, j < 32 → L j = true) :
    MInv m a0 w0 mb (fun j => L j || j == 32) (a.put (some 80) (.map (some mb))) w := by
  have hput : ∀ j, (a.put (some 80) (.map (some mb))).tmps[j]? = if 80 = j then some (.map (some mb)) else a.tmps[j]? := fun j => by
    simp only [Act.put, Array.getElem?_setIfInBounds]
    split
    · rename_i e; subst e; rw [if_pos (by have := h.size; omega)]
    · rfl
  have hf : ∀ j ∈ opsK, (L j || j == 32) = L j := fun j hj => by
    have : (j == 32) = false := by rw [beq_eq_false_iff_ne]; intro e; subst e; revert hj; decide
    rw [this, Bool.or_false]
  have h0 := hall 0 (by omega)
  refine ⟨by simp only [Act.put, Array.size_setIfInBounds]; exact h.size, h.defs, fun j hj => ?_, fun j hj hL => ?_, h.below, fun _ => ⟨by rw [hput, if_neg (by omega)]; exact (h.at0 h0).1, (h.at0 h0).2⟩, fun _ => by rw [hput, if_pos rfl], fun _ => ?_, fun hL => ?_, fun _ j hj => by rw [hall j hj]; rfl⟩
  · rw [hput, if_neg (by omega)]; exact h.same j hj
  · rw [hput, if_neg (by have := mslot_in j hj; omega)]
    exact h.vals j hj (or_self j hL (by intro e; subst e; revert hj; decide))
  · obtain ⟨D, n, d1, d2, d3, d4⟩ := h.map h0
    refine ⟨D, n, d1, by rw [List.filter_congr hf]; exact d2, fun k => ?_, fun j k hjk hL => d4 j k hjk (or_self j hL (fun e => ?_))⟩
    · rw [d3 k, Bool.eq_iff_iff, List.any_eq_true, List.any_eq_true]
      exact ⟨fun ⟨j, hj, hh⟩ => ⟨j, hj, by rw [hf j hj]; exact hh⟩, fun ⟨j, hj, hh⟩ => ⟨j, hj, by rw [hf j hj] at hh; exact hh⟩⟩
    · subst e; cases hjk
  · have hL : (L 0 || 0 == 32) = false := hL
    rw [h0] at hL; cases hL
theorem MInv.start (m : MP) (a0 : Act) (w0 : World) : MInv m a0 w0 0 (fun _ => false) a0 w0.drew :=
  ⟨rfl, rfl, fun _ _ => rfl, (fun _ _ h => absurd h (by simp)), (Below.refl _ _).drew, (fun h => absurd h (by simp)), (fun h => absurd h (by simp)), (fun h => absurd h (by simp)), fun _ _ _ => rfl, (fun h => absurd h (by simp))⟩
/-- What the region leaves. -/
def MDone (m : MP) (a0 : Act) (w0 : World) (a : Act) (w : World) : Prop :=
  ∃ (mb r n cnt : Nat) (D : DataW Unit), a.tmps.size = a0.tmps.size ∧ a.defers = a0.defers ∧ (∀ j, j < 58 ∨ 81 < j → a.tmps[j]? = a0.tmps[j]?) ∧ a.tmps[81]? = some (.pointer (some ⟨r, 0, none⟩)) ∧
    w.ranges Tryz.prog 3 (plainElem Tryz.prog 9) mb r n D (Maps.has D) cnt ∧ Below w0.heap.size w0 w ∧ w0.heap.size ≤ mb ∧ w0.heap.size ≤ r ∧
    (∀ k : Int, Maps.has D (.int .i64 k) = opsK.any fun i => decide (mkey i = some k)) ∧ ∀ i k, mkey i = some k → ∀ zd, D.atKey (.int .i64 k) zd = .lit (.string (mtxt m i).data.toList)
def MI (m : MP) (a0 : Act) (w0 : World) (L : Nat → Bool) (a : Act) (w : World) : Prop :=
  (L 33 = false ∧ ∃ mb, MInv m a0 w0 mb L a w) ∨ ((∀ i, i < 34 → L i = true) ∧ MDone m a0 w0 a w)
theorem eval_tmp {a : Act} {t : Nat} {v : Value} (h : a.tmps[t]? = some v) : a.eval (.tmp t) = v := by
  simp [Act.eval, h]

set_option maxRecDepth 100000 in
set_option maxHeartbeats 8000000 in
theorem build_map {Q : Exit → Act → World → Prop} (m : MP) (a0 : Act) (w0 : World) (hs0 : 82 ≤ a0.tmps.size) (h1 : a0.tmps[1]? = some (.pointer (some ⟨m.g, 0, none⟩))) (h9 : a0.tmps[9]? = some (.string m.nm)) (hz : ZBox w0 m.g m.z)
    (hd7 : ∀ W, Calls Tryz.prog 48 #[.string m.z.birth] W fun e w' => e = .returned (.string m.d7) ∧ Below W.heap.size W w') (hd10 : ∀ W, Calls Tryz.prog 48 #[.string m.z.exp] W fun e w' => e = .returned (.string m.d10) ∧ Below W.heap.size W w')
    (hfit : ∀ i, (mtxt m i).size ≤ maxLen) (hQ : ∀ a w, MDone m a0 w0 a w → Q .normal a w) : (Code.region 11 opsMap true).wp Tryz.prog Q a0 w0 := by
  refine wp_region_inv (by kernel_rfl) (MI m a0 w0) opsMap_back (.inl ⟨rfl, 0, MInv.start m a0 w0⟩) ?_ ?_
  · intro L a w i o hI ho hLi hdep K hK
    have hi : i < 34 := by have := (Array.getElem?_eq_some_iff.1 ho).1; rw [opsMap_size] at this; exact this
    rcases hI.symm with ⟨hall, _⟩ | ⟨h33, mb, hM⟩
    · rw [hall i hi] at hLi; cases hLi
    have hcase : i = 0 ∨ i = 1 ∨ i = 2 ∨ i = 3 ∨ i = 4 ∨ i = 5 ∨ i = 6 ∨ i = 7 ∨ i = 8 ∨ i = 9 ∨ i = 10 ∨ i = 11 ∨ i = 12 ∨ i = 13 ∨ i = 14 ∨ i = 15 ∨ i = 16 ∨ i = 17 ∨ i = 18 ∨ i = 19 ∨ i = 20 ∨ i = 21 ∨ i = 22 ∨ i = 23 ∨ i = 24 ∨ i = 25 ∨ i = 26 ∨ i = 27 ∨ i = 28 ∨ i = 29 ∨ i = 30 ∨ i = 31 ∨ i = 32 ∨ i = 33 := by omega
    rcases hcase with rfl | rfl | rfl | rfl | rfl | rfl | rfl | rfl | rfl | rfl | rfl | rfl | rfl | rfl | rfl | rfl | rfl | rfl | rfl | rfl | rfl | rfl | rfl | rfl | rfl | rfl | rfl | rfl | rfl | rfl | rfl | rfl | rfl | rfl
    · have he := Option.some.inj (ho.symm.trans (show opsMap[0]? = some ⟨_, _, _, _, _, _⟩ from rfl))
      subst he
      go_simp
      exact hK _ _ (.inl ⟨by show (L 33 || 33 == 0) = false; rw [h33]; rfl, _, hM.make hs0 hLi⟩)
    · have he := Option.some.inj (ho.symm.trans (show opsMap[1]? = some ⟨_, _, _, _, _, _⟩ from rfl))
      subst he
      have t1 := (hM.same 1 (by omega)).trans h1
      go_simp
      exact hK _ _ (.inl ⟨by show (L 33 || 33 == 1) = false; rw [h33]; rfl, mb, hM.val hs0 1 rfl _ (Below.refl _ _) (by omega) (by omega) (by decide)⟩)
    · have he := Option.some.inj (ho.symm.trans (show opsMap[2]? = some ⟨_, _, _, _, _, _⟩ from rfl))
      subst he
      have d1 : L 1 = true := hdep { on := 1, ground := .data } (by simp) rfl
      have t1 : a.tmps[59]? = some (.pointer (some ⟨m.g, 1, none⟩)) := hM.vals 1 rfl d1
      have hc := (hz.later hM.below).cells
      obtain ⟨x0, x1, x2, x3, x4, x5, x6, x7, x8, x9, x10, x11⟩ := hc
      go_simp
      exact hK _ _ (.inl ⟨by show (L 33 || 33 == 2) = false; rw [h33]; rfl, mb, hM.val hs0 2 rfl _ (Below.refl _ _) (by omega) (by omega) (by decide)⟩)
    · have he := Option.some.inj (ho.symm.trans (show opsMap[3]? = some ⟨_, _, _, _, _, _⟩ from rfl))
      subst he
      have d0 : L 0 = true := hdep { on := 0, ground := .data } (by simp) rfl
      have d2 : L 2 = true := hdep { on := 2, ground := .data } (by simp) rfl
      have t0 := (hM.at0 d0).1
      have t1 : a.tmps[60]? = some (.string m.z.kind) := hM.vals 2 rfl d2
      obtain ⟨w', hrun, hM'⟩ := hM.ins 3 0 rfl (by omega) d0 hLi (hfit _)
      have hrun' : (Instr.mapUpdate 77 (.map (some mb)) (.int .i64 0) (.string m.z.kind)).run Tryz.prog w = .ok () w' := hrun
      clear hrun
      go_simp
      exact hK _ _ (.inl ⟨by show (L 33 || 33 == 3) = false; rw [h33]; rfl, mb, hM'⟩)
    · have he := Option.some.inj (ho.symm.trans (show opsMap[4]? = some ⟨_, _, _, _, _, _⟩ from rfl))
      subst he
      have t1 := (hM.same 1 (by omega)).trans h1
      go_simp
      exact hK _ _ (.inl ⟨by show (L 33 || 33 == 4) = false; rw [h33]; rfl, mb, hM.val hs0 4 rfl _ (Below.refl _ _) (by omega) (by omega) (by decide)⟩)
    · have he := Option.some.inj (ho.symm.trans (show opsMap[5]? = some ⟨_, _, _, _, _, _⟩ from rfl))
      subst he
      have d4 : L 4 = true := hdep { on := 4, ground := .data } (by simp) rfl
      have t1 : a.tmps[61]? = some (.pointer (some ⟨m.g, 2, none⟩)) := hM.vals 4 rfl d4
      have hc := (hz.later hM.below).cells
      obtain ⟨x0, x1, x2, x3, x4, x5, x6, x7, x8, x9, x10, x11⟩ := hc
      go_simp
      exact hK _ _ (.inl ⟨by show (L 33 || 33 == 5) = false; rw [h33]; rfl, mb, hM.val hs0 5 rfl _ (Below.refl _ _) (by omega) (by omega) (by decide)⟩)
    · have he := Option.some.inj (ho.symm.trans (show opsMap[6]? = some ⟨_, _, _, _, _, _⟩ from rfl))
      subst he
      have d0 : L 0 = true := hdep { on := 0, ground := .data } (by simp) rfl
      have d5 : L 5 = true := hdep { on := 5, ground := .data } (by simp) rfl
      have t0 := (hM.at0 d0).1
      have t1 : a.tmps[62]? = some (.string m.z.state) := hM.vals 5 rfl d5
      obtain ⟨w', hrun, hM'⟩ := hM.ins 6 1 rfl (by omega) d0 hLi (hfit _)
      have hrun' : (Instr.mapUpdate 77 (.map (some mb)) (.int .i64 1) (.string m.z.state)).run Tryz.prog w = .ok () w' := hrun
      clear hrun
      go_simp
      exact hK _ _ (.inl ⟨by show (L 33 || 33 == 6) = false; rw [h33]; rfl, mb, hM'⟩)
    · have he := Option.some.inj (ho.symm.trans (show opsMap[7]? = some ⟨_, _, _, _, _, _⟩ from rfl))
      subst he
      have t1 := (hM.same 9 (by omega)).trans h9
      go_simp
      exact hK _ _ (.inl ⟨by show (L 33 || 33 == 7) = false; rw [h33]; rfl, mb, hM.val hs0 7 rfl _ (Below.refl _ _) (by omega) (by omega) (by decide)⟩)
    · have he := Option.some.inj (ho.symm.trans (show opsMap[8]? = some ⟨_, _, _, _, _, _⟩ from rfl))
      subst he
      have d0 : L 0 = true := hdep { on := 0, ground := .data } (by simp) rfl
      have d7 : L 7 = true := hdep { on := 7, ground := .data } (by simp) rfl
      have t0 := (hM.at0 d0).1
      have t1 : a.tmps[63]? = some (.string m.nm) := hM.vals 7 rfl d7
      obtain ⟨w', hrun, hM'⟩ := hM.ins 8 2 rfl (by omega) d0 hLi (hfit _)
      have hrun' : (Instr.mapUpdate 77 (.map (some mb)) (.int .i64 2) (.string m.nm)).run Tryz.prog w = .ok () w' := hrun
      clear hrun
      go_simp
      exact hK _ _ (.inl ⟨by show (L 33 || 33 == 8) = false; rw [h33]; rfl, mb, hM'⟩)
    · have he := Option.some.inj (ho.symm.trans (show opsMap[9]? = some ⟨_, _, _, _, _, _⟩ from rfl))
      subst he
      have t1 := (hM.same 1 (by omega)).trans h1
      go_simp
      exact hK _ _ (.inl ⟨by show (L 33 || 33 == 9) = false; rw [h33]; rfl, mb, hM.val hs0 9 rfl _ (Below.refl _ _) (by omega) (by omega) (by decide)⟩)
    · have he := Option.some.inj (ho.symm.trans (show opsMap[10]? = some ⟨_, _, _, _, _, _⟩ from rfl))
      subst he
      have d9 : L 9 = true := hdep { on := 9, ground := .data } (by simp) rfl
      have t1 : a.tmps[64]? = some (.pointer (some ⟨m.g, 6, none⟩)) := hM.vals 9 rfl d9
      have hc := (hz.later hM.below).cells
      obtain ⟨x0, x1, x2, x3, x4, x5, x6, x7, x8, x9, x10, x11⟩ := hc
      go_simp
      exact hK _ _ (.inl ⟨by show (L 33 || 33 == 10) = false; rw [h33]; rfl, mb, hM.val hs0 10 rfl _ (Below.refl _ _) (by omega) (by omega) (by decide)⟩)
    · have he := Option.some.inj (ho.symm.trans (show opsMap[11]? = some ⟨_, _, _, _, _, _⟩ from rfl))
      subst he
      have d0 : L 0 = true := hdep { on := 0, ground := .data } (by simp) rfl
      have d10 : L 10 = true := hdep { on := 10, ground := .data } (by simp) rfl
      have t0 := (hM.at0 d0).1
      have t1 : a.tmps[65]? = some (.string m.z.nat) := hM.vals 10 rfl d10
      obtain ⟨w', hrun, hM'⟩ := hM.ins 11 5 rfl (by omega) d0 hLi (hfit _)
      have hrun' : (Instr.mapUpdate 77 (.map (some mb)) (.int .i64 5) (.string m.z.nat)).run Tryz.prog w = .ok () w' := hrun
      clear hrun
      go_simp
      exact hK _ _ (.inl ⟨by show (L 33 || 33 == 11) = false; rw [h33]; rfl, mb, hM'⟩)
    · have he := Option.some.inj (ho.symm.trans (show opsMap[12]? = some ⟨_, _, _, _, _, _⟩ from rfl))
      subst he
      have t1 := (hM.same 1 (by omega)).trans h1
      go_simp
      exact hK _ _ (.inl ⟨by show (L 33 || 33 == 12) = false; rw [h33]; rfl, mb, hM.val hs0 12 rfl _ (Below.refl _ _) (by omega) (by omega) (by decide)⟩)
    · have he := Option.some.inj (ho.symm.trans (show opsMap[13]? = some ⟨_, _, _, _, _, _⟩ from rfl))
      subst he
      have d12 : L 12 = true := hdep { on := 12, ground := .data } (by simp) rfl
      have t1 : a.tmps[66]? = some (.pointer (some ⟨m.g, 7, none⟩)) := hM.vals 12 rfl d12
      have hc := (hz.later hM.below).cells
      obtain ⟨x0, x1, x2, x3, x4, x5, x6, x7, x8, x9, x10, x11⟩ := hc
      go_simp
      exact hK _ _ (.inl ⟨by show (L 33 || 33 == 13) = false; rw [h33]; rfl, mb, hM.val hs0 13 rfl _ (Below.refl _ _) (by omega) (by omega) (by decide)⟩)
    · have he := Option.some.inj (ho.symm.trans (show opsMap[14]? = some ⟨_, _, _, _, _, _⟩ from rfl))
      subst he
      have d0 : L 0 = true := hdep { on := 0, ground := .data } (by simp) rfl
      have d13 : L 13 = true := hdep { on := 13, ground := .data } (by simp) rfl
      have t0 := (hM.at0 d0).1
      have t1 : a.tmps[67]? = some (.string m.z.birth) := hM.vals 13 rfl d13
      obtain ⟨w', hrun, hM'⟩ := hM.ins 14 6 rfl (by omega) d0 hLi (hfit _)
      have hrun' : (Instr.mapUpdate 77 (.map (some mb)) (.int .i64 6) (.string m.z.birth)).run Tryz.prog w = .ok () w' := hrun
      clear hrun
      go_simp
      exact hK _ _ (.inl ⟨by show (L 33 || 33 == 14) = false; rw [h33]; rfl, mb, hM'⟩)
    · have he := Option.some.inj (ho.symm.trans (show opsMap[15]? = some ⟨_, _, _, _, _, _⟩ from rfl))
      subst he
      have t1 := (hM.same 1 (by omega)).trans h1
      go_simp
      exact hK _ _ (.inl ⟨by show (L 33 || 33 == 15) = false; rw [h33]; rfl, mb, hM.val hs0 15 rfl _ (Below.refl _ _) (by omega) (by omega) (by decide)⟩)
    · have he := Option.some.inj (ho.symm.trans (show opsMap[16]? = some ⟨_, _, _, _, _, _⟩ from rfl))
      subst he
      have d15 : L 15 = true := hdep { on := 15, ground := .data } (by simp) rfl
      have t1 : a.tmps[68]? = some (.pointer (some ⟨m.g, 7, none⟩)) := hM.vals 15 rfl d15
      have hc := (hz.later hM.below).cells
      obtain ⟨x0, x1, x2, x3, x4, x5, x6, x7, x8, x9, x10, x11⟩ := hc
      go_simp
      exact hK _ _ (.inl ⟨by show (L 33 || 33 == 16) = false; rw [h33]; rfl, mb, hM.val hs0 16 rfl _ (Below.refl _ _) (by omega) (by omega) (by decide)⟩)
    · have he := Option.some.inj (ho.symm.trans (show opsMap[17]? = some ⟨_, _, _, _, _, _⟩ from rfl))
      subst he
      have d16 : L 16 = true := hdep { on := 16, ground := .data } (by simp) rfl
      have t1 : a.tmps[69]? = some (.string m.z.birth) := hM.vals 16 rfl d16
      go_simp
      go_at_call 48
      refine (hd7 _).mono ?_; rintro e w' ⟨rfl, hb⟩
      exact hK _ _ (.inl ⟨by show (L 33 || 33 == 17) = false; rw [h33]; rfl, mb, hM.val hs0 17 rfl _ hb (by omega) (by omega) (by decide)⟩)
    · have he := Option.some.inj (ho.symm.trans (show opsMap[18]? = some ⟨_, _, _, _, _, _⟩ from rfl))
      subst he
      have d0 : L 0 = true := hdep { on := 0, ground := .data } (by simp) rfl
      have d17 : L 17 = true := hdep { on := 17, ground := .data } (by simp) rfl
      have t0 := (hM.at0 d0).1
      have t1 : a.tmps[70]? = some (.string m.d7) := hM.vals 17 rfl d17
      obtain ⟨w', hrun, hM'⟩ := hM.ins 18 7 rfl (by omega) d0 hLi (hfit _)
      have hrun' : (Instr.mapUpdate 77 (.map (some mb)) (.int .i64 7) (.string m.d7)).run Tryz.prog w = .ok () w' := hrun
      clear hrun
      go_simp
      exact hK _ _ (.inl ⟨by show (L 33 || 33 == 18) = false; rw [h33]; rfl, mb, hM'⟩)
    · have he := Option.some.inj (ho.symm.trans (show opsMap[19]? = some ⟨_, _, _, _, _, _⟩ from rfl))
      subst he
      have t1 := (hM.same 1 (by omega)).trans h1
      go_simp
      exact hK _ _ (.inl ⟨by show (L 33 || 33 == 19) = false; rw [h33]; rfl, mb, hM.val hs0 19 rfl _ (Below.refl _ _) (by omega) (by omega) (by decide)⟩)
    · have he := Option.some.inj (ho.symm.trans (show opsMap[20]? = some ⟨_, _, _, _, _, _⟩ from rfl))
      subst he
      have d19 : L 19 = true := hdep { on := 19, ground := .data } (by simp) rfl
      have t1 : a.tmps[71]? = some (.pointer (some ⟨m.g, 8, none⟩)) := hM.vals 19 rfl d19
      have hc := (hz.later hM.below).cells
      obtain ⟨x0, x1, x2, x3, x4, x5, x6, x7, x8, x9, x10, x11⟩ := hc
      go_simp
      exact hK _ _ (.inl ⟨by show (L 33 || 33 == 20) = false; rw [h33]; rfl, mb, hM.val hs0 20 rfl _ (Below.refl _ _) (by omega) (by omega) (by decide)⟩)
    · have he := Option.some.inj (ho.symm.trans (show opsMap[21]? = some ⟨_, _, _, _, _, _⟩ from rfl))
      subst he
      have d0 : L 0 = true := hdep { on := 0, ground := .data } (by simp) rfl
      have d20 : L 20 = true := hdep { on := 20, ground := .data } (by simp) rfl
      have t0 := (hM.at0 d0).1
      have t1 : a.tmps[72]? = some (.string m.z.sex) := hM.vals 20 rfl d20
      obtain ⟨w', hrun, hM'⟩ := hM.ins 21 8 rfl (by omega) d0 hLi (hfit _)
      have hrun' : (Instr.mapUpdate 77 (.map (some mb)) (.int .i64 8) (.string m.z.sex)).run Tryz.prog w = .ok () w' := hrun
      clear hrun
      go_simp
      exact hK _ _ (.inl ⟨by show (L 33 || 33 == 21) = false; rw [h33]; rfl, mb, hM'⟩)
    · have he := Option.some.inj (ho.symm.trans (show opsMap[22]? = some ⟨_, _, _, _, _, _⟩ from rfl))
      subst he
      have t1 := (hM.same 1 (by omega)).trans h1
      go_simp
      exact hK _ _ (.inl ⟨by show (L 33 || 33 == 22) = false; rw [h33]; rfl, mb, hM.val hs0 22 rfl _ (Below.refl _ _) (by omega) (by omega) (by decide)⟩)
    · have he := Option.some.inj (ho.symm.trans (show opsMap[23]? = some ⟨_, _, _, _, _, _⟩ from rfl))
      subst he
      have d22 : L 22 = true := hdep { on := 22, ground := .data } (by simp) rfl
      have t1 : a.tmps[73]? = some (.pointer (some ⟨m.g, 9, none⟩)) := hM.vals 22 rfl d22
      have hc := (hz.later hM.below).cells
      obtain ⟨x0, x1, x2, x3, x4, x5, x6, x7, x8, x9, x10, x11⟩ := hc
      go_simp
      exact hK _ _ (.inl ⟨by show (L 33 || 33 == 23) = false; rw [h33]; rfl, mb, hM.val hs0 23 rfl _ (Below.refl _ _) (by omega) (by omega) (by decide)⟩)
    · have he := Option.some.inj (ho.symm.trans (show opsMap[24]? = some ⟨_, _, _, _, _, _⟩ from rfl))
      subst he
      have d0 : L 0 = true := hdep { on := 0, ground := .data } (by simp) rfl
      have d23 : L 23 = true := hdep { on := 23, ground := .data } (by simp) rfl
      have t0 := (hM.at0 d0).1
      have t1 : a.tmps[74]? = some (.string m.z.exp) := hM.vals 23 rfl d23
      obtain ⟨w', hrun, hM'⟩ := hM.ins 24 9 rfl (by omega) d0 hLi (hfit _)
      have hrun' : (Instr.mapUpdate 77 (.map (some mb)) (.int .i64 9) (.string m.z.exp)).run Tryz.prog w = .ok () w' := hrun
      clear hrun
      go_simp
      exact hK _ _ (.inl ⟨by show (L 33 || 33 == 24) = false; rw [h33]; rfl, mb, hM'⟩)
    · have he := Option.some.inj (ho.symm.trans (show opsMap[25]? = some ⟨_, _, _, _, _, _⟩ from rfl))
      subst he
      have t1 := (hM.same 1 (by omega)).trans h1
      go_simp
      exact hK _ _ (.inl ⟨by show (L 33 || 33 == 25) = false; rw [h33]; rfl, mb, hM.val hs0 25 rfl _ (Below.refl _ _) (by omega) (by omega) (by decide)⟩)
    · have he := Option.some.inj (ho.symm.trans (show opsMap[26]? = some ⟨_, _, _, _, _, _⟩ from rfl))
      subst he
      have d25 : L 25 = true := hdep { on := 25, ground := .data } (by simp) rfl
      have t1 : a.tmps[75]? = some (.pointer (some ⟨m.g, 9, none⟩)) := hM.vals 25 rfl d25
      have hc := (hz.later hM.below).cells
      obtain ⟨x0, x1, x2, x3, x4, x5, x6, x7, x8, x9, x10, x11⟩ := hc
      go_simp
      exact hK _ _ (.inl ⟨by show (L 33 || 33 == 26) = false; rw [h33]; rfl, mb, hM.val hs0 26 rfl _ (Below.refl _ _) (by omega) (by omega) (by decide)⟩)
    · have he := Option.some.inj (ho.symm.trans (show opsMap[27]? = some ⟨_, _, _, _, _, _⟩ from rfl))
      subst he
      have d26 : L 26 = true := hdep { on := 26, ground := .data } (by simp) rfl
      have d17 : L 17 = true := hdep { on := 17, ground := .chain } (by simp) rfl
      have t1 : a.tmps[76]? = some (.string m.z.exp) := hM.vals 26 rfl d26
      go_simp
      go_at_call 48
      refine (hd10 _).mono ?_; rintro e w' ⟨rfl, hb⟩
      exact hK _ _ (.inl ⟨by show (L 33 || 33 == 27) = false; rw [h33]; rfl, mb, hM.val hs0 27 rfl _ hb (by omega) (by omega) (by decide)⟩)
    · have he := Option.some.inj (ho.symm.trans (show opsMap[28]? = some ⟨_, _, _, _, _, _⟩ from rfl))
      subst he
      have d0 : L 0 = true := hdep { on := 0, ground := .data } (by simp) rfl
      have d27 : L 27 = true := hdep { on := 27, ground := .data } (by simp) rfl
      have t0 := (hM.at0 d0).1
      have t1 : a.tmps[77]? = some (.string m.d10) := hM.vals 27 rfl d27
      obtain ⟨w', hrun, hM'⟩ := hM.ins 28 10 rfl (by omega) d0 hLi (hfit _)
      have hrun' : (Instr.mapUpdate 77 (.map (some mb)) (.int .i64 10) (.string m.d10)).run Tryz.prog w = .ok () w' := hrun
      clear hrun
      go_simp
      exact hK _ _ (.inl ⟨by show (L 33 || 33 == 28) = false; rw [h33]; rfl, mb, hM'⟩)
    · have he := Option.some.inj (ho.symm.trans (show opsMap[29]? = some ⟨_, _, _, _, _, _⟩ from rfl))
      subst he
      have t1 := (hM.same 1 (by omega)).trans h1
      go_simp
      exact hK _ _ (.inl ⟨by show (L 33 || 33 == 29) = false; rw [h33]; rfl, mb, hM.val hs0 29 rfl _ (Below.refl _ _) (by omega) (by omega) (by decide)⟩)
    · have he := Option.some.inj (ho.symm.trans (show opsMap[30]? = some ⟨_, _, _, _, _, _⟩ from rfl))
      subst he
      have d29 : L 29 = true := hdep { on := 29, ground := .data } (by simp) rfl
      have t1 : a.tmps[78]? = some (.pointer (some ⟨m.g, 11, none⟩)) := hM.vals 29 rfl d29
      have hc := (hz.later hM.below).cells
      obtain ⟨x0, x1, x2, x3, x4, x5, x6, x7, x8, x9, x10, x11⟩ := hc
      go_simp
      exact hK _ _ (.inl ⟨by show (L 33 || 33 == 30) = false; rw [h33]; rfl, mb, hM.val hs0 30 rfl _ (Below.refl _ _) (by omega) (by omega) (by decide)⟩)
    · have he := Option.some.inj (ho.symm.trans (show opsMap[31]? = some ⟨_, _, _, _, _, _⟩ from rfl))
      subst he
      have d0 : L 0 = true := hdep { on := 0, ground := .data } (by simp) rfl
      have d30 : L 30 = true := hdep { on := 30, ground := .data } (by simp) rfl
      have t0 := (hM.at0 d0).1
      have t1 : a.tmps[79]? = some (.string m.z.sec) := hM.vals 30 rfl d30
      obtain ⟨w', hrun, hM'⟩ := hM.ins 31 13 rfl (by omega) d0 hLi (hfit _)
      have hrun' : (Instr.mapUpdate 77 (.map (some mb)) (.int .i64 13) (.string m.z.sec)).run Tryz.prog w = .ok () w' := hrun
      clear hrun
      go_simp
      exact hK _ _ (.inl ⟨by show (L 33 || 33 == 31) = false; rw [h33]; rfl, mb, hM'⟩)
    · have he := Option.some.inj (ho.symm.trans (show opsMap[32]? = some ⟨_, _, _, _, _, _⟩ from rfl))
      subst he
      have hall : ∀ j, j < 32 → L j = true := by
        intro j hj
        have hj' : j = 0 ∨ j = 1 ∨ j = 2 ∨ j = 3 ∨ j = 4 ∨ j = 5 ∨ j = 6 ∨ j = 7 ∨ j = 8 ∨ j = 9 ∨ j = 10 ∨ j = 11 ∨ j = 12 ∨ j = 13 ∨ j = 14 ∨ j = 15 ∨ j = 16 ∨ j = 17 ∨ j = 18 ∨ j = 19 ∨ j = 20 ∨ j = 21 ∨ j = 22 ∨ j = 23 ∨ j = 24 ∨ j = 25 ∨ j = 26 ∨ j = 27 ∨ j = 28 ∨ j = 29 ∨ j = 30 ∨ j = 31 := by omega
        rcases hj' with rfl | rfl | rfl | rfl | rfl | rfl | rfl | rfl | rfl | rfl | rfl | rfl | rfl | rfl | rfl | rfl | rfl | rfl | rfl | rfl | rfl | rfl | rfl | rfl | rfl | rfl | rfl | rfl | rfl | rfl | rfl | rfl <;> exact hdep { on := _, ground := .data } (by simp) rfl
      have t0 := (hM.at0 (hall 0 (by omega))).1
      go_simp
      exact hK _ _ (.inl ⟨by show (L 33 || 33 == 32) = false; rw [h33]; rfl, mb, hM.m32 hs0 hall⟩)
    · have he := Option.some.inj (ho.symm.trans (show opsMap[33]? = some ⟨_, _, _, _, _, _⟩ from rfl))
      subst he
      have d32 : L 32 = true := hdep { on := 32, ground := .data } (by simp) rfl
      have t0 := hM.at32 d32
      have hall := hM.d32 d32
      obtain ⟨D, n, q1, q2, q3, q4⟩ := hM.map (hall 0 (by omega))
      obtain ⟨w', hrun, hrg, hgr, hsz⟩ := q1.range (int_keyed Tryz.underlying3) Tryz.underlying77
      go_simp
      have hall2 : ∀ j, j < 34 → (L j || j == 33) = true := fun j hj => by
        rcases Nat.lt_or_ge j 32 with h | h
        · rw [hall j h]; rfl
        · have : j = 32 ∨ j = 33 := by omega
          rcases this with rfl | rfl
          · rw [d32]; rfl
          · simp
      have hput : ∀ j, (a.put (some 81) (.pointer (some ⟨w.heap.size, 0, none⟩))).tmps[j]? = if 81 = j then some (.pointer (some ⟨w.heap.size, 0, none⟩)) else a.tmps[j]? := fun j => by
        simp only [Act.put, Array.getElem?_setIfInBounds]
        split
        · rename_i e; subst e; rw [if_pos (by have := hM.size; omega)]
        · rfl
      have hps : (a.put (some 81) (.pointer (some ⟨w.heap.size, 0, none⟩))).tmps.size = a0.tmps.size := by simp only [Act.put, Array.size_setIfInBounds]; exact hM.size
      refine hK _ _ (.inr ⟨hall2, mb, w.heap.size, n, _, D, hps, hM.defs, fun j hj => (hput j).trans (by rw [if_neg (by omega)]; exact hM.same j hj), (hput 81).trans (if_pos rfl), hrg, hM.below.grown hgr hM.below.size (fun j hj => by cases hj), (hM.at0 (hall 0 (by omega))).2, hM.below.size, fun k => ?_, fun i k hik => ?_⟩)
      · rw [q3 k, Bool.eq_iff_iff, List.any_eq_true, List.any_eq_true]
        have hk : ∀ i ∈ opsK, i < 32 := by decide
        exact ⟨fun ⟨j, hj, hh⟩ => ⟨j, hj, (Bool.and_eq_true_iff.1 hh).2⟩, fun ⟨j, hj, hh⟩ => ⟨j, hj, by rw [hall j (hk j hj)]; exact hh⟩⟩
      · have hk : ∀ i ∈ opsK, i < 32 := by decide
        exact q4 i k hik (hall i (hk i (mkey_mem i k hik)))
  · intro L a w hall hI
    rcases hI with ⟨h33, _⟩ | ⟨_, hd⟩
    · have := hall 33 (by rw [opsMap_size]; omega)
      rw [h33] at this; cases this
    · exact hQ a w hd
end Go.Proofs.YtelngghecmkipaaGreatDoor
