/- Several texts in one: StrGather, StrVars, StrFn, StrValid. -/
import Derived.Test.YtihbmgkbipeakaaGreatWebG6
import Derived.Test.YtihbmgkbipeakaaGreatWebG3
import Derived.Test.YtihbmgkbipeakaaGreatShelfC
import Derived.Sort.OwnSorted
import Derived.Lib.RowBridge
import Derived.Test.YtihbmgkbipeakaaGreatWebG8
import Derived.Test.YtihbmgkbipeakaaGreatWebG1
namespace Go.Proofs.YtihbmgkbipeakaaGreat
open Go.RowKit

namespace T
mutual
/-- The names of a term's variables, in the order in which they occur. -/
def vars : T → List ByteArray
  | .mk k s ks => (if k = 2 then [s] else []) ++ varsAll ks
def varsAll : List T → List ByteArray
  | [] => []
  | t :: r => vars t ++ varsAll r
end
mutual
theorem vars_len : ∀ t : T, t.vars.length ≤ t.bulk
  | .mk k s ks => by
    have := varsAll_len ks
    simp only [vars, bulk, List.length_append]
    split <;> simp <;> omega
theorem varsAll_len : ∀ l : List T, (varsAll l).length ≤ bulkAll l
  | [] => by simp [varsAll, bulkAll]
  | t :: r => by have := vars_len t; have := varsAll_len r; simp only [varsAll, bulkAll, List.length_append]; omega
end
theorem varsAll_take (l : List T) : ∀ (i : Nat) (h : i < l.length), varsAll (l.take (i + 1)) = varsAll (l.take i) ++ l[i].vars := by
  induction l with
  | nil => intro i h; simp at h
  | cons t r ih =>
    intro i h
    cases i with
    | zero => simp [varsAll]
    | succ i => simp only [List.take_succ_cons, varsAll, List.getElem_cons_succ]; rw [ih i (by simpa using h), List.append_assoc]
theorem bulkAll_succ (l : List T) : ∀ (i : Nat) (h : i < l.length), bulkAll (l.take i) + l[i].bulk ≤ bulkAll l := by
  induction l with
  | nil => intro i h; simp at h
  | cons t r ih =>
    intro i h
    cases i with
    | zero => simp only [List.take_zero, bulkAll, List.getElem_cons_zero]; omega
    | succ i => have := ih i (by simpa using h); simp only [List.take_succ_cons, bulkAll, List.getElem_cons_succ]; omega
end T
/-- Blocks below B. -/
def under (B : Nat) : Nat → Bool := fun b => decide (b < B)
/-- A term as it is reached lies in the memory that is there. -/
theorem TermAt.under_ {w : World} {v : Value} {t : T} (h : TermAt w v t) : TermIn (under w.heap.size) w v t :=
  TermAt.keep h fun p hp => by
    rw [cell_only]
    obtain ⟨u, hu⟩ := Option.isSome_iff_exists.1 hp
    rw [if_pos (show under w.heap.size p.block = true from decide_eq_true (World.block_lt_of_cell? w p hu))]
theorem TermIn.below_ {B : Nat} {w w' : World} {v : Value} {t : T} (h : TermIn (under B) w v t) (hb : Below B w w') : TermIn (under B) w' v t :=
  h.keep fun b hb' _ => ⟨hb', hb.block b (of_decide_eq_true hb')⟩
/-- A kid's cells, below B. -/
theorem TermIn.cells {B : Nat} {w : World} {A : Option Addr} {ks : List T} {U : Nat → Value × Value × Value} {i : Nat} (h : i < ks.length)
    (hA : ks.length = 0 ∨ ∃ b off, A = some ⟨b, off, none⟩ ∧ ∀ i, i < ks.length → (only w (under B)).cell? ⟨b, off + i * 3, none⟩ = some (U i).1 ∧ (only w (under B)).cell? ⟨b, off + i * 3 + 1, none⟩ = some (U i).2.1 ∧ (only w (under B)).cell? ⟨b, off + i * 3 + 2, none⟩ = some (U i).2.2)
    (hU : ∀ i (h : i < ks.length), TermAt (only w (under B)) (.agg #[(U i).1, (U i).2.1, (U i).2.2]) ks[i]) :
    ∃ b off A' cap', b < B ∧ A = some ⟨b, off, none⟩ ∧ w.cell? ⟨b, off + i * 3, none⟩ = some (.int .i64 ks[i].kind) ∧ w.cell? ⟨b, off + i * 3 + 1, none⟩ = some (.string ks[i].name) ∧
      w.cell? ⟨b, off + i * 3 + 2, none⟩ = some (.slice A' ks[i].kids.length cap') ∧ TermIn (under B) w (.agg #[.int .i64 ks[i].kind, .string ks[i].name, .slice A' ks[i].kids.length cap']) ks[i] := by
  obtain ⟨b, off, A', cap', e, c0, c1, c2, hu⟩ := TermAt.cells h hA hU
  have key : ∀ {q : Addr} {v : Value}, (only w (under B)).cell? q = some v → q.block < B ∧ w.cell? q = some v := fun {q v} hq => by
    rw [cell_only] at hq
    split at hq
    · rename_i hS; exact ⟨of_decide_eq_true hS, hq⟩
    · cases hq
  exact ⟨b, off, A', cap', (key c0).1, e, (key c0).2, (key c1).2, (key c2).2, hu⟩
theorem cell_below {B : Nat} {w w' : World} {b o : Nat} {v : Value} (h : Below B w w') (hb : b < B) (hc : w.cell? ⟨b, o, none⟩ = some v) : w'.cell? ⟨b, o, none⟩ = some v := (h.cell (p := ⟨b, o, none⟩) hb).trans hc
theorem Tryz.infoStr : (Tryz.prog.info? 9).map (fun i => (i.zero, i.size, i.bytes)) = some (some (.string ByteArray.empty), 1, 16) := by kernel_rfl

theorem Src.one_str (w : World) (s : ByteArray) : Src (w.alloc (.cells #[.string s] 9)) 1 (some ⟨w.heap.size, 0, none⟩) 1 [.string s] := by
  refine ⟨rfl, .inr ⟨_, 0, rfl, fun j u hu => ?_⟩⟩
  rw [Nat.zero_add]
  match j, hu with
  | 0, hu =>
    have h := heap_alloc_new w (.cells #[.string s] 9)
    have e : (w.alloc (.cells #[.string s] 9)).cell? ⟨w.heap.size, 0, none⟩ = some (.string s) := by unfold World.cell?; rw [h]; rfl
    exact e.trans hu

set_option maxRecDepth 100000 in
set_option maxHeartbeats 8000000 in
theorem gather_ok : ∀ (N : Nat) (t : T) (v : Value) (w : World) (base : Nat) (lv : Value) (L : List ByteArray), t.bulk < N → TermIn (under base) w v t → t.bulk ≤ 1048576 →
    w.ownsRow base 9 1 lv L.length (L.map .string) → L.length + t.bulk ≤ 4194304 → base ≤ w.heap.size →
    Calls Tryz.prog 107 #[lv, v] w fun e w' => ∃ lv', e = .returned lv' ∧ w'.ownsRow base 9 1 lv' (L ++ t.vars).length ((L ++ t.vars).map .string) ∧ Below base w w' := by
  intro N
  induction N with
  | zero => intro t v w base lv L h; omega
  | succ N ih =>
    intro t v w base lv L hN ht hbk hown hLb hbase
    cases ht with
    | mk k s A cap ks U h1 h2 h3 h4 hA hU =>
      simp only [T.bulk] at hN hbk hLb
      have hkn : ks.length ≤ 262144 := by have := T.len_le ks; omega
      obtain ⟨i0, hi0, hz0, hz1, hz2⟩ := info_parts Tryz.infoStr
      have hbx := boxed_new w (.int .i64 k) (.string s) (.slice A ks.length cap) 29
      have hb1 := below_alloc1 w (.cells #[.int .i64 k, .string s, .slice A ks.length cap] 29)
      have HA := Lib.hid hA; have HU := Lib.hid hU; have IH := Lib.hid ih
      have HLT := Lib.hid (show ∀ b, lv.ownBlock = some b → base ≤ b ∧ b < w.heap.size from hown.lt)
      have HLT := Lib.hid (show ∀ b, lv.ownBlock = some b → base ≤ b ∧ b < w.heap.size from hown.lt)
      have HLT := Lib.hid (show ∀ b, lv.ownBlock = some b → base ≤ b ∧ b < w.heap.size from hown.lt)
      have HLT := Lib.hid (show ∀ b, lv.ownBlock = some b → base ≤ b ∧ b < w.heap.size from hown.lt)
      have HLT := Lib.hid (show ∀ b, lv.ownBlock = some b → base ≤ b ∧ b < w.heap.size from hown.lt)
      have HLT := Lib.hid (show ∀ b, lv.ownBlock = some b → base ≤ b ∧ b < w.heap.size from hown.lt)
      have HLT := Lib.hid (show ∀ b, lv.ownBlock = some b → base ≤ b ∧ b < w.heap.size from hown.lt)
      have HLT := Lib.hid (show ∀ b, lv.ownBlock = some b → base ≤ b ∧ b < w.heap.size from hown.lt)
      have HOWN := Lib.hid (own_later hown hb1); have HB1 := Lib.hid (hb1.mono hbase)
      have HBS := Lib.hid (show base ≤ (w.alloc (.cells #[.int .i64 k, .string s, .slice A ks.length cap] 29)).heap.size by rw [size_alloc1]; omega)
      clear hA hU ih hown
      go_enter Tryz.func107, Tryz.ntmps107
      go_upto_region 1 with fail
      generalize w.alloc (.cells #[.int .i64 k, .string s, .slice A ks.length cap] 29) = w1 at hbx hb1 HOWN HB1 HBS ⊢
      obtain ⟨x0, x1, x2⟩ := hbx
      have HNB := Lib.hid (show lv.ownBlock ≠ some w.heap.size from fun e => by have := (HLT.out _ e).2; omega)
      have hq : ∃ L0 : List ByteArray, L0 = L ++ (if k = 2 then [s] else []) := ⟨_, rfl⟩
      obtain ⟨L0, hL0⟩ := hq
      have HL0 := Lib.hid hL0
      have hb0 : L0.length + T.bulkAll ks ≤ 4194304 := by rw [hL0]; split <;> simp <;> omega
      have HLB := Lib.hid hb0
      clear hb0
      have HNB := Lib.hid (show lv.ownBlock ≠ some w.heap.size from fun e => by have := (HLT.out _ e).2; omega)
      have hq : ∃ L0 : List ByteArray, L0 = L ++ (if k = 2 then [s] else []) := ⟨_, rfl⟩
      obtain ⟨L0, hL0⟩ := hq
      have HL0 := Lib.hid hL0
      have hb0 : L0.length + T.bulkAll ks ≤ 4194304 := by rw [hL0]; split <;> simp <;> omega
      have HLB := Lib.hid hb0
      clear hb0
      have HNB := Lib.hid (show lv.ownBlock ≠ some w.heap.size from fun e => by have := (HLT.out _ e).2; omega)
      have hq : ∃ L0 : List ByteArray, L0 = L ++ (if k = 2 then [s] else []) := ⟨_, rfl⟩
      obtain ⟨L0, hL0⟩ := hq
      have HL0 := Lib.hid hL0
      have hb0 : L0.length + T.bulkAll ks ≤ 4194304 := by rw [hL0]; split <;> simp <;> omega
      have HLB := Lib.hid hb0
      clear hb0
      have HNB := Lib.hid (show lv.ownBlock ≠ some w.heap.size from fun e => by have := (HLT.out _ e).2; omega)
      have hq : ∃ L0 : List ByteArray, L0 = L ++ (if k = 2 then [s] else []) := ⟨_, rfl⟩
      obtain ⟨L0, hL0⟩ := hq
      have HL0 := Lib.hid hL0
      have hb0 : L0.length + T.bulkAll ks ≤ 4194304 := by rw [hL0]; split <;> simp <;> omega
      have HLB := Lib.hid hb0
      clear hb0
      have HNB := Lib.hid (show lv.ownBlock ≠ some w.heap.size from fun e => by have := (HLT.out _ e).2; omega)
      have hq : ∃ L0 : List ByteArray, L0 = L ++ (if k = 2 then [s] else []) := ⟨_, rfl⟩
      obtain ⟨L0, hL0⟩ := hq
      have HL0 := Lib.hid hL0
      have hb0 : L0.length + T.bulkAll ks ≤ 4194304 := by rw [hL0]; split <;> simp <;> omega
      have HLB := Lib.hid hb0
      clear hb0
      have HNB := Lib.hid (show lv.ownBlock ≠ some w.heap.size from fun e => by have := (HLT.out _ e).2; omega)
      have hq : ∃ L0 : List ByteArray, L0 = L ++ (if k = 2 then [s] else []) := ⟨_, rfl⟩
      obtain ⟨L0, hL0⟩ := hq
      have HL0 := Lib.hid hL0
      have hb0 : L0.length + T.bulkAll ks ≤ 4194304 := by rw [hL0]; split <;> simp <;> omega
      have HLB := Lib.hid hb0
      clear hb0
      have HNB := Lib.hid (show lv.ownBlock ≠ some w.heap.size from fun e => by have := (HLT.out _ e).2; omega)
      have hq : ∃ L0 : List ByteArray, L0 = L ++ (if k = 2 then [s] else []) := ⟨_, rfl⟩
      obtain ⟨L0, hL0⟩ := hq
      have HL0 := Lib.hid hL0
      have hb0 : L0.length + T.bulkAll ks ≤ 4194304 := by rw [hL0]; split <;> simp <;> omega
      have HLB := Lib.hid hb0
      clear hb0
      have HNB := Lib.hid (show lv.ownBlock ≠ some w.heap.size from fun e => by have := (HLT.out _ e).2; omega)
      have hq : ∃ L0 : List ByteArray, L0 = L ++ (if k = 2 then [s] else []) := ⟨_, rfl⟩
      obtain ⟨L0, hL0⟩ := hq
      have HL0 := Lib.hid hL0
      have hb0 : L0.length + T.bulkAll ks ≤ 4194304 := by rw [hL0]; split <;> simp <;> omega
      have HLB := Lib.hid hb0
      clear hb0
      by_cases k2 : k = 2
      · subst k2
        have HL1 := Lib.hid (show L0 = L ++ [s] by rw [hL0, if_pos rfl])
        clear hL0
        have hwa := below_alloc1 w1 (.cells #[.string s] 9)
        have y2 := cell_later hwa x2
        have hl1 := hwa.size
        have HONE := Lib.hid (show ∀ u ∈ [Value.string s], u.oneCell' = true from fun u hu => by rw [List.mem_singleton] at hu; subst hu; rfl)
        go_wp2_with (at_builtin; refine wpList_append_src _ rfl _ _ 56 rfl base 9 i0 _ 1 16 Tryz.underlying56 hi0 hz0 hz1 hz2 rfl (by omega) _ _ _ rfl (own_later HOWN.out hwa) _ 1 1 [.string s] rfl (Src.one_str _ _) HONE.out (by unfold maxLen; omega) (by omega) (by have := HBS.out; omega) ?_; intro A8 c8 w8 hown8 hg8 hat8; have hz8 := hg8.cell y2 (fun e => HNB.out e.symm))
        have hown9 : w8.ownsRow base 9 1 (.slice A8 (L.length + 1) c8) L0.length (L0.map .string) := by
          rw [HL1.out]; simpa using hown8
        have hbw : Below base w w8 := (HB1.out.trans (hwa.mono HBS.out)).grown hg8 (by have := HBS.out; omega) (fun b hb => (HLT.out _ hb).1)
        have hbs : base ≤ w8.heap.size := by have := hg8.size; have := HBS.out; omega
        clear hown8 hg8 hat8 hwa hl1 x0 x1 x2 y2
        generalize Value.slice A8 (L.length + 1) c8 = lv0 at hown9 ⊢
        have HO := Lib.hid hown9; have HBW := Lib.hid hbw; have HSB := Lib.hid hbs
        clear hown9 hbw hbs
        go_loopw [18, 0] (fun i l wr => ∃ j : Nat, j ≤ ks.length ∧ i = .int .i64 j ∧ wr.ownsRow base 9 1 l (L0 ++ T.varsAll (ks.take j)).length ((L0 ++ T.varsAll (ks.take j)).map .string) ∧ Below base w wr ∧ base ≤ wr.heap.size) (fun i _ _ => ks.length - (intOf i).toNat)
        case atStart => exact ⟨0, Nat.zero_le _, rfl, by simpa [T.varsAll] using HO.out, HBW.out, HSB.out⟩
        case round =>
          obtain ⟨j, hj, rfl, hown, hbw, hbs⟩ := hrel
          by_cases hlt : j < ks.length
          · obtain ⟨b, off, B1, C1, hbB, rfl, d0, d1, d2, hu⟩ := TermIn.cells hlt HA.out HU.out
            have e0 := cell_below hbw hbB d0; have e1 := cell_below hbw hbB d1; have e2 := cell_below hbw hbB d2
            have hi : (j : Int) < (ks.length : Int) := by omega
            have hw2 := below_alloc1 wr (.cells #[.int .i64 ks[j].kind, .string ks[j].name, .slice B1 ks[j].kids.length C1] 29)
            have HU2 := Lib.hid ((hu.below_ hbw).below_ (hw2.mono hbs))
            have HOWN2 := Lib.hid (own_later hown hw2)
            have HBW2 := Lib.hid (hbw.trans (hw2.mono hbs))
            have HBS2 := Lib.hid (show base ≤ (wr.alloc (.cells #[.int .i64 ks[j].kind, .string ks[j].name, .slice B1 ks[j].kids.length C1] 29)).heap.size by rw [size_alloc1]; omega)
            have HB2 := Lib.hid (show ks[j].bulk < N ∧ ks[j].bulk ≤ 1048576 ∧ (L0 ++ T.varsAll (ks.take j)).length + ks[j].bulk ≤ 4194304 by
              have h1 := T.bulkAll_succ ks j hlt; have h2 := T.varsAll_len (ks.take j); have h3 := HLB.out
              rw [List.length_append]; omega)
            have HTK := Lib.hid (show L0 ++ T.varsAll (ks.take j) ++ ks[j].vars = L0 ++ T.varsAll (ks.take (j + 1)) by rw [T.varsAll_take ks j hlt, List.append_assoc])
            have HLT2 := Lib.hid hlt
            clear d0 d1 d2 hu hw2 hown hbw hbs hj
            go_wp2_with fail
            refine (IH.out _ _ _ base _ _ HB2.out.1 HU2.out HB2.out.2.1 HOWN2.out HB2.out.2.2 HBS2.out).mono ?_; rintro e w5 ⟨l5, rfl, hown5, hb5⟩
            rw [HTK.out] at hown5
            have HO5 := Lib.hid hown5; have HB5 := Lib.hid (HBW2.out.trans hb5); have HS5 := Lib.hid (Nat.le_trans HBS2.out (show _ ≤ w5.heap.size from hb5.size))
            clear hown5 hb5 e0 e1 e2
            go_wp2_with fail
            go_roundw
            case rel => exact ⟨j + 1, HLT2.out, by go_num, HO5.out, HB5.out, HS5.out⟩
            case measure => have := HLT2.out; simp [intOf]; omega
          · obtain rfl : j = ks.length := by omega
            rw [List.take_of_length_le (Nat.le_refl _)] at hown
            have HRES := Lib.hid (show L0 ++ T.varsAll ks = L ++ (T.mk 2 s ks).vars by rw [HL0.out]; simp [T.vars])
            have HOX := Lib.hid hown; have HBX := Lib.hid hbw
            clear hown hbw hbs
            go_wp2_with fail
            go_ret
            refine ⟨_, rfl, ?_, HBX.out⟩
            rw [← HRES.out]; exact HOX.out
      · have hL1 : L0 = L := by rw [hL0, if_neg k2, List.append_nil]
        have k2' : (k == 2) = false := by rw [beq_eq_false_iff_ne]; exact k2
        have hown9 : w1.ownsRow base 9 1 lv L0.length (L0.map .string) := by rw [hL1]; exact HOWN.out
        have HO := Lib.hid hown9; have HBW := HB1; have HSB := HBS
        clear hown9 hL0 hL1 k2
        go_wp2_with fail
        go_loopw [18, 0] (fun i l wr => ∃ j : Nat, j ≤ ks.length ∧ i = .int .i64 j ∧ wr.ownsRow base 9 1 l (L0 ++ T.varsAll (ks.take j)).length ((L0 ++ T.varsAll (ks.take j)).map .string) ∧ Below base w wr ∧ base ≤ wr.heap.size) (fun i _ _ => ks.length - (intOf i).toNat)
        case atStart => exact ⟨0, Nat.zero_le _, rfl, by simpa [T.varsAll] using HO.out, HBW.out, HSB.out⟩
        case round =>
          obtain ⟨j, hj, rfl, hown, hbw, hbs⟩ := hrel
          by_cases hlt : j < ks.length
          · obtain ⟨b, off, B1, C1, hbB, rfl, d0, d1, d2, hu⟩ := TermIn.cells hlt HA.out HU.out
            have e0 := cell_below hbw hbB d0; have e1 := cell_below hbw hbB d1; have e2 := cell_below hbw hbB d2
            have hi : (j : Int) < (ks.length : Int) := by omega
            have hw2 := below_alloc1 wr (.cells #[.int .i64 ks[j].kind, .string ks[j].name, .slice B1 ks[j].kids.length C1] 29)
            have HU2 := Lib.hid ((hu.below_ hbw).below_ (hw2.mono hbs))
            have HOWN2 := Lib.hid (own_later hown hw2)
            have HBW2 := Lib.hid (hbw.trans (hw2.mono hbs))
            have HBS2 := Lib.hid (show base ≤ (wr.alloc (.cells #[.int .i64 ks[j].kind, .string ks[j].name, .slice B1 ks[j].kids.length C1] 29)).heap.size by rw [size_alloc1]; omega)
            have HB2 := Lib.hid (show ks[j].bulk < N ∧ ks[j].bulk ≤ 1048576 ∧ (L0 ++ T.varsAll (ks.take j)).length + ks[j].bulk ≤ 4194304 by
              have h1 := T.bulkAll_succ ks j hlt; have h2 := T.varsAll_len (ks.take j); have h3 := HLB.out
              rw [List.length_append]; omega)
            have HTK := Lib.hid (show L0 ++ T.varsAll (ks.take j) ++ ks[j].vars = L0 ++ T.varsAll (ks.take (j + 1)) by rw [T.varsAll_take ks j hlt, List.append_assoc])
            have HLT2 := Lib.hid hlt
            clear d0 d1 d2 hu hw2 hown hbw hbs hj
            go_wp2_with fail
            refine (IH.out _ _ _ base _ _ HB2.out.1 HU2.out HB2.out.2.1 HOWN2.out HB2.out.2.2 HBS2.out).mono ?_; rintro e w5 ⟨l5, rfl, hown5, hb5⟩
            rw [HTK.out] at hown5
            have HO5 := Lib.hid hown5; have HB5 := Lib.hid (HBW2.out.trans hb5); have HS5 := Lib.hid (Nat.le_trans HBS2.out (show _ ≤ w5.heap.size from hb5.size))
            clear hown5 hb5 e0 e1 e2
            go_wp2_with fail
            go_roundw
            case rel => exact ⟨j + 1, HLT2.out, by go_num, HO5.out, HB5.out, HS5.out⟩
            case measure => have := HLT2.out; simp [intOf]; omega
          · obtain rfl : j = ks.length := by omega
            rw [List.take_of_length_le (Nat.le_refl _)] at hown
            have HRES := Lib.hid (show L0 ++ T.varsAll ks = L ++ (T.mk k s ks).vars by rw [HL0.out]; simp [T.vars])
            have HOX := Lib.hid hown; have HBX := Lib.hid hbw
            clear hown hbw hbs
            go_wp2_with fail
            go_ret
            refine ⟨_, rfl, ?_, HBX.out⟩
            rw [← HRES.out]; exact HOX.out
end Go.Proofs.YtihbmgkbipeakaaGreat

namespace Go.Proofs.YtihbmgkbipeakaaGreat
open Go.RowKit

theorem mem_compactUpTo (d : Array (List UInt8)) (x : List UInt8) : ∀ m, m ≤ d.size → (x ∈ Lib.compactUpTo d m ↔ ∃ j, j < m ∧ d[j]! = x) := by
  intro m
  induction m with
  | zero => intro _; simp [Lib.compactUpTo]
  | succ m ih =>
    intro hm
    rw [Lib.compactUpTo_succ, List.mem_append, ih (by omega)]
    constructor
    · rintro (⟨j, h1, h2⟩ | h)
      · exact ⟨j, by omega, h2⟩
      · split at h
        · rw [List.mem_singleton] at h; exact ⟨m, by omega, h.symm⟩
        · simp at h
    · rintro ⟨j, h1, h2⟩
      rcases Nat.lt_or_ge j m with g | g
      · exact .inl ⟨j, g, h2⟩
      · obtain rfl : j = m := by omega
        by_cases hk : Lib.keeps d j = true
        · right; rw [if_pos hk, h2]; simp
        · left
          cases j with
          | zero => exact absurd (Lib.keeps_lt_one d 0 (by omega)) hk
          | succ j =>
            refine ⟨j, by omega, ?_⟩
            rw [← h2]
            exact (by simpa [Lib.keeps] using hk : d[j + 1]! = d[j]!).symm
theorem mem_compact (zs : List (List UInt8)) (x : List UInt8) : x ∈ Lib.compact zs ↔ x ∈ zs := by
  unfold Lib.compact
  rw [mem_compactUpTo _ _ _ (by simp)]
  constructor
  · rintro ⟨j, h1, h2⟩
    rw [← h2, getElem!_pos _ j (by simpa using h1)]
    simp
  · intro h
    obtain ⟨j, hj, e⟩ := List.getElem_of_mem h
    exact ⟨j, hj, by rw [getElem!_pos _ j (by simpa using hj)]; simpa using e⟩
theorem map_enc (M : List ByteArray) : M.map Value.string = (M.map (·.data.toList)).map encStr := by
  rw [List.map_map]
  exact List.map_congr_left fun b _ => congrArg Value.string (str_of b)
theorem below_sorted {w : World} {B g n : Nat} {os : Array Obj} (hg : B ≤ g) (hB : B ≤ w.heap.size) (d : Array (List UInt8)) : Below B w (Sort.grow (Sort.putRow encStr (Sort.ahead w n) g 0 d) os) :=
  (Below.refl B w).grown (grownBy_sorted d) hB (fun b hb => by have e : g = b := Option.some.inj hb; omega)
theorem Src.head_ {w : World} {n m : Nat} {A : Option Addr} {xs : List Value} (h : Src w 1 A n xs) (hm : m ≤ n) : Src w 1 A m (xs.take m) := by
  refine ⟨by rw [List.length_take, h.1]; omega, ?_⟩
  rcases h.2 with h0 | ⟨g, off, e, hc⟩
  · left; omega
  · refine .inr ⟨g, off, e, fun j u hu => hc j u ?_⟩
    rw [List.getElem?_take] at hu
    split at hu
    · exact hu
    · cases hu
/-- A row of strings that is read. -/
def VarsPost (t : T) (w : World) (e : Ending) (w' : World) : Prop :=
  ∃ (A : Option Addr) (c : Nat) (R : List (List UInt8)), e = .returned (.slice A R.length c) ∧ Src w' 1 A R.length (R.map encStr) ∧ Below w.heap.size w w' ∧ (∀ x : ByteArray, x.data.toList ∈ R ↔ x ∈ t.vars) ∧ R.length ≤ 1048576 ∧ R.length ≤ c ∧ ∀ b, A.map (·.block) = some b → w.heap.size ≤ b
theorem mem_names (M : List ByteArray) (x : ByteArray) : x.data.toList ∈ M.map (·.data.toList) ↔ x ∈ M := by
  rw [List.mem_map]
  constructor
  · rintro ⟨y, hy, e⟩; rw [← str_eq e]; exact hy
  · intro h; exact ⟨x, h, rfl⟩

set_option maxRecDepth 100000 in
set_option maxHeartbeats 4000000 in
theorem ovars (t : T) (v : Value) (w : World) (ht : TermAt w v t) (hbk : t.bulk ≤ 1048576) :
    Calls Tryz.prog 60 #[v] w (VarsPost t w) := by
  have hu := ht.under_
  have hvl := t.vars_len
  cases ht with
  | mk k s A cap ks U h1 h2 h3 h4 hA hU =>
  have hbx := boxed_new w (.int .i64 k) (.string s) (.slice A ks.length cap) 29
  have hb1 := below_alloc1 w (.cells #[.int .i64 k, .string s, .slice A ks.length cap] 29)
  have HU := Lib.hid (hu.below_ hb1); have HB1 := Lib.hid hb1
  have HS1 := Lib.hid (show w.heap.size ≤ (w.alloc (.cells #[.int .i64 k, .string s, .slice A ks.length cap] 29)).heap.size from hb1.size)
  have HVL := Lib.hid hvl
  clear hA hU hu hb1 hvl
  generalize hT : T.mk k s ks = t at HU HVL hbk ⊢
  clear hT
  go_enter Tryz.func60, Tryz.ntmps60
  go_upto_region 1 with fail
  generalize w.alloc (.cells #[.int .i64 k, .string s, .slice A ks.length cap] 29) = w1 at hbx HU HB1 HS1 ⊢
  obtain ⟨x0, x1, x2⟩ := hbx
  go_wp2_with fail
  refine (gather_ok (t.bulk + 1) t _ _ w.heap.size _ [] (by omega) HU.out hbk (World.ownsRow_nil _ _ _ _) (by simp; omega) HS1.out).mono ?_; rintro e w2 ⟨lv, rfl, hown, hb2⟩
  rw [List.nil_append] at hown
  have HB2 := Lib.hid (HB1.out.trans hb2); have HS2 := Lib.hid (Nat.le_trans HS1.out (show _ ≤ w2.heap.size from hb2.size))
  clear hb2 x0 x1 x2
  rcases hown.2 with ⟨rfl, h0⟩ | ⟨g, cp, cur, rfl, hbase, hb, g1, g2, g3, g4⟩
  · have hnil : t.vars = [] := List.eq_nil_of_length_eq_zero h0
    have HN := Lib.hid hnil
    clear hown hnil h0
    go_wp2_with fail
    refine (Tryz.slices_Sort_string_none _ _ _).mono ?_; rintro e w3 ⟨rfl, rfl⟩
    go_wp2_with fail
    refine (Tryz.slices_Compact_string_empty _ _ _).mono ?_; rintro e w3 ⟨rfl, rfl⟩
    go_wp2_with fail
    go_ret
    exact ⟨none, 0, [], rfl, Src.none_ _ _ _, HB2.out, fun x => by rw [HN.out]; simp, by simp, by simp, fun b hb => by cases hb⟩
  · obtain ⟨ss, hss⟩ : ∃ ss, t.vars.map (·.data.toList) = ss := ⟨_, rfl⟩
    have hsl : ss.length = t.vars.length := by rw [← hss, List.length_map]
    have hm : ∀ x : ByteArray, x.data.toList ∈ ss ↔ x ∈ t.vars := fun x => by rw [← hss]; exact mem_names _ x
    have g4' : cur.toList.take ss.length = ss.map encStr := by rw [hsl, ← hss, ← map_enc]; simpa using g4
    rw [← hsl] at g1 ⊢
    have hgl : g < w2.heap.size := (Array.getElem?_eq_some_iff.1 hb).1
    have HM := Lib.hid hm
    have HSL := Lib.hid (show ss.length ≤ 1048576 by rw [hsl]; exact Nat.le_trans HVL.out hbk)
    have HH := Lib.hid (show Sort.Holds encStr w2 g 0 ss.toArray from holds_of_block hb g4')
    have HBK := Lib.hid hb; have HG1 := Lib.hid g1; have HG2 := Lib.hid g2; have HG3 := Lib.hid g3; have HBA := Lib.hid hbase; have HGL := Lib.hid hgl
    clear hown hss hsl hm g4 g4' hb g1 g2 g3 hbase hgl
    go_wp2_with fail
    refine (Tryz.slices_Sort_string g 0 cp ss w2 HH.out HGL.out (by have := HSL.out; omega)).mono ?_; rintro e w3 ⟨rfl, n, os, rfl⟩
    have hl2 : (ss.mergeSort fun x y => decide (x ≤ y)).length = ss.length := by simp
    have hmem : ∀ x, x ∈ (ss.mergeSort fun x y => decide (x ≤ y)) ↔ x ∈ ss := fun x => List.mem_mergeSort
    generalize (ss.mergeSort fun x y => decide (x ≤ y)) = ts at hl2 hmem ⊢
    have hown3 := ownsRow_sorted (n := n) (os := os) (base := w.heap.size) hl2 HBA.out HBK.out HG1.out HG2.out HG3.out
    have hb3 := below_sorted (n := n) (os := os) HBA.out HS2.out ts.toArray
    rw [← hl2] at hown3 ⊢
    generalize Sort.grow (Sort.putRow encStr (Sort.ahead w2 n) g 0 ts.toArray) os = w3 at hown3 hb3 ⊢
    rcases hown3.2 with ⟨h, _⟩ | ⟨g', cp', cur', hv, hbase', hb', g1', g2', g3', g4'⟩
    · cases h
    obtain ⟨rfl, rfl⟩ : g = g' ∧ cp = cp' := by injection hv with e1 e2 e3; injection e1 with e1; injection e1 with e1; exact ⟨e1, e3⟩
    have HH3 := Lib.hid (show Sort.Holds encStr w3 g 0 ts.toArray from holds_of_block hb' (by simpa using g4'))
    have hl4 : (Lib.compact ts ++ List.replicate (ts.length - (Lib.compact ts).length) []).length = ts.length := by
      have := Lib.compact_length_le ts; simp; omega
    have HFIN := Lib.hid (show ∀ q, VarsPost t w (.returned (.slice (some ⟨g, 0, none⟩) (Lib.compact ts).length cp)) (Sort.putRow encStr (Sort.ahead w3 q) g 0 (Lib.compact ts ++ List.replicate (ts.length - (Lib.compact ts).length) []).toArray) from fun q => by
      have ho := ownsRow_sorted (n := q) (os := #[]) (base := w.heap.size) hl4 hbase' hb' g1' g2' g3'
      have hb := below_sorted (n := q) (os := #[]) hbase' (Nat.le_trans HS2.out (show _ ≤ w3.heap.size from hb3.size)) (Lib.compact ts ++ List.replicate (ts.length - (Lib.compact ts).length) []).toArray
      rw [Sort.grow_empty] at ho hb
      refine ⟨_, _, Lib.compact ts, rfl, ?_, HB2.out.trans (hb3.trans hb), fun x => (mem_compact ts _).trans ((hmem _).trans (HM.out x)), ?_, ?_, fun b hb => by have e : g = b := Option.some.inj hb; omega⟩
      · have h := (Src.of_own ho).head_ (m := (Lib.compact ts).length) (Lib.compact_length_le ts)
        rw [List.map_append, List.take_left' (by simp)] at h
        exact h
      · have := Lib.compact_length_le ts; have := HSL.out; omega
      · have := Lib.compact_length_le ts; omega)
    have HCAP := Lib.hid (show ts.length ≤ cp from g1')
    have HSL3 := Lib.hid (show ts.length ≤ 9223372036854775807 by have := HSL.out; omega)
    clear hown3 hv hbase' hb' g1' g2' g3' g4' hb3 hmem hl4 hl2
    go_wp2_with fail
    refine (Tryz.slices_Compact_string g 0 cp ts w3 HH3.out HSL3.out HCAP.out).mono ?_; rintro e w4 ⟨rfl, q, rfl⟩
    go_wp2_with fail
    go_ret
    exact HFIN.out q
end Go.Proofs.YtihbmgkbipeakaaGreat

namespace Go.Proofs.YtihbmgkbipeakaaGreat
open Go.RowKit

/-- A row of texts that is read. -/
def TextsAt (w : World) (A : Option Addr) (K : List ByteArray) : Prop := Src w 1 A K.length (K.map .string)
theorem TextsAt.cell {w : World} {A : Option Addr} {K : List ByteArray} (h : TextsAt w A K) (i : Nat) (hi : i < K.length) : ∃ b off, A = some ⟨b, off, none⟩ ∧ w.cell? ⟨b, off + i, none⟩ = some (.string K[i]) := by
  rcases h.2 with h0 | ⟨b, off, e, hc⟩
  · omega
  · exact ⟨b, off, e, hc i _ (by rw [List.getElem?_map, List.getElem?_eq_getElem hi]; rfl)⟩
theorem contains_iff (K : List ByteArray) (x : ByteArray) : Lib.containsS K x = true ↔ x ∈ K := Lib.containsS_iff K x

/-- The closure: is a text not among the known ones? -/
theorem not_known (K : List ByteArray) (A : Option Addr) (c g : Nat) (s : ByteArray) (w : World) (hk : K.length ≤ 1099511627776) (hg : w.cell? ⟨g, 0, none⟩ = some (.slice A K.length c)) (hA : TextsAt w A K) :
    Calls Tryz.prog 62 #[.string s, .pointer (some ⟨g, 0, none⟩)] w fun e w' => e = .returned (.bool (!Lib.containsS K s)) ∧ w = w' := by
  have hC : Calls Tryz.prog 63 #[.slice A K.length c, .string s] w fun e w' => e = .returned (.bool (Lib.containsS K s)) ∧ w' = w := by
    rcases Nat.eq_zero_or_pos K.length with h0 | h0
    · obtain rfl : K = [] := List.eq_nil_of_length_eq_zero h0
      exact Tryz.slices_Contains_string_empty A c s w
    · obtain ⟨b, off, rfl, _⟩ := hA.cell 0 h0
      have h := Tryz.slices_Contains_string b off K.length c K s w (Nat.le_refl _) (by omega) (fun j hj => by
        obtain ⟨b', off', e, hc⟩ := hA.cell j hj
        injection e with e; injection e with e1 e2 e3; subst e1; subst e2
        rw [hc]; simp [List.getD, hj])
      rw [List.take_length] at h; exact h
  have HC := Lib.hid hC
  clear hA hC
  generalize Lib.containsS K s = q at HC ⊢
  go_enter Tryz.func62, Tryz.ntmps62
  go_wp2_with fail
  refine HC.out.mono ?_; rintro e w2 ⟨rfl, rfl⟩
  go_wp2_with fail
  go_ret
  exact ⟨rfl, rfl⟩
set_option maxRecDepth 100000 in
set_option maxHeartbeats 2000000 in
/-- slices.IndexFunc with the closure: is there a text that is not known? -/
theorem index_unknown (K : List ByteArray) (A : Option Addr) (c g : Nat) (R : List ByteArray) (B : Option Addr) (d : Nat) (w : World) (hk : K.length ≤ 1099511627776) (hg : w.cell? ⟨g, 0, none⟩ = some (.slice A K.length c)) (hA : TextsAt w A K) (hR : R.length ≤ 1099511627776) (hB : TextsAt w B R) :
    Calls Tryz.prog 110 #[.slice B R.length d, .func (.func 62) #[] #[.pointer (some ⟨g, 0, none⟩)]] w fun e w' => ∃ z : Int, e = .returned (.int .i64 z) ∧ ((0 ≤ z ∧ R.any (fun s => !Lib.containsS K s) = true) ∨ (z < 0 ∧ R.any (fun s => !Lib.containsS K s) = false)) ∧ w = w' := by
  have HF := Lib.hid (fun s => not_known K A c g s w hk hg hA)
  have HB := Lib.hid hB
  clear hg hA hB
  go_enter Tryz.func110, Tryz.ntmps110
  go_wp2_with fail
  go_loopw [8] (fun i wr => ∃ j : Nat, j ≤ R.length ∧ i = .int .i64 j ∧ (∀ m (h : m < j) (h1 : m < R.length), Lib.containsS K R[m] = true) ∧ w = wr) (fun i _ => R.length - (intOf i).toNat)
  case atStart => exact ⟨0, Nat.zero_le _, rfl, fun m h => absurd h (by omega), rfl⟩
  case round =>
    obtain ⟨j, hj, rfl, hz, rfl⟩ := hrel
    have HZ := Lib.hid hz; clear hz
    by_cases hlt : j < R.length
    · obtain ⟨b, off, rfl, e0⟩ := HB.out.cell j hlt
      have hi : (j : Int) < (R.length : Int) := by omega
      obtain ⟨s, hs⟩ : ∃ s, R[j]'hlt = s := ⟨_, rfl⟩
      have HLT := Lib.hid hlt
      have HSJ := Lib.hid hs
      rw [hs] at e0
      obtain ⟨q, hq⟩ : ∃ q, Lib.containsS K s = q := ⟨_, rfl⟩
      have HQ := Lib.hid hq
      have HFS := Lib.hid (show Calls Tryz.prog 62 #[.string s, .pointer (some ⟨g, 0, none⟩)] w fun e w' => e = .returned (.bool (!q)) ∧ w = w' by rw [← hq]; exact HF.out s)
      clear hq hs
      go_wp2_with fail
      refine HFS.out.mono ?_; rintro e w2 ⟨rfl, rfl⟩
      cases q
      · have HR := Lib.hid (show R.any (fun s => !Lib.containsS K s) = true from List.any_eq_true.2 ⟨R[j]'hlt, List.getElem_mem hlt, by rw [HSJ.out, HQ.out]; rfl⟩)
        go_wp2_with fail
        go_ret
        exact ⟨_, rfl, .inl ⟨by omega, HR.out⟩, rfl⟩
      · go_wp2_with fail
        go_roundw
        case rel =>
          refine ⟨j + 1, HLT.out, by go_num, fun m h g1 => ?_, by trivial⟩
          rcases Nat.lt_or_ge m j with g | g
          · exact HZ.out m g g1
          · obtain rfl : m = j := by omega
            rw [HSJ.out]; exact HQ.out
        case measure => have := HLT.out; simp [intOf]; omega
    · have hi : (R.length : Int) ≤ (j : Int) := by omega
      have HL := Lib.hid (show R.any (fun s => !Lib.containsS K s) = false from by
        rw [List.any_eq_false]
        intro x hx
        obtain ⟨m, hm, rfl⟩ := List.getElem_of_mem hx
        rw [HZ.out m (by omega) hm]; simp)
      go_wp2_with fail
      go_ret
      exact ⟨_, rfl, .inr ⟨by omega, HL.out⟩, rfl⟩
theorem contains_unknown (K : List ByteArray) (A : Option Addr) (c g : Nat) (R : List ByteArray) (B : Option Addr) (d : Nat) (w : World) (hk : K.length ≤ 1099511627776) (hg : w.cell? ⟨g, 0, none⟩ = some (.slice A K.length c)) (hA : TextsAt w A K) (hR : R.length ≤ 1099511627776) (hB : TextsAt w B R) :
    Calls Tryz.prog 61 #[.slice B R.length d, .func (.func 62) #[] #[.pointer (some ⟨g, 0, none⟩)]] w fun e w' => e = .returned (.bool (R.any fun s => !Lib.containsS K s)) ∧ w = w' := by
  have HI := Lib.hid (index_unknown K A c g R B d w hk hg hA hR hB)
  clear hg hA hB
  generalize (R.any fun s => !Lib.containsS K s) = q at HI ⊢
  go_enter Tryz.func61, Tryz.ntmps61
  go_wp2_with fail
  refine HI.out.mono ?_; rintro e w2 ⟨z, rfl, hz, rfl⟩
  rcases hz with ⟨hz, rfl⟩ | ⟨hz, rfl⟩
  · go_wp2_with fail
    go_ret
    exact ⟨rfl, rfl⟩
  · go_wp2_with fail
    go_ret
    exact ⟨ret_bool (decide_eq_false (by omega)), rfl⟩
end Go.Proofs.YtihbmgkbipeakaaGreat

namespace Go.Proofs.YtihbmgkbipeakaaGreat
open Go.RowKit

/-- The first error of moves, K the variables known by then; 0 if there is none. -/
def okMoves (K : List ByteArray) : List (Int × T) → Int
  | [] => 0
  | m :: r => if m.1 < 1 ∨ 4 < m.1 then 61 else if m.2.isN = false then 76 else if m.1 = 2 then okMoves (K ++ m.2.vars) r else if (m.2.vars.any fun s => !Lib.containsS K s) = true then 70 else okMoves K r
theorem contains_congr {K K' : List ByteArray} (h : ∀ x, x ∈ K ↔ x ∈ K') (s : ByteArray) : Lib.containsS K s = Lib.containsS K' s := by
  rw [Bool.eq_iff_iff, contains_iff, contains_iff]; exact h s
theorem okMoves_congr : ∀ (l : List (Int × T)) {K K' : List ByteArray}, (∀ x, x ∈ K ↔ x ∈ K') → okMoves K l = okMoves K' l
  | [], _, _, _ => rfl
  | m :: r, K, K', h => by
    simp only [okMoves]
    rw [okMoves_congr r (K := K ++ m.2.vars) (K' := K' ++ m.2.vars) (fun x => by rw [List.mem_append, List.mem_append, h x]), okMoves_congr r h]
    have e : (fun s => !Lib.containsS K s) = fun s => !Lib.containsS K' s := funext fun s => by rw [contains_congr h s]
    rw [e]
/-- The first error of a strand. -/
def okStrand (role : ByteArray) (ms : List (Int × T)) : Int := if T.isName role = false then 60 else if ms.length < 1 ∨ 16 < ms.length then 72 else okMoves [] ms
/-- A row of moves that is read. -/
def MovesAt (w : World) (A : Option Addr) (ms : List (Int × T)) : Prop := ms.length = 0 ∨ ∃ b off, A = some ⟨b, off, none⟩ ∧ ∀ i (h : i < ms.length), ∃ A' c', w.cell? ⟨b, off + i * 4, none⟩ = some (.int .i64 ms[i].1) ∧
  w.cell? ⟨b, off + i * 4 + 1, none⟩ = some (.int .i64 ms[i].2.kind) ∧ w.cell? ⟨b, off + i * 4 + 2, none⟩ = some (.string ms[i].2.name) ∧ w.cell? ⟨b, off + i * 4 + 3, none⟩ = some (.slice A' ms[i].2.kids.length c') ∧
  TermAt w (.agg #[.int .i64 ms[i].2.kind, .string ms[i].2.name, .slice A' ms[i].2.kids.length c']) ms[i].2 ∧ -9223372036854775808 ≤ ms[i].1 ∧ ms[i].1 ≤ 9223372036854775807
theorem MovesAt.later {w w' : World} {A : Option Addr} {ms : List (Int × T)} (h : MovesAt w A ms) (hb : Below w.heap.size w w') : MovesAt w' A ms := by
  rcases h with h | ⟨b, off, e, hc⟩
  · exact .inl h
  · refine .inr ⟨b, off, e, fun i hi => ?_⟩
    obtain ⟨A', c', h0, h1, h2, h3, h4, h5⟩ := hc i hi
    exact ⟨A', c', cell_later hb h0, cell_later hb h1, cell_later hb h2, cell_later hb h3, h4.later hb, h5⟩
/-- A box of one cell. -/
def KBox (w : World) (g : Nat) (v : Value) : Prop := w.heap[g]? = some (.cells #[v] 56)
theorem KBox.lt {w : World} {g : Nat} {v : Value} (h : KBox w g v) : g < w.heap.size := (Array.getElem?_eq_some_iff.1 h).1
theorem KBox.cell {w : World} {g : Nat} {v : Value} (h : KBox w g v) : w.cell? ⟨g, 0, none⟩ = some v := by unfold KBox at h; simp [World.cell?, h]
theorem KBox.free {w : World} {g : Nat} {v : Value} (h : KBox w g v) : w.frozen? ⟨g, 0, none⟩ = false := by unfold KBox at h; simp [World.frozen?, h]
theorem KBox.later {w w' : World} {g : Nat} {v : Value} (h : KBox w g v) (hb : Below w.heap.size w w') : KBox w' g v := (hb.block g h.lt).trans h
theorem KBox.grown {w w' : World} {g : Nat} {v : Value} {row : Option Nat} (h : KBox w g v) (hg : w.grownBy w' row) (hr : row ≠ some g) : KBox w' g v := (hg.block g h.lt (fun e => hr e.symm)).trans h
theorem KBox.set {w : World} {g : Nat} {v : Value} (h : KBox w g v) (u : Value) : KBox (w.setCell ⟨g, 0, none⟩ u) g u := by
  unfold KBox at *
  simp [World.setCell, Array.getElem?_modify, h]
/-- What the loop over the moves keeps. -/
def VldAt (w : World) (K : List ByteArray) (wr : World) : Prop :=
  ∃ kv, KBox wr w.heap.size kv ∧ wr.ownsRow (w.heap.size + 1) 9 1 kv K.length (K.map .string) ∧ Below w.heap.size w wr ∧ w.heap.size + 1 ≤ wr.heap.size
theorem VldAt.later {w : World} {K : List ByteArray} {wr wr' : World} (h : VldAt w K wr) (hb : Below wr.heap.size wr wr') : VldAt w K wr' := by
  obtain ⟨kv, h1, h2, h3, h4⟩ := h
  exact ⟨kv, h1.later hb, own_later h2 hb, h3.trans (hb.mono (by omega)), Nat.le_trans h4 hb.size⟩
theorem okMoves_step (K : List ByteArray) (ms : List (Int × T)) (j : Nat) (h : j < ms.length) : okMoves K (ms.drop j) = if (ms[j]).1 < 1 ∨ 4 < (ms[j]).1 then 61 else if (ms[j]).2.isN = false then 76 else if (ms[j]).1 = 2 then okMoves (K ++ (ms[j]).2.vars) (ms.drop (j + 1)) else if ((ms[j]).2.vars.any fun s => !Lib.containsS K s) = true then 70 else okMoves K (ms.drop (j + 1)) := by
  rw [List.drop_eq_getElem_cons h]; rfl

theorem VldAt.put {w wr w8 : World} {K RB : List ByteArray} {kv : Value} {A8 : Option Addr} {n' c8 : Nat} (kb : KBox wr w.heap.size kv) (hlt : ∀ b, kv.ownBlock = some b → w.heap.size + 1 ≤ b ∧ b < wr.heap.size) (hb : Below w.heap.size w wr) (hsz : w.heap.size + 1 ≤ wr.heap.size)
    (hown : w8.ownsRow (w.heap.size + 1) 9 1 (.slice A8 n' c8) n' (K.map .string ++ RB.map .string)) (hn : n' = K.length + RB.length) (hg : wr.grownBy w8 kv.ownBlock) : VldAt w (K ++ RB) (w8.setCell ⟨w.heap.size, 0, none⟩ (.slice A8 n' c8)) := by
  subst hn
  have hgs : w8.grownBy (w8.setCell ⟨w.heap.size, 0, none⟩ (.slice A8 (K.length + RB.length) c8)) (some w.heap.size) :=
    ⟨rfl, rfl, rfl, by simp [World.setCell], fun i _ hn => Below.heap_setCell _ _ _ _ (by show i ≠ w.heap.size; exact fun e => hn (by rw [e]))⟩
  have k8 := kb.grown hg (fun e => by have := (hlt _ e).1; omega)
  refine ⟨_, k8.set _, ?_, ?_, ?_⟩
  · have h := hown.kept hgs (.inr fun e => by have := (hown.lt _ e).1; omega)
    rw [List.length_append, List.map_append]; exact h
  · exact (hb.grown hg (by omega) (fun b h => by have := (hlt b h).1; omega)).setCell (Nat.le_refl _) _
  · have := hg.size; simp [World.setCell]; omega
theorem own_shapeS {w : World} {base : Nat} {e : TypeId} {v : Value} {n : Nat} {xs : List Value} (h : w.ownsRow base e 1 v n xs) : ∃ A c, v = .slice A n c := by
  rcases h.2 with ⟨rfl, rfl⟩ | ⟨g, cap, cur, rfl, _⟩
  · exact ⟨none, 0, rfl⟩
  · exact ⟨_, cap, rfl⟩

set_option maxRecDepth 100000 in
set_option maxHeartbeats 8000000 in
theorem ovalidS (role : ByteArray) (ms : List (Int × T)) (A : Option Addr) (cap : Nat) (w : World) (hr : role.size ≤ maxLen) (hm : MovesAt w A ms) (hbk : ∀ m ∈ ms, m.2.bulk ≤ 1048576) (hl : ms.length ≤ maxLen) :
    Calls Tryz.prog 28 #[.agg #[.string role, .slice A ms.length cap]] w fun e w' => e = .returned (.int .i64 (okStrand role ms)) ∧ Below w.heap.size w w' := by
  unfold maxLen at hl
  obtain ⟨i0, hi0, hz0, hz1, hz2⟩ := info_parts Tryz.infoStr
  have HNM := Lib.hid (fun W => oname role W hr)
  obtain ⟨RES, hRES⟩ : ∃ r, okStrand role ms = r := ⟨_, rfl⟩
  rw [hRES]
  have hw1 := below_alloc1 w (.cells #[.string role, .slice A ms.length cap] 49)
  have HM1 := Lib.hid (hm.later hw1); have HB1 := Lib.hid hw1; have HZ1 := Lib.hid (size_alloc1 w (.cells #[.string role, .slice A ms.length cap] 49))
  have hbx : (w.alloc (.cells #[.string role, .slice A ms.length cap] 49)).heap[w.heap.size]? = some (.cells #[.string role, .slice A ms.length cap] 49) := heap_alloc_new w _
  have x0 : (w.alloc (.cells #[.string role, .slice A ms.length cap] 49)).cell? ⟨w.heap.size, 0, none⟩ = some (.string role) := by unfold World.cell?; rw [hbx]; rfl
  have x1 : (w.alloc (.cells #[.string role, .slice A ms.length cap] 49)).cell? ⟨w.heap.size, 1, none⟩ = some (.slice A ms.length cap) := by unfold World.cell?; rw [hbx]; rfl
  clear hm hw1 hbx
  go_enter Tryz.func28, Tryz.ntmps28
  go_upto_region 1 with fail
  generalize w.alloc (.cells #[.string role, .slice A ms.length cap] 49) = w1 at HM1 HB1 HZ1 x0 x1 ⊢
  go_wp2_with fail
  refine (HNM.out _).mono ?_; rintro e w2 ⟨rfl, rfl⟩
  by_cases hnm : T.isName role = false
  · have HR := Lib.hid (show (60 : Int) = RES by rw [← hRES]; unfold okStrand; rw [if_pos hnm])
    rw [hnm]
    clear hRES
    go_wp2_with fail
    go_ret
    exact ⟨ret_i64 HR.out, HB1.out⟩
  have hnm' : T.isName role = true := by simpa using hnm
  rw [hnm']
  unfold okStrand at hRES
  rw [if_neg hnm] at hRES
  by_cases hln : ms.length < 1 ∨ 16 < ms.length
  · have HR := Lib.hid (show (72 : Int) = RES by rw [← hRES, if_pos hln])
    clear hRES
    rcases hln with h | h
    · have h' : (ms.length : Int) < 1 := by omega
      go_wp2_with fail
      go_ret
      exact ⟨ret_i64 HR.out, HB1.out⟩
    · have h' : ¬ (ms.length : Int) < 1 := by omega
      have h'' : (16 : Int) < (ms.length : Int) := by omega
      go_wp2_with fail
      go_ret
      exact ⟨ret_i64 HR.out, HB1.out⟩
  rw [if_neg hln] at hRES
  have h1 : (1 : Int) ≤ (ms.length : Int) := by omega
  have h2 : (ms.length : Int) ≤ 16 := by omega
  have HRES := Lib.hid hRES
  clear hRES hnm hnm' hr
  have x1' := cell_later (below_alloc1 w1 (.cells #[.slice none 0 0] 56)) x1
  have hst : VldAt w1 [] (w1.alloc (.cells #[.slice none 0 0] 56)) := ⟨_, heap_alloc_new w1 _, World.ownsRow_nil _ _ _ _, below_alloc1 w1 _, by rw [size_alloc1]; omega⟩
  have HST := Lib.hid hst
  clear hst
  go_upto_region 6 with fail
  generalize w1.alloc (.cells #[.slice none 0 0] 56) = w2 at x1' HST ⊢
  go_wp2_with fail
  clear x0 x1 x1'
  go_loopw [24] (fun i wr => ∃ (j : Nat) (K : List ByteArray), j ≤ ms.length ∧ i = .int .i64 j ∧ VldAt w1 K wr ∧ okMoves K (ms.drop j) = RES ∧ K.length ≤ j * 1048576) (fun i _ => ms.length - (intOf i).toNat)
  case atStart => exact ⟨0, [], Nat.zero_le _, rfl, HST.out, by simpa using HRES.out, by simp⟩
  case round =>
    obtain ⟨j, K, hj, rfl, hv, hok, hkl⟩ := hrel
    by_cases hlt : j < ms.length
    · rw [okMoves_step K ms j hlt] at hok
      rcases HM1.out with h0 | ⟨b, off, rfl, hc⟩
      · omega
      obtain ⟨A', c', d0, d1, d2, d3, htm, hk1, hk2⟩ := hc j hlt
      have hbkj := hbk _ (List.getElem_mem hlt)
      obtain ⟨k, hk⟩ : ∃ k, (ms[j]'hlt).1 = k := ⟨_, rfl⟩
      obtain ⟨t, ht⟩ : ∃ t, (ms[j]'hlt).2 = t := ⟨_, rfl⟩
      rw [hk] at hok d0 hk1 hk2
      rw [ht] at hok d1 d2 d3 htm hbkj
      have hbw : Below w1.heap.size w1 wr := by obtain ⟨_, _, _, h, _⟩ := hv; exact h
      have e0 := cell_later hbw d0; have e1 := cell_later hbw d1; have e2 := cell_later hbw d2; have e3 := cell_later hbw d3
      have hi : (j : Int) < (ms.length : Int) := by omega
      have HLT := Lib.hid hlt; have HOK := Lib.hid hok; have HKL := Lib.hid hkl
      have hw4 := below_alloc1 wr (.cells #[.int .i64 k, .int .i64 t.kind, .string t.name, .slice A' t.kids.length c'] 52)
      have hnw := heap_alloc_new wr (.cells #[.int .i64 k, .int .i64 t.kind, .string t.name, .slice A' t.kids.length c'] 52)
      have HV := Lib.hid (hv.later hw4)
      have HT := Lib.hid ((htm.later hbw).later hw4)
      have HBK := Lib.hid hbkj
      clear d0 d1 d2 d3 hc hok hkl hv htm hbw hk ht hbkj hw4
      go_upto_region 9 with fail
      obtain ⟨g5, hg5⟩ : ∃ g5, wr.heap.size = g5 := ⟨_, rfl⟩
      rw [hg5] at hnw ⊢
      generalize wr.alloc (.cells #[.int .i64 k, .int .i64 t.kind, .string t.name, .slice A' t.kids.length c'] 52) = wq at hnw HV HT ⊢
      have y0 : wq.cell? ⟨g5, 0, none⟩ = some (.int .i64 k) := by unfold World.cell?; rw [hnw]; rfl
      have y1 : wq.cell? ⟨g5, 1, none⟩ = some (.int .i64 t.kind) := by unfold World.cell?; rw [hnw]; rfl
      have y2 : wq.cell? ⟨g5, 2, none⟩ = some (.string t.name) := by unfold World.cell?; rw [hnw]; rfl
      have y3 : wq.cell? ⟨g5, 3, none⟩ = some (.slice A' t.kids.length c') := by unfold World.cell?; rw [hnw]; rfl
      clear e0 e1 e2 e3 hnw hg5
      have hbv : Below w1.heap.size w1 wq := by obtain ⟨_, _, _, h, _⟩ := HV.out; exact h
      have HBV := Lib.hid (HB1.out.trans (hbv.mono HB1.out.size))
      clear hbv
      have hok := HOK.out
      by_cases hkk : k < 1 ∨ 4 < k
      · rw [if_pos hkk] at hok
        have HR := Lib.hid (show (61 : Int) = RES from hok)
        clear hok
        rcases hkk with h | h
        · go_wp2_with fail
          go_ret
          exact ⟨ret_i64 HR.out, HBV.out⟩
        · have h' : ¬ k < 1 := by omega
          go_wp2_with fail
          go_ret
          exact ⟨ret_i64 HR.out, HBV.out⟩
      rw [if_neg hkk] at hok
      have h3 : 1 ≤ k := by omega
      have h4 : k ≤ 4 := by omega
      have HN := Lib.hid (fun W hW => oisn t (.agg #[.int .i64 t.kind, .string t.name, .slice A' t.kids.length c']) W hW HBK.out)
      have HVR := Lib.hid (fun W hW => ovars t (.agg #[.int .i64 t.kind, .string t.name, .slice A' t.kids.length c']) W hW HBK.out)
      generalize t.kind = tk at y1 HT HN HVR ⊢
      generalize t.name = tn at y2 HT HN HVR ⊢
      generalize t.kids.length = tl at y3 HT HN HVR ⊢
      clear hkk
      go_wp2_with fail
      refine (HN.out _ HT.out).mono ?_; rintro e w5 ⟨rfl, hb5⟩
      have HV5 := Lib.hid (HV.out.later hb5); have HT5 := Lib.hid (HT.out.later hb5); have HBV5 := Lib.hid (HBV.out.trans (hb5.mono HBV.out.size))
      have z0 := cell_later hb5 y0; have z1 := cell_later hb5 y1; have z2 := cell_later hb5 y2; have z3 := cell_later hb5 y3
      clear y0 y1 y2 y3 hb5
      by_cases hin : t.isN = false
      · rw [if_pos hin] at hok
        have HR := Lib.hid (show (76 : Int) = RES from hok)
        rw [hin]
        clear hok
        go_wp2_with fail
        go_ret
        exact ⟨ret_i64 HR.out, HBV5.out⟩
      rw [if_neg hin] at hok
      have hin' : t.isN = true := by simpa using hin
      rw [hin']
      have HOK2 := Lib.hid hok
      clear hok hin hin'
      go_wp2_with fail
      refine (HVR.out _ HT5.out).mono ?_; rintro e w6 ⟨A6, c6, R6, rfl, hs6, hb6, hm6, hl6, hc6, hA6⟩
      have HV6 := Lib.hid (HV5.out.later hb6); have HBV6 := Lib.hid (HBV5.out.trans (hb6.mono HBV5.out.size))
      have q0 := cell_later hb6 z0
      obtain ⟨RB, hRB⟩ : ∃ RB : List ByteArray, RB = R6.map (fun l => ⟨l.toArray⟩) := ⟨_, rfl⟩
      have hRl : RB.length = R6.length := by rw [hRB, List.length_map]
      have HTX := Lib.hid (show TextsAt w6 A6 RB by unfold TextsAt; rw [hRl, hRB, List.map_map]; exact hs6)
      have hmem : ∀ x, x ∈ RB ↔ x ∈ t.vars := fun x => by
        rw [← hm6 x, hRB, List.mem_map]
        constructor
        · rintro ⟨l, hl, rfl⟩; simpa using hl
        · intro h; exact ⟨_, h, (str_of x).symm⟩
      have HMEM := Lib.hid hmem
      have HRL := Lib.hid (show RB.length ≤ 1048576 by omega)
      have HA6 := Lib.hid hA6
      rw [← hRl]
      clear hs6 hb6 hm6 hl6 hc6 hA6 hRB hRl z0 z1 z2 z3 hmem
      by_cases k2 : k = 2
      · subst k2
        have hok := HOK2.out
        rw [if_pos rfl] at hok
        have HOK3 := Lib.hid (show okMoves (K ++ RB) (ms.drop (j + 1)) = RES by rw [← hok]; exact okMoves_congr _ (fun x => by rw [List.mem_append, List.mem_append, HMEM.out x]))
        obtain ⟨kv, kb, hown, hbw, hsz⟩ := HV6.out
        have kc := kb.cell; have kf := kb.free
        have hklen : K.length ≤ 17825792 := by have := HKL.out; have := HLT.out; omega
        have HONE := Lib.hid (show ∀ u ∈ RB.map Value.string, u.oneCell' = true from fun u hu => by obtain ⟨b, _, rfl⟩ := List.mem_map.1 hu; rfl)
        have HOWN := Lib.hid hown; have HKB := Lib.hid kb; have HBW := Lib.hid hbw; have HSZ := Lib.hid hsz
        have HLTB := Lib.hid (show ∀ b, kv.ownBlock = some b → w1.heap.size + 1 ≤ b ∧ b < w6.heap.size from hown.lt)
        clear hok hown kb hbw hsz
        have HCL := Lib.hid (show ∀ w8 : World, w6.grownBy w8 kv.ownBlock → KBox w8 w1.heap.size kv from fun w8 hg => HKB.out.grown hg (fun e => by have := (HLTB.out _ e).1; omega))
        go_wp2_with (at_builtin; refine wpList_append_src _ rfl _ _ 56 rfl (w1.heap.size + 1) 9 i0 _ 1 16 Tryz.underlying56 hi0 hz0 hz1 hz2 rfl (by omega) _ _ _ rfl HOWN.out _ RB.length _ (RB.map .string) rfl HTX.out HONE.out (by have := HRL.out; unfold maxLen; omega) (by have := HRL.out; omega) HSZ.out ?_; intro A8 c8 w8 hown8 hg8 hat8; have kb8 := HCL.out w8 hg8; have kc8 := kb8.cell; have kf8 := kb8.free)
        have hfin := VldAt.put HKB.out HLTB.out HBW.out HSZ.out hown8 rfl hg8
        have HFIN := Lib.hid hfin
        clear hown8 hg8 hat8 kb8 kc8 kf8 hfin kc kf q0
        go_roundw
        case rel => exact ⟨j + 1, K ++ RB, HLT.out, by go_num, HFIN.out, HOK3.out, by have := HKL.out; have := HRL.out; rw [List.length_append]; omega⟩
        case measure => have := HLT.out; simp [intOf]; omega
      · have k2' : (k == 2) = false := by rw [beq_eq_false_iff_ne]; exact k2
        have hok := HOK2.out
        rw [if_neg k2] at hok
        obtain ⟨kv, kb, hown, hbw, hsz⟩ := HV6.out
        obtain ⟨AK, cK, rfl⟩ := own_shapeS hown
        have kc := kb.cell
        have hany : (RB.any fun s => !Lib.containsS K s) = (t.vars.any fun s => !Lib.containsS K s) := by
          rw [Bool.eq_iff_iff, List.any_eq_true, List.any_eq_true]
          constructor
          · rintro ⟨x, hx, h⟩; exact ⟨x, (HMEM.out x).1 hx, h⟩
          · rintro ⟨x, hx, h⟩; exact ⟨x, (HMEM.out x).2 hx, h⟩
        rw [← hany] at hok
        have HCF := Lib.hid (contains_unknown K AK cK w1.heap.size RB A6 c6 w6 (by have := HKL.out; have := HLT.out; omega) kc (Src.of_own hown) (by have := HRL.out; omega) HTX.out)
        generalize (RB.any fun s => !Lib.containsS K s) = q at hok HCF
        have HOK3 := Lib.hid hok
        clear hok hany kb hown hbw hsz kc
        go_wp2_with fail
        refine HCF.out.mono ?_; rintro e w7 ⟨rfl, rfl⟩
        cases q
        · have HOK4 := Lib.hid (show okMoves K (ms.drop (j + 1)) = RES by have h := HOK3.out; rw [if_neg (by decide)] at h; exact h)
          go_wp2_with fail
          go_roundw
          case rel => exact ⟨j + 1, K, HLT.out, by go_num, HV6.out, HOK4.out, Nat.le_trans HKL.out (Nat.mul_le_mul_right _ (Nat.le_succ j))⟩
          case measure => have := HLT.out; simp [intOf]; omega
        · have HR := Lib.hid (show (70 : Int) = RES by have h := HOK3.out; rw [if_pos rfl] at h; exact h)
          go_wp2_with fail
          go_ret
          exact ⟨ret_i64 HR.out, HBV6.out⟩
    · obtain rfl : j = ms.length := by omega
      rw [List.drop_length] at hok
      have HR := Lib.hid (show (0 : Int) = RES from hok)
      have hbw : Below w1.heap.size w1 wr := by obtain ⟨_, _, _, h, _⟩ := hv; exact h
      have HBW := Lib.hid (HB1.out.trans (hbw.mono HB1.out.size))
      clear hv hok hbw
      go_wp2_with fail
      go_ret
      exact ⟨ret_i64 HR.out, HBW.out⟩
end Go.Proofs.YtihbmgkbipeakaaGreat
