/- Several texts in one: StrGather, WebAt, TermWrite, TermWrite2. -/
import Derived.Test.YtihbmgkbipeakaaGreatWebG5
import Derived.Test.YtihbmgkbipeakaaGreatWebG3
import Derived.Maps.OwnSet
import Derived.Maps.Views
namespace Go.Proofs.YtihbmgkbipeakaaGreat
open Go.RowKit

namespace T
mutual
/-- The names of a term's variables, in the order in which they occur. -/
def vars : T → List ByteArray
  | .mk k s ks => (if k = 2 then [s] else []) ++ varsAll ks
def varsAll : List T → List ByteArray
  | [] => []
  | t :: r => vars t ++ varsAll r
end
mutual
theorem vars_len : ∀ t : T, t.vars.length ≤ t.bulk
  | .mk k s ks => by
    have := varsAll_len ks
    simp only [vars, bulk, List.length_append]
    split <;> simp <;> omega
theorem varsAll_len : ∀ l : List T, (varsAll l).length ≤ bulkAll l
  | [] => by simp [varsAll, bulkAll]
  | t :: r => by have := vars_len t; have := varsAll_len r; simp only [varsAll, bulkAll, List.length_append]; omega
end
theorem varsAll_take (l : List T) : ∀ (i : Nat) (h : i < l.length), varsAll (l.take (i + 1)) = varsAll (l.take i) ++ l[i].vars := by
  induction l with
  | nil => intro i h; simp at h
  | cons t r ih =>
    intro i h
    cases i with
    | zero => simp [varsAll]
    | succ i => simp only [List.take_succ_cons, varsAll, List.getElem_cons_succ]; rw [ih i (by simpa using h), List.append_assoc]
theorem bulkAll_succ (l : List T) : ∀ (i : Nat) (h : i < l.length), bulkAll (l.take i) + l[i].bulk ≤ bulkAll l := by
  induction l with
  | nil => intro i h; simp at h
  | cons t r ih =>
    intro i h
    cases i with
    | zero => simp only [List.take_zero, bulkAll, List.getElem_cons_zero]; omega
    | succ i => have := ih i (by simpa using h); simp only [List.take_succ_cons, bulkAll, List.getElem_cons_succ]; omega
end T
/-- Blocks below B. -/
def under (B : Nat) : Nat → Bool := fun b => decide (b < B)
/-- A term as it is reached lies in the memory that is there. -/
theorem TermAt.under_ {w : World} {v : Value} {t : T} (h : TermAt w v t) : TermIn (under w.heap.size) w v t :=
  TermAt.keep h fun p hp => by
    rw [cell_only]
    obtain ⟨u, hu⟩ := Option.isSome_iff_exists.1 hp
    rw [if_pos (show under w.heap.size p.block = true from decide_eq_true (World.block_lt_of_cell? w p hu))]
theorem TermIn.below_ {B : Nat} {w w' : World} {v : Value} {t : T} (h : TermIn (under B) w v t) (hb : Below B w w') : TermIn (under B) w' v t :=
  h.keep fun b hb' _ => ⟨hb', hb.block b (of_decide_eq_true hb')⟩
/-- A kid's cells, below B. -/
theorem TermIn.cells {B : Nat} {w : World} {A : Option Addr} {ks : List T} {U : Nat → Value × Value × Value} {i : Nat} (h : i < ks.length)
    (hA : ks.length = 0 ∨ ∃ b off, A = some ⟨b, off, none⟩ ∧ ∀ i, i < ks.length → (only w (under B)).cell? ⟨b, off + i * 3, none⟩ = some (U i).1 ∧ (only w (under B)).cell? ⟨b, off + i * 3 + 1, none⟩ = some (U i).2.1 ∧ (only w (under B)).cell? ⟨b, off + i * 3 + 2, none⟩ = some (U i).2.2)
    (hU : ∀ i (h : i < ks.length), TermAt (only w (under B)) (.agg #[(U i).1, (U i).2.1, (U i).2.2]) ks[i]) :
    ∃ b off A' cap', b < B ∧ A = some ⟨b, off, none⟩ ∧ w.cell? ⟨b, off + i * 3, none⟩ = some (.int .i64 ks[i].kind) ∧ w.cell? ⟨b, off + i * 3 + 1, none⟩ = some (.string ks[i].name) ∧
      w.cell? ⟨b, off + i * 3 + 2, none⟩ = some (.slice A' ks[i].kids.length cap') ∧ TermIn (under B) w (.agg #[.int .i64 ks[i].kind, .string ks[i].name, .slice A' ks[i].kids.length cap']) ks[i] := by
  obtain ⟨b, off, A', cap', e, c0, c1, c2, hu⟩ := TermAt.cells h hA hU
  have key : ∀ {q : Addr} {v : Value}, (only w (under B)).cell? q = some v → q.block < B ∧ w.cell? q = some v := fun {q v} hq => by
    rw [cell_only] at hq
    split at hq
    · rename_i hS; exact ⟨of_decide_eq_true hS, hq⟩
    · cases hq
  exact ⟨b, off, A', cap', (key c0).1, e, (key c0).2, (key c1).2, (key c2).2, hu⟩
theorem cell_below {B : Nat} {w w' : World} {b o : Nat} {v : Value} (h : Below B w w') (hb : b < B) (hc : w.cell? ⟨b, o, none⟩ = some v) : w'.cell? ⟨b, o, none⟩ = some v := (h.cell (p := ⟨b, o, none⟩) hb).trans hc
theorem Tryz.infoStr : (Tryz.prog.info? 9).map (fun i => (i.zero, i.size, i.bytes)) = some (some (.string ByteArray.empty), 1, 16) := by kernel_rfl

theorem Src.one_str (w : World) (s : ByteArray) : Src (w.alloc (.cells #[.string s] 9)) 1 (some ⟨w.heap.size, 0, none⟩) 1 [.string s] := by
  refine ⟨rfl, .inr ⟨_, 0, rfl, fun j u hu => ?_⟩⟩
  rw [Nat.zero_add]
  match j, hu with
  | 0, hu =>
    have h := heap_alloc_new w (.cells #[.string s] 9)
    have e : (w.alloc (.cells #[.string s] 9)).cell? ⟨w.heap.size, 0, none⟩ = some (.string s) := by unfold World.cell?; rw [h]; rfl
    exact e.trans hu

set_option maxRecDepth 100000 in
set_option maxHeartbeats 8000000 in
theorem gather_ok : ∀ (N : Nat) (t : T) (v : Value) (w : World) (base : Nat) (lv : Value) (L : List ByteArray), t.bulk < N → TermIn (under base) w v t → t.bulk ≤ 1048576 →
    w.ownsRow base 9 1 lv L.length (L.map .string) → L.length + t.bulk ≤ 4194304 → base ≤ w.heap.size →
    Calls Tryz.prog 107 #[lv, v] w fun e w' => ∃ lv', e = .returned lv' ∧ w'.ownsRow base 9 1 lv' (L ++ t.vars).length ((L ++ t.vars).map .string) ∧ Below base w w' := by
  intro N
  induction N with
  | zero => intro t v w base lv L h; omega
  | succ N ih =>
    intro t v w base lv L hN ht hbk hown hLb hbase
    cases ht with
    | mk k s A cap ks U h1 h2 h3 h4 hA hU =>
      simp only [T.bulk] at hN hbk hLb
      have hkn : ks.length ≤ 262144 := by have := T.len_le ks; omega
      obtain ⟨i0, hi0, hz0, hz1, hz2⟩ := info_parts Tryz.infoStr
      have hbx := boxed_new w (.int .i64 k) (.string s) (.slice A ks.length cap) 29
      have hb1 := below_alloc1 w (.cells #[.int .i64 k, .string s, .slice A ks.length cap] 29)
      have HA := Lib.hid hA; have HU := Lib.hid hU; have IH := Lib.hid ih
      have HLT := Lib.hid (show ∀ b, lv.ownBlock = some b → base ≤ b ∧ b < w.heap.size from hown.lt)
      have HLT := Lib.hid (show ∀ b, lv.ownBlock = some b → base ≤ b ∧ b < w.heap.size from hown.lt)
      have HLT := Lib.hid (show ∀ b, lv.ownBlock = some b → base ≤ b ∧ b < w.heap.size from hown.lt)
      have HLT := Lib.hid (show ∀ b, lv.ownBlock = some b → base ≤ b ∧ b < w.heap.size from hown.lt)
      have HLT := Lib.hid (show ∀ b, lv.ownBlock = some b → base ≤ b ∧ b < w.heap.size from hown.lt)
      have HLT := Lib.hid (show ∀ b, lv.ownBlock = some b → base ≤ b ∧ b < w.heap.size from hown.lt)
      have HLT := Lib.hid (show ∀ b, lv.ownBlock = some b → base ≤ b ∧ b < w.heap.size from hown.lt)
      have HLT := Lib.hid (show ∀ b, lv.ownBlock = some b → base ≤ b ∧ b < w.heap.size from hown.lt)
      have HOWN := Lib.hid (own_later hown hb1); have HB1 := Lib.hid (hb1.mono hbase)
      have HBS := Lib.hid (show base ≤ (w.alloc (.cells #[.int .i64 k, .string s, .slice A ks.length cap] 29)).heap.size by rw [size_alloc1]; omega)
      clear hA hU ih hown
      go_enter Tryz.func107, Tryz.ntmps107
      go_upto_region 1 with fail
      generalize w.alloc (.cells #[.int .i64 k, .string s, .slice A ks.length cap] 29) = w1 at hbx hb1 HOWN HB1 HBS ⊢
      obtain ⟨x0, x1, x2⟩ := hbx
      have HNB := Lib.hid (show lv.ownBlock ≠ some w.heap.size from fun e => by have := (HLT.out _ e).2; omega)
      have hq : ∃ L0 : List ByteArray, L0 = L ++ (if k = 2 then [s] else []) := ⟨_, rfl⟩
      obtain ⟨L0, hL0⟩ := hq
      have HL0 := Lib.hid hL0
      have hb0 : L0.length + T.bulkAll ks ≤ 4194304 := by rw [hL0]; split <;> simp <;> omega
      have HLB := Lib.hid hb0
      clear hb0
      have HNB := Lib.hid (show lv.ownBlock ≠ some w.heap.size from fun e => by have := (HLT.out _ e).2; omega)
      have hq : ∃ L0 : List ByteArray, L0 = L ++ (if k = 2 then [s] else []) := ⟨_, rfl⟩
      obtain ⟨L0, hL0⟩ := hq
      have HL0 := Lib.hid hL0
      have hb0 : L0.length + T.bulkAll ks ≤ 4194304 := by rw [hL0]; split <;> simp <;> omega
      have HLB := Lib.hid hb0
      clear hb0
      have HNB := Lib.hid (show lv.ownBlock ≠ some w.heap.size from fun e => by have := (HLT.out _ e).2; omega)
      have hq : ∃ L0 : List ByteArray, L0 = L ++ (if k = 2 then [s] else []) := ⟨_, rfl⟩
      obtain ⟨L0, hL0⟩ := hq
      have HL0 := Lib.hid hL0
      have hb0 : L0.length + T.bulkAll ks ≤ 4194304 := by rw [hL0]; split <;> simp <;> omega
      have HLB := Lib.hid hb0
      clear hb0
      have HNB := Lib.hid (show lv.ownBlock ≠ some w.heap.size from fun e => by have := (HLT.out _ e).2; omega)
      have hq : ∃ L0 : List ByteArray, L0 = L ++ (if k = 2 then [s] else []) := ⟨_, rfl⟩
      obtain ⟨L0, hL0⟩ := hq
      have HL0 := Lib.hid hL0
      have hb0 : L0.length + T.bulkAll ks ≤ 4194304 := by rw [hL0]; split <;> simp <;> omega
      have HLB := Lib.hid hb0
      clear hb0
      have HNB := Lib.hid (show lv.ownBlock ≠ some w.heap.size from fun e => by have := (HLT.out _ e).2; omega)
      have hq : ∃ L0 : List ByteArray, L0 = L ++ (if k = 2 then [s] else []) := ⟨_, rfl⟩
      obtain ⟨L0, hL0⟩ := hq
      have HL0 := Lib.hid hL0
      have hb0 : L0.length + T.bulkAll ks ≤ 4194304 := by rw [hL0]; split <;> simp <;> omega
      have HLB := Lib.hid hb0
      clear hb0
      have HNB := Lib.hid (show lv.ownBlock ≠ some w.heap.size from fun e => by have := (HLT.out _ e).2; omega)
      have hq : ∃ L0 : List ByteArray, L0 = L ++ (if k = 2 then [s] else []) := ⟨_, rfl⟩
      obtain ⟨L0, hL0⟩ := hq
      have HL0 := Lib.hid hL0
      have hb0 : L0.length + T.bulkAll ks ≤ 4194304 := by rw [hL0]; split <;> simp <;> omega
      have HLB := Lib.hid hb0
      clear hb0
      have HNB := Lib.hid (show lv.ownBlock ≠ some w.heap.size from fun e => by have := (HLT.out _ e).2; omega)
      have hq : ∃ L0 : List ByteArray, L0 = L ++ (if k = 2 then [s] else []) := ⟨_, rfl⟩
      obtain ⟨L0, hL0⟩ := hq
      have HL0 := Lib.hid hL0
      have hb0 : L0.length + T.bulkAll ks ≤ 4194304 := by rw [hL0]; split <;> simp <;> omega
      have HLB := Lib.hid hb0
      clear hb0
      have HNB := Lib.hid (show lv.ownBlock ≠ some w.heap.size from fun e => by have := (HLT.out _ e).2; omega)
      have hq : ∃ L0 : List ByteArray, L0 = L ++ (if k = 2 then [s] else []) := ⟨_, rfl⟩
      obtain ⟨L0, hL0⟩ := hq
      have HL0 := Lib.hid hL0
      have hb0 : L0.length + T.bulkAll ks ≤ 4194304 := by rw [hL0]; split <;> simp <;> omega
      have HLB := Lib.hid hb0
      clear hb0
      by_cases k2 : k = 2
      · subst k2
        have HL1 := Lib.hid (show L0 = L ++ [s] by rw [hL0, if_pos rfl])
        clear hL0
        have hwa := below_alloc1 w1 (.cells #[.string s] 9)
        have y2 := cell_later hwa x2
        have hl1 := hwa.size
        have HONE := Lib.hid (show ∀ u ∈ [Value.string s], u.oneCell' = true from fun u hu => by rw [List.mem_singleton] at hu; subst hu; rfl)
        go_wp2_with (at_builtin; refine wpList_append_src _ rfl _ _ 56 rfl base 9 i0 _ 1 16 Tryz.underlying56 hi0 hz0 hz1 hz2 rfl (by omega) _ _ _ rfl (own_later HOWN.out hwa) _ 1 1 [.string s] rfl (Src.one_str _ _) HONE.out (by unfold maxLen; omega) (by omega) (by have := HBS.out; omega) ?_; intro A8 c8 w8 hown8 hg8 hat8; have hz8 := hg8.cell y2 (fun e => HNB.out e.symm))
        have hown9 : w8.ownsRow base 9 1 (.slice A8 (L.length + 1) c8) L0.length (L0.map .string) := by
          rw [HL1.out]; simpa using hown8
        have hbw : Below base w w8 := (HB1.out.trans (hwa.mono HBS.out)).grown hg8 (by have := HBS.out; omega) (fun b hb => (HLT.out _ hb).1)
        have hbs : base ≤ w8.heap.size := by have := hg8.size; have := HBS.out; omega
        clear hown8 hg8 hat8 hwa hl1 x0 x1 x2 y2
        generalize Value.slice A8 (L.length + 1) c8 = lv0 at hown9 ⊢
        have HO := Lib.hid hown9; have HBW := Lib.hid hbw; have HSB := Lib.hid hbs
        clear hown9 hbw hbs
        go_loopw [18, 0] (fun i l wr => ∃ j : Nat, j ≤ ks.length ∧ i = .int .i64 j ∧ wr.ownsRow base 9 1 l (L0 ++ T.varsAll (ks.take j)).length ((L0 ++ T.varsAll (ks.take j)).map .string) ∧ Below base w wr ∧ base ≤ wr.heap.size) (fun i _ _ => ks.length - (intOf i).toNat)
        case atStart => exact ⟨0, Nat.zero_le _, rfl, by simpa [T.varsAll] using HO.out, HBW.out, HSB.out⟩
        case round =>
          obtain ⟨j, hj, rfl, hown, hbw, hbs⟩ := hrel
          by_cases hlt : j < ks.length
          · obtain ⟨b, off, B1, C1, hbB, rfl, d0, d1, d2, hu⟩ := TermIn.cells hlt HA.out HU.out
            have e0 := cell_below hbw hbB d0; have e1 := cell_below hbw hbB d1; have e2 := cell_below hbw hbB d2
            have hi : (j : Int) < (ks.length : Int) := by omega
            have hw2 := below_alloc1 wr (.cells #[.int .i64 ks[j].kind, .string ks[j].name, .slice B1 ks[j].kids.length C1] 29)
            have HU2 := Lib.hid ((hu.below_ hbw).below_ (hw2.mono hbs))
            have HOWN2 := Lib.hid (own_later hown hw2)
            have HBW2 := Lib.hid (hbw.trans (hw2.mono hbs))
            have HBS2 := Lib.hid (show base ≤ (wr.alloc (.cells #[.int .i64 ks[j].kind, .string ks[j].name, .slice B1 ks[j].kids.length C1] 29)).heap.size by rw [size_alloc1]; omega)
            have HB2 := Lib.hid (show ks[j].bulk < N ∧ ks[j].bulk ≤ 1048576 ∧ (L0 ++ T.varsAll (ks.take j)).length + ks[j].bulk ≤ 4194304 by
              have h1 := T.bulkAll_succ ks j hlt; have h2 := T.varsAll_len (ks.take j); have h3 := HLB.out
              rw [List.length_append]; omega)
            have HTK := Lib.hid (show L0 ++ T.varsAll (ks.take j) ++ ks[j].vars = L0 ++ T.varsAll (ks.take (j + 1)) by rw [T.varsAll_take ks j hlt, List.append_assoc])
            have HLT2 := Lib.hid hlt
            clear d0 d1 d2 hu hw2 hown hbw hbs hj
            go_wp2_with fail
            refine (IH.out _ _ _ base _ _ HB2.out.1 HU2.out HB2.out.2.1 HOWN2.out HB2.out.2.2 HBS2.out).mono ?_; rintro e w5 ⟨l5, rfl, hown5, hb5⟩
            rw [HTK.out] at hown5
            have HO5 := Lib.hid hown5; have HB5 := Lib.hid (HBW2.out.trans hb5); have HS5 := Lib.hid (Nat.le_trans HBS2.out (show _ ≤ w5.heap.size from hb5.size))
            clear hown5 hb5 e0 e1 e2
            go_wp2_with fail
            go_roundw
            case rel => exact ⟨j + 1, HLT2.out, by go_num, HO5.out, HB5.out, HS5.out⟩
            case measure => have := HLT2.out; simp [intOf]; omega
          · obtain rfl : j = ks.length := by omega
            rw [List.take_of_length_le (Nat.le_refl _)] at hown
            have HRES := Lib.hid (show L0 ++ T.varsAll ks = L ++ (T.mk 2 s ks).vars by rw [HL0.out]; simp [T.vars])
            have HOX := Lib.hid hown; have HBX := Lib.hid hbw
            clear hown hbw hbs
            go_wp2_with fail
            go_ret
            refine ⟨_, rfl, ?_, HBX.out⟩
            rw [← HRES.out]; exact HOX.out
      · have hL1 : L0 = L := by rw [hL0, if_neg k2, List.append_nil]
        have k2' : (k == 2) = false := by rw [beq_eq_false_iff_ne]; exact k2
        have hown9 : w1.ownsRow base 9 1 lv L0.length (L0.map .string) := by rw [hL1]; exact HOWN.out
        have HO := Lib.hid hown9; have HBW := HB1; have HSB := HBS
        clear hown9 hL0 hL1 k2
        go_wp2_with fail
        go_loopw [18, 0] (fun i l wr => ∃ j : Nat, j ≤ ks.length ∧ i = .int .i64 j ∧ wr.ownsRow base 9 1 l (L0 ++ T.varsAll (ks.take j)).length ((L0 ++ T.varsAll (ks.take j)).map .string) ∧ Below base w wr ∧ base ≤ wr.heap.size) (fun i _ _ => ks.length - (intOf i).toNat)
        case atStart => exact ⟨0, Nat.zero_le _, rfl, by simpa [T.varsAll] using HO.out, HBW.out, HSB.out⟩
        case round =>
          obtain ⟨j, hj, rfl, hown, hbw, hbs⟩ := hrel
          by_cases hlt : j < ks.length
          · obtain ⟨b, off, B1, C1, hbB, rfl, d0, d1, d2, hu⟩ := TermIn.cells hlt HA.out HU.out
            have e0 := cell_below hbw hbB d0; have e1 := cell_below hbw hbB d1; have e2 := cell_below hbw hbB d2
            have hi : (j : Int) < (ks.length : Int) := by omega
            have hw2 := below_alloc1 wr (.cells #[.int .i64 ks[j].kind, .string ks[j].name, .slice B1 ks[j].kids.length C1] 29)
            have HU2 := Lib.hid ((hu.below_ hbw).below_ (hw2.mono hbs))
            have HOWN2 := Lib.hid (own_later hown hw2)
            have HBW2 := Lib.hid (hbw.trans (hw2.mono hbs))
            have HBS2 := Lib.hid (show base ≤ (wr.alloc (.cells #[.int .i64 ks[j].kind, .string ks[j].name, .slice B1 ks[j].kids.length C1] 29)).heap.size by rw [size_alloc1]; omega)
            have HB2 := Lib.hid (show ks[j].bulk < N ∧ ks[j].bulk ≤ 1048576 ∧ (L0 ++ T.varsAll (ks.take j)).length + ks[j].bulk ≤ 4194304 by
              have h1 := T.bulkAll_succ ks j hlt; have h2 := T.varsAll_len (ks.take j); have h3 := HLB.out
              rw [List.length_append]; omega)
            have HTK := Lib.hid (show L0 ++ T.varsAll (ks.take j) ++ ks[j].vars = L0 ++ T.varsAll (ks.take (j + 1)) by rw [T.varsAll_take ks j hlt, List.append_assoc])
            have HLT2 := Lib.hid hlt
            clear d0 d1 d2 hu hw2 hown hbw hbs hj
            go_wp2_with fail
            refine (IH.out _ _ _ base _ _ HB2.out.1 HU2.out HB2.out.2.1 HOWN2.out HB2.out.2.2 HBS2.out).mono ?_; rintro e w5 ⟨l5, rfl, hown5, hb5⟩
            rw [HTK.out] at hown5
            have HO5 := Lib.hid hown5; have HB5 := Lib.hid (HBW2.out.trans hb5); have HS5 := Lib.hid (Nat.le_trans HBS2.out (show _ ≤ w5.heap.size from hb5.size))
            clear hown5 hb5 e0 e1 e2
            go_wp2_with fail
            go_roundw
            case rel => exact ⟨j + 1, HLT2.out, by go_num, HO5.out, HB5.out, HS5.out⟩
            case measure => have := HLT2.out; simp [intOf]; omega
          · obtain rfl : j = ks.length := by omega
            rw [List.take_of_length_le (Nat.le_refl _)] at hown
            have HRES := Lib.hid (show L0 ++ T.varsAll ks = L ++ (T.mk k s ks).vars by rw [HL0.out]; simp [T.vars])
            have HOX := Lib.hid hown; have HBX := Lib.hid hbw
            clear hown hbw hbs
            go_wp2_with fail
            go_ret
            refine ⟨_, rfl, ?_, HBX.out⟩
            rw [← HRES.out]; exact HOX.out
end Go.Proofs.YtihbmgkbipeakaaGreat

namespace Go.Proofs.YtihbmgkbipeakaaGreat
open Go.RowKit

/-- The place of a text among the steps. -/
def findK (W : List Stp) (k : ByteArray) : Option Nat := W.findIdx? fun s => decide (s.t.key = k)
theorem find_key (W : List Stp) (t : T) : Wb.find W t = findK W t.key := rfl
theorem findK_push (W : List Stp) (s : Stp) (k : ByteArray) : findK (W ++ [s]) k = (findK W k).or (if s.t.key = k then some W.length else none) := by
  unfold findK
  rw [List.findIdx?_append]
  congr 1
  rw [List.findIdx?_singleton]
  by_cases h : s.t.key = k
  · rw [if_pos h, if_pos (decide_eq_true h)]; simp
  · rw [if_neg h, if_neg (by rw [decide_eq_true_eq]; exact h)]; rfl
theorem findK_lt {W : List Stp} {k : ByteArray} {i : Nat} (h : findK W k = some i) : i < W.length := by
  unfold findK at h
  rw [List.findIdx?_eq_some_iff_getElem] at h
  exact h.1
theorem mark_len (W : List Stp) (i : Nat) : (Wb.mark W i).length = W.length := by unfold Wb.mark; rw [List.length_modify]
theorem mark_t (W : List Stp) (i j : Nat) (h : j < (Wb.mark W i).length) (h' : j < W.length) : (Wb.mark W i)[j].t = W[j].t ∧ (Wb.mark W i)[j].how = W[j].how ∧ (Wb.mark W i)[j].frm = W[j].frm ∧ (Wb.mark W i)[j].part = if i = j then true else W[j].part := by
  have e : (Wb.mark W i)[j]'(h) = if i = j then { W[j] with part := true } else W[j] := List.getElem_modify _ _ _ _ h
  rw [e]
  split
  · exact ⟨rfl, rfl, rfl, rfl⟩
  · exact ⟨rfl, rfl, rfl, rfl⟩
theorem findK_mark (W : List Stp) (i : Nat) (k : ByteArray) : findK (Wb.mark W i) k = findK W k := by
  have e : ∀ (f : Stp → Stp) (hf : ∀ s, (f s).t = s.t) (W : List Stp) (i : Nat), findK (W.modify i f) k = findK W k := by
    intro f hf W
    induction W with
    | nil => intro i; rw [List.modify_nil]
    | cons a r ih =>
      intro i
      cases i with
      | zero => rw [List.modify_zero_cons]; unfold findK; rw [List.findIdx?_cons, List.findIdx?_cons, hf]
      | succ i =>
        rw [List.modify_succ_cons]
        have h := ih i
        unfold findK at h ⊢
        rw [List.findIdx?_cons, List.findIdx?_cons, h]
  exact e (fun s => { s with part := true }) (fun s => rfl) W i
/-- What the map holds. -/
def kl (k : ByteArray) : Lit := .string k.data.toList
theorem kl_inj {a b : ByteArray} (h : kl a = kl b) : a = b := by
  unfold kl at h
  injection h with h
  exact str_eq h
def MapIs (D : DataW Unit) (W : List Stp) : Prop := ∀ k : ByteArray, Maps.has D (kl k) = (findK W k).isSome ∧ ∀ i, findK W k = some i → D.atKey (kl k) (.lit (.int .i64 0)) = .lit (.int .i64 (i : Int))
theorem MapIs.nil : MapIs (.map []) [] := fun k => ⟨rfl, fun i h => by cases h⟩
theorem MapIs.mark {D : DataW Unit} {W : List Stp} (h : MapIs D W) (i : Nat) : MapIs D (Wb.mark W i) := fun k => by rw [findK_mark]; exact h k
theorem MapIs.push {D : DataW Unit} {W : List Stp} (h : MapIs D W) (hD : Maps.IsMap D) (s : Stp) (hn : findK W s.t.key = none) : MapIs (D.put (kl s.t.key) (.lit (.int .i64 (W.length : Int)))) (W ++ [s]) := fun k => by
  rw [findK_push]
  by_cases e : s.t.key = k
  · subst e
    rw [hn, if_pos rfl]
    refine ⟨Maps.has_put_same hD (show Go.WideAt.IsKeyLit (kl s.t.key) from trivial) _, fun i hi => ?_⟩
    have hi' : W.length = i := Option.some.inj hi
    rw [Maps.atKey_put_same hD (show Go.WideAt.IsKeyLit (kl s.t.key) from trivial), hi']
  · have hk : kl k ≠ kl s.t.key := fun h => e (kl_inj h).symm
    rw [if_neg e, Option.or_none, Maps.has_put_other hk]
    refine ⟨(h k).1, fun i hi => ?_⟩
    rw [Maps.atKey_put_other hk]
    exact (h k).2 i hi

/-- The blocks that are none of the web's own. -/
def nr (g M : Nat) (vs vp : Value) : Nat → Bool := fun b => !(b == g) && !(b == M) && !(vs.ownBlock == some b) && !(vp.ownBlock == some b)
theorem nr_iff {g M : Nat} {vs vp : Value} {b : Nat} : nr g M vs vp b = true ↔ b ≠ g ∧ b ≠ M ∧ vs.ownBlock ≠ some b ∧ vp.ownBlock ≠ some b := by
  unfold nr
  rw [Bool.and_eq_true, Bool.and_eq_true, Bool.and_eq_true, Bool.not_eq_true', Bool.not_eq_true', Bool.not_eq_true', Bool.not_eq_true', beq_eq_false_iff_ne, beq_eq_false_iff_ne, beq_eq_false_iff_ne, beq_eq_false_iff_ne, and_assoc, and_assoc]
/-- What a call may turn: the web's own blocks, and new ones. -/
structure Fr (B g M : Nat) (vs vp : Value) (w : World) (vs' vp' : Value) (w' : World) : Prop where
  below : Below B w w'
  size : w.heap.size ≤ w'.heap.size
  keep : ∀ b, nr g M vs vp b = true → b < w.heap.size → nr g M vs' vp' b = true ∧ w'.heap[b]? = w.heap[b]?
theorem Fr.refl (B g M : Nat) (vs vp : Value) (w : World) : Fr B g M vs vp w vs vp w := ⟨Below.refl _ _, Nat.le_refl _, fun _ h _ => ⟨h, rfl⟩⟩
theorem Fr.trans {B g M : Nat} {vs vp vs' vp' vs'' vp'' : Value} {w w' w'' : World} (h : Fr B g M vs vp w vs' vp' w') (h' : Fr B g M vs' vp' w' vs'' vp'' w'') : Fr B g M vs vp w vs'' vp'' w'' :=
  ⟨h.below.trans h'.below, Nat.le_trans h.size h'.size, fun b hb hl => by
    obtain ⟨h1, h2⟩ := h.keep b hb hl
    obtain ⟨h3, h4⟩ := h'.keep b h1 (Nat.lt_of_lt_of_le hl h.size)
    exact ⟨h3, h4.trans h2⟩⟩
theorem Fr.later {B g M : Nat} {vs vp vs' vp' : Value} {w w' w'' : World} (h : Fr B g M vs vp w vs' vp' w') (hB : B ≤ w.heap.size) (hb : Below w'.heap.size w' w'') : Fr B g M vs vp w vs' vp' w'' :=
  h.trans ⟨hb.mono (Nat.le_trans hB h.size), hb.size, fun b hb' hl => ⟨hb', hb.block b hl⟩⟩
/-- One of the web's own blocks turns; a slice moves into a new block, if at all. -/
theorem Fr.grown {B g M : Nat} {vs vp vs' vp' : Value} {w w' : World} {row : Option Nat} (hB : B ≤ w.heap.size) (hg : w.grownBy w' row) (hr : ∀ k, row = some k → B ≤ k ∧ nr g M vs vp k = false)
    (hs : vs'.ownBlock = vs.ownBlock ∨ vs'.ownBlock = some w.heap.size) (hp : vp'.ownBlock = vp.ownBlock ∨ vp'.ownBlock = some w.heap.size) : Fr B g M vs vp w vs' vp' w' :=
  ⟨(Below.refl B w).grown hg hB (fun k hk => (hr k hk).1), hg.size, fun b hb hl => by
    obtain ⟨h1, h2, h3, h4⟩ := nr_iff.1 hb
    refine ⟨nr_iff.2 ⟨h1, h2, ?_, ?_⟩, hg.block b hl (fun e => by have := (hr b e.symm).2; rw [hb] at this; cases this)⟩
    · rcases hs with hs | hs
      · rw [hs]; exact h3
      · rw [hs]; intro e; injection e with e; omega
    · rcases hp with hp | hp
      · rw [hp]; exact h4
      · rw [hp]; intro e; injection e with e; omega⟩
theorem nr_g {g M : Nat} {vs vp : Value} : nr g M vs vp g = false := by
  rw [Bool.eq_false_iff]; intro h; exact (nr_iff.1 h).1 rfl
theorem nr_M {g M : Nat} {vs vp : Value} : nr g M vs vp M = false := by
  rw [Bool.eq_false_iff]; intro h; exact (nr_iff.1 h).2.1 rfl
theorem nr_s {g M k : Nat} {vs vp : Value} (h : vs.ownBlock = some k) : nr g M vs vp k = false := by
  rw [Bool.eq_false_iff]; intro h'; exact (nr_iff.1 h').2.2.1 h
theorem nr_p {g M k : Nat} {vs vp : Value} (h : vp.ownBlock = some k) : nr g M vs vp k = false := by
  rw [Bool.eq_false_iff]; intro h'; exact (nr_iff.1 h').2.2.2 h
theorem grown_cell (w : World) (a : Addr) (u : Value) : w.grownBy (w.setCell a u) (some a.block) :=
  ⟨rfl, rfl, rfl, by simp [World.setCell], fun k _ hk => Below.heap_setCell _ _ _ k (fun e => hk (by rw [e]))⟩
theorem TermIn.fr {B g M : Nat} {vs vp vs' vp' : Value} {w w' : World} {v : Value} {t : T} (h : TermIn (nr g M vs vp) w v t) (hf : Fr B g M vs vp w vs' vp' w') : TermIn (nr g M vs' vp') w' v t := h.keep hf.keep
/-- Places that lie in certain blocks. -/
def NumsIn (S : Nat → Bool) (w : World) (A : Option Addr) (ns : List Nat) : Prop :=
  ns.length = 0 ∨ ∃ b off, A = some ⟨b, off, none⟩ ∧ S b = true ∧ ∀ i (h : i < ns.length), w.cell? ⟨b, off + i, none⟩ = some (.int .i64 (ns[i] : Int))
theorem NumsIn.keep {S S' : Nat → Bool} {w w' : World} {A : Option Addr} {ns : List Nat} (h : NumsIn S w A ns) (hk : ∀ b, S b = true → b < w.heap.size → S' b = true ∧ w'.heap[b]? = w.heap[b]?) : NumsIn S' w' A ns := by
  rcases h with h | ⟨b, off, e, hS, hc⟩
  · exact .inl h
  · by_cases h0 : ns.length = 0
    · exact .inl h0
    · have hl := World.block_lt_of_cell? w _ (hc 0 (by omega))
      obtain ⟨h1, h2⟩ := hk b hS hl
      exact .inr ⟨b, off, e, h1, fun i hi => (World.cell?_of_block h2).trans (hc i hi)⟩
/-- A step as it lies in its five cells. -/
def StepAt (S : Nat → Bool) (w : World) (cs : List Value) (s : Stp) : Prop :=
  ∃ A cap F fc, cs = [.int .i64 s.t.kind, .string s.t.name, .slice A s.t.kids.length cap, .int .i64 (s.how : Int), .slice F s.frm.length fc] ∧ TermIn S w (.agg #[.int .i64 s.t.kind, .string s.t.name, .slice A s.t.kids.length cap]) s.t ∧ NumsIn S w F s.frm
theorem StepAt.keep {S S' : Nat → Bool} {w w' : World} {cs : List Value} {s : Stp} (h : StepAt S w cs s) (hk : ∀ b, S b = true → b < w.heap.size → S' b = true ∧ w'.heap[b]? = w.heap[b]?) : StepAt S' w' cs s := by
  obtain ⟨A, cap, F, fc, e, h1, h2⟩ := h
  exact ⟨A, cap, F, fc, e, h1.keep hk, h2.keep hk⟩
theorem StepAt.len {S : Nat → Bool} {w : World} {cs : List Value} {s : Stp} (h : StepAt S w cs s) : cs.length = 5 := by
  obtain ⟨A, cap, F, fc, e, _⟩ := h
  rw [e]; rfl
theorem StepAt.one {S : Nat → Bool} {w : World} {cs : List Value} {s : Stp} (h : StepAt S w cs s) : ∀ u ∈ cs, u.oneCell' = true := by
  obtain ⟨A, cap, F, fc, e, _⟩ := h
  subst e
  intro u hu
  simp at hu
  rcases hu with rfl | rfl | rfl | rfl | rfl <;> rfl
def StepsAt (S : Nat → Bool) (w : World) (css : List (List Value)) (W : List Stp) : Prop := css.length = W.length ∧ ∀ i (h : i < css.length) (h' : i < W.length), StepAt S w css[i] W[i]
theorem StepsAt.keep {S S' : Nat → Bool} {w w' : World} {css : List (List Value)} {W : List Stp} (h : StepsAt S w css W) (hk : ∀ b, S b = true → b < w.heap.size → S' b = true ∧ w'.heap[b]? = w.heap[b]?) : StepsAt S' w' css W :=
  ⟨h.1, fun i a b => (h.2 i a b).keep hk⟩
theorem StepsAt.push {S : Nat → Bool} {w : World} {css : List (List Value)} {W : List Stp} {cs : List Value} {s : Stp} (h : StepsAt S w css W) (hs : StepAt S w cs s) : StepsAt S w (css ++ [cs]) (W ++ [s]) := by
  refine ⟨by rw [List.length_append, List.length_append, h.1]; rfl, fun i a b => ?_⟩
  by_cases hi : i < css.length
  · rw [List.getElem_append_left hi, List.getElem_append_left (by rw [← h.1]; exact hi)]
    exact h.2 i hi (by rw [← h.1]; exact hi)
  · have e1 : i = css.length := by simp at a; omega
    subst e1
    have e2 : (css ++ [cs])[css.length]'a = cs := by simp
    have e3 : (W ++ [s])[css.length]'b = s := by rw [List.getElem_append_right (by rw [h.1]; exact Nat.le_refl _)]; simp
    rw [e2, e3]; exact hs
theorem StepsAt.mark {S : Nat → Bool} {w : World} {css : List (List Value)} {W : List Stp} (h : StepsAt S w css W) (i : Nat) : StepsAt S w css (Wb.mark W i) := by
  refine ⟨by rw [mark_len]; exact h.1, fun j a b => ?_⟩
  have hj : j < W.length := by rw [← h.1]; exact a
  obtain ⟨e1, e2, e3, _⟩ := mark_t W i j b hj
  have := h.2 j a hj
  unfold StepAt at this ⊢
  rw [e1, e2, e3]; exact this
/-- The cells of the web. -/
structure WebAt (B : Nat) (w : World) (g M : Nat) (vs vp : Value) (W : List Stp) : Prop where
  steps : ∃ css, StepsAt (nr g M vs vp) w css W ∧ w.ownsRow B 31 5 vs W.length css.flatten
  part : w.ownsRow B 4 1 vp W.length (W.map fun s => Value.bool s.part)
  map : ∃ D n, w.ownsMap Tryz.prog 9 (plainElem (H := Unit) Tryz.prog 3) M n D ∧ n ≤ W.length ∧ MapIs D W
  box : w.heap[g]? = some (.cells #[vs, .map (some M), vp] 116 (0, 0))
  low : B ≤ g ∧ B ≤ M
  size : W.length ≤ 1048576
theorem WebAt.later {B g M : Nat} {w w' : World} {vs vp : Value} {W : List Stp} (h : WebAt B w g M vs vp W) (hb : Below w.heap.size w w') : WebAt B w' g M vs vp W := by
  obtain ⟨⟨css, h1, h2⟩, h3, ⟨D, n, h4, h5⟩, h6, h7, h8⟩ := h
  exact ⟨⟨css, h1.keep fun b hb' hl => ⟨hb', hb.block b hl⟩, own_later h2 hb⟩, own_later h3 hb, ⟨D, n, h4.kept (row := none) ⟨hb.os, hb.tape, hb.output, hb.size, fun k hk _ => hb.block k hk⟩ (by simp), h5⟩,
    (hb.block g (Array.getElem?_eq_some_iff.1 h6).1).trans h6, h7, h8⟩
theorem WebAt.lt {B g M : Nat} {w : World} {vs vp : Value} {W : List Stp} (h : WebAt B w g M vs vp W) : g < w.heap.size ∧ B ≤ w.heap.size := by
  have := (Array.getElem?_eq_some_iff.1 h.box).1
  have := h.low.1
  exact ⟨by assumption, by omega⟩
/-- The web's cells as a walk reads them. -/
theorem WebAt.cells {B g M : Nat} {w : World} {vs vp : Value} {W : List Stp} (h : WebAt B w g M vs vp W) : w.cell? ⟨g, 0, none⟩ = some vs ∧ w.cell? ⟨g, 1, none⟩ = some (.map (some M)) ∧ w.cell? ⟨g, 2, none⟩ = some vp ∧ w.frozen? ⟨g, 0, none⟩ = false ∧ w.frozen? ⟨g, 2, none⟩ = false := by
  have hb := h.box
  refine ⟨?_, ?_, ?_, ?_, ?_⟩ <;> simp [World.cell?, World.frozen?, hb]
/-- What a call leaves: the web as it then is. -/
def WebTo (B g M : Nat) (w : World) (vs vp : Value) (W' : List Stp) (w' : World) : Prop := ∃ vs' vp', WebAt B w' g M vs' vp' W' ∧ Fr B g M vs vp w vs' vp' w'
end Go.Proofs.YtihbmgkbipeakaaGreat

namespace Go.Proofs.YtihbmgkbipeakaaGreat
open Go.RowKit

theorem Tryz.infoS : (Tryz.prog.info? 9).map (fun i => (i.zero, i.size, i.bytes)) = some (some (.string ByteArray.empty), 1, 16) := by kernel_rfl

theorem join_texts (ks : List T) (sv : Value) (base : Nat) (wr : World) (hown : wr.ownsRow base 9 1 sv ks.length (ks.map fun t => .string (strOf t.text))) (hkn : ks.length ≤ 262144) (htl : (T.textAll ks).length ≤ 3145728) :
    Calls Tryz.prog 188 #[sv, .string ⟨#[44, 32]⟩] wr fun e w' => e = .returned (.string (strOf (T.textAll ks))) ∧ Below wr.heap.size wr w' := by
  rcases hown.2 with ⟨rfl, h0⟩ | ⟨g, c, cur, rfl, h5, h6, h7, h8, h9, h10⟩
  · have : ks = [] := List.eq_nil_of_length_eq_zero h0
    subst this
    refine (Tryz.strings_Join_none none 0 ⟨#[44, 32]⟩ wr).mono ?_
    rintro e w' ⟨rfl, rfl⟩
    exact ⟨rfl, Below.refl _ _⟩
  · have e1 : (List.map (fun x : ByteArray => x.data.toList) (ks.map fun t => strOf t.text)) = ks.map T.text := by
      rw [List.map_map]; exact List.map_congr_left fun t _ => strOf_data t.text
    have e2 : (Lib.join (ks.map T.text) (ByteArray.mk #[44, 32]).data.toList) = T.textAll ks := (T.textAll_join ks).symm
    have hc : ∀ (i : Nat) x, (ks.map fun t => strOf t.text)[i]? = some x → wr.cell? ⟨g, 0 + i, none⟩ = some (.string x) := fun i x hx => by
      have := hown.cells (g := g) rfl i (.string x) (by
        rw [List.getElem?_map] at hx ⊢
        obtain ⟨t, ht, rfl⟩ := Option.map_eq_some_iff.1 hx
        rw [ht]; rfl)
      rw [Go.WideShapes.add_plain] at this
      exact this
    have hj := Tryz.strings_Join g 0 c (ks.map fun t => strOf t.text) ⟨#[44, 32]⟩ wr hc (Array.getElem?_eq_some_iff.1 h6).1 (by rw [List.length_map]; omega) (by rw [List.length_map]; exact h7) (by rw [e1, e2]; omega)
    rw [e1, e2, List.length_map] at hj
    exact hj

set_option maxRecDepth 100000 in
set_option maxHeartbeats 600000 in
theorem owrite : ∀ (N : Nat) (t : T) (v : Value) (w : World), t.bulk < N → TermAt w v t → t.bulk ≤ 1048576 →
    Calls Tryz.prog 155 #[v] w fun e w' => e = .returned (.string (strOf t.text)) ∧ Below w.heap.size w w' := by
  intro N
  induction N with
  | zero => intro t v w h; omega
  | succ N ih =>
    intro t v w hN ht hbk
    cases ht with
    | mk k s A cap ks U h1 h2 h3 h4 hA hU =>
      simp only [T.bulk] at hN hbk
      have hkn : ks.length ≤ 262144 := by have := T.len_le ks; omega
      have htl := T.textAll_len ks
      have hss : s.size ≤ 1048576 := by omega
      obtain ⟨i0, hi0, hz0, hz1, hz2⟩ := info_parts Tryz.infoS
      have hbx := boxed_new w (.int .i64 k) (.string s) (.slice A ks.length cap) 29
      have hb1 := below_alloc1 w (.cells #[.int .i64 k, .string s, .slice A ks.length cap] 29)
      have hsz := size_alloc1 w (.cells #[.int .i64 k, .string s, .slice A ks.length cap] 29)
      obtain ⟨R, hR⟩ : ∃ R, strOf (T.mk k s ks).text = R := ⟨_, rfl⟩
      rw [hR]
      go_enter Tryz.func155, Tryz.ntmps155
      go_upto_region 1 with fail
      generalize w.alloc (.cells #[.int .i64 k, .string s, .slice A ks.length cap] 29) = w1 at hbx hb1 hsz ⊢
      obtain ⟨x0, x1, x2⟩ := hbx
      have IH := Lib.hid ih
      have BA := Lib.hid hA; have BU := Lib.hid hU
      clear ih hA hU
      by_cases k1 : k = 1
      · subst k1
        have HR := Lib.hid (show s = R by rw [← hR]; simp only [T.text, if_true]; exact str_of s)
        clear hR
        go_wp2_with fail
        go_ret
        exact ⟨ret_str HR.out, hb1⟩
      by_cases k2 : k = 2
      · subst k2
        have HR := Lib.hid (show (⟨#[63]⟩ : ByteArray) ++ s = R by
          rw [← hR]; simp only [T.text]
          have := str_add [63] s.data.toList
          rw [← str_of s] at this
          exact this)
        clear hR k1
        go_wp2_with fail
        go_ret
        exact ⟨ret_str HR.out, hb1⟩
      have k1' : (k == 1) = false := by rw [beq_eq_false_iff_ne]; exact k1
      have k2' : (k == 2) = false := by rw [beq_eq_false_iff_ne]; exact k2
      have hR2 : strOf (if k = 3 then [60] ++ T.textAll ks ++ [62] else T.headS k ++ [40] ++ T.textAll ks ++ [41]) = R := by rw [← hR]; simp only [T.text, if_neg k1, if_neg k2]
      have HR2 := Lib.hid hR2
      clear hR hR2 k1 k2
      have HHD := T.headS_len k
      go_wp2_with fail
      go_loopw [3, 21] (fun v3 i wr => ∃ (j : Nat) (sv : Value), j ≤ ks.length ∧ i = .int .i64 j ∧ sv = v3 ∧ wr.ownsRow (w.heap.size + 1) 9 1 sv j ((ks.take j).map fun t => .string (strOf t.text)) ∧ Below w1.heap.size w1 wr) (fun _ i _ => ks.length - (intOf i).toNat)
      case atStart => exact ⟨0, _, Nat.zero_le _, rfl, rfl, World.ownsRow_nil _ _ _ _, Below.refl _ _⟩
      case round =>
        obtain ⟨j, sv, hj, rfl, rfl, hown, hbl⟩ := hrel
        have hbw := hb1.trans (hbl.mono hb1.size)
        by_cases hlt : j < ks.length
        · obtain ⟨b, off, B1, C1, rfl, d0, d1, d2, hu⟩ := TermAt.cells hlt BA.out BU.out
          have e0 := cell_later hbw d0; have e1 := cell_later hbw d1; have e2 := cell_later hbw d2
          have hi : (j : Int) < (ks.length : Int) := by omega
          have HU := Lib.hid (hu.later hbw); have HLT := Lib.hid hlt
          have HB2 := Lib.hid (show ks[j].bulk < N ∧ ks[j].bulk ≤ 1048576 by have := T.bulk_at ks j hlt; omega)
          have HOWN := Lib.hid hown; have HBL := Lib.hid hbl; have HSZ := Lib.hid hsz
          have HTK := Lib.hid (show (ks.take j).map (fun t => Value.string (strOf t.text)) ++ [.string (strOf ks[j].text)] = (ks.take (j + 1)).map (fun t => Value.string (strOf t.text)) by rw [List.take_succ_eq_append_getElem hlt, List.map_append]; rfl)
          have HKN := Lib.hid hkn
          clear d0 d1 d2 hu hj hbw hown hbl htl hss
          go_wp2_with fail
          refine (IH.out _ _ _ HB2.out.1 (HU.out.later (below_alloc1 _ _)) HB2.out.2).mono ?_; rintro e w2 ⟨rfl, hb4⟩
          replace hb4 := (below_alloc1 wr (.cells #[.int .i64 ks[j].kind, .string ks[j].name, .slice B1 ks[j].kids.length C1] 29)).trans (hb4.mono (below_alloc1 _ _).size)
          have HB4 := Lib.hid hb4
          have HOWN4 := Lib.hid ((own_later HOWN.out hb4).alloc (.cells #[.string (strOf ks[j].text)] 9))
          have HMS := Lib.hid (show w.heap.size + 1 ≤ (w2.alloc (.cells #[.string (strOf ks[j].text)] 9)).heap.size by rw [size_alloc1]; have := hb4.size; have := HBL.out.size; have := HSZ.out; omega)
          clear hb4 e0 e1 e2
          go_wp2_with (at_builtin; refine wpList_append_lies _ rfl _ _ 56 rfl (w.heap.size + 1) 9 i0 _ 1 16 Tryz.underlying56 hi0 hz0 hz1 hz2 rfl (by omega) _ j _ rfl HOWN4.out ⟨w2.heap.size, 0, none⟩ 1 1 [.string (strOf ks[j].text)] rfl rfl (cell_one_new _ _ _) (by simp [Value.oneCell']) (by omega) (by have := HLT.out; have := HKN.out; unfold maxLen; omega) (by have := HLT.out; have := HKN.out; omega) HMS.out _ rfl ?_; intro g cap' w5 hown5 hg5 hat5 hlt5)
          rw [HTK.out] at hown5
          have HO5 := Lib.hid hown5
          have HB5 := Lib.hid ((HBL.out.trans ((HB4.out.trans ((below_alloc1 w2 (.cells #[.string (strOf ks[j].text)] 9)).mono HB4.out.size)).mono HBL.out.size)).grown hg5 (by have := HMS.out; have := HSZ.out; omega) (fun q hq => by have := (HOWN.out.lt q hq).1; have := HSZ.out; omega))
          clear hown5 hg5 hat5 hlt5
          go_wp2_with fail
          go_roundw
          case rel => exact ⟨j + 1, _, HLT.out, by go_num, rfl, HO5.out, HB5.out⟩
          case measure => have := HLT.out; simp [intOf]; omega
        · obtain rfl : j = ks.length := by omega
          rw [List.take_length] at hown
          have hj := join_texts ks sv (w.heap.size + 1) wr hown hkn (by omega)
          have HJ := Lib.hid hj
          obtain ⟨J, hJ⟩ : ∃ J, T.textAll ks = J := ⟨_, rfl⟩
          rw [hJ] at HJ HR2 htl
          have HB := Lib.hid hbw; have HBL := Lib.hid hbl
          have z0 := cell_later hbl x0
          have hJs : (strOf J).size ≤ 3145728 := by rw [strOf_size]; omega
          clear hj hown hbw hbl hlt hJ x0 x1 x2 htl
          go_wp2_with fail
          refine HJ.out.mono ?_; rintro e w2 ⟨rfl, hb2⟩
          have y0 := cell_later hb2 z0
          have HB2 := Lib.hid (HB.out.trans (hb2.mono HB.out.size))
          clear hb2 z0
          by_cases k3 : k = 3
          · subst k3
            have HR := Lib.hid (show (⟨#[60]⟩ : ByteArray) ++ strOf J ++ ⟨#[62]⟩ = R by
              have := HR2.out
              simp only [if_true] at this
              rw [← this]
              show (⟨[60].toArray⟩ : ByteArray) ++ ⟨J.toArray⟩ ++ ⟨[62].toArray⟩ = _
              rw [str_add, str_add]; rfl)
            have s1 : (1 : Nat) + (strOf J).size ≤ 9223372036854775807 := by omega
            clear k1' k2'
            go_wp2_with fail
            go_ret
            exact ⟨ret_str HR.out, HB2.out⟩
          · have k3' : (k == 3) = false := by rw [beq_eq_false_iff_ne]; exact k3
            have HR := Lib.hid (show (⟨(T.headS k).toArray⟩ : ByteArray) ++ ⟨#[40]⟩ ++ strOf J ++ ⟨#[41]⟩ = R by
              have := HR2.out
              rw [if_neg k3] at this
              rw [← this]
              show (⟨(T.headS k).toArray⟩ : ByteArray) ++ ⟨[40].toArray⟩ ++ ⟨J.toArray⟩ ++ ⟨[41].toArray⟩ = _
              rw [str_add, str_add, str_add]; rfl)
            have hH : (⟨(T.headS k).toArray⟩ : ByteArray).size ≤ 5 := by rw [str_size]; exact HHD
            have HH := Lib.hid (fun W => ohead k W)
            clear k3
            generalize (⟨(T.headS k).toArray⟩ : ByteArray) = hd at HR hH HH
            go_wp2_with (go_at_call 189; refine (HH.out _).mono ?_; rintro e w' ⟨rfl, rfl⟩)
            go_ret
            exact ⟨ret_str HR.out, HB2.out⟩
end Go.Proofs.YtihbmgkbipeakaaGreat

namespace Go.Proofs.YtihbmgkbipeakaaGreat
open Go.RowKit

theorem strOf_add (a b : List UInt8) : strOf a ++ strOf b = strOf (a ++ b) := str_add a b
set_option maxRecDepth 100000 in
set_option maxHeartbeats 2000000 in
theorem oformat (t : T) (v : Value) (w : World) (ht : TermAt w v t) (hbk : t.bulk ≤ 1048576) :
    Calls Tryz.prog 129 #[v] w fun e w' => e = .returned (.string (if t.valid = true then strOf t.text else ⟨#[]⟩)) ∧ Below w.heap.size w w' := by
  have HZ := Lib.hid (fun W hW r c hr hc => ovalid t v W hW hbk r c hr hc)
  have HS := Lib.hid (fun W hW => owrite (t.bulk + 1) t v W (by omega) hW hbk)
  obtain ⟨q, hq⟩ : ∃ q, t.valid = q := ⟨_, rfl⟩
  rw [hq] at HZ ⊢
  clear hbk hq
  generalize strOf t.text = p at *
  cases ht with
  | mk k s A cap ks U h1 h2 h3 h4 hA hU =>
    have HT := Lib.hid (TermAt.mk k s A cap ks U h1 h2 h3 h4 hA hU)
    have hbx := boxed_new w (.int .i64 k) (.string s) (.slice A ks.length cap) 29
    have hb1 := below_alloc1 w (.cells #[.int .i64 k, .string s, .slice A ks.length cap] 29)
    clear hA hU
    go_enter Tryz.func129, Tryz.ntmps129
    go_upto_region 1 with fail
    generalize w.alloc (.cells #[.int .i64 k, .string s, .slice A ks.length cap] 29) = w1 at hbx hb1 ⊢
    obtain ⟨x0, x1, x2⟩ := hbx
    have HT1 := Lib.hid (HT.out.later hb1)
    cases q
    · go_wp2_with fail
      refine (HZ.out _ HT1.out false 76 rfl (.inr ⟨rfl, rfl⟩)).mono ?_; rintro e w2 ⟨rfl, hb2⟩
      replace hb2 := hb1.trans (hb2.mono hb1.size)
      clear x0 x1 x2
      go_wp2_with fail
      go_ret
      exact ⟨rfl, hb2⟩
    · go_wp2_with fail
      refine (HZ.out _ HT1.out true 0 rfl (.inl ⟨rfl, rfl⟩)).mono ?_; rintro e w2 ⟨rfl, hb2⟩
      have y0 := cell_later hb2 x0; have y1 := cell_later hb2 x1; have y2 := cell_later hb2 x2
      have HT2 := Lib.hid (HT1.out.later hb2)
      replace hb2 := hb1.trans (hb2.mono hb1.size)
      clear x0 x1 x2
      go_wp2_with fail
      refine (HS.out _ HT2.out).mono ?_; rintro e w3 ⟨rfl, hb3⟩
      replace hb3 := hb2.trans (hb3.mono hb2.size)
      go_wp2_with fail
      go_ret
      exact ⟨rfl, hb3⟩

end Go.Proofs.YtihbmgkbipeakaaGreat
