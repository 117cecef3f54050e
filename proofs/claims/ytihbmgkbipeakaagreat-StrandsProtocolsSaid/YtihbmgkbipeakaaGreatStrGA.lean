/- Chapter 42, several texts in one: Chapter 42: the variables of a term, in the order in which they occur: the walk of gather. Chapter 42: the variables of a term, sorted and each once: the walk of the program's Vars. Chapter 42: a variable that is not known: the closure of Valid, and slices.ContainsFunc with it. -/
import Derived.Test.YtihbmgkbipeakaaGreatTermNrm
import Derived.Test.YtihbmgkbipeakaaGreatSrc
import Derived.Test.YtihbmgkbipeakaaGreatShelf
import Derived.Sort.OwnSorted
import Derived.Lib.RowBridge
namespace Go.Proofs.YtihbmgkbipeakaaGreat
open Go.RowKit

namespace T
mutual
/-- The names of a term's variables, in the order in which they occur. -/
def vars : T → List ByteArray
  | .mk k s ks => (if k = 2 then [s] else []) ++ varsAll ks
def varsAll : List T → List ByteArray
  | [] => []
  | t :: r => vars t ++ varsAll r
end
mutual
theorem vars_len : ∀ t : T, t.vars.length ≤ t.bulk
  | .mk k s ks => by
    have := varsAll_len ks
    simp only [vars, bulk, List.length_append]
    split <;> simp <;> omega
theorem varsAll_len : ∀ l : List T, (varsAll l).length ≤ bulkAll l
  | [] => by simp [varsAll, bulkAll]
  | t :: r => by have := vars_len t; have := varsAll_len r; simp only [varsAll, bulkAll, List.length_append]; omega
end
theorem varsAll_take (l : List T) : ∀ (i : Nat) (h : i < l.length), varsAll (l.take (i + 1)) = varsAll (l.take i) ++ l[i].vars := by
  induction l with
  | nil => intro i h; simp at h
  | cons t r ih =>
    intro i h
    cases i with
    | zero => simp [varsAll]
    | succ i => simp only [List.take_succ_cons, varsAll, List.getElem_cons_succ]; rw [ih i (by simpa using h), List.append_assoc]
theorem bulkAll_succ (l : List T) : ∀ (i : Nat) (h : i < l.length), bulkAll (l.take i) + l[i].bulk ≤ bulkAll l := by
  induction l with
  | nil => intro i h; simp at h
  | cons t r ih =>
    intro i h
    cases i with
    | zero => simp only [List.take_zero, bulkAll, List.getElem_cons_zero]; omega
    | succ i => have := ih i (by simpa using h); simp only [List.take_succ_cons, bulkAll, List.getElem_cons_succ]; omega
end T
/-- Blocks below B. -/
def under (B : Nat) : Nat → Bool := fun b => decide (b < B)
/-- A term as it is reached lies in the memory that is there. -/
theorem TermAt.under_ {w : World} {v : Value} {t : T} (h : TermAt w v t) : TermIn (under w.heap.size) w v t :=
  TermAt.keep h fun p hp => by
    rw [cell_only]
    obtain ⟨u, hu⟩ := Option.isSome_iff_exists.1 hp
    rw [if_pos (show under w.heap.size p.block = true from decide_eq_true (World.block_lt_of_cell? w p hu))]
theorem TermIn.below_ {B : Nat} {w w' : World} {v : Value} {t : T} (h : TermIn (under B) w v t) (hb : Below B w w') : TermIn (under B) w' v t :=
  h.keep fun b hb' _ => ⟨hb', hb.block b (of_decide_eq_true hb')⟩
/-- A kid's cells, below B. -/
theorem TermIn.cells {B : Nat} {w : World} {A : Option Addr} {ks : List T} {U : Nat → Value × Value × Value} {i : Nat} (h : i < ks.length)
    (hA : ks.length = 0 ∨ ∃ b off, A = some ⟨b, off, none⟩ ∧ ∀ i, i < ks.length → (only w (under B)).cell? ⟨b, off + i * 3, none⟩ = some (U i).1 ∧ (only w (under B)).cell? ⟨b, off + i * 3 + 1, none⟩ = some (U i).2.1 ∧ (only w (under B)).cell? ⟨b, off + i * 3 + 2, none⟩ = some (U i).2.2)
    (hU : ∀ i (h : i < ks.length), TermAt (only w (under B)) (.agg #[(U i).1, (U i).2.1, (U i).2.2]) ks[i]) :
    ∃ b off A' cap', b < B ∧ A = some ⟨b, off, none⟩ ∧ w.cell? ⟨b, off + i * 3, none⟩ = some (.int .i64 ks[i].kind) ∧ w.cell? ⟨b, off + i * 3 + 1, none⟩ = some (.string ks[i].name) ∧
      w.cell? ⟨b, off + i * 3 + 2, none⟩ = some (.slice A' ks[i].kids.length cap') ∧ TermIn (under B) w (.agg #[.int .i64 ks[i].kind, .string ks[i].name, .slice A' ks[i].kids.length cap']) ks[i] := by
  obtain ⟨b, off, A', cap', e, c0, c1, c2, hu⟩ := TermAt.cells h hA hU
  have key : ∀ {q : Addr} {v : Value}, (only w (under B)).cell? q = some v → q.block < B ∧ w.cell? q = some v := fun {q v} hq => by
    rw [cell_only] at hq
    split at hq
    · rename_i hS; exact ⟨of_decide_eq_true hS, hq⟩
    · cases hq
  exact ⟨b, off, A', cap', (key c0).1, e, (key c0).2, (key c1).2, (key c2).2, hu⟩
theorem cell_below {B : Nat} {w w' : World} {b o : Nat} {v : Value} (h : Below B w w') (hb : b < B) (hc : w.cell? ⟨b, o, none⟩ = some v) : w'.cell? ⟨b, o, none⟩ = some v := (h.cell (p := ⟨b, o, none⟩) hb).trans hc
theorem Tryz.infoStr : (Tryz.prog.info? 9).map (fun i => (i.zero, i.size, i.bytes)) = some (some (.string ByteArray.empty), 1, 16) := by kernel_rfl

theorem Src.one_str (w : World) (s : ByteArray) : Src (w.alloc (.cells #[.string s] 9)) 1 (some ⟨w.heap.size, 0, none⟩) 1 [.string s] := by
  refine ⟨rfl, .inr ⟨_, 0, rfl, fun j u hu => ?_⟩⟩
  rw [Nat.zero_add]
  match j, hu with
  | 0, hu =>
    have h := heap_alloc_new w (.cells #[.string s] 9)
    have e : (w.alloc (.cells #[.string s] 9)).cell? ⟨w.heap.size, 0, none⟩ = some (.string s) := by unfold World.cell?; rw [h]; rfl
    exact e.trans hu

set_option maxRecDepth 100000 in
set_option maxHeartbeats 8000000 in
theorem gather_ok : ∀ (N : Nat) (t : T) (v : Value) (w : World) (base : Nat) (lv : Value) (L : List ByteArray), t.bulk < N → TermIn (under base) w v t → t.bulk ≤ 1048576 →
    w.ownsRow base 9 1 lv L.length (L.map .string) → L.length + t.bulk ≤ 4194304 → base ≤ w.heap.size →
    Calls Tryz.prog 107 #[lv, v] w fun e w' => ∃ lv', e = .returned lv' ∧ w'.ownsRow base 9 1 lv' (L ++ t.vars).length ((L ++ t.vars).map .string) ∧ Below base w w' := by
  intro N
  induction N with
  | zero => intro t v w base lv L h; omega
  | succ N ih =>
    intro t v w base lv L hN ht hbk hown hLb hbase
    cases ht with
    | mk k s A cap ks U h1 h2 h3 h4 hA hU =>
      simp only [T.bulk] at hN hbk hLb
      have hkn : ks.length ≤ 262144 := by have := T.len_le ks; omega
      obtain ⟨i0, hi0, hz0, hz1, hz2⟩ := info_parts Tryz.infoStr
      have hbx := boxed_new w (.int .i64 k) (.string s) (.slice A ks.length cap) 29
      have hb1 := below_alloc1 w (.cells #[.int .i64 k, .string s, .slice A ks.length cap] 29)
      have HA := Lib.hid hA; have HU := Lib.hid hU; have IH := Lib.hid ih
      have HLT := Lib.hid (show ∀ b, lv.ownBlock = some b → base ≤ b ∧ b < w.heap.size from hown.lt)
      have HLT := Lib.hid (show ∀ b, lv.ownBlock = some b → base ≤ b ∧ b < w.heap.size from hown.lt)
      have HLT := Lib.hid (show ∀ b, lv.ownBlock = some b → base ≤ b ∧ b < w.heap.size from hown.lt)
      have HLT := Lib.hid (show ∀ b, lv.ownBlock = some b → base ≤ b ∧ b < w.heap.size from hown.lt)
      have HLT := Lib.hid (show ∀ b, lv.ownBlock = some b → base ≤ b ∧ b < w.heap.size from hown.lt)
      have HLT := Lib.hid (show ∀ b, lv.ownBlock = some b → base ≤ b ∧ b < w.heap.size from hown.lt)
      have HLT := Lib.hid (show ∀ b, lv.ownBlock = some b → base ≤ b ∧ b < w.heap.size from hown.lt)
      have HLT := Lib.hid (show ∀ b, lv.ownBlock = some b → base ≤ b ∧ b < w.heap.size from hown.lt)
      have HOWN := Lib.hid (own_later hown hb1); have HB1 := Lib.hid (hb1.mono hbase)
      have HBS := Lib.hid (show base ≤ (w.alloc (.cells #[.int .i64 k, .string s, .slice A ks.length cap] 29)).heap.size by rw [size_alloc1]; omega)
      clear hA hU ih hown
      go_enter Tryz.func107, Tryz.ntmps107
      go_upto_region 1 with fail
      generalize w.alloc (.cells #[.int .i64 k, .string s, .slice A ks.length cap] 29) = w1 at hbx hb1 HOWN HB1 HBS ⊢
      obtain ⟨x0, x1, x2⟩ := hbx
      have HNB := Lib.hid (show lv.ownBlock ≠ some w.heap.size from fun e => by have := (HLT.out _ e).2; omega)
      have hq : ∃ L0 : List ByteArray, L0 = L ++ (if k = 2 then [s] else []) := ⟨_, rfl⟩
      obtain ⟨L0, hL0⟩ := hq
      have HL0 := Lib.hid hL0
      have hb0 : L0.length + T.bulkAll ks ≤ 4194304 := by rw [hL0]; split <;> simp <;> omega
      have HLB := Lib.hid hb0
      clear hb0
      have HNB := Lib.hid (show lv.ownBlock ≠ some w.heap.size from fun e => by have := (HLT.out _ e).2; omega)
      have hq : ∃ L0 : List ByteArray, L0 = L ++ (if k = 2 then [s] else []) := ⟨_, rfl⟩
      obtain ⟨L0, hL0⟩ := hq
      have HL0 := Lib.hid hL0
      have hb0 : L0.length + T.bulkAll ks ≤ 4194304 := by rw [hL0]; split <;> simp <;> omega
      have HLB := Lib.hid hb0
      clear hb0
      have HNB := Lib.hid (show lv.ownBlock ≠ some w.heap.size from fun e => by have := (HLT.out _ e).2; omega)
      have hq : ∃ L0 : List ByteArray, L0 = L ++ (if k = 2 then [s] else []) := ⟨_, rfl⟩
      obtain ⟨L0, hL0⟩ := hq
      have HL0 := Lib.hid hL0
      have hb0 : L0.length + T.bulkAll ks ≤ 4194304 := by rw [hL0]; split <;> simp <;> omega
      have HLB := Lib.hid hb0
      clear hb0
      have HNB := Lib.hid (show lv.ownBlock ≠ some w.heap.size from fun e => by have := (HLT.out _ e).2; omega)
      have hq : ∃ L0 : List ByteArray, L0 = L ++ (if k = 2 then [s] else []) := ⟨_, rfl⟩
      obtain ⟨L0, hL0⟩ := hq
      have HL0 := Lib.hid hL0
      have hb0 : L0.length + T.bulkAll ks ≤ 4194304 := by rw [hL0]; split <;> simp <;> omega
      have HLB := Lib.hid hb0
      clear hb0
      have HNB := Lib.hid (show lv.ownBlock ≠ some w.heap.size from fun e => by have := (HLT.out _ e).2; omega)
      have hq : ∃ L0 : List ByteArray, L0 = L ++ (if k = 2 then [s] else []) := ⟨_, rfl⟩
      obtain ⟨L0, hL0⟩ := hq
      have HL0 := Lib.hid hL0
      have hb0 : L0.length + T.bulkAll ks ≤ 4194304 := by rw [hL0]; split <;> simp <;> omega
      have HLB := Lib.hid hb0
      clear hb0
      have HNB := Lib.hid (show lv.ownBlock ≠ some w.heap.size from fun e => by have := (HLT.out _ e).2; omega)
      have hq : ∃ L0 : List ByteArray, L0 = L ++ (if k = 2 then [s] else []) := ⟨_, rfl⟩
      obtain ⟨L0, hL0⟩ := hq
      have HL0 := Lib.hid hL0
      have hb0 : L0.length + T.bulkAll ks ≤ 4194304 := by rw [hL0]; split <;> simp <;> omega
      have HLB := Lib.hid hb0
      clear hb0
      have HNB := Lib.hid (show lv.ownBlock ≠ some w.heap.size from fun e => by have := (HLT.out _ e).2; omega)
      have hq : ∃ L0 : List ByteArray, L0 = L ++ (if k = 2 then [s] else []) := ⟨_, rfl⟩
      obtain ⟨L0, hL0⟩ := hq
      have HL0 := Lib.hid hL0
      have hb0 : L0.length + T.bulkAll ks ≤ 4194304 := by rw [hL0]; split <;> simp <;> omega
      have HLB := Lib.hid hb0
      clear hb0
      have HNB := Lib.hid (show lv.ownBlock ≠ some w.heap.size from fun e => by have := (HLT.out _ e).2; omega)
      have hq : ∃ L0 : List ByteArray, L0 = L ++ (if k = 2 then [s] else []) := ⟨_, rfl⟩
      obtain ⟨L0, hL0⟩ := hq
      have HL0 := Lib.hid hL0
      have hb0 : L0.length + T.bulkAll ks ≤ 4194304 := by rw [hL0]; split <;> simp <;> omega
      have HLB := Lib.hid hb0
      clear hb0
      by_cases k2 : k = 2
      · subst k2
        have HL1 := Lib.hid (show L0 = L ++ [s] by rw [hL0, if_pos rfl])
        clear hL0
        have hwa := below_alloc1 w1 (.cells #[.string s] 9)
        have y2 := cell_later hwa x2
        have hl1 := hwa.size
        have HONE := Lib.hid (show ∀ u ∈ [Value.string s], u.oneCell' = true from fun u hu => by rw [List.mem_singleton] at hu; subst hu; rfl)
        go_wp2_with (at_builtin; refine wpList_append_src _ rfl _ _ 56 rfl base 9 i0 _ 1 16 Tryz.underlying56 hi0 hz0 hz1 hz2 rfl (by omega) _ _ _ rfl (own_later HOWN.out hwa) _ 1 1 [.string s] rfl (Src.one_str _ _) HONE.out (by unfold maxLen; omega) (by omega) (by have := HBS.out; omega) ?_; intro A8 c8 w8 hown8 hg8 hat8; have hz8 := hg8.cell y2 (fun e => HNB.out e.symm))
        have hown9 : w8.ownsRow base 9 1 (.slice A8 (L.length + 1) c8) L0.length (L0.map .string) := by
          rw [HL1.out]; simpa using hown8
        have hbw : Below base w w8 := (HB1.out.trans (hwa.mono HBS.out)).grown hg8 (by have := HBS.out; omega) (fun b hb => (HLT.out _ hb).1)
        have hbs : base ≤ w8.heap.size := by have := hg8.size; have := HBS.out; omega
        clear hown8 hg8 hat8 hwa hl1 x0 x1 x2 y2
        generalize Value.slice A8 (L.length + 1) c8 = lv0 at hown9 ⊢
        have HO := Lib.hid hown9; have HBW := Lib.hid hbw; have HSB := Lib.hid hbs
        clear hown9 hbw hbs
        go_loopw [18, 0] (fun i l wr => ∃ j : Nat, j ≤ ks.length ∧ i = .int .i64 j ∧ wr.ownsRow base 9 1 l (L0 ++ T.varsAll (ks.take j)).length ((L0 ++ T.varsAll (ks.take j)).map .string) ∧ Below base w wr ∧ base ≤ wr.heap.size) (fun i _ _ => ks.length - (intOf i).toNat)
        case atStart => exact ⟨0, Nat.zero_le _, rfl, by simpa [T.varsAll] using HO.out, HBW.out, HSB.out⟩
        case round =>
          obtain ⟨j, hj, rfl, hown, hbw, hbs⟩ := hrel
          by_cases hlt : j < ks.length
          · obtain ⟨b, off, B1, C1, hbB, rfl, d0, d1, d2, hu⟩ := TermIn.cells hlt HA.out HU.out
            have e0 := cell_below hbw hbB d0; have e1 := cell_below hbw hbB d1; have e2 := cell_below hbw hbB d2
            have hi : (j : Int) < (ks.length : Int) := by omega
            have hw2 := below_alloc1 wr (.cells #[.int .i64 ks[j].kind, .string ks[j].name, .slice B1 ks[j].kids.length C1] 29)
            have HU2 := Lib.hid ((hu.below_ hbw).below_ (hw2.mono hbs))
            have HOWN2 := Lib.hid (own_later hown hw2)
            have HBW2 := Lib.hid (hbw.trans (hw2.mono hbs))
            have HBS2 := Lib.hid (show base ≤ (wr.alloc (.cells #[.int .i64 ks[j].kind, .string ks[j].name, .slice B1 ks[j].kids.length C1] 29)).heap.size by rw [size_alloc1]; omega)
            have HB2 := Lib.hid (show ks[j].bulk < N ∧ ks[j].bulk ≤ 1048576 ∧ (L0 ++ T.varsAll (ks.take j)).length + ks[j].bulk ≤ 4194304 by
              have h1 := T.bulkAll_succ ks j hlt; have h2 := T.varsAll_len (ks.take j); have h3 := HLB.out
              rw [List.length_append]; omega)
            have HTK := Lib.hid (show L0 ++ T.varsAll (ks.take j) ++ ks[j].vars = L0 ++ T.varsAll (ks.take (j + 1)) by rw [T.varsAll_take ks j hlt, List.append_assoc])
            have HLT2 := Lib.hid hlt
            clear d0 d1 d2 hu hw2 hown hbw hbs hj
            go_wp2_with fail
            refine (IH.out _ _ _ base _ _ HB2.out.1 HU2.out HB2.out.2.1 HOWN2.out HB2.out.2.2 HBS2.out).mono ?_; rintro e w5 ⟨l5, rfl, hown5, hb5⟩
            rw [HTK.out] at hown5
            have HO5 := Lib.hid hown5; have HB5 := Lib.hid (HBW2.out.trans hb5); have HS5 := Lib.hid (Nat.le_trans HBS2.out (show _ ≤ w5.heap.size from hb5.size))
            clear hown5 hb5 e0 e1 e2
            go_wp2_with fail
            go_roundw
            case rel => exact ⟨j + 1, HLT2.out, by go_num, HO5.out, HB5.out, HS5.out⟩
            case measure => have := HLT2.out; simp [intOf]; omega
          · obtain rfl : j = ks.length := by omega
            rw [List.take_of_length_le (Nat.le_refl _)] at hown
            have HRES := Lib.hid (show L0 ++ T.varsAll ks = L ++ (T.mk 2 s ks).vars by rw [HL0.out]; simp [T.vars])
            have HOX := Lib.hid hown; have HBX := Lib.hid hbw
            clear hown hbw hbs
            go_wp2_with fail
            go_ret
            refine ⟨_, rfl, ?_, HBX.out⟩
            rw [← HRES.out]; exact HOX.out
      · have hL1 : L0 = L := by rw [hL0, if_neg k2, List.append_nil]
        have k2' : (k == 2) = false := by rw [beq_eq_false_iff_ne]; exact k2
        have hown9 : w1.ownsRow base 9 1 lv L0.length (L0.map .string) := by rw [hL1]; exact HOWN.out
        have HO := Lib.hid hown9; have HBW := HB1; have HSB := HBS
        clear hown9 hL0 hL1 k2
        go_wp2_with fail
        go_loopw [18, 0] (fun i l wr => ∃ j : Nat, j ≤ ks.length ∧ i = .int .i64 j ∧ wr.ownsRow base 9 1 l (L0 ++ T.varsAll (ks.take j)).length ((L0 ++ T.varsAll (ks.take j)).map .string) ∧ Below base w wr ∧ base ≤ wr.heap.size) (fun i _ _ => ks.length - (intOf i).toNat)
        case atStart => exact ⟨0, Nat.zero_le _, rfl, by simpa [T.varsAll] using HO.out, HBW.out, HSB.out⟩
        case round =>
          obtain ⟨j, hj, rfl, hown, hbw, hbs⟩ := hrel
          by_cases hlt : j < ks.length
          · obtain ⟨b, off, B1, C1, hbB, rfl, d0, d1, d2, hu⟩ := TermIn.cells hlt HA.out HU.out
            have e0 := cell_below hbw hbB d0; have e1 := cell_below hbw hbB d1; have e2 := cell_below hbw hbB d2
            have hi : (j : Int) < (ks.length : Int) := by omega
            have hw2 := below_alloc1 wr (.cells #[.int .i64 ks[j].kind, .string ks[j].name, .slice B1 ks[j].kids.length C1] 29)
            have HU2 := Lib.hid ((hu.below_ hbw).below_ (hw2.mono hbs))
            have HOWN2 := Lib.hid (own_later hown hw2)
            have HBW2 := Lib.hid (hbw.trans (hw2.mono hbs))
            have HBS2 := Lib.hid (show base ≤ (wr.alloc (.cells #[.int .i64 ks[j].kind, .string ks[j].name, .slice B1 ks[j].kids.length C1] 29)).heap.size by rw [size_alloc1]; omega)
            have HB2 := Lib.hid (show ks[j].bulk < N ∧ ks[j].bulk ≤ 1048576 ∧ (L0 ++ T.varsAll (ks.take j)).length + ks[j].bulk ≤ 4194304 by
              have h1 := T.bulkAll_succ ks j hlt; have h2 := T.varsAll_len (ks.take j); have h3 := HLB.out
              rw [List.length_append]; omega)
            have HTK := Lib.hid (show L0 ++ T.varsAll (ks.take j) ++ ks[j].vars = L0 ++ T.varsAll (ks.take (j + 1)) by rw [T.varsAll_take ks j hlt, List.append_assoc])
            have HLT2 := Lib.hid hlt
            clear d0 d1 d2 hu hw2 hown hbw hbs hj
            go_wp2_with fail
            refine (IH.out _ _ _ base _ _ HB2.out.1 HU2.out HB2.out.2.1 HOWN2.out HB2.out.2.2 HBS2.out).mono ?_; rintro e w5 ⟨l5, rfl, hown5, hb5⟩
            rw [HTK.out] at hown5
            have HO5 := Lib.hid hown5; have HB5 := Lib.hid (HBW2.out.trans hb5); have HS5 := Lib.hid (Nat.le_trans HBS2.out (show _ ≤ w5.heap.size from hb5.size))
            clear hown5 hb5 e0 e1 e2
            go_wp2_with fail
            go_roundw
            case rel => exact ⟨j + 1, HLT2.out, by go_num, HO5.out, HB5.out, HS5.out⟩
            case measure => have := HLT2.out; simp [intOf]; omega
          · obtain rfl : j = ks.length := by omega
            rw [List.take_of_length_le (Nat.le_refl _)] at hown
            have HRES := Lib.hid (show L0 ++ T.varsAll ks = L ++ (T.mk k s ks).vars by rw [HL0.out]; simp [T.vars])
            have HOX := Lib.hid hown; have HBX := Lib.hid hbw
            clear hown hbw hbs
            go_wp2_with fail
            go_ret
            refine ⟨_, rfl, ?_, HBX.out⟩
            rw [← HRES.out]; exact HOX.out
end Go.Proofs.YtihbmgkbipeakaaGreat

namespace Go.Proofs.YtihbmgkbipeakaaGreat
open Go.RowKit

theorem mem_compactUpTo (d : Array (List UInt8)) (x : List UInt8) : ∀ m, m ≤ d.size → (x ∈ Lib.compactUpTo d m ↔ ∃ j, j < m ∧ d[j]! = x) := by
  intro m
  induction m with
  | zero => intro _; simp [Lib.compactUpTo]
  | succ m ih =>
    intro hm
    rw [Lib.compactUpTo_succ, List.mem_append, ih (by omega)]
    constructor
    · rintro (⟨j, h1, h2⟩ | h)
      · exact ⟨j, by omega, h2⟩
      · split at h
        · rw [List.mem_singleton] at h; exact ⟨m, by omega, h.symm⟩
        · simp at h
    · rintro ⟨j, h1, h2⟩
      rcases Nat.lt_or_ge j m with g | g
      · exact .inl ⟨j, g, h2⟩
      · obtain rfl : j = m := by omega
        by_cases hk : Lib.keeps d j = true
        · right; rw [if_pos hk, h2]; simp
        · left
          cases j with
          | zero => exact absurd (Lib.keeps_lt_one d 0 (by omega)) hk
          | succ j =>
            refine ⟨j, by omega, ?_⟩
            rw [← h2]
            exact (by simpa [Lib.keeps] using hk : d[j + 1]! = d[j]!).symm
theorem mem_compact (zs : List (List UInt8)) (x : List UInt8) : x ∈ Lib.compact zs ↔ x ∈ zs := by
  unfold Lib.compact
  rw [mem_compactUpTo _ _ _ (by simp)]
  constructor
  · rintro ⟨j, h1, h2⟩
    rw [← h2, getElem!_pos _ j (by simpa using h1)]
    simp
  · intro h
    obtain ⟨j, hj, e⟩ := List.getElem_of_mem h
    exact ⟨j, hj, by rw [getElem!_pos _ j (by simpa using hj)]; simpa using e⟩
theorem map_enc (M : List ByteArray) : M.map Value.string = (M.map (·.data.toList)).map encStr := by
  rw [List.map_map]
  exact List.map_congr_left fun b _ => congrArg Value.string (str_of b)
theorem below_sorted {w : World} {B g n : Nat} {os : Array Obj} (hg : B ≤ g) (hB : B ≤ w.heap.size) (d : Array (List UInt8)) : Below B w (Sort.grow (Sort.putRow encStr (Sort.ahead w n) g 0 d) os) :=
  (Below.refl B w).grown (grownBy_sorted d) hB (fun b hb => by have e : g = b := Option.some.inj hb; omega)
theorem Src.head_ {w : World} {n m : Nat} {A : Option Addr} {xs : List Value} (h : Src w 1 A n xs) (hm : m ≤ n) : Src w 1 A m (xs.take m) := by
  refine ⟨by rw [List.length_take, h.1]; omega, ?_⟩
  rcases h.2 with h0 | ⟨g, off, e, hc⟩
  · left; omega
  · refine .inr ⟨g, off, e, fun j u hu => hc j u ?_⟩
    rw [List.getElem?_take] at hu
    split at hu
    · exact hu
    · cases hu
/-- A row of strings that is read. -/
def VarsPost (t : T) (w : World) (e : Ending) (w' : World) : Prop :=
  ∃ (A : Option Addr) (c : Nat) (R : List (List UInt8)), e = .returned (.slice A R.length c) ∧ Src w' 1 A R.length (R.map encStr) ∧ Below w.heap.size w w' ∧ (∀ x : ByteArray, x.data.toList ∈ R ↔ x ∈ t.vars) ∧ R.length ≤ 1048576 ∧ R.length ≤ c ∧ ∀ b, A.map (·.block) = some b → w.heap.size ≤ b
theorem mem_names (M : List ByteArray) (x : ByteArray) : x.data.toList ∈ M.map (·.data.toList) ↔ x ∈ M := by
  rw [List.mem_map]
  constructor
  · rintro ⟨y, hy, e⟩; rw [← str_eq e]; exact hy
  · intro h; exact ⟨x, h, rfl⟩

set_option maxRecDepth 100000 in
set_option maxHeartbeats 4000000 in
theorem ovars (t : T) (v : Value) (w : World) (ht : TermAt w v t) (hbk : t.bulk ≤ 1048576) :
    Calls Tryz.prog 60 #[v] w (VarsPost t w) := by
  have hu := ht.under_
  have hvl := t.vars_len
  cases ht with
  | mk k s A cap ks U h1 h2 h3 h4 hA hU =>
  have hbx := boxed_new w (.int .i64 k) (.string s) (.slice A ks.length cap) 29
  have hb1 := below_alloc1 w (.cells #[.int .i64 k, .string s, .slice A ks.length cap] 29)
  have HU := Lib.hid (hu.below_ hb1); have HB1 := Lib.hid hb1
  have HS1 := Lib.hid (show w.heap.size ≤ (w.alloc (.cells #[.int .i64 k, .string s, .slice A ks.length cap] 29)).heap.size from hb1.size)
  have HVL := Lib.hid hvl
  clear hA hU hu hb1 hvl
  generalize hT : T.mk k s ks = t at HU HVL hbk ⊢
  clear hT
  go_enter Tryz.func60, Tryz.ntmps60
  go_upto_region 1 with fail
  generalize w.alloc (.cells #[.int .i64 k, .string s, .slice A ks.length cap] 29) = w1 at hbx HU HB1 HS1 ⊢
  obtain ⟨x0, x1, x2⟩ := hbx
  go_wp2_with fail
  refine (gather_ok (t.bulk + 1) t _ _ w.heap.size _ [] (by omega) HU.out hbk (World.ownsRow_nil _ _ _ _) (by simp; omega) HS1.out).mono ?_; rintro e w2 ⟨lv, rfl, hown, hb2⟩
  rw [List.nil_append] at hown
  have HB2 := Lib.hid (HB1.out.trans hb2); have HS2 := Lib.hid (Nat.le_trans HS1.out (show _ ≤ w2.heap.size from hb2.size))
  clear hb2 x0 x1 x2
  rcases hown.2 with ⟨rfl, h0⟩ | ⟨g, cp, cur, rfl, hbase, hb, g1, g2, g3, g4⟩
  · have hnil : t.vars = [] := List.eq_nil_of_length_eq_zero h0
    have HN := Lib.hid hnil
    clear hown hnil h0
    go_wp2_with fail
    refine (Tryz.slices_Sort_string_none _ _ _).mono ?_; rintro e w3 ⟨rfl, rfl⟩
    go_wp2_with fail
    refine (Tryz.slices_Compact_string_empty _ _ _).mono ?_; rintro e w3 ⟨rfl, rfl⟩
    go_wp2_with fail
    go_ret
    exact ⟨none, 0, [], rfl, Src.none_ _ _ _, HB2.out, fun x => by rw [HN.out]; simp, by simp, by simp, fun b hb => by cases hb⟩
  · obtain ⟨ss, hss⟩ : ∃ ss, t.vars.map (·.data.toList) = ss := ⟨_, rfl⟩
    have hsl : ss.length = t.vars.length := by rw [← hss, List.length_map]
    have hm : ∀ x : ByteArray, x.data.toList ∈ ss ↔ x ∈ t.vars := fun x => by rw [← hss]; exact mem_names _ x
    have g4' : cur.toList.take ss.length = ss.map encStr := by rw [hsl, ← hss, ← map_enc]; simpa using g4
    rw [← hsl] at g1 ⊢
    have hgl : g < w2.heap.size := (Array.getElem?_eq_some_iff.1 hb).1
    have HM := Lib.hid hm
    have HSL := Lib.hid (show ss.length ≤ 1048576 by rw [hsl]; exact Nat.le_trans HVL.out hbk)
    have HH := Lib.hid (show Sort.Holds encStr w2 g 0 ss.toArray from holds_of_block hb g4')
    have HBK := Lib.hid hb; have HG1 := Lib.hid g1; have HG2 := Lib.hid g2; have HG3 := Lib.hid g3; have HBA := Lib.hid hbase; have HGL := Lib.hid hgl
    clear hown hss hsl hm g4 g4' hb g1 g2 g3 hbase hgl
    go_wp2_with fail
    refine (Tryz.slices_Sort_string g 0 cp ss w2 HH.out HGL.out (by have := HSL.out; omega)).mono ?_; rintro e w3 ⟨rfl, n, os, rfl⟩
    have hl2 : (ss.mergeSort fun x y => decide (x ≤ y)).length = ss.length := by simp
    have hmem : ∀ x, x ∈ (ss.mergeSort fun x y => decide (x ≤ y)) ↔ x ∈ ss := fun x => List.mem_mergeSort
    generalize (ss.mergeSort fun x y => decide (x ≤ y)) = ts at hl2 hmem ⊢
    have hown3 := ownsRow_sorted (n := n) (os := os) (base := w.heap.size) hl2 HBA.out HBK.out HG1.out HG2.out HG3.out
    have hb3 := below_sorted (n := n) (os := os) HBA.out HS2.out ts.toArray
    rw [← hl2] at hown3 ⊢
    generalize Sort.grow (Sort.putRow encStr (Sort.ahead w2 n) g 0 ts.toArray) os = w3 at hown3 hb3 ⊢
    rcases hown3.2 with ⟨h, _⟩ | ⟨g', cp', cur', hv, hbase', hb', g1', g2', g3', g4'⟩
    · cases h
    obtain ⟨rfl, rfl⟩ : g = g' ∧ cp = cp' := by injection hv with e1 e2 e3; injection e1 with e1; injection e1 with e1; exact ⟨e1, e3⟩
    have HH3 := Lib.hid (show Sort.Holds encStr w3 g 0 ts.toArray from holds_of_block hb' (by simpa using g4'))
    have hl4 : (Lib.compact ts ++ List.replicate (ts.length - (Lib.compact ts).length) []).length = ts.length := by
      have := Lib.compact_length_le ts; simp; omega
    have HFIN := Lib.hid (show ∀ q, VarsPost t w (.returned (.slice (some ⟨g, 0, none⟩) (Lib.compact ts).length cp)) (Sort.putRow encStr (Sort.ahead w3 q) g 0 (Lib.compact ts ++ List.replicate (ts.length - (Lib.compact ts).length) []).toArray) from fun q => by
      have ho := ownsRow_sorted (n := q) (os := #[]) (base := w.heap.size) hl4 hbase' hb' g1' g2' g3'
      have hb := below_sorted (n := q) (os := #[]) hbase' (Nat.le_trans HS2.out (show _ ≤ w3.heap.size from hb3.size)) (Lib.compact ts ++ List.replicate (ts.length - (Lib.compact ts).length) []).toArray
      rw [Sort.grow_empty] at ho hb
      refine ⟨_, _, Lib.compact ts, rfl, ?_, HB2.out.trans (hb3.trans hb), fun x => (mem_compact ts _).trans ((hmem _).trans (HM.out x)), ?_, ?_, fun b hb => by have e : g = b := Option.some.inj hb; omega⟩
      · have h := (Src.of_own ho).head_ (m := (Lib.compact ts).length) (Lib.compact_length_le ts)
        rw [List.map_append, List.take_left' (by simp)] at h
        exact h
      · have := Lib.compact_length_le ts; have := HSL.out; omega
      · have := Lib.compact_length_le ts; omega)
    have HCAP := Lib.hid (show ts.length ≤ cp from g1')
    have HSL3 := Lib.hid (show ts.length ≤ 9223372036854775807 by have := HSL.out; omega)
    clear hown3 hv hbase' hb' g1' g2' g3' g4' hb3 hmem hl4 hl2
    go_wp2_with fail
    refine (Tryz.slices_Compact_string g 0 cp ts w3 HH3.out HSL3.out HCAP.out).mono ?_; rintro e w4 ⟨rfl, q, rfl⟩
    go_wp2_with fail
    go_ret
    exact HFIN.out q
end Go.Proofs.YtihbmgkbipeakaaGreat

namespace Go.Proofs.YtihbmgkbipeakaaGreat
open Go.RowKit

/-- A row of texts that is read. -/
def TextsAt (w : World) (A : Option Addr) (K : List ByteArray) : Prop := Src w 1 A K.length (K.map .string)
theorem TextsAt.cell {w : World} {A : Option Addr} {K : List ByteArray} (h : TextsAt w A K) (i : Nat) (hi : i < K.length) : ∃ b off, A = some ⟨b, off, none⟩ ∧ w.cell? ⟨b, off + i, none⟩ = some (.string K[i]) := by
  rcases h.2 with h0 | ⟨b, off, e, hc⟩
  · omega
  · exact ⟨b, off, e, hc i _ (by rw [List.getElem?_map, List.getElem?_eq_getElem hi]; rfl)⟩
theorem contains_iff (K : List ByteArray) (x : ByteArray) : Lib.containsS K x = true ↔ x ∈ K := Lib.containsS_iff K x

/-- The closure: is a text not among the known ones? -/
theorem not_known (K : List ByteArray) (A : Option Addr) (c g : Nat) (s : ByteArray) (w : World) (hk : K.length ≤ 1099511627776) (hg : w.cell? ⟨g, 0, none⟩ = some (.slice A K.length c)) (hA : TextsAt w A K) :
    Calls Tryz.prog 62 #[.string s, .pointer (some ⟨g, 0, none⟩)] w fun e w' => e = .returned (.bool (!Lib.containsS K s)) ∧ w = w' := by
  have hC : Calls Tryz.prog 63 #[.slice A K.length c, .string s] w fun e w' => e = .returned (.bool (Lib.containsS K s)) ∧ w' = w := by
    rcases Nat.eq_zero_or_pos K.length with h0 | h0
    · obtain rfl : K = [] := List.eq_nil_of_length_eq_zero h0
      exact Tryz.slices_Contains_string_empty A c s w
    · obtain ⟨b, off, rfl, _⟩ := hA.cell 0 h0
      have h := Tryz.slices_Contains_string b off K.length c K s w (Nat.le_refl _) (by omega) (fun j hj => by
        obtain ⟨b', off', e, hc⟩ := hA.cell j hj
        injection e with e; injection e with e1 e2 e3; subst e1; subst e2
        rw [hc]; simp [List.getD, hj])
      rw [List.take_length] at h; exact h
  have HC := Lib.hid hC
  clear hA hC
  generalize Lib.containsS K s = q at HC ⊢
  go_enter Tryz.func62, Tryz.ntmps62
  go_wp2_with fail
  refine HC.out.mono ?_; rintro e w2 ⟨rfl, rfl⟩
  go_wp2_with fail
  go_ret
  exact ⟨rfl, rfl⟩
set_option maxRecDepth 100000 in
set_option maxHeartbeats 2000000 in
/-- slices.IndexFunc with the closure: is there a text that is not known? -/
theorem index_unknown (K : List ByteArray) (A : Option Addr) (c g : Nat) (R : List ByteArray) (B : Option Addr) (d : Nat) (w : World) (hk : K.length ≤ 1099511627776) (hg : w.cell? ⟨g, 0, none⟩ = some (.slice A K.length c)) (hA : TextsAt w A K) (hR : R.length ≤ 1099511627776) (hB : TextsAt w B R) :
    Calls Tryz.prog 110 #[.slice B R.length d, .func (.func 62) #[] #[.pointer (some ⟨g, 0, none⟩)]] w fun e w' => ∃ z : Int, e = .returned (.int .i64 z) ∧ ((0 ≤ z ∧ R.any (fun s => !Lib.containsS K s) = true) ∨ (z < 0 ∧ R.any (fun s => !Lib.containsS K s) = false)) ∧ w = w' := by
  have HF := Lib.hid (fun s => not_known K A c g s w hk hg hA)
  have HB := Lib.hid hB
  clear hg hA hB
  go_enter Tryz.func110, Tryz.ntmps110
  go_wp2_with fail
  go_loopw [8] (fun i wr => ∃ j : Nat, j ≤ R.length ∧ i = .int .i64 j ∧ (∀ m (h : m < j) (h1 : m < R.length), Lib.containsS K R[m] = true) ∧ w = wr) (fun i _ => R.length - (intOf i).toNat)
  case atStart => exact ⟨0, Nat.zero_le _, rfl, fun m h => absurd h (by omega), rfl⟩
  case round =>
    obtain ⟨j, hj, rfl, hz, rfl⟩ := hrel
    have HZ := Lib.hid hz; clear hz
    by_cases hlt : j < R.length
    · obtain ⟨b, off, rfl, e0⟩ := HB.out.cell j hlt
      have hi : (j : Int) < (R.length : Int) := by omega
      obtain ⟨s, hs⟩ : ∃ s, R[j]'hlt = s := ⟨_, rfl⟩
      have HLT := Lib.hid hlt
      have HSJ := Lib.hid hs
      rw [hs] at e0
      obtain ⟨q, hq⟩ : ∃ q, Lib.containsS K s = q := ⟨_, rfl⟩
      have HQ := Lib.hid hq
      have HFS := Lib.hid (show Calls Tryz.prog 62 #[.string s, .pointer (some ⟨g, 0, none⟩)] w fun e w' => e = .returned (.bool (!q)) ∧ w = w' by rw [← hq]; exact HF.out s)
      clear hq hs
      go_wp2_with fail
      refine HFS.out.mono ?_; rintro e w2 ⟨rfl, rfl⟩
      cases q
      · have HR := Lib.hid (show R.any (fun s => !Lib.containsS K s) = true from List.any_eq_true.2 ⟨R[j]'hlt, List.getElem_mem hlt, by rw [HSJ.out, HQ.out]; rfl⟩)
        go_wp2_with fail
        go_ret
        exact ⟨_, rfl, .inl ⟨by omega, HR.out⟩, rfl⟩
      · go_wp2_with fail
        go_roundw
        case rel =>
          refine ⟨j + 1, HLT.out, by go_num, fun m h g1 => ?_, by trivial⟩
          rcases Nat.lt_or_ge m j with g | g
          · exact HZ.out m g g1
          · obtain rfl : m = j := by omega
            rw [HSJ.out]; exact HQ.out
        case measure => have := HLT.out; simp [intOf]; omega
    · have hi : (R.length : Int) ≤ (j : Int) := by omega
      have HL := Lib.hid (show R.any (fun s => !Lib.containsS K s) = false from by
        rw [List.any_eq_false]
        intro x hx
        obtain ⟨m, hm, rfl⟩ := List.getElem_of_mem hx
        rw [HZ.out m (by omega) hm]; simp)
      go_wp2_with fail
      go_ret
      exact ⟨_, rfl, .inr ⟨by omega, HL.out⟩, rfl⟩
theorem contains_unknown (K : List ByteArray) (A : Option Addr) (c g : Nat) (R : List ByteArray) (B : Option Addr) (d : Nat) (w : World) (hk : K.length ≤ 1099511627776) (hg : w.cell? ⟨g, 0, none⟩ = some (.slice A K.length c)) (hA : TextsAt w A K) (hR : R.length ≤ 1099511627776) (hB : TextsAt w B R) :
    Calls Tryz.prog 61 #[.slice B R.length d, .func (.func 62) #[] #[.pointer (some ⟨g, 0, none⟩)]] w fun e w' => e = .returned (.bool (R.any fun s => !Lib.containsS K s)) ∧ w = w' := by
  have HI := Lib.hid (index_unknown K A c g R B d w hk hg hA hR hB)
  clear hg hA hB
  generalize (R.any fun s => !Lib.containsS K s) = q at HI ⊢
  go_enter Tryz.func61, Tryz.ntmps61
  go_wp2_with fail
  refine HI.out.mono ?_; rintro e w2 ⟨z, rfl, hz, rfl⟩
  rcases hz with ⟨hz, rfl⟩ | ⟨hz, rfl⟩
  · go_wp2_with fail
    go_ret
    exact ⟨rfl, rfl⟩
  · go_wp2_with fail
    go_ret
    exact ⟨ret_bool (decide_eq_false (by omega)), rfl⟩
end Go.Proofs.YtihbmgkbipeakaaGreat
