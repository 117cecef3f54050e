/- Chapter 40: the walks of Size. -/
import Derived.Test.YtihbmgkbipeakaaGreatTerm
import Derived.IntWalk
namespace Go.Proofs.YtihbmgkbipeakaaGreat
open Go.RowKit

namespace T
mutual
def size : T → Nat
  | .mk _ _ ks => 1 + sizeAll ks
def sizeAll : List T → Nat
  | [] => 0
  | t :: r => size t + sizeAll r
end
mutual
theorem size_le : ∀ t : T, t.size ≤ t.bulk
  | .mk _ s ks => by have := sizeAll_le ks; simp only [size, bulk]; omega
theorem sizeAll_le : ∀ l : List T, sizeAll l ≤ bulkAll l
  | [] => by simp [sizeAll, bulkAll]
  | t :: r => by have := size_le t; have := sizeAll_le r; simp only [sizeAll, bulkAll]; omega
end
theorem bulk_at (l : List T) : ∀ (i : Nat) (h : i < l.length), l[i].bulk ≤ bulkAll l := by
  induction l with
  | nil => intro i h; simp at h
  | cons t r ih =>
    intro i h
    cases i with
    | zero => simp only [List.getElem_cons_zero, bulkAll]; omega
    | succ i => have := ih i (by simpa using h); simp only [List.getElem_cons_succ, bulkAll]; omega
theorem sizeAll_take (l : List T) : ∀ (i : Nat) (h : i < l.length), sizeAll (l.take (i + 1)) = sizeAll (l.take i) + l[i].size := by
  induction l with
  | nil => intro i h; simp at h
  | cons t r ih =>
    intro i h
    cases i with
    | zero => simp [sizeAll]
    | succ i => have := ih i (by simpa using h); simp only [List.take_succ_cons, sizeAll, List.getElem_cons_succ, this]; omega
theorem bulkAll_take (l : List T) : ∀ i, bulkAll (l.take i) ≤ bulkAll l := by
  induction l with
  | nil => intro i; simp
  | cons t r ih =>
    intro i
    cases i with
    | zero => simp [bulkAll]
    | succ i => have := ih i; simp only [List.take_succ_cons, bulkAll]; omega
theorem bulk_pos (t : T) : 4 ≤ t.bulk := by cases t; simp only [bulk]; omega
theorem len_le : ∀ l : List T, 4 * l.length ≤ bulkAll l
  | [] => by simp [bulkAll]
  | t :: r => by have := bulk_pos t; have := len_le r; simp only [bulkAll, List.length_cons]; omega
end T
theorem TermAt.view {w : World} {a b c : Value} {t : T} (h : TermAt w (.agg #[a, b, c]) t) : a = .int .i64 t.kind ∧ b = .string t.name ∧ ∃ A cap, c = .slice A t.kids.length cap := by
  cases h
  exact ⟨rfl, rfl, _, _, rfl⟩
/-- A term in a box. -/
def Boxed (w : World) (g : Nat) (a b c : Value) : Prop := w.cell? ⟨g, 0, none⟩ = some a ∧ w.cell? ⟨g, 1, none⟩ = some b ∧ w.cell? ⟨g, 2, none⟩ = some c
theorem Boxed.later {w w' : World} {g : Nat} {a b c : Value} (h : Boxed w g a b c) (hb : Below w.heap.size w w') : Boxed w' g a b c :=
  ⟨cell_later hb h.1, cell_later hb h.2.1, cell_later hb h.2.2⟩
theorem boxed_new (w : World) (a b c : Value) (t : TypeId) : Boxed (w.alloc (.cells #[a, b, c] t)) w.heap.size a b c := by
  have := heap_alloc_new w (.cells #[a, b, c] t)
  refine ⟨?_, ?_, ?_⟩
  · exact cell_of_row _ _ 0 _ _ _ this
  · exact cell_of_row _ _ 1 _ _ _ this
  · exact cell_of_row _ _ 2 _ _ _ this

set_option maxRecDepth 100000 in
set_option maxHeartbeats 1000000 in
theorem rsize : ∀ (N : Nat) (t : T) (v : Value) (w : World), t.bulk < N → TermAt w v t → t.bulk ≤ 1048576 →
    Calls Tryz.prog 26 #[v] w fun e w' => e = .returned (.int .i64 t.size) ∧ Below w.heap.size w w' := by
  intro N
  induction N with
  | zero => intro t v w h; omega
  | succ N ih =>
    intro t v w hN ht hbk
    cases ht with
    | mk k s A cap ks U h1 h2 h3 h4 hA hU =>
      simp only [T.bulk] at hN hbk
      have hbx := boxed_new w (.int .i64 k) (.string s) (.slice A ks.length cap) 29
      have hb1 := (Below.refl w.heap.size w).alloc (Nat.le_refl _) (.cells #[.int .i64 k, .string s, .slice A ks.length cap] 29)
      go_enter Tryz.func26, Tryz.ntmps26
      go_wp2_with fail
      have hsz : w.heap.size < (w.alloc (.cells #[.int .i64 k, .string s, .slice A ks.length cap] 29)).heap.size := by show _ < (w.heap.push _).size; rw [Array.size_push]; omega
      generalize w.alloc (.cells #[.int .i64 k, .string s, .slice A ks.length cap] 29) = w1 at hbx hb1 hsz ⊢
      have hkl : T.bulkAll ks ≤ 1048576 := by omega
      have hkn : ks.length ≤ 1048576 := by have := T.len_le ks; omega
      have hsl := T.sizeAll_le ks
      go_loopw [3, 4] (fun sm i wr => ∃ j : Nat, j ≤ ks.length ∧ i = .int .i64 j ∧ sm = .int .i64 (1 + (T.sizeAll (ks.take j) : Nat)) ∧ Below w1.heap.size w1 wr) (fun _ i _ => ks.length - (intOf i).toNat)
      case atStart => exact ⟨0, Nat.zero_le _, rfl, by simp [T.sizeAll], Below.refl _ _⟩
      case round =>
        obtain ⟨j, hj, rfl, rfl, hbl⟩ := hrel
        obtain ⟨x0, x1, x2⟩ := hbx.later hbl
        by_cases hlt : j < ks.length
        · rcases hA with hA | ⟨b, off, rfl, hcell⟩
          · omega
          obtain ⟨d0, d1, d2⟩ := hcell j hlt
          have hu := hU j hlt
          have hbw := hb1.trans (hbl.mono hb1.size)
          have e0 := cell_later hbw d0; have e1 := cell_later hbw d1; have e2 := cell_later hbw d2
          clear d0 d1 d2
          generalize (U j).1 = u0 at *
          generalize (U j).2.1 = u1 at *
          generalize (U j).2.2 = u2 at *
          have hlt' : (j : Int) < (ks.length : Int) := by omega
          have hkb := T.bulk_at ks j hlt
          have hst := T.sizeAll_take ks j hlt
          have hszj := T.sizeAll_le (ks.take (j + 1))
          have hbj := T.bulkAll_take ks (j + 1)
          have q1 : IntKind.i64.wrap (1 + (T.sizeAll (ks.take j) : Nat) + (ks[j].size : Nat)) = 1 + (T.sizeAll (ks.take (j + 1)) : Nat) := by rw [hst, IntWalk.i64_in _ (by omega)]; push_cast; omega
          have hb2 : ks[j].bulk < N := by omega
          have hb3 : ks[j].bulk ≤ 1048576 := by omega
          have hu' := hu.later hbw
          have HB := Lib.hid hst
          have HLT := Lib.hid hlt
          clear hst hszj hbj hkb
          go_wp2_with fail
          refine (ih _ _ _ hb2 hu' hb3).mono ?_; rintro e w2 ⟨rfl, hb4⟩
          go_wp2_with fail
          go_roundw
          case rel => exact ⟨j + 1, HLT.out, by go_num, rfl, hbl.trans (hb4.mono hbl.size)⟩
          case measure => have := HLT.out; simp [intOf]; omega
        · obtain rfl : j = ks.length := by omega
          have hw : (1 + (T.sizeAll (ks.take ks.length) : Nat) : Int) = ((T.mk k s ks).size : Nat) := by rw [List.take_length]; simp [T.size]
          have HW := Lib.hid hw; clear hw
          go_wp2_with fail
          go_ret
          exact ⟨ret_i64 HW.out, hb1.trans (hbl.mono hb1.size)⟩
set_option maxRecDepth 100000 in
set_option maxHeartbeats 1000000 in
theorem osize : ∀ (N : Nat) (t : T) (v : Value) (w : World), t.bulk < N → TermAt w v t → t.bulk ≤ 1048576 →
    Calls Tryz.prog 115 #[v] w fun e w' => e = .returned (.int .i64 t.size) ∧ Below w.heap.size w w' := by
  intro N
  induction N with
  | zero => intro t v w h; omega
  | succ N ih =>
    intro t v w hN ht hbk
    cases ht with
    | mk k s A cap ks U h1 h2 h3 h4 hA hU =>
      simp only [T.bulk] at hN hbk
      have hbx := boxed_new w (.int .i64 k) (.string s) (.slice A ks.length cap) 29
      have hb1 := (Below.refl w.heap.size w).alloc (Nat.le_refl _) (.cells #[.int .i64 k, .string s, .slice A ks.length cap] 29)
      go_enter Tryz.func115, Tryz.ntmps115
      go_wp2_with fail
      have hsz : w.heap.size < (w.alloc (.cells #[.int .i64 k, .string s, .slice A ks.length cap] 29)).heap.size := by show _ < (w.heap.push _).size; rw [Array.size_push]; omega
      generalize w.alloc (.cells #[.int .i64 k, .string s, .slice A ks.length cap] 29) = w1 at hbx hb1 hsz ⊢
      have hkl : T.bulkAll ks ≤ 1048576 := by omega
      have hkn : ks.length ≤ 1048576 := by have := T.len_le ks; omega
      have hsl := T.sizeAll_le ks
      go_loopw [3, 9] (fun sm i wr => ∃ j : Nat, j ≤ ks.length ∧ i = .int .i64 j ∧ sm = .int .i64 (1 + (T.sizeAll (ks.take j) : Nat)) ∧ Below w1.heap.size w1 wr) (fun _ i _ => ks.length - (intOf i).toNat)
      case atStart => exact ⟨0, Nat.zero_le _, rfl, by simp [T.sizeAll], Below.refl _ _⟩
      case round =>
        obtain ⟨j, hj, rfl, rfl, hbl⟩ := hrel
        obtain ⟨x0, x1, x2⟩ := hbx.later hbl
        by_cases hlt : j < ks.length
        · rcases hA with hA | ⟨b, off, rfl, hcell⟩
          · omega
          obtain ⟨d0, d1, d2⟩ := hcell j hlt
          have hu := hU j hlt
          have hbw := hb1.trans (hbl.mono hb1.size)
          have e0 := cell_later hbw d0; have e1 := cell_later hbw d1; have e2 := cell_later hbw d2
          clear d0 d1 d2
          generalize (U j).1 = u0 at *
          generalize (U j).2.1 = u1 at *
          generalize (U j).2.2 = u2 at *
          obtain ⟨rfl, rfl, A', cap', rfl⟩ := hu.view
          have hlt' : (j : Int) < (ks.length : Int) := by omega
          have hkb := T.bulk_at ks j hlt
          have hst := T.sizeAll_take ks j hlt
          have hszj := T.sizeAll_le (ks.take (j + 1))
          have hbj := T.bulkAll_take ks (j + 1)
          have q1 : IntKind.i64.wrap (1 + (T.sizeAll (ks.take j) : Nat) + (ks[j].size : Nat)) = 1 + (T.sizeAll (ks.take (j + 1)) : Nat) := by rw [hst, IntWalk.i64_in _ (by omega)]; push_cast; omega
          have hb2 : ks[j].bulk < N := by omega
          have hb3 : ks[j].bulk ≤ 1048576 := by omega
          have hu' := hu.later hbw
          have HB := Lib.hid hst
          have HLT := Lib.hid hlt
          clear hst hszj hbj hkb
          go_wp2_with fail
          refine (ih _ _ _ hb2 (hu'.later ((Below.refl wr.heap.size wr).alloc (Nat.le_refl _) _)) hb3).mono ?_; rintro e w2 ⟨rfl, hb4⟩
          replace hb4 := ((Below.refl wr.heap.size wr).alloc (Nat.le_refl _) _).trans (hb4.mono (by show _ ≤ (wr.heap.push _).size; rw [Array.size_push]; omega))
          go_wp2_with fail
          go_roundw
          case rel => exact ⟨j + 1, HLT.out, by go_num, rfl, hbl.trans (hb4.mono hbl.size)⟩
          case measure => have := HLT.out; simp [intOf]; omega
        · obtain rfl : j = ks.length := by omega
          have hw : (1 + (T.sizeAll (ks.take ks.length) : Nat) : Int) = ((T.mk k s ks).size : Nat) := by rw [List.take_length]; simp [T.size]
          have HW := Lib.hid hw; clear hw
          go_wp2_with fail
          go_ret
          exact ⟨ret_i64 HW.out, hb1.trans (hbl.mono hb1.size)⟩
end Go.Proofs.YtihbmgkbipeakaaGreat
