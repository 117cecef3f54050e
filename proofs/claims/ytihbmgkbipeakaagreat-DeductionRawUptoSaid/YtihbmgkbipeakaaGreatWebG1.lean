/- Several texts in one: TermCmpO, TermCmpP, TermShape, TermShape2. -/
import Derived.Test.YtihbmgkbipeakaaGreatWebG0
import Derived.Deep.RegionHeld3
namespace Go.Proofs.YtihbmgkbipeakaaGreat
open Go.RowKit

set_option maxRecDepth 100000 in
set_option maxHeartbeats 2000000 in
/-- slices.CompareFunc over two lists of kids, given what Compare says of each pair. -/
theorem cmp_func (A A' : Option Addr) (cap cap' : Nat) (ks ks' : List T) (U U' : Nat → Value × Value × Value) (w : World) (hkn : ks.length ≤ 1048576) (_hkn' : ks'.length ≤ 1048576)
    (hA : ks.length = 0 ∨ ∃ b off, A = some ⟨b, off, none⟩ ∧ ∀ i, i < ks.length → w.cell? ⟨b, off + i * 3, none⟩ = some (U i).1 ∧ w.cell? ⟨b, off + i * 3 + 1, none⟩ = some (U i).2.1 ∧ w.cell? ⟨b, off + i * 3 + 2, none⟩ = some (U i).2.2)
    (hU : ∀ i (h : i < ks.length), TermAt w (.agg #[(U i).1, (U i).2.1, (U i).2.2]) ks[i])
    (hA' : ks'.length = 0 ∨ ∃ b off, A' = some ⟨b, off, none⟩ ∧ ∀ i, i < ks'.length → w.cell? ⟨b, off + i * 3, none⟩ = some (U' i).1 ∧ w.cell? ⟨b, off + i * 3 + 1, none⟩ = some (U' i).2.1 ∧ w.cell? ⟨b, off + i * 3 + 2, none⟩ = some (U' i).2.2)
    (hU' : ∀ i (h : i < ks'.length), TermAt w (.agg #[(U' i).1, (U' i).2.1, (U' i).2.2]) ks'[i])
    (hC : ∀ j (h : j < ks.length) (h' : j < ks'.length) (v v' : Value) (W : World), TermAt W v ks[j] → TermAt W v' ks'[j] → Calls Tryz.prog 103 #[v, v'] W fun e w' => e = .returned (.int .i64 (T.cmp ks[j] ks'[j])) ∧ Below W.heap.size W w') :
    Calls Tryz.prog 137 #[.slice A ks.length cap, .slice A' ks'.length cap', .func (.func 103) #[] #[]] w fun e w' =>
      e = .returned (.int .i64 (T.cmpAll ks ks')) ∧ Below w.heap.size w w' := by
  have HC := Lib.hid hC; clear hC
  go_enter Tryz.func137, Tryz.ntmps137
  go_wp2_with fail
  go_loopw [13] (fun i wr => ∃ j : Nat, j ≤ ks.length ∧ j ≤ ks'.length ∧ i = .int .i64 j ∧ (∀ m (h : m < j) (h1 : m < ks.length) (h2 : m < ks'.length), T.cmp ks[m] ks'[m] = 0) ∧ Below w.heap.size w wr) (fun i _ => ks.length - (intOf i).toNat)
  case atStart => exact ⟨0, Nat.zero_le _, Nat.zero_le _, rfl, fun m h => absurd h (by omega), Below.refl _ _⟩
  case round =>
    obtain ⟨j, hj, hj', rfl, hz, hbl⟩ := hrel
    have HZ := Lib.hid hz; clear hz
    by_cases hlt : j < ks.length
    · obtain ⟨b, off, B1, C1, rfl, d0, d1, d2, hu⟩ := TermAt.cells hlt hA hU
      have e0 := cell_later hbl d0; have e1 := cell_later hbl d1; have e2 := cell_later hbl d2
      have hi : (j : Int) < (ks.length : Int) := by omega
      clear d0 d1 d2
      by_cases hlt' : j < ks'.length
      · obtain ⟨b', off', B1', C1', rfl, d0', d1', d2', hu'⟩ := TermAt.cells hlt' hA' hU'
        have e0' := cell_later hbl d0'; have e1' := cell_later hbl d1'; have e2' := cell_later hbl d2'
        clear d0' d1' d2'
        have hi' : (j : Int) < (ks'.length : Int) := by omega
        have f0 := cell_later ((Below.refl wr.heap.size wr).alloc (Nat.le_refl _) (.cells #[.int .i64 ks[j].kind, .string ks[j].name, .slice B1 ks[j].kids.length C1] 29)) e0'
        have f1 := cell_later ((Below.refl wr.heap.size wr).alloc (Nat.le_refl _) (.cells #[.int .i64 ks[j].kind, .string ks[j].name, .slice B1 ks[j].kids.length C1] 29)) e1'
        have f2 := cell_later ((Below.refl wr.heap.size wr).alloc (Nat.le_refl _) (.cells #[.int .i64 ks[j].kind, .string ks[j].name, .slice B1 ks[j].kids.length C1] 29)) e2'
        have hb2 := (boxed_two wr (.int .i64 ks[j].kind) (.string ks[j].name) (.slice B1 ks[j].kids.length C1) (.int .i64 ks'[j].kind) (.string ks'[j].name) (.slice B1' ks'[j].kids.length C1') 29).2.2
        have HU := Lib.hid ((hu.later hbl).later hb2); have HU' := Lib.hid ((hu'.later hbl).later hb2)
        have HLT := Lib.hid hlt; have HLT' := Lib.hid hlt'
        have HAT := Lib.hid (fun hn => T.cmpAll_at ks ks' j hlt hlt' (fun m g => HZ.out m g (by omega) (by omega)) hn)
        obtain ⟨c, hcv⟩ : ∃ c, T.cmp ks[j] ks'[j] = c := ⟨_, rfl⟩
        have HCV := Lib.hid hcv
        have hc := HC.out j hlt hlt'
        have HC' := Lib.hid hc
        clear hcv hc hu hu'
        go_wp2_with fail
        refine (HC'.out _ _ _ HU.out HU'.out).mono ?_; rintro e w2 ⟨he, hb4⟩
        have he' : e = .returned (.int .i64 c) := he.trans (ret_i64 HCV.out)
        clear he; subst he'
        replace hb4 := hbl.trans ((hb2.trans (hb4.mono hb2.size)).mono hbl.size)
        clear f0 f1 f2 e0 e1 e2 e0' e1' e2'
        by_cases hc0 : c = 0
        · subst hc0
          go_wp2_with fail
          go_roundw
          case rel =>
            refine ⟨j + 1, HLT.out, HLT'.out, by go_num, fun m h g1 g2 => ?_, hb4⟩
            rcases Nat.lt_or_ge m j with g | g
            · exact HZ.out m g g1 g2
            · obtain rfl : m = j := by omega
              exact HCV.out
          case measure => have := HLT.out; simp [intOf]; omega
        · have hne : (c != 0) = true := by rw [bne_iff_ne]; exact hc0
          have HR := Lib.hid (HAT.out (fun h => hc0 (HCV.out.symm.trans h)))
          go_wp2_with fail
          go_ret
          exact ⟨ret_i64 (HCV.out.symm.trans HR.out.symm), hb4⟩
      · have hi' : (ks'.length : Int) ≤ (j : Int) := by omega
        have HL := Lib.hid (show T.cmpAll ks ks' = 1 by rw [T.cmpAll_len ks ks' (fun m g1 g2 => HZ.out m (by omega) g1 g2), if_neg (by omega), if_pos (by omega)])
        have hu1 := Lib.hid hu
        clear hu
        go_wp2_with fail
        go_ret
        exact ⟨ret_i64 HL.out.symm, hbl.alloc hbl.size _⟩
    · have hi : (ks.length : Int) ≤ (j : Int) := by omega
      have hl := T.cmpAll_len ks ks' (fun m g1 g2 => HZ.out m (by omega) g1 g2)
      by_cases g1 : ks.length < ks'.length
      · rw [if_pos g1] at hl
        have HL := Lib.hid hl; clear hl
        have q1 : (ks.length : Int) < (ks'.length : Int) := by omega
        go_wp2_with fail
        go_ret
        exact ⟨ret_i64 HL.out.symm, hbl⟩
      · rw [if_neg g1, if_neg (by omega)] at hl
        have HL := Lib.hid hl; clear hl
        have q1 : (ks'.length : Int) ≤ (ks.length : Int) := by omega
        go_wp2_with fail
        go_ret
        exact ⟨ret_i64 HL.out.symm, hbl⟩
end Go.Proofs.YtihbmgkbipeakaaGreat

namespace Go.Proofs.YtihbmgkbipeakaaGreat
open Go.RowKit

theorem T.cmp_or3 (k k' : Int) (s s' : ByteArray) (ks ks' : List T) : (T.mk k s ks).cmp (.mk k' s' ks') = T.or3 (T.ci k k') (T.cs s s') (T.cmpAll ks ks') := by
  have e : (T.mk k s ks).cmp (.mk k' s' ks') = if k < k' then -1 else if k' < k then 1 else if T.less s s' = true then -1 else if (s.toList == s'.toList) = false then 1 else T.cmpAll ks ks' := rfl
  rw [e]
  unfold T.or3 T.ci T.cs
  repeat' split
  all_goals first | rfl | omega | simp_all

/-- Six cells and a bound, as they stand while memory is made. -/
theorem six_later {w1 W W2 : World} {p0 p1 p2 p3 p4 p5 : Addr} {v0 v1 v2 v3 v4 v5 : Value} (h : W.cell? p0 = some v0 ∧ W.cell? p1 = some v1 ∧ W.cell? p2 = some v2 ∧ W.cell? p3 = some v3 ∧ W.cell? p4 = some v4 ∧ W.cell? p5 = some v5 ∧ Below w1.heap.size w1 W)
    (hb : Below W.heap.size W W2) : W2.cell? p0 = some v0 ∧ W2.cell? p1 = some v1 ∧ W2.cell? p2 = some v2 ∧ W2.cell? p3 = some v3 ∧ W2.cell? p4 = some v4 ∧ W2.cell? p5 = some v5 ∧ Below w1.heap.size w1 W2 := by
  obtain ⟨h0, h1, h2, h3, h4, h5, h6⟩ := h
  exact ⟨cell_later hb h0, cell_later hb h1, cell_later hb h2, cell_later hb h3, cell_later hb h4, cell_later hb h5, h6.trans (hb.mono h6.size)⟩

set_option maxRecDepth 100000 in
set_option maxHeartbeats 4000000 in
theorem ocmp : ∀ (N : Nat) (t t' : T) (v v' : Value) (w : World), t.bulk < N → TermAt w v t → TermAt w v' t' → t.bulk ≤ 1048576 → t'.bulk ≤ 1048576 →
    Calls Tryz.prog 103 #[v, v'] w fun e w' => e = .returned (.int .i64 (t.cmp t')) ∧ Below w.heap.size w w' := by
  intro N
  induction N with
  | zero => intro t t' v v' w h; omega
  | succ N ih =>
    intro t t' v v' w hN ht ht' hbk hbk'
    cases ht with
    | mk k s A cap ks U h1 h2 h3 h4 hA hU =>
    cases ht' with
    | mk k' s' A' cap' ks' U' h1' h2' h3' h4' hA' hU' =>
      simp only [T.bulk] at hN hbk hbk'
      have hkn : ks.length ≤ 1048576 := by have := T.len_le ks; omega
      have hkn' : ks'.length ≤ 1048576 := by have := T.len_le ks'; omega
      rw [T.cmp_or3]
      obtain ⟨hbx, hbx', hb1⟩ := boxed_two w (.int .i64 k) (.string s) (.slice A ks.length cap) (.int .i64 k') (.string s') (.slice A' ks'.length cap') 29
      have ht := TermAt.mk k s A cap ks U h1 h2 h3 h4 hA hU
      go_enter Tryz.func103, Tryz.ntmps103
      go_upto_region 1 with fail
      generalize (w.alloc (.cells #[.int .i64 k, .string s, .slice A ks.length cap] 29)).alloc (.cells #[.int .i64 k', .string s', .slice A' ks'.length cap'] 29) = w1 at hbx hbx' hb1 ⊢
      obtain ⟨x0, x1, x2⟩ := hbx
      obtain ⟨y0, y1, y2⟩ := hbx'
      have bA := Lib.hid hA; have bU := Lib.hid hU; have bA' := Lib.hid hA'; have bU' := Lib.hid hU'
      have hF : ∀ W, Below w1.heap.size w1 W → Calls Tryz.prog 137 #[.slice A ks.length cap, .slice A' ks'.length cap', .func (.func 103) #[] #[]] W fun e w' =>
          e = .returned (.int .i64 (T.cmpAll ks ks')) ∧ Below W.heap.size W w' := fun W hW => by
        have hWw := hb1.trans (hW.mono hb1.size)
        refine cmp_func A A' cap cap' ks ks' U U' W hkn hkn' ?_ (fun i h => (hU i h).later hWw) ?_ (fun i h => (hU' i h).later hWw) ?_
        · rcases hA with h | ⟨b, off, e, hc⟩
          · exact .inl h
          · exact .inr ⟨b, off, e, fun i hi => by obtain ⟨c0, c1, c2⟩ := hc i hi; exact ⟨cell_later hWw c0, cell_later hWw c1, cell_later hWw c2⟩⟩
        · rcases hA' with h | ⟨b, off, e, hc⟩
          · exact .inl h
          · exact .inr ⟨b, off, e, fun i hi => by obtain ⟨c0, c1, c2⟩ := hc i hi; exact ⟨cell_later hWw c0, cell_later hWw c1, cell_later hWw c2⟩⟩
        · intro j h h' v v' W' hv hv'
          have := T.bulk_at ks j h; have := T.bulk_at ks' j h'
          exact ih _ _ _ _ _ (by omega) hv hv' (by omega) (by omega)
      have HF := Lib.hid hF
      clear hA hU hA' hU' ht hF
      go_region_held3 (fun W => W.cell? ⟨w.heap.size, 0, none⟩ = some (.int .i64 k) ∧ W.cell? ⟨w.heap.size, 1, none⟩ = some (.string s) ∧ W.cell? ⟨w.heap.size, 2, none⟩ = some (.slice A ks.length cap) ∧ W.cell? ⟨w.heap.size + 1, 0, none⟩ = some (.int .i64 k') ∧ W.cell? ⟨w.heap.size + 1, 1, none⟩ = some (.string s') ∧ W.cell? ⟨w.heap.size + 1, 2, none⟩ = some (.slice A' ks'.length cap') ∧ Below w1.heap.size w1 W)
        (first | exact ⟨x0, x1, x2, y0, y1, y2, Below.refl _ _⟩ | exact ⟨x0, x1, x2, y0, y1, y2, (Below.refl _ _).drew⟩ | exact six_later (by assumption) hb4 | exact six_later (by assumption) ((Below.refl _ _).alloc (Nat.le_refl _) _) | go_keep)
        (first | (go_at_call 135; refine (cmp_int _ _ _).mono ?_; rintro e w' ⟨rfl, rfl⟩) | (go_at_call 136; refine (cmp_str _ _ _).mono ?_; rintro e w' ⟨rfl, rfl⟩) | (go_at_call 137; refine (HF.out _ (by first | assumption | exact Below.refl _ _ | exact (Below.refl _ _).drew)).mono ?_; rintro e w2 ⟨rfl, hb4⟩) | (go_at_call 134; refine (cmp_or _ _ _ _ _ _ (boxed_new _ _ _ _ _).1 (boxed_new _ _ _ _ _).2.1 (boxed_new _ _ _ _ _).2.2).mono ?_; rintro e w' ⟨rfl, rfl⟩))
      all_goals
        rename_i hS
        have hb5 := hS.2.2.2.2.2.2
        clear hS x0 x1 x2 y0 y1 y2
        go_wp2_with fail
        go_ret
        exact ⟨rfl, hb1.trans (hb5.mono hb1.size)⟩
end Go.Proofs.YtihbmgkbipeakaaGreat

namespace Go.Proofs.YtihbmgkbipeakaaGreat
open Go.RowKit

namespace T
def atom : T → Bool | .mk k _ _ => k == 1 || k == 2
/-- Do the number of kids and the first ones fit the kind of a term with a function? -/
def headOk (k : Int) (ks : List T) : Bool :=
  if k = 3 ∨ k = 5 then ks.length == 2 else if k = 6 then ks.length == 2 && ((ks[0]?).map atom).getD false else if k = 4 then ks.length == 1 else if k = 7 then (1 ≤ ks.length && ks.length ≤ 4) && !ks.any (fun t => !t.atom) else false
mutual
def shape : T → Bool
  | .mk k s ks => if k = 1 ∨ k = 2 then isName s && ks.length == 0 else (headOk k ks && s.toList.isEmpty) && shapeAll ks
def shapeAll : List T → Bool
  | [] => true
  | t :: r => shape t && shapeAll r
end
theorem shapeAll_any : ∀ l : List T, shapeAll l = !l.any fun t => !t.shape
  | [] => rfl
  | t :: r => by simp only [shapeAll, List.any_cons, Bool.not_or, Bool.not_not, shapeAll_any r]
/-- The place of the first term with a property, or -1. -/
def idx (p : T → Bool) : List T → Int
  | [] => -1
  | t :: r => if p t then 0 else if idx p r < 0 then -1 else idx p r + 1
theorem idx_iff (p : T → Bool) : ∀ l, 0 ≤ idx p l ↔ l.any p = true
  | [] => by simp [idx]
  | t :: r => by
    have h := idx_iff p r
    simp only [idx, List.any_cons, Bool.or_eq_true]
    rw [← h]
    rcases Bool.eq_false_or_eq_true (p t) with e | e
    · simp [e]
    · simp only [e, Bool.false_eq_true, if_false, false_or]
      split <;> omega
theorem idx_any (p : T → Bool) (l : List T) : decide (0 ≤ idx p l) = l.any p := by
  rw [Bool.eq_iff_iff, decide_eq_true_eq]; exact idx_iff p l
theorem idx_at (p : T → Bool) : ∀ (l : List T) (j : Nat) (h : j < l.length), (∀ m (g : m < j), p l[m] = false) → p l[j] = true → idx p l = j
  | [], j, h, _, _ => by simp at h
  | t :: r, 0, h, _, hp => by simp only [List.getElem_cons_zero] at hp; simp [idx, hp]
  | t :: r, j + 1, h, hz, hp => by
    have h0 := hz 0 (by omega)
    simp only [List.getElem_cons_zero] at h0
    have ih := idx_at p r j (by simpa using h) (fun m g => by have := hz (m + 1) (by omega); simpa using this) (by simpa using hp)
    simp only [idx, h0, ih]
    rw [if_neg (by simp), if_neg (by omega)]; push_cast; rfl
theorem idx_no (p : T → Bool) : ∀ (l : List T), (∀ m (g : m < l.length), p l[m] = false) → idx p l = -1
  | [], _ => rfl
  | t :: r, hz => by
    have h0 := hz 0 (by simp)
    simp only [List.getElem_cons_zero] at h0
    have ih := idx_no p r (fun m g => by have := hz (m + 1) (by simpa using g); simpa using this)
    simp [idx, h0, ih]
end T

set_option maxRecDepth 100000 in
set_option maxHeartbeats 2000000 in
theorem index_simple (p : T → Bool) (A : Option Addr) (cap : Nat) (ks : List T) (U : Nat → Value × Value × Value) (w : World) (hkn : ks.length ≤ 1048576)
    (hA : ks.length = 0 ∨ ∃ b off, A = some ⟨b, off, none⟩ ∧ ∀ i, i < ks.length → w.cell? ⟨b, off + i * 3, none⟩ = some (U i).1 ∧ w.cell? ⟨b, off + i * 3 + 1, none⟩ = some (U i).2.1 ∧ w.cell? ⟨b, off + i * 3 + 2, none⟩ = some (U i).2.2)
    (hU : ∀ i (h : i < ks.length), TermAt w (.agg #[(U i).1, (U i).2.1, (U i).2.2]) ks[i])
    (hC : ∀ j (h : j < ks.length) (v : Value) (W : World), TermAt W v ks[j] → Calls Tryz.prog 143 #[v] W fun e w' => e = .returned (.bool (p ks[j])) ∧ Below W.heap.size W w') :
    Calls Tryz.prog 123 #[.slice A ks.length cap, .func (.func 143) #[] #[]] w fun e w' => e = .returned (.int .i64 (T.idx p ks)) ∧ Below w.heap.size w w' := by
  have HC := Lib.hid hC; clear hC
  go_enter Tryz.func123, Tryz.ntmps123
  go_wp2_with fail
  go_loopw [8] (fun i wr => ∃ j : Nat, j ≤ ks.length ∧ i = .int .i64 j ∧ (∀ m (h : m < j) (h1 : m < ks.length), p ks[m] = false) ∧ Below w.heap.size w wr) (fun i _ => ks.length - (intOf i).toNat)
  case atStart => exact ⟨0, Nat.zero_le _, rfl, fun m h => absurd h (by omega), Below.refl _ _⟩
  case round =>
    obtain ⟨j, hj, rfl, hz, hbl⟩ := hrel
    have HZ := Lib.hid hz; clear hz
    by_cases hlt : j < ks.length
    · obtain ⟨b, off, B1, C1, rfl, d0, d1, d2, hu⟩ := TermAt.cells hlt hA hU
      have e0 := cell_later hbl d0; have e1 := cell_later hbl d1; have e2 := cell_later hbl d2
      have hi : (j : Int) < (ks.length : Int) := by omega
      clear d0 d1 d2
      have HU := Lib.hid (hu.later hbl)
      have HLT := Lib.hid hlt
      have hc := HC.out j hlt
      have HC' := Lib.hid hc
      clear hc hu
      obtain ⟨q, hq⟩ : ∃ q, p ks[j] = q := ⟨_, rfl⟩
      have HQ := Lib.hid hq; clear hq
      go_wp2_with fail
      refine (HC'.out _ _ HU.out).mono ?_; rintro e w2 ⟨he, hb4⟩
      have he' : e = .returned (.bool q) := he.trans (ret_bool HQ.out)
      clear he; subst he'
      replace hb4 := hbl.trans (hb4.mono hbl.size)
      clear e0 e1 e2
      cases q
      · go_wp2_with fail
        go_roundw
        case rel =>
          refine ⟨j + 1, HLT.out, by go_num, fun m h g1 => ?_, hb4⟩
          rcases Nat.lt_or_ge m j with g | g
          · exact HZ.out m g g1
          · obtain rfl : m = j := by omega
            exact HQ.out
        case measure => have := HLT.out; simp [intOf]; omega
      · have HR := Lib.hid (T.idx_at p ks j hlt (fun m g => HZ.out m g (by omega)) HQ.out)
        go_wp2_with fail
        go_ret
        exact ⟨ret_i64 HR.out.symm, hb4⟩
    · have hi : (ks.length : Int) ≤ (j : Int) := by omega
      have HL := Lib.hid (T.idx_no p ks (fun m g => HZ.out m (by omega) g))
      go_wp2_with fail
      go_ret
      exact ⟨ret_i64 HL.out.symm, hbl⟩
theorem contains_simple (p : T → Bool) (A : Option Addr) (cap : Nat) (ks : List T) (U : Nat → Value × Value × Value) (w : World) (hkn : ks.length ≤ 1048576)
    (hA : ks.length = 0 ∨ ∃ b off, A = some ⟨b, off, none⟩ ∧ ∀ i, i < ks.length → w.cell? ⟨b, off + i * 3, none⟩ = some (U i).1 ∧ w.cell? ⟨b, off + i * 3 + 1, none⟩ = some (U i).2.1 ∧ w.cell? ⟨b, off + i * 3 + 2, none⟩ = some (U i).2.2)
    (hU : ∀ i (h : i < ks.length), TermAt w (.agg #[(U i).1, (U i).2.1, (U i).2.2]) ks[i])
    (hC : ∀ j (h : j < ks.length) (v : Value) (W : World), TermAt W v ks[j] → Calls Tryz.prog 143 #[v] W fun e w' => e = .returned (.bool (p ks[j])) ∧ Below W.heap.size W w') (r : Bool) (hr : ks.any p = r) :
    Calls Tryz.prog 84 #[.slice A ks.length cap, .func (.func 143) #[] #[]] w fun e w' => e = .returned (.bool r) ∧ Below w.heap.size w w' := by
  have HI := Lib.hid (index_simple p A cap ks U w hkn hA hU hC)
  have HR := Lib.hid ((T.idx_any p ks).trans hr)
  clear hr hA hU hC
  generalize T.idx p ks = q at HI HR
  go_enter Tryz.func84, Tryz.ntmps84
  go_wp2_with fail
  refine HI.out.mono ?_; rintro e w2 ⟨rfl, hb4⟩
  go_wp2_with fail
  go_ret
  exact ⟨ret_bool HR.out, hb4⟩

set_option maxRecDepth 100000 in
set_option maxHeartbeats 2000000 in
theorem index_shape (p : T → Bool) (A : Option Addr) (cap : Nat) (ks : List T) (U : Nat → Value × Value × Value) (w : World) (hkn : ks.length ≤ 1048576)
    (hA : ks.length = 0 ∨ ∃ b off, A = some ⟨b, off, none⟩ ∧ ∀ i, i < ks.length → w.cell? ⟨b, off + i * 3, none⟩ = some (U i).1 ∧ w.cell? ⟨b, off + i * 3 + 1, none⟩ = some (U i).2.1 ∧ w.cell? ⟨b, off + i * 3 + 2, none⟩ = some (U i).2.2)
    (hU : ∀ i (h : i < ks.length), TermAt w (.agg #[(U i).1, (U i).2.1, (U i).2.2]) ks[i])
    (hC : ∀ j (h : j < ks.length) (v : Value) (W : World), TermAt W v ks[j] → Calls Tryz.prog 144 #[v] W fun e w' => e = .returned (.bool (p ks[j])) ∧ Below W.heap.size W w') :
    Calls Tryz.prog 123 #[.slice A ks.length cap, .func (.func 144) #[] #[]] w fun e w' => e = .returned (.int .i64 (T.idx p ks)) ∧ Below w.heap.size w w' := by
  have HC := Lib.hid hC; clear hC
  go_enter Tryz.func123, Tryz.ntmps123
  go_wp2_with fail
  go_loopw [8] (fun i wr => ∃ j : Nat, j ≤ ks.length ∧ i = .int .i64 j ∧ (∀ m (h : m < j) (h1 : m < ks.length), p ks[m] = false) ∧ Below w.heap.size w wr) (fun i _ => ks.length - (intOf i).toNat)
  case atStart => exact ⟨0, Nat.zero_le _, rfl, fun m h => absurd h (by omega), Below.refl _ _⟩
  case round =>
    obtain ⟨j, hj, rfl, hz, hbl⟩ := hrel
    have HZ := Lib.hid hz; clear hz
    by_cases hlt : j < ks.length
    · obtain ⟨b, off, B1, C1, rfl, d0, d1, d2, hu⟩ := TermAt.cells hlt hA hU
      have e0 := cell_later hbl d0; have e1 := cell_later hbl d1; have e2 := cell_later hbl d2
      have hi : (j : Int) < (ks.length : Int) := by omega
      clear d0 d1 d2
      have HU := Lib.hid (hu.later hbl)
      have HLT := Lib.hid hlt
      have hc := HC.out j hlt
      have HC' := Lib.hid hc
      clear hc hu
      obtain ⟨q, hq⟩ : ∃ q, p ks[j] = q := ⟨_, rfl⟩
      have HQ := Lib.hid hq; clear hq
      go_wp2_with fail
      refine (HC'.out _ _ HU.out).mono ?_; rintro e w2 ⟨he, hb4⟩
      have he' : e = .returned (.bool q) := he.trans (ret_bool HQ.out)
      clear he; subst he'
      replace hb4 := hbl.trans (hb4.mono hbl.size)
      clear e0 e1 e2
      cases q
      · go_wp2_with fail
        go_roundw
        case rel =>
          refine ⟨j + 1, HLT.out, by go_num, fun m h g1 => ?_, hb4⟩
          rcases Nat.lt_or_ge m j with g | g
          · exact HZ.out m g g1
          · obtain rfl : m = j := by omega
            exact HQ.out
        case measure => have := HLT.out; simp [intOf]; omega
      · have HR := Lib.hid (T.idx_at p ks j hlt (fun m g => HZ.out m g (by omega)) HQ.out)
        go_wp2_with fail
        go_ret
        exact ⟨ret_i64 HR.out.symm, hb4⟩
    · have hi : (ks.length : Int) ≤ (j : Int) := by omega
      have HL := Lib.hid (T.idx_no p ks (fun m g => HZ.out m (by omega) g))
      go_wp2_with fail
      go_ret
      exact ⟨ret_i64 HL.out.symm, hbl⟩
theorem contains_shape (p : T → Bool) (A : Option Addr) (cap : Nat) (ks : List T) (U : Nat → Value × Value × Value) (w : World) (hkn : ks.length ≤ 1048576)
    (hA : ks.length = 0 ∨ ∃ b off, A = some ⟨b, off, none⟩ ∧ ∀ i, i < ks.length → w.cell? ⟨b, off + i * 3, none⟩ = some (U i).1 ∧ w.cell? ⟨b, off + i * 3 + 1, none⟩ = some (U i).2.1 ∧ w.cell? ⟨b, off + i * 3 + 2, none⟩ = some (U i).2.2)
    (hU : ∀ i (h : i < ks.length), TermAt w (.agg #[(U i).1, (U i).2.1, (U i).2.2]) ks[i])
    (hC : ∀ j (h : j < ks.length) (v : Value) (W : World), TermAt W v ks[j] → Calls Tryz.prog 144 #[v] W fun e w' => e = .returned (.bool (p ks[j])) ∧ Below W.heap.size W w') (r : Bool) (hr : ks.any p = r) :
    Calls Tryz.prog 84 #[.slice A ks.length cap, .func (.func 144) #[] #[]] w fun e w' => e = .returned (.bool r) ∧ Below w.heap.size w w' := by
  have HI := Lib.hid (index_shape p A cap ks U w hkn hA hU hC)
  have HR := Lib.hid ((T.idx_any p ks).trans hr)
  clear hr hA hU hC
  generalize T.idx p ks = q at HI HR
  go_enter Tryz.func84, Tryz.ntmps84
  go_wp2_with fail
  refine HI.out.mono ?_; rintro e w2 ⟨rfl, hb4⟩
  go_wp2_with fail
  go_ret
  exact ⟨ret_bool HR.out, hb4⟩

set_option maxRecDepth 100000 in
set_option maxHeartbeats 2000000 in
theorem index_var (p : T → Bool) (A : Option Addr) (cap : Nat) (ks : List T) (U : Nat → Value × Value × Value) (w : World) (hkn : ks.length ≤ 1048576)
    (hA : ks.length = 0 ∨ ∃ b off, A = some ⟨b, off, none⟩ ∧ ∀ i, i < ks.length → w.cell? ⟨b, off + i * 3, none⟩ = some (U i).1 ∧ w.cell? ⟨b, off + i * 3 + 1, none⟩ = some (U i).2.1 ∧ w.cell? ⟨b, off + i * 3 + 2, none⟩ = some (U i).2.2)
    (hU : ∀ i (h : i < ks.length), TermAt w (.agg #[(U i).1, (U i).2.1, (U i).2.2]) ks[i])
    (hC : ∀ j (h : j < ks.length) (v : Value) (W : World), TermAt W v ks[j] → Calls Tryz.prog 118 #[v] W fun e w' => e = .returned (.bool (p ks[j])) ∧ Below W.heap.size W w') :
    Calls Tryz.prog 123 #[.slice A ks.length cap, .func (.func 118) #[] #[]] w fun e w' => e = .returned (.int .i64 (T.idx p ks)) ∧ Below w.heap.size w w' := by
  have HC := Lib.hid hC; clear hC
  go_enter Tryz.func123, Tryz.ntmps123
  go_wp2_with fail
  go_loopw [8] (fun i wr => ∃ j : Nat, j ≤ ks.length ∧ i = .int .i64 j ∧ (∀ m (h : m < j) (h1 : m < ks.length), p ks[m] = false) ∧ Below w.heap.size w wr) (fun i _ => ks.length - (intOf i).toNat)
  case atStart => exact ⟨0, Nat.zero_le _, rfl, fun m h => absurd h (by omega), Below.refl _ _⟩
  case round =>
    obtain ⟨j, hj, rfl, hz, hbl⟩ := hrel
    have HZ := Lib.hid hz; clear hz
    by_cases hlt : j < ks.length
    · obtain ⟨b, off, B1, C1, rfl, d0, d1, d2, hu⟩ := TermAt.cells hlt hA hU
      have e0 := cell_later hbl d0; have e1 := cell_later hbl d1; have e2 := cell_later hbl d2
      have hi : (j : Int) < (ks.length : Int) := by omega
      clear d0 d1 d2
      have HU := Lib.hid (hu.later hbl)
      have HLT := Lib.hid hlt
      have hc := HC.out j hlt
      have HC' := Lib.hid hc
      clear hc hu
      obtain ⟨q, hq⟩ : ∃ q, p ks[j] = q := ⟨_, rfl⟩
      have HQ := Lib.hid hq; clear hq
      go_wp2_with fail
      refine (HC'.out _ _ HU.out).mono ?_; rintro e w2 ⟨he, hb4⟩
      have he' : e = .returned (.bool q) := he.trans (ret_bool HQ.out)
      clear he; subst he'
      replace hb4 := hbl.trans (hb4.mono hbl.size)
      clear e0 e1 e2
      cases q
      · go_wp2_with fail
        go_roundw
        case rel =>
          refine ⟨j + 1, HLT.out, by go_num, fun m h g1 => ?_, hb4⟩
          rcases Nat.lt_or_ge m j with g | g
          · exact HZ.out m g g1
          · obtain rfl : m = j := by omega
            exact HQ.out
        case measure => have := HLT.out; simp [intOf]; omega
      · have HR := Lib.hid (T.idx_at p ks j hlt (fun m g => HZ.out m g (by omega)) HQ.out)
        go_wp2_with fail
        go_ret
        exact ⟨ret_i64 HR.out.symm, hb4⟩
    · have hi : (ks.length : Int) ≤ (j : Int) := by omega
      have HL := Lib.hid (T.idx_no p ks (fun m g => HZ.out m (by omega) g))
      go_wp2_with fail
      go_ret
      exact ⟨ret_i64 HL.out.symm, hbl⟩
theorem contains_var (p : T → Bool) (A : Option Addr) (cap : Nat) (ks : List T) (U : Nat → Value × Value × Value) (w : World) (hkn : ks.length ≤ 1048576)
    (hA : ks.length = 0 ∨ ∃ b off, A = some ⟨b, off, none⟩ ∧ ∀ i, i < ks.length → w.cell? ⟨b, off + i * 3, none⟩ = some (U i).1 ∧ w.cell? ⟨b, off + i * 3 + 1, none⟩ = some (U i).2.1 ∧ w.cell? ⟨b, off + i * 3 + 2, none⟩ = some (U i).2.2)
    (hU : ∀ i (h : i < ks.length), TermAt w (.agg #[(U i).1, (U i).2.1, (U i).2.2]) ks[i])
    (hC : ∀ j (h : j < ks.length) (v : Value) (W : World), TermAt W v ks[j] → Calls Tryz.prog 118 #[v] W fun e w' => e = .returned (.bool (p ks[j])) ∧ Below W.heap.size W w') (r : Bool) (hr : ks.any p = r) :
    Calls Tryz.prog 84 #[.slice A ks.length cap, .func (.func 118) #[] #[]] w fun e w' => e = .returned (.bool r) ∧ Below w.heap.size w w' := by
  have HI := Lib.hid (index_var p A cap ks U w hkn hA hU hC)
  have HR := Lib.hid ((T.idx_any p ks).trans hr)
  clear hr hA hU hC
  generalize T.idx p ks = q at HI HR
  go_enter Tryz.func84, Tryz.ntmps84
  go_wp2_with fail
  refine HI.out.mono ?_; rintro e w2 ⟨rfl, hb4⟩
  go_wp2_with fail
  go_ret
  exact ⟨ret_bool HR.out, hb4⟩

end Go.Proofs.YtihbmgkbipeakaaGreat

namespace Go.Proofs.YtihbmgkbipeakaaGreat
open Go.RowKit

namespace T
theorem atom_cases (k : Int) (s : ByteArray) (ks : List T) : (k = 1 ∧ (T.mk k s ks).atom = true) ∨ ((k == 1) = false ∧ k = 2 ∧ (T.mk k s ks).atom = true) ∨ ((k == 1) = false ∧ (k == 2) = false ∧ (T.mk k s ks).atom = false) := by
  unfold atom
  by_cases h : k = 1
  · left; subst h; exact ⟨rfl, rfl⟩
  · by_cases h' : k = 2
    · right; left; subst h'; exact ⟨rfl, rfl, rfl⟩
    · right; right; have a : (k == 1) = false := by rw [beq_eq_false_iff_ne]; exact h
      have b : (k == 2) = false := by rw [beq_eq_false_iff_ne]; exact h'
      exact ⟨a, b, by simp only [a, b]; rfl⟩
end T
theorem size_alloc1 (w : World) (o : Obj) : (w.alloc o).heap.size = w.heap.size + 1 := by show (w.heap.push _).size = _; rw [Array.size_push]
theorem below_alloc1 (w : World) (o : Obj) : Below w.heap.size w (w.alloc o) := (Below.refl _ _).alloc (Nat.le_refl _) _

theorem osimple (t : T) (v : Value) (w : World) (ht : TermAt w v t) (r : Bool) (hr : t.atom = r) :
    Calls Tryz.prog 142 #[v] w fun e w' => e = .returned (.bool r) ∧ Below w.heap.size w w' := by
  cases ht with
  | mk k s A cap ks U h1 h2 h3 h4 hA hU =>
    clear hA hU
    rcases T.atom_cases k s ks with ⟨rfl, e⟩ | ⟨g, rfl, e⟩ | ⟨g, g', e⟩
    all_goals
      have E := Lib.hid (e.symm.trans hr); clear e hr
      go_enter Tryz.func142, Tryz.ntmps142
      go_wp2
      go_ret
      exact ⟨ret_bool E.out, below_alloc1 _ _⟩
theorem ratom (t : T) (v : Value) (w : World) (ht : TermAt w v t) (r : Bool) (hr : t.atom = r) :
    Calls Tryz.prog 154 #[v] w fun e w' => e = .returned (.bool r) ∧ Below w.heap.size w w' := by
  cases ht with
  | mk k s A cap ks U h1 h2 h3 h4 hA hU =>
    clear hA hU
    rcases T.atom_cases k s ks with ⟨rfl, e⟩ | ⟨g, rfl, e⟩ | ⟨g, g', e⟩
    all_goals
      have E := Lib.hid (e.symm.trans hr); clear e hr
      go_enter Tryz.func154, Tryz.ntmps154
      go_wp2
      go_ret
      exact ⟨ret_bool E.out, below_alloc1 _ _⟩
theorem shape1 (t : T) (v : Value) (w : World) (ht : TermAt w v t) :
    Calls Tryz.prog 143 #[v] w fun e w' => e = .returned (.bool (!t.atom)) ∧ Below w.heap.size w w' := by
  have h := fun W hW => osimple t v W hW t.atom rfl
  have H := Lib.hid h; clear h
  generalize t.atom = q at *
  cases ht with
  | mk k s A cap ks U h1 h2 h3 h4 hA hU =>
    have HT := Lib.hid (TermAt.mk k s A cap ks U h1 h2 h3 h4 hA hU)
    clear hA hU
    go_enter Tryz.func143, Tryz.ntmps143
    go_wp2_with fail
    refine (H.out _ (HT.out.later (below_alloc1 _ _))).mono ?_; rintro e w2 ⟨rfl, hb⟩
    replace hb := (below_alloc1 _ _).trans (hb.mono (below_alloc1 _ _).size)
    go_wp2_with fail
    go_ret
    exact ⟨rfl, hb⟩
theorem shape2 (t : T) (v : Value) (w : World) (ht : TermAt w v t) (h : ∀ W, TermAt W v t → Calls Tryz.prog 116 #[v] W fun e w' => e = .returned (.bool t.shape) ∧ Below W.heap.size W w') :
    Calls Tryz.prog 144 #[v] w fun e w' => e = .returned (.bool (!t.shape)) ∧ Below w.heap.size w w' := by
  have H := Lib.hid h; clear h
  generalize t.shape = q at *
  cases ht with
  | mk k s A cap ks U h1 h2 h3 h4 hA hU =>
    have HT := Lib.hid (TermAt.mk k s A cap ks U h1 h2 h3 h4 hA hU)
    clear hA hU
    go_enter Tryz.func144, Tryz.ntmps144
    go_wp2_with fail
    refine (H.out _ (HT.out.later (below_alloc1 _ _))).mono ?_; rintro e w2 ⟨rfl, hb⟩
    replace hb := (below_alloc1 _ _).trans (hb.mono (below_alloc1 _ _).size)
    go_wp2_with fail
    go_ret
    exact ⟨rfl, hb⟩

namespace T
theorem shape_head (k : Int) (s : ByteArray) (ks : List T) (h : k ≠ 1) (h' : k ≠ 2) : (T.mk k s ks).shape = ((headOk k ks && s.toList.isEmpty) && !ks.any fun t => !t.shape) := by
  simp only [shape, h, h', or_self, if_false, shapeAll_any]
theorem shape_atom (k : Int) (s : ByteArray) (ks : List T) (h : k = 1 ∨ k = 2) : (T.mk k s ks).shape = (isName s && ks.length == 0) := by
  simp only [shape, h, if_true]
end T
set_option maxRecDepth 100000 in
set_option maxHeartbeats 4000000 in
theorem oshape : ∀ (N : Nat) (t : T) (v : Value) (w : World), t.bulk < N → TermAt w v t → t.bulk ≤ 1048576 →
    Calls Tryz.prog 116 #[v] w fun e w' => e = .returned (.bool t.shape) ∧ Below w.heap.size w w' := by
  intro N
  induction N with
  | zero => intro t v w h; omega
  | succ N ih =>
    intro t v w hN ht hbk
    cases ht with
    | mk k s A cap ks U h1 h2 h3 h4 hA hU =>
      simp only [T.bulk] at hN hbk
      have hkn : ks.length ≤ 1048576 := by have := T.len_le ks; omega
      have hbx := boxed_new w (.int .i64 k) (.string s) (.slice A ks.length cap) 29
      have hb1 := below_alloc1 w (.cells #[.int .i64 k, .string s, .slice A ks.length cap] 29)
      obtain ⟨R, hR⟩ : ∃ R, (T.mk k s ks).shape = R := ⟨_, rfl⟩
      rw [hR]
      go_enter Tryz.func116, Tryz.ntmps116
      go_upto_region 1 with fail
      generalize w.alloc (.cells #[.int .i64 k, .string s, .slice A ks.length cap] 29) = w1 at hbx hb1 ⊢
      obtain ⟨x0, x1, x2⟩ := hbx
      have hkids : ∀ W, Below w1.heap.size w1 W → ∀ r, (ks.any fun t => !t.shape) = r → Calls Tryz.prog 84 #[.slice A ks.length cap, .func (.func 144) #[] #[]] W fun e w' => e = .returned (.bool r) ∧ Below W.heap.size W w' := fun W hW r hr => by
        have hWw := hb1.trans (hW.mono hb1.size)
        refine contains_shape (fun t => !t.shape) A cap ks U W hkn ?_ (fun i h => (hU i h).later hWw) ?_ r hr
        · rcases hA with h | ⟨b, off, e, hc⟩
          · exact .inl h
          · exact .inr ⟨b, off, e, fun i hi => by obtain ⟨c0, c1, c2⟩ := hc i hi; exact ⟨cell_later hWw c0, cell_later hWw c1, cell_later hWw c2⟩⟩
        · intro j h v' W' hv
          have := T.bulk_at ks j h
          exact shape2 _ _ _ hv fun W'' hW'' => ih _ _ _ (by omega) hW'' (by omega)
      have hatoms : ∀ W, Below w1.heap.size w1 W → ∀ r, (ks.any fun t => !t.atom) = r → Calls Tryz.prog 84 #[.slice A ks.length cap, .func (.func 143) #[] #[]] W fun e w' => e = .returned (.bool r) ∧ Below W.heap.size W w' := fun W hW r hr => by
        have hWw := hb1.trans (hW.mono hb1.size)
        refine contains_simple (fun t => !t.atom) A cap ks U W hkn ?_ (fun i h => (hU i h).later hWw) ?_ r hr
        · rcases hA with h | ⟨b, off, e, hc⟩
          · exact .inl h
          · exact .inr ⟨b, off, e, fun i hi => by obtain ⟨c0, c1, c2⟩ := hc i hi; exact ⟨cell_later hWw c0, cell_later hWw c1, cell_later hWw c2⟩⟩
        · intro j h v' W' hv
          exact shape1 _ _ _ hv
      have HK := Lib.hid hkids; have HAT := Lib.hid hatoms
      have BA := Lib.hid hA; have BU := Lib.hid hU
      have HS2 := Lib.hid h2
      clear hkids hatoms hA hU h2 ih
      by_cases k12 : k = 1 ∨ k = 2
      · rw [T.shape_atom k s ks k12] at hR
        rcases Bool.eq_false_or_eq_true (T.isName s) with hn | hn
        · by_cases l0 : ks.length = 0
          · have HR := Lib.hid (show true = R by rw [← hR, hn, l0]; rfl)
            have g : ((ks.length : Int) == 0) = true := by rw [l0]; rfl
            have HL := Lib.hid l0
            clear hR l0
            rcases k12 with rfl | rfl
            all_goals
              go_wp2_with (go_at_call 58; refine (oname _ _ HS2.out).mono ?_; rintro e w' ⟨rfl, rfl⟩)
              go_ret
              exact ⟨ret_bool HR.out, hb1⟩
          · have HR := Lib.hid (show false = R by rw [← hR, hn, Bool.true_and]; exact (beq_eq_false_iff_ne.2 l0).symm)
            have g : ((ks.length : Int) == 0) = false := by rw [beq_eq_false_iff_ne]; omega
            clear hR l0
            rcases k12 with rfl | rfl
            all_goals
              go_wp2_with (go_at_call 58; refine (oname _ _ HS2.out).mono ?_; rintro e w' ⟨rfl, rfl⟩)
              go_ret
              exact ⟨ret_bool HR.out, hb1⟩
        · have HR := Lib.hid (show false = R by rw [← hR, hn]; rfl)
          clear hR
          rcases k12 with rfl | rfl
          all_goals
            go_wp2_with (go_at_call 58; refine (oname _ _ HS2.out).mono ?_; rintro e w' ⟨rfl, rfl⟩)
            go_ret
            exact ⟨ret_bool HR.out, hb1⟩
      · have k1 : k ≠ 1 := fun h => k12 (.inl h)
        have k2 : k ≠ 2 := fun h => k12 (.inr h)
        rw [T.shape_head k s ks k1 k2] at hR
        have k1' : (k == 1) = false := by rw [beq_eq_false_iff_ne]; exact k1
        have k2' : (k == 2) = false := by rw [beq_eq_false_iff_ne]; exact k2
        clear k12
        by_cases k35 : k = 3 ∨ k = 5
        · by_cases l2 : ks.length = 2
          · have hd : T.headOk k ks = true := by unfold T.headOk; rw [if_pos k35, l2]; rfl
            have g : ((ks.length : Int) != 2) = false := by rw [l2]; rfl
            have HL := Lib.hid l2
            clear l2 k1 k2 k1' k2'
            rcases k35 with rfl | rfl
            all_goals
              rcases Bool.eq_false_or_eq_true s.toList.isEmpty with hs0 | hs0
              · have HR := Lib.hid (show (!ks.any fun t => !t.shape) = R by rw [← hR, hd, hs0]; rfl)
                obtain ⟨q, hq⟩ : ∃ q, (ks.any fun t => !t.shape) = q := ⟨_, rfl⟩
                have HQ := Lib.hid hq
                clear hR hd hq
                skip
                go_wp2_with ((go_at_call 84; refine (HK.out _ (by first | assumption | exact Below.refl _ _) q HQ.out).mono ?_; rintro e w3 ⟨rfl, hb3⟩))
                go_ret
                exact ⟨ret_bool (by rw [← HR.out, HQ.out]), hb1.trans (hb3.mono hb1.size)⟩
              · have HR := Lib.hid (show false = R by rw [← hR, hd, hs0]; rfl)
                clear hR hd
                skip
                go_wp2_with (fail)
                go_ret
                exact ⟨ret_bool HR.out, hb1⟩
          have hd : T.headOk k ks = false := by unfold T.headOk; rw [if_pos k35]; exact beq_eq_false_iff_ne.2 l2
          have HR := Lib.hid (show false = R by rw [← hR, hd]; rfl)
          have g : ((ks.length : Int) != 2) = true := by rw [bne_iff_ne]; omega
          clear l2 k1 k2 k1' k2' hd hR
          rcases k35 with rfl | rfl
          all_goals
            go_wp2_with fail
            go_ret
            exact ⟨ret_bool HR.out, hb1⟩
        have k3 : (k == 3) = false := by rw [beq_eq_false_iff_ne]; omega
        have k5 : (k == 5) = false := by rw [beq_eq_false_iff_ne]; omega
        by_cases k6 : k = 6
        · subst k6
          by_cases l2 : ks.length = 2
          · have l0 : 0 < ks.length := by omega
            obtain ⟨b, off, B1, C1, rfl, d0, d1, d2, hu⟩ := TermAt.cells l0 BA.out BU.out
            have e0 := cell_later hb1 d0; have e1 := cell_later hb1 d1; have e2 := cell_later hb1 d2
            simp only [Nat.zero_mul, Nat.add_zero] at e0 e1 e2
            have HU := Lib.hid (hu.later hb1)
            have g : ((ks.length : Int) != 2) = false := by rw [l2]; rfl
            have l0' : (0 : Int) < (ks.length : Int) := by omega
            have hhd : T.headOk 6 ks = ks[0].atom := by unfold T.headOk; simp [l2]
            obtain ⟨q0, hq0⟩ : ∃ q, ks[0].atom = q := ⟨_, rfl⟩
            have HQ0 := Lib.hid hq0
            have hd := hhd.trans hq0
            have HL := Lib.hid l2
            clear d0 d1 d2 hhd hq0 hu l2 k1 k2 k1' k2' k3 k5 k35
            cases q0
            · have HR := Lib.hid (show false = R by rw [← hR, hd]; rfl)
              clear hR hd
              go_wp2_with (go_at_call 142; refine (osimple _ _ _ HU.out _ HQ0.out).mono ?_; rintro e w2 ⟨rfl, hb2⟩; have y0 := cell_later hb2 x0; have y1 := cell_later hb2 x1; have y2 := cell_later hb2 x2)
              go_ret
              exact ⟨ret_bool HR.out, hb1.trans (hb2.mono hb1.size)⟩
            · rcases Bool.eq_false_or_eq_true s.toList.isEmpty with hs0 | hs0
              · have HR := Lib.hid (show (!ks.any fun t => !t.shape) = R by rw [← hR, hd, hs0]; rfl)
                obtain ⟨q, hq⟩ : ∃ q, (ks.any fun t => !t.shape) = q := ⟨_, rfl⟩
                have HQ := Lib.hid hq
                clear hR hd hq
                skip
                go_wp2_with (first | (go_at_call 142; refine (osimple _ _ _ HU.out _ HQ0.out).mono ?_; rintro e w2 ⟨rfl, hb2⟩; have y0 := cell_later hb2 x0; have y1 := cell_later hb2 x1; have y2 := cell_later hb2 x2) | (go_at_call 84; refine (HK.out _ (by first | assumption | exact Below.refl _ _) q HQ.out).mono ?_; rintro e w3 ⟨rfl, hb3⟩))
                go_ret
                exact ⟨ret_bool (by rw [← HR.out, HQ.out]), hb1.trans ((hb2.trans (hb3.mono hb2.size)).mono hb1.size)⟩
              · have HR := Lib.hid (show false = R by rw [← hR, hd, hs0]; rfl)
                clear hR hd
                skip
                go_wp2_with (first | (go_at_call 142; refine (osimple _ _ _ HU.out _ HQ0.out).mono ?_; rintro e w2 ⟨rfl, hb2⟩; have y0 := cell_later hb2 x0; have y1 := cell_later hb2 x1; have y2 := cell_later hb2 x2) | fail)
                go_ret
                exact ⟨ret_bool HR.out, hb1.trans (hb2.mono hb1.size)⟩
          have hd : T.headOk 6 ks = false := by unfold T.headOk; simp [l2]
          have HR := Lib.hid (show false = R by rw [← hR, hd]; rfl)
          have g : ((ks.length : Int) != 2) = true := by rw [bne_iff_ne]; omega
          clear l2 k1 k2 k1' k2' k3 k5 k35 hd hR
          go_wp2_with fail
          go_ret
          exact ⟨ret_bool HR.out, hb1⟩
        have k6' : (k == 6) = false := by rw [beq_eq_false_iff_ne]; exact k6
        by_cases k4 : k = 4
        · subst k4
          by_cases l2 : ks.length = 1
          · have hd : T.headOk 4 ks = true := by unfold T.headOk; simp [l2]
            have g : ((ks.length : Int) != 1) = false := by rw [l2]; rfl
            have HL := Lib.hid l2
            clear l2 k1 k2 k1' k2' k3 k5 k35 k6 k6'
            rcases Bool.eq_false_or_eq_true s.toList.isEmpty with hs0 | hs0
            · have HR := Lib.hid (show (!ks.any fun t => !t.shape) = R by rw [← hR, hd, hs0]; rfl)
              obtain ⟨q, hq⟩ : ∃ q, (ks.any fun t => !t.shape) = q := ⟨_, rfl⟩
              have HQ := Lib.hid hq
              clear hR hd hq
              skip
              go_wp2_with ((go_at_call 84; refine (HK.out _ (by first | assumption | exact Below.refl _ _) q HQ.out).mono ?_; rintro e w3 ⟨rfl, hb3⟩))
              go_ret
              exact ⟨ret_bool (by rw [← HR.out, HQ.out]), hb1.trans (hb3.mono hb1.size)⟩
            · have HR := Lib.hid (show false = R by rw [← hR, hd, hs0]; rfl)
              clear hR hd
              skip
              go_wp2_with (fail)
              go_ret
              exact ⟨ret_bool HR.out, hb1⟩
          have hd : T.headOk 4 ks = false := by unfold T.headOk; simp [l2]
          have HR := Lib.hid (show false = R by rw [← hR, hd]; rfl)
          have g : ((ks.length : Int) != 1) = true := by rw [bne_iff_ne]; omega
          clear l2 k1 k2 k1' k2' k3 k5 k35 k6 k6' hd hR
          go_wp2_with fail
          go_ret
          exact ⟨ret_bool HR.out, hb1⟩
        have k4' : (k == 4) = false := by rw [beq_eq_false_iff_ne]; exact k4
        by_cases k7 : k = 7
        · subst k7
          have hhd : T.headOk 7 ks = ((decide (1 ≤ ks.length) && decide (ks.length ≤ 4)) && !ks.any (fun t => !t.atom)) := by unfold T.headOk; simp
          by_cases l1 : ks.length < 1
          · have hd : T.headOk 7 ks = false := by rw [hhd, decide_eq_false (by omega)]; rfl
            have HR := Lib.hid (show false = R by rw [← hR, hd]; rfl)
            have g : (ks.length : Int) < 1 := by omega
            clear l1 k1 k2 k1' k2' k3 k5 k35 k6 k6' k4 k4' hd hR hhd
            go_wp2_with fail
            go_ret
            exact ⟨ret_bool HR.out, hb1⟩
          by_cases l4 : 4 < ks.length
          · have hd : T.headOk 7 ks = false := by rw [hhd, decide_eq_false (show ¬ ks.length ≤ 4 by omega), Bool.and_false]; rfl
            have HR := Lib.hid (show false = R by rw [← hR, hd]; rfl)
            have g : (1 : Int) ≤ (ks.length : Int) := by omega
            have g' : (4 : Int) < (ks.length : Int) := by omega
            clear l1 l4 k1 k2 k1' k2' k3 k5 k35 k6 k6' k4 k4' hd hR hhd
            go_wp2_with fail
            go_ret
            exact ⟨ret_bool HR.out, hb1⟩
          obtain ⟨q0, hq0⟩ : ∃ q, (ks.any fun t => !t.atom) = q := ⟨_, rfl⟩
          have HQ0 := Lib.hid hq0
          have hd : T.headOk 7 ks = !q0 := by rw [hhd, decide_eq_true (by omega), decide_eq_true (by omega), hq0]; rfl
          have g : (1 : Int) ≤ (ks.length : Int) := by omega
          have g' : (ks.length : Int) ≤ 4 := by omega
          clear l1 l4 k1 k2 k1' k2' k3 k5 k35 k6 k6' k4 k4' hhd hq0
          cases q0
          rotate_left
          · have HR := Lib.hid (show false = R by rw [← hR, hd]; rfl)
            clear hR hd
            go_wp2_with (go_at_call 84; refine (HAT.out _ (Below.refl _ _) _ HQ0.out).mono ?_; rintro e w2 ⟨rfl, hb2⟩; have y0 := cell_later hb2 x0; have y1 := cell_later hb2 x1; have y2 := cell_later hb2 x2)
            go_ret
            exact ⟨ret_bool HR.out, hb1.trans (hb2.mono hb1.size)⟩
          rw [Bool.not_false] at hd
          go_wp2_with fail
          refine (HAT.out _ (Below.refl _ _) _ HQ0.out).mono ?_; rintro e w2 ⟨rfl, hb2⟩; have y0 := cell_later hb2 x0; have y1 := cell_later hb2 x1; have y2 := cell_later hb2 x2
          clear x0 x1 x2
          rcases Bool.eq_false_or_eq_true s.toList.isEmpty with hs0 | hs0
          · have HR := Lib.hid (show (!ks.any fun t => !t.shape) = R by rw [← hR, hd, hs0]; rfl)
            obtain ⟨q, hq⟩ : ∃ q, (ks.any fun t => !t.shape) = q := ⟨_, rfl⟩
            have HQ := Lib.hid hq
            clear hR hd hq
            skip
            go_wp2_with ((go_at_call 84; refine (HK.out _ (by first | assumption | exact Below.refl _ _) q HQ.out).mono ?_; rintro e w3 ⟨rfl, hb3⟩))
            go_ret
            exact ⟨ret_bool (by rw [← HR.out, HQ.out]), hb1.trans ((hb2.trans (hb3.mono hb2.size)).mono hb1.size)⟩
          · have HR := Lib.hid (show false = R by rw [← hR, hd, hs0]; rfl)
            clear hR hd
            skip
            go_wp2_with (fail)
            go_ret
            exact ⟨ret_bool HR.out, hb1.trans (hb2.mono hb1.size)⟩
        have k7' : (k == 7) = false := by rw [beq_eq_false_iff_ne]; exact k7
        have hd : T.headOk k ks = false := by unfold T.headOk; rw [if_neg k35, if_neg k6, if_neg k4, if_neg k7]
        have HR := Lib.hid (show false = R by rw [← hR, hd]; rfl)
        clear hd hR k35 k6 k4 k7 k1 k2
        go_wp2_with fail
        go_ret
        exact ⟨ret_bool HR.out, hb1⟩
end Go.Proofs.YtihbmgkbipeakaaGreat
