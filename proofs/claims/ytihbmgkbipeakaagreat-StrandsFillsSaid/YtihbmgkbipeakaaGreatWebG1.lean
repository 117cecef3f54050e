/- Several texts in one: TermName, TermCmp, TermOrd, TermCmpO, TermCmpP, TermShape. -/
import Derived.Test.YtihbmgkbipeakaaGreatWebG0
import Derived.Deep.RegionWith
import Derived.Deep.Cut
import Derived.StillTailTactics
import Derived.Deep.RegionHeld3
namespace Go.Proofs.YtihbmgkbipeakaaGreat
open Go.RowKit

theorem u8_le (b : UInt8) : 0 ≤ (b.toNat : Int) ∧ (b.toNat : Int) ≤ 255 := by have := b.toNat_lt; omega
namespace T
def low (c : UInt8) : Bool := decide (97 ≤ (c.toNat : Int)) && decide ((c.toNat : Int) ≤ 122)
def dig (c : UInt8) : Bool := decide (48 ≤ (c.toNat : Int)) && decide ((c.toNat : Int) ≤ 57)
/-- May the k-th byte of a name stand there. -/
def nmAt (l : List UInt8) (k : Nat) : Bool := low (l.getD k 0) || (decide (0 < k) && dig (l.getD k 0))
def nmAll (l : List UInt8) : Bool := (List.range l.length).all (nmAt l)
def isName (s : ByteArray) : Bool := nmAll s.data.toList && (decide (1 ≤ s.size) && decide (s.size ≤ 16))
theorem nmAll_no {l : List UInt8} {k : Nat} (hk : k < l.length) (h : nmAt l k = false) : nmAll l = false := by
  rw [Bool.eq_false_iff]; intro hh
  have := List.all_eq_true.1 hh k (List.mem_range.2 hk)
  rw [h] at this; cases this
theorem nmAll_yes {l : List UInt8} (h : ∀ k, k < l.length → nmAt l k = true) : nmAll l = true :=
  List.all_eq_true.2 fun k hk => h k (List.mem_range.1 hk)
theorem getD_at (s : ByteArray) (k : Nat) (hk : k < s.size) : s.data.toList.getD k 0 = s[k] := by
  have h : k < s.data.toList.length := by simpa using hk
  simp only [List.getD, List.getElem?_eq_getElem h, Option.getD_some]; rfl
theorem size_len (s : ByteArray) : s.data.toList.length = s.size := by simp
end T

theorem tletter (n : Int) (w : World) (h0 : 0 ≤ n) (h1 : n ≤ 255) (b : Bool) (hb : (decide (97 ≤ n) && decide (n ≤ 122)) = b) :
    Calls Tryz.prog 104 #[.int .u8 n] w fun e w' => e = .returned (.bool b) ∧ w = w' := by
  have hc : (97 ≤ n ∧ n ≤ 122 ∧ b = true) ∨ (97 ≤ n ∧ 122 < n ∧ b = false) ∨ (n < 97 ∧ b = false) := by
    subst hb; simp; omega
  clear hb
  rcases hc with ⟨c1, c2, rfl⟩ | ⟨c1, c2, rfl⟩ | ⟨c1, rfl⟩
  all_goals
    go_enter Tryz.func104, Tryz.ntmps104
    go_wp2
    go_ret
    exact ⟨ret_bool (by first | rfl | (simp; omega)), rfl⟩
theorem tdigit (n : Int) (w : World) (h0 : 0 ≤ n) (h1 : n ≤ 255) (b : Bool) (hb : (decide (48 ≤ n) && decide (n ≤ 57)) = b) :
    Calls Tryz.prog 105 #[.int .u8 n] w fun e w' => e = .returned (.bool b) ∧ w = w' := by
  have hc : (48 ≤ n ∧ n ≤ 57 ∧ b = true) ∨ (48 ≤ n ∧ 57 < n ∧ b = false) ∨ (n < 48 ∧ b = false) := by
    subst hb; simp; omega
  clear hb
  rcases hc with ⟨c1, c2, rfl⟩ | ⟨c1, c2, rfl⟩ | ⟨c1, rfl⟩
  all_goals
    go_enter Tryz.func105, Tryz.ntmps105
    go_wp2
    go_ret
    exact ⟨ret_bool (by first | rfl | (simp; omega)), rfl⟩
theorem rletter (n : Int) (w : World) (h0 : 0 ≤ n) (h1 : n ≤ 255) (b : Bool) (hb : (decide (97 ≤ n) && decide (n ≤ 122)) = b) :
    Calls Tryz.prog 112 #[.int .u8 n] w fun e w' => e = .returned (.bool b) ∧ w = w' := by
  have hc : (97 ≤ n ∧ n ≤ 122 ∧ b = true) ∨ (97 ≤ n ∧ 122 < n ∧ b = false) ∨ (n < 97 ∧ b = false) := by
    subst hb; simp; omega
  clear hb
  rcases hc with ⟨c1, c2, rfl⟩ | ⟨c1, c2, rfl⟩ | ⟨c1, rfl⟩
  all_goals
    go_enter Tryz.func112, Tryz.ntmps112
    go_wp2
    go_ret
    exact ⟨ret_bool (by first | rfl | (simp; omega)), rfl⟩

theorem T.name_end (s : ByteArray) (h : T.nmAll s.data.toList = true) : (1 ≤ (s.size : Int) ∧ (s.size : Int) ≤ 16 ∧ T.isName s = true) ∨ (1 ≤ (s.size : Int) ∧ 16 < (s.size : Int) ∧ T.isName s = false) ∨ ((s.size : Int) < 1 ∧ T.isName s = false) := by
  unfold T.isName; rw [h]; simp; omega
theorem T.name_no (s : ByteArray) (h : T.nmAll s.data.toList = false) : T.isName s = false := by unfold T.isName; rw [h]; rfl
theorem T.name_kinds (s : ByteArray) (k : Nat) (hk : k < s.size) :
    (T.low s[k] = true ∧ T.nmAt s.data.toList k = true) ∨ (T.low s[k] = false ∧ k = 0 ∧ T.nmAt s.data.toList k = false) ∨
    (T.low s[k] = false ∧ ((k : Int) == 0) = false ∧ T.dig s[k] = true ∧ T.nmAt s.data.toList k = true) ∨ (T.low s[k] = false ∧ ((k : Int) == 0) = false ∧ T.dig s[k] = false ∧ T.nmAt s.data.toList k = false) := by
  have hg := T.getD_at s k hk
  unfold T.nmAt; rw [hg]
  rcases Bool.eq_false_or_eq_true (T.low s[k]) with h1 | h1
  · left; rw [h1]; simp
  · rcases Nat.eq_zero_or_pos k with h0 | h0
    · subst h0; right; left; rw [h1]; simp
    · have e : ((k : Int) == 0) = false := by rw [beq_eq_false_iff_ne]; omega
      rcases Bool.eq_false_or_eq_true (T.dig s[k]) with h2 | h2
      · right; right; left; rw [h1, h2]; simp [h0]; omega
      · right; right; right; rw [h1, h2]; simp; omega

set_option maxHeartbeats 1000000 in
theorem oname (s : ByteArray) (w : World) (hs : s.size ≤ maxLen) :
    Calls Tryz.prog 58 #[.string s] w fun e w' => e = .returned (.bool (T.isName s)) ∧ w = w' := by
  unfold maxLen at hs
  go_enter Tryz.func58, Tryz.ntmps58
  go_wp2_with fail
  go_loop [6] (fun i => ∃ k : Nat, k ≤ s.size ∧ i = .int .i64 k ∧ ∀ j, j < k → T.nmAt s.data.toList j = true) (fun i => s.size - (intOf i).toNat)
  case atStart => exact ⟨0, Nat.zero_le _, rfl, fun j hj => absurd hj (by omega)⟩
  case round =>
    obtain ⟨k, hk, rfl, hv⟩ := hrel
    have HV := Lib.hid hv; clear hv
    by_cases hlt : k < s.size
    · have hb := u8_le s[k]
      have hlen : k < s.data.toList.length := by simpa using hlt
      have next : T.nmAt s.data.toList k = true → ∀ j, j < k + 1 → T.nmAt s.data.toList j = true := fun h j hj => by
        rcases Nat.lt_or_ge j k with g | g
        · exact HV.out j g
        · obtain rfl : j = k := by omega
          exact h
      have NX := Lib.hid next; clear next
      rcases T.name_kinds s k hlt with ⟨g1, g2⟩ | ⟨g1, rfl, g2⟩ | ⟨g1, e0, g3, g2⟩ | ⟨g1, e0, g3, g2⟩
      · have G1 := Lib.hid g1; have G2 := Lib.hid (NX.out g2); clear g1 g2
        go_wp2_with (go_at_call 104; refine (tletter _ _ hb.1 hb.2 true G1.out).mono ?_; rintro e w' ⟨rfl, rfl⟩)
        go_round
        case rel => exact ⟨k + 1, by omega, by go_num, G2.out⟩
        case measure => simp [intOf]; omega
      · have G1 := Lib.hid g1; have G2 := Lib.hid (T.name_no s (T.nmAll_no hlen g2)); clear g1 g2
        go_wp2_with (go_at_call 104; refine (tletter _ _ hb.1 hb.2 false G1.out).mono ?_; rintro e w' ⟨rfl, rfl⟩)
        go_ret
        exact ⟨ret_bool G2.out.symm, rfl⟩
      · have G1 := Lib.hid g1; have G3 := Lib.hid g3; have G2 := Lib.hid (NX.out g2); clear g1 g2 g3
        go_wp2_with (first | (go_at_call 104; refine (tletter _ _ hb.1 hb.2 false G1.out).mono ?_; rintro e w' ⟨rfl, rfl⟩) | (go_at_call 105; refine (tdigit _ _ hb.1 hb.2 true G3.out).mono ?_; rintro e w' ⟨rfl, rfl⟩))
        go_round
        case rel => exact ⟨k + 1, by omega, by go_num, G2.out⟩
        case measure => simp [intOf]; omega
      · have G1 := Lib.hid g1; have G3 := Lib.hid g3; have G2 := Lib.hid (T.name_no s (T.nmAll_no hlen g2)); clear g1 g2 g3
        go_wp2_with (first | (go_at_call 104; refine (tletter _ _ hb.1 hb.2 false G1.out).mono ?_; rintro e w' ⟨rfl, rfl⟩) | (go_at_call 105; refine (tdigit _ _ hb.1 hb.2 false G3.out).mono ?_; rintro e w' ⟨rfl, rfl⟩))
        go_ret
        exact ⟨ret_bool G2.out.symm, rfl⟩
    · obtain rfl : k = s.size := by omega
      have e : T.nmAll s.data.toList = true := T.nmAll_yes fun k hk => HV.out k (by simpa using hk)
      rcases T.name_end s e with ⟨a, b, c⟩ | ⟨a, b, c⟩ | ⟨a, c⟩
      all_goals
        have C := Lib.hid c; clear c e
        go_wp2_with fail
        go_ret
        exact ⟨ret_bool (by first | (rw [C.out]; done) | (rw [C.out]; simp; omega)), rfl⟩
set_option maxHeartbeats 1000000 in
theorem rname (s : ByteArray) (w : World) (hs : s.size ≤ maxLen) :
    Calls Tryz.prog 64 #[.string s] w fun e w' => e = .returned (.bool (T.isName s)) ∧ w = w' := by
  unfold maxLen at hs
  go_enter Tryz.func64, Tryz.ntmps64
  go_wp2_with fail
  go_loop [3] (fun i => ∃ k : Nat, k ≤ s.size ∧ i = .int .i64 k ∧ ∀ j, j < k → T.nmAt s.data.toList j = true) (fun i => s.size - (intOf i).toNat)
  case atStart => exact ⟨0, Nat.zero_le _, rfl, fun j hj => absurd hj (by omega)⟩
  case round =>
    obtain ⟨k, hk, rfl, hv⟩ := hrel
    have HV := Lib.hid hv; clear hv
    by_cases hlt : k < s.size
    · have hb := u8_le s[k]
      have hlen : k < s.data.toList.length := by simpa using hlt
      have next : T.nmAt s.data.toList k = true → ∀ j, j < k + 1 → T.nmAt s.data.toList j = true := fun h j hj => by
        rcases Nat.lt_or_ge j k with g | g
        · exact HV.out j g
        · obtain rfl : j = k := by omega
          exact h
      have NX := Lib.hid next; clear next
      have hdg : T.dig s[k] = (decide (48 ≤ (s[k].toNat : Int)) && decide ((s[k].toNat : Int) ≤ 57)) := rfl
      rcases T.name_kinds s k hlt with ⟨g1, g2⟩ | ⟨g1, rfl, g2⟩ | ⟨g1, e0, g3, g2⟩ | ⟨g1, e0, g3, g2⟩
      · have G1 := Lib.hid g1; have G2 := Lib.hid (NX.out g2); clear g1 g2
        go_wp2_with (go_at_call 112; refine (rletter _ _ hb.1 hb.2 true G1.out).mono ?_; rintro e w' ⟨rfl, rfl⟩)
        go_round
        case rel => exact ⟨k + 1, by omega, by go_num, G2.out⟩
        case measure => simp [intOf]; omega
      · have G1 := Lib.hid g1; have G2 := Lib.hid (T.name_no s (T.nmAll_no hlen g2)); clear g1 g2
        go_wp2_with (go_at_call 112; refine (rletter _ _ hb.1 hb.2 false G1.out).mono ?_; rintro e w' ⟨rfl, rfl⟩)
        go_ret
        exact ⟨ret_bool G2.out.symm, rfl⟩
      · have h48 : 48 ≤ (s[k].toNat : Int) ∧ (s[k].toNat : Int) ≤ 57 := by rw [hdg] at g3; simpa using g3
        have h48a := h48.1; have h48b := h48.2
        have G1 := Lib.hid g1; have G2 := Lib.hid (NX.out g2); clear g1 g2 g3 hdg h48
        go_wp2_with (go_at_call 112; refine (rletter _ _ hb.1 hb.2 false G1.out).mono ?_; rintro e w' ⟨rfl, rfl⟩)
        go_round
        case rel => exact ⟨k + 1, by omega, by go_num, G2.out⟩
        case measure => simp [intOf]; omega
      · have h48 : (s[k].toNat : Int) < 48 ∨ (48 ≤ (s[k].toNat : Int) ∧ 57 < (s[k].toNat : Int)) := by rw [hdg] at g3; simp at g3; omega
        have G1 := Lib.hid g1; have G2 := Lib.hid (T.name_no s (T.nmAll_no hlen g2)); clear g1 g2 g3 hdg
        rcases h48 with h48 | ⟨h48, h48b⟩
        all_goals
         go_wp2_with (go_at_call 112; refine (rletter _ _ hb.1 hb.2 false G1.out).mono ?_; rintro e w' ⟨rfl, rfl⟩)
         go_ret
         exact ⟨ret_bool G2.out.symm, rfl⟩
    · obtain rfl : k = s.size := by omega
      have e : T.nmAll s.data.toList = true := T.nmAll_yes fun k hk => HV.out k (by simpa using hk)
      rcases T.name_end s e with ⟨a, b, c⟩ | ⟨a, b, c⟩ | ⟨a, c⟩
      all_goals
        have C := Lib.hid c; clear c e
        go_wp2_with fail
        go_ret
        exact ⟨ret_bool (by first | (rw [C.out]; done) | (rw [C.out]; simp; omega)), rfl⟩
end Go.Proofs.YtihbmgkbipeakaaGreat

namespace Go.Proofs.YtihbmgkbipeakaaGreat
open Go.RowKit

namespace T
def less (a b : ByteArray) : Bool := Op.bytesLess a.toList b.toList
mutual
/-- The order of terms: below 0, 0, above 0. -/
def cmp : T → T → Int
  | .mk k s ks, .mk k' s' ks' => if k < k' then -1 else if k' < k then 1 else if less s s' = true then -1 else if (s.toList == s'.toList) = false then 1 else cmpAll ks ks'
def cmpAll : List T → List T → Int
  | [], [] => 0
  | [], _ :: _ => -1
  | _ :: _, [] => 1
  | a :: r, b :: r' => if cmp a b = 0 then cmpAll r r' else cmp a b
end
mutual
theorem cmp_vals : ∀ a b : T, cmp a b = -1 ∨ cmp a b = 0 ∨ cmp a b = 1
  | .mk k s ks, .mk k' s' ks' => by
    simp only [cmp]
    repeat' split
    all_goals first | simp | exact cmpAll_vals ks ks'
theorem cmpAll_vals : ∀ a b : List T, cmpAll a b = -1 ∨ cmpAll a b = 0 ∨ cmpAll a b = 1
  | [], [] => by simp [cmpAll]
  | [], _ :: _ => by simp [cmpAll]
  | _ :: _, [] => by simp [cmpAll]
  | a :: r, b :: r' => by
    simp only [cmpAll]
    split
    · exact cmpAll_vals r r'
    · exact cmp_vals a b
end
theorem cmpAll_at : ∀ (l m : List T) (i : Nat) (h : i < l.length) (h' : i < m.length), (∀ j (g : j < i), cmp l[j] m[j] = 0) → cmp l[i] m[i] ≠ 0 → cmpAll l m = cmp l[i] m[i] := by
  intro l
  induction l with
  | nil => intro m i h; simp at h
  | cons a r ih =>
    intro m i h h' hz hn
    cases m with
    | nil => simp at h'
    | cons b r' =>
      cases i with
      | zero => simp only [List.getElem_cons_zero] at hn ⊢; simp only [cmpAll]; rw [if_neg hn]
      | succ i =>
        have h0 := hz 0 (by omega)
        simp only [List.getElem_cons_zero] at h0
        simp only [cmpAll, List.getElem_cons_succ] at hn ⊢
        rw [if_pos h0]
        exact ih r' i (by simpa using h) (by simpa using h') (fun j g => by have := hz (j + 1) (by omega); simpa using this) hn
theorem cmpAll_len : ∀ (l m : List T), (∀ j (h : j < l.length) (h' : j < m.length), cmp l[j] m[j] = 0) → cmpAll l m = if l.length < m.length then -1 else if m.length < l.length then 1 else 0 := by
  intro l
  induction l with
  | nil => intro m _; cases m <;> simp [cmpAll]
  | cons a r ih =>
    intro m hz
    cases m with
    | nil => simp [cmpAll]
    | cons b r' =>
      have h0 := hz 0 (by simp) (by simp)
      simp only [List.getElem_cons_zero] at h0
      simp only [cmpAll, List.length_cons]
      rw [if_pos h0, ih r' (fun j h h' => by have := hz (j + 1) (by simpa using h) (by simpa using h'); simpa using this)]
      simp only [Nat.add_lt_add_iff_right]
end T

theorem TermAt.drew {w : World} {v : Value} {t : T} (h : TermAt w v t) : TermAt w.drew v t := h.keep fun _ _ => rfl
theorem TermAt.cells {w : World} {A : Option Addr} {ks : List T} {U : Nat → Value × Value × Value} {i : Nat} (h : i < ks.length)
    (hA : ks.length = 0 ∨ ∃ b off, A = some ⟨b, off, none⟩ ∧ ∀ i, i < ks.length → w.cell? ⟨b, off + i * 3, none⟩ = some (U i).1 ∧ w.cell? ⟨b, off + i * 3 + 1, none⟩ = some (U i).2.1 ∧ w.cell? ⟨b, off + i * 3 + 2, none⟩ = some (U i).2.2)
    (hU : ∀ i (h : i < ks.length), TermAt w (.agg #[(U i).1, (U i).2.1, (U i).2.2]) ks[i]) :
    ∃ b off A' cap', A = some ⟨b, off, none⟩ ∧ w.cell? ⟨b, off + i * 3, none⟩ = some (.int .i64 ks[i].kind) ∧ w.cell? ⟨b, off + i * 3 + 1, none⟩ = some (.string ks[i].name) ∧
      w.cell? ⟨b, off + i * 3 + 2, none⟩ = some (.slice A' ks[i].kids.length cap') ∧ TermAt w (.agg #[.int .i64 ks[i].kind, .string ks[i].name, .slice A' ks[i].kids.length cap']) ks[i] := by
  rcases hA with hA | ⟨b, off, rfl, hc⟩
  · omega
  · obtain ⟨c0, c1, c2⟩ := hc i h
    have hu := hU i h
    obtain ⟨e0, e1, A', cap', e2⟩ := hu.view
    rw [e0, e1, e2] at hu
    exact ⟨b, off, A', cap', rfl, by rw [c0, e0], by rw [c1, e1], by rw [c2, e2], hu⟩
theorem boxed_two (w : World) (a b c a' b' c' : Value) (t : TypeId) : Boxed ((w.alloc (.cells #[a, b, c] t)).alloc (.cells #[a', b', c'] t)) w.heap.size a b c ∧ Boxed ((w.alloc (.cells #[a, b, c] t)).alloc (.cells #[a', b', c'] t)) (w.heap.size + 1) a' b' c' ∧
    Below w.heap.size w ((w.alloc (.cells #[a, b, c] t)).alloc (.cells #[a', b', c'] t)) := by
  have hs : (w.alloc (.cells #[a, b, c] t)).heap.size = w.heap.size + 1 := by show (w.heap.push _).size = _; rw [Array.size_push]
  have h2 := boxed_new (w.alloc (.cells #[a, b, c] t)) a' b' c' t
  rw [hs] at h2
  exact ⟨(boxed_new w a b c t).later ((Below.refl _ _).alloc (Nat.le_refl _) _), h2, ((Below.refl _ _).alloc (Nat.le_refl _) _).alloc (by rw [hs]; omega) _⟩

set_option maxRecDepth 100000 in
set_option maxHeartbeats 2000000 in
theorem rcmp : ∀ (N : Nat) (t t' : T) (v v' : Value) (w : World), t.bulk < N → TermAt w v t → TermAt w v' t' → t.bulk ≤ 1048576 → t'.bulk ≤ 1048576 →
    Calls Tryz.prog 56 #[v, v'] w fun e w' => e = .returned (.int .i64 (t.cmp t')) ∧ Below w.heap.size w w' := by
  intro N
  induction N with
  | zero => intro t t' v v' w h; omega
  | succ N ih =>
    intro t t' v v' w hN ht ht' hbk hbk'
    cases ht with
    | mk k s A cap ks U h1 h2 h3 h4 hA hU =>
    cases ht' with
    | mk k' s' A' cap' ks' U' h1' h2' h3' h4' hA' hU' =>
      simp only [T.bulk] at hN hbk hbk'
      have hkn : ks.length ≤ 1048576 := by have := T.len_le ks; omega
      have hkn' : ks'.length ≤ 1048576 := by have := T.len_le ks'; omega
      have hcmp : (T.mk k s ks).cmp (.mk k' s' ks') = if k < k' then -1 else if k' < k then 1 else if T.less s s' = true then -1 else if (s.toList == s'.toList) = false then 1 else T.cmpAll ks ks' := rfl
      obtain ⟨R, hR⟩ : ∃ R, (T.mk k s ks).cmp (.mk k' s' ks') = R := ⟨_, rfl⟩
      rw [hR] at hcmp ⊢
      clear hR
      obtain ⟨hbx, hbx', hb1⟩ := boxed_two w (.int .i64 k) (.string s) (.slice A ks.length cap) (.int .i64 k') (.string s') (.slice A' ks'.length cap') 29
      go_enter Tryz.func56, Tryz.ntmps56
      go_upto_region 1 with fail
      generalize (w.alloc (.cells #[.int .i64 k, .string s, .slice A ks.length cap] 29)).alloc (.cells #[.int .i64 k', .string s', .slice A' ks'.length cap'] 29) = w1 at hbx hbx' hb1 ⊢
      obtain ⟨x0, x1, x2⟩ := hbx
      obtain ⟨y0, y1, y2⟩ := hbx'
      by_cases g1 : k < k'
      · rw [if_pos g1] at hcmp; subst hcmp
        go_wp2_with fail
        go_ret
        exact ⟨rfl, hb1⟩
      rw [if_neg g1] at hcmp
      by_cases g2 : k' < k
      · rw [if_pos g2] at hcmp; subst hcmp
        go_wp2_with fail
        go_ret
        exact ⟨rfl, hb1⟩
      rw [if_neg g2] at hcmp
      rcases Bool.eq_false_or_eq_true (T.less s s') with g3 | g3
      · rw [if_pos g3] at hcmp; subst hcmp
        unfold T.less at g3
        go_wp2_with fail
        go_ret
        exact ⟨rfl, hb1⟩
      rw [if_neg (by rw [g3]; decide)] at hcmp
      rcases Bool.eq_false_or_eq_true (s.toList == s'.toList) with g4 | g4
      rotate_left
      · rw [if_pos g4] at hcmp; subst hcmp
        unfold T.less at g3
        go_wp2_with fail
        go_ret
        exact ⟨rfl, hb1⟩
      rw [if_neg (by rw [g4]; decide)] at hcmp
      unfold T.less at g3
      subst hcmp
      go_wp2_with fail
      clear g1 g2 g3 g4
      go_loopw [5] (fun i wr => ∃ j : Nat, j ≤ ks.length ∧ j ≤ ks'.length ∧ i = .int .i64 j ∧ (∀ m (h : m < j) (h1 : m < ks.length) (h2 : m < ks'.length), T.cmp ks[m] ks'[m] = 0) ∧ Below w1.heap.size w1 wr) (fun i _ => ks.length - (intOf i).toNat)
      case atStart => exact ⟨0, Nat.zero_le _, Nat.zero_le _, rfl, fun m h => absurd h (by omega), Below.refl _ _⟩
      case round =>
        obtain ⟨j, hj, hj', rfl, hz, hbl⟩ := hrel
        have HZ := Lib.hid hz; clear hz
        have z2 := cell_later hbl x2
        have v2 := cell_later hbl y2
        by_cases hlt : j < ks.length
        · by_cases hlt' : j < ks'.length
          · have hbw := hb1.trans (hbl.mono hb1.size)
            obtain ⟨b, off, B1, C1, rfl, d0, d1, d2, hu⟩ := TermAt.cells hlt hA hU
            obtain ⟨b', off', B1', C1', rfl, d0', d1', d2', hu'⟩ := TermAt.cells hlt' hA' hU'
            have e0 := cell_later hbw d0; have e1 := cell_later hbw d1; have e2 := cell_later hbw d2
            have e0' := cell_later hbw d0'; have e1' := cell_later hbw d1'; have e2' := cell_later hbw d2'
            clear d0 d1 d2 d0' d1' d2'
            have hi : (j : Int) < (ks.length : Int) := by omega
            have hi' : (j : Int) < (ks'.length : Int) := by omega
            have hb2 : ks[j].bulk < N := by have := T.bulk_at ks j hlt; omega
            have hb3 : ks[j].bulk ≤ 1048576 := by have := T.bulk_at ks j hlt; omega
            have hb3' : ks'[j].bulk ≤ 1048576 := by have := T.bulk_at ks' j hlt'; omega
            have HU := Lib.hid (hu.later hbw); have HU' := Lib.hid (hu'.later hbw)
            have HLT := Lib.hid hlt; have HLT' := Lib.hid hlt'
            have hvals := T.cmp_vals ks[j] ks'[j]
            have hat := fun hn => T.cmpAll_at ks ks' j hlt hlt' (fun m g => HZ.out m g (by omega) (by omega)) hn
            have HAT := Lib.hid hat; clear hat hu hu'
            have hc := ih ks[j] ks'[j] (.agg #[.int .i64 ks[j].kind, .string ks[j].name, .slice B1 ks[j].kids.length C1]) (.agg #[.int .i64 ks'[j].kind, .string ks'[j].name, .slice B1' ks'[j].kids.length C1'])
            have HC := Lib.hid hc; clear hc
            obtain ⟨c, hcv⟩ : ∃ c, T.cmp ks[j] ks'[j] = c := ⟨_, rfl⟩
            rw [hcv] at hvals
            have HCV := Lib.hid hcv; clear hcv
            go_wp2_with fail
            have hbq := hbl.drew
            have huq := TermAt.drew HU.out
            have huq' := TermAt.drew HU'.out
            go_still_tail 10, (by kernel_rfl)
            change wpList _ _ _ _ _ wr.drew
            generalize wr.drew = wq at hbq huq huq' ⊢
            have HUQ := Lib.hid huq; have HUQ' := Lib.hid huq'
            clear huq huq' HU HU' e0 e1 e2 e0' e1' e2' z2 v2 hbl
            go_wp2_with fail
            refine (HC.out _ hb2 HUQ.out HUQ'.out hb3 hb3').mono ?_; rintro e w2 ⟨rfl, hb4⟩
            rw [HCV.out]
            replace hb4 := hbq.trans (hb4.mono hbq.size)
            by_cases hc0 : c = 0
            · subst hc0
              go_wp2_with fail
              go_roundw
              case rel =>
                refine ⟨j + 1, HLT.out, HLT'.out, by go_num, fun m h g1 g2 => ?_, hb4⟩
                rcases Nat.lt_or_ge m j with g | g
                · exact HZ.out m g g1 g2
                · obtain rfl : m = j := by omega
                  exact HCV.out
              case measure => have := HLT.out; simp [intOf]; omega
            · have hne : (c != 0) = true := by rw [bne_iff_ne]; exact hc0
              have HR := Lib.hid (HAT.out (fun h => hc0 (HCV.out.symm.trans h)))
              go_wp2_with fail
              go_ret
              exact ⟨ret_i64 (HCV.out.symm.trans HR.out.symm), hb1.trans (hb4.mono hb1.size)⟩
          · have hi : (j : Int) < (ks.length : Int) := by omega
            have hi' : (ks'.length : Int) ≤ (j : Int) := by omega
            have hl : T.cmpAll ks ks' = 1 := by rw [T.cmpAll_len ks ks' (fun m g1 g2 => HZ.out m (by omega) g1 g2), if_neg (by omega), if_pos (by omega)]
            have HL := Lib.hid hl; clear hl
            have q1 : (ks'.length : Int) < (ks.length : Int) := by omega
            go_wp2_with fail
            go_ret
            exact ⟨ret_i64 HL.out.symm, hb1.trans (hbl.mono hb1.size)⟩
        · have hi : (ks.length : Int) ≤ (j : Int) := by omega
          have hl := T.cmpAll_len ks ks' (fun m g1 g2 => HZ.out m (by omega) g1 g2)
          by_cases g1 : ks.length < ks'.length
          · rw [if_pos g1] at hl
            have HL := Lib.hid hl; clear hl
            have q1 : (ks.length : Int) < (ks'.length : Int) := by omega
            go_wp2_with fail
            go_ret
            exact ⟨ret_i64 HL.out.symm, hb1.trans (hbl.mono hb1.size)⟩
          · rw [if_neg g1, if_neg (by omega)] at hl
            have HL := Lib.hid hl; clear hl
            have q1 : (ks'.length : Int) ≤ (ks.length : Int) := by omega
            have q2 : (ks.length : Int) ≤ (ks'.length : Int) := by omega
            go_wp2_with fail
            go_ret
            exact ⟨ret_i64 HL.out.symm, hb1.trans (hbl.mono hb1.size)⟩
end Go.Proofs.YtihbmgkbipeakaaGreat

namespace Go.Proofs.YtihbmgkbipeakaaGreat
open Go.RowKit

namespace T
def ci (a b : Int) : Int := if a < b then -1 else if b < a then 1 else 0
def cs (a b : ByteArray) : Int := if less a b = true then -1 else if (a.toList == b.toList) = false then 1 else 0
end T
theorem nan_int (a : Int) (w : World) : Calls Tryz.prog 166 #[.int .i64 a] w fun e w' => e = .returned (.bool false) ∧ w = w' := by
  go_enter Tryz.func166, Tryz.ntmps166
  go_wp2
  go_ret
  exact ⟨ret_bool (by simp), rfl⟩
theorem nan_str (a : ByteArray) (w : World) : Calls Tryz.prog 167 #[.string a] w fun e w' => e = .returned (.bool false) ∧ w = w' := by
  go_enter Tryz.func167, Tryz.ntmps167
  go_wp2
  go_ret
  exact ⟨ret_bool (by simp), rfl⟩
theorem cmp_int (a b : Int) (w : World) : Calls Tryz.prog 135 #[.int .i64 a, .int .i64 b] w fun e w' => e = .returned (.int .i64 (T.ci a b)) ∧ w = w' := by
  have hc : (a < b ∧ T.ci a b = -1) ∨ (b ≤ a ∧ b < a ∧ T.ci a b = 1) ∨ (b ≤ a ∧ a ≤ b ∧ T.ci a b = 0) := by unfold T.ci; split <;> (try split) <;> omega
  rcases hc with ⟨c1, c2⟩ | ⟨c1, c1', c2⟩ | ⟨c1, c1', c2⟩
  all_goals
    have C2 := Lib.hid c2; clear c2
    go_enter Tryz.func135, Tryz.ntmps135
    go_wp2_with (go_at_call 166; refine (nan_int _ _).mono ?_; rintro e w' ⟨rfl, rfl⟩)
    go_ret
    exact ⟨ret_i64 C2.out.symm, rfl⟩
theorem cmp_str (a b : ByteArray) (w : World) : Calls Tryz.prog 136 #[.string a, .string b] w fun e w' => e = .returned (.int .i64 (T.cs a b)) ∧ w = w' := by
  have hc : (Op.bytesLess a.toList b.toList = true ∧ T.cs a b = -1) ∨ (Op.bytesLess a.toList b.toList = false ∧ (a.toList == b.toList) = false ∧ T.cs a b = 1) ∨ (Op.bytesLess a.toList b.toList = false ∧ (a.toList == b.toList) = true ∧ T.cs a b = 0) := by
    unfold T.cs T.less
    rcases Bool.eq_false_or_eq_true (Op.bytesLess a.toList b.toList) with h | h
    · left; exact ⟨h, by rw [if_pos h]⟩
    · rcases Bool.eq_false_or_eq_true (a.toList == b.toList) with h' | h'
      · right; right; exact ⟨h, h', by rw [h, h']; rfl⟩
      · right; left; exact ⟨h, h', by rw [h, h']; rfl⟩
  rcases hc with ⟨c1, c2⟩ | ⟨c1, c1', c2⟩ | ⟨c1, c1', c2⟩
  all_goals
    have C2 := Lib.hid c2; clear c2
    go_enter Tryz.func136, Tryz.ntmps136
    go_wp2_with (go_at_call 167; refine (nan_str _ _).mono ?_; rintro e w' ⟨rfl, rfl⟩)
    go_ret
    exact ⟨ret_i64 C2.out.symm, rfl⟩
def T.or3 (x y z : Int) : Int := if x ≠ 0 then x else if y ≠ 0 then y else z
set_option maxHeartbeats 800000 in
theorem cmp_or (b cap : Nat) (x y z : Int) (w : World) (h0 : w.cell? ⟨b, 0, none⟩ = some (.int .i64 x)) (h1 : w.cell? ⟨b, 1, none⟩ = some (.int .i64 y)) (h2 : w.cell? ⟨b, 2, none⟩ = some (.int .i64 z)) :
    Calls Tryz.prog 134 #[.slice (some ⟨b, 0, none⟩) 3 cap] w fun e w' => e = .returned (.int .i64 (T.or3 x y z)) ∧ w = w' := by
  obtain ⟨R, hR⟩ : ∃ R, T.or3 x y z = R := ⟨_, rfl⟩
  rw [hR]
  have HR := Lib.hid hR; clear hR
  go_enter Tryz.func134, Tryz.ntmps134
  go_wp2_with fail
  go_loop [8] (fun i => i = .int .i64 0 ∨ (i = .int .i64 1 ∧ x = 0) ∨ (i = .int .i64 2 ∧ x = 0 ∧ y = 0) ∨ (i = .int .i64 3 ∧ x = 0 ∧ y = 0 ∧ z = 0)) (fun i => 3 - (intOf i).toNat)
  case atStart => exact .inl rfl
  case round =>
    rcases hrel with rfl | ⟨rfl, rfl⟩ | ⟨rfl, rfl, rfl⟩ | ⟨rfl, rfl, rfl, rfl⟩
    · by_cases hx : x = 0
      · subst hx
        go_wp2_with fail
        go_round
        case rel => simp
        case measure => simp [intOf]
      · have hx' : (x != 0) = true := by rw [bne_iff_ne]; exact hx
        have e : R = x := by have := HR.out; unfold T.or3 at this; rw [if_pos hx] at this; exact this.symm
        have E := Lib.hid e; clear e hx
        go_wp2_with fail
        go_ret
        exact ⟨ret_i64 E.out.symm, rfl⟩
    · by_cases hx : y = 0
      · subst hx
        go_wp2_with fail
        go_round
        case rel => simp
        case measure => simp [intOf]
      · have hx' : (y != 0) = true := by rw [bne_iff_ne]; exact hx
        have e : R = y := by have := HR.out; unfold T.or3 at this; rw [if_neg (by simp), if_pos hx] at this; exact this.symm
        have E := Lib.hid e; clear e hx
        go_wp2_with fail
        go_ret
        exact ⟨ret_i64 E.out.symm, rfl⟩
    · have e : R = z := by have := HR.out; unfold T.or3 at this; rw [if_neg (by simp), if_neg (by simp)] at this; exact this.symm
      have E := Lib.hid e; clear e
      by_cases hx : z = 0
      · subst hx
        go_wp2_with fail
        go_round
        case rel => simp
        case measure => simp [intOf]
      · have hx' : (z != 0) = true := by rw [bne_iff_ne]; exact hx
        clear hx
        go_wp2_with fail
        go_ret
        exact ⟨ret_i64 E.out.symm, rfl⟩
    · have e : R = 0 := by have := HR.out; unfold T.or3 at this; simpa using this.symm
      have E := Lib.hid e; clear e
      go_wp2_with fail
      go_ret
      exact ⟨ret_i64 E.out.symm, rfl⟩
end Go.Proofs.YtihbmgkbipeakaaGreat

namespace Go.Proofs.YtihbmgkbipeakaaGreat
open Go.RowKit

set_option maxRecDepth 100000 in
set_option maxHeartbeats 2000000 in
/-- slices.CompareFunc over two lists of kids, given what Compare says of each pair. -/
theorem cmp_func (A A' : Option Addr) (cap cap' : Nat) (ks ks' : List T) (U U' : Nat → Value × Value × Value) (w : World) (hkn : ks.length ≤ 1048576) (_hkn' : ks'.length ≤ 1048576)
    (hA : ks.length = 0 ∨ ∃ b off, A = some ⟨b, off, none⟩ ∧ ∀ i, i < ks.length → w.cell? ⟨b, off + i * 3, none⟩ = some (U i).1 ∧ w.cell? ⟨b, off + i * 3 + 1, none⟩ = some (U i).2.1 ∧ w.cell? ⟨b, off + i * 3 + 2, none⟩ = some (U i).2.2)
    (hU : ∀ i (h : i < ks.length), TermAt w (.agg #[(U i).1, (U i).2.1, (U i).2.2]) ks[i])
    (hA' : ks'.length = 0 ∨ ∃ b off, A' = some ⟨b, off, none⟩ ∧ ∀ i, i < ks'.length → w.cell? ⟨b, off + i * 3, none⟩ = some (U' i).1 ∧ w.cell? ⟨b, off + i * 3 + 1, none⟩ = some (U' i).2.1 ∧ w.cell? ⟨b, off + i * 3 + 2, none⟩ = some (U' i).2.2)
    (hU' : ∀ i (h : i < ks'.length), TermAt w (.agg #[(U' i).1, (U' i).2.1, (U' i).2.2]) ks'[i])
    (hC : ∀ j (h : j < ks.length) (h' : j < ks'.length) (v v' : Value) (W : World), TermAt W v ks[j] → TermAt W v' ks'[j] → Calls Tryz.prog 103 #[v, v'] W fun e w' => e = .returned (.int .i64 (T.cmp ks[j] ks'[j])) ∧ Below W.heap.size W w') :
    Calls Tryz.prog 137 #[.slice A ks.length cap, .slice A' ks'.length cap', .func (.func 103) #[] #[]] w fun e w' =>
      e = .returned (.int .i64 (T.cmpAll ks ks')) ∧ Below w.heap.size w w' := by
  have HC := Lib.hid hC; clear hC
  go_enter Tryz.func137, Tryz.ntmps137
  go_wp2_with fail
  go_loopw [13] (fun i wr => ∃ j : Nat, j ≤ ks.length ∧ j ≤ ks'.length ∧ i = .int .i64 j ∧ (∀ m (h : m < j) (h1 : m < ks.length) (h2 : m < ks'.length), T.cmp ks[m] ks'[m] = 0) ∧ Below w.heap.size w wr) (fun i _ => ks.length - (intOf i).toNat)
  case atStart => exact ⟨0, Nat.zero_le _, Nat.zero_le _, rfl, fun m h => absurd h (by omega), Below.refl _ _⟩
  case round =>
    obtain ⟨j, hj, hj', rfl, hz, hbl⟩ := hrel
    have HZ := Lib.hid hz; clear hz
    by_cases hlt : j < ks.length
    · obtain ⟨b, off, B1, C1, rfl, d0, d1, d2, hu⟩ := TermAt.cells hlt hA hU
      have e0 := cell_later hbl d0; have e1 := cell_later hbl d1; have e2 := cell_later hbl d2
      have hi : (j : Int) < (ks.length : Int) := by omega
      clear d0 d1 d2
      by_cases hlt' : j < ks'.length
      · obtain ⟨b', off', B1', C1', rfl, d0', d1', d2', hu'⟩ := TermAt.cells hlt' hA' hU'
        have e0' := cell_later hbl d0'; have e1' := cell_later hbl d1'; have e2' := cell_later hbl d2'
        clear d0' d1' d2'
        have hi' : (j : Int) < (ks'.length : Int) := by omega
        have f0 := cell_later ((Below.refl wr.heap.size wr).alloc (Nat.le_refl _) (.cells #[.int .i64 ks[j].kind, .string ks[j].name, .slice B1 ks[j].kids.length C1] 29)) e0'
        have f1 := cell_later ((Below.refl wr.heap.size wr).alloc (Nat.le_refl _) (.cells #[.int .i64 ks[j].kind, .string ks[j].name, .slice B1 ks[j].kids.length C1] 29)) e1'
        have f2 := cell_later ((Below.refl wr.heap.size wr).alloc (Nat.le_refl _) (.cells #[.int .i64 ks[j].kind, .string ks[j].name, .slice B1 ks[j].kids.length C1] 29)) e2'
        have hb2 := (boxed_two wr (.int .i64 ks[j].kind) (.string ks[j].name) (.slice B1 ks[j].kids.length C1) (.int .i64 ks'[j].kind) (.string ks'[j].name) (.slice B1' ks'[j].kids.length C1') 29).2.2
        have HU := Lib.hid ((hu.later hbl).later hb2); have HU' := Lib.hid ((hu'.later hbl).later hb2)
        have HLT := Lib.hid hlt; have HLT' := Lib.hid hlt'
        have HAT := Lib.hid (fun hn => T.cmpAll_at ks ks' j hlt hlt' (fun m g => HZ.out m g (by omega) (by omega)) hn)
        obtain ⟨c, hcv⟩ : ∃ c, T.cmp ks[j] ks'[j] = c := ⟨_, rfl⟩
        have HCV := Lib.hid hcv
        have hc := HC.out j hlt hlt'
        have HC' := Lib.hid hc
        clear hcv hc hu hu'
        go_wp2_with fail
        refine (HC'.out _ _ _ HU.out HU'.out).mono ?_; rintro e w2 ⟨he, hb4⟩
        have he' : e = .returned (.int .i64 c) := he.trans (ret_i64 HCV.out)
        clear he; subst he'
        replace hb4 := hbl.trans ((hb2.trans (hb4.mono hb2.size)).mono hbl.size)
        clear f0 f1 f2 e0 e1 e2 e0' e1' e2'
        by_cases hc0 : c = 0
        · subst hc0
          go_wp2_with fail
          go_roundw
          case rel =>
            refine ⟨j + 1, HLT.out, HLT'.out, by go_num, fun m h g1 g2 => ?_, hb4⟩
            rcases Nat.lt_or_ge m j with g | g
            · exact HZ.out m g g1 g2
            · obtain rfl : m = j := by omega
              exact HCV.out
          case measure => have := HLT.out; simp [intOf]; omega
        · have hne : (c != 0) = true := by rw [bne_iff_ne]; exact hc0
          have HR := Lib.hid (HAT.out (fun h => hc0 (HCV.out.symm.trans h)))
          go_wp2_with fail
          go_ret
          exact ⟨ret_i64 (HCV.out.symm.trans HR.out.symm), hb4⟩
      · have hi' : (ks'.length : Int) ≤ (j : Int) := by omega
        have HL := Lib.hid (show T.cmpAll ks ks' = 1 by rw [T.cmpAll_len ks ks' (fun m g1 g2 => HZ.out m (by omega) g1 g2), if_neg (by omega), if_pos (by omega)])
        have hu1 := Lib.hid hu
        clear hu
        go_wp2_with fail
        go_ret
        exact ⟨ret_i64 HL.out.symm, hbl.alloc hbl.size _⟩
    · have hi : (ks.length : Int) ≤ (j : Int) := by omega
      have hl := T.cmpAll_len ks ks' (fun m g1 g2 => HZ.out m (by omega) g1 g2)
      by_cases g1 : ks.length < ks'.length
      · rw [if_pos g1] at hl
        have HL := Lib.hid hl; clear hl
        have q1 : (ks.length : Int) < (ks'.length : Int) := by omega
        go_wp2_with fail
        go_ret
        exact ⟨ret_i64 HL.out.symm, hbl⟩
      · rw [if_neg g1, if_neg (by omega)] at hl
        have HL := Lib.hid hl; clear hl
        have q1 : (ks'.length : Int) ≤ (ks.length : Int) := by omega
        go_wp2_with fail
        go_ret
        exact ⟨ret_i64 HL.out.symm, hbl⟩
end Go.Proofs.YtihbmgkbipeakaaGreat

namespace Go.Proofs.YtihbmgkbipeakaaGreat
open Go.RowKit

theorem T.cmp_or3 (k k' : Int) (s s' : ByteArray) (ks ks' : List T) : (T.mk k s ks).cmp (.mk k' s' ks') = T.or3 (T.ci k k') (T.cs s s') (T.cmpAll ks ks') := by
  have e : (T.mk k s ks).cmp (.mk k' s' ks') = if k < k' then -1 else if k' < k then 1 else if T.less s s' = true then -1 else if (s.toList == s'.toList) = false then 1 else T.cmpAll ks ks' := rfl
  rw [e]
  unfold T.or3 T.ci T.cs
  repeat' split
  all_goals first | rfl | omega | simp_all

/-- Six cells and a bound, as they stand while memory is made. -/
theorem six_later {w1 W W2 : World} {p0 p1 p2 p3 p4 p5 : Addr} {v0 v1 v2 v3 v4 v5 : Value} (h : W.cell? p0 = some v0 ∧ W.cell? p1 = some v1 ∧ W.cell? p2 = some v2 ∧ W.cell? p3 = some v3 ∧ W.cell? p4 = some v4 ∧ W.cell? p5 = some v5 ∧ Below w1.heap.size w1 W)
    (hb : Below W.heap.size W W2) : W2.cell? p0 = some v0 ∧ W2.cell? p1 = some v1 ∧ W2.cell? p2 = some v2 ∧ W2.cell? p3 = some v3 ∧ W2.cell? p4 = some v4 ∧ W2.cell? p5 = some v5 ∧ Below w1.heap.size w1 W2 := by
  obtain ⟨h0, h1, h2, h3, h4, h5, h6⟩ := h
  exact ⟨cell_later hb h0, cell_later hb h1, cell_later hb h2, cell_later hb h3, cell_later hb h4, cell_later hb h5, h6.trans (hb.mono h6.size)⟩

set_option maxRecDepth 100000 in
set_option maxHeartbeats 4000000 in
theorem ocmp : ∀ (N : Nat) (t t' : T) (v v' : Value) (w : World), t.bulk < N → TermAt w v t → TermAt w v' t' → t.bulk ≤ 1048576 → t'.bulk ≤ 1048576 →
    Calls Tryz.prog 103 #[v, v'] w fun e w' => e = .returned (.int .i64 (t.cmp t')) ∧ Below w.heap.size w w' := by
  intro N
  induction N with
  | zero => intro t t' v v' w h; omega
  | succ N ih =>
    intro t t' v v' w hN ht ht' hbk hbk'
    cases ht with
    | mk k s A cap ks U h1 h2 h3 h4 hA hU =>
    cases ht' with
    | mk k' s' A' cap' ks' U' h1' h2' h3' h4' hA' hU' =>
      simp only [T.bulk] at hN hbk hbk'
      have hkn : ks.length ≤ 1048576 := by have := T.len_le ks; omega
      have hkn' : ks'.length ≤ 1048576 := by have := T.len_le ks'; omega
      rw [T.cmp_or3]
      obtain ⟨hbx, hbx', hb1⟩ := boxed_two w (.int .i64 k) (.string s) (.slice A ks.length cap) (.int .i64 k') (.string s') (.slice A' ks'.length cap') 29
      have ht := TermAt.mk k s A cap ks U h1 h2 h3 h4 hA hU
      go_enter Tryz.func103, Tryz.ntmps103
      go_upto_region 1 with fail
      generalize (w.alloc (.cells #[.int .i64 k, .string s, .slice A ks.length cap] 29)).alloc (.cells #[.int .i64 k', .string s', .slice A' ks'.length cap'] 29) = w1 at hbx hbx' hb1 ⊢
      obtain ⟨x0, x1, x2⟩ := hbx
      obtain ⟨y0, y1, y2⟩ := hbx'
      have bA := Lib.hid hA; have bU := Lib.hid hU; have bA' := Lib.hid hA'; have bU' := Lib.hid hU'
      have hF : ∀ W, Below w1.heap.size w1 W → Calls Tryz.prog 137 #[.slice A ks.length cap, .slice A' ks'.length cap', .func (.func 103) #[] #[]] W fun e w' =>
          e = .returned (.int .i64 (T.cmpAll ks ks')) ∧ Below W.heap.size W w' := fun W hW => by
        have hWw := hb1.trans (hW.mono hb1.size)
        refine cmp_func A A' cap cap' ks ks' U U' W hkn hkn' ?_ (fun i h => (hU i h).later hWw) ?_ (fun i h => (hU' i h).later hWw) ?_
        · rcases hA with h | ⟨b, off, e, hc⟩
          · exact .inl h
          · exact .inr ⟨b, off, e, fun i hi => by obtain ⟨c0, c1, c2⟩ := hc i hi; exact ⟨cell_later hWw c0, cell_later hWw c1, cell_later hWw c2⟩⟩
        · rcases hA' with h | ⟨b, off, e, hc⟩
          · exact .inl h
          · exact .inr ⟨b, off, e, fun i hi => by obtain ⟨c0, c1, c2⟩ := hc i hi; exact ⟨cell_later hWw c0, cell_later hWw c1, cell_later hWw c2⟩⟩
        · intro j h h' v v' W' hv hv'
          have := T.bulk_at ks j h; have := T.bulk_at ks' j h'
          exact ih _ _ _ _ _ (by omega) hv hv' (by omega) (by omega)
      have HF := Lib.hid hF
      clear hA hU hA' hU' ht hF
      go_region_held3 (fun W => W.cell? ⟨w.heap.size, 0, none⟩ = some (.int .i64 k) ∧ W.cell? ⟨w.heap.size, 1, none⟩ = some (.string s) ∧ W.cell? ⟨w.heap.size, 2, none⟩ = some (.slice A ks.length cap) ∧ W.cell? ⟨w.heap.size + 1, 0, none⟩ = some (.int .i64 k') ∧ W.cell? ⟨w.heap.size + 1, 1, none⟩ = some (.string s') ∧ W.cell? ⟨w.heap.size + 1, 2, none⟩ = some (.slice A' ks'.length cap') ∧ Below w1.heap.size w1 W)
        (first | exact ⟨x0, x1, x2, y0, y1, y2, Below.refl _ _⟩ | exact ⟨x0, x1, x2, y0, y1, y2, (Below.refl _ _).drew⟩ | exact six_later (by assumption) hb4 | exact six_later (by assumption) ((Below.refl _ _).alloc (Nat.le_refl _) _) | go_keep)
        (first | (go_at_call 135; refine (cmp_int _ _ _).mono ?_; rintro e w' ⟨rfl, rfl⟩) | (go_at_call 136; refine (cmp_str _ _ _).mono ?_; rintro e w' ⟨rfl, rfl⟩) | (go_at_call 137; refine (HF.out _ (by first | assumption | exact Below.refl _ _ | exact (Below.refl _ _).drew)).mono ?_; rintro e w2 ⟨rfl, hb4⟩) | (go_at_call 134; refine (cmp_or _ _ _ _ _ _ (boxed_new _ _ _ _ _).1 (boxed_new _ _ _ _ _).2.1 (boxed_new _ _ _ _ _).2.2).mono ?_; rintro e w' ⟨rfl, rfl⟩))
      all_goals
        rename_i hS
        have hb5 := hS.2.2.2.2.2.2
        clear hS x0 x1 x2 y0 y1 y2
        go_wp2_with fail
        go_ret
        exact ⟨rfl, hb1.trans (hb5.mono hb1.size)⟩
end Go.Proofs.YtihbmgkbipeakaaGreat

namespace Go.Proofs.YtihbmgkbipeakaaGreat
open Go.RowKit

namespace T
def atom : T → Bool | .mk k _ _ => k == 1 || k == 2
/-- Do the number of kids and the first ones fit the kind of a term with a function? -/
def headOk (k : Int) (ks : List T) : Bool :=
  if k = 3 ∨ k = 5 then ks.length == 2 else if k = 6 then ks.length == 2 && ((ks[0]?).map atom).getD false else if k = 4 then ks.length == 1 else if k = 7 then (1 ≤ ks.length && ks.length ≤ 4) && !ks.any (fun t => !t.atom) else false
mutual
def shape : T → Bool
  | .mk k s ks => if k = 1 ∨ k = 2 then isName s && ks.length == 0 else (headOk k ks && s.toList.isEmpty) && shapeAll ks
def shapeAll : List T → Bool
  | [] => true
  | t :: r => shape t && shapeAll r
end
theorem shapeAll_any : ∀ l : List T, shapeAll l = !l.any fun t => !t.shape
  | [] => rfl
  | t :: r => by simp only [shapeAll, List.any_cons, Bool.not_or, Bool.not_not, shapeAll_any r]
/-- The place of the first term with a property, or -1. -/
def idx (p : T → Bool) : List T → Int
  | [] => -1
  | t :: r => if p t then 0 else if idx p r < 0 then -1 else idx p r + 1
theorem idx_iff (p : T → Bool) : ∀ l, 0 ≤ idx p l ↔ l.any p = true
  | [] => by simp [idx]
  | t :: r => by
    have h := idx_iff p r
    simp only [idx, List.any_cons, Bool.or_eq_true]
    rw [← h]
    rcases Bool.eq_false_or_eq_true (p t) with e | e
    · simp [e]
    · simp only [e, Bool.false_eq_true, if_false, false_or]
      split <;> omega
theorem idx_any (p : T → Bool) (l : List T) : decide (0 ≤ idx p l) = l.any p := by
  rw [Bool.eq_iff_iff, decide_eq_true_eq]; exact idx_iff p l
theorem idx_at (p : T → Bool) : ∀ (l : List T) (j : Nat) (h : j < l.length), (∀ m (g : m < j), p l[m] = false) → p l[j] = true → idx p l = j
  | [], j, h, _, _ => by simp at h
  | t :: r, 0, h, _, hp => by simp only [List.getElem_cons_zero] at hp; simp [idx, hp]
  | t :: r, j + 1, h, hz, hp => by
    have h0 := hz 0 (by omega)
    simp only [List.getElem_cons_zero] at h0
    have ih := idx_at p r j (by simpa using h) (fun m g => by have := hz (m + 1) (by omega); simpa using this) (by simpa using hp)
    simp only [idx, h0, ih]
    rw [if_neg (by simp), if_neg (by omega)]; push_cast; rfl
theorem idx_no (p : T → Bool) : ∀ (l : List T), (∀ m (g : m < l.length), p l[m] = false) → idx p l = -1
  | [], _ => rfl
  | t :: r, hz => by
    have h0 := hz 0 (by simp)
    simp only [List.getElem_cons_zero] at h0
    have ih := idx_no p r (fun m g => by have := hz (m + 1) (by simpa using g); simpa using this)
    simp [idx, h0, ih]
end T

set_option maxRecDepth 100000 in
set_option maxHeartbeats 2000000 in
theorem index_simple (p : T → Bool) (A : Option Addr) (cap : Nat) (ks : List T) (U : Nat → Value × Value × Value) (w : World) (hkn : ks.length ≤ 1048576)
    (hA : ks.length = 0 ∨ ∃ b off, A = some ⟨b, off, none⟩ ∧ ∀ i, i < ks.length → w.cell? ⟨b, off + i * 3, none⟩ = some (U i).1 ∧ w.cell? ⟨b, off + i * 3 + 1, none⟩ = some (U i).2.1 ∧ w.cell? ⟨b, off + i * 3 + 2, none⟩ = some (U i).2.2)
    (hU : ∀ i (h : i < ks.length), TermAt w (.agg #[(U i).1, (U i).2.1, (U i).2.2]) ks[i])
    (hC : ∀ j (h : j < ks.length) (v : Value) (W : World), TermAt W v ks[j] → Calls Tryz.prog 143 #[v] W fun e w' => e = .returned (.bool (p ks[j])) ∧ Below W.heap.size W w') :
    Calls Tryz.prog 123 #[.slice A ks.length cap, .func (.func 143) #[] #[]] w fun e w' => e = .returned (.int .i64 (T.idx p ks)) ∧ Below w.heap.size w w' := by
  have HC := Lib.hid hC; clear hC
  go_enter Tryz.func123, Tryz.ntmps123
  go_wp2_with fail
  go_loopw [8] (fun i wr => ∃ j : Nat, j ≤ ks.length ∧ i = .int .i64 j ∧ (∀ m (h : m < j) (h1 : m < ks.length), p ks[m] = false) ∧ Below w.heap.size w wr) (fun i _ => ks.length - (intOf i).toNat)
  case atStart => exact ⟨0, Nat.zero_le _, rfl, fun m h => absurd h (by omega), Below.refl _ _⟩
  case round =>
    obtain ⟨j, hj, rfl, hz, hbl⟩ := hrel
    have HZ := Lib.hid hz; clear hz
    by_cases hlt : j < ks.length
    · obtain ⟨b, off, B1, C1, rfl, d0, d1, d2, hu⟩ := TermAt.cells hlt hA hU
      have e0 := cell_later hbl d0; have e1 := cell_later hbl d1; have e2 := cell_later hbl d2
      have hi : (j : Int) < (ks.length : Int) := by omega
      clear d0 d1 d2
      have HU := Lib.hid (hu.later hbl)
      have HLT := Lib.hid hlt
      have hc := HC.out j hlt
      have HC' := Lib.hid hc
      clear hc hu
      obtain ⟨q, hq⟩ : ∃ q, p ks[j] = q := ⟨_, rfl⟩
      have HQ := Lib.hid hq; clear hq
      go_wp2_with fail
      refine (HC'.out _ _ HU.out).mono ?_; rintro e w2 ⟨he, hb4⟩
      have he' : e = .returned (.bool q) := he.trans (ret_bool HQ.out)
      clear he; subst he'
      replace hb4 := hbl.trans (hb4.mono hbl.size)
      clear e0 e1 e2
      cases q
      · go_wp2_with fail
        go_roundw
        case rel =>
          refine ⟨j + 1, HLT.out, by go_num, fun m h g1 => ?_, hb4⟩
          rcases Nat.lt_or_ge m j with g | g
          · exact HZ.out m g g1
          · obtain rfl : m = j := by omega
            exact HQ.out
        case measure => have := HLT.out; simp [intOf]; omega
      · have HR := Lib.hid (T.idx_at p ks j hlt (fun m g => HZ.out m g (by omega)) HQ.out)
        go_wp2_with fail
        go_ret
        exact ⟨ret_i64 HR.out.symm, hb4⟩
    · have hi : (ks.length : Int) ≤ (j : Int) := by omega
      have HL := Lib.hid (T.idx_no p ks (fun m g => HZ.out m (by omega) g))
      go_wp2_with fail
      go_ret
      exact ⟨ret_i64 HL.out.symm, hbl⟩
theorem contains_simple (p : T → Bool) (A : Option Addr) (cap : Nat) (ks : List T) (U : Nat → Value × Value × Value) (w : World) (hkn : ks.length ≤ 1048576)
    (hA : ks.length = 0 ∨ ∃ b off, A = some ⟨b, off, none⟩ ∧ ∀ i, i < ks.length → w.cell? ⟨b, off + i * 3, none⟩ = some (U i).1 ∧ w.cell? ⟨b, off + i * 3 + 1, none⟩ = some (U i).2.1 ∧ w.cell? ⟨b, off + i * 3 + 2, none⟩ = some (U i).2.2)
    (hU : ∀ i (h : i < ks.length), TermAt w (.agg #[(U i).1, (U i).2.1, (U i).2.2]) ks[i])
    (hC : ∀ j (h : j < ks.length) (v : Value) (W : World), TermAt W v ks[j] → Calls Tryz.prog 143 #[v] W fun e w' => e = .returned (.bool (p ks[j])) ∧ Below W.heap.size W w') (r : Bool) (hr : ks.any p = r) :
    Calls Tryz.prog 84 #[.slice A ks.length cap, .func (.func 143) #[] #[]] w fun e w' => e = .returned (.bool r) ∧ Below w.heap.size w w' := by
  have HI := Lib.hid (index_simple p A cap ks U w hkn hA hU hC)
  have HR := Lib.hid ((T.idx_any p ks).trans hr)
  clear hr hA hU hC
  generalize T.idx p ks = q at HI HR
  go_enter Tryz.func84, Tryz.ntmps84
  go_wp2_with fail
  refine HI.out.mono ?_; rintro e w2 ⟨rfl, hb4⟩
  go_wp2_with fail
  go_ret
  exact ⟨ret_bool HR.out, hb4⟩

set_option maxRecDepth 100000 in
set_option maxHeartbeats 2000000 in
theorem index_shape (p : T → Bool) (A : Option Addr) (cap : Nat) (ks : List T) (U : Nat → Value × Value × Value) (w : World) (hkn : ks.length ≤ 1048576)
    (hA : ks.length = 0 ∨ ∃ b off, A = some ⟨b, off, none⟩ ∧ ∀ i, i < ks.length → w.cell? ⟨b, off + i * 3, none⟩ = some (U i).1 ∧ w.cell? ⟨b, off + i * 3 + 1, none⟩ = some (U i).2.1 ∧ w.cell? ⟨b, off + i * 3 + 2, none⟩ = some (U i).2.2)
    (hU : ∀ i (h : i < ks.length), TermAt w (.agg #[(U i).1, (U i).2.1, (U i).2.2]) ks[i])
    (hC : ∀ j (h : j < ks.length) (v : Value) (W : World), TermAt W v ks[j] → Calls Tryz.prog 144 #[v] W fun e w' => e = .returned (.bool (p ks[j])) ∧ Below W.heap.size W w') :
    Calls Tryz.prog 123 #[.slice A ks.length cap, .func (.func 144) #[] #[]] w fun e w' => e = .returned (.int .i64 (T.idx p ks)) ∧ Below w.heap.size w w' := by
  have HC := Lib.hid hC; clear hC
  go_enter Tryz.func123, Tryz.ntmps123
  go_wp2_with fail
  go_loopw [8] (fun i wr => ∃ j : Nat, j ≤ ks.length ∧ i = .int .i64 j ∧ (∀ m (h : m < j) (h1 : m < ks.length), p ks[m] = false) ∧ Below w.heap.size w wr) (fun i _ => ks.length - (intOf i).toNat)
  case atStart => exact ⟨0, Nat.zero_le _, rfl, fun m h => absurd h (by omega), Below.refl _ _⟩
  case round =>
    obtain ⟨j, hj, rfl, hz, hbl⟩ := hrel
    have HZ := Lib.hid hz; clear hz
    by_cases hlt : j < ks.length
    · obtain ⟨b, off, B1, C1, rfl, d0, d1, d2, hu⟩ := TermAt.cells hlt hA hU
      have e0 := cell_later hbl d0; have e1 := cell_later hbl d1; have e2 := cell_later hbl d2
      have hi : (j : Int) < (ks.length : Int) := by omega
      clear d0 d1 d2
      have HU := Lib.hid (hu.later hbl)
      have HLT := Lib.hid hlt
      have hc := HC.out j hlt
      have HC' := Lib.hid hc
      clear hc hu
      obtain ⟨q, hq⟩ : ∃ q, p ks[j] = q := ⟨_, rfl⟩
      have HQ := Lib.hid hq; clear hq
      go_wp2_with fail
      refine (HC'.out _ _ HU.out).mono ?_; rintro e w2 ⟨he, hb4⟩
      have he' : e = .returned (.bool q) := he.trans (ret_bool HQ.out)
      clear he; subst he'
      replace hb4 := hbl.trans (hb4.mono hbl.size)
      clear e0 e1 e2
      cases q
      · go_wp2_with fail
        go_roundw
        case rel =>
          refine ⟨j + 1, HLT.out, by go_num, fun m h g1 => ?_, hb4⟩
          rcases Nat.lt_or_ge m j with g | g
          · exact HZ.out m g g1
          · obtain rfl : m = j := by omega
            exact HQ.out
        case measure => have := HLT.out; simp [intOf]; omega
      · have HR := Lib.hid (T.idx_at p ks j hlt (fun m g => HZ.out m g (by omega)) HQ.out)
        go_wp2_with fail
        go_ret
        exact ⟨ret_i64 HR.out.symm, hb4⟩
    · have hi : (ks.length : Int) ≤ (j : Int) := by omega
      have HL := Lib.hid (T.idx_no p ks (fun m g => HZ.out m (by omega) g))
      go_wp2_with fail
      go_ret
      exact ⟨ret_i64 HL.out.symm, hbl⟩
theorem contains_shape (p : T → Bool) (A : Option Addr) (cap : Nat) (ks : List T) (U : Nat → Value × Value × Value) (w : World) (hkn : ks.length ≤ 1048576)
    (hA : ks.length = 0 ∨ ∃ b off, A = some ⟨b, off, none⟩ ∧ ∀ i, i < ks.length → w.cell? ⟨b, off + i * 3, none⟩ = some (U i).1 ∧ w.cell? ⟨b, off + i * 3 + 1, none⟩ = some (U i).2.1 ∧ w.cell? ⟨b, off + i * 3 + 2, none⟩ = some (U i).2.2)
    (hU : ∀ i (h : i < ks.length), TermAt w (.agg #[(U i).1, (U i).2.1, (U i).2.2]) ks[i])
    (hC : ∀ j (h : j < ks.length) (v : Value) (W : World), TermAt W v ks[j] → Calls Tryz.prog 144 #[v] W fun e w' => e = .returned (.bool (p ks[j])) ∧ Below W.heap.size W w') (r : Bool) (hr : ks.any p = r) :
    Calls Tryz.prog 84 #[.slice A ks.length cap, .func (.func 144) #[] #[]] w fun e w' => e = .returned (.bool r) ∧ Below w.heap.size w w' := by
  have HI := Lib.hid (index_shape p A cap ks U w hkn hA hU hC)
  have HR := Lib.hid ((T.idx_any p ks).trans hr)
  clear hr hA hU hC
  generalize T.idx p ks = q at HI HR
  go_enter Tryz.func84, Tryz.ntmps84
  go_wp2_with fail
  refine HI.out.mono ?_; rintro e w2 ⟨rfl, hb4⟩
  go_wp2_with fail
  go_ret
  exact ⟨ret_bool HR.out, hb4⟩

set_option maxRecDepth 100000 in
set_option maxHeartbeats 2000000 in
theorem index_var (p : T → Bool) (A : Option Addr) (cap : Nat) (ks : List T) (U : Nat → Value × Value × Value) (w : World) (hkn : ks.length ≤ 1048576)
    (hA : ks.length = 0 ∨ ∃ b off, A = some ⟨b, off, none⟩ ∧ ∀ i, i < ks.length → w.cell? ⟨b, off + i * 3, none⟩ = some (U i).1 ∧ w.cell? ⟨b, off + i * 3 + 1, none⟩ = some (U i).2.1 ∧ w.cell? ⟨b, off + i * 3 + 2, none⟩ = some (U i).2.2)
    (hU : ∀ i (h : i < ks.length), TermAt w (.agg #[(U i).1, (U i).2.1, (U i).2.2]) ks[i])
    (hC : ∀ j (h : j < ks.length) (v : Value) (W : World), TermAt W v ks[j] → Calls Tryz.prog 118 #[v] W fun e w' => e = .returned (.bool (p ks[j])) ∧ Below W.heap.size W w') :
    Calls Tryz.prog 123 #[.slice A ks.length cap, .func (.func 118) #[] #[]] w fun e w' => e = .returned (.int .i64 (T.idx p ks)) ∧ Below w.heap.size w w' := by
  have HC := Lib.hid hC; clear hC
  go_enter Tryz.func123, Tryz.ntmps123
  go_wp2_with fail
  go_loopw [8] (fun i wr => ∃ j : Nat, j ≤ ks.length ∧ i = .int .i64 j ∧ (∀ m (h : m < j) (h1 : m < ks.length), p ks[m] = false) ∧ Below w.heap.size w wr) (fun i _ => ks.length - (intOf i).toNat)
  case atStart => exact ⟨0, Nat.zero_le _, rfl, fun m h => absurd h (by omega), Below.refl _ _⟩
  case round =>
    obtain ⟨j, hj, rfl, hz, hbl⟩ := hrel
    have HZ := Lib.hid hz; clear hz
    by_cases hlt : j < ks.length
    · obtain ⟨b, off, B1, C1, rfl, d0, d1, d2, hu⟩ := TermAt.cells hlt hA hU
      have e0 := cell_later hbl d0; have e1 := cell_later hbl d1; have e2 := cell_later hbl d2
      have hi : (j : Int) < (ks.length : Int) := by omega
      clear d0 d1 d2
      have HU := Lib.hid (hu.later hbl)
      have HLT := Lib.hid hlt
      have hc := HC.out j hlt
      have HC' := Lib.hid hc
      clear hc hu
      obtain ⟨q, hq⟩ : ∃ q, p ks[j] = q := ⟨_, rfl⟩
      have HQ := Lib.hid hq; clear hq
      go_wp2_with fail
      refine (HC'.out _ _ HU.out).mono ?_; rintro e w2 ⟨he, hb4⟩
      have he' : e = .returned (.bool q) := he.trans (ret_bool HQ.out)
      clear he; subst he'
      replace hb4 := hbl.trans (hb4.mono hbl.size)
      clear e0 e1 e2
      cases q
      · go_wp2_with fail
        go_roundw
        case rel =>
          refine ⟨j + 1, HLT.out, by go_num, fun m h g1 => ?_, hb4⟩
          rcases Nat.lt_or_ge m j with g | g
          · exact HZ.out m g g1
          · obtain rfl : m = j := by omega
            exact HQ.out
        case measure => have := HLT.out; simp [intOf]; omega
      · have HR := Lib.hid (T.idx_at p ks j hlt (fun m g => HZ.out m g (by omega)) HQ.out)
        go_wp2_with fail
        go_ret
        exact ⟨ret_i64 HR.out.symm, hb4⟩
    · have hi : (ks.length : Int) ≤ (j : Int) := by omega
      have HL := Lib.hid (T.idx_no p ks (fun m g => HZ.out m (by omega) g))
      go_wp2_with fail
      go_ret
      exact ⟨ret_i64 HL.out.symm, hbl⟩
theorem contains_var (p : T → Bool) (A : Option Addr) (cap : Nat) (ks : List T) (U : Nat → Value × Value × Value) (w : World) (hkn : ks.length ≤ 1048576)
    (hA : ks.length = 0 ∨ ∃ b off, A = some ⟨b, off, none⟩ ∧ ∀ i, i < ks.length → w.cell? ⟨b, off + i * 3, none⟩ = some (U i).1 ∧ w.cell? ⟨b, off + i * 3 + 1, none⟩ = some (U i).2.1 ∧ w.cell? ⟨b, off + i * 3 + 2, none⟩ = some (U i).2.2)
    (hU : ∀ i (h : i < ks.length), TermAt w (.agg #[(U i).1, (U i).2.1, (U i).2.2]) ks[i])
    (hC : ∀ j (h : j < ks.length) (v : Value) (W : World), TermAt W v ks[j] → Calls Tryz.prog 118 #[v] W fun e w' => e = .returned (.bool (p ks[j])) ∧ Below W.heap.size W w') (r : Bool) (hr : ks.any p = r) :
    Calls Tryz.prog 84 #[.slice A ks.length cap, .func (.func 118) #[] #[]] w fun e w' => e = .returned (.bool r) ∧ Below w.heap.size w w' := by
  have HI := Lib.hid (index_var p A cap ks U w hkn hA hU hC)
  have HR := Lib.hid ((T.idx_any p ks).trans hr)
  clear hr hA hU hC
  generalize T.idx p ks = q at HI HR
  go_enter Tryz.func84, Tryz.ntmps84
  go_wp2_with fail
  refine HI.out.mono ?_; rintro e w2 ⟨rfl, hb4⟩
  go_wp2_with fail
  go_ret
  exact ⟨ret_bool HR.out, hb4⟩

end Go.Proofs.YtihbmgkbipeakaaGreat
