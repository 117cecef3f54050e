/- Chapter 40: the walks of variable, closed, Valid and Ground of both. -/
import Derived.Test.YtihbmgkbipeakaaGreatTermValid
namespace Go.Proofs.YtihbmgkbipeakaaGreat
open Go.RowKit

namespace T
mutual
/-- Is there a variable in a term? -/
def hasVar : T → Bool
  | .mk k _ ks => k == 2 || hasVarAll ks
def hasVarAll : List T → Bool
  | [] => false
  | t :: r => hasVar t || hasVarAll r
end
theorem hasVarAll_any : ∀ l : List T, hasVarAll l = l.any hasVar
  | [] => rfl
  | t :: r => by simp only [hasVarAll, List.any_cons, hasVarAll_any r]
def valid (t : T) : Bool := decide (t.size ≤ 40) && t.shape
def ground (t : T) : Bool := t.valid && !t.hasVar
end T
set_option maxRecDepth 100000 in
set_option maxHeartbeats 2000000 in
theorem ovar : ∀ (N : Nat) (t : T) (v : Value) (w : World), t.bulk < N → TermAt w v t → t.bulk ≤ 1048576 →
    Calls Tryz.prog 118 #[v] w fun e w' => e = .returned (.bool t.hasVar) ∧ Below w.heap.size w w' := by
  intro N
  induction N with
  | zero => intro t v w h; omega
  | succ N ih =>
    intro t v w hN ht hbk
    cases ht with
    | mk k s A cap ks U h1 h2 h3 h4 hA hU =>
      simp only [T.bulk] at hN hbk
      have hkn : ks.length ≤ 1048576 := by have := T.len_le ks; omega
      have hb1 := below_alloc1 w (.cells #[.int .i64 k, .string s, .slice A ks.length cap] 29)
      obtain ⟨R, hR⟩ : ∃ R, (T.mk k s ks).hasVar = R := ⟨_, rfl⟩
      rw [hR]
      simp only [T.hasVar, T.hasVarAll_any] at hR
      have hkids : ∀ r, (ks.any T.hasVar) = r → Calls Tryz.prog 84 #[.slice A ks.length cap, .func (.func 118) #[] #[]] (w.alloc (.cells #[.int .i64 k, .string s, .slice A ks.length cap] 29)) fun e w' => e = .returned (.bool r) ∧ Below (w.alloc (.cells #[.int .i64 k, .string s, .slice A ks.length cap] 29)).heap.size (w.alloc (.cells #[.int .i64 k, .string s, .slice A ks.length cap] 29)) w' := fun r hr => by
        refine contains_var T.hasVar A cap ks U _ hkn ?_ (fun i h => (hU i h).later hb1) ?_ r hr
        · rcases hA with h | ⟨b, off, e, hc⟩
          · exact .inl h
          · exact .inr ⟨b, off, e, fun i hi => by obtain ⟨c0, c1, c2⟩ := hc i hi; exact ⟨cell_later hb1 c0, cell_later hb1 c1, cell_later hb1 c2⟩⟩
        · intro j h v' W' hv
          have := T.bulk_at ks j h
          exact ih _ _ _ (by omega) hv (by omega)
      have HK := Lib.hid hkids
      have HB1 := Lib.hid hb1
      clear hkids hA hU ih hb1
      by_cases k2 : k = 2
      · subst k2
        have HR := Lib.hid (show true = R by rw [← hR]; rfl)
        clear hR
        go_enter Tryz.func118, Tryz.ntmps118
        go_wp2_with fail
        go_ret
        exact ⟨ret_bool HR.out, HB1.out⟩
      · have k2' : (k == 2) = false := by rw [beq_eq_false_iff_ne]; exact k2
        have HR := Lib.hid (show (ks.any T.hasVar) = R by rw [← hR, k2']; rfl)
        clear hR k2
        go_enter Tryz.func118, Tryz.ntmps118
        go_wp2_with (go_at_call 84; refine (HK.out _ HR.out).mono ?_; rintro e w2 ⟨rfl, hb2⟩)
        go_ret
        exact ⟨rfl, HB1.out.trans (hb2.mono HB1.out.size)⟩
set_option maxRecDepth 100000 in
set_option maxHeartbeats 2000000 in
theorem rclosed : ∀ (N : Nat) (t : T) (v : Value) (w : World), t.bulk < N → TermAt w v t → t.bulk ≤ 1048576 →
    Calls Tryz.prog 126 #[v] w fun e w' => e = .returned (.bool (!t.hasVar)) ∧ Below w.heap.size w w' := by
  intro N
  induction N with
  | zero => intro t v w h; omega
  | succ N ih =>
    intro t v w hN ht hbk
    cases ht with
    | mk k s A cap ks U h1 h2 h3 h4 hA hU =>
      simp only [T.bulk] at hN hbk
      have hkn : ks.length ≤ 1048576 := by have := T.len_le ks; omega
      have hbx := boxed_new w (.int .i64 k) (.string s) (.slice A ks.length cap) 29
      have hb1 := below_alloc1 w (.cells #[.int .i64 k, .string s, .slice A ks.length cap] 29)
      obtain ⟨R, hR⟩ : ∃ R, (T.mk k s ks).hasVar = R := ⟨_, rfl⟩
      rw [hR]
      simp only [T.hasVar, T.hasVarAll_any] at hR
      have HBad := Lib.hid (fun j (h : j < ks.length) (hp : ks[j].hasVar = true) => show false = !R by rw [← hR, T.any_at T.hasVar ks j h hp]; simp)
      have HGood := Lib.hid (fun (hp : ∀ j (g : j < ks.length), ks[j].hasVar = false) => show (k != 2) = !R by rw [← hR, T.any_none T.hasVar ks hp, Bool.or_false]; rfl)
      go_enter Tryz.func126, Tryz.ntmps126
      go_wp2_with fail
      generalize w.alloc (.cells #[.int .i64 k, .string s, .slice A ks.length cap] 29) = w1 at hbx hb1 ⊢
      obtain ⟨x0, x1, x2⟩ := hbx
      have BA := Lib.hid hA; have BU := Lib.hid hU
      have IH := Lib.hid ih
      clear hA hU ih hR
      go_loopw [3] (fun i wr => ∃ j : Nat, j ≤ ks.length ∧ i = .int .i64 j ∧ (∀ m (_ : m < j) (h1 : m < ks.length), ks[m].hasVar = false) ∧ Below w1.heap.size w1 wr) (fun i _ => ks.length - (intOf i).toNat)
      case atStart => exact ⟨0, Nat.zero_le _, rfl, fun m h => absurd h (by omega), Below.refl _ _⟩
      case round =>
        obtain ⟨j, hj, rfl, hz, hbl⟩ := hrel
        have HZ := Lib.hid hz; clear hz
        have z0 := cell_later hbl x0; have z1 := cell_later hbl x1; have z2 := cell_later hbl x2
        have hbw := hb1.trans (hbl.mono hb1.size)
        by_cases hlt : j < ks.length
        · obtain ⟨b, off, B1, C1, rfl, d0, d1, d2, hu⟩ := TermAt.cells hlt BA.out BU.out
          have e0 := cell_later hbw d0; have e1 := cell_later hbw d1; have e2 := cell_later hbw d2
          have hi : (j : Int) < (ks.length : Int) := by omega
          have HU := Lib.hid (hu.later hbw); have HLT := Lib.hid hlt; have HBL := Lib.hid hbl
          have HB2 := Lib.hid (show ks[j].bulk < N ∧ ks[j].bulk ≤ 1048576 by have := T.bulk_at ks j hlt; omega)
          obtain ⟨q, hq⟩ : ∃ q, ks[j].hasVar = q := ⟨_, rfl⟩
          have HQ := Lib.hid hq
          clear hu hq hbw hj hbl d0 d1 d2
          go_wp2_with fail
          refine (IH.out _ _ _ HB2.out.1 HU.out HB2.out.2).mono ?_; rintro e w2 ⟨he, hb4⟩
          have he' : e = .returned (.bool (!q)) := he.trans (ret_bool (by rw [HQ.out]))
          clear he; subst he'
          replace hb4 := HBL.out.trans (hb4.mono HBL.out.size)
          clear e0 e1 e2 z0 z1 z2 x0 x1 x2
          cases q
          · go_wp2_with fail
            go_roundw
            case rel =>
              refine ⟨j + 1, HLT.out, by go_num, fun m h g1 => ?_, hb4⟩
              rcases Nat.lt_or_ge m j with g | g
              · exact HZ.out m g g1
              · obtain rfl : m = j := by omega
                exact HQ.out
            case measure => have := HLT.out; simp [intOf]; omega
          · have HR := Lib.hid (HBad.out j HLT.out HQ.out)
            go_wp2_with fail
            go_ret
            exact ⟨ret_bool HR.out, hb1.trans (hb4.mono hb1.size)⟩
        · have hge : (ks.length : Int) ≤ (j : Int) := by omega
          have HR := Lib.hid (HGood.out (fun m g => HZ.out m (by omega) g))
          have HBW := Lib.hid hbw
          clear hlt hj
          go_wp2_with fail
          go_ret
          exact ⟨ret_bool HR.out, HBW.out⟩
end Go.Proofs.YtihbmgkbipeakaaGreat
