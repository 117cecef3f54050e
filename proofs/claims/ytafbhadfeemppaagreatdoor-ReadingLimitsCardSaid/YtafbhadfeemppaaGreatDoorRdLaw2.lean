/- Chapter 12: the walk of the law on the limit. -/
import Derived.Test.YtafbhadfeemppaaGreatDoorRdPut
import Derived.Test.YtafbhadfeemppaaGreatDoorRdGA
import Derived.Test.YtafbhadfeemppaaGreatDoorMade
namespace Go.Proofs.YtafbhadfeemppaaGreatDoor
open Go.RowKit Go.ChangeShapes Go.WideShapes

/-- The sample's reading with so many doubts. -/
def limG : Nat → List (List ByteArray)
  | 0 => sharpG [Zn.smp0, Zn.smp1]
  | j + 1 => putG (limG j) 0 (5 + j) ⟨#[65, 66]⟩
theorem limG_len : ∀ j, (limG j).length = 2
  | 0 => by kernel_rfl
  | j + 1 => by rw [limG, putG_len, limG_len j]
theorem limG_row : ∀ (j : Nat) (h : 0 < (limG j).length), (limG j)[0].length = 44
  | 0, h => by kernel_rfl
  | j + 1, h => by
    have h' : 0 < (limG j).length := by rw [limG_len]; decide
    have : (limG (j + 1))[0].length = (limG j)[0].length := putG_row (K := limG j) (i := 0) (k := 5 + j) (s := ⟨#[65, 66]⟩) (j := 0) h h'
    rw [this, limG_row j h']
theorem lim_facts : ([10, 11, 12, 13].all fun k => okG (limG k) && decide (Rd.size (flatG (limG k)) = 2 ^ k) && decide ((limG k).flatten.length ≤ 4194304) && (limG k).all fun r => r.all fun s => decide (s.size ≤ 2)) = true := by kernel_rfl
theorem lim_small {k : Nat} (h1 : 10 ≤ k) (h2 : k ≤ 13) : okG (limG k) = true ∧ Rd.size (flatG (limG k)) = 2 ^ k ∧ (limG k).flatten.length ≤ 4194304 ∧ ∀ r ∈ limG k, ∀ s ∈ r, s.size ≤ 2 := by
  have h := List.all_eq_true.1 lim_facts k (by
    have : k = 10 ∨ k = 11 ∨ k = 12 ∨ k = 13 := by omega
    rcases this with rfl | rfl | rfl | rfl <;> simp)
  rw [Bool.and_eq_true, Bool.and_eq_true, Bool.and_eq_true] at h
  obtain ⟨⟨⟨h1, h2⟩, h3⟩, h4⟩ := h
  exact ⟨h1, of_decide_eq_true h2, of_decide_eq_true h3, fun r hr s hs => of_decide_eq_true (List.all_eq_true.1 (List.all_eq_true.1 h4 r hr) s hs)⟩
theorem lim_cnt {k : Nat} (h1 : 10 ≤ k) (h2 : k ≤ 13) : cntE (limG k) = (if 12 < k then 24 else 0) ∧ (k ≤ 12 → cntN (limG k) = ((2 ^ k : Nat) : Int)) := by
  obtain ⟨a, b, _, _⟩ := lim_small h1 h2
  have hE : cntE (limG k) = if 12 < k then 24 else 0 := by
    unfold cntE
    rw [if_neg (by rw [a]; decide), b]
    have : k = 10 ∨ k = 11 ∨ k = 12 ∨ k = 13 := by omega
    rcases this with rfl | rfl | rfl | rfl <;> rfl
  refine ⟨hE, fun h => ?_⟩
  unfold cntN
  rw [if_pos (by rw [hE, if_neg (by omega)]), b]
set_option maxRecDepth 100000 in
set_option maxHeartbeats 4000000 in
theorem walkReadingLimits {X : Prop} (w : World) (a0 : Int) (w0 : (Lit.int .i64 a0).wf = true) (_hsz : X) (hL : laidMetH Tryz.prog Rows.readingLimitsRow.laid w) (hsh : w.ShapedOpen Tryz.prog) :
    Calls Tryz.prog 8 #[.int .i64 a0] w fun e w' => e = .returned (.bool true) ∧ Below w.heap.size w w' := by
  have hb := bounds_i64 w0
  have HDX := Lib.hid (And.intro (laid_dat (by kernel_rfl) hL) (Opt.lax_of hsh))
  have HAW := Lib.hid (fun W (h : Below w.heap.size w W) => oawake W (HDX.out.1.below h) (HDX.out.2.below h))
  have HSM := Lib.hid osample
  have HSH := Lib.hid (fun (W : World) (A : Option Addr) (c : Nat) (h : TextsAt W A [Zn.smp0, Zn.smp1]) => osharp [Zn.smp0, Zn.smp1] A c W h (by decide) (by decide))
  obtain ⟨R, hR⟩ : ∃ R, [Zn.smp0, Zn.smp1] = R := ⟨_, rfl⟩
  have HLG := Lib.hid (show sharpG R = limG 0 by rw [← hR]; rfl)
  rw [hR] at HSM HSH
  have HRL := Lib.hid (show R.length = 2 by rw [← hR]; rfl)
  obtain ⟨m, hm⟩ : ∃ m : Nat, a0 % 4 = (m : Int) := ⟨(a0 % 4).toNat, by omega⟩
  have hm4 : m < 4 := by omega
  have HMD := Lib.hid (show ∀ W, Calls Tryz.prog 25 #[.int .i64 a0, .int .i64 4] W fun e w' => e = .returned (.int .i64 (m : Int)) ∧ W = w' from fun W => by
    have h := made_mod a0 4 W hb.1 hb.2 (by omega) (by omega)
    rw [hm] at h
    exact h)
  clear hL hsh w0 hb hR hm
  go_enter Tryz.func8, Tryz.ntmps8
  go_wp2_with fail
  refine (HSM.out _).mono ?_; rintro e w1 ⟨A1, c1, rfl, ht1, hb1⟩
  have HT1 := Lib.hid ht1; have HB1 := Lib.hid hb1
  clear ht1 hb1
  go_wp2_with fail
  have h1 := HSH.out _ _ c1 HT1.out
  rw [HRL.out] at h1
  refine h1.mono ?_; rintro e w2 ⟨v, vs, rfl, hr, hb2⟩
  obtain ⟨A2, c2, rfl, _, _⟩ := own_form hr.1
  rw [HLG.out] at hr ⊢
  have HR := Lib.hid (show RowsAt w2 w.heap.size (.slice A2 (limG 0).length c2) vs (limG 0) from hr.base HB1.out.size)
  rw [limG_len] at HR ⊢
  have HB2 := Lib.hid (HB1.out.trans (hb2.mono HB1.out.size))
  clear h1 hr hb2
  go_wp2_with fail
  refine (HMD.out _).mono ?_; rintro e w3 ⟨rfl, rfl⟩
  go_wp2_with fail
  go_loopw [5] (fun v5 wr => ∃ j : Nat, j ≤ 10 + m ∧ v5 = .int .i64 j ∧ RowsAt wr w.heap.size (.slice A2 2 c2) vs (limG j) ∧ Below w.heap.size w wr) (fun v5 _ => 10 + m - (intOf v5).toNat)
  case atStart => exact ⟨0, by omega, rfl, HR.out, HB2.out⟩
  case round =>
    obtain ⟨j, hj, rfl, hrr, hbr⟩ := hrel
    have HBR := Lib.hid hbr; have HRR := Lib.hid hrr
    clear hbr hrr
    by_cases hlt : j < 10 + m
    · have hl0 : 0 < (limG j).length := by rw [limG_len]; decide
      have hlr := limG_row j hl0
      obtain ⟨g, c, ga, ca, hv, e0, e1, e2, h3, h4, h5⟩ := HRR.out.place hl0 (k := 5 + j) (by rw [hlr]; omega)
      rw [hlr] at e0
      rw [limG_len] at hv
      obtain ⟨rfl, rfl⟩ : A2 = some ⟨g, 0, none⟩ ∧ c2 = c := by
        simp only [Value.slice.injEq] at hv
        exact ⟨hv.1, hv.2.2⟩
      have HP := Lib.hid (And.intro (h5 ⟨#[65, 66]⟩) (set_below12 (k := 5 + j) HBR.out h3 (.string ⟨#[65, 66]⟩)))
      have HLT := Lib.hid hlt
      have e1' : ∃ q, wr.cell? ⟨ga, 5 + j, none⟩ = some (.string q) := ⟨_, e1⟩
      clear e1
      obtain ⟨q, e1⟩ := e1'
      clear hl0 hlr hv h3 h4 h5
      go_wp2_with fail
      go_roundw
      case rel => exact ⟨j + 1, HLT.out, by go_num, HP.out.1, HP.out.2⟩
      case measure => have := HLT.out; simp [intOf]; omega
    · obtain rfl : j = 10 + m := by omega
      have HLF := Lib.hid (lim_small (k := 10 + m) (by omega) (by omega))
      have HLC := Lib.hid (lim_cnt (k := 10 + m) (by omega) (by omega))
      have HCO := Lib.hid (show Calls Tryz.prog 29 #[.slice A2 2 c2] wr fun e w' => e = .returned (.tuple #[.int .i64 (cntN (limG (10 + m))), .int .i64 (cntE (limG (10 + m)))]) ∧ Below wr.heap.size wr w' by
        have h := ocount (limG (10 + m)) A2 c2 wr (HRR.out.grid (by rw [limG_len])) (by rw [limG_len]; decide) HLF.out.2.2.1 (fun r hr s hs => Nat.le_trans (HLF.out.2.2.2 r hr s hs) (by decide))
        rw [limG_len] at h
        exact h)
      clear hlt
      go_wp2_with fail
      refine HCO.out.mono ?_; rintro e w4 ⟨rfl, hb4⟩
      have HB4 := Lib.hid (HBR.out.trans (hb4.mono HBR.out.size))
      clear hb4
      obtain ⟨E, hE⟩ : ∃ E, cntE (limG (10 + m)) = E := ⟨_, rfl⟩
      obtain ⟨Nn, hN⟩ : ∃ Nn, cntN (limG (10 + m)) = Nn := ⟨_, rfl⟩
      rw [hE, hN] at HLC ⊢
      clear hE hN
      have HM4 := Lib.hid hm4
      by_cases hbig : 12 < 10 + m
      · obtain rfl : E = 24 := by rw [HLC.out.1, if_pos hbig]
        go_wp2_with fail
        refine (HAW.out _ HB4.out).mono ?_; rintro e w5 ⟨rfl, hb5⟩
        have HB5 := Lib.hid (HB4.out.trans (hb5.mono HB4.out.size))
        clear hb5
        go_wp2_with fail
        go_ret
        exact ⟨rfl, HB5.out⟩
      · obtain rfl : E = 0 := by rw [HLC.out.1, if_neg hbig]
        obtain rfl : Nn = ((2 ^ (10 + m) : Nat) : Int) := HLC.out.2 (by omega)
        have : m = 0 ∨ m = 1 ∨ m = 2 := by omega
        clear hbig hm4
        rcases this with rfl | rfl | rfl
        all_goals
          go_wp2_with fail
          refine (HAW.out _ HB4.out).mono ?_; rintro e w5 ⟨rfl, hb5⟩
          have HB5 := Lib.hid (HB4.out.trans (hb5.mono HB4.out.size))
          clear hb5
          go_wp2_with fail
          go_ret
          exact ⟨rfl, HB5.out⟩
end Go.Proofs.YtafbhadfeemppaaGreatDoor
