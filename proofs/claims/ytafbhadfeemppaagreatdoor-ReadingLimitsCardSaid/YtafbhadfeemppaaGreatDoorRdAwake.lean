/- Chapter 12: the walk of the sanity check. -/
import Derived.Test.YtafbhadfeemppaaGreatDoorRdSharp
import Derived.Test.YtafbhadfeemppaaGreatDoorRdGL
import Derived.Test.YtafbhadfeemppaaGreatDoorRdSame
import Derived.Test.YtafbhadfeemppaaGreatDoorZonGM
namespace Go.Proofs.YtafbhadfeemppaaGreatDoor
open Go.RowKit

theorem smp_ok : okG (sharpG [Zn.smp0, Zn.smp1]) = true := by kernel_rfl
theorem smp_size : Rd.size (flatG (sharpG [Zn.smp0, Zn.smp1])) = 1 := by kernel_rfl
theorem smp_lines : lineS 2 44 (choice (flatG (sharpG [Zn.smp0, Zn.smp1])) 0) = [Zn.smp0, Zn.smp1] := by kernel_rfl
theorem smp_cnt : cntE (sharpG [Zn.smp0, Zn.smp1]) = 0 := by unfold cntE; rw [smp_ok, smp_size]; rfl
theorem smp_rdK : rdK (sharpG [Zn.smp0, Zn.smp1]) = [[Zn.smp0, Zn.smp1]] := by
  unfold rdK KS
  rw [smp_size]
  show ([lineS 2 44 (choice (flatG (sharpG [Zn.smp0, Zn.smp1])) 0)]).filter _ = _
  rw [smp_lines]
  simp [Zn.smp_prsE]
theorem smp_onlE : onlE (sharpG [Zn.smp0, Zn.smp1]) = 0 := by unfold onlE; rw [smp_cnt, smp_rdK]; rfl
theorem smp_onlV : onlV (sharpG [Zn.smp0, Zn.smp1]) = [Zn.smp0, Zn.smp1] := by unfold onlV; rw [if_pos smp_onlE, smp_rdK]; rfl
set_option maxRecDepth 100000 in
theorem osample (w : World) : Calls Tryz.prog 28 #[] w fun e w' => ∃ A c, e = .returned (.slice A 2 c) ∧ TextsAt w' A [Zn.smp0, Zn.smp1] ∧ Below w.heap.size w w' := by
  have HN := Lib.hid (texts_new w [Zn.smp0, Zn.smp1])
  have HB := Lib.hid (below_alloc1 w (.cells ([Zn.smp0, Zn.smp1].map Value.string).toArray 9))
  go_enter Tryz.func28, Tryz.ntmps28
  go_wp2_with fail
  go_ret
  exact ⟨_, _, rfl, HN.out, HB.out⟩
set_option maxRecDepth 100000 in
set_option maxHeartbeats 4000000 in
theorem oawake (w : World) (hd : Dat.At w) (hx : Opt.Lax w) : Calls Tryz.prog 11 #[] w fun e w' => e = .returned (.bool true) ∧ Below w.heap.size w w' := by
  have HDX := Lib.hid (And.intro hd hx)
  have HSM := Lib.hid osample
  have HSH := Lib.hid (fun (W : World) (A : Option Addr) (c : Nat) (h : TextsAt W A [Zn.smp0, Zn.smp1]) => osharp [Zn.smp0, Zn.smp1] A c W h (by decide) (by decide))
  have HON := Lib.hid (show ∀ (W : World) (A : Option Addr) (c : Nat), GridAt W A (sharpG [Zn.smp0, Zn.smp1]) → Dat.At W → Opt.Lax W → Calls Tryz.prog 19 #[.slice A 2 c] W fun e w' => ∃ A' c', e = .returned (.tuple #[.slice A' 2 c', .int .i64 0]) ∧ TextsAt w' A' [Zn.smp0, Zn.smp1] ∧ Below W.heap.size W w' from fun W A c h1 h2 h3 => by
    have h := oonly (sharpG [Zn.smp0, Zn.smp1]) A c W h1 (by decide) (by decide) (by decide) h2 h3
    unfold OnlyPost at h
    rw [smp_onlE, smp_onlV] at h
    exact h)
  have HSS := Lib.hid (fun (W : World) (A B : Option Addr) (c d : Nat) (hA : TextsAt W A [Zn.smp0, Zn.smp1]) (hB : TextsAt W B [Zn.smp0, Zn.smp1]) => rsame_same W A B [Zn.smp0, Zn.smp1] c d hA hB (by decide))
  have HSI := Lib.hid (show ∀ W, Calls Tryz.prog 10 #[.int .u8 79] W fun e w' => e = .returned (.string ⟨#[48, 68, 79, 81]⟩) ∧ Below W.heap.size W w' from fun W => by
    have h := osimilar 79 W
    rw [show simS 79 = ⟨#[48, 68, 79, 81]⟩ by kernel_rfl] at h
    exact h)
  obtain ⟨R, hR⟩ : ∃ R, [Zn.smp0, Zn.smp1] = R := ⟨_, rfl⟩
  rw [hR] at HSM HSH HON HSS
  have HRL := Lib.hid (show R.length = 2 by rw [← hR]; rfl)
  clear hd hx hR
  go_enter Tryz.func11, Tryz.ntmps11
  go_wp2_with fail
  refine (HSM.out _).mono ?_; rintro e w1 ⟨A1, c1, rfl, ht1, hb1⟩
  have HT1 := Lib.hid ht1; have HB1 := Lib.hid hb1
  clear ht1 hb1
  go_wp2_with fail
  have h1 := HSH.out _ _ c1 HT1.out
  rw [HRL.out] at h1
  refine h1.mono ?_; rintro e w2 ⟨v, vs, rfl, hr, hb2⟩
  obtain ⟨A2, c2, rfl, _, _⟩ := own_form hr.1
  have hgl : (sharpG R).length = 2 := by unfold sharpG; rw [List.length_map]; exact HRL.out
  have HG := Lib.hid (hr.grid rfl)
  rw [hgl]
  have HB2 := Lib.hid (HB1.out.trans (hb2.mono HB1.out.size))
  clear h1 hr hb2 hgl
  go_wp2_with fail
  refine (HON.out _ _ c2 HG.out (HDX.out.1.below HB2.out) (HDX.out.2.below HB2.out)).mono ?_; rintro e w3 ⟨A3, c3, rfl, ht3, hb3⟩
  have HT3 := Lib.hid ht3; have HB3 := Lib.hid (HB2.out.trans (hb3.mono HB2.out.size))
  clear ht3 hb3
  go_upto_region 2 with fail
  go_wp2_with fail
  refine (HSM.out _).mono ?_; rintro e w4 ⟨A4, c4, rfl, ht4, hb4⟩
  have HT4 := Lib.hid (And.intro (HT3.out.later hb4) ht4); have HB4 := Lib.hid (HB3.out.trans (hb4.mono HB3.out.size))
  clear ht4 hb4
  go_wp2_with fail
  have h2 := HSS.out _ _ _ c3 c4 HT4.out.1 HT4.out.2
  rw [HRL.out] at h2
  refine h2.mono ?_; rintro e w5 ⟨rfl, hb5⟩
  have HB5 := Lib.hid (HB4.out.trans (hb5.mono HB4.out.size))
  clear h2 hb5
  go_wp2_with fail
  refine (HSI.out _).mono ?_; rintro e w6 ⟨rfl, hb6⟩
  have HB6 := Lib.hid (HB5.out.trans (hb6.mono HB5.out.size))
  clear hb6
  go_wp2_with fail
  go_ret
  exact ⟨rfl, HB6.out⟩
end Go.Proofs.YtafbhadfeemppaaGreatDoor
