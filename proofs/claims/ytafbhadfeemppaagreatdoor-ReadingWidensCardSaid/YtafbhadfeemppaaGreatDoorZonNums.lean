/- Chapter 11: the walk of numbers of a sheet. -/
import Derived.Test.YtafbhadfeemppaaGreatDoorZonSheet2
import Derived.Deep.RegionWith
namespace Go.Proofs.YtafbhadfeemppaaGreatDoor
open Go.RowKit

theorem digS_of {l : List UInt8} (h : Opt.valid l = true) : Opt.digS ⟨l.toArray⟩ = ⟨(Zn.dg l).toArray⟩ := by
  unfold Opt.digS; rw [if_pos h]; rfl
theorem toList_of (l : List UInt8) : (⟨l.toArray⟩ : ByteArray).toList = l := by rw [ByteArray.toList_eq]
theorem eq_bytes {S : ByteArray} {l : List UInt8} (h : S = ⟨l.toArray⟩) (m : List UInt8) : (S.toList == m) = decide (l = m) := by
  rw [h, toList_of, Bool.eq_iff_iff, beq_iff_eq, decide_eq_true_eq]
theorem cut_valid {l : List UInt8} (h : Opt.valid l = true) : Opt.valid (Lib.cut l [60]).1 = true ∧ Opt.valid (Lib.cut l [60]).2.1 = true := by
  unfold Lib.cut
  split
  · exact ⟨List.all_eq_true.2 fun x hx => List.all_eq_true.1 h x (List.mem_of_mem_take hx), List.all_eq_true.2 fun x hx => List.all_eq_true.1 h x (List.mem_of_mem_drop hx)⟩
  · exact ⟨h, rfl⟩
theorem cut_len (l : List UInt8) : (Lib.cut l [60]).1.length ≤ l.length ∧ (Lib.cut l [60]).2.1.length ≤ l.length := by
  unfold Lib.cut
  split
  · exact ⟨by rw [List.length_take]; exact Nat.min_le_right _ _, by rw [List.length_drop]; exact Nat.sub_le _ _⟩
  · exact ⟨Nat.le_refl _, Nat.zero_le _⟩
theorem place_le (f : Nat) (hf : 1 ≤ f ∧ f ≤ 3) (i : Nat) (hi : i < 15) : (Zn.place f i).2.2 ≤ 44 := by
  have := (Zn.place_in f hf i hi).2
  have hwl : Zn.wLine f ≤ 44 := by unfold Zn.wLine; split; · omega
                                   split <;> omega
  omega
theorem valid_app {a b : List UInt8} (h : Opt.valid a = true) (h' : Opt.valid b = true) : Opt.valid (a ++ b) = true := by unfold Opt.valid at *; rw [List.all_append, h, h']; rfl
theorem ret_three {a b c d : ByteArray} {m n : Int} (h : a = b) (h' : c = d) (h'' : m = n) : Ending.returned (.tuple #[.string a, .string c, .int .i64 m]) = .returned (.tuple #[.string b, .string d, .int .i64 n]) := by rw [h, h', h'']

theorem below_of_drew {w w' : World} (h : Below w.drew.heap.size w.drew w') : Below w.heap.size w w' := ((Below.refl w.heap.size w).drew).trans h
set_option maxRecDepth 100000 in
set_option maxHeartbeats 4000000 in
theorem znums (w : World) (base g f : Nat) (rows : List Ln) (hf : 1 ≤ f ∧ f ≤ 3) (h : SheetAt w base g f rows) (hL : Zn.Shaped f (Ln.txt rows)) (hV : (Ln.txt rows).all Opt.valid = true) (hw : Opt.Lax w) :
    Calls Tryz.prog 55 #[.pointer (some ⟨g, 0, none⟩), .int .i64 f] w fun e w' =>
      e = .returned (.tuple #[.string ⟨(Zn.nums f (Ln.txt rows)).1.toArray⟩, .string ⟨(Zn.nums f (Ln.txt rows)).2.1.toArray⟩, .int .i64 (Zn.nums f (Ln.txt rows)).2.2]) ∧ Below w.heap.size w w' := by
  have HG := Lib.hid (fun (W : World) (hW : SheetAt W base g f rows) (i : Nat) (hi : i < 15) => zget W base g f rows hf hW hL i hi)
  have HVA := Lib.hid (fun (W : World) (hW : SheetAt W base g f rows) (i : Nat) (hi : i < 15) => zvalue W base g f rows hf hW hL i hi)
  obtain ⟨R, hR⟩ : ∃ R, Zn.nums f (Ln.txt rows) = R := ⟨_, rfl⟩
  rw [hR]
  unfold Zn.nums at hR
  have HS := Lib.hid h
  have HW := Lib.hid hw
  have v3 := Zn.fld_valid f _ hV 3; have v11 := Zn.fld_valid f _ hV 11
  have n3 : (Zn.fld f (Ln.txt rows) 3).length ≤ 44 := by rw [Zn.fld_len f hf _ hL 3 (by omega)]; exact place_le f hf 3 (by omega)
  have n11 : (Zn.fld f (Ln.txt rows) 11).length ≤ 44 := by rw [Zn.fld_len f hf _ hL 11 (by omega)]; exact place_le f hf 11 (by omega)
  clear h hw hL hV
  have e4 := eq_bytes (S := ⟨(Zn.fld f (Ln.txt rows) 4).toArray⟩) rfl [60]
  generalize hF4 : (⟨(Zn.fld f (Ln.txt rows) 4).toArray⟩ : ByteArray) = S4 at e4
  have HF4 := Lib.hid hF4
  clear hF4
  by_cases h4 : ¬ Zn.fld f (Ln.txt rows) 4 = [60]
  · rw [if_pos h4] at hR
    rw [decide_eq_false h4] at e4
    have HR := Lib.hid hR
    clear hR h4
    go_enter Tryz.func55, Tryz.ntmps55
    go_wp2_with fail
    refine (HG.out _ HS.out 4 (by omega)).mono ?_; rintro e w1 ⟨rfl, hb⟩
    rw [HF4.out]
    have HS1 := Lib.hid (HS.out.later hb); have HB1 := Lib.hid hb
    clear hb
    go_wp2_with fail
    refine (HVA.out _ HS1.out 3 (by omega)).mono ?_; rintro e w2 ⟨rfl, hb⟩
    have HS2 := Lib.hid (HS1.out.later hb); have HB2 := Lib.hid (HB1.out.trans (hb.mono HB1.out.size))
    clear hb
    go_wp2_with fail
    refine (HVA.out _ HS2.out 11 (by omega)).mono ?_; rintro e w3 ⟨rfl, hb⟩
    have HB3 := Lib.hid (HB2.out.trans (hb.mono HB2.out.size))
    clear hb
    go_wp2_with fail
    go_ret3
    exact ⟨by rw [← HR.out]; rfl, HB3.out⟩
  have h4' : Zn.fld f (Ln.txt rows) 4 = [60] := by simpa using h4
  rw [if_neg h4] at hR
  rw [decide_eq_true h4'] at e4
  clear h4 h4'
  have cv := cut_valid v11
  have cl := cut_len (Zn.fld f (Ln.txt rows) 11)
  obtain ⟨⟨T, RR, FN⟩, hcut⟩ : ∃ q, Lib.cut (Zn.fld f (Ln.txt rows) 11) [60] = q := ⟨_, rfl⟩
  have hcu : ∀ W, Opt.Lax W → Calls Tryz.prog 91 #[.string ⟨(Zn.fld f (Ln.txt rows) 11).toArray⟩, .string ⟨#[60]⟩] W fun e w' => e = .returned (.tuple #[.string ⟨T.toArray⟩, .string ⟨RR.toArray⟩, .bool FN]) ∧ ∃ n, w' = W.drewN n := fun W hW => by
    obtain ⟨m, hm⟩ := hW
    have h := Tryz.strings_Cut ⟨(Zn.fld f (Ln.txt rows) 11).toArray⟩ ⟨#[60]⟩ m W (by rw [str_size]; omega) hm
    rw [show (⟨(Zn.fld f (Ln.txt rows) 11).toArray⟩ : ByteArray).data.toList = Zn.fld f (Ln.txt rows) 11 from rfl, show (⟨#[60]⟩ : ByteArray).data.toList = [60] from rfl, hcut] at h
    exact h
  rw [hcut] at hR cv cl
  simp only at hR cv cl
  have HCU := Lib.hid hcu
  have zT : (⟨T.toArray⟩ : ByteArray).size = T.length := str_size T
  have HTR := Lib.hid (fun W => Tryz.strings_TrimRight_one ⟨RR.toArray⟩ 60 (by decide) W (by rw [str_size]; omega))
  obtain ⟨ST, hST⟩ : ∃ S : ByteArray, S = ⟨T.toArray⟩ := ⟨_, rfl⟩
  rw [← hST] at zT HCU
  have HST := Lib.hid hST
  have cl1 : T.length ≤ 44 := by omega
  obtain ⟨F3, hF3⟩ : ∃ q, Zn.fld f (Ln.txt rows) 3 = q := ⟨_, rfl⟩
  rw [hF3] at v3 n3 hR
  have HF3 := Lib.hid hF3
  have CV := Lib.hid cv
  have V3 := Lib.hid v3
  clear hcut hcu hST hF3 cv v3 cl
  have key : (T.length < 2 ∧ R = ([], [], 1)) ∨ (2 ≤ T.length ∧ ((FN = false ∧ R = ([], [], 1)) ∨ (FN = true ∧ ((f = 3 ∧ R = ([], [], 1)) ∨ (f ≠ 3 ∧ ((Zn.dg (F3 ++ T.dropLast) ≠ T.drop (T.length - 1) ∧ R = ([], [], 13)) ∨ (Zn.dg (F3 ++ T.dropLast) = T.drop (T.length - 1) ∧ R = (F3 ++ T.dropLast, Zn.tr RR, 0)))))))) := by
    by_cases k1 : T.length < 2
    · rw [if_pos (.inl k1)] at hR; exact .inl ⟨k1, hR.symm⟩
    · refine .inr ⟨by omega, ?_⟩
      cases FN
      · rw [if_pos (.inr (.inl rfl))] at hR; exact .inl ⟨rfl, hR.symm⟩
      · refine .inr ⟨rfl, ?_⟩
        by_cases k3 : f = 3
        · rw [if_pos (.inr (.inr k3))] at hR; exact .inl ⟨k3, hR.symm⟩
        · refine .inr ⟨k3, ?_⟩
          rw [if_neg (by rintro (h | h | h); exact k1 h; cases h; exact k3 h)] at hR
          by_cases k4 : Zn.dg (F3 ++ T.dropLast) = T.drop (T.length - 1)
          · rw [if_neg (fun h => h k4)] at hR; exact .inr ⟨k4, hR.symm⟩
          · rw [if_pos k4] at hR; exact .inl ⟨k4, hR.symm⟩
  have KEY := Lib.hid key
  clear key hR
  go_enter Tryz.func55, Tryz.ntmps55
  go_wp2_with fail
  refine (HG.out _ HS.out 4 (by omega)).mono ?_; rintro e w1 ⟨rfl, hb⟩
  rw [HF4.out]
  have HS1 := Lib.hid (HS.out.later hb); have HB1 := Lib.hid hb
  have HW1 := Lib.hid (HW.out.below hb)
  clear hb
  go_wp2_with fail
  refine (HG.out _ HS1.out 11 (by omega)).mono ?_; rintro e w2 ⟨rfl, hb⟩
  have HS2 := Lib.hid (HS1.out.later hb); have HB2 := Lib.hid (HB1.out.trans (hb.mono HB1.out.size))
  have HW2 := Lib.hid (HW1.out.below hb)
  clear hb
  go_wp2_with fail
  refine (HCU.out _ HW2.out).mono ?_; rintro e w' ⟨rfl, n, rfl⟩
  have HS3 := Lib.hid (HS2.out.drewN n); have HB3 := Lib.hid (below_drewN HB2.out n)
  generalize w2.drewN n = w3 at HS3 HB3
  rcases KEY.out with ⟨k1, kR⟩ | ⟨k1, ⟨rfl, kR⟩ | ⟨rfl, ⟨rfl, kR⟩ | ⟨k3, kR⟩⟩⟩
  · have HKR := Lib.hid kR
    clear kR KEY
    go_wp2_with fail
    go_ret3
    exact ⟨by rw [HKR.out]; rfl, HB3.out⟩
  · have HKR := Lib.hid kR
    clear kR KEY
    go_wp2_with fail
    go_ret3
    exact ⟨by rw [HKR.out]; rfl, HB3.out⟩
  · have HKR := Lib.hid kR
    clear kR KEY
    go_wp2_with fail
    go_ret3
    exact ⟨by rw [HKR.out]; rfl, HB3.out⟩
  have k3' : ((f : Int) == 3) = false := by rw [beq_eq_false_iff_ne]; omega
  have HKR := Lib.hid kR
  clear kR KEY k3
  go_upto_region 7 with fail
  obtain ⟨S3, hS3⟩ : ∃ S : ByteArray, S = ⟨F3.toArray⟩ := ⟨_, rfl⟩
  have z3 : S3.size = F3.length := by rw [hS3, str_size]
  have hg3 : ∀ W, SheetAt W base g f rows → Calls Tryz.prog 57 #[.pointer (some ⟨g, 0, none⟩), .int .i64 3] W fun e w' => e = .returned (.string S3) ∧ Below W.heap.size W w' := fun W hW => by
    have h := HG.out W hW 3 (by omega)
    rw [HF3.out, ← hS3] at h
    exact h
  have HG3 := Lib.hid hg3
  have pE : (ST.extract 0 (T.length - 1)).size = T.length - 1 := ext_size _ _ _ _ (by omega)
  have pS : (S3 ++ ST.extract 0 (T.length - 1)).size = F3.length + (T.length - 1) := by rw [ByteArray.size_append, pE, z3]
  obtain ⟨N, hN⟩ : ∃ N, N = S3 ++ ST.extract 0 (T.length - 1) := ⟨_, rfl⟩
  have hNL : N = ⟨(F3 ++ T.dropLast).toArray⟩ := by
    rw [hN, hS3, ext_of HST.out, str_add, List.drop_zero, Nat.sub_zero, List.dropLast_eq_take]
  have hdl : T.dropLast.length = T.length - 1 := by simp
  have hvn : Opt.valid (F3 ++ T.dropLast) = true := valid_app V3.out (List.all_eq_true.2 fun x hx => List.all_eq_true.1 CV.out.1 x (List.dropLast_subset T hx))
  obtain ⟨SD, hSD⟩ : ∃ S : ByteArray, S = ⟨(Zn.dg (F3 ++ T.dropLast)).toArray⟩ := ⟨_, rfl⟩
  have hd : ∀ W, Calls Tryz.prog 89 #[.string (S3 ++ ST.extract 0 (T.length - 1))] W fun e w' => e = .returned (.string SD) ∧ Below W.heap.size W w' := fun W => by
    have h := zdigit N W (by rw [hNL, str_size, List.length_append, hdl]; omega)
    rw [show Opt.digS N = SD by rw [hNL, hSD]; exact digS_of hvn, hN] at h
    exact h
  have HD := Lib.hid hd
  have e5 : (SD.toList == (ST.extract (T.length - 1) T.length).toList) = decide (Zn.dg (F3 ++ T.dropLast) = T.drop (T.length - 1)) := by
    rw [eq_bytes hSD, ext_of HST.out, toList_of, List.take_of_length_le (by rw [List.length_drop]; omega)]
  have HNL := Lib.hid (hN.symm.trans hNL)
  clear hg3 hS3 hN hNL hdl hvn hSD hd
  have HE5 := Lib.hid e5
  clear e5
  go_region_with (go_at_call 57; refine (HG3.out _ (show SheetAt w3.drew base g f rows from HS3.out)).mono ?_; rintro e w4 ⟨rfl, hb⟩)
  all_goals
    have HB4 := Lib.hid (HB3.out.trans (Below.mono (show Below w3.heap.size w3 w4 from below_of_drew hb) HB3.out.size))
    clear hb
    go_wp2_with fail
    rcases HKR.out with ⟨k4, kR⟩ | ⟨k4, kR⟩
    · have e5 := HE5.out
      rw [decide_eq_false k4] at e5
      have HKR2 := Lib.hid kR
      clear k4 kR HKR
      go_region_with (go_at_call 89; refine (HD.out _).mono ?_; rintro e w5 ⟨rfl, hb⟩)
      all_goals
        have HB5 := Lib.hid (HB4.out.trans (Below.mono (show Below w4.heap.size w4 w5 from below_of_drew hb) HB4.out.size))
        clear hb
        go_wp2_with fail
        go_ret3
        exact ⟨by rw [HKR2.out]; rfl, HB5.out⟩
    · have e5 := HE5.out
      rw [decide_eq_true k4] at e5
      have HKR2 := Lib.hid kR
      clear k4 kR HKR
      go_region_with (go_at_call 89; refine (HD.out _).mono ?_; rintro e w5 ⟨rfl, hb⟩)
      all_goals
        have HB5 := Lib.hid (HB4.out.trans (Below.mono (show Below w4.heap.size w4 w5 from below_of_drew hb) HB4.out.size))
        clear hb
        go_wp2_with fail
        refine (HTR.out _).mono ?_; rintro e w6 ⟨rfl, hw⟩
        rw [hw]
        clear hw
        go_wp2_with fail
        go_ret3
        exact ⟨by rw [HKR2.out, ← HNL.out]; rfl, HB5.out⟩
end Go.Proofs.YtafbhadfeemppaaGreatDoor
