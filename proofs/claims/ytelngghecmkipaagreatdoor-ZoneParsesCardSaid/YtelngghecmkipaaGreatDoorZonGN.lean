/- Chapter 11: several texts in one (ZonNums, ZonCheck). -/
import Derived.Test.YtelngghecmkipaaGreatDoorZonSheet2
import Derived.Deep.RegionWith
import Derived.Deep.RegionHeld3
namespace Go.Proofs.YtelngghecmkipaaGreatDoor
open Go.RowKit

theorem digS_of {l : List UInt8} (h : Opt.valid l = true) : Opt.digS ⟨l.toArray⟩ = ⟨(Zn.dg l).toArray⟩ := by
  unfold Opt.digS; rw [if_pos h]; rfl
theorem toList_of (l : List UInt8) : (⟨l.toArray⟩ : ByteArray).toList = l := by rw [ByteArray.toList_eq]
theorem eq_bytes {S : ByteArray} {l : List UInt8} (h : S = ⟨l.toArray⟩) (m : List UInt8) : (S.toList == m) = decide (l = m) := by
  rw [h, toList_of, Bool.eq_iff_iff, beq_iff_eq, decide_eq_true_eq]
theorem cut_valid {l : List UInt8} (h : Opt.valid l = true) : Opt.valid (Lib.cut l [60]).1 = true ∧ Opt.valid (Lib.cut l [60]).2.1 = true := by
  unfold Lib.cut
  split
  · exact ⟨List.all_eq_true.2 fun x hx => List.all_eq_true.1 h x (List.mem_of_mem_take hx), List.all_eq_true.2 fun x hx => List.all_eq_true.1 h x (List.mem_of_mem_drop hx)⟩
  · exact ⟨h, rfl⟩
theorem cut_len (l : List UInt8) : (Lib.cut l [60]).1.length ≤ l.length ∧ (Lib.cut l [60]).2.1.length ≤ l.length := by
  unfold Lib.cut
  split
  · exact ⟨by rw [List.length_take]; exact Nat.min_le_right _ _, by rw [List.length_drop]; exact Nat.sub_le _ _⟩
  · exact ⟨Nat.le_refl _, Nat.zero_le _⟩
theorem place_le (f : Nat) (hf : 1 ≤ f ∧ f ≤ 3) (i : Nat) (hi : i < 15) : (Zn.place f i).2.2 ≤ 44 := by
  have := (Zn.place_in f hf i hi).2
  have hwl : Zn.wLine f ≤ 44 := by unfold Zn.wLine; split; · omega
                                   split <;> omega
  omega
theorem valid_app {a b : List UInt8} (h : Opt.valid a = true) (h' : Opt.valid b = true) : Opt.valid (a ++ b) = true := by unfold Opt.valid at *; rw [List.all_append, h, h']; rfl
theorem ret_three {a b c d : ByteArray} {m n : Int} (h : a = b) (h' : c = d) (h'' : m = n) : Ending.returned (.tuple #[.string a, .string c, .int .i64 m]) = .returned (.tuple #[.string b, .string d, .int .i64 n]) := by rw [h, h', h'']

theorem below_of_drew {w w' : World} (h : Below w.drew.heap.size w.drew w') : Below w.heap.size w w' := ((Below.refl w.heap.size w).drew).trans h
set_option maxRecDepth 100000 in
set_option maxHeartbeats 4000000 in
theorem znums (w : World) (base g f : Nat) (rows : List Ln) (hf : 1 ≤ f ∧ f ≤ 3) (h : SheetAt w base g f rows) (hL : Zn.Shaped f (Ln.txt rows)) (hV : (Ln.txt rows).all Opt.valid = true) (hw : Opt.Lax w) :
    Calls Tryz.prog 32 #[.pointer (some ⟨g, 0, none⟩), .int .i64 f] w fun e w' =>
      e = .returned (.tuple #[.string ⟨(Zn.nums f (Ln.txt rows)).1.toArray⟩, .string ⟨(Zn.nums f (Ln.txt rows)).2.1.toArray⟩, .int .i64 (Zn.nums f (Ln.txt rows)).2.2]) ∧ Below w.heap.size w w' := by
  have HG := Lib.hid (fun (W : World) (hW : SheetAt W base g f rows) (i : Nat) (hi : i < 15) => zget W base g f rows hf hW hL i hi)
  have HVA := Lib.hid (fun (W : World) (hW : SheetAt W base g f rows) (i : Nat) (hi : i < 15) => zvalue W base g f rows hf hW hL i hi)
  obtain ⟨R, hR⟩ : ∃ R, Zn.nums f (Ln.txt rows) = R := ⟨_, rfl⟩
  rw [hR]
  unfold Zn.nums at hR
  have HS := Lib.hid h
  have HW := Lib.hid hw
  have v3 := Zn.fld_valid f _ hV 3; have v11 := Zn.fld_valid f _ hV 11
  have n3 : (Zn.fld f (Ln.txt rows) 3).length ≤ 44 := by rw [Zn.fld_len f hf _ hL 3 (by omega)]; exact place_le f hf 3 (by omega)
  have n11 : (Zn.fld f (Ln.txt rows) 11).length ≤ 44 := by rw [Zn.fld_len f hf _ hL 11 (by omega)]; exact place_le f hf 11 (by omega)
  clear h hw hL hV
  have e4 := eq_bytes (S := ⟨(Zn.fld f (Ln.txt rows) 4).toArray⟩) rfl [60]
  generalize hF4 : (⟨(Zn.fld f (Ln.txt rows) 4).toArray⟩ : ByteArray) = S4 at e4
  have HF4 := Lib.hid hF4
  clear hF4
  by_cases h4 : ¬ Zn.fld f (Ln.txt rows) 4 = [60]
  · rw [if_pos h4] at hR
    rw [decide_eq_false h4] at e4
    have HR := Lib.hid hR
    clear hR h4
    go_enter Tryz.func32, Tryz.ntmps32
    go_wp2_with fail
    refine (HG.out _ HS.out 4 (by omega)).mono ?_; rintro e w1 ⟨rfl, hb⟩
    rw [HF4.out]
    have HS1 := Lib.hid (HS.out.later hb); have HB1 := Lib.hid hb
    clear hb
    go_wp2_with fail
    refine (HVA.out _ HS1.out 3 (by omega)).mono ?_; rintro e w2 ⟨rfl, hb⟩
    have HS2 := Lib.hid (HS1.out.later hb); have HB2 := Lib.hid (HB1.out.trans (hb.mono HB1.out.size))
    clear hb
    go_wp2_with fail
    refine (HVA.out _ HS2.out 11 (by omega)).mono ?_; rintro e w3 ⟨rfl, hb⟩
    have HB3 := Lib.hid (HB2.out.trans (hb.mono HB2.out.size))
    clear hb
    go_wp2_with fail
    go_ret3
    exact ⟨by rw [← HR.out]; rfl, HB3.out⟩
  have h4' : Zn.fld f (Ln.txt rows) 4 = [60] := by simpa using h4
  rw [if_neg h4] at hR
  rw [decide_eq_true h4'] at e4
  clear h4 h4'
  have cv := cut_valid v11
  have cl := cut_len (Zn.fld f (Ln.txt rows) 11)
  obtain ⟨⟨T, RR, FN⟩, hcut⟩ : ∃ q, Lib.cut (Zn.fld f (Ln.txt rows) 11) [60] = q := ⟨_, rfl⟩
  have hcu : ∀ W, Opt.Lax W → Calls Tryz.prog 75 #[.string ⟨(Zn.fld f (Ln.txt rows) 11).toArray⟩, .string ⟨#[60]⟩] W fun e w' => e = .returned (.tuple #[.string ⟨T.toArray⟩, .string ⟨RR.toArray⟩, .bool FN]) ∧ ∃ n, w' = W.drewN n := fun W hW => by
    obtain ⟨m, hm⟩ := hW
    have h := Tryz.strings_Cut ⟨(Zn.fld f (Ln.txt rows) 11).toArray⟩ ⟨#[60]⟩ m W (by rw [str_size]; omega) hm
    rw [show (⟨(Zn.fld f (Ln.txt rows) 11).toArray⟩ : ByteArray).data.toList = Zn.fld f (Ln.txt rows) 11 from rfl, show (⟨#[60]⟩ : ByteArray).data.toList = [60] from rfl, hcut] at h
    exact h
  rw [hcut] at hR cv cl
  simp only at hR cv cl
  have HCU := Lib.hid hcu
  have zT : (⟨T.toArray⟩ : ByteArray).size = T.length := str_size T
  have HTR := Lib.hid (fun W => Tryz.strings_TrimRight_one ⟨RR.toArray⟩ 60 (by decide) W (by rw [str_size]; omega))
  obtain ⟨ST, hST⟩ : ∃ S : ByteArray, S = ⟨T.toArray⟩ := ⟨_, rfl⟩
  rw [← hST] at zT HCU
  have HST := Lib.hid hST
  have cl1 : T.length ≤ 44 := by omega
  obtain ⟨F3, hF3⟩ : ∃ q, Zn.fld f (Ln.txt rows) 3 = q := ⟨_, rfl⟩
  rw [hF3] at v3 n3 hR
  have HF3 := Lib.hid hF3
  have CV := Lib.hid cv
  have V3 := Lib.hid v3
  clear hcut hcu hST hF3 cv v3 cl
  have key : (T.length < 2 ∧ R = ([], [], 1)) ∨ (2 ≤ T.length ∧ ((FN = false ∧ R = ([], [], 1)) ∨ (FN = true ∧ ((f = 3 ∧ R = ([], [], 1)) ∨ (f ≠ 3 ∧ ((Zn.dg (F3 ++ T.dropLast) ≠ T.drop (T.length - 1) ∧ R = ([], [], 13)) ∨ (Zn.dg (F3 ++ T.dropLast) = T.drop (T.length - 1) ∧ R = (F3 ++ T.dropLast, Zn.tr RR, 0)))))))) := by
    by_cases k1 : T.length < 2
    · rw [if_pos (.inl k1)] at hR; exact .inl ⟨k1, hR.symm⟩
    · refine .inr ⟨by omega, ?_⟩
      cases FN
      · rw [if_pos (.inr (.inl rfl))] at hR; exact .inl ⟨rfl, hR.symm⟩
      · refine .inr ⟨rfl, ?_⟩
        by_cases k3 : f = 3
        · rw [if_pos (.inr (.inr k3))] at hR; exact .inl ⟨k3, hR.symm⟩
        · refine .inr ⟨k3, ?_⟩
          rw [if_neg (by rintro (h | h | h); exact k1 h; cases h; exact k3 h)] at hR
          by_cases k4 : Zn.dg (F3 ++ T.dropLast) = T.drop (T.length - 1)
          · rw [if_neg (fun h => h k4)] at hR; exact .inr ⟨k4, hR.symm⟩
          · rw [if_pos k4] at hR; exact .inl ⟨k4, hR.symm⟩
  have KEY := Lib.hid key
  clear key hR
  go_enter Tryz.func32, Tryz.ntmps32
  go_wp2_with fail
  refine (HG.out _ HS.out 4 (by omega)).mono ?_; rintro e w1 ⟨rfl, hb⟩
  rw [HF4.out]
  have HS1 := Lib.hid (HS.out.later hb); have HB1 := Lib.hid hb
  have HW1 := Lib.hid (HW.out.below hb)
  clear hb
  go_wp2_with fail
  refine (HG.out _ HS1.out 11 (by omega)).mono ?_; rintro e w2 ⟨rfl, hb⟩
  have HS2 := Lib.hid (HS1.out.later hb); have HB2 := Lib.hid (HB1.out.trans (hb.mono HB1.out.size))
  have HW2 := Lib.hid (HW1.out.below hb)
  clear hb
  go_wp2_with fail
  refine (HCU.out _ HW2.out).mono ?_; rintro e w' ⟨rfl, n, rfl⟩
  have HS3 := Lib.hid (HS2.out.drewN n); have HB3 := Lib.hid (below_drewN HB2.out n)
  generalize w2.drewN n = w3 at HS3 HB3
  rcases KEY.out with ⟨k1, kR⟩ | ⟨k1, ⟨rfl, kR⟩ | ⟨rfl, ⟨rfl, kR⟩ | ⟨k3, kR⟩⟩⟩
  · have HKR := Lib.hid kR
    clear kR KEY
    go_wp2_with fail
    go_ret3
    exact ⟨by rw [HKR.out]; rfl, HB3.out⟩
  · have HKR := Lib.hid kR
    clear kR KEY
    go_wp2_with fail
    go_ret3
    exact ⟨by rw [HKR.out]; rfl, HB3.out⟩
  · have HKR := Lib.hid kR
    clear kR KEY
    go_wp2_with fail
    go_ret3
    exact ⟨by rw [HKR.out]; rfl, HB3.out⟩
  have k3' : ((f : Int) == 3) = false := by rw [beq_eq_false_iff_ne]; omega
  have HKR := Lib.hid kR
  clear kR KEY k3
  go_upto_region 7 with fail
  obtain ⟨S3, hS3⟩ : ∃ S : ByteArray, S = ⟨F3.toArray⟩ := ⟨_, rfl⟩
  have z3 : S3.size = F3.length := by rw [hS3, str_size]
  have hg3 : ∀ W, SheetAt W base g f rows → Calls Tryz.prog 34 #[.pointer (some ⟨g, 0, none⟩), .int .i64 3] W fun e w' => e = .returned (.string S3) ∧ Below W.heap.size W w' := fun W hW => by
    have h := HG.out W hW 3 (by omega)
    rw [HF3.out, ← hS3] at h
    exact h
  have HG3 := Lib.hid hg3
  have pE : (ST.extract 0 (T.length - 1)).size = T.length - 1 := ext_size _ _ _ _ (by omega)
  have pS : (S3 ++ ST.extract 0 (T.length - 1)).size = F3.length + (T.length - 1) := by rw [ByteArray.size_append, pE, z3]
  obtain ⟨N, hN⟩ : ∃ N, N = S3 ++ ST.extract 0 (T.length - 1) := ⟨_, rfl⟩
  have hNL : N = ⟨(F3 ++ T.dropLast).toArray⟩ := by
    rw [hN, hS3, ext_of HST.out, str_add, List.drop_zero, Nat.sub_zero, List.dropLast_eq_take]
  have hdl : T.dropLast.length = T.length - 1 := by simp
  have hvn : Opt.valid (F3 ++ T.dropLast) = true := valid_app V3.out (List.all_eq_true.2 fun x hx => List.all_eq_true.1 CV.out.1 x (List.dropLast_subset T hx))
  obtain ⟨SD, hSD⟩ : ∃ S : ByteArray, S = ⟨(Zn.dg (F3 ++ T.dropLast)).toArray⟩ := ⟨_, rfl⟩
  have hd : ∀ W, Calls Tryz.prog 48 #[.string (S3 ++ ST.extract 0 (T.length - 1))] W fun e w' => e = .returned (.string SD) ∧ Below W.heap.size W w' := fun W => by
    have h := zdigit N W (by rw [hNL, str_size, List.length_append, hdl]; omega)
    rw [show Opt.digS N = SD by rw [hNL, hSD]; exact digS_of hvn, hN] at h
    exact h
  have HD := Lib.hid hd
  have e5 : (SD.toList == (ST.extract (T.length - 1) T.length).toList) = decide (Zn.dg (F3 ++ T.dropLast) = T.drop (T.length - 1)) := by
    rw [eq_bytes hSD, ext_of HST.out, toList_of, List.take_of_length_le (by rw [List.length_drop]; omega)]
  have HNL := Lib.hid (hN.symm.trans hNL)
  clear hg3 hS3 hN hNL hdl hvn hSD hd
  have HE5 := Lib.hid e5
  clear e5
  go_region_with (go_at_call 34; refine (HG3.out _ (show SheetAt w3.drew base g f rows from HS3.out)).mono ?_; rintro e w4 ⟨rfl, hb⟩)
  all_goals
    have HB4 := Lib.hid (HB3.out.trans (Below.mono (show Below w3.heap.size w3 w4 from below_of_drew hb) HB3.out.size))
    clear hb
    go_wp2_with fail
    rcases HKR.out with ⟨k4, kR⟩ | ⟨k4, kR⟩
    · have e5 := HE5.out
      rw [decide_eq_false k4] at e5
      have HKR2 := Lib.hid kR
      clear k4 kR HKR
      go_region_with (go_at_call 48; refine (HD.out _).mono ?_; rintro e w5 ⟨rfl, hb⟩)
      all_goals
        have HB5 := Lib.hid (HB4.out.trans (Below.mono (show Below w4.heap.size w4 w5 from below_of_drew hb) HB4.out.size))
        clear hb
        go_wp2_with fail
        go_ret3
        exact ⟨by rw [HKR2.out]; rfl, HB5.out⟩
    · have e5 := HE5.out
      rw [decide_eq_true k4] at e5
      have HKR2 := Lib.hid kR
      clear k4 kR HKR
      go_region_with (go_at_call 48; refine (HD.out _).mono ?_; rintro e w5 ⟨rfl, hb⟩)
      all_goals
        have HB5 := Lib.hid (HB4.out.trans (Below.mono (show Below w4.heap.size w4 w5 from below_of_drew hb) HB4.out.size))
        clear hb
        go_wp2_with fail
        refine (HTR.out _).mono ?_; rintro e w6 ⟨rfl, hw⟩
        rw [hw]
        clear hw
        go_wp2_with fail
        go_ret3
        exact ⟨by rw [HKR2.out, ← HNL.out]; rfl, HB5.out⟩
end Go.Proofs.YtelngghecmkipaaGreatDoor

namespace Go.Proofs.YtelngghecmkipaaGreatDoor
open Go.RowKit

theorem pairs_at (k : Nat) (hk : k < 4) : ∃ p q : Nat, Zn.pairs.getD k (0, 0) = (p, q) ∧ p < 15 ∧ q < 15 ∧
    (∀ w, (Instr.index 92 (.agg #[.int .i64 3, .int .i64 4, .int .i64 6, .int .i64 7, .int .i64 9, .int .i64 10, .int .i64 11, .int .i64 12]) (.int .i64 k)).run Tryz.prog w = .ok (.agg #[.int .i64 p, .int .i64 q]) w) ∧
    Zn.pairs.take (k + 1) = Zn.pairs.take k ++ [(p, q)] := by
  have h : k = 0 ∨ k = 1 ∨ k = 2 ∨ k = 3 := by omega
  rcases h with rfl | rfl | rfl | rfl
  · exact ⟨3, 4, rfl, by omega, by omega, fun _ => by kernel_rfl, rfl⟩
  · exact ⟨6, 7, rfl, by omega, by omega, fun _ => by kernel_rfl, rfl⟩
  · exact ⟨9, 10, rfl, by omega, by omega, fun _ => by kernel_rfl, rfl⟩
  · exact ⟨11, 12, rfl, by omega, by omega, fun _ => by kernel_rfl, rfl⟩
theorem held_later {w W W' : World} {base g f B : Nat} {rows : List Ln} {u v : Value} (h : W.cell? ⟨B, 0, none⟩ = some u ∧ W.cell? ⟨B, 1, none⟩ = some v ∧ SheetAt W base g f rows ∧ Below w.heap.size w W) (hb : Below W.heap.size W W') :
    W'.cell? ⟨B, 0, none⟩ = some u ∧ W'.cell? ⟨B, 1, none⟩ = some v ∧ SheetAt W' base g f rows ∧ Below w.heap.size w W' :=
  ⟨cell_later hb h.1, cell_later hb h.2.1, h.2.2.1.later hb, h.2.2.2.trans (hb.mono h.2.2.2.size)⟩
theorem sheet_width {w : World} {base g f : Nat} {rows : List Ln} (h : SheetAt w base g f rows) (hf : 1 ≤ f ∧ f ≤ 3) (i : Nat) (hi : i < 15) : w.cell? ⟨g, i * 3 + 2, none⟩ = some (.int .i64 (Zn.place f i).2.2) := by
  obtain ⟨v, hs, _⟩ := h
  rw [Nat.mul_comm, hs.cell (3 * i + 2) (by rw [Zn.lay_size]; omega)]
  exact (Zn.lay_at f hf i hi).2.2

theorem comp_ok (f : Nat) (L : List (List UInt8)) (hL : Zn.Shaped f L) (hV : L.all Opt.valid = true) : Opt.valid (Zn.comp f L) = true ∧ (Zn.comp f L).length ≤ 88 := by
  have hv : ∀ i, Opt.valid (L.getD i []) = true := fun i => by
    rw [List.getD_eq_getElem?_getD]
    cases hq : L[i]? with
    | none => rfl
    | some x => exact List.all_eq_true.1 hV x (List.mem_of_getElem? hq)
  have ht : ∀ (l : List UInt8) n, Opt.valid l = true → Opt.valid (l.take n) = true := fun l n h => List.all_eq_true.2 fun x hx => List.all_eq_true.1 h x (List.mem_of_mem_take hx)
  have hd : ∀ (l : List UInt8) n, Opt.valid l = true → Opt.valid (l.drop n) = true := fun l n h => List.all_eq_true.2 fun x hx => List.all_eq_true.1 h x (List.mem_of_mem_drop hx)
  have hl : ∀ i, (L.getD i []).length ≤ 44 := fun i => by
    have hwl : Zn.wLine f ≤ 44 := by unfold Zn.wLine; split; · omega
                                     split <;> omega
    rw [List.getD_eq_getElem?_getD]
    cases hq : L[i]? with
    | none => exact Nat.zero_le _
    | some x => exact Nat.le_trans (Nat.le_of_eq (hL.2 x (List.mem_of_getElem? hq))) hwl
  unfold Zn.comp
  split
  · refine ⟨valid_app (valid_app (valid_app (hd _ _ (hv _)) (ht _ _ (hv _))) (ht _ _ (hd _ _ (hv _)))) (ht _ _ (hd _ _ (hv _))), ?_⟩
    have := hl 0; have := hl 1
    simp only [List.length_append, List.length_take, List.length_drop]
    omega
  · refine ⟨valid_app (valid_app (ht _ _ (hv _)) (ht _ _ (hd _ _ (hv _)))) (ht _ _ (hd _ _ (hv _))), ?_⟩
    have := hl 1
    simp only [List.length_append, List.length_take, List.length_drop]
    omega
theorem chk_no {f k p q : Nat} {L : List (List UInt8)} (h : Zn.pairs.take (k + 1) = Zn.pairs.take k ++ [(p, q)]) (hp : Zn.pok f L p q = false) : Zn.chk f L = false := by
  have hm : (p, q) ∈ Zn.pairs := List.mem_of_mem_take (i := k + 1) (by rw [h]; simp)
  unfold Zn.chk
  have : (Zn.pairs.all fun p => Zn.pok f L p.1 p.2) = false := by
    rw [Bool.eq_false_iff]; intro ha
    have := List.all_eq_true.1 ha _ hm
    rw [hp] at this; cases this
  rw [this]; rfl
set_option maxRecDepth 100000 in
set_option maxHeartbeats 8000000 in
theorem zchecked (w : World) (base g f : Nat) (rows : List Ln) (hf : 1 ≤ f ∧ f ≤ 3) (h : SheetAt w base g f rows) (hL : Zn.Shaped f (Ln.txt rows)) (hV : (Ln.txt rows).all Opt.valid = true) :
    Calls Tryz.prog 31 #[.pointer (some ⟨g, 0, none⟩)] w fun e w' => e = .returned (.bool (Zn.chk f (Ln.txt rows))) ∧ Below w.heap.size w w' := by
  have HG := Lib.hid (fun (W : World) (hW : SheetAt W base g f rows) (i : Nat) (hi : i < 15) => zget W base g f rows hf hW hL i hi)
  have HS := Lib.hid h
  have HF := Lib.hid hf
  have HLV := Lib.hid (And.intro hL hV)
  clear h hL hV hf
  go_enter Tryz.func31, Tryz.ntmps31
  go_wp2_with fail
  go_loopw [13] (fun i wr => ∃ k : Nat, k ≤ 4 ∧ i = .int .i64 k ∧ (Zn.pairs.take k).all (fun p => Zn.pok f (Ln.txt rows) p.1 p.2) = true ∧ SheetAt wr base g f rows ∧ Below w.heap.size w wr) (fun i _ => 4 - (intOf i).toNat)
  case atStart => exact ⟨0, by omega, rfl, rfl, HS.out, Below.refl _ _⟩
  case round =>
    obtain ⟨k, hk, rfl, hall, hsh, hbw⟩ := hrel
    have HALL := Lib.hid hall; have HSH := Lib.hid hsh; have HBW := Lib.hid hbw
    clear hall hsh hbw
    by_cases hlt : k < 4
    · obtain ⟨p, q, hpq, hp, hq, hix, htk⟩ := pairs_at k hlt
      have HTK := Lib.hid htk
      clear hpq htk
      go_upto_region 4 with fail
      have x0 : (wr.alloc (.cells #[.int .i64 p, .int .i64 q] 91)).cell? ⟨wr.heap.size, 0, none⟩ = some (.int .i64 p) := cell_new wr _ _ 0
      have x1 : (wr.alloc (.cells #[.int .i64 p, .int .i64 q] 91)).cell? ⟨wr.heap.size, 1, none⟩ = some (.int .i64 q) := cell_new wr _ _ 1
      have hba := below_alloc1 wr (.cells #[.int .i64 p, .int .i64 q] 91)
      have hsa := HSH.out.later hba
      have hbb := HBW.out.trans (hba.mono HBW.out.size)
      generalize wr.alloc (.cells #[.int .i64 p, .int .i64 q] 91) = w1 at x0 x1 hsa hbb ⊢
      clear hix hba
      go_region_held3 (fun W => W.cell? ⟨wr.heap.size, 0, none⟩ = some (.int .i64 p) ∧ W.cell? ⟨wr.heap.size, 1, none⟩ = some (.int .i64 q) ∧ SheetAt W base g f rows ∧ Below w.heap.size w W)
        (first | exact ⟨x0, x1, hsa, hbb⟩ | exact ⟨x0, x1, hsa, hbb.drew⟩ | exact held_later (by assumption) hb4 | go_keep)
        ((go_at_call 34; have hS' := (by assumption : _ ∧ _ ∧ SheetAt _ _ _ _ _ ∧ Below _ _ _); have hs' := hS'.2.2.1; clear hS'; refine (HG.out _ hs' _ (by assumption)).mono ?_; rintro e w' ⟨rfl, hb4⟩; clear hs'))
      rename_i hS
      have HSS := Lib.hid hS
      clear hS x0 x1 hsa hbb
      have cw := sheet_width HSS.out.2.2.1 HF.out q hq
      have y0 := HSS.out.1; have y1 := HSS.out.2.1
      have vT := Zn.fld_valid f _ HLV.out.2 p
      have nT : (Zn.fld f (Ln.txt rows) p).length ≤ 44 := by rw [Zn.fld_len f HF.out _ HLV.out.1 p hp]; exact place_le f HF.out p hp
      have hpok : Zn.pok f (Ln.txt rows) p q = (decide ((Zn.place f q).2.2 = 0) || (decide (p = 3 ∧ Zn.fld f (Ln.txt rows) q = [60]) || (decide (p = 11 ∧ Zn.tr (Zn.fld f (Ln.txt rows) p) = [] ∧ Zn.fld f (Ln.txt rows) q = [60]) || decide (Zn.fld f (Ln.txt rows) q = Zn.dg (Zn.fld f (Ln.txt rows) p))))) := rfl
      obtain ⟨T, hT⟩ : ∃ T, Zn.fld f (Ln.txt rows) p = T := ⟨_, rfl⟩
      obtain ⟨D, hD⟩ : ∃ D, Zn.fld f (Ln.txt rows) q = D := ⟨_, rfl⟩
      obtain ⟨wd, hwd⟩ : ∃ wd, (Zn.place f q).2.2 = wd := ⟨_, rfl⟩
      rw [hT, hD, hwd] at hpok
      rw [hT] at vT nT
      rw [hwd] at cw
      rw [hT, hD]
      obtain ⟨ST, hST⟩ : ∃ S : ByteArray, S = ⟨T.toArray⟩ := ⟨_, rfl⟩
      obtain ⟨SD, hSD⟩ : ∃ S : ByteArray, S = ⟨D.toArray⟩ := ⟨_, rfl⟩
      obtain ⟨X, hX⟩ : ∃ S : ByteArray, S = ⟨(Lib.trimB T 60).toArray⟩ := ⟨_, rfl⟩
      obtain ⟨SG, hSG⟩ : ∃ S : ByteArray, S = ⟨(Zn.dg T).toArray⟩ := ⟨_, rfl⟩
      rw [← hST, ← hSD]
      have htr : ∀ W, Calls Tryz.prog 74 #[.string ST, .string ⟨#[60]⟩] W fun e w' => e = .returned (.string X) ∧ ∃ n, w' = W.drewN n := fun W => by
        refine (Tryz.strings_Trim_one ST 60 (by decide) W (by rw [hST, str_size]; omega)).mono ?_
        rintro e w' ⟨rfl, hw⟩
        refine ⟨by rw [hX, hST], ?_⟩
        rcases hw with rfl | rfl
        · exact ⟨0, rfl⟩
        · exact ⟨1, rfl⟩
      have hdg : ∀ W, Calls Tryz.prog 48 #[.string ST] W fun e w' => e = .returned (.string SG) ∧ Below W.heap.size W w' := fun W => by
        have h := zdigit ST W (by rw [hST, str_size]; omega)
        rw [show Opt.digS ST = SG by rw [hST, hSG]; exact digS_of vT] at h
        exact h
      have eD : (SD.toList == [60]) = decide (D = [60]) := eq_bytes hSD [60]
      have eG : (SD.toList == SG.toList) = decide (D = Zn.dg T) := by rw [eq_bytes hSD, hSG, toList_of]
      have eX : X.toList.isEmpty = decide (Zn.tr T = []) := by rw [hX, toList_of]; exact Zn.trimB_nil T
      obtain ⟨bd, hbd⟩ : ∃ b, decide (D = [60]) = b := ⟨_, rfl⟩
      obtain ⟨bg, hbg⟩ : ∃ b, decide (D = Zn.dg T) = b := ⟨_, rfl⟩
      obtain ⟨be, hbe⟩ : ∃ b, decide (Zn.tr T = []) = b := ⟨_, rfl⟩
      have e3 : ((p : Int) == 3) = decide (p = 3) := by rw [Bool.eq_iff_iff, beq_iff_eq, decide_eq_true_eq]; omega
      have e11 : ((p : Int) == 11) = decide (p = 11) := by rw [Bool.eq_iff_iff, beq_iff_eq, decide_eq_true_eq]; omega
      have ew : ((wd : Int) == 0) = decide (wd = 0) := by rw [Bool.eq_iff_iff, beq_iff_eq, decide_eq_true_eq]; omega
      rw [Bool.decide_and, Bool.decide_and, Bool.decide_and, hbd, hbg, hbe] at hpok
      rw [hbd] at eD; rw [hbg] at eG; rw [hbe] at eX
      have h311 : (decide (p = 3) = true ∧ decide (p = 11) = false) ∨ (decide (p = 3) = false ∧ decide (p = 11) = true) ∨ (decide (p = 3) = false ∧ decide (p = 11) = false) := by
        by_cases h3 : p = 3
        · exact .inl ⟨decide_eq_true h3, decide_eq_false (by omega)⟩
        · by_cases h4 : p = 11
          · exact .inr (.inl ⟨decide_eq_false h3, decide_eq_true h4⟩)
          · exact .inr (.inr ⟨decide_eq_false h3, decide_eq_false h4⟩)
      generalize decide (p = 3) = b3 at hpok e3 h311
      generalize decide (p = 11) = b11 at hpok e11 h311
      generalize decide (wd = 0) = bw at hpok ew
      have HTR := Lib.hid htr; have HDG := Lib.hid hdg
      have HPOK := Lib.hid hpok
      have EX := Lib.hid eX
      clear hST hSD hX hSG htr hdg hbd hbg hbe hpok eX vT nT hT hD hwd
      go_wp2_with fail
      refine (HTR.out _).mono ?_; rintro e w5 ⟨rfl, n, rfl⟩
      have HS6 := Lib.hid (HSS.out.2.2.1.drewN n); have HB6 := Lib.hid (below_drewN HSS.out.2.2.2 n)
      replace y0 : (w'.drewN n).cell? _ = _ := y0
      replace y1 : (w'.drewN n).cell? _ = _ := y1
      replace cw : (w'.drewN n).cell? _ = _ := cw
      clear HSS HTR
      generalize w'.drewN n = w6 at HS6 HB6 y0 y1 cw ⊢
      have eX := EX.out
      go_wp2_with fail
      go_quiet (fail)
      have HS7 := Lib.hid (HS6.out.drewN nq); have HB7 := Lib.hid (below_drewN HB6.out nq)
      replace y0 : (w6.drewN nq).cell? _ = _ := y0
      replace y1 : (w6.drewN nq).cell? _ = _ := y1
      clear HS6 HB6 cw
      generalize w6.drewN nq = w7 at HS7 HB7 y0 y1 ⊢
      rcases Bool.eq_false_or_eq_true bw with rfl | rfl
      · have HOK := Lib.hid (show Zn.pok f (Ln.txt rows) p q = true by rw [HPOK.out]; rfl)
        go_wp2_with fail
        go_roundw
        case rel => exact ⟨k + 1, by omega, by go_num, by rw [HTK.out, List.all_append, HALL.out]; simpa using HOK.out, HS7.out, HB7.out⟩
        case measure => simp [intOf]; omega
      rcases h311 with ⟨rfl, rfl⟩ | ⟨rfl, rfl⟩ | ⟨rfl, rfl⟩
      · cases bd
        · go_wp2_with fail
          refine (HDG.out _).mono ?_; rintro e w8 ⟨rfl, hb8⟩
          have HS8 := Lib.hid (HS7.out.later hb8); have HB8 := Lib.hid (HB7.out.trans (hb8.mono HB7.out.size))
          clear hb8
          cases bg
          · have HNO := Lib.hid (show Zn.pok f (Ln.txt rows) p q = false by rw [HPOK.out]; simp)
            go_wp2_with fail
            go_ret
            exact ⟨ret_bool (chk_no HTK.out HNO.out).symm, HB8.out⟩
          · have HOK := Lib.hid (show Zn.pok f (Ln.txt rows) p q = true by rw [HPOK.out]; simp)
            go_wp2_with fail
            go_roundw
            case rel => exact ⟨k + 1, by omega, by go_num, by rw [HTK.out, List.all_append, HALL.out]; simpa using HOK.out, HS8.out, HB8.out⟩
            case measure => simp [intOf]; omega
        · have HOK := Lib.hid (show Zn.pok f (Ln.txt rows) p q = true by rw [HPOK.out]; simp)
          go_wp2_with fail
          go_roundw
          case rel => exact ⟨k + 1, by omega, by go_num, by rw [HTK.out, List.all_append, HALL.out]; simpa using HOK.out, HS7.out, HB7.out⟩
          case measure => simp [intOf]; omega
      · cases be <;> cases bd
        · go_wp2_with fail
          refine (HDG.out _).mono ?_; rintro e w8 ⟨rfl, hb8⟩
          have HS8 := Lib.hid (HS7.out.later hb8); have HB8 := Lib.hid (HB7.out.trans (hb8.mono HB7.out.size))
          clear hb8
          cases bg
          · have HNO := Lib.hid (show Zn.pok f (Ln.txt rows) p q = false by rw [HPOK.out]; simp)
            go_wp2_with fail
            go_ret
            exact ⟨ret_bool (chk_no HTK.out HNO.out).symm, HB8.out⟩
          · have HOK := Lib.hid (show Zn.pok f (Ln.txt rows) p q = true by rw [HPOK.out]; simp)
            go_wp2_with fail
            go_roundw
            case rel => exact ⟨k + 1, by omega, by go_num, by rw [HTK.out, List.all_append, HALL.out]; simpa using HOK.out, HS8.out, HB8.out⟩
            case measure => simp [intOf]; omega
        · go_wp2_with fail
          refine (HDG.out _).mono ?_; rintro e w8 ⟨rfl, hb8⟩
          have HS8 := Lib.hid (HS7.out.later hb8); have HB8 := Lib.hid (HB7.out.trans (hb8.mono HB7.out.size))
          clear hb8
          cases bg
          · have HNO := Lib.hid (show Zn.pok f (Ln.txt rows) p q = false by rw [HPOK.out]; simp)
            go_wp2_with fail
            go_ret
            exact ⟨ret_bool (chk_no HTK.out HNO.out).symm, HB8.out⟩
          · have HOK := Lib.hid (show Zn.pok f (Ln.txt rows) p q = true by rw [HPOK.out]; simp)
            go_wp2_with fail
            go_roundw
            case rel => exact ⟨k + 1, by omega, by go_num, by rw [HTK.out, List.all_append, HALL.out]; simpa using HOK.out, HS8.out, HB8.out⟩
            case measure => simp [intOf]; omega
        · go_wp2_with fail
          refine (HDG.out _).mono ?_; rintro e w8 ⟨rfl, hb8⟩
          have HS8 := Lib.hid (HS7.out.later hb8); have HB8 := Lib.hid (HB7.out.trans (hb8.mono HB7.out.size))
          clear hb8
          cases bg
          · have HNO := Lib.hid (show Zn.pok f (Ln.txt rows) p q = false by rw [HPOK.out]; simp)
            go_wp2_with fail
            go_ret
            exact ⟨ret_bool (chk_no HTK.out HNO.out).symm, HB8.out⟩
          · have HOK := Lib.hid (show Zn.pok f (Ln.txt rows) p q = true by rw [HPOK.out]; simp)
            go_wp2_with fail
            go_roundw
            case rel => exact ⟨k + 1, by omega, by go_num, by rw [HTK.out, List.all_append, HALL.out]; simpa using HOK.out, HS8.out, HB8.out⟩
            case measure => simp [intOf]; omega
        · have HOK := Lib.hid (show Zn.pok f (Ln.txt rows) p q = true by rw [HPOK.out]; simp)
          go_wp2_with fail
          go_roundw
          case rel => exact ⟨k + 1, by omega, by go_num, by rw [HTK.out, List.all_append, HALL.out]; simpa using HOK.out, HS7.out, HB7.out⟩
          case measure => simp [intOf]; omega
      · go_wp2_with fail
        refine (HDG.out _).mono ?_; rintro e w8 ⟨rfl, hb8⟩
        have HS8 := Lib.hid (HS7.out.later hb8); have HB8 := Lib.hid (HB7.out.trans (hb8.mono HB7.out.size))
        clear hb8
        cases bg
        · have HNO := Lib.hid (show Zn.pok f (Ln.txt rows) p q = false by rw [HPOK.out]; simp)
          go_wp2_with fail
          go_ret
          exact ⟨ret_bool (chk_no HTK.out HNO.out).symm, HB8.out⟩
        · have HOK := Lib.hid (show Zn.pok f (Ln.txt rows) p q = true by rw [HPOK.out]; simp)
          go_wp2_with fail
          go_roundw
          case rel => exact ⟨k + 1, by omega, by go_num, by rw [HTK.out, List.all_append, HALL.out]; simpa using HOK.out, HS8.out, HB8.out⟩
          case measure => simp [intOf]; omega
    · obtain rfl : k = 4 := by omega
      have hcv := comp_ok f _ HLV.out.1 HLV.out.2
      obtain ⟨C, hC⟩ : ∃ C, Zn.comp f (Ln.txt rows) = C := ⟨_, rfl⟩
      obtain ⟨D, hD⟩ : ∃ D, Zn.fld f (Ln.txt rows) 14 = D := ⟨_, rfl⟩
      have hchk : Zn.chk f (Ln.txt rows) = decide (D = Zn.dg C) := by
        unfold Zn.chk
        rw [hC, hD, show (Zn.pairs.all fun p => Zn.pok f (Ln.txt rows) p.1 p.2) = true from HALL.out, Bool.true_and]
      obtain ⟨SD, hSD⟩ : ∃ S : ByteArray, S = ⟨D.toArray⟩ := ⟨_, rfl⟩
      obtain ⟨SC, hSC⟩ : ∃ S : ByteArray, S = ⟨C.toArray⟩ := ⟨_, rfl⟩
      obtain ⟨SG, hSG⟩ : ∃ S : ByteArray, S = ⟨(Zn.dg C).toArray⟩ := ⟨_, rfl⟩
      rw [hC] at hcv
      have eG : (SD.toList == SG.toList) = decide (D = Zn.dg C) := by rw [eq_bytes hSD, hSG, toList_of]
      rw [← hchk] at eG
      have hg : ∀ W, SheetAt W base g f rows → Calls Tryz.prog 34 #[.pointer (some ⟨g, 0, none⟩), .int .i64 14] W fun e w' => e = .returned (.string SD) ∧ Below W.heap.size W w' := fun W hW => by
        have h := HG.out W hW 14 (by omega)
        rw [hD, ← hSD] at h; exact h
      have hc : ∀ W, SheetAt W base g f rows → Calls Tryz.prog 50 #[.pointer (some ⟨g, 0, none⟩)] W fun e w' => e = .returned (.string SC) ∧ Below W.heap.size W w' := fun W hW => by
        have h := zcomposed W base g f rows HF.out hW HLV.out.1
        rw [hC, ← hSC] at h; exact h
      have hdg : ∀ W, Calls Tryz.prog 48 #[.string SC] W fun e w' => e = .returned (.string SG) ∧ Below W.heap.size W w' := fun W => by
        have h := zdigit SC W (by rw [hSC, str_size]; omega)
        rw [show Opt.digS SC = SG by rw [hSC, hSG]; exact digS_of hcv.1] at h
        exact h
      obtain ⟨R, hR⟩ : ∃ R, Zn.chk f (Ln.txt rows) = R := ⟨_, rfl⟩
      rw [hR] at eG
      have HR := Lib.hid hR
      clear hR
      have HGG := Lib.hid hg; have HCC := Lib.hid hc; have HDD := Lib.hid hdg
      clear hcv hC hD hchk hSD hSC hSG hg hc hdg HG HALL hlt hk
      go_wp2_with fail
      refine (HGG.out _ HSH.out).mono ?_; rintro e w2 ⟨rfl, hb⟩
      have HS2 := Lib.hid (HSH.out.later hb); have HB2 := Lib.hid (HBW.out.trans (hb.mono HBW.out.size))
      clear hb
      go_wp2_with fail
      refine (HCC.out _ HS2.out).mono ?_; rintro e w3 ⟨rfl, hb⟩
      have HB3 := Lib.hid (HB2.out.trans (hb.mono HB2.out.size))
      clear hb
      go_wp2_with fail
      refine (HDD.out _).mono ?_; rintro e w4 ⟨rfl, hb⟩
      have HB4 := Lib.hid (HB3.out.trans (hb.mono HB3.out.size))
      clear hb
      go_wp2_with fail
      go_ret
      exact ⟨ret_bool HR.out.symm, HB4.out⟩
end Go.Proofs.YtelngghecmkipaaGreatDoor
