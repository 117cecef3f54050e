/- Chapter 12: the walk of the law on Similar. -/
import Derived.Test.YtafbhadfeemppaaGreatDoorRdAwake
import Derived.OpenShut
namespace Go.Proofs.YtafbhadfeemppaaGreatDoor
open Go.RowKit Go.ChangeShapes Go.WideShapes

theorem laid_dat {W : World} {rest : List (String × DataW Unit)} (hp : ((("traveldoc/dates.lengths", Rows.laid_traveldoc_dates_lengths) :: rest).all fun x => x.2.handleName?.isNone) = true) (h : laidMetH Tryz.prog (("traveldoc/dates.lengths", Rows.laid_traveldoc_dates_lengths) :: rest) W) : Dat.At W := by
  rw [MakeChecks.laidMetH_plain _ _ _ hp] at h
  exact dat_of h
theorem laid_grp {W : World} {l : List (String × DataW Unit)} (hp : (l.all fun x => x.2.handleName?.isNone) = true) (hf : (l.filter fun x => x.1 == "traveldoc/traveldocref12.groups") = [("traveldoc/traveldocref12.groups", Rows.laid_traveldoc_traveldocref12_groups)]) (h : laidMetH Tryz.prog l W) : GrpAt W := by
  rw [MakeChecks.laidMetH_plain _ _ _ hp] at h
  have := h.filter fun x => x.1 == "traveldoc/traveldocref12.groups"
  rw [hf] at this
  exact grp_of this
theorem GrpAt.below {B : Nat} {w w' : World} (h : GrpAt w) (hb : Below B w w') (hB : 0 < B) : GrpAt w' := fun i hi => (hb.cell (p := ⟨0, i, none⟩) hB).trans (h i hi)
theorem GrpAt.later {w w' : World} (h : GrpAt w) (hb : Below w.heap.size w w') : GrpAt w' := fun i hi => cell_later hb (h i hi)
set_option maxRecDepth 100000 in
set_option maxHeartbeats 4000000 in
theorem walkReadingSimilar {X : Prop} (w : World) (a0 : Int) (w0 : (Lit.int .u8 a0).wf = true) (_hsz : X) (hL : laidMetH Tryz.prog Rows.readingSimilarRow.laid w) (hsh : w.ShapedOpen Tryz.prog) :
    Calls Tryz.prog 3 #[.int .u8 a0] w fun e w' => e = .returned (.bool true) ∧ Below w.heap.size w w' := by
  have hb := bounds_u8 w0
  obtain ⟨c, hc⟩ : ∃ c : UInt8, a0 = (c.toNat : Int) := ⟨b8 a0, (b8_toNat a0 hb.1 (by omega)).symm⟩
  subst hc
  have HDX := Lib.hid (And.intro (laid_dat (by kernel_rfl) hL) (And.intro (Opt.lax_of hsh) (laid_grp (by kernel_rfl) (by rfl) hL)))
  have HAW := Lib.hid (fun W (h : Below w.heap.size w W) => oawake W (HDX.out.1.below h) (HDX.out.2.1.below h))
  have HSB := Lib.hid (simL_back c)
  clear hL hsh w0 hb
  obtain ⟨s, hs⟩ : ∃ s, simS c = s := ⟨_, rfl⟩
  have HO := Lib.hid (fun W => osimilar c W)
  have HR := Lib.hid (fun W (h : Below w.heap.size w W) => rsimilar c W (HDX.out.2.2.later h))
  rw [hs] at HO HR
  have HS := Lib.hid hs
  clear hs
  go_enter Tryz.func3, Tryz.ntmps3
  go_wp2_with fail
  refine (HO.out _).mono ?_; rintro e w1 ⟨rfl, hb1⟩
  have HB1 := Lib.hid hb1
  clear hb1
  go_wp2_with fail
  refine (HAW.out _ HB1.out).mono ?_; rintro e w2 ⟨rfl, hb2⟩
  have HB2 := Lib.hid (HB1.out.trans (hb2.mono HB1.out.size))
  clear hb2
  have e1 : (s.toList != s.toList) = false := by rw [bne_eq_false_iff_eq]
  go_wp2_with fail
  refine (HR.out _ HB2.out).mono ?_; rintro e w3 ⟨rfl, hb3⟩
  have HB3 := Lib.hid (HB2.out.trans (hb3.mono HB2.out.size))
  clear hb3
  have hsz : s.size ≤ 4 := by
    have h : ∀ c : UInt8, (simL c).length ≤ 4 := by
      have h : (List.range 256).all (fun n => decide ((simL (UInt8.ofNat n)).length ≤ 4)) = true := by kernel_rfl
      intro c
      have h1 := List.all_eq_true.1 h c.toNat (List.mem_range.2 c.toNat_lt)
      rw [show UInt8.ofNat c.toNat = c by simp] at h1
      exact of_decide_eq_true h1
    rw [← HS.out]; unfold simS; rw [str_size]; exact h c
  go_wp2_with fail
  clear e1
  go_loopw [4] (fun v wr => ∃ k : Nat, k ≤ s.size ∧ v = .int .i64 k ∧ Below w.heap.size w wr) (fun v _ => s.size - (intOf v).toNat)
  case atStart => exact ⟨0, Nat.zero_le _, rfl, HB3.out⟩
  case round =>
    obtain ⟨k, hk, rfl, hbr⟩ := hrel
    have HBR := Lib.hid hbr
    clear hbr
    by_cases hlt : k < s.size
    · obtain ⟨q, hq⟩ : ∃ q, s[k]'hlt = q := ⟨_, rfl⟩
      have HQ := Lib.hid (show simS q = s by
        have h1 := HSB.out q (by
          have h2 : (simL c).length = s.size := by rw [← HS.out]; unfold simS; rw [str_size]
          have h3 : (simL c)[k]'(by omega) = q := by
            rw [← hq]
            have : ∀ (s' : ByteArray) (e : simS c = s') (h : k < s'.size), s'[k] = (simL c)[k]'(by omega) := fun s' e h => by subst e; rfl
            exact (this s HS.out hlt).symm
          rw [← h3]; exact List.getElem_mem _)
        rw [← HS.out]; unfold simS; rw [h1])
      have HSQ := Lib.hid (show ∀ W, Calls Tryz.prog 10 #[.int .u8 ((s[k]'hlt).toNat : Int)] W fun e w' => e = .returned (.string s) ∧ Below W.heap.size W w' from fun W => by
        have h := osimilar (s[k]'hlt) W
        rw [hq, HQ.out] at h
        rw [hq]; exact h)
      have HLT := Lib.hid hlt
      clear hq
      go_wp2_with fail
      refine (HSQ.out _).mono ?_; rintro e w4 ⟨rfl, hb4⟩
      have HB4 := Lib.hid (HBR.out.trans (hb4.mono HBR.out.size))
      have e1 : (s.toList != s.toList) = false := by rw [bne_eq_false_iff_eq]
      clear hb4
      go_wp2_with fail
      go_roundw
      case rel => exact ⟨k + 1, HLT.out, by go_num, HB4.out⟩
      case measure => have := HLT.out; simp [intOf]; omega
    · obtain rfl : k = s.size := by omega
      go_wp2_with fail
      go_ret
      exact ⟨rfl, HBR.out⟩
end Go.Proofs.YtafbhadfeemppaaGreatDoor
