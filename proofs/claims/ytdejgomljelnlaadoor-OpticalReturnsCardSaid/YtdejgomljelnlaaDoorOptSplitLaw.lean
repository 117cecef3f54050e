/- The walk of chapter 10's statement on Split. -/
import Derived.Test.YtdejgomljelnlaaDoorOptSplitRef2
import Derived.Test.YtdejgomljelnlaaDoorOptLaws
namespace Go.Proofs.YtdejgomljelnlaaDoor
open Go.RowKit

set_option maxHeartbeats 1000000 in
theorem walkOpticalSplits {X Y : Prop} (w : World) (s : ByteArray) (hs : s.size ≤ 140737488351232) (_hsz : X) (_hL : Y) (hsh : w.ShapedOpen Tryd.prog) :
    Calls Tryd.prog 6 #[.string s] w fun e w' => e = .returned (.bool true) ∧ Below w.heap.size w w' := by
  have hw := Opt.lax_of hsh
  clear hsh
  obtain ⟨⟨A, B, c, n⟩, hv⟩ : ∃ v, Opt.splV s = v := ⟨_, rfl⟩
  have HV := Lib.hid hv; clear hv
  go_enter Tryd.func6, Tryd.ntmps6
  go_wp2_with fail
  refine (osplit _ _ hw hs).mono ?_; rintro e w1 ⟨rfl, hb1⟩
  rw [HV.out]; unfold Opt.splR
  go_wp2_with fail
  refine (rsplit _ _ hs).mono ?_; rintro e w2 ⟨rfl, hb2⟩
  rw [HV.out]; unfold Opt.splR
  replace hb2 := hb1.trans (hb2.mono hb1.size)
  go_wp2_with fail
  refine (awake_any _ (hw.below hb2)).mono ?_; rintro e w3 ⟨rfl, hb3⟩
  replace hb3 := hb2.trans (hb3.mono hb2.size)
  go_wp2_with fail
  go_ret
  exact ⟨rfl, hb3⟩
end Go.Proofs.YtdejgomljelnlaaDoor
