/- Chapter 11: the sample of the sanity check; plain. -/
import Derived.Test.YtelngghecmkipaaGreatDoorZonBld
import Derived.Test.YtelngghecmkipaaGreatDoorZonParse
namespace Go.Proofs.YtelngghecmkipaaGreatDoor
namespace Zn
abbrev smp : Z := ⟨3, ⟨#[80]⟩, ⟨#[85, 84, 79]⟩, ⟨#[69, 82, 73, 75, 83, 83, 79, 78]⟩, ⟨#[65, 78, 78, 65, 32, 77, 65, 82, 73, 65]⟩, ⟨#[76, 56, 57, 56, 57, 48, 50, 67]⟩, ⟨#[85, 84, 79]⟩, ⟨#[54, 57, 48, 56, 48, 54]⟩, ⟨#[70]⟩, ⟨#[57, 52, 48, 54, 50, 51]⟩, ⟨#[90, 69, 49, 56, 52, 50, 50, 54, 66]⟩, ⟨#[]⟩⟩
abbrev smp0 : ByteArray := ⟨#[80, 60, 85, 84, 79, 69, 82, 73, 75, 83, 83, 79, 78, 60, 60, 65, 78, 78, 65, 60, 77, 65, 82, 73, 65, 60, 60, 60, 60, 60, 60, 60, 60, 60, 60, 60, 60, 60, 60, 60, 60, 60, 60, 60]⟩
abbrev smp1 : ByteArray := ⟨#[76, 56, 57, 56, 57, 48, 50, 67, 60, 51, 85, 84, 79, 54, 57, 48, 56, 48, 54, 49, 70, 57, 52, 48, 54, 50, 51, 54, 90, 69, 49, 56, 52, 50, 50, 54, 66, 60, 60, 60, 60, 60, 49, 52]⟩
theorem smp_exp : Dat.prE smp.exp 2000 = 0 := by
  rw [(Dat.pr_yes (s := smp.exp) (f := 2000) (by decide) (by decide) rfl (by unfold Dat.allD Dat.isD; decide)).2]
  unfold Dat.ofE
  rw [if_pos (by unfold Dat.vld; decide)]
theorem smp_good : Good smp := ⟨by decide, by decide, by decide, by decide, by decide, by decide, by decide, by decide, by decide, by decide, by decide, by decide, smp_exp, by decide, by decide, by decide, by decide, by decide⟩
theorem smp_vld : vldE smp = 0 := smp_good.vld
theorem smp_nm : Opt.nmV smp.sur.data.toList smp.giv.data.toList (wd 3 2) = [69, 82, 73, 75, 83, 83, 79, 78, 60, 60, 65, 78, 78, 65, 60, 77, 65, 82, 73, 65, 60, 60, 60, 60, 60, 60, 60, 60, 60, 60, 60, 60, 60, 60, 60, 60, 60, 60, 60] := by
  unfold Opt.nmV
  rw [if_neg (by rintro (h | h | h); exact h ⟨by decide, by decide, by decide⟩; exact absurd h (by decide); exact absurd h (by decide))]
  decide
theorem smp_bld : bldK smp = [smp0, smp1] := by
  unfold bldK bld
  show (asm 3 (bldF 3 smp)).map _ = _
  unfold bldF
  rw [smp_nm]
  kernel_rfl
theorem smp_shape : shape (txts [smp0, smp1]) = 3 := by decide
theorem smp_prsZ : prsZ 3 (txts [smp0, smp1]) = smp := by kernel_rfl
theorem smp_prsE : prsE (txts [smp0, smp1]) = 0 := by
  unfold prsE
  rw [smp_shape, smp_prsZ, smp_vld, if_neg (by decide), if_neg (by decide), if_neg (by decide), if_neg (by decide), if_neg (by decide)]
theorem smp_prsV : prsV (txts [smp0, smp1]) = smp := by
  unfold prsV
  rw [if_pos smp_prsE, smp_shape, smp_prsZ]
end Zn
end Go.Proofs.YtelngghecmkipaaGreatDoor
