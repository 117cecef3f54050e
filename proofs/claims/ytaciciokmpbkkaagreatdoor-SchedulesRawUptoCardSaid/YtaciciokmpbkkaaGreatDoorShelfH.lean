import Derived.Test.YtaciciokmpbkkaaGreatDoorAl
import Derived.Shelf.SlicesE.Clone
import Derived.Shelf.SlicesE.IndexFunc
import Derived.Shelf.SlicesQ.IndexFunc
import Derived.Shelf.SlSortCmp.WholeK
import Derived.Test.YtaciciokmpbkkaaGreatDoorProg
set_option maxRecDepth 100000
set_option maxHeartbeats 16000000
namespace Go.Proofs
open Go.Shelf
def Tryz.Rc:Go.Shelf.Ren:=⟨λ|41=>218|n=>n,λ|22=>23|23=>29|4=>4|n=>n,λ|n=>n⟩
theorem Tryz.YP:Go.Proofs.SlLaysE0.n41 Tryz.prog Tryz.Rc:={
 mixed:=by kernel_rfl
 f41:=⟨Tryz.f218.1,by decide,Tryz.func218.t (bY some (by kernel_rfl))⟩
 t4:=kE
 a4:=oH
 z4:=nH
 v4:=kg
 t22:=bM
 a22:=Tryz.isAgg23
 z22:=Tryz.sizeOf23
 v22:=xP }
def Tryz.Rf:Go.Shelf.Ren:=⟨λ|6=>80|15=>133|14=>132|28=>169|29=>170|20=>161|21=>162|22=>163|23=>164|24=>165|25=>166|26=>167|27=>168|46=>199|47=>200|48=>201|49=>202|50=>203|57=>225|n=>n,λ|22=>23|24=>29|25=>118|3=>3|39=>182|0=>0|53=>211|55=>213|4=>4|46=>205|45=>204|50=>148|5=>5|9=>9|66=>229|70=>233|76=>249|77=>220|n=>n,λ|n=>n⟩
theorem Tryz.Xd:Go.Proofs.SlLaysF0.n6 Tryz.prog Tryz.Rf:={
 mixed:=by kernel_rfl
 f6:=⟨Tryz.f80.1,by decide,Tryz.func80.t (bY some (by kernel_rfl))⟩
 f14:=⟨Tryz.f132.1,by decide,Tryz.func132.t (bY some (by kernel_rfl))⟩
 f15:=Tryz.func133.t (bY some (by kernel_rfl))
 f20:=⟨Tryz.f161.1,by decide,Tryz.func161.t (bY some (by kernel_rfl))⟩
 f21:=⟨Tryz.f162.1,by decide,Tryz.func162.t (bY some (by kernel_rfl))⟩
 f22:=⟨Tryz.f163.1,by decide,Tryz.func163.t (bY some (by kernel_rfl))⟩
 f23:=⟨Tryz.f164.1,by decide,Tryz.func164.t (bY some (by kernel_rfl))⟩
 f24:=⟨Tryz.f165.1,by decide,Tryz.func165.t (bY some (by kernel_rfl))⟩
 f25:=⟨Tryz.f166.1,by decide,Tryz.func166.t (bY some (by kernel_rfl))⟩
 f26:=⟨Tryz.f167.1,by decide,Tryz.func167.t (bY some (by kernel_rfl))⟩
 f27:=⟨Tryz.f168.1,by decide,Tryz.func168.t (bY some (by kernel_rfl))⟩
 f28:=Tryz.func169.t (bY some (by kernel_rfl))
 f29:=Tryz.func170.t (bY some (by kernel_rfl))
 f46:=⟨Tryz.f199.1,by decide,Tryz.func199.t (bY some (by kernel_rfl))⟩
 f47:=Tryz.func200.t (bY some (by kernel_rfl))
 f48:=Tryz.func201.t (bY some (by kernel_rfl))
 f49:=⟨Tryz.f202.1,by decide,Tryz.func202.t (bY some (by kernel_rfl))⟩
 f50:=⟨Tryz.f203.1,by decide,Tryz.func203.t (bY some (by kernel_rfl))⟩
 f57:=⟨Tryz.f225.1,by decide,Tryz.func225.t (bY some (by kernel_rfl))⟩
 t0:=kD
 a0:=oG
 z0:=nE
 v0:=kV
 t3:=fU
 a3:=ni
 z3:=ma
 v3:=ji
 t4:=kE
 a4:=oH
 z4:=nH
 v4:=kg
 t5:=oZ
 a5:=wM
 z5:=uN
 v5:=p9
 t9:=gB
 a9:=oI
 z9:=nI
 v9:=kW
 t22:=bM
 a22:=Tryz.isAgg23
 z22:=Tryz.sizeOf23
 v22:=xP
 t25:=Tryz.underlying118
 a25:=Tryz.isAgg118
 z25:=Tryz.sizeOf118
 v25:=Tryz.zeroValue118
 t39:=vG
 a39:=Tryz.isAgg182
 z39:=Tryz.sizeOf182
 v39:=wO
 t45:=Tryz.underlying204
 a45:=Tryz.isAgg204
 z45:=Tryz.sizeOf204
 v45:=Tryz.zeroValue204
 t46:=Tryz.underlying205
 a46:=Tryz.isAgg205
 z46:=Tryz.sizeOf205
 v46:=Tryz.zeroValue205
 t50:=Tryz.underlying148
 a50:=Tryz.isAgg148
 z50:=Tryz.sizeOf148
 v50:=Tryz.zeroValue148
 t53:=vI
 a53:=Tryz.isAgg211
 z53:=Tryz.sizeOf211
 v53:=wP
 t55:=vJ
 a55:=Tryz.isAgg213
 z55:=Tryz.sizeOf213
 v55:=wQ
 t66:=Tryz.underlying229
 a66:=Tryz.isAgg229
 z66:=Tryz.sizeOf229
 v66:=Tryz.zeroValue229
 t70:=Tryz.underlying233
 a70:=Tryz.isAgg233
 z70:=Tryz.sizeOf233
 v70:=Tryz.zeroValue233
 t76:=Tryz.underlying249
 a76:=Tryz.isAgg249
 z76:=Tryz.sizeOf249
 v76:=Tryz.zeroValue249
 t77:=Tryz.underlying220
 a77:=Tryz.isAgg220
 z77:=Tryz.sizeOf220
 v77:=Tryz.zeroValue220 }
end Go.Proofs
