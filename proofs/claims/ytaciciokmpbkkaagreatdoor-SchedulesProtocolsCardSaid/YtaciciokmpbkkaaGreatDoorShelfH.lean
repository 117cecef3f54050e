import Derived.Test.YtaciciokmpbkkaaGreatDoorAl
import Derived.Shelf.SlicesE.Clone
import Derived.Shelf.SlicesE.IndexFunc
import Derived.Shelf.SlicesQ.IndexFunc
import Derived.Shelf.SlSortCmp.WholeK
import Derived.Test.YtaciciokmpbkkaaGreatDoorProg
set_option maxRecDepth 100000
set_option maxHeartbeats 16000000
namespace Go.Proofs
open Go.Shelf
def Tryz.RH:Go.Shelf.Ren:=⟨λ|41=>218|n=>n,λ|22=>23|23=>29|4=>4|n=>n,λ|n=>n⟩
theorem Tryz.Y1:Go.Proofs.SlLaysE0.n41 Tryz.prog Tryz.RH:={
 mixed:=by kernel_rfl
 f41:=⟨Tryz.f218.1,aat,Tryz.func218.t (bV some aas)⟩
 t4:=kF
 a4:=oI
 z4:=nE
 v4:=ko
 t22:=cB
 a22:=Tryz.isAgg23
 z22:=Tryz.sizeOf23
 v22:=xR }
def Tryz.RJ:Go.Shelf.Ren:=⟨λ|6=>80|15=>133|14=>132|28=>169|29=>170|20=>161|21=>162|22=>163|23=>164|24=>165|25=>166|26=>167|27=>168|46=>199|47=>200|48=>201|49=>202|50=>203|57=>225|n=>n,λ|22=>23|24=>29|25=>118|3=>3|39=>182|0=>0|53=>211|55=>213|4=>4|46=>205|45=>204|50=>148|5=>5|9=>9|66=>229|70=>233|76=>249|77=>220|n=>n,λ|n=>n⟩
theorem Tryz.Xq:Go.Proofs.SlLaysF0.n6 Tryz.prog Tryz.RJ:={
 mixed:=by kernel_rfl
 f6:=⟨Tryz.f80.1,aat,Tryz.func80.t (bV some aas)⟩
 f14:=⟨Tryz.f132.1,aat,Tryz.func132.t (bV some aas)⟩
 f15:=Tryz.func133.t (bV some aas)
 f20:=⟨Tryz.f161.1,aat,Tryz.func161.t (bV some aas)⟩
 f21:=⟨Tryz.f162.1,aat,Tryz.func162.t (bV some aas)⟩
 f22:=⟨Tryz.f163.1,aat,Tryz.func163.t (bV some aas)⟩
 f23:=⟨Tryz.f164.1,aat,Tryz.func164.t (bV some aas)⟩
 f24:=⟨Tryz.f165.1,aat,Tryz.func165.t (bV some aas)⟩
 f25:=⟨Tryz.f166.1,aat,Tryz.func166.t (bV some aas)⟩
 f26:=⟨Tryz.f167.1,aat,Tryz.func167.t (bV some aas)⟩
 f27:=⟨Tryz.f168.1,aat,Tryz.func168.t (bV some aas)⟩
 f28:=Tryz.func169.t (bV some aas)
 f29:=Tryz.func170.t (bV some aas)
 f46:=⟨Tryz.f199.1,aat,Tryz.func199.t (bV some aas)⟩
 f47:=Tryz.func200.t (bV some aas)
 f48:=Tryz.func201.t (bV some aas)
 f49:=⟨Tryz.f202.1,aat,Tryz.func202.t (bV some aas)⟩
 f50:=⟨Tryz.f203.1,aat,Tryz.func203.t (bV some aas)⟩
 f57:=⟨Tryz.f225.1,aat,Tryz.func225.t (bV some aas)⟩
 t0:=kE
 a0:=oH
 z0:=nD
 v0:=kU
 t3:=gy
 a3:=nu
 z3:=mh
 v3:=jk
 t4:=kF
 a4:=oI
 z4:=nE
 v4:=ko
 t5:=o7
 a5:=wP
 z5:=uU
 v5:=qf
 t9:=ig
 a9:=oJ
 z9:=nH
 v9:=kV
 t22:=cB
 a22:=Tryz.isAgg23
 z22:=Tryz.sizeOf23
 v22:=xR
 t25:=Tryz.underlying118
 a25:=Tryz.isAgg118
 z25:=Tryz.sizeOf118
 v25:=Tryz.zeroValue118
 t39:=vN
 a39:=Tryz.isAgg182
 z39:=Tryz.sizeOf182
 v39:=wR
 t45:=Tryz.underlying204
 a45:=Tryz.isAgg204
 z45:=Tryz.sizeOf204
 v45:=Tryz.zeroValue204
 t46:=Tryz.underlying205
 a46:=Tryz.isAgg205
 z46:=Tryz.sizeOf205
 v46:=Tryz.zeroValue205
 t50:=Tryz.underlying148
 a50:=Tryz.isAgg148
 z50:=Tryz.sizeOf148
 v50:=Tryz.zeroValue148
 t53:=vQ
 a53:=Tryz.isAgg211
 z53:=Tryz.sizeOf211
 v53:=wS
 t55:=vR
 a55:=Tryz.isAgg213
 z55:=Tryz.sizeOf213
 v55:=wT
 t66:=Tryz.underlying229
 a66:=Tryz.isAgg229
 z66:=Tryz.sizeOf229
 v66:=Tryz.zeroValue229
 t70:=Tryz.underlying233
 a70:=Tryz.isAgg233
 z70:=Tryz.sizeOf233
 v70:=Tryz.zeroValue233
 t76:=Tryz.underlying249
 a76:=Tryz.isAgg249
 z76:=Tryz.sizeOf249
 v76:=Tryz.zeroValue249
 t77:=Tryz.underlying220
 a77:=Tryz.isAgg220
 z77:=Tryz.sizeOf220
 v77:=Tryz.zeroValue220 }
end Go.Proofs
