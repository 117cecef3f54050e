import Derived.Test.YtaciciokmpbkkaaGreatDoorAl
import Derived.Shelf.SlicesQ.Reverse
import Derived.Test.YtaciciokmpbkkaaGreatDoorProg
set_option maxRecDepth 100000
set_option maxHeartbeats 16000000
namespace Go.Proofs
open Go.Shelf
def Tryz.RI:Go.Shelf.Ren:=⟨λ|35=>139|n=>n,λ|22=>57|23=>61|3=>3|4=>4|0=>0|n=>n,λ|n=>n⟩
theorem Tryz.Y2:Go.Proofs.SlLaysE0.n35 Tryz.prog Tryz.RI:={
 mixed:=by kernel_rfl
 f35:=⟨Tryz.f139.1,aat,Tryz.func139.t (bV some aas)⟩
 t0:=kE
 a0:=oH
 z0:=nD
 v0:=kU
 t3:=gy
 a3:=nu
 z3:=mh
 v3:=jk
 t4:=kF
 a4:=oI
 z4:=nE
 v4:=ko
 t22:=mi
 a22:=Tryz.isAgg57
 z22:=Tryz.sizeOf57
 v22:=o8 }
end Go.Proofs
