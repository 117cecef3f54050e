import Derived.Test.YtaciciokmpbkkaaGreatDoorAl
import Derived.Shelf.SlicesQ.Reverse
import Derived.Test.YtaciciokmpbkkaaGreatDoorProg
set_option maxRecDepth 100000
set_option maxHeartbeats 16000000
namespace Go.Proofs
open Go.Shelf
def Tryz.Re:Go.Shelf.Ren:=⟨λ|35=>139|n=>n,λ|22=>57|23=>61|3=>3|4=>4|0=>0|n=>n,λ|n=>n⟩
theorem Tryz.YQ:Go.Proofs.SlLaysE0.n35 Tryz.prog Tryz.Re:={
 mixed:=by kernel_rfl
 f35:=⟨Tryz.f139.1,by decide,Tryz.func139.t (bY some (by kernel_rfl))⟩
 t0:=kD
 a0:=oG
 z0:=nE
 v0:=kV
 t3:=fU
 a3:=ni
 z3:=ma
 v3:=ji
 t4:=kE
 a4:=oH
 z4:=nH
 v4:=kg
 t22:=qZ
 a22:=Tryz.isAgg57
 z22:=Tryz.sizeOf57
 v22:=o6 }
end Go.Proofs
