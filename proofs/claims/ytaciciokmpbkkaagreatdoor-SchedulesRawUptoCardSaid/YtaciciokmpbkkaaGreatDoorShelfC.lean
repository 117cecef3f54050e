import Derived.Shelf.Strconv.Itoa1
import Derived.Shelf.Sort.Plain
import Derived.Shelf.Slices.SearchI
import Derived.Shelf.Slices.In.SortNone
import Derived.Test.YtaciciokmpbkkaaGreatDoorShelf
import Derived.Test.YtaciciokmpbkkaaGreatDoorShelfH
set_option maxRecDepth 100000
set_option maxHeartbeats 16000000
namespace Go.Proofs
open Go.Shelf
def Tryz.Ms:Go.Shelf.Ren:=⟨λ|190=>125|125=>133|258=>156|128=>169|129=>170|302=>189|303=>190|304=>191|305=>192|306=>193|307=>194|308=>195|309=>196|310=>197|333=>221|329=>200|330=>201|334=>222|335=>223|336=>145|344=>234|n=>n,λ|31=>53|9=>9|3=>3|46=>182|0=>0|51=>211|53=>213|4=>4|183=>205|182=>204|131=>148|5=>5|218=>229|222=>233|228=>249|229=>220|n=>n,λ|n=>n⟩
theorem Tryz.PT:Go.Proofs.Lays.n190 Tryz.prog Tryz.Ms:={
 mixed:=by kernel_rfl
 f125:=Tryz.func133.t (bY some (by kernel_rfl))
 f128:=Tryz.func169.t (bY some (by kernel_rfl))
 f129:=Tryz.func170.t (bY some (by kernel_rfl))
 f190:=Tryz.func125.t (bY some (by kernel_rfl))
 f258:=Tryz.func156.t (bY some (by kernel_rfl))
 f302:=Tryz.func189.t (bY some (by kernel_rfl))
 f303:=Tryz.func190.t (bY some (by kernel_rfl))
 f304:=Tryz.func191.t (bY some (by kernel_rfl))
 f305:=Tryz.func192.t (bY some (by kernel_rfl))
 f306:=Tryz.func193.t (bY some (by kernel_rfl))
 f307:=Tryz.func194.t (bY some (by kernel_rfl))
 f308:=Tryz.func195.t (bY some (by kernel_rfl))
 f309:=Tryz.func196.t (bY some (by kernel_rfl))
 f310:=Tryz.func197.t (bY some (by kernel_rfl))
 f329:=Tryz.func200.t (bY some (by kernel_rfl))
 f330:=Tryz.func201.t (bY some (by kernel_rfl))
 f333:=Tryz.func221.t (bY some (by kernel_rfl))
 f334:=Tryz.func222.t (bY some (by kernel_rfl))
 f335:=Tryz.func223.t (bY some (by kernel_rfl))
 f336:=Tryz.func145.t (bY some (by kernel_rfl))
 f344:=Tryz.func234.t (bY some (by kernel_rfl))
 t0:=kD
 a0:=oG
 z0:=nE
 v0:=kV
 t3:=fU
 a3:=ni
 z3:=ma
 v3:=ji
 t4:=kE
 a4:=oH
 z4:=nH
 v4:=kg
 t5:=oZ
 a5:=wM
 z5:=uN
 v5:=p9
 t9:=gB
 a9:=oI
 z9:=nI
 v9:=kW
 t31:=eu
 a31:=yz
 z31:=xu
 v31:=sK
 t46:=vG
 a46:=Tryz.isAgg182
 z46:=Tryz.sizeOf182
 v46:=wO
 t51:=vI
 a51:=Tryz.isAgg211
 z51:=Tryz.sizeOf211
 v51:=wP
 t53:=vJ
 a53:=Tryz.isAgg213
 z53:=Tryz.sizeOf213
 v53:=wQ
 t131:=Tryz.underlying148
 a131:=Tryz.isAgg148
 z131:=Tryz.sizeOf148
 v131:=Tryz.zeroValue148
 t182:=Tryz.underlying204
 a182:=Tryz.isAgg204
 z182:=Tryz.sizeOf204
 v182:=Tryz.zeroValue204
 t183:=Tryz.underlying205
 a183:=Tryz.isAgg205
 z183:=Tryz.sizeOf205
 v183:=Tryz.zeroValue205
 t218:=Tryz.underlying229
 a218:=Tryz.isAgg229
 z218:=Tryz.sizeOf229
 v218:=Tryz.zeroValue229
 t222:=Tryz.underlying233
 a222:=Tryz.isAgg233
 z222:=Tryz.sizeOf233
 v222:=Tryz.zeroValue233
 t228:=Tryz.underlying249
 a228:=Tryz.isAgg249
 z228:=Tryz.sizeOf249
 v228:=Tryz.zeroValue249
 t229:=Tryz.underlying220
 a229:=Tryz.isAgg220
 z229:=Tryz.sizeOf220
 v229:=Tryz.zeroValue220 }
open Go.Sort Go.RowKit in
theorem Tryz.slices_Sort_string(blk off cap:Nat)(a:List (List UInt8))(w:World)(hH:Holds encStr w blk off a.toArray)(b:blk<w.heap.size)(c:a.length<4611686018427387904):
 Calls Tryz.prog 125 #[.slice (some ⟨blk,off,none⟩) a.length cap] w λe w'=>
  e=.returned (.tuple #[])/\∃n os,w'=grow (putRow encStr (Sort.ahead w n) blk off (a.mergeSort λx y=>decide (x<=y)).toArray) os:=Any.slices_Sort_string Tryz.PT blk off cap a w hH b c
open Go.RowKit Go.Sort in
theorem Tryz.slices_Sort_string_none(p:Option Addr)(cap:Nat)(w:World):
 Calls Tryz.prog 125 #[.slice p 0 cap] w λe w'=>e=.returned (.tuple #[])/\w'=w:=Any.slices_Sort_string_none Tryz.PT p cap w
end Go.Proofs
