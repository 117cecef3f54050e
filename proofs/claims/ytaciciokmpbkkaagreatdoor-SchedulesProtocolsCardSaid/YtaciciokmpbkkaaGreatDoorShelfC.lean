import Derived.Shelf.Strconv.Itoa1
import Derived.Shelf.Sort.Plain
import Derived.Shelf.Slices.SearchI
import Derived.Shelf.Slices.In.SortNone
import Derived.Test.YtaciciokmpbkkaaGreatDoorShelf
import Derived.Test.YtaciciokmpbkkaaGreatDoorShelfH
set_option maxRecDepth 100000
set_option maxHeartbeats 16000000
namespace Go.Proofs
open Go.Shelf
def Tryz.MX:Go.Shelf.Ren:=⟨λ|190=>125|125=>133|258=>156|128=>169|129=>170|302=>189|303=>190|304=>191|305=>192|306=>193|307=>194|308=>195|309=>196|310=>197|333=>221|329=>200|330=>201|334=>222|335=>223|336=>145|344=>234|n=>n,λ|31=>53|9=>9|3=>3|46=>182|0=>0|51=>211|53=>213|4=>4|183=>205|182=>204|131=>148|5=>5|218=>229|222=>233|228=>249|229=>220|n=>n,λ|n=>n⟩
theorem Tryz.Qq:Go.Proofs.Lays.n190 Tryz.prog Tryz.MX:={
 mixed:=by kernel_rfl
 f125:=Tryz.func133.t (bV some aas)
 f128:=Tryz.func169.t (bV some aas)
 f129:=Tryz.func170.t (bV some aas)
 f190:=Tryz.func125.t (bV some aas)
 f258:=Tryz.func156.t (bV some aas)
 f302:=Tryz.func189.t (bV some aas)
 f303:=Tryz.func190.t (bV some aas)
 f304:=Tryz.func191.t (bV some aas)
 f305:=Tryz.func192.t (bV some aas)
 f306:=Tryz.func193.t (bV some aas)
 f307:=Tryz.func194.t (bV some aas)
 f308:=Tryz.func195.t (bV some aas)
 f309:=Tryz.func196.t (bV some aas)
 f310:=Tryz.func197.t (bV some aas)
 f329:=Tryz.func200.t (bV some aas)
 f330:=Tryz.func201.t (bV some aas)
 f333:=Tryz.func221.t (bV some aas)
 f334:=Tryz.func222.t (bV some aas)
 f335:=Tryz.func223.t (bV some aas)
 f336:=Tryz.func145.t (bV some aas)
 f344:=Tryz.func234.t (bV some aas)
 t0:=kE
 a0:=oH
 z0:=nD
 v0:=kU
 t3:=gy
 a3:=nu
 z3:=mh
 v3:=jk
 t4:=kF
 a4:=oI
 z4:=nE
 v4:=ko
 t5:=o7
 a5:=wP
 z5:=uU
 v5:=qf
 t9:=ig
 a9:=oJ
 z9:=nH
 v9:=kV
 t31:=jX
 a31:=yz
 z31:=xx
 v31:=sN
 t46:=vN
 a46:=Tryz.isAgg182
 z46:=Tryz.sizeOf182
 v46:=wR
 t51:=vQ
 a51:=Tryz.isAgg211
 z51:=Tryz.sizeOf211
 v51:=wS
 t53:=vR
 a53:=Tryz.isAgg213
 z53:=Tryz.sizeOf213
 v53:=wT
 t131:=Tryz.underlying148
 a131:=Tryz.isAgg148
 z131:=Tryz.sizeOf148
 v131:=Tryz.zeroValue148
 t182:=Tryz.underlying204
 a182:=Tryz.isAgg204
 z182:=Tryz.sizeOf204
 v182:=Tryz.zeroValue204
 t183:=Tryz.underlying205
 a183:=Tryz.isAgg205
 z183:=Tryz.sizeOf205
 v183:=Tryz.zeroValue205
 t218:=Tryz.underlying229
 a218:=Tryz.isAgg229
 z218:=Tryz.sizeOf229
 v218:=Tryz.zeroValue229
 t222:=Tryz.underlying233
 a222:=Tryz.isAgg233
 z222:=Tryz.sizeOf233
 v222:=Tryz.zeroValue233
 t228:=Tryz.underlying249
 a228:=Tryz.isAgg249
 z228:=Tryz.sizeOf249
 v228:=Tryz.zeroValue249
 t229:=Tryz.underlying220
 a229:=Tryz.isAgg220
 z229:=Tryz.sizeOf220
 v229:=Tryz.zeroValue220 }
open Go.Sort Go.RowKit in
theorem Tryz.slices_Sort_string(blk off cap:Nat)(a:List (List UInt8))(w:World)(hH:Holds encStr w blk off a.toArray)(b:blk<w.heap.size)(c:a.length<4611686018427387904):
 Calls Tryz.prog 125 #[.slice (some ⟨blk,off,none⟩) a.length cap] w λe w'=>
  e=.returned (.tuple #[])/\∃n os,w'=grow (putRow encStr (Sort.ahead w n) blk off (a.mergeSort λx y=>decide (x<=y)).toArray) os:=Any.slices_Sort_string Tryz.Qq blk off cap a w hH b c
open Go.RowKit Go.Sort in
theorem Tryz.slices_Sort_string_none(p:Option Addr)(cap:Nat)(w:World):
 Calls Tryz.prog 125 #[.slice p 0 cap] w λe w'=>e=.returned (.tuple #[])/\w'=w:=Any.slices_Sort_string_none Tryz.Qq p cap w
end Go.Proofs
