import Derived.Test.YtaciciokmpbkkaaGreatDoorAl
import Derived.Shelf.Strconv.Itoa3
import Derived.Test.YtaciciokmpbkkaaGreatDoorProg
set_option maxRecDepth 100000
set_option maxHeartbeats 16000000
namespace Go.Proofs
open Go.Shelf
def Tryz.Mr:Go.Shelf.Ren:=⟨λ|171=>94|243=>137|246=>173|283=>204|284=>205|285=>206|286=>207|129=>170|317=>226|318=>227|319=>228|320=>229|337=>236|338=>237|n=>n,λ|3=>3|9=>9|2=>2|4=>4|171=>235|0=>0|53=>213|37=>135|5=>5|173=>237|212=>252|51=>211|20=>20|213=>253|46=>182|232=>257|233=>258|n=>n,λ|17=>0|18=>2|19=>3|n=>n⟩
theorem Tryz.VI:Go.Proofs.Lays.n171 Tryz.prog Tryz.Mr:={
 mixed:=by kernel_rfl
 f129:=Tryz.func170.t (bY some (by kernel_rfl))
 f171:=Tryz.func94.t (bY some (by kernel_rfl))
 f243:=Tryz.func137.t (bY some (by kernel_rfl))
 f246:=Tryz.func173.t (bY some (by kernel_rfl))
 f283:=Tryz.func204.t (bY some (by kernel_rfl))
 f284:=Tryz.func205.t (bY some (by kernel_rfl))
 f285:=Tryz.func206.t (bY some (by kernel_rfl))
 f286:=Tryz.func207.t (bY some (by kernel_rfl))
 f317:=Tryz.func226.t (bY some (by kernel_rfl))
 f318:=Tryz.func227.t (bY some (by kernel_rfl))
 f319:=Tryz.func228.t (bY some (by kernel_rfl))
 f320:=Tryz.func229.t (bY some (by kernel_rfl))
 f337:=Tryz.func236.t (bY some (by kernel_rfl))
 f338:=Tryz.func237.t (bY some (by kernel_rfl))
 t0:=kD
 a0:=oG
 z0:=nE
 v0:=kV
 t2:=Tryz.underlying2
 a2:=Tryz.isAgg2
 z2:=Tryz.sizeOf2
 v2:=Tryz.zeroValue2
 t3:=fU
 a3:=ni
 z3:=ma
 v3:=ji
 t4:=kE
 a4:=oH
 z4:=nH
 v4:=kg
 t5:=oZ
 a5:=wM
 z5:=uN
 v5:=p9
 t9:=gB
 a9:=oI
 z9:=nI
 v9:=kW
 t20:=Tryz.underlying20
 a20:=Tryz.isAgg20
 z20:=Tryz.sizeOf20
 v20:=Tryz.zeroValue20
 t37:=ql
 a37:=Tryz.isAgg135
 z37:=Tryz.sizeOf135
 v37:=wN
 t46:=vG
 a46:=Tryz.isAgg182
 z46:=Tryz.sizeOf182
 v46:=wO
 t51:=vI
 a51:=Tryz.isAgg211
 z51:=Tryz.sizeOf211
 v51:=wP
 t53:=vJ
 a53:=Tryz.isAgg213
 z53:=Tryz.sizeOf213
 v53:=wQ
 t171:=Tryz.underlying235
 a171:=Tryz.isAgg235
 z171:=Tryz.sizeOf235
 v171:=Tryz.zeroValue235
 t173:=Tryz.underlying237
 a173:=Tryz.isAgg237
 z173:=Tryz.sizeOf237
 v173:=Tryz.zeroValue237
 t212:=Tryz.underlying252
 a212:=Tryz.isAgg252
 z212:=Tryz.sizeOf252
 v212:=Tryz.zeroValue252
 t213:=Tryz.underlying253
 a213:=Tryz.isAgg253
 z213:=Tryz.sizeOf253
 t232:=Tryz.underlying257
 a232:=Tryz.isAgg257
 z232:=Tryz.sizeOf257
 v232:=Tryz.zeroValue257
 t233:=Tryz.underlying258
 a233:=Tryz.isAgg258
 z233:=Tryz.sizeOf258
 v233:=Tryz.zeroValue258
 g17:=by kernel_rfl
 g18:=by kernel_rfl
 g19:=by kernel_rfl }
open Go.RowKit Go.Sort Go.Lib in
theorem Tryz.strconv_Itoa_small(i:Nat)(hi:i<100)(w:World):
 Calls Tryz.prog 94 #[.int .i64 i] w λe w'=>e=.returned (.string ⟨(Lib.decDigits i).toArray⟩)/\w'=w:=Any.strconv_Itoa_small Tryz.VI i hi w
end Go.Proofs
