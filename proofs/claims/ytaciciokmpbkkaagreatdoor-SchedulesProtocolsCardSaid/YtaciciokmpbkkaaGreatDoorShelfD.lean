import Derived.Test.YtaciciokmpbkkaaGreatDoorAl
import Derived.Shelf.Strconv.Itoa3
import Derived.Test.YtaciciokmpbkkaaGreatDoorProg
set_option maxRecDepth 100000
set_option maxHeartbeats 16000000
namespace Go.Proofs
open Go.Shelf
def Tryz.MW:Go.Shelf.Ren:=⟨λ|171=>94|243=>137|246=>173|283=>204|284=>205|285=>206|286=>207|129=>170|317=>226|318=>227|319=>228|320=>229|337=>236|338=>237|n=>n,λ|3=>3|9=>9|2=>2|4=>4|171=>235|0=>0|53=>213|37=>135|5=>5|173=>237|212=>252|51=>211|20=>20|213=>253|46=>182|232=>257|233=>258|n=>n,λ|17=>0|18=>2|19=>3|n=>n⟩
theorem Tryz.VX:Go.Proofs.Lays.n171 Tryz.prog Tryz.MW:={
 mixed:=by kernel_rfl
 f129:=Tryz.func170.t (bV some aas)
 f171:=Tryz.func94.t (bV some aas)
 f243:=Tryz.func137.t (bV some aas)
 f246:=Tryz.func173.t (bV some aas)
 f283:=Tryz.func204.t (bV some aas)
 f284:=Tryz.func205.t (bV some aas)
 f285:=Tryz.func206.t (bV some aas)
 f286:=Tryz.func207.t (bV some aas)
 f317:=Tryz.func226.t (bV some aas)
 f318:=Tryz.func227.t (bV some aas)
 f319:=Tryz.func228.t (bV some aas)
 f320:=Tryz.func229.t (bV some aas)
 f337:=Tryz.func236.t (bV some aas)
 f338:=Tryz.func237.t (bV some aas)
 t0:=kE
 a0:=oH
 z0:=nD
 v0:=kU
 t2:=Tryz.underlying2
 a2:=Tryz.isAgg2
 z2:=Tryz.sizeOf2
 v2:=Tryz.zeroValue2
 t3:=gy
 a3:=nu
 z3:=mh
 v3:=jk
 t4:=kF
 a4:=oI
 z4:=nE
 v4:=ko
 t5:=o7
 a5:=wP
 z5:=uU
 v5:=qf
 t9:=ig
 a9:=oJ
 z9:=nH
 v9:=kV
 t20:=Tryz.underlying20
 a20:=Tryz.isAgg20
 z20:=Tryz.sizeOf20
 v20:=Tryz.zeroValue20
 t37:=qp
 a37:=Tryz.isAgg135
 z37:=Tryz.sizeOf135
 v37:=wQ
 t46:=vN
 a46:=Tryz.isAgg182
 z46:=Tryz.sizeOf182
 v46:=wR
 t51:=vQ
 a51:=Tryz.isAgg211
 z51:=Tryz.sizeOf211
 v51:=wS
 t53:=vR
 a53:=Tryz.isAgg213
 z53:=Tryz.sizeOf213
 v53:=wT
 t171:=Tryz.underlying235
 a171:=Tryz.isAgg235
 z171:=Tryz.sizeOf235
 v171:=Tryz.zeroValue235
 t173:=Tryz.underlying237
 a173:=Tryz.isAgg237
 z173:=Tryz.sizeOf237
 v173:=Tryz.zeroValue237
 t212:=Tryz.underlying252
 a212:=Tryz.isAgg252
 z212:=Tryz.sizeOf252
 v212:=Tryz.zeroValue252
 t213:=Tryz.underlying253
 a213:=Tryz.isAgg253
 z213:=Tryz.sizeOf253
 t232:=Tryz.underlying257
 a232:=Tryz.isAgg257
 z232:=Tryz.sizeOf257
 v232:=Tryz.zeroValue257
 t233:=Tryz.underlying258
 a233:=Tryz.isAgg258
 z233:=Tryz.sizeOf258
 v233:=Tryz.zeroValue258
 g17:=by kernel_rfl
 g18:=by kernel_rfl
 g19:=by kernel_rfl }
open Go.RowKit Go.Sort Go.Lib in
theorem Tryz.strconv_Itoa_small(i:Nat)(hi:i<100)(w:World):
 Calls Tryz.prog 94 #[.int .i64 i] w λe w'=>e=.returned (.string ⟨(Lib.decDigits i).toArray⟩)/\w'=w:=Any.strconv_Itoa_small Tryz.VX i hi w
end Go.Proofs
