import Derived.Test.YtaciciokmpbkkaaGreatDoorAl
import Derived.Shelf.Strings.OnBuilder
import Derived.Shelf.Small.Strs
import Derived.Shelf.Small.Wraps
import Derived.Shelf.Strings.BuilderCap
import Derived.Shelf.Slices.Turned
import Derived.Shelf.Slices.Cells
import Derived.Shelf.SlicesE.IndexFunc
import Derived.Test.YtaciciokmpbkkaaGreatDoorProg
set_option maxRecDepth 100000
set_option maxHeartbeats 16000000
namespace Go.Proofs
open Go.Shelf
def Tryz.Fy:Go.Shelf.Ren:=⟨λ|169=>96|n=>n,λ|70=>134|9=>9|0=>0|72=>137|37=>135|127=>183|3=>3|5=>5|n=>n,λ|n=>n⟩
theorem Tryz.VW:Go.Proofs.Lays.n169 Tryz.prog Tryz.Fy:={
 mixed:=by kernel_rfl
 f169:=Tryz.func96.t (bV some aas)
 t0:=kE
 a0:=oH
 z0:=nD
 v0:=kU
 t3:=gy
 a3:=nu
 z3:=mh
 v3:=jk
 t9:=ig
 a9:=oJ
 z9:=nH
 v9:=kV
 t37:=qp
 a37:=Tryz.isAgg135
 z37:=Tryz.sizeOf135
 v37:=wQ
 t70:=nI
 a70:=Tryz.isAgg134
 z70:=Tryz.sizeOf134
 v70:=Tryz.zeroValue134
 t72:=Tryz.underlying137
 a72:=Tryz.isAgg137
 z72:=Tryz.sizeOf137
 v72:=Tryz.zeroValue137
 t127:=Tryz.underlying183
 a127:=Tryz.isAgg183
 z127:=Tryz.sizeOf183
 v127:=Tryz.zeroValue183 }
theorem Tryz.C8:Builder.Extra Tryz.prog Tryz.Fy:={
 sizeBuilder:=by kernel_rfl
 liesBuilder:=by kernel_rfl
 t5:=o7
 a5:=wP
 z5:=uU
 v5:=qf
 infoByte:=by kernel_rfl
 cellsByte:=by kernel_rfl
 sizeByte:=by kernel_rfl
 neB5:=by decide }
open Go.RowKit in
theorem Tryz.Builder_String_any(B b:Nat)(l:List UInt8)(w:World)(h:Lib.IsBuilder 137 5 B b (Lib.byteCells l) w)(a:B<=w.heap.size):
 Calls Tryz.prog 96 #[.pointer (some ⟨b,0,none⟩)] w λe w'=>e=.returned (.string ⟨l.toArray⟩)/\Below B w w':=Any.Builder_String_any Tryz.VW Tryz.C8 B b l w h a
def Tryz.Fx:Go.Shelf.Ren:=⟨λ|156=>174|165=>208|166=>93|169=>96|240=>136|241=>230|276=>172|277=>238|n=>n,λ|31=>53|9=>9|3=>3|4=>4|0=>0|20=>20|72=>137|76=>140|70=>134|37=>135|75=>139|127=>183|164=>214|5=>5|80=>144|n=>n,λ|n=>n⟩
theorem Tryz.Qp:Go.Proofs.Lays.n156 Tryz.prog Tryz.Fx:={
 mixed:=by kernel_rfl
 f156:=Tryz.func174.t (bV some aas)
 f165:=Tryz.func208.t (bV some aas)
 f166:=Tryz.func93.t (bV some aas)
 f169:=Tryz.func96.t (bV some aas)
 f240:=Tryz.func136.t (bV some aas)
 f241:=Tryz.func230.t (bV some aas)
 f276:=Tryz.func172.t (bV some aas)
 f277:=Tryz.func238.t (bV some aas)
 t0:=kE
 a0:=oH
 z0:=nD
 v0:=kU
 t3:=gy
 a3:=nu
 z3:=mh
 v3:=jk
 t4:=kF
 a4:=oI
 z4:=nE
 v4:=ko
 t9:=ig
 a9:=oJ
 z9:=nH
 v9:=kV
 t20:=Tryz.underlying20
 a20:=Tryz.isAgg20
 z20:=Tryz.sizeOf20
 v20:=Tryz.zeroValue20
 t31:=jX
 a31:=yz
 z31:=xx
 v31:=sN
 t37:=qp
 a37:=Tryz.isAgg135
 z37:=Tryz.sizeOf135
 v37:=wQ
 t70:=nI
 a70:=Tryz.isAgg134
 z70:=Tryz.sizeOf134
 v70:=Tryz.zeroValue134
 t72:=Tryz.underlying137
 a72:=Tryz.isAgg137
 z72:=Tryz.sizeOf137
 v72:=Tryz.zeroValue137
 t75:=Tryz.underlying139
 a75:=Tryz.isAgg139
 z75:=Tryz.sizeOf139
 v75:=Tryz.zeroValue139
 t76:=Tryz.underlying140
 a76:=Tryz.isAgg140
 z76:=Tryz.sizeOf140
 v76:=Tryz.zeroValue140
 t127:=Tryz.underlying183
 a127:=Tryz.isAgg183
 z127:=Tryz.sizeOf183
 v127:=Tryz.zeroValue183
 t164:=vS
 a164:=Tryz.isAgg214
 z164:=Tryz.sizeOf214
 v164:=Tryz.zeroValue214 }
theorem Tryz.wN:Builder.Extra Tryz.prog Tryz.Fx:={
 sizeBuilder:=by kernel_rfl
 liesBuilder:=by kernel_rfl
 t5:=o7
 a5:=wP
 z5:=uU
 v5:=qf
 infoByte:=by kernel_rfl
 cellsByte:=by kernel_rfl
 sizeByte:=by kernel_rfl
 neB5:=by decide }
open Go.RowKit in
theorem Tryz.strings_Join_none(a:Option Addr)(c:Nat)(sep:ByteArray)(w:World):
 Calls Tryz.prog 174 #[.slice a 0 c,.string sep] w λe w'=>e=.returned (.string ⟨#[]⟩)/\w'=w:=Any.strings_Join_none Tryz.Qp Tryz.wN a c sep w
open Go.RowKit in
theorem Tryz.strings_Join(bk o c:Nat)(xs:List ByteArray)(sep:ByteArray)(w:World)(a:∀(j:Nat) x,xs[j]?=some x->w.cell? ⟨bk,o+j,none⟩=some (.string x))(b:bk<w.heap.size)(d:xs.length<=140737488355328)(f:xs.length<=c)(g:(Lib.join (xs.map (·.data.toList)) sep.data.toList).length<=140737488355328):
 Calls Tryz.prog 174 #[.slice (some ⟨bk,o,none⟩) xs.length c,.string sep] w λe w'=>e=.returned (.string ⟨(Lib.join (xs.map (·.data.toList)) sep.data.toList).toArray⟩)/\Below w.heap.size w w':=Any.strings_Join Tryz.Qp Tryz.wN bk o c xs sep w a b d f g
def Tryz.MU:Go.Shelf.Ren:=⟨λ|106=>216|213=>231|265=>239|n=>n,λ|9=>9|3=>3|n=>n,λ|n=>n⟩
theorem Tryz.VV:Go.Proofs.Lays.n106 Tryz.prog Tryz.MU:={
 mixed:=by kernel_rfl
 f106:=Tryz.func216.t (bV some aas)
 f213:=Tryz.func231.t (bV some aas)
 f265:=Tryz.func239.t (bV some aas)
 t3:=gy
 a3:=nu
 z3:=mh
 v3:=jk
 t9:=ig
 a9:=oJ
 z9:=nH
 v9:=kV }
open Go.RowKit in
theorem Tryz.strings_Compare(a b:ByteArray)(w:World):
 Calls Tryz.prog 216 #[.string a,.string b] w λe w'=>e=.returned (.int .i64 (Lib.compareBytes a.data.toList b.data.toList))/\w'=w:=Any.strings_Compare Tryz.VV a b w
def Tryz.MV:Go.Shelf.Ren:=⟨λ|110=>76|109=>128|n=>n,λ|31=>53|9=>9|4=>4|3=>3|0=>0|n=>n,λ|n=>n⟩
theorem Tryz.Qo:Go.Proofs.Lays.n110 Tryz.prog Tryz.MV:={
 mixed:=by kernel_rfl
 f109:=Tryz.func128.t (bV some aas)
 f110:=Tryz.func76.t (bV some aas)
 t0:=kE
 a0:=oH
 z0:=nD
 v0:=kU
 t3:=gy
 a3:=nu
 z3:=mh
 v3:=jk
 t4:=kF
 a4:=oI
 z4:=nE
 v4:=ko
 t9:=ig
 a9:=oJ
 z9:=nH
 v9:=kV
 t31:=jX
 a31:=yz
 z31:=xx
 v31:=sN }
open Go.Lib in
theorem Tryz.slices_Contains_string(b off n c:Nat)(a:List ByteArray)(x:ByteArray)(w:World)(d:n<=a.length)(f:n<=9223372036854775807)(g:∀j,j<a.length->w.cell? ⟨b,off+j,none⟩=some (.string (a.getD j ByteArray.empty))):
 Calls Tryz.prog 76 #[.slice (some ⟨b,off,none⟩) n c,.string x] w λe w'=>e=.returned (.bool (Lib.containsS (a.take n) x))/\w'=w:=Any.slices_Contains_string Tryz.Qo b off n c a x w d f g
open Go.Lib in
theorem Tryz.slices_Contains_string_empty(a:Option Addr)(c:Nat)(x:ByteArray)(w:World):
 Calls Tryz.prog 76 #[.slice a 0 c,.string x] w λe w'=>e=.returned (.bool false)/\w'=w:=Any.slices_Contains_string_empty Tryz.Qo a c x w
def Tryz.MZ:Go.Shelf.Ren:=⟨λ|194=>126|n=>n,λ|31=>53|9=>9|3=>3|4=>4|0=>0|n=>n,λ|n=>n⟩
theorem Tryz.Qr:Go.Proofs.Lays.n194 Tryz.prog Tryz.MZ:={
 mixed:=by kernel_rfl
 f194:=Tryz.func126.t (bV some aas)
 t0:=kE
 a0:=oH
 z0:=nD
 v0:=kU
 t3:=gy
 a3:=nu
 z3:=mh
 v3:=jk
 t4:=kF
 a4:=oI
 z4:=nE
 v4:=ko
 t9:=ig
 a9:=oJ
 z9:=nH
 v9:=kV
 t31:=jX
 a31:=yz
 z31:=xx
 v31:=sN }
open Go.RowKit Go.Lib Go.Sort in
theorem Tryz.slices_Compact_string(blk off cap:Nat)(a:List (List UInt8))(w:World)(hH:Holds encStr w blk off a.toArray)(b:a.length<=9223372036854775807)(c:a.length<=cap):
 Calls Tryz.prog 126 #[.slice (some ⟨blk,off,none⟩) a.length cap] w λe w'=>e=.returned (.slice (some ⟨blk,off,none⟩) (Lib.compact a).length cap)/\∃q,w'=putRow encStr (Sort.ahead w q) blk off (Lib.compact a++List.replicate (a.length-(Lib.compact a).length) []).toArray:=Any.slices_Compact_string Tryz.Qr blk off cap a w hH b c
open Go.RowKit Go.Lib Go.Sort in
theorem Tryz.slices_Compact_string_empty(a:Option Addr)(cap:Nat)(w:World):
 Calls Tryz.prog 126 #[.slice a 0 cap] w λe w'=>e=.returned (.slice a 0 cap)/\w'=w:=Any.slices_Compact_string_empty Tryz.Qr a cap w
end Go.Proofs
