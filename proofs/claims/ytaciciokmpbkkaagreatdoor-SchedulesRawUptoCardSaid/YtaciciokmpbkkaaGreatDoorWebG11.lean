import Derived.Test.YtaciciokmpbkkaaGreatDoorWebG10
set_option maxRecDepth 100000
set_option maxHeartbeats 16000000
namespace Go.Proofs.YtaciciokmpbkkaaGreatDoor
section
open Go.RowKit
attribute [local go_sem ↓] Go.wp_at_zero Go.wp_at_succ
open T
theorem Uu(s:ByteArray):∀(L:List Bd) (i:Nat) (h:i<L.length),i<T.pos s L->T.less L[i].var s=true
 |x::r,i,h,a=>by
  simp only[T.pos]at a;split at a
  ·rename_i b;cases i with
   |zero=>exact b
   |succ i=>exact Uu s r i (by simpa using h) (by omega)
  ·omega
theorem pos_at(s:ByteArray):∀(L:List Bd) (h:T.pos s L<L.length),T.less L[T.pos s L].var s=false
 |x::r,h=>by
  by_cases a:T.less x.var s=true
  ·have e:T.pos s (x::r)=T.pos s r+1:=(by simp only[T.pos];rw[aI a]);have h':T.pos s r<r.length:=(by rw[e]at h;simpa using h);have:=pos_at s r h';simp only[e,fD];exact this
  ·have e:T.pos s (x::r)=0:=(by simp only[T.pos];rw[aG a]);simp only[e,dw];exact iX.2 a
theorem X6{s:ByteArray}{L:List Bd}(hu:La L){i:Nat}(h:i<L.length)(b:T.pos s L<=i):T.less L[i].var s=false:=by
 have a:=pos_at s L (by omega);rcases cu (T.pos s L) i with g|g
 ·rw[iX];intro e;have:=T.Cj (hu.at (by omega) h g) e;rw[a]at this;cases this
 ·obtain rfl:T.pos s L=i:=(by omega);exact a
theorem Wn{s:ByteArray}{L:List Bd}(hu:La L){i:Nat}(h:i<L.length):T.less L[i].var s=decide (i<T.pos s L):=by
 by_cases a:i<T.pos s L;·rw[Uu s L i h a,aQ a]
 ·rw[X6 hu h (by omega),dh a]
theorem PG:∀a b:List UInt8,decide (Lib.compareBytes a b<0)=Op.bytesLess a b
 |[],[]=>rfl
 |[],_::_=>rfl
 |_::_,[]=>rfl
 |a::u,b::v=>by
  have f:=PG u v;simp only[Lib.compareBytes,Op.bytesLess];by_cases c:a<b;·simp[c]
  ·by_cases d:b<a
   ·simp[c,d];intro e;subst e;exact absurd d c
   ·have e:a=b:=qc.1 (by rw[jB]at c d;omega);simp[e,f]
theorem JN(x s:ByteArray)(k:Int)(nm:ByteArray)(A:Option Addr)(n c:Nat)(w:World):
 Calls Tryz.prog 215 #[.agg #[.string x,.int .i64 k,.string nm,.slice A n c],.string s] w λe w'=>∃r:Int,e=.returned (.int .i64 r)/\decide (r<0)=T.less x s/\Below w.heap.size w w':=by
 have a:=af w (.cells #[.string x,.int .i64 k,.string nm,.slice A n c] 132);have b:=bO w (.cells #[.string x,.int .i64 k,.string nm,.slice A n c] 132);go_enter Tryz.func215,Tryz.ntmps215;go_upto_region 1 with fail;generalize w.alloc (.cells #[.string x,.int .i64 k,.string nm,.slice A n c] 132)=d at a b⊢;have g:d.cell? ⟨w.heap.size,0,none⟩=some (.string x):=(by unfold World.cell?;rw[b];rfl);have f:=aa a;clear a b;go_wp2_with fail;refine(Tryz.strings_Compare x s _).m ?_;rintro e h ⟨rfl,rfl⟩;go_wp2_with fail;go_ret;refine⟨_,rfl,?_,f.o⟩;rw[PG];unfold T.less;rw[fV,fV]
theorem We(s:ByteArray)(L:List Bd)(A:Option Addr)(cap:Nat)(w:World)(P:gu w (.slice A L.length cap) L)(hu:La L)(h0:0<L.length)(Y:L.length<=1048576):
 Calls Tryz.prog 214 #[.slice A L.length cap,.string s,.func (.func 215) #[] #[]] w λe w'=>∃q:Bool,e=.returned (.tuple #[.int .i64 (T.pos s L:Int),.bool q])/\Below w.heap.size w w':=by
 obtain⟨n,F⟩:∃n,L.length=n:=⟨_,rfl⟩;obtain⟨p,Q⟩:∃p,T.pos s L=p:=⟨_,rfl⟩;have G:=Ie s L;obtain⟨R,S,U⟩:=ZR (λi (h:i<L.length)=>Wn (s:=s) hu h) P F;rw[Q]at G R⊢;rw[F]at G Y h0⊢;clear P hu F Q;go_enter Tryz.func214,Tryz.ntmps214;go_wp2_with fail;go_loopw [9,10] (λi j wr=>∃a b:Nat,i=.int .i64 a/\j=.int .i64 b/\a<=p/\p<=b/\b<=n/\Below w.heap.size w wr) (λi j _=>(intOf j).toNat-(intOf i).toNat);case atStart=>exact⟨0,n,rfl,rfl,aL _,G,ak _,az _ _⟩
 case round=>
  obtain⟨a,b,rfl,rfl,H,I,J,d⟩:=hrel;by_cases Z:a<b
  ·obtain⟨h,hh⟩:∃h,(a+b) / 2=h:=⟨_,rfl⟩;have V:a<=h:=(by omega);have W:h<b:=(by omega);have o:h<L.length:=(by rw[U.o];omega);have X:=S.o;obtain⟨af,off,B,c,rfl,g,k,l,m,K,M⟩:=X.get o;have N:=R.o h o;obtain⟨x,z⟩:∃x,L[h]=x:=⟨_,rfl⟩;rw[z]at g k l m N;obtain⟨d0,d1,d2,d3⟩:=Z4 d g k l m;have hi:(a:Int)<(b:Int):=(by omega);have av:IntKind.i64.wrap ((a:Int)+(b:Int))=(a:Int)+(b:Int):=(by rw[mO];omega);have C:(0:Int)<=(h:Int)/\(h:Int)<(n:Int):=(by omega);obtain⟨C,ag⟩:=C;obtain⟨u,v⟩:=ZQ d (show a<=h/\h<b/\b<=n/\a<=p/\p<=b from⟨V,W,J,H,I⟩);clear X K M z o g k l m d V W J H I Z;go_wp2_with fail;rw[hh];go_wp2_with fail;refine(JN x.var s x.t.aC x.t.aJ B x.t.ay.length c _).m ?_;rintro e w2 ⟨r,rfl,f,D⟩;have E:=aa (u.o.t (D.m u.o.size));rw[N]at f;clear D d0 d1 d2 d3 N;by_cases y:h<p
   ·have ai:r<0:=ax (by rw[f];exact aQ y);have O:=aa y;clear f y;go_wp2_with fail;go_roundw;case rel=>exact⟨h+1,b,by go_num,rfl,O.o,v.o.2.2.2.2,v.o.2.2.1,E.o⟩
    case measure=>have:=v.o;simp[intOf];omega
   ·have ai:¬r<0:=λe=>(by rw[aQ e]at f;exact y (ax f.symm));have O:=aa y;clear f y;go_wp2_with fail;go_roundw;case rel=>exact⟨a,h,rfl,by congr 1;omega,v.o.2.2.2.1,by have:=O.o;omega,by have:=v.o;omega,E.o⟩
    case measure=>have:=v.o;simp[intOf];omega
  ·obtain rfl:a=p:=(by omega);obtain rfl:a=b:=(by omega);have hi:¬(a:Int)<(a:Int):=(by omega);have u:=aa d;by_cases aA:a<n
   ·have o:a<L.length:=(by rw[U.o];omega);obtain⟨af,off,B,c,rfl,g,k,l,m,K,M⟩:=S.o.get o;obtain⟨x,z⟩:∃x,L[a]=x:=⟨_,rfl⟩;rw[z]at g k l m;obtain⟨d0,d1,d2,d3⟩:=Z4 d g k l m;have C:(0:Int)<=(a:Int)/\(a:Int)<(n:Int):=(by omega);obtain⟨C,ag⟩:=C;clear K M z o g k l m d H I J;go_wp2_with fail;refine(JN x.var s x.t.aC x.t.aJ B x.t.ay.length c _).m ?_;rintro e w2 ⟨r,rfl,f,D⟩;have E:=aa (u.o.t (D.m u.o.size));clear D d0 d1 d2 d3 f;go_wp2_with fail;go_ret2;exact⟨_,rfl,E.o⟩
   ·have aB:¬(a:Int)<(n:Int):=(by omega);clear d;go_wp2_with fail;go_ret2;exact⟨.inl rfl,u.o⟩
theorem MW(s:ByteArray)(L:List Bd)(v:Value)(w:World)(a:gu w v L)(hu:La L)(b:L.length<=1048576):
 Calls Tryz.prog 214 #[v,.string s,.func (.func 215) #[] #[]] w λe w'=>∃q:Bool,e=.returned (.tuple #[.int .i64 (T.pos s L:Int),.bool q])/\Below w.heap.size w w':=by
 rcases dE L.length with h0|h0
 ·rcases a with⟨rfl,rfl⟩|⟨_,_,_,_,_,c,_⟩
  ·refine(O9 s _ w).m ?_;rintro e w' ⟨rfl,rfl⟩;exact⟨false,rfl,az _ _⟩
  ·omega
 ·obtain⟨A,cap,rfl,_,_⟩:=a.shape;exact We s L A cap w a hu h0 b
theorem OM(L:List Bd)(v:Value)(w:World)(a:gu w v L)(c:L.length<=1000000):
 Calls Tryz.prog 149 #[v] w λe w'=>∃b c2 xs,e=.returned (.slice b L.length c2)/\w'.ownsRow w.heap.size 132 4 (.slice b L.length c2) L.length xs/\BC w xs L/\Below w.heap.size w w':=by
 rcases dE L.length with h0|h0
 ·rcases a with⟨rfl,rfl⟩|⟨_,_,_,_,_,d,_⟩
  ·refine(Jp w).m ?_;rintro e w' ⟨rfl,rfl⟩;exact⟨none,0,[],rfl,gZ _ _ _ _,BC.nil _,az _ _⟩
  ·omega
 ·obtain⟨A,cap,rfl,_,_⟩:=a.shape;refine(Uc L A cap w a h0 c).m ?_;rintro e w' ⟨f,c2,xs,h⟩;exact⟨_,c2,xs,h⟩
theorem MU{base:Nat}(vs:List Value)(a:Nat)(w:World)(b:base<=w.heap.size)(c:w.heap[a]?=some (.cells vs.toArray 132 (0,0)))(d:vs.length=4)(f:∀u∈vs,u.oneCell'=true):
 Calls Tryz.prog 217 #[.slice none 0 0,.int .i64 0,.slice (some ⟨a,0,none⟩) 1 1] w λe w'=>∃A' g,e=.returned (.slice A' 1 g)/\w'.ownsRow base 132 4 (.slice A' 1 g) 1 vs/\Below base w w':=by
 obtain⟨i,j,l,m,n⟩:=dV Tryz.ES;obtain⟨HOWN,o,p,q⟩:=ZT (gZ w base 132 4) c f d;clear c f d;go_enter yx,xq;go_wp2_with (at_builtin;refine lI _ rfl _ _ 70 rfl base 132 i _ 4 64 fT j l m n rfl (by omega) _ 0 _ rfl HOWN.o ⟨a,0,none⟩ 1 1 vs rfl q.o (di o.o) p.o (by omega) (by unfold maxLen;omega) (by omega) b _ rfl ?_;intro g4 cap4 w4 h r t v);go_ret;rw[gH]at h;exact⟨_,_,rfl,h,(az _ _).grown r b (λk s=>by cases s)⟩
theorem MR{base:Nat}(n cap i:Nat)(A:Option Addr)(xs vs:List Value)(a:Nat)(w:World)(o:n<=1000000)(hi:i<=n)(b:w.ownsRow base 132 4 (.slice A n cap) n xs)(d:base<=w.heap.size)
 (f:w.heap[a]?=some (.cells vs.toArray 132 (0,0))) (h:vs.length=4) (p:(Value.slice A n cap).ownBlock≠some a) (q:∀u∈xs,u.oneCell'=true) (j:∀u∈vs,u.oneCell'=true):
 Calls Tryz.prog 217 #[.slice A n cap,.int .i64 i,.slice (some ⟨a,0,none⟩) 1 1] w λe w'=>∃A' k,e=.returned (.slice A' (n+1) k)/\w'.ownsRow base 132 4 (.slice A' (n+1) k) (n+1) (xs.take (i*4)++vs++xs.drop (i*4))/\Below base w w':=by
 rcases b.2 with⟨e,h0⟩|⟨g,s,t,e,_⟩
 ·injection e with c l m;subst c;subst l;subst m;obtain rfl:i=0:=(by omega);have r:xs=[]:=dQ.1 (by have:=b.1;omega);subst r;have:=MU (base:=base) vs a w d f h j;simpa using this
 ·injection e with c l m;subst c;exact V3 n cap i g xs vs a w o hi b d f h (λe=>p (by rw[e];rfl)) q j
theorem Xh(s:ByteArray)(L:List Bd)(t:T)(bv v:Value)(w:World)(hb:gu w bv L)(hu:La L)(k:L.length<=1000000)(X:s.size<=maxLen)(G:aO w v t):
 Calls Tryz.prog 187 #[bv,.string s,v] w λe w'=>∃u,e=.returned u/\gu w' u (ins L s t)/\Below w.heap.size w w':=by
 obtain⟨A,cap,rfl⟩:=bN.view G.uf;have H:=jM.new w (.int .i64 t.aC) (.string t.aJ) (.slice A t.ay.length cap);have I:=af w (.cells #[.int .i64 t.aC,.string t.aJ,.slice A t.ay.length cap] 29);obtain⟨HT,Y,HU,HS⟩:=ZT G hb hu X;obtain⟨p,C⟩:∃p,T.pos s L=p:=⟨_,rfl⟩;have ak:=Ie s L;have Z:=aa (λW J=>MW s L bv W J hu (by omega));have l:=aa (λW J=>OM L bv W J k);have m:=aa (λ(d:Option Addr) (c2:Nat) (xs:List Value) (D:Nat) (o W:World) (c:W.ownsRow o.heap.size 132 4 (.slice d L.length c2) L.length xs) (hv:W.heap[D]?=some (.cells [Value.string s,.int .i64 t.aC,.string t.aJ,.slice A t.ay.length cap].toArray 132 (0,0))) (av:(Value.slice d L.length c2).ownBlock≠some D) (f:BC o xs L) (ae:Below o.heap.size o W) (M:Below w.heap.size w o)=>
  show Calls Tryz.prog 217 #[.slice d L.length c2,.int .i64 (p:Int),.slice (some ⟨D,0,none⟩) 1 1] W λe w'=>∃u,e=.returned u/\gu w' u (ins L s t)/\Below w.heap.size w w' from by
   have ai:=(BC.one (s:=s) (HT.o.ag M) HS.o);refine(MR L.length c2 p d xs _ D W k (by rw[<-C];exact Ie s L) c ae.size hv rfl av f.one' ai.one').m ?_;rintro e w' ⟨A',c',rfl,ax,az⟩;have r:Below o.heap.size o w':=ae.t az;refine⟨_,rfl,gu.uD ax (Kr L s t).symm ?_ (by omega),M.t (r.m M.size)⟩;have h1:=(((f.take p).append ai).append (f.drop p)).ag r;unfold ins;rw[C];simpa[List.append_assoc]using h1)
 rw[C]at Z;clear ak hu hb G X C k;go_enter Tryz.func187,Tryz.ntmps187;go_upto_region 1 with fail;generalize w.alloc (.cells #[.int .i64 t.aC,.string t.aJ,.slice A t.ay.length cap] 29)=w1 at H I⊢;obtain⟨N,BX⟩:=ZQ I H;clear H I;go_wp2_with fail;refine(Z.o _ (Y.o.ag N.o)).m ?_;rintro e x ⟨q,rfl,r⟩;have E:=aa (N.o.t (r.m N.o.size));obtain⟨x0,x1,x2⟩:=(BX.o.ag r).cells;have O:=aa (BX.o.ag r.drew);have P:=(Y.o.ag E.o.drew);have F:=af x.drew (.cells #[.string s,.int .i64 t.aC,.string t.aJ,.slice A t.ay.length cap] 132);obtain⟨Q,R,S,aA,U,V⟩:=ZV P (P.ag F) (bO x.drew (.cells #[.string s,.int .i64 t.aC,.string t.aJ,.slice A t.ay.length cap] 132)) F E.o.drew (E.o.drew.t (F.m E.o.drew.size));obtain⟨n,k⟩:∃n,L.length=n:=⟨_,rfl⟩;rw[k]at l m;have aB:=aa k;clear r P F k;go_upto_region 2 with fail;refine pV (by kernel_rfl) ?_;(try(change wpAny _ _ _ _ _ _ _ (World.drew _)));(refine eH (i:=0) (v:=?_) (by simp only[au,ah];rfl) (by kernel_rfl) (by kernel_rfl) (by kernel_rfl) (by exact λ_ _ _ h=>h) (Or.inl ⟨by rfl,?_⟩) ?_;rotate_left 1;· (intro w;go_simp;(try with_reducible rfl)));(refine eH (i:=2) (v:=?_) (by simp only[au,aj,ah];rfl) (by kernel_rfl) (by kernel_rfl) (by kernel_rfl) (by exact λ_ _ _ h=>h) (Or.inl ⟨by rfl,?_⟩) ?_;rotate_left 1;· (intro w;go_simp;(try with_reducible rfl)));(refine eH (i:=3) (v:=?_) (by simp only[au,aj,ah];rfl) (by kernel_rfl) (by kernel_rfl) (by kernel_rfl) (by exact λ_ _ _ h=>h) (Or.inl ⟨by rfl,?_⟩) ?_;rotate_left 1;· (intro w;go_simp;(try with_reducible rfl)));refine cO (rs:=[1,4]) (by kernel_rfl) (by simp) ?_;refine bF (by simp only[au,aj,ah];rfl) (λK a=>?_) ?_
 ·(go_simp;go_at_call 149;first|(refine(l.o _ Q.o).m ?_;rintro e w3 ⟨d,c2,xs,rfl,c,f,b⟩;obtain⟨z0,z1,z2⟩:=(O.o.ag b).cells)|(refine(l.o _ R.o).m ?_;rintro e w3 ⟨d,c2,xs,rfl,c,f,b⟩));(first|(refine a _ _ ?_;clear a K)|skip);refine cO (rs:=[4]) (by kernel_rfl) (by simp) ?_;refine bF (by simp only[au,aj,ah];rfl) (λK a=>?_) ?_
  ·go_simp;(first|(refine a _ _ ?_;clear a K)|skip);(refine eH (i:=5) (v:=?_) (by simp only[au,aj,ah];rfl) (by kernel_rfl) (by kernel_rfl) (by kernel_rfl) (by exact λ_ _ _ h=>h) (Or.inl ⟨by rfl,?_⟩) ?_;rotate_left 1;· (intro w;go_simp;(try with_reducible rfl)));refine cO (rs:=[6]) (by kernel_rfl) (by simp) ?_;refine bF (by simp only[au,aj,ah];rfl) (λK a=>?_) ?_
   ·go_simp;(first|(refine a _ _ ?_;clear a K)|skip);refine cO (rs:=[7]) (by kernel_rfl) (by simp) ?_;refine bF (by simp only[au,aj,ah];rfl) (λK a=>?_) ?_
    ·(go_simp;go_at_call 217;first|(refine(m.o d c2 xs _ x.drew _ (c.alloc _) (bO w3 _) (λe=>by have:=(c.lt _ e).2;omega) f (b.t ((af w3 _).m b.size)) U.o).m ?_;rintro e w9 ⟨y,rfl,g,j⟩)|(refine(m.o d c2 xs _ _ _ c ((b.block _ (by rw[aK];exact dI _)).t S.o) (λe=>by have:=(c.lt _ e).1;rw[aK]at this;exact absurd this (tY _)) f b V.o).m ?_;rintro e w9 ⟨y,rfl,g,j⟩));(first|(refine a _ _ ?_;clear a K)|skip);(refine eH (i:=8) (v:=?_) (by simp only[au,aj,ah];rfl) (by kernel_rfl) (by kernel_rfl) (by kernel_rfl) (by exact λ_ _ _ h=>h) (Or.inl ⟨by rfl,?_⟩) ?_;rotate_left 1;· (intro w;go_simp;(try with_reducible rfl)));refine lg (by kernel_rfl) ?_ _;obtain⟨z,B⟩:=ZQ g j;clear g j;go_wp2_with fail;go_ret;exact⟨_,rfl,z.o,B.o⟩
    exact bV
   exact bV
  exact bV
 refine bF (by simp only[au,aj,ah];rfl) (λK a=>?_) ?_
 ·go_simp;(first|(refine a _ _ ?_;clear a K)|skip);(refine eH (i:=5) (v:=?_) (by simp only[au,aj,ah];rfl) (by kernel_rfl) (by kernel_rfl) (by kernel_rfl) (by exact λ_ _ _ h=>h) (Or.inl ⟨by rfl,?_⟩) ?_;rotate_left 1;· (intro w;go_simp;(try with_reducible rfl)));refine cO (rs:=[1,6]) (by kernel_rfl) (by simp) ?_;refine bF (by simp only[au,aj,ah];rfl) (λK a=>?_) ?_
  ·(go_simp;go_at_call 149;first|(refine(l.o _ Q.o).m ?_;rintro e w3 ⟨d,c2,xs,rfl,c,f,b⟩;obtain⟨z0,z1,z2⟩:=(O.o.ag b).cells)|(refine(l.o _ R.o).m ?_;rintro e w3 ⟨d,c2,xs,rfl,c,f,b⟩));(first|(refine a _ _ ?_;clear a K)|skip);refine cO (rs:=[6]) (by kernel_rfl) (by simp) ?_;refine bF (by simp only[au,aj,ah];rfl) (λK a=>?_) ?_
   ·go_simp;(first|(refine a _ _ ?_;clear a K)|skip);refine cO (rs:=[7]) (by kernel_rfl) (by simp) ?_;refine bF (by simp only[au,aj,ah];rfl) (λK a=>?_) ?_
    ·(go_simp;go_at_call 217;first|(refine(m.o d c2 xs _ x.drew _ (c.alloc _) (bO w3 _) (λe=>by have:=(c.lt _ e).2;omega) f (b.t ((af w3 _).m b.size)) U.o).m ?_;rintro e w9 ⟨y,rfl,g,j⟩)|(refine(m.o d c2 xs _ _ _ c ((b.block _ (by rw[aK];exact dI _)).t S.o) (λe=>by have:=(c.lt _ e).1;rw[aK]at this;exact absurd this (tY _)) f b V.o).m ?_;rintro e w9 ⟨y,rfl,g,j⟩));(first|(refine a _ _ ?_;clear a K)|skip);(refine eH (i:=8) (v:=?_) (by simp only[au,aj,ah];rfl) (by kernel_rfl) (by kernel_rfl) (by kernel_rfl) (by exact λ_ _ _ h=>h) (Or.inl ⟨by rfl,?_⟩) ?_;rotate_left 1;· (intro w;go_simp;(try with_reducible rfl)));refine lg (by kernel_rfl) ?_ _;obtain⟨z,B⟩:=ZQ g j;clear g j;go_wp2_with fail;go_ret;exact⟨_,rfl,z.o,B.o⟩
    exact bV
   exact bV
  refine bF (by simp only[au,aj,ah];rfl) (λK a=>?_) ?_
  ·go_simp;(first|(refine a _ _ ?_;clear a K)|skip);refine cO (rs:=[1]) (by kernel_rfl) (by simp) ?_;refine bF (by simp only[au,aj,ah];rfl) (λK a=>?_) ?_
   ·(go_simp;go_at_call 149;first|(refine(l.o _ Q.o).m ?_;rintro e w3 ⟨d,c2,xs,rfl,c,f,b⟩;obtain⟨z0,z1,z2⟩:=(O.o.ag b).cells)|(refine(l.o _ R.o).m ?_;rintro e w3 ⟨d,c2,xs,rfl,c,f,b⟩));(first|(refine a _ _ ?_;clear a K)|skip);refine cO (rs:=[7]) (by kernel_rfl) (by simp) ?_;refine bF (by simp only[au,aj,ah];rfl) (λK a=>?_) ?_
    ·(go_simp;go_at_call 217;first|(refine(m.o d c2 xs _ x.drew _ (c.alloc _) (bO w3 _) (λe=>by have:=(c.lt _ e).2;omega) f (b.t ((af w3 _).m b.size)) U.o).m ?_;rintro e w9 ⟨y,rfl,g,j⟩)|(refine(m.o d c2 xs _ _ _ c ((b.block _ (by rw[aK];exact dI _)).t S.o) (λe=>by have:=(c.lt _ e).1;rw[aK]at this;exact absurd this (tY _)) f b V.o).m ?_;rintro e w9 ⟨y,rfl,g,j⟩));(first|(refine a _ _ ?_;clear a K)|skip);(refine eH (i:=8) (v:=?_) (by simp only[au,aj,ah];rfl) (by kernel_rfl) (by kernel_rfl) (by kernel_rfl) (by exact λ_ _ _ h=>h) (Or.inl ⟨by rfl,?_⟩) ?_;rotate_left 1;· (intro w;go_simp;(try with_reducible rfl)));refine lg (by kernel_rfl) ?_ _;obtain⟨z,B⟩:=ZQ g j;clear g j;go_wp2_with fail;go_ret;exact⟨_,rfl,z.o,B.o⟩
    exact bV
   exact bV
  exact bV
 exact bV
end
section
open Go.RowKit
theorem pg{w w':World}{base:Nat}{e:TypeId}{size n:Nat}{v:Value}{xs:List Value}(h:w.ownsRow base e size v n xs)(d:∀b,v.ownBlock=some b->b<w.heap.size->w'.heap[b]?=w.heap[b]?):w'.ownsRow base e size v n xs:=by
 refine⟨h.1,?_⟩;rcases h.2 with h0|⟨g,cap,f,a,hb,c,rest⟩;·exact .inl h0
 ·exact .inr ⟨g,cap,f,a,hb,(d g (by rw[a];rfl) (aZ.1 c).1).t c,rest⟩
theorem sV{w w':World}{b k:Nat}(h:w'.heap[b]?=w.heap[b]?):w'.frozen? ⟨b,k,none⟩=w.frozen? ⟨b,k,none⟩:=by
 unfold World.frozen?;rw[h]
theorem MQ(b n cap i j:Nat)(cs:List Value)(w:World)(s:cs.length=n*3)(z:j=i+1)(hi:i<n)(B:n<=cap)
 (f:∀j u,cs[j]?=some u->w.cell? ⟨b,j,none⟩=some u) (o:∀j,j<n*3->w.frozen? ⟨b,j,none⟩=false) (v:∀u∈cs,u.oneCell'=true):
 Calls Tryz.prog 220 #[.slice (some ⟨b,0,none⟩) n cap,.int .i64 i,.int .i64 j] w λe w'=>e=.returned (.slice (some ⟨b,0,none⟩) (n-1) cap)/\(∀k u,(cs.take (i*3)++cs.drop (j*3))[k]?=some u->w'.cell? ⟨b,k,none⟩=some u)/\(∀k,w'.frozen? ⟨b,k,none⟩=w.frozen? ⟨b,k,none⟩)/\Below b w w':=by
 obtain⟨C,D,N,E,O⟩:=dV Tryz.uI;have P:i<j:=(by omega);have Q:j<=n:=(by omega);have x:i+(n-j)=n-1:=(by omega);have F:=aa x;clear x;obtain⟨news,d⟩:∃news,news=cs.drop (j*3):=⟨_,rfl⟩;have g:news.length=(n-j)*3:=(by rw[d,dO,s];omega);obtain⟨A,hA,G⟩:∃A:Addr,(if cap=j then some (⟨b,0,none⟩:Addr) else some ⟨b,j*3,none⟩)=some A/\Hid (∀t u,news[t]?=some u->w.drew.cell? (A.add t)=some u):=by
  by_cases h:cap=j
  ·refine⟨⟨b,0,none⟩,by simp[h],λt u hu=>?_⟩;have h0:news.length=0:=(by rw[g];omega);rw[dQ.1 h0]at hu;simp at hu
  ·refine⟨⟨b,j*3,none⟩,by simp[h],λt u hu=>?_⟩;rw[d,ib]at hu;rw[bS];exact f _ u hu
 have H:=aa (show ∀u∈news,u.oneCell'=true from λu hu=>v u (by rw[d]at hu;exact gU hu));have p:∀k,k<n*3->(w.cell? ⟨b,k,none⟩).isSome=true:=λk m=>by
  have:=aH (l:=cs) (i:=k) (by omega);rw[f k _ this];rfl
 have y:=aa (show ∀t,t<news.length->(w.drew.cell? ⟨b,0+i*3+t,none⟩).isSome=true/\w.drew.frozen? ⟨b,0+i*3+t,none⟩=false from λt q=>by
  rw[g]at q;exact⟨p _ (by omega),o _ (by omega)⟩)
 obtain⟨a,c⟩:∃a,a=w.drew.setCells b (0+i*3) news:=⟨_,rfl⟩;have I:=aa c;have R:∀ty,(Builtin.clear_ #[23] ty #[.slice (some ⟨b,(i+(n-j))*3,none⟩) (n-(i+(n-j))) (cap-(i+(n-j)))]).run Tryz.prog a=.ok (.tuple #[]) (a.setCells b ((n-1)*3) [.int .i64 0,.string ByteArray.empty,.slice none 0 0]):=λty=>by
  rw[show n-(i+(n-j))=1 by omega,show i+(n-j)=n-1 by omega];exact zi a _ _ ty (.agg #[.int .i64 0,.string ByteArray.empty,.slice none 0 0]) _ _ _ bM xQ (by simp[Value.cells]) (by intro u hu;simp at hu;rcases hu with rfl|rfl|rfl<;>rfl) b ((n-1)*3) _
   (λk m=>by rw[c];exact World.isSome_setCells b news _ _ _ (p _ (by omega))) (λk m=>by rw[c,nK];exact o _ (by omega))
 have r:=aa (show(∀k u,(cs.take (i*3)++cs.drop (j*3))[k]?=some u->(a.setCells b ((n-1)*3) [.int .i64 0,.string ByteArray.empty,.slice none 0 0]).cell? ⟨b,k,none⟩=some u)/\(∀k,(a.setCells b ((n-1)*3) [.int .i64 0,.string ByteArray.empty,.slice none 0 0]).frozen? ⟨b,k,none⟩=w.frozen? ⟨b,k,none⟩)/\Below b w (a.setCells b ((n-1)*3) [.int .i64 0,.string ByteArray.empty,.slice none 0 0]) by
  refine⟨λk u hu=>?_,λk=>by rw[nK,c,nK];rfl,mW b _ _ (by rw[c];exact mW b _ _ (az _ _).drew)⟩;have m:k<(n-1)*3:=by
   have:=(bg.1 hu).1;rw[aF,aW,dO]at this;omega
  rw[mE b _ _ _ _ (λ_ _=>.inl m),c];by_cases J:k<i*3
  ·rw[mE b _ _ _ _ (λ_ _=>.inl (by simp;omega))];rw[bP (by rw[aW];omega),xg J]at hu;exact f k u hu
  ·rw[bD (by rw[aW];omega),aW,<-d]at hu;have K:=iP (show i*3<=cs.length by omega);rw[K]at hu;obtain⟨L,M⟩:=bg.1 hu;have:=xR b news (0+i*3) w.drew (λt q=>(y.o t q).1) (k-i*3) L;rw[show 0+i*3+(k-i*3)=k by omega]at this;rw[this,M])
 clear f o v s p d c z;have S:i<=cap:=(by omega);have T:j<=cap:=(by omega);go_enter Tryz.func220,Tryz.ntmps220;go_wp2_with fail;go_region_law (refine step_append_room rfl (.tmp 22) (.tmp 25) 23 rfl 29 C 3 bM D E b 0 i cap (by simp[Act.eval,Act.put]) A (n-j) (cap-j) news (by simp[Act.eval,Act.put];done) g G.o H.o (by omega) y.o ?_;rw[<-I.o]);clear hA g;have U:i+(n-j)<=n:=(by omega);have V:n<=cap:=B;go_wp2_with fail;go_ret;exact⟨by rw[F.o];rfl,r.o.1,r.o.2.1,r.o.2.2⟩
end
section
open Go.RowKit T
attribute [local go_sem ↓] Go.wp_at_zero Go.wp_at_succ
theorem aO.Ku{w:World}{v:Value}{t:T}(h:aO w v t):∃A cap,v=.agg #[.int .i64 t.aC,.string t.aJ,.slice A t.ay.length cap]/\gM w A cap t.ay/\(0<t.ay.length->∃b off,A=some ⟨b,off,none⟩):=by
 cases h with
 |mk k s A cap a U f g c d hA hU=>
  refine⟨A,cap,rfl,.mk 0 ⟨#[]⟩ A cap a U (by decide) (by decide) c d hA hU,λh0=>?_⟩;rcases hA with h|⟨b,off,e,_⟩;·simp only[ay]at h0;omega
  ·exact⟨b,off,e⟩
theorem aO.Kz{w:World}{v:Value}{t:T}(h:aO w v t):t.aJ.size<=maxLen:=by
 cases h with
 |mk k s A cap b U c a d e hA hU=>exact a
def JY(w:World)(g:Nat)(t:T):Prop:=∃A c,jM w g (.int .i64 t.aC) (.string t.aJ) (.slice A t.ay.length c)/\aO w (.agg #[.int .i64 t.aC,.string t.aJ,.slice A t.ay.length c]) t
theorem JY.ag{w w':World}{g:Nat}{t:T}(h:JY w g t)(hb:Below w.heap.size w w'):JY w' g t:=by
 obtain⟨A,c,a,b⟩:=h;exact⟨A,c,a.ag hb,b.ag hb⟩
theorem OO(x v:T)(k:Value)(g:Nat)(w:World)(f:aO w k x)(t:JY w g v)(l:x.bC<=1048576)(a:v.bC<=1048576):
 Calls Tryz.prog 219 #[k,.pointer (some ⟨g,0,none⟩)] w λe w'=>e=.returned (.bool (decide (x.cmp v=0)))/\Below w.heap.size w w':=by
 have m:=aa (λu y W z C=>Ru (x.bC+1) x v u y W (by omega) z C l a);obtain⟨q,n⟩:∃q,x.cmp v=q:=⟨_,rfl⟩;rw[n]at m⊢;clear n l a;obtain⟨A,c,rfl⟩:=bN.view f.uf;obtain⟨B,d,o,p⟩:=t;have b:=af w (.cells #[.int .i64 x.aC,.string x.aJ,.slice A x.ay.length c] 29);have h:=jM.new w (.int .i64 x.aC) (.string x.aJ) (.slice A x.ay.length c);obtain⟨r,s⟩:=ZQ (f.ag b) (p.ag b);have i:=o.ag b;have j:=aa b;clear f p o b;go_enter Tryz.func219,Tryz.ntmps219;go_upto_region 1 with fail;generalize w.alloc (.cells #[.int .i64 x.aC,.string x.aJ,.slice A x.ay.length c] 29)=E at h r s i j⊢;obtain⟨x0,F,G⟩:=h.cells;obtain⟨H,I,J⟩:=i.cells;clear h i;go_wp2_with fail;refine(m.o _ _ _ r.o s.o).m ?_;rintro e K ⟨rfl,a⟩;have D:=aa (j.o.t (a.m j.o.size));clear a;go_wp2_with fail;go_ret;exact⟨rfl,D.o⟩
theorem L8(v:T)(g:Nat)(A:Option Addr)(cap:Nat)(a:List T)(w:World)(s:gM w A cap a)(R:a.length<=1048576)(k:JY w g v)(t:∀x∈a,x.bC<=1048576)(u:v.bC<=1048576):
 Calls Tryz.prog 109 #[.slice A a.length cap,.func (.func 219) #[] #[.pointer (some ⟨g,0,none⟩)]] w λe w'=>e=.returned (.int .i64 (gq v a))/\Below w.heap.size w w':=by
 obtain⟨D,E,F⟩:=ZR s k ((λj (h:j<a.length) (y:Value) (W:World) (G:aO W y a[j]) (k:JY W g v)=>OO a[j] v y g W G k (t _ (aN h)) u));unfold gq;obtain⟨p,d⟩:∃p:T->Bool,(λx=>decide (cmp x v=0))=p:=⟨_,rfl⟩;have H:=aa (show ∀x,decide (cmp x v=0)=p x from λx=>congrFun d x);rw[d];clear s k t u d;go_enter yw,xn;go_wp2_with fail;go_loopw [8] (λi wr=>∃j:Nat,j<=a.length/\i=.int .i64 j/\(∀m (h:m<j) (S:m<a.length),p a[m]=false)/\Below w.heap.size w wr) (λi _=>a.length-(intOf i).toNat);case atStart=>exact⟨0,aL _,rfl,λm h=>absurd h (by omega),az _ _⟩
 case round=>
  obtain⟨j,hj,rfl,z,c⟩:=hrel;have n:=aa z;clear z;by_cases f:j<a.length
  ·obtain⟨b,off,U,V,rfl,d0,d1,d2,hu⟩:=D.o.get f;obtain⟨I,J,K⟩:=Z0 c d0 d1 d2;have hi:(j:Int)<(a.length:Int):=(by omega);clear d0 d1 d2;obtain⟨L,M,B⟩:=ZR (hu.ag c) (E.o.ag c) f;have o:=F.o j f;have d:=H.o (a[j]'f);obtain⟨q,r⟩:∃q,p (a[j]'f)=q:=⟨_,rfl⟩;rw[d,r]at o;have N:=aa o;clear o hu d;have C:=aa r;clear r;go_wp2_with fail;refine(N.o _ _ L.o M.o).m ?_;rintro e X ⟨rfl,l⟩;replace l:=c.t (l.m c.size);clear I J K;cases q
   ·go_wp2_with fail;go_roundw
    case rel=>
     refine⟨j+1,B.o,by go_num,λm h O=>?_,l⟩;rcases cu m j with g|g;·exact n.o m g O
     ·obtain rfl:m=j:=(by omega);exact C.o
    case measure=>have:=B.o;simp[intOf];omega
   ·have P:=aa (T.GZ p a j f (λm g=>n.o m g (by omega)) C.o);go_wp2_with fail;go_ret;exact⟨fG P.o.symm,l⟩
  ·have hi:(a.length:Int)<=(j:Int):=(by omega);have Q:=aa (T.G6 p a (λm g=>n.o m (by omega) g));go_wp2_with fail;go_ret;exact⟨fG Q.o.symm,c⟩
theorem Df(v:T)(g n:Nat)(A:Option Addr)(cap:Nat)(a:List T)(w:World)(b:n=a.length)(c:gM w A cap a)(d:n<=1048576)(f:JY w g v)(h:∀x∈a,x.bC<=1048576)(i:v.bC<=1048576):
 Calls Tryz.prog 109 #[.slice A n cap,.func (.func 219) #[] #[.pointer (some ⟨g,0,none⟩)]] w λe w'=>e=.returned (.int .i64 (gq v a))/\Below w.heap.size w w':=by
 subst b;exact L8 v g A cap a w c d f h i
def Ps(r:Option (List Bd))(w:World)(e:Ending)(w':World):Prop:=Below w.heap.size w w'/\match r with
 |none=>∃v,e=.returned (.tuple #[v,.bool false])
 |some x=>∃v,e=.returned (.tuple #[v,.bool true])/\gu w' v x
structure FH (w:World) (g2:Nat) (L:List Bd) (ts ps:List T) (R:Option (List T×ByteArray×Nat)) (n2 c2:Nat) (free:ByteArray) (opn:Nat) (wr:World) (left:List T) (xs:List Value):Prop where
 len:n2=left.length
 ct:CT (λb=>decide (b<g2)) wr xs left
 cells:∀k u,xs[k]?=some u->wr.cell? ⟨g2,k,none⟩=some u
 XH:∀k,wr.frozen? ⟨g2,k,none⟩=false
 cap:n2<=c2/\c2<=maxLen
 run:qE L ps left free opn=R
 sub:∀x∈left,x∈ts
 opn:0<opn->T.look L free=none
 YJ:free.size<=maxLen
 below:Below w.heap.size w wr
 lt:w.heap.size+2<=g2/\g2<wr.heap.size
theorem FH.ag{w:World}{a:Nat}{L:List Bd}{c ps:List T}{R:Option (List T×ByteArray×Nat)}{n2 c2:Nat}{free:ByteArray}{opn:Nat}{wr w':World}{left:List T}{xs:List Value}(h:FH w a L c ps R n2 c2 free opn wr left xs)(hb:Below wr.heap.size wr w'):FH w a L c ps R n2 c2 free opn w' left xs:=
 ⟨h.len,h.ct.aR λb hS d=>⟨hS,hb.block b d⟩,λk u hu=>ae hb (h.cells k u hu),λk=>(sV (hb.block a h.lt.2)).t (h.XH k),h.cap,h.run,h.sub,h.opn,h.YJ,h.below.t (hb.m h.below.size),h.lt.1,dF h.lt.2 hb.size⟩
theorem FH.set{w:World}{a:Nat}{L:List Bd}{d ps:List T}{R:Option (List T×ByteArray×Nat)}{n2 c2:Nat}{free:ByteArray}{opn:Nat}{wr:World}{left:List T}{xs:List Value}(h:FH w a L d ps R n2 c2 free opn wr left xs){g:Nat}(f:a<g)(i:Nat)(u:Value):FH w a L d ps R n2 c2 free opn (wr.setCell ⟨g,i,none⟩ u) left xs:=by
 have e:=h.lt;have c:∀b,b<=a->(wr.setCell ⟨g,i,none⟩ u).heap[b]?=wr.heap[b]?:=λb hb=>aM _ _ _ _ (by show b≠g;omega);exact⟨h.len,h.ct.aR λb hS _=>⟨hS,c b (jo (ax hS))⟩,λk u hu=>(dD (c a (ak _))).t (h.cells k u hu),λk=>(sV (c a (ak _))).t (h.XH k),h.cap,h.run,h.sub,h.opn,h.YJ,h.below.setCell (show w.heap.size<=g by omega) _,e.1,by have:=e.2;simpa[World.setCell]using this⟩
theorem FH.bH{w:World}{a:Nat}{L:List Bd}{c ps:List T}{R:Option (List T×ByteArray×Nat)}{n2 c2:Nat}{free:ByteArray}{opn:Nat}{wr:World}{left:List T}{xs:List Value}(h:FH w a L c ps R n2 c2 free opn wr left xs):gM wr (some ⟨a,0,none⟩) c2 left:=by
 have e:=h.len;have d:=h.cap;have:=CT.term (b:=a) (cap:=c2) (h.ct.aR (S':=λ_=>true) λb _ _=>⟨rfl,rfl⟩) h.cells rfl 0 ⟨#[]⟩ (by decide) (by decide) (by omega) d.2;exact this.at
theorem V7(p t:T)(L:List Bd)(pv tv bv:Value)(w:World)(hp:aO w pv p)(ht:aO w tv t)(hb:gu w bv L)(hB:Qt 1048576 L)(hL:L.length<=1000000)(bn:p.bC<=1048576)(bq:t.bC<=1048576)(h0:0<t.ay.length):
 Calls Tryz.prog 188 #[pv,tv,bv] w (Ps (pow p.ay t.ay L) w):=by
 obtain⟨A,c,rfl,aA,_⟩:=hp.Ku;obtain⟨B,d,rfl,_,bX⟩:=ht.Ku;obtain⟨Y,Z,ai,aD⟩:=rz w (.int .i64 p.aC) (.string p.aJ) (.slice A p.ay.length c) (.int .i64 t.aC) (.string t.aJ) (.slice B t.ay.length d);obtain⟨HT,bu,bY,bZ,dK,HP⟩:=ZV (ht.ag ai) hb hB (AZ bn) (AZ bq) aA;have bz:t.ay.length<=1048576:=by
  cases t with
  |mk k s ks=>have:=T.kN ks;simp only[bC]at bq;simp only[ay];omega
 have bA:p.ay.length<=1048576:=by
  cases p with
  |mk k s ks=>have:=T.kN ks;simp only[bC]at bn;simp only[ay];omega
 obtain⟨R,hR⟩:∃R,qE L p.ay t.ay ⟨#[]⟩ 0=R:=⟨_,rfl⟩;have HR:=aa hR;unfold pow;rw[hR];obtain⟨F,cu⟩:∃F,p.ay=F:=⟨_,rfl⟩;obtain⟨H,cz⟩:∃H,t.ay=H:=⟨_,rfl⟩;have cB:=aa cz;obtain⟨nb,bB⟩:∃nb,F.length=nb:=⟨_,rfl⟩;rw[cu]at Y Z ai HT bZ HP bA HR aD⊢;rw[bB]at Y Z ai HT bA aD⊢;have cK:=aa bB;obtain⟨tb,ta,rfl⟩:=bX h0;clear hp ht hb hB bn bq hR cu cz bB aA bX;go_enter Tryz.func188,Tryz.ntmps188;go_upto_region 1 with fail;generalize(w.alloc (.cells #[.int .i64 p.aC,.string p.aJ,.slice A nb c] 29)).alloc (.cells #[.int .i64 t.aC,.string t.aJ,.slice (some ⟨tb,ta,none⟩) t.ay.length d] 29)=w1 at Y Z ai aD HT⊢;obtain⟨x0,x1,x2⟩:=Y.cells;obtain⟨y0,y1,y2⟩:=Z.cells;obtain⟨BX,BY,cO,dL⟩:=ZT Y Z ai aD;clear Y Z ai aD;go_wp2_with fail;refine(Ub _ HT.o.uf rfl h0 bz).m ?_;rintro e w2 ⟨q,c2,xs,rfl,bD,cZ,aV⟩;obtain⟨_,ek,df,dh,eu,bE,_,_⟩:=Dw bD;have di:FH w q L H F R t.ay.length c2 ⟨#[]⟩ 0 w2 H xs:=by
  have e:=cB.o;refine⟨by rw[e],?_,λk u hu=>?_,λk=>?_,⟨df,dh⟩,by rw[<-e];exact HR.o,λx hx=>hx,λh=>by omega,by decide,cO.o.t (aV.m cO.o.size),⟨by have:=dL.o;omega,(aZ.1 bE).1⟩⟩
  ·rw[<-e];exact cZ.aR λb hb r=>⟨aQ (by have:=ax hb;omega),aV.block b r⟩
  ·have:=bD.cells (g:=q) rfl k u hu;rw[bS]at this;simpa using this
  ·unfold World.frozen?;rw[bE];simp
 obtain⟨av,dM⟩:=ZQ di (BX.o.ag aV);have dm:=aa (show ∀x∈H,x.bC<=1048576 by rw[<-cB.o];exact dK.o);obtain⟨x0,x1,x2⟩:=dM.o.cells;obtain⟨n0,dw⟩:∃n0,t.ay.length=n0:=⟨_,rfl⟩;rw[dw]at av bz⊢;clear y0 y1 y2 bD cZ aV bE di dw h0 df dh;go_wp2_with fail;have eD:nb<=1048576:=bA;clear x0 x1 x2;go_loopw [22,8,9,10] (λiv lv fv ov wr=>∃(j m:Nat) (free:ByteArray) (opn:Nat) (left:List T) (xs:List Value),j<=nb/\iv=.int .i64 j/\lv=.slice (some ⟨q,0,none⟩) m c2/\fv=.string free/\ov=.int .i64 opn/\(opn<=j/\m<=1048576)/\FH w q L H (F.drop j) R m c2 free opn wr left xs) (λiv _ _ _ _=>nb-(intOf iv).toNat);case atStart=>exact⟨0,n0,⟨#[]⟩,0,H,xs,aL _,rfl,rfl,rfl,rfl,⟨ak _,bz⟩,av.o⟩
 case round=>
  obtain⟨j,m,free,opn,left,xs,hj,rfl,rfl,rfl,rfl,dO,n⟩:=hrel;have P:=aa dO;by_cases bF:j<nb
  ·have aW:j<F.length:=(by rw[cK.o];exact bF);obtain⟨pb,po,B1,C1,rfl,aX,aY,bf,hu⟩:=HP.o.get aW;have f:=n.run;rw[dN aW]at f;have bG:=bZ.o _ (aN aW);obtain⟨k,nm,z,aA⟩:∃k nm z,F[j]=.mk k nm z:=by
    cases F[j]with
    |mk k nm z=>exact⟨k,nm,z,rfl⟩
   rw[aA]at f bG aX aY bf hu;have dx:val L (.mk k nm z)=if k=2 then T.look L nm else some (.mk k nm z):=rfl
   simp only[qE]at f;rw[dx]at f;dsimp only[T.aC,T.aJ,T.ay]at aX aY bf hu f;obtain⟨d0,d1,d2⟩:=Z0 n.below aX aY bf;have hi:(j:Int)<(nb:Int):=(by omega);have hq:=af wr (.cells #[.int .i64 k,.string nm,.slice B1 z.length C1] 29);have o:=jM.new wr (.int .i64 k) (.string nm) (.slice B1 z.length C1);have HU:=aa (hu.ag (n.below.t (hq.m n.below.size)));have hh:=n.ag hq;have dz:q<wr.heap.size:=n.lt.2;obtain⟨Q,dA,dQ⟩:=ZR bF bG (show nm.size<=maxLen from hu.Kz);clear n hq hu bG aX aY bf dx aA aW hj bF;go_upto_region 7 with fail;generalize wr.alloc (.cells #[.int .i64 k,.string nm,.slice B1 z.length C1] 29)=w3 at o hh HU⊢;have bI:=dz;generalize wr.heap.size=S at o bI⊢;have bJ:=aa bI;clear d0 d1 d2 bI dz;by_cases dB:k=2
   ·subst dB;rw[aI rfl]at f;obtain⟨U,V,W⟩:=o.cells;obtain⟨bg,dC,dD⟩:=ZR (KG nm L bv w w3 bu.o hh.below) hh o;clear hh o;cases r:T.look L nm with
    |none=>
     rw[r]at bg f;obtain⟨HL,aF⟩:=ZQ r f;clear r f;go_wp2_with fail;refine bg.o.m ?_;rintro e w5 ⟨C,he⟩;have bK:e=.returned (.tuple #[.agg #[.int .i64 0,.string ⟨#[]⟩,.slice none 0 0],.bool false]):=he;subst bK;have X:=af w5 (.cells #[.int .i64 0,.string ⟨#[]⟩,.slice none 0 0] 29);have az:=dC.o.ag (C.t (X.m C.size));obtain⟨U,V,W⟩:=(dD.o.ag (C.t (X.m C.size))).cells;have eG:IntKind.i64.wrap ((opn:Int)+1)=((opn+1:Nat):Int):=(by rw[mO];have:=P.o;have:=Q.o;omega);have I:=aa az;clear he C X az;go_upto_region 9 with fail;generalize w5.alloc (.cells #[.int .i64 0,.string ⟨#[]⟩,.slice none 0 0] 29)=w6 at U V W I⊢;go_wp2_with fail;go_roundw;case rel=>exact⟨j+1,m,nm,opn+1,left,xs,Q.o,by go_num,rfl,rfl,(by rw[Int.natCast_add];rfl),by have:=P.o;omega,⟨I.o.len,I.o.ct,I.o.cells,I.o.XH,I.o.cap,aF.o,I.o.sub,λ_=>HL.o,dQ.o,I.o.below,I.o.lt⟩⟩
     case measure=>have:=Q.o;simp[intOf];omega
    |some v=>
     rw[r]at bg f;dsimp only at f;have bL:=(bY.o.2 _ (rG r).choose_spec.1);rw[(rG r).choose_spec.2.2]at bL;obtain⟨bM,aF⟩:=ZQ bL f;clear r bL f;go_wp2_with fail;refine bg.o.m ?_;rintro e w5 ⟨C,he⟩;have bK:∃A c,e=.returned (.tuple #[.agg #[.int .i64 v.aC,.string v.aJ,.slice A v.ay.length c],.bool true])/\aO w (.agg #[.int .i64 v.aC,.string v.aJ,.slice A v.ay.length c]) v:=he;obtain⟨A5,c5,rfl,dE⟩:=bK;have X:=af w5 (.cells #[.int .i64 v.aC,.string v.aJ,.slice A5 v.ay.length c5] 29);have bN:=jM.new w5 (.int .i64 v.aC) (.string v.aJ) (.slice A5 v.ay.length c5);have az:=dC.o.ag (C.t (X.m C.size));have o:=dD.o.ag (C.t (X.m C.size));have dR:=aa dE;clear he C X U V W dE;go_upto_region 9 with fail;generalize w5.alloc (.cells #[.int .i64 v.aC,.string v.aJ,.slice A5 v.ay.length c5] 29)=w6 at o bN az⊢;obtain⟨U,V,W⟩:=o.cells;obtain⟨f0,f1,f2⟩:=o.free;obtain⟨y0,y1,y2⟩:=bN.cells;have bO:=((az.set bJ.o 0 (.int .i64 v.aC)).set bJ.o 1 (.string v.aJ)).set bJ.o 2 (.slice A5 v.ay.length c5);obtain⟨bi,J⟩:=ZQ ((show JY (((w6.setCell ⟨S,0,none⟩ (.int .i64 v.aC)).setCell ⟨S,1,none⟩ (.string v.aJ)).setCell ⟨S,2,none⟩ (.slice A5 v.ay.length c5)) S v from⟨A5,c5,fJ o _ _ _,dR.o.ag bO.below⟩)) bO;clear bO az o bN;go_wp2_with fail;clear U V W f0 f1 f2 y0 y1 y2;refine(Df v S m (some ⟨q,0,none⟩) c2 left _ J.o.len J.o.bH P.o.2 bi.o (λy hy=>dm.o y (J.o.sub y hy)) bM.o).m ?_;rintro e w7 ⟨rfl,aK⟩;have a:=aa (J.o.ag aK);clear aK;have f:=aF.o;obtain⟨D,E⟩:∃D,gq v left=D:=⟨_,rfl⟩;rw[E]at f⊢;by_cases aM:D<0
     ·rw[aI aM]at f;subst f;go_wp2_with fail;go_ret2;exact⟨a.o.below,_,rfl⟩
     ·rw[aG aM]at f;obtain⟨K,_⟩:=CQ (v:=v) (l:=left) (by rw[E];omega);rw[E]at K;obtain⟨i,hi⟩:∃i:Nat,D=(i:Int):=⟨D.toNat,by omega⟩;subst hi;rw[oh]at f K;have bP:i<m:=(by have:=a.o.len;omega);have bQ:=a.o.cap.1;have dS:IntKind.i64.wrap ((i:Int)+1)=((i+1:Nat):Int):=(by rw[mO];have:=P.o;omega);obtain⟨av,bR,dU⟩:=ZR f K E;clear f K E;go_wp2_with fail;refine(MQ q m c2 i (i+1) xs _ (by rw[a.o.ct.1,a.o.len]) rfl bP bQ (λk u hu=>by simpa using a.o.cells k u hu) (λk _=>a.o.XH k) a.o.ct.one').m ?_;rintro e w8 ⟨rfl,aP,aS,M⟩;have aT:FH w q L H (F.drop (j+1)) R (m-1) c2 free opn w8 (left.eraseIdx i) (xs.take (i*3)++xs.drop ((i+1)*3)):=by
       refine⟨by rw[jU bR.o,a.o.len],(a.o.ct.erase i).aR λb hb r=>⟨hb,M.block b (ax hb)⟩,aP,λk=>(aS k).t (a.o.XH k),⟨by omega,a.o.cap.2⟩,av.o,λy hy=>a.o.sub y (pM hy),a.o.opn,a.o.YJ,a.o.below.t (M.m (by have:=a.o.lt;omega)),⟨a.o.lt.1,dF a.o.lt.2 M.size⟩⟩
      have bT:=aa aT;clear aP aS M aT;go_wp2_with fail;go_roundw;case rel=>exact⟨j+1,m-1,free,opn,left.eraseIdx i,_,Q.o,by go_num,rfl,rfl,rfl,by have:=P.o;omega,bT.o⟩
      case measure=>have:=Q.o;simp[intOf];omega
   ·rw[aG dB]at f;dsimp only at f;obtain⟨U,V,W⟩:=o.cells;have bi:=aa (show JY w3 S (.mk k nm z)from⟨B1,C1,o,HU.o⟩);generalize hv:T.mk k nm z=v at f bi dA;obtain⟨bM,J,aF⟩:=ZR dA.o hh f;clear hh o hv f;go_wp2_with fail;clear U V W;refine(Df v S m (some ⟨q,0,none⟩) c2 left _ J.o.len J.o.bH P.o.2 bi.o (λy hy=>dm.o y (J.o.sub y hy)) bM.o).m ?_;rintro e w7 ⟨rfl,aK⟩;have a:=aa (J.o.ag aK);clear aK;have f:=aF.o;obtain⟨D,E⟩:∃D,gq v left=D:=⟨_,rfl⟩;rw[E]at f⊢;by_cases aM:D<0
    ·rw[aI aM]at f;subst f;go_wp2_with fail;go_ret2;exact⟨a.o.below,_,rfl⟩
    ·rw[aG aM]at f;obtain⟨K,_⟩:=CQ (v:=v) (l:=left) (by rw[E];omega);rw[E]at K;obtain⟨i,hi⟩:∃i:Nat,D=(i:Int):=⟨D.toNat,by omega⟩;subst hi;rw[oh]at f K;have bP:i<m:=(by have:=a.o.len;omega);have bQ:=a.o.cap.1;have dS:IntKind.i64.wrap ((i:Int)+1)=((i+1:Nat):Int):=(by rw[mO];have:=P.o;omega);obtain⟨av,bR,dU⟩:=ZR f K E;clear f K E;go_wp2_with fail;refine(MQ q m c2 i (i+1) xs _ (by rw[a.o.ct.1,a.o.len]) rfl bP bQ (λk u hu=>by simpa using a.o.cells k u hu) (λk _=>a.o.XH k) a.o.ct.one').m ?_;rintro e w8 ⟨rfl,aP,aS,M⟩;have aT:FH w q L H (F.drop (j+1)) R (m-1) c2 free opn w8 (left.eraseIdx i) (xs.take (i*3)++xs.drop ((i+1)*3)):=by
      refine⟨by rw[jU bR.o,a.o.len],(a.o.ct.erase i).aR λb hb r=>⟨hb,M.block b (ax hb)⟩,aP,λk=>(aS k).t (a.o.XH k),⟨by omega,a.o.cap.2⟩,av.o,λy hy=>a.o.sub y (pM hy),a.o.opn,a.o.YJ,a.o.below.t (M.m (by have:=a.o.lt;omega)),⟨a.o.lt.1,dF a.o.lt.2 M.size⟩⟩
     have bT:=aa aT;clear aP aS M aT;go_wp2_with fail;go_roundw;case rel=>exact⟨j+1,m-1,free,opn,left.eraseIdx i,_,Q.o,by go_num,rfl,rfl,rfl,by have:=P.o;omega,bT.o⟩
     case measure=>have:=Q.o;simp[intOf];omega
  ·obtain rfl:j=nb:=(by omega);have bU:=n.run;rw[nz (by rw[cK.o];exact ak _)]at bU;have dV:R=some (left,free,opn):=bU.symm;subst dV;have G:=n.len;have aU:=n.opn;have N:=aa n;have hi:¬(j:Int)<(j:Int):=(by omega);clear n bU;by_cases ho:opn=0
   ·subst ho;have dW:=aa (bu.o.ag N.o.below);clear aU;by_cases hz:m=0
    ·have O:=aa (show rH L (some (left,free,0))=some L from by simp only[rH,<-G,aI hz,nL]);subst hz;clear G;go_wp2_with fail;go_ret2;refine⟨N.o.below,?_⟩;rw[O.o];exact⟨_,rfl,dW.o⟩
    ·have O:=aa (show rH L (some (left,free,0))=none from by simp only[rH,<-G,aG hz,nL]);have eH:((m:Int)==0)=false:=(by rw[aB];omega);clear G;go_wp2_with fail;go_ret2;refine⟨N.o.below,?_⟩;rw[O.o];exact⟨_,rfl⟩
   ·have eO:((opn:Int)==0)=false:=(by rw[aB];omega);by_cases h1:opn=1
    ·subst h1;by_cases dX:m=1
     ·subst dX;have eP:=aa (aU (by decide));have bV:0<left.length:=(by omega);obtain⟨lb,lo,Bx,cx,eA,d0,d1,d2,bW⟩:=N.o.bH.get bV;injection eA with eA;injection eA with eA eB;subst eA;subst eB;obtain⟨y,hy⟩:∃y,left[0]=y:=⟨_,rfl⟩;have O:=aa (show rH L (some (left,free,1))=some (ins L free y)from by
       simp only[rH,<-G,aH bV,hy];rfl)
      rw[hy]at d0 d1 d2 bW;simp only[qU,fE,dJ]at d0 d1 d2;obtain⟨dY,dZ,dG⟩:=ZR (λv=>Xh free L y bv v _ (bu.o.ag N.o.below) bY.o.1 hL N.o.YJ) bW N.o.below;clear aU bV hy bW G;go_wp2_with fail;refine(dY.o _ dZ.o).m ?_;rintro e w9 ⟨v9,rfl,dH,dI⟩;obtain⟨d9,ed⟩:=ZQ dH (dG.o.t (dI.m dG.o.size));clear dH dI d0 d1 d2;go_wp2_with fail;go_ret2;refine⟨ed.o,?_⟩;rw[O.o];exact⟨_,rfl,d9.o⟩
     ·have O:=aa (show rH L (some (left,free,1))=none from by
       simp only[rH,<-G];rw[aG (by omega),aG (by omega)])
      have eQ:((m:Int)==1)=false:=(by rw[aB];omega);clear aU G;go_wp2_with fail;go_ret2;refine⟨N.o.below,?_⟩;rw[O.o];exact⟨_,rfl⟩
    ·have O:=aa (show rH L (some (left,free,opn))=none from by
      simp only[rH,<-G];rw[aG ho,aG (by omega)])
     have eT:((opn:Int)==1)=false:=(by rw[aB];omega);clear aU G;go_wp2_with fail;go_ret2;refine⟨N.o.below,?_⟩;rw[O.o];exact⟨_,rfl⟩
theorem KQ(l:List T)(j:Nat)(h:j<l.length):dK (l.drop j)=l[j].size+dK (l.drop (j+1)):=by
 rw[dN h];rfl
theorem MH{ps a:List T}{b:List Bd}{j:Nat}(h:j<ps.length)(h':j<a.length):kY (ps.drop j) (a.drop j) b=match E8 ps[j] a[j] b with
 |none=>none
 |some c=>kY (ps.drop (j+1)) (a.drop (j+1)) c:=by
 rw[dN h,dN h'];simp only[kY];rfl
theorem XX:∀(N:Nat) (p t:T) (L:List Bd) (pv tv bv:Value) (w:World),p.bC<N->aO w pv p->aO w tv t->gu w bv L->Qt 1048576 L->L.length+p.size<=1000000->p.bC<=1048576->t.bC<=1048576->p.shape=true->
 Calls Tryz.prog 153 #[pv,tv,bv] w (Ps (E8 p t L) w):=by
 intro N;induction N with
 |zero=>intro p t L pv tv bv w h;omega
 |succ N ih=>
  intro p t L pv tv bv w hN hp ht hb hB hL bR O bS;obtain⟨A,c,rfl,aA,_⟩:=hp.Ku;obtain⟨B,d,rfl,aD,aY⟩:=ht.Ku;obtain⟨k,s,a,rfl⟩:∃k s a,p=.mk k s a:=by
   cases p with
   |mk k s a=>exact⟨k,s,a,rfl⟩
  obtain⟨k',m,b,rfl⟩:∃k s a,t=.mk k s a:=by
   cases t with
   |mk k s a=>exact⟨k,s,a,rfl⟩
  have aZ:=hp.Kz;dsimp only[T.aC,T.aJ,T.ay]at aA aD aY hp ht aZ⊢;have bf:E8 (.mk k s a) (.mk k' m b) L=if k=2 then (match T.look L s with
   |some v=>if cmp v (.mk k' m b)=0 then some L else none
   |none=>some (ins L s (.mk k' m b)))
   else if k≠k'\/s≠m\/a.length≠b.length then none
   else if k=7 then pow a b L else kY a b L:=by
   simp only[E8,T.aC,T.aJ,T.ay];rfl
  obtain⟨R,hR⟩:∃R,E8 (.mk k s a) (.mk k' m b) L=R:=⟨_,rfl⟩;rw[hR]at bf⊢;have bg:=aa bf;clear hR;obtain⟨bx,aS,bi,G⟩:=rz w (.int .i64 k) (.string s) (.slice A a.length c) (.int .i64 k') (.string m) (.slice B b.length d);obtain⟨HP,dh,bn,di,HB,aT,IH,bT,HN⟩:=ZY aA aD ht hp hb hB ih bS hN;obtain⟨HL,bq,bu,dm,dF⟩:=ZU hL bR O aZ aY;clear aA aD ht hp hb hB ih bf aY bS hN hL bR O aZ;go_enter Tryz.func153,Tryz.ntmps153;go_upto_region 1 with fail;generalize(w.alloc (.cells #[.int .i64 k,.string s,.slice A a.length c] 29)).alloc (.cells #[.int .i64 k',.string m,.slice B b.length d] 29)=w1 at bx aS bi G⊢;obtain⟨x0,x1,x2⟩:=bx.cells;obtain⟨P,Q,E⟩:=aS.cells;obtain⟨BX,BY,f,dG⟩:=ZT bx aS bi G;clear bx aS bi G;by_cases bU:k=2
  ·subst bU;have aU:=aa (KG s L bv w w1 HB.o f.o);cases H:T.look L s with
   |none=>
    rw[H]at aU;obtain rfl:R=some (ins L s (.mk k' m b)):=bg.o.t (by rw[aI rfl,H]);have dH:=aa H;clear H;go_wp2_with fail;refine aU.o.m ?_;rintro e Z ⟨C,o⟩;have bz:e=.returned (.tuple #[.agg #[.int .i64 0,.string ⟨#[]⟩,.slice none 0 0],.bool false]):=o;subst bz;have aH:=af Z (.cells #[.int .i64 0,.string ⟨#[]⟩,.slice none 0 0] 29);have U:=C.t (aH.m C.size);have u:=aa (f.o.t (U.m f.o.size));obtain⟨u0,u1,u2⟩:=(BX.o.ag U).cells;obtain⟨z0,z1,z2⟩:=(BY.o.ag U).cells;clear o C aH U x0 x1 x2 P Q E;go_upto_region 3 with fail;generalize Z.alloc (.cells #[.int .i64 0,.string ⟨#[]⟩,.slice none 0 0] 29)=w3 at u u0 u1 u2 z0 z1 z2⊢;have dw:=aa (Xh s L (.mk k' m b) bv _ w3 (HB.o.ag u.o) aT.o.1 (by have:=HL.o;omega) dm.o (bn.o.ag u.o));go_wp2_with fail;refine dw.o.m ?_;rintro e w4 ⟨v4,rfl,aK,z⟩;obtain⟨bA,F⟩:=ZQ aK (u.o.t (z.m u.o.size));clear aK z u0 u1 u2 z0 z1 z2;go_wp2_with fail;go_ret2;exact⟨F.o,_,rfl,bA.o⟩
   |some v=>
    rw[H]at aU;have bB:=(aT.o.2 _ (rG H).choose_spec.1);rw[(rG H).choose_spec.2.2]at bB;have dx:=aa bB;have dz:=aa (show R=if cmp v (.mk k' m b)=0 then some L else none from bg.o.t (by rw[aI rfl,H]));clear H bB;go_wp2_with fail;refine aU.o.m ?_;rintro e Z ⟨C,o⟩;have bz:∃A c,e=.returned (.tuple #[.agg #[.int .i64 v.aC,.string v.aJ,.slice A v.ay.length c],.bool true])/\aO w (.agg #[.int .i64 v.aC,.string v.aJ,.slice A v.ay.length c]) v:=o;obtain⟨A5,c5,rfl,bV⟩:=bz;have aH:=af Z (.cells #[.int .i64 v.aC,.string v.aJ,.slice A5 v.ay.length c5] 29);have U:=C.t (aH.m C.size);have u:=aa (f.o.t (U.m f.o.size));obtain⟨z0,z1,z2⟩:=(BY.o.ag U).cells;have bD:=jM.new Z (.int .i64 v.aC) (.string v.aJ) (.slice A5 v.ay.length c5);have bW:=aa (bV.ag u.o);clear o C aH U x0 x1 x2 P Q E bV;go_upto_region 3 with fail;generalize Z.alloc (.cells #[.int .i64 v.aC,.string v.aJ,.slice A5 v.ay.length c5] 29)=w3 at u z0 z1 z2 bD bW⊢;obtain⟨u0,u1,u2⟩:=bD.cells;have HC:=aa (Ru (v.bC+1) v (.mk k' m b) _ _ w3 (by omega) bW.o (bn.o.ag u.o) dx.o bu.o);obtain⟨q,y⟩:∃q,v.cmp (.mk k' m b)=q:=⟨_,rfl⟩;have bY:cmp v (.mk k' m b)=q:=y;rw[y]at HC;have aM:=dz.o;rw[bY]at aM;clear bD y bY;by_cases h0:q=0
    ·subst h0;rw[aI rfl]at aM;subst aM;go_wp2_with fail;refine HC.o.m ?_;rintro e w4 ⟨rfl,z⟩;have F:=aa (u.o.t (z.m u.o.size));clear z u0 u1 u2 z0 z1 z2;go_wp2_with fail;go_ret2;exact⟨F.o,_,rfl,HB.o.ag F.o⟩
    ·rw[aG h0]at aM;subst aM;have dI:(q==0)=false:=(by rw[aB];exact h0);go_wp2_with fail;refine HC.o.m ?_;rintro e w4 ⟨rfl,z⟩;have F:=aa (u.o.t (z.m u.o.size));clear z u0 u1 u2 z0 z1 z2;go_wp2_with fail;go_ret2;exact⟨F.o,_,rfl⟩
  ·have l:=bg.o;rw[aG bU]at l;by_cases e1:k=k'
   ·subst e1;by_cases e2:s=m
    ·subst e2;by_cases e3:a.length=b.length
     ·rw[aG (by simp[e3])]at l;have aN:((a.length:Int) != (b.length:Int))=false:=(by rw[e3];simp);have bZ:=aa e3;clear e3;by_cases h7:k=7
      ·subst h7;rw[aI rfl]at l;have dA:=aa l;clear l;have aP:=bq.o;have O:=bu.o;have h0:0<b.length:=(by rw[<-bZ.o];exact(T.Fw bT.o).1);have cu:=aa (V7 (.mk 7 s a) (.mk 7 s b) L _ _ bv w1 (di.o.ag f.o) (bn.o.ag f.o) (HB.o.ag f.o) aT.o (by have:=HL.o;omega) aP O h0);dsimp only[T.aC,T.aJ,T.ay]at cu;clear h0 aP O;go_wp2_with fail;refine cu.o.m ?_;rintro e Z ⟨C,o⟩;have cz:=aa (f.o.t (C.m f.o.size));have l:=dA.o;revert o l;cases pow a b L with
       |none=>
        rintro⟨v,rfl⟩ rfl;clear C x0 x1 x2 P Q E aN;go_wp2_with fail;go_ret2;exact⟨cz.o,_,rfl⟩
       |some x=>
        rintro⟨v,rfl,hv⟩ rfl;have HV:=aa hv;clear C x0 x1 x2 P Q E aN hv;go_wp2_with fail;go_ret2;exact⟨cz.o,_,rfl,HV.o⟩
      ·rw[aG h7]at l;have dB:=aa l;have dC:=aa (show dK a<=1000000-L.length from by have:=HL.o;simp only[size]at this;omega);obtain⟨n,hn⟩:∃n,a.length=n:=⟨_,rfl⟩;have cK:=aa hn;have dJ:n<=1048576:=by
        have:=T.kN a;have h2:=bq.o;simp only[bC]at h2;omega
       rw[hn]at x2 BX aN⊢;clear hn l;go_wp2_with fail;clear x0 x1 x2 aN;go_loopw [70,2] (λiv bw wr=>∃(j:Nat) (I:List Bd),j<=n/\iv=.int .i64 j/\gu wr bw I/\Qt 1048576 I/\I.length+dK (a.drop j)<=1000000/\R=kY (a.drop j) (b.drop j) I/\Below w1.heap.size w1 wr) (λiv _ _=>n-(intOf iv).toNat);case atStart=>exact⟨0,L,aL _,rfl,HB.o.ag f.o,aT.o,by rw[qK];have:=dC.o;have:=HL.o;omega,by rw[qK,qK];exact dB.o,az _ _⟩
       case round=>
        obtain⟨j,I,hj,rfl,aV,aQ,G,V,ai⟩:=hrel;by_cases bE:j<n
        ·have av:j<a.length:=(by rw[cK.o];exact bE);have aW:j<b.length:=(by rw[<-bZ.o];exact av);have J:=f.o.t (ai.m f.o.size);obtain⟨pb,po,B1,C1,rfl,bF,bG,bH,hu⟩:=HP.o.get av;obtain⟨X,Y,B2,C2,eB,bI,bJ,bK,bL⟩:=dh.o.get aW;subst eB;rw[MH av aW]at V;rw[KQ a j av]at G;have aP:=bq.o;have O:=bu.o;simp only[bC]at aP O;have cO:=HN.o;simp only[bC]at cO;have b1:=T.iQ a j av;have b2:=T.iQ b j aW;have bM:=T.Iz bT.o j av;obtain⟨g,aA⟩:∃g,a[j]=g:=⟨_,rfl⟩;obtain⟨D,aD⟩:∃D,b[j]=D:=⟨_,rfl⟩;rw[aA]at bF bG bH hu V G b1 bM;rw[aD]at bI bJ bK bL V b2;obtain⟨d0,d1,d2⟩:=Z0 J bF bG bH;have hi:(j:Int)<(n:Int):=(by omega);have y:=af wr (.cells #[.int .i64 g.aC,.string g.aJ,.slice B1 g.ay.length C1] 29);have aX:=jM.new wr (.int .i64 g.aC) (.string g.aJ) (.slice B1 g.ay.length C1);have g0:=ae y (ae J bI);have g1:=ae y (ae J bJ);have g2:=ae y (ae J bK);obtain⟨P,Q,E⟩:=((BY.o.ag ai).ag y).cells;have dL:(0:Int)<=(j:Int):=(by omega);have dM:(j:Int)<(b.length:Int):=(by omega);obtain⟨HU,bN,aR,ax,cZ,dN,dD,bO⟩:=ZX ((hu.ag J).ag y) ((bL.ag J).ag y) (aV.ag y) (ai.t (y.m ai.size)) bE aQ G V;have bP:=aa (λv1 v2 v3 W h1 h2 h3=>IH.o g D I v1 v2 v3 W (by omega) h1 h2 h3 aQ (by omega) (by omega) (by omega) bM);have df:=λx=>Bc (M:=1048576) g D I x aQ (by omega);have bQ:=aa df;clear J bF bG bH bI bJ bK hu bL aP O cO b1 b2 bM aA aD av aW y aV aQ G V ai hj bE df;go_upto_region 14 with fail;generalize wr.alloc (.cells #[.int .i64 g.aC,.string g.aJ,.slice B1 g.ay.length C1] 29)=wq at aX g0 g1 g2 P Q E HU bN aR ax⊢;generalize wr.heap.size=aF at aX⊢;obtain⟨q0,q1,q2⟩:=aX.cells;clear d0 d1 d2 aX;obtain⟨r,hr⟩:∃r,E8 g D I=r:=⟨_,rfl⟩;rw[hr]at bP bO bQ;clear hr;cases r with
         |none=>
          obtain rfl:R=none:=bO.o;refine bX (S:=(λi=>i.cell? ⟨aF,0,none⟩=some (.int .i64 g.aC)/\i.cell? ⟨aF,1,none⟩=some (.string g.aJ)/\i.cell? ⟨aF,2,none⟩=some (.slice B1 g.ay.length C1)/\i.cell? ⟨w.heap.size+1,2,none⟩=some (.slice (some ⟨X,Y,none⟩) b.length d)/\i.cell? ⟨X,Y+j*3,none⟩=some (.int .i64 D.aC)/\i.cell? ⟨X,Y+j*3+1,none⟩=some (.string D.aJ)/\i.cell? ⟨X,Y+j*3+2,none⟩=some (.slice B2 D.ay.length C2)/\Below wq.heap.size wq i)) (by kernel_rfl) (show _/\_/\_/\_/\_/\_/\_/\_ from⟨q0,q1,q2,E,g0,g1,g2,(az _ wq).drew⟩) (λhHeld=>?_);refine cB 0 _ ?_;refine cB 1 _ ?_;refine cB 2 _ ?_;refine cB 3 _ ?_;refine cB 4 _ ?_;refine cB 5 _ ?_;refine cB 6 _ ?_;(refine ve 7 λK hK=>?_;go_simp;go_at_call 153;refine(bP.o _ _ _ _ (HU.o.ag hHeld.2.2.2.2.2.2.2) (bN.o.ag hHeld.2.2.2.2.2.2.2) (aR.o.ag hHeld.2.2.2.2.2.2.2)).m ?_;rintro e wz ⟨z,o⟩;obtain⟨v4,rfl⟩:=(show ∃v,e=.returned (.tuple #[v,.bool false])from o);clear o;refine mH hK (ER hHeld z) λhHeld=>?_;clear hK K);refine cB 8 _ ?_;refine cB 9 _ ?_;refine cB 10 _ ?_;refine cB 11 _ ?_;refine cB 12 _ ?_;refine dR (by kernel_rfl) ?_ _;have F:=aa (ax.o.t (hHeld.2.2.2.2.2.2.2.m ax.o.size));clear hHeld q0 q1 q2 P Q E g0 g1 g2;go_wp2_with fail;go_ret2;exact⟨f.o.t (F.o.m f.o.size),_,rfl⟩
         |some x=>
          refine bX (S:=(λi=>i.cell? ⟨aF,0,none⟩=some (.int .i64 g.aC)/\i.cell? ⟨aF,1,none⟩=some (.string g.aJ)/\i.cell? ⟨aF,2,none⟩=some (.slice B1 g.ay.length C1)/\i.cell? ⟨w.heap.size+1,2,none⟩=some (.slice (some ⟨X,Y,none⟩) b.length d)/\i.cell? ⟨X,Y+j*3,none⟩=some (.int .i64 D.aC)/\i.cell? ⟨X,Y+j*3+1,none⟩=some (.string D.aJ)/\i.cell? ⟨X,Y+j*3+2,none⟩=some (.slice B2 D.ay.length C2)/\Below wq.heap.size wq i)) (by kernel_rfl) (show _/\_/\_/\_/\_/\_/\_/\_ from⟨q0,q1,q2,E,g0,g1,g2,(az _ wq).drew⟩) (λhHeld=>?_);refine cB 0 _ ?_;refine cB 1 _ ?_;refine cB 2 _ ?_;refine cB 3 _ ?_;refine cB 4 _ ?_;refine cB 5 _ ?_;refine cB 6 _ ?_;(refine ve 7 λK hK=>?_;go_simp;go_at_call 153;refine(bP.o _ _ _ _ (HU.o.ag hHeld.2.2.2.2.2.2.2) (bN.o.ag hHeld.2.2.2.2.2.2.2) (aR.o.ag hHeld.2.2.2.2.2.2.2)).m ?_;rintro e wz ⟨z,o⟩;obtain⟨v4,rfl,aK⟩:=(show ∃v,e=.returned (.tuple #[v,.bool true])/\gu wz v x from o);have bA:=aa aK;clear o aK;refine mH hK (ER hHeld z) λhHeld=>?_;clear hK K);refine cB 8 _ ?_;refine cB 9 _ ?_;refine cB 10 _ ?_;refine cB 11 _ ?_;refine cB 12 _ ?_;refine dR (by kernel_rfl) ?_ _;have F:=aa (ax.o.t (hHeld.2.2.2.2.2.2.2.m ax.o.size));clear hHeld q0 q1 q2 P Q E g0 g1 g2;go_wp2_with fail;go_roundw;case rel=>exact⟨_,_,_,_,_,_,_,⟨j+1,cZ.o,by go_num,x,bA.o,(bQ.o x rfl).1,by have:=(bQ.o x rfl).2;have:=dD.o;omega,bO.o,F.o⟩,rfl,rfl,rfl,rfl,rfl,rfl,rfl⟩
          case measure=>have:=cZ.o;simp[intOf];omega
        ·obtain rfl:j=n:=(by omega);rw[nz (by rw[cK.o];exact ak _)]at V;have dE:R=some I:=(by rw[V];simp only[kY]);subst dE;have hi:¬(j:Int)<(j:Int):=(by omega);obtain⟨aR,ax⟩:=ZQ aV (f.o.t (ai.m f.o.size));clear V aV aQ G ai;go_wp2_with fail;go_ret2;exact⟨ax.o,_,rfl,aR.o⟩
     ·rw[aI (.inr (.inr e3))]at l;subst l;have aN:((a.length:Int) != (b.length:Int))=true:=(by simp;omega);clear e3;go_wp2_with fail;go_ret2;exact⟨f.o,_,rfl⟩
    ·rw[aI (.inr (.inl e2))]at l;subst l;have dO:=UX e2;go_wp2_with fail;go_ret2;exact⟨f.o,_,rfl⟩
   ·rw[aI (.inl e1)]at l;subst l;go_wp2_with fail;go_ret2;exact⟨f.o,_,rfl⟩
end
section
open Go.RowKit T
def JX(S:Nat->Bool)(w:World)(xs:List Value)(L:List Bd):Prop:=
 xs.length=L.length*4/\∀i (h:i<L.length),∃A c,xs[i*4]?=some (.string L[i].var)/\xs[i*4+1]?=some (.int .i64 L[i].t.aC)/\xs[i*4+2]?=some (.string L[i].t.aJ)/\xs[i*4+3]?=some (.slice A L[i].t.ay.length c)/\
   bN S w (.agg #[.int .i64 L[i].t.aC,.string L[i].t.aJ,.slice A L[i].t.ay.length c]) L[i].t/\L[i].var.size<=maxLen
theorem JX.aR{S S':Nat->Bool}{w w':World}{xs:List Value}{L:List Bd}(h:JX S w xs L)(a:∀b,S b=true->b<w.heap.size->S' b=true/\w'.heap[b]?=w.heap[b]?):JX S' w' xs L:=
 ⟨h.1,λi hi=>by obtain⟨A,c,a0,d,a2,a3,e,f⟩:=h.2 i hi;exact⟨A,c,a0,d,a2,a3,e.aR a,f⟩⟩
theorem JX.nil(S:Nat->Bool)(w:World):JX S w [] []:=⟨rfl,λi h=>by simp at h⟩
theorem JX.bc{S:Nat->Bool}{w:World}{xs:List Value}{L:List Bd}(h:JX S w xs L):BC w xs L:=
 ⟨h.1,λi hi=>by obtain⟨A,c,a0,a,b,d,e,f⟩:=h.2 i hi;exact⟨A,c,a0,a,b,d,e.at,f⟩⟩
theorem JX.push{S:Nat->Bool}{w:World}{xs:List Value}{L:List Bd}{s:ByteArray}{t:T}{A:Option Addr}{c:Nat}(h:JX S w xs L)(b:bN S w (.agg #[.int .i64 t.aC,.string t.aJ,.slice A t.ay.length c]) t)(d:s.size<=maxLen):
 JX S w (xs++[.string s,.int .i64 t.aC,.string t.aJ,.slice A t.ay.length c]) (L++[⟨s,t⟩]):=by
 have a:=h.1;refine⟨by simp[a];omega,λi hi=>?_⟩;rcases cu i L.length with g|g
 ·obtain⟨f,j,a0,m,n,o,k,l⟩:=h.2 i g;rw[dH g];refine⟨f,j,?_,?_,?_,?_,k,l⟩;all_goals rw[bP (by omega)];assumption
 ·obtain rfl:i=L.length:=(by simp at hi;omega);have e:(L++[(⟨s,t⟩:Bd)])[L.length]'hi=⟨s,t⟩:=(by simp);rw[e];refine⟨A,c,?_,?_,?_,?_,b,d⟩;all_goals rw[bD (by omega),a];simp
def yj(base:Nat)(w:World)(v:Value)(L:List Bd):Prop:=(v=.slice none 0 0/\L=[])\/(0<L.length/\∃xs,w.ownsRow base 132 4 v L.length xs/\JX (but base v.ownBlock) w xs L)
theorem yj.nil(base:Nat)(w:World):yj base w (.slice none 0 0) []:=.inl ⟨rfl,rfl⟩
theorem yj.cells{base:Nat}{w:World}{v:Value}{L:List Bd}(h:yj base w v L):∃A c xs,v=.slice A L.length c/\w.ownsRow base 132 4 (.slice A L.length c) L.length xs/\JX (but base (Value.slice A L.length c).ownBlock) w xs L:=by
 rcases h with⟨rfl,rfl⟩|⟨h0,xs,a,b⟩;·exact⟨none,0,[],rfl,gZ _ _ _ _,JX.nil _ _⟩
 ·obtain⟨g,cap,rfl,_⟩:=a.form h0;exact⟨_,_,xs,rfl,a,b⟩
theorem yj.binds{base:Nat}{w:World}{v:Value}{L:List Bd}(h:yj base w v L):gu w v L:=by
 rcases h with⟨rfl,rfl⟩|⟨h0,xs,a,b⟩;·exact gu.nil w
 ·obtain⟨g,cap,rfl,_⟩:=a.form h0;exact gu.uD a rfl b.bc h0
theorem yj.aR{base:Nat}{w w':World}{v:Value}{L:List Bd}(h:yj base w v L)(c:∀b,base<=b->b<w.heap.size->w'.heap[b]?=w.heap[b]?):yj base w' v L:=by
 rcases h with h|⟨h0,xs,d,f⟩;·exact .inl h
 ·exact .inr ⟨h0,xs,pg d λb e a=>c b (d.lt b e).1 a,f.aR λb hb a=>⟨hb,c b (ja.1 hb).1 a⟩⟩
theorem yj.push{base:Nat}{w w3 w4:World}{L:List Bd}{s:ByteArray}{t:T}{A A3:Option Addr}{c c3 n g cap:Nat}{xs:List Value}{o:Obj}(l:w.ownsRow base 132 4 (.slice A n c) n xs)(m:n=L.length)(p:JX (but base (Value.slice A n c).ownBlock) w xs L)(q:s.size<=maxLen)
 (u:∀b,base<=b->b<w.heap.size->w3.heap[b]?=w.heap[b]?) (E:w.heap.size<=w3.heap.size) (hb:base<=w.heap.size) (v:bN (eG w.heap.size) w3 (.agg #[.int .i64 t.aC,.string t.aJ,.slice A3 t.ay.length c3]) t)
 (x:w4.ownsRow base 132 4 (.slice (some ⟨g,0,none⟩) (n+1) cap) (n+1) (xs++[.string s,.int .i64 t.aC,.string t.aJ,.slice A3 t.ay.length c3])) (y:(w3.alloc o).grownBy w4 (Value.slice A n c).ownBlock) (z:(Value.slice A n c).ownBlock=some g\/g=(w3.alloc o).heap.size):
 yj base w4 (.slice (some ⟨g,0,none⟩) (n+1) cap) (L++[⟨s,t⟩]):=by
 have B:=l.lt;have F:=aK w3 o;have j:∀b,base<=b->b<w3.heap.size->(Value.slice A n c).ownBlock≠some b->but base (Value.slice (some ⟨g,0,none⟩) (n+1) cap).ownBlock b=true/\w4.heap[b]?=w3.heap[b]?:=λb a d k=>by
  refine⟨ja.2 ⟨a,λe=>?_⟩,(y.block b (by omega) (λe=>k e.symm)).t (fF w3 o b d)⟩;have C:g=b:=aA e;rcases z with r|r;·exact k (by rw[r,C])
  ·omega
 have a:JX (but base (Value.slice (some ⟨g,0,none⟩) (n+1) cap).ownBlock) w4 xs L:=p.aR λb f h=>by
  obtain⟨i,a2⟩:=ja.1 f;obtain⟨a,d⟩:=j b i (by omega) a2;exact⟨a,d.t (u b i h)⟩
 have d:bN (but base (Value.slice (some ⟨g,0,none⟩) (n+1) cap).ownBlock) w4 (.agg #[.int .i64 t.aC,.string t.aJ,.slice A3 t.ay.length c3]) t:=v.aR λb f h=>by
  have i:=ax f;exact j b (by omega) h (λe=>by have:=(B b e).2;omega)
 have D:(L++[(⟨s,t⟩:Bd)]).length=n+1:=(by simp[m]);refine .inr ⟨by omega,_,?_,a.push d q⟩;rw[D];exact x
end
end Go.Proofs.YtaciciokmpbkkaaGreatDoor
