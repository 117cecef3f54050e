import Derived.Test.YtaciciokmpbkkaaGreatDoorWebG10
set_option maxRecDepth 100000
set_option maxHeartbeats 16000000
namespace Go.Proofs.YtaciciokmpbkkaaGreatDoor
section
open Go.RowKit
attribute [local go_sem ↓] Go.wp_at_zero Go.wp_at_succ
open T
theorem UQ(s:ByteArray):∀(L:List Bd) (i:Nat) (h:i<L.length),i<T.pos s L->T.less L[i].var s=true
 |x::r,i,h,a=>by
  simp only[T.pos]at a;split at a
  ·rename_i b;cases i with
   |zero=>exact b
   |succ i=>exact UQ s r i aaD aar
  ·omega
theorem pos_at(s:ByteArray):∀(L:List Bd) (h:T.pos s L<L.length),T.less L[T.pos s L].var s=false
 |x::r,h=>by
  by_cases a:T.less x.var s=true
  ·have e:T.pos s (x::r)=T.pos s r+1:=(by simp only[T.pos];rw[aJ a]);have h':T.pos s r<r.length:=(by rw[e]at h;simpa using h);have:=pos_at s r h';simp only[e,fJ];exact this
  ·have e:T.pos s (x::r)=0:=(by simp only[T.pos];rw[aH a]);simp only[e,dI];exact iW.2 a
theorem Yi{s:ByteArray}{L:List Bd}(hu:LP L){i:Nat}(h:i<L.length)(b:T.pos s L<=i):T.less L[i].var s=false:=by
 have a:=pos_at s L aar;rcases bX (T.pos s L) i with g|g
 ·rw[iW];intro e;have:=T.CG (hu.at aar h g) e;rw[a]at this;cases this
 ·obtain rfl:T.pos s L=i:=aar;exact a
theorem WE{s:ByteArray}{L:List Bd}(hu:LP L){i:Nat}(h:i<L.length):T.less L[i].var s=decide (i<T.pos s L):=by
 by_cases a:i<T.pos s L;·rw[UQ s L i h a,aM a]
 ·rw[Yi hu h aar,cu a]
theorem Qf:∀a b:List UInt8,decide (Lib.compareBytes a b<0)=Op.bytesLess a b
 |[],[]=>rfl
 |[],_::_=>rfl
 |_::_,[]=>rfl
 |a::u,b::v=>by
  have f:=Qf u v;simp only[Lib.compareBytes,Op.bytesLess];by_cases c:a<b;·simp[c]
  ·by_cases d:b<a
   ·simp[c,d];intro e;subst e;exact absurd d c
   ·have e:a=b:=qg.1 (by rw[jF]at c d;omega);simp[e,f]
theorem Ke(x s:ByteArray)(k:Int)(nm:ByteArray)(A:Option Addr)(n c:Nat)(w:World):
 Calls Tryz.prog 215 #[.agg #[.string x,.int .i64 k,.string nm,.slice A n c],.string s] w λe w'=>∃r:Int,e=.returned (.int .i64 r)/\decide (r<0)=T.less x s/\Below w.heap.size w w':=by
 have a:=ae w (.cells #[.string x,.int .i64 k,.string nm,.slice A n c] 132);have b:=bP w (.cells #[.string x,.int .i64 k,.string nm,.slice A n c] 132);go_enter Tryz.func215,Tryz.ntmps215;go_upto_region 1 with fail;generalize w.alloc _=d at a b⊢;have g:d.cell? ⟨w.heap.size,0,none⟩=some (.string x):=(by unfold World.cell?;rw[b];rfl);have f:=aa a;clear a b;go_wp2_with fail;refine(Tryz.strings_Compare x s _).m ?_;rintro e h ⟨rfl,rfl⟩;go_wp2_with fail;go_ret;refine⟨_,rfl,?_,f.o⟩;rw[Qf];unfold T.less;rw[iR,iR]
theorem Wy(s:ByteArray)(L:List Bd)(A:Option Addr)(cap:Nat)(w:World)(P:gH w (.slice A L.length cap) L)(hu:LP L)(h0:0<L.length)(Y:L.length<=1048576):
 Calls Tryz.prog 214 #[.slice A L.length cap,.string s,.func (.func 215) #[] #[]] w λe w'=>∃q:Bool,e=.returned (.tuple #[.int .i64 (T.pos s L:Int),.bool q])/\Below w.heap.size w w':=by
 obtain⟨n,F⟩:=aay L.length;obtain⟨p,Q⟩:=aay (T.pos s L);have G:=IB s L;obtain⟨R,S,U⟩:=aac (λi (h:i<L.length)=>WE (s:=s) hu h) P F;rw[Q]at G R⊢;rw[F]at G Y h0⊢;clear P hu F Q;go_enter Tryz.func214,Tryz.ntmps214;go_wp2_with fail;go_loopw [9,10] (λi j wr=>∃a b:Nat,i=.int .i64 a/\j=.int .i64 b/\a<=p/\p<=b/\b<=n/\Below w.heap.size w wr) (λi j _=>(intOf j).toNat-(intOf i).toNat);case atStart=>exact⟨0,n,rfl,rfl,aT _,G,ax _,aC _ _⟩
 case round=>
  obtain⟨a,b,rfl,rfl,H,I,J,d⟩:=hrel;by_cases Z:a<b
  ·obtain⟨h,hh⟩:=aay ((a+b) / 2);have V:a<=h:=aar;have W:h<b:=aar;have o:h<L.length:=(by rw[U.o];omega);have X:=S.o;obtain⟨ae,off,B,c,rfl,g,k,l,m,K,M⟩:=X.get o;have N:=R.o h o;obtain⟨x,z⟩:=aay (L[h]);rw[z]at g k l m N;obtain⟨d0,d1,d2,d3⟩:=aal d g k l m;have hi:(a:Int)<(b:Int):=aar;have av:IntKind.i64.wrap ((a:Int)+(b:Int))=(a:Int)+(b:Int):=(by rw[mO];omega);have C:(0:Int)<=(h:Int)/\(h:Int)<(n:Int):=aar;obtain⟨C,ag⟩:=C;obtain⟨u,v⟩:=aab d (show a<=h/\h<b/\b<=n/\a<=p/\p<=b from⟨V,W,J,H,I⟩);clear X K M z o g k l m d V W J H I Z;go_wp2_with fail;rw[hh];go_wp2_with fail;refine(Ke x.var s x.t.aA x.t.aI B x.t.ay.length c _).m ?_;rintro e w2 ⟨r,rfl,f,D⟩;have E:=aa (u.o.t (D.m u.o.size));rw[N]at f;clear D d0 d1 d2 d3 N;by_cases y:h<p
   ·have ah:r<0:=ak (by rw[f];exact aM y);have O:=aa y;clear f y;go_wp2_with fail;go_roundw;case rel=>exact⟨h+1,b,aaw,rfl,O.o,v.o.2.2.2.2,v.o.2.2.1,E.o⟩
    case measure=>exact aax v.o
   ·have ah:¬r<0:=λe=>(by rw[aM e]at f;exact y (ak f.symm));have O:=aa y;clear f y;go_wp2_with fail;go_roundw;case rel=>exact⟨a,h,rfl,by congr 1;omega,v.o.2.2.2.1,aaz O.o,aaz v.o,E.o⟩
    case measure=>exact aax v.o
  ·obtain rfl:a=p:=aar;obtain rfl:a=b:=aar;have hi:¬(a:Int)<(a:Int):=aar;have u:=aa d;by_cases az:a<n
   ·have o:a<L.length:=(by rw[U.o];omega);obtain⟨ae,off,B,c,rfl,g,k,l,m,K,M⟩:=S.o.get o;obtain⟨x,z⟩:=aay (L[a]);rw[z]at g k l m;obtain⟨d0,d1,d2,d3⟩:=aal d g k l m;have C:(0:Int)<=(a:Int)/\(a:Int)<(n:Int):=aar;obtain⟨C,ag⟩:=C;clear K M z o g k l m d H I J;go_wp2_with fail;refine(Ke x.var s x.t.aA x.t.aI B x.t.ay.length c _).m ?_;rintro e w2 ⟨r,rfl,f,D⟩;have E:=aa (u.o.t (D.m u.o.size));clear D d0 d1 d2 d3 f;go_wp2_with fail;go_ret2;exact⟨_,rfl,E.o⟩
   ·have aB:¬(a:Int)<(n:Int):=aar;clear d;go_wp2_with fail;go_ret2;exact⟨.inl rfl,u.o⟩
theorem Nv(s:ByteArray)(L:List Bd)(v:Value)(w:World)(a:gH w v L)(hu:LP L)(b:L.length<=1048576):
 Calls Tryz.prog 214 #[v,.string s,.func (.func 215) #[] #[]] w λe w'=>∃q:Bool,e=.returned (.tuple #[.int .i64 (T.pos s L:Int),.bool q])/\Below w.heap.size w w':=by
 rcases eF L.length with h0|h0
 ·rcases a with⟨rfl,rfl⟩|⟨_,_,_,_,_,c,_⟩
  ·refine(PK s _ w).m ?_;rintro e w' ⟨rfl,rfl⟩;exact⟨false,rfl,aC _ _⟩
  ·omega
 ·obtain⟨A,cap,rfl,_,_⟩:=a.shape;exact Wy s L A cap w a hu h0 b
theorem Pm(L:List Bd)(v:Value)(w:World)(a:gH w v L)(b:L.length<=1000000):
 Calls Tryz.prog 149 #[v] w λe w'=>∃A2 c2 xs,e=.returned (.slice A2 L.length c2)/\w'.ownsRow w.heap.size 132 4 (.slice A2 L.length c2) L.length xs/\BC w xs L/\Below w.heap.size w w':=by
 rcases eF L.length with h0|h0
 ·rcases a with⟨rfl,rfl⟩|⟨_,_,_,_,_,c,_⟩
  ·refine(JL w).m ?_;rintro e w' ⟨rfl,rfl⟩;exact⟨none,0,[],rfl,gV _ _ _ _,BC.nil _,aC _ _⟩
  ·omega
 ·obtain⟨A,cap,rfl,_,_⟩:=a.shape;refine(UB L A cap w a h0 b).m ?_;rintro e w' ⟨d,c2,xs,h⟩;exact⟨_,c2,xs,h⟩
theorem Nr{base:Nat}(vs:List Value)(a:Nat)(w:World)(b:base<=w.heap.size)(c:w.heap[a]?=some (.cells vs.toArray 132 (0,0)))(d:vs.length=4)(f:∀u∈vs,u.oneCell'=true):
 Calls Tryz.prog 217 #[.slice none 0 0,.int .i64 0,.slice (some ⟨a,0,none⟩) 1 1] w λe w'=>∃A' g,e=.returned (.slice A' 1 g)/\w'.ownsRow base 132 4 (.slice A' 1 g) 1 vs/\Below base w w':=by
 obtain⟨i,j,l,m,n⟩:=dU Tryz.Fu;obtain⟨HOWN,o,p,q⟩:=aad (gV w base 132 4) c f d;clear c f d;go_enter yx,xw;go_wp2_with (at_builtin;refine lK _ rfl _ _ 70 rfl base 132 i _ 4 64 fQ j l m n rfl aar _ 0 _ rfl HOWN.o ⟨a,0,none⟩ 1 1 vs rfl q.o (cZ o.o) p.o aar aaS aar b _ rfl ?_;intro g4 cap4 w4 h r t v);go_ret;rw[jZ]at h;exact⟨_,_,rfl,h,(aC _ _).grown r b (λk s=>by cases s)⟩
theorem Np{base:Nat}(n cap i:Nat)(A:Option Addr)(xs vs:List Value)(a:Nat)(w:World)(o:n<=1000000)(hi:i<=n)(b:w.ownsRow base 132 4 (.slice A n cap) n xs)(d:base<=w.heap.size)
 (f:w.heap[a]?=some (.cells vs.toArray 132 (0,0))) (h:vs.length=4) (p:(Value.slice A n cap).ownBlock≠some a) (q:∀u∈xs,u.oneCell'=true) (j:∀u∈vs,u.oneCell'=true):
 Calls Tryz.prog 217 #[.slice A n cap,.int .i64 i,.slice (some ⟨a,0,none⟩) 1 1] w λe w'=>∃A' k,e=.returned (.slice A' (n+1) k)/\w'.ownsRow base 132 4 (.slice A' (n+1) k) (n+1) (xs.take (i*4)++vs++xs.drop (i*4))/\Below base w w':=by
 rcases b.2 with⟨e,h0⟩|⟨g,s,t,e,_⟩
 ·injection e with c l m;subst c;subst l;subst m;obtain rfl:i=0:=aar;have r:xs=[]:=dS.1 (aaz b.1);subst r;have:=Nr (base:=base) vs a w d f h j;simpa using this
 ·injection e with c l m;subst c;exact Ws n cap i g xs vs a w o hi b d f h (λe=>p (by rw[e];rfl)) q j
theorem ab4{p:Prop}(h:p:=by
 (go_simp;go_at_call 217;first|(refine(m.o d c2 xs _ x.drew _ (c.alloc _) (bP w3 _) (λe=>aaz ((c.lt _ e).2)) f (b.t ((ae w3 _).m b.size)) U.o).m ?_;rintro e w9 ⟨y,rfl,g,j⟩)|(refine(m.o d c2 xs _ _ _ c ((b.block _ (by rw[aK];exact dF _)).t S.o) (λe=>by have:=(c.lt _ e).1;rw[aK]at this;exact absurd this (uj _)) f b V.o).m ?_;rintro e w9 ⟨y,rfl,g,j⟩));(first|(refine a _ _ ?_;clear a K)|skip);(refine eG (i:=8) (v:=?_) aa4 aas aas aas aa3 (Or.inl ⟨aav,?_⟩) ?_;rotate_left 1;· (intro w;go_simp;(try with_reducible rfl)));refine kX aas ?_ _;obtain⟨z,B⟩:=aab g j;clear g j;go_wp2_with fail;go_ret;exact⟨_,rfl,z.o,B.o⟩):p:=h
theorem ab6{p:Prop}(h:p:=by
 go_simp;(first|(refine a _ _ ?_;clear a K)|skip);refine bY (rs:=[7]) aas aau ?_;refine bH aa4 (λK a=>?_) ?_
 ·exact ab4
 exact bS):p:=h
theorem Xv(s:ByteArray)(L:List Bd)(t:T)(bv v:Value)(w:World)(hb:gH w bv L)(hu:LP L)(k:L.length<=1000000)(X:s.size<=maxLen)(G:aS w v t):
 Calls Tryz.prog 187 #[bv,.string s,v] w λe w'=>∃u,e=.returned u/\gH w' u (ins L s t)/\Below w.heap.size w w':=by
 obtain⟨A,cap,rfl⟩:=bI.view G.uM;have H:=jy.new w (.int .i64 t.aA) (.string t.aI) (.slice A t.ay.length cap);have I:=ae w (.cells #[.int .i64 t.aA,.string t.aI,.slice A t.ay.length cap] 29);obtain⟨HT,Y,HU,HS⟩:=aad G hb hu X;obtain⟨p,C⟩:=aay (T.pos s L);have ak:=IB s L;have Z:=aa (λW J=>Nv s L bv W J hu aar);have l:=aa (λW J=>Pm L bv W J k);have m:=aa (λ(d:Option Addr) (c2:Nat) (xs:List Value) (D:Nat) (o W:World) (c:W.ownsRow o.heap.size 132 4 (.slice d L.length c2) L.length xs) (hv:W.heap[D]?=some (.cells [Value.string s,.int .i64 t.aA,.string t.aI,.slice A t.ay.length cap].toArray 132 (0,0))) (av:(Value.slice d L.length c2).ownBlock≠some D) (f:BC o xs L) (af:Below o.heap.size o W) (M:Below w.heap.size w o)=>
  show Calls Tryz.prog 217 #[.slice d L.length c2,.int .i64 (p:Int),.slice (some ⟨D,0,none⟩) 1 1] W λe w'=>∃u,e=.returned u/\gH w' u (ins L s t)/\Below w.heap.size w w' from by
   have ah:=(BC.one (s:=s) (HT.o.ag M) HS.o);refine(Np L.length c2 p d xs _ D W k (by rw[<-C];exact IB s L) c af.size hv rfl av f.one' ah.one').m ?_;rintro e w' ⟨A',c',rfl,ax,az⟩;have r:Below o.heap.size o w':=af.t az;refine⟨_,rfl,gH.yO ax (K3 L s t).symm ?_ aar,M.t (r.m M.size)⟩;have h1:=(((f.take p).append ah).append (f.drop p)).ag r;unfold ins;rw[C];simpa[List.append_assoc]using h1)
 rw[C]at Z;clear ak hu hb G X C k;go_enter Tryz.func187,Tryz.ntmps187;go_upto_region 1 with fail;generalize w.alloc _=w1 at H I⊢;obtain⟨N,BX⟩:=aab I H;clear H I;go_wp2_with fail;refine(Z.o _ (Y.o.ag N.o)).m ?_;rintro e x ⟨q,rfl,r⟩;have E:=aa (N.o.t (r.m N.o.size));obtain⟨x0,x1,x2⟩:=(BX.o.ag r).cells;have O:=aa (BX.o.ag r.drew);have P:=(Y.o.ag E.o.drew);have F:=ae x.drew (.cells #[.string s,.int .i64 t.aA,.string t.aI,.slice A t.ay.length cap] 132);obtain⟨Q,R,S,aB,U,V⟩:=aaf P (P.ag F) (bP x.drew (.cells #[.string s,.int .i64 t.aA,.string t.aI,.slice A t.ay.length cap] 132)) F E.o.drew (E.o.drew.t (F.m E.o.drew.size));obtain⟨n,k⟩:=aay L.length;rw[k]at l m;have aC:=aa k;clear r P F k;go_upto_region 2 with fail;refine pY aas ?_;(try(change wpAny _ _ _ _ _ _ _ (World.drew _)));(refine eG (i:=0) (v:=?_) aa2 aas aas aas aa3 (Or.inl ⟨aav,?_⟩) ?_;rotate_left 1;· (intro w;go_simp;(try with_reducible rfl)));(refine eG (i:=2) (v:=?_) aa4 aas aas aas aa3 (Or.inl ⟨aav,?_⟩) ?_;rotate_left 1;· (intro w;go_simp;(try with_reducible rfl)));(refine eG (i:=3) (v:=?_) aa4 aas aas aas aa3 (Or.inl ⟨aav,?_⟩) ?_;rotate_left 1;· (intro w;go_simp;(try with_reducible rfl)));refine bY (rs:=[1,4]) aas aau ?_;refine bH aa4 (λK a=>?_) ?_
 ·(go_simp;go_at_call 149;first|(refine(l.o _ Q.o).m ?_;rintro e w3 ⟨d,c2,xs,rfl,c,f,b⟩;obtain⟨z0,z1,z2⟩:=(O.o.ag b).cells)|(refine(l.o _ R.o).m ?_;rintro e w3 ⟨d,c2,xs,rfl,c,f,b⟩));(first|(refine a _ _ ?_;clear a K)|skip);refine bY (rs:=[4]) aas aau ?_;refine bH aa4 (λK a=>?_) ?_
  ·go_simp;(first|(refine a _ _ ?_;clear a K)|skip);(refine eG (i:=5) (v:=?_) aa4 aas aas aas aa3 (Or.inl ⟨aav,?_⟩) ?_;rotate_left 1;· (intro w;go_simp;(try with_reducible rfl)));refine bY (rs:=[6]) aas aau ?_;refine bH aa4 (λK a=>?_) ?_
   ·exact ab6
   exact bS
  exact bS
 refine bH aa4 (λK a=>?_) ?_
 ·go_simp;(first|(refine a _ _ ?_;clear a K)|skip);(refine eG (i:=5) (v:=?_) aa4 aas aas aas aa3 (Or.inl ⟨aav,?_⟩) ?_;rotate_left 1;· (intro w;go_simp;(try with_reducible rfl)));refine bY (rs:=[1,6]) aas aau ?_;refine bH aa4 (λK a=>?_) ?_
  ·(go_simp;go_at_call 149;first|(refine(l.o _ Q.o).m ?_;rintro e w3 ⟨d,c2,xs,rfl,c,f,b⟩;obtain⟨z0,z1,z2⟩:=(O.o.ag b).cells)|(refine(l.o _ R.o).m ?_;rintro e w3 ⟨d,c2,xs,rfl,c,f,b⟩));(first|(refine a _ _ ?_;clear a K)|skip);refine bY (rs:=[6]) aas aau ?_;refine bH aa4 (λK a=>?_) ?_
   ·exact ab6
   exact bS
  refine bH aa4 (λK a=>?_) ?_
  ·go_simp;(first|(refine a _ _ ?_;clear a K)|skip);refine bY (rs:=[1]) aas aau ?_;refine bH aa4 (λK a=>?_) ?_
   ·(go_simp;go_at_call 149;first|(refine(l.o _ Q.o).m ?_;rintro e w3 ⟨d,c2,xs,rfl,c,f,b⟩;obtain⟨z0,z1,z2⟩:=(O.o.ag b).cells)|(refine(l.o _ R.o).m ?_;rintro e w3 ⟨d,c2,xs,rfl,c,f,b⟩));(first|(refine a _ _ ?_;clear a K)|skip);refine bY (rs:=[7]) aas aau ?_;refine bH aa4 (λK a=>?_) ?_
    ·exact ab4
    exact bS
   exact bS
  exact bS
 exact bS
end
section
open Go.RowKit
theorem pE{w w':World}{base:Nat}{e:TypeId}{size n:Nat}{v:Value}{xs:List Value}(h:w.ownsRow base e size v n xs)(d:∀b,v.ownBlock=some b->b<w.heap.size->w'.heap[b]?=w.heap[b]?):w'.ownsRow base e size v n xs:=by
 refine⟨h.1,?_⟩;rcases h.2 with h0|⟨g,cap,f,a,hb,c,rest⟩;·exact .inl h0
 ·exact .inr ⟨g,cap,f,a,hb,(d g aa5 (aW.1 c).1).t c,rest⟩
theorem sW{w w':World}{b k:Nat}(h:w'.heap[b]?=w.heap[b]?):w'.frozen? ⟨b,k,none⟩=w.frozen? ⟨b,k,none⟩:=by
 unfold World.frozen?;rw[h]
theorem Nn(b n cap i j:Nat)(cs:List Value)(w:World)(s:cs.length=n*3)(z:j=i+1)(hi:i<n)(B:n<=cap)
 (f:∀j u,cs[j]?=some u->w.cell? ⟨b,j,none⟩=some u) (o:∀j,j<n*3->w.frozen? ⟨b,j,none⟩=false) (v:∀u∈cs,u.oneCell'=true):
 Calls Tryz.prog 220 #[.slice (some ⟨b,0,none⟩) n cap,.int .i64 i,.int .i64 j] w λe w'=>e=.returned (.slice (some ⟨b,0,none⟩) (n-1) cap)/\(∀k u,(cs.take (i*3)++cs.drop (j*3))[k]?=some u->w'.cell? ⟨b,k,none⟩=some u)/\(∀k,w'.frozen? ⟨b,k,none⟩=w.frozen? ⟨b,k,none⟩)/\Below b w w':=by
 obtain⟨C,D,M,E,N⟩:=dU Tryz.uN;have O:i<j:=aar;have P:j<=n:=aar;have x:i+(n-j)=n-1:=aar;have F:=aa x;clear x;obtain⟨news,d⟩:∃news,news=cs.drop (j*3):=⟨_,rfl⟩;have g:news.length=(n-j)*3:=(by rw[d,dO,s];omega);obtain⟨A,hA,G⟩:∃A:Addr,(if cap=j then some (⟨b,0,none⟩:Addr) else some ⟨b,j*3,none⟩)=some A/\Hid (∀t u,news[t]?=some u->w.drew.cell? (A.add t)=some u):=by
  by_cases h:cap=j
  ·refine⟨⟨b,0,none⟩,by simp[h],λt u hu=>?_⟩;have h0:news.length=0:=(by rw[g];omega);rw[dS.1 h0]at hu;simp at hu
  ·refine⟨⟨b,j*3,none⟩,by simp[h],λt u hu=>?_⟩;rw[d,gX]at hu;rw[cz];exact f _ u hu
 have s2:=aa (show ∀u∈news,u.oneCell'=true from λu hu=>v u (by rw[d]at hu;exact kM hu));have p:∀k,k<n*3->(w.cell? ⟨b,k,none⟩).isSome=true:=λk m=>by
  have:=az (l:=cs) (i:=k) aar;rw[f k _ this];rfl
 have y:=aa (show ∀t,t<news.length->(w.drew.cell? ⟨b,0+i*3+t,none⟩).isSome=true/\w.drew.frozen? ⟨b,0+i*3+t,none⟩=false from λt q=>by
  rw[g]at q;exact⟨p _ aar,o _ aar⟩)
 obtain⟨a,c⟩:∃a,a=w.drew.setCells b (0+i*3) news:=⟨_,rfl⟩;have H:=aa c;have Q:∀ty,(Builtin.clear_ #[23] ty #[.slice (some ⟨b,(i+(n-j))*3,none⟩) (n-(i+(n-j))) (cap-(i+(n-j)))]).run Tryz.prog a=.ok (.tuple #[]) (a.setCells b ((n-1)*3) [.int .i64 0,.string ByteArray.empty,.slice none 0 0]):=λty=>by
  rw[show n-(i+(n-j))=1 by omega,show i+(n-j)=n-1 by omega];exact zt a _ _ ty (.agg #[.int .i64 0,.string ByteArray.empty,.slice none 0 0]) _ _ _ cB xS (by simp[Value.cells]) aa6 b ((n-1)*3) _
   (λk m=>by rw[c];exact World.isSome_setCells b news _ _ _ (p _ aar)) (λk m=>by rw[c,nJ];exact o _ aar)
 have r:=aa (show(∀k u,(cs.take (i*3)++cs.drop (j*3))[k]?=some u->(a.setCells b ((n-1)*3) [.int .i64 0,.string ByteArray.empty,.slice none 0 0]).cell? ⟨b,k,none⟩=some u)/\(∀k,(a.setCells b ((n-1)*3) [.int .i64 0,.string ByteArray.empty,.slice none 0 0]).frozen? ⟨b,k,none⟩=w.frozen? ⟨b,k,none⟩)/\Below b w (a.setCells b ((n-1)*3) [.int .i64 0,.string ByteArray.empty,.slice none 0 0]) by
  refine⟨λk u hu=>?_,λk=>by rw[nJ,c,nJ];rfl,mX b _ _ (by rw[c];exact mX b _ _ (aC _ _).drew)⟩;have m:k<(n-1)*3:=by
   have:=(aU.1 hu).1;rw[aF,aX,dO]at this;omega
  rw[mG b _ _ _ _ (λ_ _=>.inl m),c];by_cases I:k<i*3
  ·rw[mG b _ _ _ _ (λ_ _=>.inl aaV)];rw[bN aaR,xm I]at hu;exact f k u hu
  ·rw[bq aaR,aX,<-d]at hu;have J:=kg (show i*3<=cs.length by omega);rw[J]at hu;obtain⟨K,L⟩:=aU.1 hu;have:=xU b news (0+i*3) w.drew (λt q=>(y.o t q).1) (k-i*3) K;rw[show 0+i*3+(k-i*3)=k by omega]at this;rw[this,L])
 clear f o v s p d c z;have R:i<=cap:=aar;have S:j<=cap:=aar;go_enter Tryz.func220,Tryz.ntmps220;go_wp2_with fail;go_region_law (refine step_append_room rfl (.tmp 22) (.tmp 25) 23 rfl 29 C 3 cB D E b 0 i cap aaU A (n-j) (cap-j) news (by simp[Act.eval,Act.put];done) g G.o s2.o aar y.o ?_;rw[<-H.o]);clear hA g;have T:i+(n-j)<=n:=aar;have U:n<=cap:=B;go_wp2_with fail;go_ret;exact⟨by rw[F.o];rfl,r.o.1,r.o.2.1,r.o.2.2⟩
end
section
open Go.RowKit T
attribute [local go_sem ↓] Go.wp_at_zero Go.wp_at_succ
theorem aS.K6{w:World}{v:Value}{t:T}(h:aS w v t):∃A cap,v=.agg #[.int .i64 t.aA,.string t.aI,.slice A t.ay.length cap]/\iY w A cap t.ay/\(0<t.ay.length->∃b off,A=some ⟨b,off,none⟩):=by
 cases h with
 |mk k s A cap a U f g c d hA hU=>
  refine⟨A,cap,rfl,.mk 0 ⟨#[]⟩ A cap a U aat aat c d hA hU,λh0=>?_⟩;rcases hA with h|⟨b,off,e,_⟩;·simp only[ay]at h0;omega
  ·exact⟨b,off,e⟩
theorem aS.La{w:World}{v:Value}{t:T}(h:aS w v t):t.aI.size<=maxLen:=by
 cases h with
 |mk k s A cap b U c a d e hA hU=>exact a
def Kv(w:World)(g:Nat)(t:T):Prop:=∃A c,jy w g (.int .i64 t.aA) (.string t.aI) (.slice A t.ay.length c)/\aS w (.agg #[.int .i64 t.aA,.string t.aI,.slice A t.ay.length c]) t
theorem Kv.ag{w w':World}{g:Nat}{t:T}(h:Kv w g t)(hb:Below w.heap.size w w'):Kv w' g t:=by
 obtain⟨A,c,a,b⟩:=h;exact⟨A,c,a.ag hb,b.ag hb⟩
theorem Pn(x v:T)(k:Value)(g:Nat)(w:World)(f:aS w k x)(t:Kv w g v)(l:x.bE<=1048576)(a:v.bE<=1048576):
 Calls Tryz.prog 219 #[k,.pointer (some ⟨g,0,none⟩)] w λe w'=>e=.returned (.bool (decide (x.cmp v=0)))/\Below w.heap.size w w':=by
 have m:=aa (λu y W z C=>Nl (x.bE+1) x v u y W aar z C l a);obtain⟨q,n⟩:=aay (x.cmp v);rw[n]at m⊢;clear n l a;obtain⟨A,c,rfl⟩:=bI.view f.uM;obtain⟨B,d,o,p⟩:=t;have b:=ae w (.cells #[.int .i64 x.aA,.string x.aI,.slice A x.ay.length c] 29);have h:=jy.new w (.int .i64 x.aA) (.string x.aI) (.slice A x.ay.length c);obtain⟨r,s⟩:=aab (f.ag b) (p.ag b);have i:=o.ag b;have j:=aa b;clear f p o b;go_enter Tryz.func219,Tryz.ntmps219;go_upto_region 1 with fail;generalize w.alloc _=E at h r s i j⊢;obtain⟨x0,F,G⟩:=h.cells;obtain⟨H,I,J⟩:=i.cells;clear h i;go_wp2_with fail;refine(m.o _ _ _ r.o s.o).m ?_;rintro e K ⟨rfl,a⟩;have D:=aa (j.o.t (a.m j.o.size));clear a;go_wp2_with fail;go_ret;exact⟨rfl,D.o⟩
theorem MK(v:T)(g:Nat)(A:Option Addr)(cap:Nat)(a:List T)(w:World)(s:iY w A cap a)(R:a.length<=1048576)(k:Kv w g v)(t:∀x∈a,x.bE<=1048576)(u:v.bE<=1048576):
 Calls Tryz.prog 109 #[.slice A a.length cap,.func (.func 219) #[] #[.pointer (some ⟨g,0,none⟩)]] w λe w'=>e=.returned (.int .i64 (fF v a))/\Below w.heap.size w w':=by
 obtain⟨D,E,F⟩:=aac s k ((λj (h:j<a.length) (y:Value) (W:World) (G:aS W y a[j]) (k:Kv W g v)=>Pn a[j] v y g W G k (t _ (aP h)) u));unfold fF;obtain⟨p,d⟩:∃p:T->Bool,(λx=>decide (cmp x v=0))=p:=⟨_,rfl⟩;have H:=aa (show ∀x,decide (cmp x v=0)=p x from λx=>congrFun d x);rw[d];clear s k t u d;go_enter uS,tT;go_wp2_with fail;go_loopw [8] (λi wr=>∃j:Nat,j<=a.length/\i=.int .i64 j/\(∀m (h:m<j) (S:m<a.length),p a[m]=false)/\Below w.heap.size w wr) (λi _=>a.length-(intOf i).toNat);case atStart=>exact⟨0,aT _,rfl,λm h=>absurd h aar,aC _ _⟩
 case round=>
  obtain⟨j,hj,rfl,z,c⟩:=hrel;have n:=aa z;clear z;by_cases f:j<a.length
  ·obtain⟨b,off,U,V,rfl,d0,d1,d2,hu⟩:=D.o.get f;obtain⟨I,J,K⟩:=aak c d0 d1 d2;have hi:(j:Int)<(a.length:Int):=aar;clear d0 d1 d2;obtain⟨L,M,B⟩:=aac (hu.ag c) (E.o.ag c) f;have o:=F.o j f;have d:=H.o (a[j]'f);obtain⟨q,r⟩:=aay (p (a[j]'f));rw[d,r]at o;have N:=aa o;clear o hu d;have C:=aa r;clear r;go_wp2_with fail;refine(N.o _ _ L.o M.o).m ?_;rintro e X ⟨rfl,l⟩;replace l:=c.t (l.m c.size);clear I J K;cases q
   ·go_wp2_with fail;go_roundw
    case rel=>
     refine⟨j+1,B.o,aaw,λm h O=>?_,l⟩;rcases bX m j with g|g;·exact n.o m g O
     ·obtain rfl:m=j:=aar;exact C.o
    case measure=>exact aax B.o
   ·have P:=aa (T.EK p a j f (λm g=>n.o m g aar) C.o);go_wp2_with fail;go_ret;exact⟨gI P.o.symm,l⟩
  ·have hi:(a.length:Int)<=(j:Int):=aar;have Q:=aa (T.EL p a (λm g=>n.o m aar g));go_wp2_with fail;go_ret;exact⟨gI Q.o.symm,c⟩
theorem DD(v:T)(g n:Nat)(A:Option Addr)(cap:Nat)(a:List T)(w:World)(b:n=a.length)(c:iY w A cap a)(d:n<=1048576)(f:Kv w g v)(h:∀x∈a,x.bE<=1048576)(i:v.bE<=1048576):
 Calls Tryz.prog 109 #[.slice A n cap,.func (.func 219) #[] #[.pointer (some ⟨g,0,none⟩)]] w λe w'=>e=.returned (.int .i64 (fF v a))/\Below w.heap.size w w':=by
 subst b;exact MK v g A cap a w c d f h i
def P5(r:Option (List Bd))(w:World)(e:Ending)(w':World):Prop:=Below w.heap.size w w'/\match r with
 |none=>∃v,e=.returned (.tuple #[v,.bool false])
 |some x=>∃v,e=.returned (.tuple #[v,.bool true])/\gH w' v x
structure Gd (w:World) (g2:Nat) (L:List Bd) (ts ps:List T) (R:Option (List T×ByteArray×Nat)) (n2 c2:Nat) (free:ByteArray) (opn:Nat) (wr:World) (left:List T) (xs:List Value):Prop where
 len:n2=left.length
 ct:CT (λb=>decide (b<g2)) wr xs left
 cells:∀k u,xs[k]?=some u->wr.cell? ⟨g2,k,none⟩=some u
 XU:∀k,wr.frozen? ⟨g2,k,none⟩=false
 cap:n2<=c2/\c2<=maxLen
 run:qH L ps left free opn=R
 sub:∀x∈left,x∈ts
 opn:0<opn->T.look L free=none
 YU:free.size<=maxLen
 below:Below w.heap.size w wr
 lt:w.heap.size+2<=g2/\g2<wr.heap.size
theorem Gd.ag{w:World}{a:Nat}{L:List Bd}{c ps:List T}{R:Option (List T×ByteArray×Nat)}{n2 c2:Nat}{free:ByteArray}{opn:Nat}{wr w':World}{left:List T}{xs:List Value}(h:Gd w a L c ps R n2 c2 free opn wr left xs)(hb:Below wr.heap.size wr w'):Gd w a L c ps R n2 c2 free opn w' left xs:=
 ⟨h.len,h.ct.aR λb hS d=>⟨hS,hb.block b d⟩,λk u hu=>af hb (h.cells k u hu),λk=>(sW (hb.block a h.lt.2)).t (h.XU k),h.cap,h.run,h.sub,h.opn,h.YU,h.below.t (hb.m h.below.size),h.lt.1,dw h.lt.2 hb.size⟩
theorem Gd.set{w:World}{a:Nat}{L:List Bd}{d ps:List T}{R:Option (List T×ByteArray×Nat)}{n2 c2:Nat}{free:ByteArray}{opn:Nat}{wr:World}{left:List T}{xs:List Value}(h:Gd w a L d ps R n2 c2 free opn wr left xs){g:Nat}(f:a<g)(i:Nat)(u:Value):Gd w a L d ps R n2 c2 free opn (wr.setCell ⟨g,i,none⟩ u) left xs:=by
 have e:=h.lt;have c:∀b,b<=a->(wr.setCell ⟨g,i,none⟩ u).heap[b]?=wr.heap[b]?:=λb hb=>aL _ _ _ _ (by show b≠g;omega);exact⟨h.len,h.ct.aR λb hS _=>⟨hS,c b (jo (ak hS))⟩,λk u hu=>(dB (c a (ax _))).t (h.cells k u hu),λk=>(sW (c a (ax _))).t (h.XU k),h.cap,h.run,h.sub,h.opn,h.YU,h.below.setCell (show w.heap.size<=g by omega) _,e.1,by have:=e.2;simpa[World.setCell]using this⟩
theorem Gd.bF{w:World}{a:Nat}{L:List Bd}{c ps:List T}{R:Option (List T×ByteArray×Nat)}{n2 c2:Nat}{free:ByteArray}{opn:Nat}{wr:World}{left:List T}{xs:List Value}(h:Gd w a L c ps R n2 c2 free opn wr left xs):iY wr (some ⟨a,0,none⟩) c2 left:=by
 have e:=h.len;have d:=h.cap;have:=CT.term (b:=a) (cap:=c2) (h.ct.aR (S':=λ_=>true) λb _ _=>⟨rfl,rfl⟩) h.cells rfl 0 ⟨#[]⟩ aat aat aar d.2;exact this.at
theorem ab3{p:Prop}(h:p:=by
 refine(DD v S m (some ⟨q,0,none⟩) c2 left _ J.o.len J.o.bF P.o.2 bi.o (λy hy=>dn.o y (J.o.sub y hy)) bM.o).m ?_;rintro e w7 ⟨rfl,aK⟩;have a:=aa (J.o.ag aK);clear aK;have f:=aG.o;obtain⟨D,E⟩:=aay (fF v left);rw[E]at f⊢;by_cases aL:D<0
 ·rw[aJ aL]at f;subst f;go_wp2_with fail;go_ret2;exact⟨a.o.below,_,rfl⟩
 ·rw[aH aL]at f;obtain⟨K,_⟩:=Dh (v:=v) (l:=left) (by rw[E];omega);rw[E]at K;obtain⟨i,hi⟩:∃i:Nat,D=(i:Int):=⟨D.toNat,aar⟩;subst hi;rw[iX]at f K;have bP:i<m:=(aaz a.o.len);have bQ:=a.o.cap.1;have dR:IntKind.i64.wrap ((i:Int)+1)=((i+1:Nat):Int):=(by rw[mO];have:=P.o;omega);obtain⟨av,bR,dS⟩:=aac f K E;clear f K E;go_wp2_with fail;refine(Nn q m c2 i (i+1) xs _ (by rw[a.o.ct.1,a.o.len]) rfl bP bQ (λk u hu=>by simpa using a.o.cells k u hu) (λk _=>a.o.XU k) a.o.ct.one').m ?_;rintro e w8 ⟨rfl,aN,aO,M⟩;have aQ:Gd w q L H (F.drop (j+1)) R (m-1) c2 free opn w8 (left.eraseIdx i) (xs.take (i*3)++xs.drop ((i+1)*3)):=by
   refine⟨by rw[jW bR.o,a.o.len],(a.o.ct.erase i).aR λb hb r=>⟨hb,M.block b (ak hb)⟩,aN,λk=>(aO k).t (a.o.XU k),⟨aar,a.o.cap.2⟩,av.o,λy hy=>a.o.sub y (pO hy),a.o.opn,a.o.YU,a.o.below.t (M.m (aaz a.o.lt)),⟨a.o.lt.1,dw a.o.lt.2 M.size⟩⟩
  have bS:=aa aQ;clear aN aO M aQ;go_wp2_with fail;go_roundw;case rel=>exact⟨j+1,m-1,free,opn,left.eraseIdx i,_,Q.o,aaw,rfl,rfl,rfl,aaz P.o,bS.o⟩
  case measure=>exact aax Q.o):p:=h
theorem ab5{p:Prop}(h:p:=by
 go_wp2_with fail;go_ret2;refine⟨N.o.below,?_⟩;rw[O.o];exact⟨_,rfl⟩):p:=h
theorem Wv(p t:T)(L:List Bd)(pv tv bv:Value)(w:World)(hp:aS w pv p)(ht:aS w tv t)(hb:gH w bv L)(hB:QV 1048576 L)(hL:L.length<=1000000)(bn:p.bE<=1048576)(bq:t.bE<=1048576)(h0:0<t.ay.length):
 Calls Tryz.prog 188 #[pv,tv,bv] w (P5 (pow p.ay t.ay L) w):=by
 obtain⟨A,c,rfl,aC,_⟩:=hp.K6;obtain⟨B,d,rfl,_,bW⟩:=ht.K6;obtain⟨Y,Z,ah,aF⟩:=oq w (.int .i64 p.aA) (.string p.aI) (.slice A p.ay.length c) (.int .i64 t.aA) (.string t.aI) (.slice B t.ay.length d);obtain⟨HT,bu,bX,bY,dJ,HP⟩:=aaf (ht.ag ah) hb hB (BD bn) (BD bq) aC;have bz:t.ay.length<=1048576:=by
  cases t with
  |mk k s ks=>have:=T.lq ks;simp only[bE]at bq;simp only[ay];omega
 have bA:p.ay.length<=1048576:=by
  cases p with
  |mk k s ks=>have:=T.lq ks;simp only[bE]at bn;simp only[ay];omega
 obtain⟨R,hR⟩:=aay (qH L p.ay t.ay ⟨#[]⟩ 0);have HR:=aa hR;unfold pow;rw[hR];obtain⟨F,bZ⟩:=aay p.ay;obtain⟨H,cu⟩:=aay t.ay;have cB:=aa cu;obtain⟨nb,bB⟩:=aay F.length;rw[bZ]at Y Z ah HT bY HP bA HR aF⊢;rw[bB]at Y Z ah HT bA aF⊢;have cK:=aa bB;obtain⟨tb,ta,rfl⟩:=bW h0;clear hp ht hb hB bn bq hR bZ cu bB aC bW;go_enter Tryz.func188,Tryz.ntmps188;go_upto_region 1 with fail;generalize(w.alloc (.cells #[.int .i64 p.aA,.string p.aI,.slice A nb c] 29)).alloc (.cells #[.int .i64 t.aA,.string t.aI,.slice (some ⟨tb,ta,none⟩) t.ay.length d] 29)=w1 at Y Z ah aF HT⊢;obtain⟨x0,x1,x2⟩:=Y.cells;obtain⟨y0,y1,y2⟩:=Z.cells;obtain⟨BX,BY,cO,dK⟩:=aad Y Z ah aF;clear Y Z ah aF;go_wp2_with fail;refine(UA _ HT.o.uM rfl h0 bz).m ?_;rintro e w2 ⟨q,c2,xs,rfl,bC,cZ,aV⟩;obtain⟨_,ek,df,dh,eu,bD,_,_⟩:=DY bC;have dm:Gd w q L H F R t.ay.length c2 ⟨#[]⟩ 0 w2 H xs:=by
  have e:=cB.o;refine⟨by rw[e],?_,λk u hu=>?_,λk=>?_,⟨df,dh⟩,by rw[<-e];exact HR.o,λx hx=>hx,λh=>aar,aat,cO.o.t (aV.m cO.o.size),⟨aaz dK.o,(aW.1 bD).1⟩⟩
  ·rw[<-e];exact cZ.aR λb hb r=>⟨aM (aaz (ak hb)),aV.block b r⟩
  ·have:=bC.cells (g:=q) rfl k u hu;rw[cz]at this;simpa using this
  ·unfold World.frozen?;rw[bD];simp
 obtain⟨av,dL⟩:=aab dm (BX.o.ag aV);have dn:=aa (show ∀x∈H,x.bE<=1048576 by rw[<-cB.o];exact dJ.o);obtain⟨x0,x1,x2⟩:=dL.o.cells;obtain⟨n0,dx⟩:=aay t.ay.length;rw[dx]at av bz⊢;clear y0 y1 y2 bC cZ aV bD dm dx h0 df dh;go_wp2_with fail;have eF:nb<=1048576:=bA;clear x0 x1 x2;go_loopw [22,8,9,10] (λiv lv fv ov wr=>∃(j m:Nat) (free:ByteArray) (opn:Nat) (left:List T) (xs:List Value),j<=nb/\iv=.int .i64 j/\lv=.slice (some ⟨q,0,none⟩) m c2/\fv=.string free/\ov=.int .i64 opn/\(opn<=j/\m<=1048576)/\Gd w q L H (F.drop j) R m c2 free opn wr left xs) (λiv _ _ _ _=>nb-(intOf iv).toNat);case atStart=>exact⟨0,n0,⟨#[]⟩,0,H,xs,aT _,rfl,rfl,rfl,rfl,⟨ax _,bz⟩,av.o⟩
 case round=>
  obtain⟨j,m,free,opn,left,xs,hj,rfl,rfl,rfl,rfl,dM,n⟩:=hrel;have P:=aa dM;by_cases bG:j<nb
  ·have aX:j<F.length:=(by rw[cK.o];exact bG);obtain⟨pb,po,B1,C1,rfl,aY,aZ,bf,hu⟩:=HP.o.get aX;have f:=n.run;rw[dN aX]at f;have bH:=bY.o _ (aP aX);obtain⟨k,nm,z,aC⟩:∃k nm z,F[j]=.mk k nm z:=by
    cases F[j]with
    |mk k nm z=>exact⟨k,nm,z,rfl⟩
   rw[aC]at f bH aY aZ bf hu;have dz:val L (.mk k nm z)=if k=2 then T.look L nm else some (.mk k nm z):=rfl
   simp only[qH]at f;rw[dz]at f;dsimp only[T.aA,T.aI,T.ay]at aY aZ bf hu f;obtain⟨d0,d1,d2⟩:=aak n.below aY aZ bf;have hi:(j:Int)<(nb:Int):=aar;have hq:=ae wr (.cells #[.int .i64 k,.string nm,.slice B1 z.length C1] 29);have o:=jy.new wr (.int .i64 k) (.string nm) (.slice B1 z.length C1);have HU:=aa (hu.ag (n.below.t (hq.m n.below.size)));have hh:=n.ag hq;have dA:q<wr.heap.size:=n.lt.2;obtain⟨Q,dB,dO⟩:=aac bG bH (show nm.size<=maxLen from hu.La);clear n hq hu bH aY aZ bf dz aC aX hj bG;go_upto_region 7 with fail;generalize wr.alloc _=w3 at o hh HU⊢;have bI:=dA;generalize wr.heap.size=S at o bI⊢;have bJ:=aa bI;clear d0 d1 d2 bI dA;by_cases dC:k=2
   ·subst dC;rw[aJ rfl]at f;obtain⟨U,V,W⟩:=o.cells;obtain⟨bg,dD,dE⟩:=aac (Lh nm L bv w w3 bu.o hh.below) hh o;clear hh o;cases r:T.look L nm with
    |none=>
     rw[r]at bg f;obtain⟨HL,aG⟩:=aab r f;clear r f;go_wp2_with fail;refine bg.o.m ?_;rintro e w5 ⟨C,he⟩;have bK:e=.returned (.tuple #[.agg #[.int .i64 0,.string ⟨#[]⟩,.slice none 0 0],.bool false]):=he;subst bK;have X:=ae w5 (.cells #[.int .i64 0,.string ⟨#[]⟩,.slice none 0 0] 29);have aB:=dD.o.ag (C.t (X.m C.size));obtain⟨U,V,W⟩:=(dE.o.ag (C.t (X.m C.size))).cells;have eG:IntKind.i64.wrap ((opn:Int)+1)=((opn+1:Nat):Int):=(by rw[mO];have:=P.o;have:=Q.o;omega);have I:=aa aB;clear he C X aB;go_upto_region 9 with fail;generalize w5.alloc _=w6 at U V W I⊢;go_wp2_with fail;go_roundw;case rel=>exact⟨j+1,m,nm,opn+1,left,xs,Q.o,aaw,rfl,rfl,(by rw[Int.natCast_add];rfl),aaz P.o,⟨I.o.len,I.o.ct,I.o.cells,I.o.XU,I.o.cap,aG.o,I.o.sub,λ_=>HL.o,dO.o,I.o.below,I.o.lt⟩⟩
     case measure=>exact aax Q.o
    |some v=>
     rw[r]at bg f;dsimp only at f;have bL:=(bX.o.2 _ (pU r).choose_spec.1);rw[(pU r).choose_spec.2.2]at bL;obtain⟨bM,aG⟩:=aab bL f;clear r bL f;go_wp2_with fail;refine bg.o.m ?_;rintro e w5 ⟨C,he⟩;have bK:∃A c,e=.returned (.tuple #[.agg #[.int .i64 v.aA,.string v.aI,.slice A v.ay.length c],.bool true])/\aS w (.agg #[.int .i64 v.aA,.string v.aI,.slice A v.ay.length c]) v:=he;obtain⟨A5,c5,rfl,dF⟩:=bK;have X:=ae w5 (.cells #[.int .i64 v.aA,.string v.aI,.slice A5 v.ay.length c5] 29);have bN:=jy.new w5 (.int .i64 v.aA) (.string v.aI) (.slice A5 v.ay.length c5);have aB:=dD.o.ag (C.t (X.m C.size));have o:=dE.o.ag (C.t (X.m C.size));have dP:=aa dF;clear he C X U V W dF;go_upto_region 9 with fail;generalize w5.alloc _=w6 at o bN aB⊢;obtain⟨U,V,W⟩:=o.cells;obtain⟨f0,f1,f2⟩:=o.free;obtain⟨y0,y1,y2⟩:=bN.cells;have bO:=((aB.set bJ.o 0 (.int .i64 v.aA)).set bJ.o 1 (.string v.aI)).set bJ.o 2 (.slice A5 v.ay.length c5);obtain⟨bi,J⟩:=aab ((show Kv (((w6.setCell ⟨S,0,none⟩ (.int .i64 v.aA)).setCell ⟨S,1,none⟩ (.string v.aI)).setCell ⟨S,2,none⟩ (.slice A5 v.ay.length c5)) S v from⟨A5,c5,dX o _ _ _,dP.o.ag bO.below⟩)) bO;clear bO aB o bN;go_wp2_with fail;clear U V W f0 f1 f2 y0 y1 y2;exact ab3
   ·rw[aH dC]at f;dsimp only at f;obtain⟨U,V,W⟩:=o.cells;have bi:=aa (show Kv w3 S (.mk k nm z)from⟨B1,C1,o,HU.o⟩);generalize hv:T.mk k nm z=v at f bi dB;obtain⟨bM,J,aG⟩:=aac dB.o hh f;clear hh o hv f;go_wp2_with fail;clear U V W;exact ab3
  ·obtain rfl:j=nb:=aar;have bT:=n.run;rw[lh (by rw[cK.o];exact ax _)]at bT;have dU:R=some (left,free,opn):=bT.symm;subst dU;have G:=n.len;have aU:=n.opn;have N:=aa n;have hi:¬(j:Int)<(j:Int):=aar;clear n bT;by_cases ho:opn=0
   ·subst ho;have dV:=aa (bu.o.ag N.o.below);clear aU;by_cases hz:m=0
    ·have O:=aa (show rH L (some (left,free,0))=some L from by simp only[rH,<-G,aJ hz,rD]);subst hz;clear G;go_wp2_with fail;go_ret2;refine⟨N.o.below,?_⟩;rw[O.o];exact⟨_,rfl,dV.o⟩
    ·have O:=aa (show rH L (some (left,free,0))=none from by simp only[rH,<-G,aH hz,rD]);have eH:((m:Int)==0)=false:=aaI;clear G;exact ab5
   ·have eO:((opn:Int)==0)=false:=aaI;by_cases h1:opn=1
    ·subst h1;by_cases dW:m=1
     ·subst dW;have eQ:=aa (aU aat);have bU:0<left.length:=aar;obtain⟨lb,lo,Bx,cx,eA,d0,d1,d2,bV⟩:=N.o.bF.get bU;injection eA with eA;injection eA with eA eB;subst eA;subst eB;obtain⟨y,hy⟩:=aay (left[0]);have O:=aa (show rH L (some (left,free,1))=some (ins L free y)from by
       simp only[rH,<-G,az bU,hy];rfl)
      rw[hy]at d0 d1 d2 bV;simp only[qV,fC,eP]at d0 d1 d2;obtain⟨dY,dZ,dG⟩:=aac (λv=>Xv free L y bv v _ (bu.o.ag N.o.below) bX.o.1 hL N.o.YU) bV N.o.below;clear aU bU hy bV G;go_wp2_with fail;refine(dY.o _ dZ.o).m ?_;rintro e w9 ⟨v9,rfl,dH,dI⟩;obtain⟨d9,ed⟩:=aab dH (dG.o.t (dI.m dG.o.size));clear dH dI d0 d1 d2;go_wp2_with fail;go_ret2;refine⟨ed.o,?_⟩;rw[O.o];exact⟨_,rfl,d9.o⟩
     ·have O:=aa (show rH L (some (left,free,1))=none from by
       simp only[rH,<-G];rw[aH aar,aH aaF])
      have eT:((m:Int)==1)=false:=aaI;clear aU G;exact ab5
    ·have O:=aa (show rH L (some (left,free,opn))=none from by
      simp only[rH,<-G];rw[aH ho,aH aaF])
     have eU:((opn:Int)==1)=false:=aaI;clear aU G;exact ab5
theorem Lr(l:List T)(j:Nat)(h:j<l.length):dJ (l.drop j)=l[j].size+dJ (l.drop (j+1)):=by
 rw[dN h];rfl
theorem Nc{ps a:List T}{b:List Bd}{j:Nat}(h:j<ps.length)(h':j<a.length):kW (ps.drop j) (a.drop j) b=match FE ps[j] a[j] b with
 |none=>none
 |some c=>kW (ps.drop (j+1)) (a.drop (j+1)) c:=by
 rw[dN h,dN h'];simp only[kW];rfl
theorem ab7{p:Prop}(h:p:=by
 go_wp2_with fail;go_ret2;exact⟨f.o,_,rfl⟩):p:=h
theorem Yb:∀(N:Nat) (p t:T) (L:List Bd) (pv tv bv:Value) (w:World),p.bE<N->aS w pv p->aS w tv t->gH w bv L->QV 1048576 L->L.length+p.size<=1000000->p.bE<=1048576->t.bE<=1048576->p.shape=true->
 Calls Tryz.prog 153 #[pv,tv,bv] w (P5 (FE p t L) w):=by
 intro N;induction N with
 |zero=>intro p t L pv tv bv w h;omega
 |succ N ih=>
  intro p t L pv tv bv w hN hp ht hb hB hL bR O bS;obtain⟨A,c,rfl,az,_⟩:=hp.K6;obtain⟨B,d,rfl,aB,aY⟩:=ht.K6;obtain⟨k,s,a,rfl⟩:∃k s a,p=.mk k s a:=by
   cases p with
   |mk k s a=>exact⟨k,s,a,rfl⟩
  obtain⟨k',m,b,rfl⟩:∃k s a,t=.mk k s a:=by
   cases t with
   |mk k s a=>exact⟨k,s,a,rfl⟩
  have aZ:=hp.La;dsimp only[T.aA,T.aI,T.ay]at az aB aY hp ht aZ⊢;have bf:FE (.mk k s a) (.mk k' m b) L=if k=2 then (match T.look L s with
   |some v=>if cmp v (.mk k' m b)=0 then some L else none
   |none=>some (ins L s (.mk k' m b)))
   else if k≠k'\/s≠m\/a.length≠b.length then none
   else if k=7 then pow a b L else kW a b L:=by
   simp only[FE,T.aA,T.aI,T.ay];rfl
  obtain⟨R,hR⟩:=aay (FE (.mk k s a) (.mk k' m b) L);rw[hR]at bf⊢;have bg:=aa bf;clear hR;obtain⟨bx,aQ,bi,G⟩:=oq w (.int .i64 k) (.string s) (.slice A a.length c) (.int .i64 k') (.string m) (.slice B b.length d);obtain⟨HP,cZ,bn,df,HB,aR,IH,bT,HN⟩:=aai az aB ht hp hb hB ih bS hN;obtain⟨HL,bq,bu,dh,dF⟩:=aae hL bR O aZ aY;clear az aB ht hp hb hB ih bf aY bS hN hL bR O aZ;go_enter Tryz.func153,Tryz.ntmps153;go_upto_region 1 with fail;generalize(w.alloc (.cells #[.int .i64 k,.string s,.slice A a.length c] 29)).alloc (.cells #[.int .i64 k',.string m,.slice B b.length d] 29)=w1 at bx aQ bi G⊢;obtain⟨x0,x1,x2⟩:=bx.cells;obtain⟨P,Q,E⟩:=aQ.cells;obtain⟨BX,BY,f,dG⟩:=aad bx aQ bi G;clear bx aQ bi G;by_cases bU:k=2
  ·subst bU;have aU:=aa (Lh s L bv w w1 HB.o f.o);cases H:T.look L s with
   |none=>
    rw[H]at aU;obtain rfl:R=some (ins L s (.mk k' m b)):=bg.o.t (by rw[aJ rfl,H]);have dH:=aa H;clear H;go_wp2_with fail;refine aU.o.m ?_;rintro e Z ⟨C,o⟩;have bz:e=.returned (.tuple #[.agg #[.int .i64 0,.string ⟨#[]⟩,.slice none 0 0],.bool false]):=o;subst bz;have aG:=ae Z (.cells #[.int .i64 0,.string ⟨#[]⟩,.slice none 0 0] 29);have U:=C.t (aG.m C.size);have u:=aa (f.o.t (U.m f.o.size));obtain⟨u0,u1,u2⟩:=(BX.o.ag U).cells;obtain⟨z0,z1,z2⟩:=(BY.o.ag U).cells;clear o C aG U x0 x1 x2 P Q E;go_upto_region 3 with fail;generalize Z.alloc _=w3 at u u0 u1 u2 z0 z1 z2⊢;have dn:=aa (Xv s L (.mk k' m b) bv _ w3 (HB.o.ag u.o) aR.o.1 (aaz HL.o) dh.o (bn.o.ag u.o));go_wp2_with fail;refine dn.o.m ?_;rintro e w4 ⟨v4,rfl,aK,z⟩;obtain⟨bA,F⟩:=aab aK (u.o.t (z.m u.o.size));clear aK z u0 u1 u2 z0 z1 z2;go_wp2_with fail;go_ret2;exact⟨F.o,_,rfl,bA.o⟩
   |some v=>
    rw[H]at aU;have bB:=(aR.o.2 _ (pU H).choose_spec.1);rw[(pU H).choose_spec.2.2]at bB;have dw:=aa bB;have dx:=aa (show R=if cmp v (.mk k' m b)=0 then some L else none from bg.o.t (by rw[aJ rfl,H]));clear H bB;go_wp2_with fail;refine aU.o.m ?_;rintro e Z ⟨C,o⟩;have bz:∃A c,e=.returned (.tuple #[.agg #[.int .i64 v.aA,.string v.aI,.slice A v.ay.length c],.bool true])/\aS w (.agg #[.int .i64 v.aA,.string v.aI,.slice A v.ay.length c]) v:=o;obtain⟨A5,c5,rfl,bV⟩:=bz;have aG:=ae Z (.cells #[.int .i64 v.aA,.string v.aI,.slice A5 v.ay.length c5] 29);have U:=C.t (aG.m C.size);have u:=aa (f.o.t (U.m f.o.size));obtain⟨z0,z1,z2⟩:=(BY.o.ag U).cells;have bC:=jy.new Z (.int .i64 v.aA) (.string v.aI) (.slice A5 v.ay.length c5);have bW:=aa (bV.ag u.o);clear o C aG U x0 x1 x2 P Q E bV;go_upto_region 3 with fail;generalize Z.alloc _=w3 at u z0 z1 z2 bC bW⊢;obtain⟨u0,u1,u2⟩:=bC.cells;have HC:=aa (Nl (v.bE+1) v (.mk k' m b) _ _ w3 aar bW.o (bn.o.ag u.o) dw.o bu.o);obtain⟨q,y⟩:=aay (v.cmp (.mk k' m b));have bX:cmp v (.mk k' m b)=q:=y;rw[y]at HC;have aL:=dx.o;rw[bX]at aL;clear bC y bX;by_cases h0:q=0
    ·subst h0;rw[aJ rfl]at aL;subst aL;go_wp2_with fail;refine HC.o.m ?_;rintro e w4 ⟨rfl,z⟩;have F:=aa (u.o.t (z.m u.o.size));clear z u0 u1 u2 z0 z1 z2;go_wp2_with fail;go_ret2;exact⟨F.o,_,rfl,HB.o.ag F.o⟩
    ·rw[aH h0]at aL;subst aL;have dI:(q==0)=false:=(by rw[aD];exact h0);go_wp2_with fail;refine HC.o.m ?_;rintro e w4 ⟨rfl,z⟩;have F:=aa (u.o.t (z.m u.o.size));clear z u0 u1 u2 z0 z1 z2;go_wp2_with fail;go_ret2;exact⟨F.o,_,rfl⟩
  ·have l:=bg.o;rw[aH bU]at l;by_cases e1:k=k'
   ·subst e1;by_cases e2:s=m
    ·subst e2;by_cases e3:a.length=b.length
     ·rw[aH (by simp[e3])]at l;have aM:((a.length:Int) != (b.length:Int))=false:=(by rw[e3];simp);have bY:=aa e3;clear e3;by_cases h7:k=7
      ·subst h7;rw[aJ rfl]at l;have dA:=aa l;clear l;have aN:=bq.o;have O:=bu.o;have h0:0<b.length:=(by rw[<-bY.o];exact(T.FU bT.o).1);have bZ:=aa (Wv (.mk 7 s a) (.mk 7 s b) L _ _ bv w1 (df.o.ag f.o) (bn.o.ag f.o) (HB.o.ag f.o) aR.o (aaz HL.o) aN O h0);dsimp only[T.aA,T.aI,T.ay]at bZ;clear h0 aN O;go_wp2_with fail;refine bZ.o.m ?_;rintro e Z ⟨C,o⟩;have cu:=aa (f.o.t (C.m f.o.size));have l:=dA.o;revert o l;cases pow a b L with
       |none=>
        rintro⟨v,rfl⟩ rfl;clear C x0 x1 x2 P Q E aM;go_wp2_with fail;go_ret2;exact⟨cu.o,_,rfl⟩
       |some x=>
        rintro⟨v,rfl,hv⟩ rfl;have HV:=aa hv;clear C x0 x1 x2 P Q E aM hv;go_wp2_with fail;go_ret2;exact⟨cu.o,_,rfl,HV.o⟩
      ·rw[aH h7]at l;have dB:=aa l;have dC:=aa (show dJ a<=1000000-L.length from by have:=HL.o;simp only[size]at this;omega);obtain⟨n,hn⟩:=aay a.length;have cz:=aa hn;have dK:n<=1048576:=by
        have:=T.lq a;have h2:=bq.o;simp only[bE]at h2;omega
       rw[hn]at x2 BX aM⊢;clear hn l;go_wp2_with fail;clear x0 x1 x2 aM;go_loopw [70,2] (λiv bw wr=>∃(j:Nat) (I:List Bd),j<=n/\iv=.int .i64 j/\gH wr bw I/\QV 1048576 I/\I.length+dJ (a.drop j)<=1000000/\R=kW (a.drop j) (b.drop j) I/\Below w1.heap.size w1 wr) (λiv _ _=>n-(intOf iv).toNat);case atStart=>exact⟨0,L,aT _,rfl,HB.o.ag f.o,aR.o,by rw[oF];have:=dC.o;have:=HL.o;omega,by rw[oF,oF];exact dB.o,aC _ _⟩
       case round=>
        obtain⟨j,I,hj,rfl,aV,aO,G,V,ah⟩:=hrel;by_cases bD:j<n
        ·have ak:j<a.length:=(by rw[cz.o];exact bD);have aW:j<b.length:=(by rw[<-bY.o];exact ak);have J:=f.o.t (ah.m f.o.size);obtain⟨pb,po,B1,C1,rfl,bF,bG,bH,hu⟩:=HP.o.get ak;obtain⟨X,Y,B2,C2,eB,bI,bJ,bK,bL⟩:=cZ.o.get aW;subst eB;rw[Nc ak aW]at V;rw[Lr a j ak]at G;have aN:=bq.o;have O:=bu.o;simp only[bE]at aN O;have cB:=HN.o;simp only[bE]at cB;have b1:=T.jq a j ak;have b2:=T.jq b j aW;have bM:=T.I1 bT.o j ak;obtain⟨g,az⟩:=aay (a[j]);obtain⟨D,aB⟩:=aay (b[j]);rw[az]at bF bG bH hu V G b1 bM;rw[aB]at bI bJ bK bL V b2;obtain⟨d0,d1,d2⟩:=aak J bF bG bH;have hi:(j:Int)<(n:Int):=aar;have y:=ae wr (.cells #[.int .i64 g.aA,.string g.aI,.slice B1 g.ay.length C1] 29);have aX:=jy.new wr (.int .i64 g.aA) (.string g.aI) (.slice B1 g.ay.length C1);have g0:=af y (af J bI);have g1:=af y (af J bJ);have g2:=af y (af J bK);obtain⟨P,Q,E⟩:=((BY.o.ag ah).ag y).cells;have dL:(0:Int)<=(j:Int):=aar;have dM:(j:Int)<(b.length:Int):=aar;obtain⟨HU,bN,aP,av,cK,dN,dD,bO⟩:=aah ((hu.ag J).ag y) ((bL.ag J).ag y) (aV.ag y) (ah.t (y.m ah.size)) bD aO G V;have bP:=aa (λv1 v2 v3 W h1 h2 h3=>IH.o g D I v1 v2 v3 W aar h1 h2 h3 aO aar aar aar bM);have cO:=λx=>BH (M:=1048576) g D I x aO aar;have bQ:=aa cO;clear J bF bG bH bI bJ bK hu bL aN O cB b1 b2 bM az aB ak aW y aV aO G V ah hj bD cO;go_upto_region 14 with fail;generalize wr.alloc _=wq at aX g0 g1 g2 P Q E HU bN aP av⊢;generalize wr.heap.size=aF at aX⊢;obtain⟨q0,q1,q2⟩:=aX.cells;clear d0 d1 d2 aX;obtain⟨r,hr⟩:=aay (FE g D I);rw[hr]at bP bO bQ;clear hr;cases r with
         |none=>
          obtain rfl:R=none:=bO.o;refine dm (S:=(λi=>i.cell? ⟨aF,0,none⟩=some (.int .i64 g.aA)/\i.cell? ⟨aF,1,none⟩=some (.string g.aI)/\i.cell? ⟨aF,2,none⟩=some (.slice B1 g.ay.length C1)/\i.cell? ⟨w.heap.size+1,2,none⟩=some (.slice (some ⟨X,Y,none⟩) b.length d)/\i.cell? ⟨X,Y+j*3,none⟩=some (.int .i64 D.aA)/\i.cell? ⟨X,Y+j*3+1,none⟩=some (.string D.aI)/\i.cell? ⟨X,Y+j*3+2,none⟩=some (.slice B2 D.ay.length C2)/\Below wq.heap.size wq i)) aas (show _/\_/\_/\_/\_/\_/\_/\_ from⟨q0,q1,q2,E,g0,g1,g2,(aC _ wq).drew⟩) (λhHeld=>?_);refine dz 0 _ ?_;refine dz 1 _ ?_;refine dz 2 _ ?_;refine dz 3 _ ?_;refine dz 4 _ ?_;refine dz 5 _ ?_;refine dz 6 _ ?_;(refine yR 7 λK hK=>?_;go_simp;go_at_call 153;refine(bP.o _ _ _ _ (HU.o.ag hHeld.2.2.2.2.2.2.2) (bN.o.ag hHeld.2.2.2.2.2.2.2) (aP.o.ag hHeld.2.2.2.2.2.2.2)).m ?_;rintro e wz ⟨z,o⟩;obtain⟨v4,rfl⟩:=(show ∃v,e=.returned (.tuple #[v,.bool false])from o);clear o;refine mZ hK (Cm hHeld z) λhHeld=>?_;clear hK K);refine dz 8 _ ?_;refine dz 9 _ ?_;refine dz 10 _ ?_;refine dz 11 _ ?_;refine dz 12 _ ?_;refine fB aas ?_ _;have F:=aa (av.o.t (hHeld.2.2.2.2.2.2.2.m av.o.size));clear hHeld q0 q1 q2 P Q E g0 g1 g2;go_wp2_with fail;go_ret2;exact⟨f.o.t (F.o.m f.o.size),_,rfl⟩
         |some x=>
          refine dm (S:=(λi=>i.cell? ⟨aF,0,none⟩=some (.int .i64 g.aA)/\i.cell? ⟨aF,1,none⟩=some (.string g.aI)/\i.cell? ⟨aF,2,none⟩=some (.slice B1 g.ay.length C1)/\i.cell? ⟨w.heap.size+1,2,none⟩=some (.slice (some ⟨X,Y,none⟩) b.length d)/\i.cell? ⟨X,Y+j*3,none⟩=some (.int .i64 D.aA)/\i.cell? ⟨X,Y+j*3+1,none⟩=some (.string D.aI)/\i.cell? ⟨X,Y+j*3+2,none⟩=some (.slice B2 D.ay.length C2)/\Below wq.heap.size wq i)) aas (show _/\_/\_/\_/\_/\_/\_/\_ from⟨q0,q1,q2,E,g0,g1,g2,(aC _ wq).drew⟩) (λhHeld=>?_);refine dz 0 _ ?_;refine dz 1 _ ?_;refine dz 2 _ ?_;refine dz 3 _ ?_;refine dz 4 _ ?_;refine dz 5 _ ?_;refine dz 6 _ ?_;(refine yR 7 λK hK=>?_;go_simp;go_at_call 153;refine(bP.o _ _ _ _ (HU.o.ag hHeld.2.2.2.2.2.2.2) (bN.o.ag hHeld.2.2.2.2.2.2.2) (aP.o.ag hHeld.2.2.2.2.2.2.2)).m ?_;rintro e wz ⟨z,o⟩;obtain⟨v4,rfl,aK⟩:=(show ∃v,e=.returned (.tuple #[v,.bool true])/\gH wz v x from o);have bA:=aa aK;clear o aK;refine mZ hK (Cm hHeld z) λhHeld=>?_;clear hK K);refine dz 8 _ ?_;refine dz 9 _ ?_;refine dz 10 _ ?_;refine dz 11 _ ?_;refine dz 12 _ ?_;refine fB aas ?_ _;have F:=aa (av.o.t (hHeld.2.2.2.2.2.2.2.m av.o.size));clear hHeld q0 q1 q2 P Q E g0 g1 g2;go_wp2_with fail;go_roundw;case rel=>exact⟨_,_,_,_,_,_,_,⟨j+1,cK.o,aaw,x,bA.o,(bQ.o x rfl).1,aaA ((bQ.o x rfl).2) dD.o,bO.o,F.o⟩,rfl,rfl,rfl,rfl,rfl,rfl,rfl⟩
          case measure=>exact aax cK.o
        ·obtain rfl:j=n:=aar;rw[lh (by rw[cz.o];exact ax _)]at V;have dE:R=some I:=(by rw[V];simp only[kW]);subst dE;have hi:¬(j:Int)<(j:Int):=aar;obtain⟨aP,av⟩:=aab aV (f.o.t (ah.m f.o.size));clear V aV aO G ah;go_wp2_with fail;go_ret2;exact⟨av.o,_,rfl,aP.o⟩
     ·rw[aJ (.inr (.inr e3))]at l;subst l;have aM:((a.length:Int) != (b.length:Int))=true:=aaV;clear e3;exact ab7
    ·rw[aJ (.inr (.inl e2))]at l;subst l;have dO:=PO e2;exact ab7
   ·rw[aJ (.inl e1)]at l;subst l;exact ab7
end
section
open Go.RowKit T
def Ku(S:Nat->Bool)(w:World)(xs:List Value)(L:List Bd):Prop:=
 xs.length=L.length*4/\∀i (h:i<L.length),∃A c,xs[i*4]?=some (.string L[i].var)/\xs[i*4+1]?=some (.int .i64 L[i].t.aA)/\xs[i*4+2]?=some (.string L[i].t.aI)/\xs[i*4+3]?=some (.slice A L[i].t.ay.length c)/\
   bI S w (.agg #[.int .i64 L[i].t.aA,.string L[i].t.aI,.slice A L[i].t.ay.length c]) L[i].t/\L[i].var.size<=maxLen
theorem Ku.aR{S S':Nat->Bool}{w w':World}{xs:List Value}{L:List Bd}(h:Ku S w xs L)(a:∀b,S b=true->b<w.heap.size->S' b=true/\w'.heap[b]?=w.heap[b]?):Ku S' w' xs L:=
 ⟨h.1,λi hi=>by obtain⟨A,c,a0,d,a2,a3,e,f⟩:=h.2 i hi;exact⟨A,c,a0,d,a2,a3,e.aR a,f⟩⟩
theorem Ku.nil(S:Nat->Bool)(w:World):Ku S w [] []:=⟨rfl,λi h=>by simp at h⟩
theorem Ku.bc{S:Nat->Bool}{w:World}{xs:List Value}{L:List Bd}(h:Ku S w xs L):BC w xs L:=
 ⟨h.1,λi hi=>by obtain⟨A,c,a0,a,b,d,e,f⟩:=h.2 i hi;exact⟨A,c,a0,a,b,d,e.at,f⟩⟩
theorem Ku.push{S:Nat->Bool}{w:World}{xs:List Value}{L:List Bd}{s:ByteArray}{t:T}{A:Option Addr}{c:Nat}(h:Ku S w xs L)(b:bI S w (.agg #[.int .i64 t.aA,.string t.aI,.slice A t.ay.length c]) t)(d:s.size<=maxLen):
 Ku S w (xs++[.string s,.int .i64 t.aA,.string t.aI,.slice A t.ay.length c]) (L++[⟨s,t⟩]):=by
 have a:=h.1;refine⟨by simp[a];omega,λi hi=>?_⟩;rcases bX i L.length with g|g
 ·obtain⟨f,j,a0,m,n,o,k,l⟩:=h.2 i g;rw[dH g];refine⟨f,j,?_,?_,?_,?_,k,l⟩;all_goals rw[bN aaF];assumption
 ·obtain rfl:i=L.length:=aaQ;have e:(L++[(⟨s,t⟩:Bd)])[L.length]'hi=⟨s,t⟩:=aau;rw[e];refine⟨A,c,?_,?_,?_,?_,b,d⟩;all_goals rw[bq aar,a];simp
def yl(base:Nat)(w:World)(v:Value)(L:List Bd):Prop:=(v=.slice none 0 0/\L=[])\/(0<L.length/\∃xs,w.ownsRow base 132 4 v L.length xs/\Ku (but base v.ownBlock) w xs L)
theorem yl.nil(base:Nat)(w:World):yl base w (.slice none 0 0) []:=.inl ⟨rfl,rfl⟩
theorem yl.cells{base:Nat}{w:World}{v:Value}{L:List Bd}(h:yl base w v L):∃A c xs,v=.slice A L.length c/\w.ownsRow base 132 4 (.slice A L.length c) L.length xs/\Ku (but base (Value.slice A L.length c).ownBlock) w xs L:=by
 rcases h with⟨rfl,rfl⟩|⟨h0,xs,a,b⟩;·exact⟨none,0,[],rfl,gV _ _ _ _,Ku.nil _ _⟩
 ·obtain⟨g,cap,rfl,_⟩:=a.form h0;exact⟨_,_,xs,rfl,a,b⟩
theorem yl.binds{base:Nat}{w:World}{v:Value}{L:List Bd}(h:yl base w v L):gH w v L:=by
 rcases h with⟨rfl,rfl⟩|⟨h0,xs,a,b⟩;·exact gH.nil w
 ·obtain⟨g,cap,rfl,_⟩:=a.form h0;exact gH.yO a rfl b.bc h0
theorem yl.aR{base:Nat}{w w':World}{v:Value}{L:List Bd}(h:yl base w v L)(c:∀b,base<=b->b<w.heap.size->w'.heap[b]?=w.heap[b]?):yl base w' v L:=by
 rcases h with h|⟨h0,xs,d,f⟩;·exact .inl h
 ·exact .inr ⟨h0,xs,pE d λb e a=>c b (d.lt b e).1 a,f.aR λb hb a=>⟨hb,c b (jd.1 hb).1 a⟩⟩
theorem yl.push{base:Nat}{w w3 w4:World}{L:List Bd}{s:ByteArray}{t:T}{A A3:Option Addr}{c c3 n g cap:Nat}{xs:List Value}{o:Obj}(l:w.ownsRow base 132 4 (.slice A n c) n xs)(m:n=L.length)(p:Ku (but base (Value.slice A n c).ownBlock) w xs L)(q:s.size<=maxLen)
 (u:∀b,base<=b->b<w.heap.size->w3.heap[b]?=w.heap[b]?) (E:w.heap.size<=w3.heap.size) (hb:base<=w.heap.size) (v:bI (dP w.heap.size) w3 (.agg #[.int .i64 t.aA,.string t.aI,.slice A3 t.ay.length c3]) t)
 (x:w4.ownsRow base 132 4 (.slice (some ⟨g,0,none⟩) (n+1) cap) (n+1) (xs++[.string s,.int .i64 t.aA,.string t.aI,.slice A3 t.ay.length c3])) (y:(w3.alloc o).grownBy w4 (Value.slice A n c).ownBlock) (z:(Value.slice A n c).ownBlock=some g\/g=(w3.alloc o).heap.size):
 yl base w4 (.slice (some ⟨g,0,none⟩) (n+1) cap) (L++[⟨s,t⟩]):=by
 have B:=l.lt;have F:=aK w3 o;have j:∀b,base<=b->b<w3.heap.size->(Value.slice A n c).ownBlock≠some b->but base (Value.slice (some ⟨g,0,none⟩) (n+1) cap).ownBlock b=true/\w4.heap[b]?=w3.heap[b]?:=λb a d k=>by
  refine⟨jd.2 ⟨a,λe=>?_⟩,(y.block b aar (λe=>k e.symm)).t (fK w3 o b d)⟩;have C:g=b:=aB e;rcases z with r|r;·exact k (by rw[r,C])
  ·omega
 have a:Ku (but base (Value.slice (some ⟨g,0,none⟩) (n+1) cap).ownBlock) w4 xs L:=p.aR λb f h=>by
  obtain⟨i,a2⟩:=jd.1 f;obtain⟨a,d⟩:=j b i aar a2;exact⟨a,d.t (u b i h)⟩
 have d:bI (but base (Value.slice (some ⟨g,0,none⟩) (n+1) cap).ownBlock) w4 (.agg #[.int .i64 t.aA,.string t.aI,.slice A3 t.ay.length c3]) t:=v.aR λb f h=>by
  have i:=ak f;exact j b aar h (λe=>aaz ((B b e).2))
 have D:(L++[(⟨s,t⟩:Bd)]).length=n+1:=(by simp[m]);refine .inr ⟨aar,_,?_,a.push d q⟩;rw[D];exact x
end
end Go.Proofs.YtaciciokmpbkkaaGreatDoor
