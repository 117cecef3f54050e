import Derived.Test.YtaciciokmpbkkaaGreatDoorWebG1
import Derived.Deep.RegionLaw
import Derived.Deep.DrawnRows
import Derived.Deep.DeepCutAuto
set_option maxRecDepth 100000
set_option maxHeartbeats 16000000
namespace Go.Proofs.YtaciciokmpbkkaaGreatDoor
section
open Go.RowKit
def only(w:World)(S:Nat->Bool):World:={ w with heap:=w.heap.mapIdx λi o=>if S i=true then o else .cells #[] 0 (0,0) }
theorem fO(w:World)(S:Nat->Bool)(p:Addr):(only w S).cell? p=if S p.block=true then w.cell? p else none:=by
 unfold World.cell? only
 simp only[rZ];cases h:w.heap[p.block]? with
 |none=>simp
 |some o=>
  by_cases hS:S p.block=true;·simp[hS]
  ·simp[hS]
def bI(S:Nat->Bool)(w:World)(v:Value)(t:T):Prop:=aS (only w S) v t
theorem bI.at{S:Nat->Bool}{w:World}{v:Value}{t:T}(h:bI S w v t):aS w v t:=
 aS.aR h λp a=>by
  rw[fO]at a⊢;split at a;·rename_i hS;rw[aJ hS]
  ·cases a
theorem bI.aR{S S':Nat->Bool}{w w':World}{v:Value}{t:T}(h:bI S w v t)(c:∀b,S b=true->b<w.heap.size->S' b=true/\w'.heap[b]?=w.heap[b]?):bI S' w' v t:=
 aS.aR h λp a=>by
  rw[fO]at a;rw[fO,fO];split at a
  ·rename_i hS;obtain⟨v,d⟩:=eO.1 a;obtain⟨e,f⟩:=c _ hS (eQ w p d);rw[aJ hS,aJ e];exact dB f
  ·cases a
theorem aS.uM{w:World}{v:Value}{t:T}(h:aS w v t):bI (λb=>decide (b<w.heap.size)) w v t:=
 aS.aR h λp a=>by
  obtain⟨v,c⟩:=eO.1 a;rw[fO,aJ (aM (eQ w p c))]
def dP(B:Nat):Nat->Bool:=λb=>decide (B<=b)
def but(B:Nat)(g:Option Nat):Nat->Bool:=λb=>decide (B<=b)&&!(g==some b)
theorem jd{B:Nat}{g:Option Nat}{b:Nat}:but B g b=true<->B<=b/\g≠some b:=by
 unfold but;rw[ah,bO,bT,aD]
def vJ(w:World)(base g cap:Nat)(L:List T):Prop:=
 ∃a:Array Value,w.heap[g]?=some (.cells a 29 (0,0))/\a.size=cap*3/\L.length<=cap/\cap<=maxLen/\base<=g/\
  ∀i (h:i<L.length),∃b c d,a[i*3]?=some b/\a[i*3+1]?=some c/\a[i*3+2]?=some d/\bI (but base (some g)) w (.agg #[b,c,d]) L[i]
def bK(w:World)(base:Nat)(v:Value)(L:List T):Prop:=
 (v=.slice none 0 0/\L=[])\/∃g cap,v=.slice (some ⟨g,0,none⟩) L.length cap/\vJ w base g cap L
theorem bK.nil(w:World)(base:Nat):bK w base (.slice none 0 0) []:=.inl ⟨rfl,rfl⟩
theorem vJ.aR{w w':World}{base g cap:Nat}{L:List T}(h:vJ w base g cap L)(e:∀b,base<=b->b<w.heap.size->w'.heap[b]?=w.heap[b]?):vJ w' base g cap L:=by
 obtain⟨k,f,l,m,n,j,o⟩:=h;refine⟨k,?_,l,m,n,j,λi hi=>?_⟩;·rw[e g j (aW.1 f).1];exact f
 ·obtain⟨u0,u1,u2,a,b,c,d⟩:=o i hi;exact⟨u0,u1,u2,a,b,c,d.aR λb hb p=>⟨hb,e b (jd.1 hb).1 p⟩⟩
theorem bK.aR{w w':World}{base:Nat}{v:Value}{L:List T}(h:bK w base v L)(a:∀b,base<=b->b<w.heap.size->w'.heap[b]?=w.heap[b]?):bK w' base v L:=by
 rcases h with h|⟨g,cap,rfl,h⟩;·exact .inl h
 ·exact .inr ⟨g,cap,rfl,h.aR a⟩
theorem bK.ag{w w':World}{base:Nat}{v:Value}{L:List T}(h:bK w base v L)(hb:Below w.heap.size w w'):bK w' base v L:=h.aR λb _ a=>hb.block b a
theorem bK.shape{w:World}{base:Nat}{v:Value}{L:List T}(h:bK w base v L):∃A cap,v=.slice A L.length cap/\L.length<=cap/\cap<=maxLen:=by
 rcases h with⟨rfl,rfl⟩|⟨g,cap,rfl,c,_,_,a,b,_⟩;·exact⟨none,0,rfl,ax _,aT _⟩
 ·exact⟨_,cap,rfl,a,b⟩
theorem bK.block{w:World}{base:Nat}{v:Value}{L:List T}(h:bK w base v L):∀k,v.ownBlock=some k->base<=k/\k<w.heap.size:=by
 intro k a;rcases h with⟨rfl,rfl⟩|⟨g,cap,rfl,d,b,_,_,_,c,_⟩;·cases a
 ·injection a with a;subst a;exact⟨c,(aW.1 b).1⟩
theorem bK.term{w:World}{base:Nat}{v:Value}{L:List T}(h:bK w base v L)(k:Int)(s:ByteArray)(m: -9223372036854775808<=k/\k<=9223372036854775807)(n:s.size<=maxLen):
 bI (dP base) w (.agg #[.int .i64 k,.string s,v]) (.mk k s L):=by
 rcases h with⟨rfl,rfl⟩|⟨g,cap,rfl,f,t,A,x,y,z,o⟩;·exact aS.mk k s none 0 [] (λ_=>(undef,undef,undef)) m n (ax _) (aT _) (.inl rfl) (λi h=>by simp at h)
 ·have l:∀j u,f[j]?=some u->(only w (dP base)).cell? ⟨g,j,none⟩=some u:=λj u hu=>by
   rw[fO,aJ (by unfold dP;exact aM z)];simp[World.cell?,t,hu]
  refine aS.mk k s (some ⟨g,0,none⟩) cap L (λi=>(f.getD (i*3) undef,f.getD (i*3+1) undef,f.getD (i*3+2) undef)) m n x y (.inr ⟨g,0,rfl,λi hi=>?_⟩) (λi hi=>?_)
  ·obtain⟨p,q,r,a,b,c,d⟩:=o i hi;rw[eP];refine⟨(l _ _ a).t ?_,(l _ _ b).t ?_,(l _ _ c).t ?_⟩;·simp[Array.getD_eq_getD_getElem?,a]
   ·simp[Array.getD_eq_getD_getElem?,b]
   ·simp[Array.getD_eq_getD_getElem?,c]
  ·obtain⟨p,q,r,a,b,c,d⟩:=o i hi;have e:(Value.agg #[f.getD (i*3) undef,f.getD (i*3+1) undef,f.getD (i*3+2) undef])=.agg #[p,q,r]:=by
    simp[Array.getD_eq_getD_getElem?,a,b,c]
   show aS _ (Value.agg #[f.getD (i*3) undef,f.getD (i*3+1) undef,f.getD (i*3+2) undef]) _;rw[e];exact d.aR (S':=dP base) λb hb _=>⟨aM (jd.1 hb).1,rfl⟩
theorem bK.owns{w:World}{base:Nat}{v:Value}{L:List T}(h:bK w base v L):∃xs,w.ownsRow base 29 3 v L.length xs/\
 (∀i (h:i<L.length),∃u0 u1 u2,xs[i*3]?=some u0/\xs[i*3+1]?=some u1/\xs[i*3+2]?=some u2/\bI (but base v.ownBlock) w (.agg #[u0,u1,u2]) L[i]):=by
 rcases h with⟨rfl,rfl⟩|⟨g,cap,rfl,e,j,f,k,l,m,n⟩;·exact⟨[],gV _ _ _ _,λi h=>by simp at h⟩
 ·refine⟨e.toList.take (L.length*3),⟨?_,.inr ⟨g,cap,e,rfl,m,j,k,l,f,rfl⟩⟩,λi hi=>?_⟩
  ·have o:e.toList.length=cap*3:=aaC;rw[aX];exact kg aar
  ·obtain⟨u0,u1,u2,a,b,c,d⟩:=n i hi;refine⟨u0,u1,u2,?_,?_,?_,d⟩;all_goals rw[gY,aJ aaF];simpa
theorem bK.snoc{w w':World}{base g cap H:Nat}{v:Value}{L:List T}{xs:List Value}{u0 u1 u2:Value}{t:T}
 (o:∀i (h:i<L.length),∃u0 u1 u2,xs[i*3]?=some u0/\xs[i*3+1]?=some u1/\xs[i*3+2]?=some u2/\bI (but base v.ownBlock) w (.agg #[u0,u1,u2]) L[i]) (d:xs.length=L.length*3)
 (p:bI (but base v.ownBlock) w (.agg #[u0,u1,u2]) t)
 (q:w'.ownsRow base 29 3 (.slice (some ⟨g,0,none⟩) (L.length+1) cap) (L.length+1) (xs++[u0,u1,u2])) (r:w.grownBy w' v.ownBlock) (s:v.ownBlock=some g\/g=H) (hH:w.heap.size=H):
 bK w' base (.slice (some ⟨g,0,none⟩) (L.length+1) cap) (L++[t]):=by
 have l:∀b,but base v.ownBlock b=true->b<w.heap.size->but base (some g) b=true/\w'.heap[b]?=w.heap[b]?:=λb hb x=>by
  obtain⟨f,c⟩:=jd.1 hb;refine⟨jd.2 ⟨f,λe=>?_⟩,r.block b x (λe=>c e.symm)⟩;injection e with e;subst e;rcases s with h|h;·exact c h
  ·omega
 obtain⟨J,y⟩:=q;rcases y with⟨h,_⟩|⟨K,M,m,n,z,f,A,B,c,C⟩;·cases h
 ·simp only[rf,iw,Ca,GY,Bb]at n;obtain⟨rfl,rfl⟩:=n;have a:∀j u,(xs++[u0,u1,u2])[j]?=some u->m[j]?=some u:=λj u hu=>by
   rw[<-C,gY]at hu;split at hu;·simpa using hu
   ·cases hu
  refine .inr ⟨g,cap,by rw[aF];rfl,m,f,c,by rw[aF];exact A,B,z,λi hi=>?_⟩;rcases bX i L.length with k|k
  ·obtain⟨a0,D,a2,E,F,G,b3⟩:=o i k;refine⟨a0,D,a2,a _ _ ?_,a _ _ ?_,a _ _ ?_,?_⟩;·rw[bN aaF];exact E
   ·rw[bN aaF];exact F
   ·rw[bN aaF];exact G
   ·rw[dH k];exact b3.aR l
  ·have I:i=L.length:=aaQ;subst I;refine⟨u0,u1,u2,a _ _ ?_,a _ _ ?_,a _ _ ?_,?_⟩;·rw[bq aar,d];simp
   ·rw[bq aar,d];simp
   ·rw[bq aar,d];simp
   ·rw[dh (ax _)];simpa using p.aR l
theorem bI.one{S:Nat->Bool}{w:World}{a b c:Value}{t:T}(h:bI S w (.agg #[a,b,c]) t):∀u∈[a,b,c],u.oneCell'=true:=by
 obtain⟨rfl,rfl,A,cap,rfl⟩:=aS.view h;intro u hu;simp at hu;rcases hu with rfl|rfl|rfl<;>rfl
theorem bI.view{S:Nat->Bool}{w:World}{v:Value}{t:T}(h:bI S w v t):∃A cap,v=.agg #[.int .i64 t.aA,.string t.aI,.slice A t.ay.length cap]:=by
 cases h;exact⟨_,_,rfl⟩
theorem Tryz.uN:(Tryz.prog.info? 29).map (λi=>(i.zero,i.size,i.bytes))=some (some (.agg #[.int .i64 0,.string ByteArray.empty,.slice none 0 0]),3,48):=by kernel_rfl
namespace T
def pq(x:T):List T->List T
 |[]=>[x]
 |y::r=>if cmp x y<0 then y::pq x r else x::y::r
def nO(l:List T):List T:=(l.foldl (λa x=>pq x a) []).reverse
mutual
def fM:T->T
 |.mk k s a=>.mk k s (if k=7 then nO (fV a) else fV a)
def fV:List T->List T
 |[]=>[]
 |t::r=>fM t::fV r
end
theorem iA:∀l:List T,fV l=l.map fM
 |[]=>rfl
 |t::r=>by simp only[fV,jH,iA r]
theorem zQ:∀l m:List T,bJ (l++m)=bJ l+bJ m
 |[],m=>by simp[bJ]
 |t::r,m=>by simp only[iP,bJ,zQ r m];omega
theorem Gf(l:List T):bJ l.reverse=bJ l:=by
 induction l with
 |nil=>rfl
 |cons t r a=>rw[qQ,zQ,a];simp only[bJ];omega
theorem KH(x:T)(l:List T):bJ (pq x l)=x.bE+bJ l:=by
 induction l with
 |nil=>rfl
 |cons t r a=>
  simp only[pq];split;·simp only[bJ,a];omega
  ·simp only[bJ]
theorem M3(x:T)(l:List T):(pq x l).length=l.length+1:=by
 induction l with
 |nil=>rfl
 |cons t r a=>
  simp only[pq];split;·simp only[bg,a]
  ·rfl
theorem Dl(l:List T):∀a,bJ (l.foldl (λa x=>pq x a) a)=bJ a+bJ l:=by
 induction l with
 |nil=>intro a;simp[bJ]
 |cons t r b=>intro a;rw[lW,b,KH];simp only[bJ];omega
theorem Fz(l:List T):∀a:List T,(l.foldl (λa x=>pq x a) a).length=a.length+l.length:=by
 induction l with
 |nil=>intro a;simp
 |cons t r b=>intro a;rw[lW,b,M3];simp only[bg];omega
theorem Ck(l:List T):bJ (nO l)=bJ l:=by
 unfold nO;rw[Gf,Dl];simp[bJ]
theorem rE(l:List T):(nO l).length=l.length:=by
 unfold nO;rw[ib,Fz];simp
mutual
theorem Bo:∀t:T,t.fM.bE=t.bE
 |.mk k s a=>by
  simp only[fM,bE];split;·rw[Ck,rA a]
  ·rw[rA a]
theorem rA:∀l:List T,bJ (fV l)=bJ l
 |[]=>rfl
 |t::r=>by simp only[fV,bJ,Bo t,rA r]
end
theorem I1{k:Int}{s:ByteArray}{a:List T}(h:(T.mk k s a).shape=true):∀i (g:i<a.length),a[i].shape=true:=by
 intro i g;by_cases b:k=1\/k=2
 ·rw[wI k s a b,ah]at h;have:=fD.1 h.2;omega
 ·rw[qB k s a (λe=>b (.inl e)) (λe=>b (.inr e)),ah,bT]at h;have:=fH.1 h.2 a[i] (aP g);simpa using this
theorem FU{s:ByteArray}{a:List T}(h:(T.mk 7 s a).shape=true):1<=a.length/\a.length<=4:=by
 rw[qB 7 s a aat aat,ah,ah]at h;rcases DC 7 a with⟨g,_⟩|g;·rw[g]at h;simp at h
 ·omega
end T
def jy(w:World)(g:Nat)(a b c:Value):Prop:=w.heap[g]?=some (.cells #[a,b,c] 29 (0,0))
theorem jy.cells{w:World}{g:Nat}{a b c:Value}(h:jy w g a b c):w.cell? ⟨g,0,none⟩=some a/\w.cell? ⟨g,1,none⟩=some b/\w.cell? ⟨g,2,none⟩=some c:=by
 unfold jy at h;refine⟨?_,?_,?_⟩<;>simp[World.cell?,h]
theorem jy.free{w:World}{g:Nat}{a b c:Value}(h:jy w g a b c):w.frozen? ⟨g,0,none⟩=false/\w.frozen? ⟨g,1,none⟩=false/\w.frozen? ⟨g,2,none⟩=false:=by
 unfold jy at h;refine⟨?_,?_,?_⟩<;>simp[World.frozen?,h]
theorem jy.lt{w:World}{g:Nat}{a b c:Value}(h:jy w g a b c):g<w.heap.size:=(aW.1 h).1
theorem jy.AQ{w:World}{g:Nat}{a b c:Value}(h:jy w g a b c)(v:Value):jy (w.setCell ⟨g,2,none⟩ v) g a b v:=by
 unfold jy at*;simp[World.setCell,Array.getElem?_modify,h]
theorem jy.setOther{w:World}{g:Nat}{a b c:Value}(h:jy w g a b c){p:Addr}(d:g≠p.block)(v:Value):jy (w.setCell p v) g a b c:=by
 unfold jy at*;rw[aL _ _ _ _ d];exact h
theorem jy.ag{w w':World}{g:Nat}{a b c:Value}(h:jy w g a b c)(hb:Below w.heap.size w w'):jy w' g a b c:=(hb.block g h.lt).t h
theorem jy.grown{w w':World}{g:Nat}{a b c:Value}{row:Option Nat}(h:jy w g a b c)(d:w.grownBy w' row)(f:row≠some g):jy w' g a b c:=(d.block g h.lt (λe=>f e.symm)).t h
theorem jy.new(w:World)(a b c:Value):jy (w.alloc (.cells #[a,b,c] 29)) w.heap.size a b c:=bP w _
theorem oq(w:World)(a b c a' b' d:Value):jy ((w.alloc (.cells #[a,b,c] 29)).alloc (.cells #[a',b',d] 29)) w.heap.size a b c/\jy ((w.alloc (.cells #[a,b,c] 29)).alloc (.cells #[a',b',d] 29)) (w.heap.size+1) a' b' d/\
 Below w.heap.size w ((w.alloc (.cells #[a,b,c] 29)).alloc (.cells #[a',b',d] 29))/\((w.alloc (.cells #[a,b,c] 29)).alloc (.cells #[a',b',d] 29)).heap.size=w.heap.size+2:=by
 have e:=aK w (.cells #[a,b,c] 29);have f:=jy.new (w.alloc (.cells #[a,b,c] 29)) a' b' d;rw[e]at f;exact⟨(jy.new w a b c).ag (ae _ _),f,(ae _ _).t ((ae _ _).m (by rw[e];omega)),by rw[aK,e]⟩
theorem dG{w w':World}{base:Nat}{e:TypeId}{size n:Nat}{v:Value}{xs:List Value}(h:w.ownsRow base e size v n xs)(hb:Below w.heap.size w w'):w'.ownsRow base e size v n xs:=
 h.kept (row:=none) ⟨hb.os,hb.tape,hb.output,hb.size,λk a _=>hb.block k a⟩ (by cases v.ownBlock<;>simp)
theorem jN{w w':World}(h:Below w.drew.heap.size w.drew w'):Below w.heap.size w w':=⟨h.os,h.tape,h.output,h.size,h.block⟩
def Ow(t:T)(w:World)(e:Ending)(w':World):Prop:=∃A cap,e=.returned (.agg #[.int .i64 t.aA,.string t.aI,.slice A t.ay.length cap])/\
 bI (dP w.heap.size) w' (.agg #[.int .i64 t.aA,.string t.aI,.slice A t.ay.length cap]) t/\Below w.heap.size w w'
theorem dX{w:World}{g:Nat}{a b c:Value}(h:jy w g a b c)(x y z:Value):jy (((w.setCell ⟨g,0,none⟩ x).setCell ⟨g,1,none⟩ y).setCell ⟨g,2,none⟩ z) g x y z:=by
 unfold jy at*;simp[World.setCell,Array.getElem?_modify,h]
theorem lJ(w:World)(g:Nat)(x y z:Value)(k:Nat)(a:k≠g):(((w.setCell ⟨g,0,none⟩ x).setCell ⟨g,1,none⟩ y).setCell ⟨g,2,none⟩ z).heap[k]?=w.heap[k]?:=by
 rw[aL _ _ _ _ a,aL _ _ _ _ a,aL _ _ _ _ a]
theorem rO{t:T}{w wr:World}{A:Option Addr}{cap g:Nat}(x y z:Value)(c:Below w.heap.size w wr)(a:w.heap.size<=g)
 (d:x=.int .i64 t.aA) (hy:y=.string t.aI) (e:z=.slice A t.ay.length cap) (h:bI (dP (g+1)) wr (.agg #[x,y,z]) t):
 Ow t w (.returned (.agg #[x,y,z])) (((wr.setCell ⟨g,0,none⟩ x).setCell ⟨g,1,none⟩ y).setCell ⟨g,2,none⟩ z):=by
 subst d;subst hy;subst e;refine⟨A,cap,rfl,h.aR λb hb _=>?_,((c.setCell a _).setCell a _).setCell a _⟩;have:=ak hb;exact⟨aM aar,lJ _ _ _ _ _ _ aar⟩
theorem pR{w w' w'':World}{row:Option Nat}(h:w.grownBy w' row)(k:w'.grownBy w'' row):w.grownBy w'' row:=
 ⟨k.os.t h.os,k.tape.t h.tape,k.output.t h.output,aG h.size k.size,λi hi a=>(k.block i (dw hi h.size) a).t (h.block i hi a)⟩
theorem jr{w w':World}(row:Option Nat)(h:Below w.heap.size w w'):w.grownBy w' row:=⟨h.os,h.tape,h.output,h.size,λk a _=>h.block k a⟩
theorem vJ.at{w:World}{base g cap:Nat}{L:List T}(h:vJ w base g cap L)(i:Nat)(hi:i<L.length):∃A C,w.cell? ⟨g,i*3,none⟩=some (.int .i64 L[i].aA)/\w.cell? ⟨g,i*3+1,none⟩=some (.string L[i].aI)/\
 w.cell? ⟨g,i*3+2,none⟩=some (.slice A L[i].ay.length C)/\bI (but base (some g)) w (.agg #[.int .i64 L[i].aA,.string L[i].aI,.slice A L[i].ay.length C]) L[i]:=by
 obtain⟨j,e,k,l,m,n,f⟩:=h;obtain⟨o,p,q,a,b,c,d⟩:=f i hi;obtain⟨rfl,rfl,A,C,rfl⟩:=aS.view d;refine⟨A,C,?_,?_,?_,d⟩<;>simp[World.cell?,e,a,b,c]
theorem vJ.free{w:World}{base g cap:Nat}{L:List T}(h:vJ w base g cap L)(i:Nat):w.frozen? ⟨g,i*3,none⟩=false/\w.frozen? ⟨g,i*3+1,none⟩=false/\w.frozen? ⟨g,i*3+2,none⟩=false:=by
 obtain⟨b,a,_⟩:=h;refine⟨?_,?_,?_⟩<;>simp[World.frozen?,a]
theorem WU{P Q:List T}{x y:T}{p:Nat}(a:P.length=p)(i:Nat)(h:i<(P++x::y::Q).length)(h':i<(P++y::x::Q).length)(b:i≠p)(c:i≠p+1):(P++x::y::Q)[i]=(P++y::x::Q)[i]:=by
 apply lY.1;rw[<-az,<-az];rcases bX i p with g|g;·rw[bN aar,bN aaF]
 ·obtain⟨q,rfl⟩:∃q,i=P.length+(q+2):=⟨i-p-2,aar⟩;rw[bq aar,bq aaF];simp
structure Ch (w:World) (g:Nat) (cur:Array Value) (w':World):Prop where
 row:w'.heap[g]?=some (.cells cur 29 (0,0))
 other:∀k,k≠g->w'.heap[k]?=w.heap[k]?
 os:w'.os=w.os
 tape:w'.tape=w.tape
 output:w'.output=w.output
 size:w'.heap.size=w.heap.size
theorem Ch.set{w w':World}{g:Nat}{a:Array Value}(h:Ch w g a w')(i:Nat)(v:Value):Ch w g (a.setIfInBounds i v) (w'.setCell ⟨g,i,none⟩ v):=
 ⟨by simp[World.setCell,Array.getElem?_modify,h.row],λk b=>by rw[aL _ _ _ _ b];exact h.other k b,h.os,h.tape,h.output,by simp[World.setCell,h.size]⟩
theorem Ch.drew{w w':World}{g:Nat}{a:Array Value}(h:Ch w g a w'):Ch w g a w'.drew:=⟨h.row,h.other,h.os,h.tape,h.output,h.size⟩
theorem Ch.grown{w w':World}{g:Nat}{a:Array Value}(h:Ch w g a w'):w.grownBy w' (some g):=⟨h.os,h.tape,h.output,Nat.le_of_eq h.size.symm,λk _ b=>h.other k (λe=>b abf)⟩
theorem vJ.swap{w W:World}{base g cap p:Nat}{P Q:List T}{x y:T}(f:P.length=p)(h:vJ w base g cap (P++y::x::Q)){a0 k a2 l m n:Value}
 (z0:w.cell? ⟨g,p*3,none⟩=some a0) (H:w.cell? ⟨g,p*3+1,none⟩=some k) (z2:w.cell? ⟨g,p*3+2,none⟩=some a2)
 (I:w.cell? ⟨g,(p+1)*3,none⟩=some l) (J:w.cell? ⟨g,(p+1)*3+1,none⟩=some m) (K:w.cell? ⟨g,(p+1)*3+2,none⟩=some n)
 (L:∀a,w.heap[g]?=some (.cells a 29 (0,0))->Ch w g ((((((a.setIfInBounds ((p+1)*3) a0).setIfInBounds ((p+1)*3+1) k).setIfInBounds ((p+1)*3+2) a2).setIfInBounds (p*3) l).setIfInBounds (p*3+1) m).setIfInBounds (p*3+2) n) W):
 vJ W base g cap (P++x::y::Q)/\w.grownBy W (some g):=by
 obtain⟨a,B,C,M,N,O,o⟩:=h;have q:=L a B;have D:(P++x::y::Q).length=(P++y::x::Q).length:=aau;have R:p+1<(P++y::x::Q).length:=aaV;have c:∀j v,w.cell? ⟨g,j,none⟩=some v->a[j]?=some v:=λj v S=>(by simpa[World.cell?,B]using S);have V:a.size=cap*3:=C;have aR:∀{v:Value} {t:T},bI (but base (some g)) w v t->bI (but base (some g)) W v t:=λU=>
  U.aR λb hb _=>⟨hb,q.other b (λe=>(jd.1 hb).2 abf)⟩
 refine⟨⟨_,q.row,by simpa using C,by rw[D];exact M,N,O,λi hi=>?_⟩,q.grown⟩;have E:i<(P++y::x::Q).length:=(by rw[<-D];exact hi);by_cases F:i=p
 ·subst F;obtain⟨u0,u1,u2,c0,c1,c2,d⟩:=o (i+1) R;have r:l=u0:=lY.1 ((c _ _ I).symm.t c0);have s:m=u1:=lY.1 ((c _ _ J).symm.t c1);have u:n=u2:=lY.1 ((c _ _ K).symm.t c2);have z:(P++y::x::Q)[i+1]=x:=abl;have A:(P++x::y::Q)[i]=x:=abl;subst r;subst s;subst u;rw[z]at d;refine⟨l,m,n,?_,?_,?_,by rw[A];exact aR d⟩;all_goals simp only[iK,iO];repeat(first|rw[aJ trivial]|rw[aJ aaF]|rw[aH aaF])
 ·by_cases G:i=p+1
  ·subst G;obtain⟨u0,u1,u2,c0,c1,c2,d⟩:=o p aar;have r:a0=u0:=lY.1 ((c _ _ z0).symm.t c0);have s:k=u1:=lY.1 ((c _ _ H).symm.t c1);have u:a2=u2:=lY.1 ((c _ _ z2).symm.t c2);have z:(P++y::x::Q)[p]=y:=abl;have A:(P++x::y::Q)[p+1]=y:=abl;subst r;subst s;subst u;rw[z]at d;refine⟨a0,k,a2,?_,?_,?_,by rw[A];exact aR d⟩;all_goals simp only[iK,iO];repeat(first|rw[aJ trivial]|rw[aJ aaF]|rw[aH aaF])
  ·obtain⟨u0,u1,u2,c0,c1,c2,d⟩:=o i E;rw[WU f i hi E F G];refine⟨u0,u1,u2,?_,?_,?_,aR d⟩;all_goals simp only[iK,iO];repeat(first|rw[aJ trivial]|rw[aJ aaF]|rw[aH aaF])
   ·exact c0
   ·exact c1
   ·exact c2
theorem insertion(base g cap:Nat)(L:List T)(w:World)(h:vJ w base g cap L)(hL:L.length<=20)(hb:T.bJ L<=1048576):
 Calls Tryz.prog 161 #[.slice (some ⟨g,0,none⟩) L.length cap,.int .i64 0,.int .i64 L.length,.func (.func 63) #[] #[]] w λe w'=>
  e=.returned (.tuple #[])/\vJ w' base g cap (T.nO L)/\w.grownBy w' (some g):=by
 have HR:=aa h;clear h;go_enter Tryz.func161,Tryz.ntmps161;go_wp2_with fail;go_loopw [8] (λi wr=>∃(m:Nat) (a:List T),1<=m/\m<=20/\i=.int .i64 m/\a=(L.take m).foldl (λa x=>T.pq x a) []/\vJ wr base g cap (a.reverse++L.drop m)/\w.grownBy wr (some g)) (λi _=>30-(intOf i).toNat)
 case atStart=>
  refine⟨1,L.take 1,ax _,aar,rfl,?_,?_,⟨rfl,rfl,rfl,ax _,λ_ _ _=>rfl⟩⟩
  ·cases L with
   |nil=>rfl
   |cons t r=>rfl
  ·have:(L.take 1).reverse++L.drop 1=L:=(by cases L<;>simp);rw[this];exact HR.o
 case round=>
  obtain⟨m,a,bn,bq,rfl,q,f,j⟩:=hrel;by_cases n:m<L.length
  ·have hi:(m:Int)<(L.length:Int):=aar;obtain⟨B,k,S,C⟩:=aad q f j n;clear q f j;go_wp2_with fail;have U:(List.take m L).length=m:=aaR;have V:a.length=m:=(by rw[B.o,T.Fz,U];simp);obtain⟨x,X,Y,Z⟩:∃x,L.drop m=x::L.drop (m+1)/\L.take (m+1)=L.take m++[x]/\x.bE<=T.bJ L:=⟨L[m],dN n,aZ n,T.jq L m n⟩;have ae:(L.take (m+1)).foldl (λa x=>T.pq x a) []=T.pq x a:=(by rw[Y,mf,<-B.o];rfl);obtain⟨rest,s⟩:=aay (L.drop (m+1));have af:vJ wr base g cap (a.reverse++[x]++[].reverse++rest):=(by have:=k.o;rw[X,s]at this;simpa using this);have ag:a.length+1+rest.length=L.length:=(by rw[<-s,dO];omega);have aQ:T.bJ a<=T.bJ L:=(by rw[B.o,T.Dl];have:=T.uX L m;simp only[T.bJ];omega);have ah:∀t∈a,t.bE<=1048576:=λt ht=>by
    obtain⟨i,hi,rfl⟩:=bL ht;have:=T.jq a i hi;omega
   obtain⟨ak,av,aS,aT,D,HLEN,az⟩:=aag af ae ah (aG Z hb) V ag s;clear af ae ah aQ Z V ag X U Y s;obtain⟨wo,aB⟩:∃wo:World,wo=wr:=⟨_,rfl⟩;rw[<-aB]at ak S⊢;clear aB k;go_loopw [9] (λi wr=>∃A d:List T,a=d++A/\T.pq x a=d++T.pq x A/\i=.int .i64 A.length/\vJ wr base g cap (A.reverse++[x]++d.reverse++rest)/\w.grownBy wr (some g)) (λi _=>(intOf i).toNat);case atStart=>exact⟨a,[],rfl,rfl,by rw[D.o],ak.o,S.o⟩
   case round=>
    obtain⟨A,d,aD,aK,rfl,f,j⟩:=hrel;obtain⟨E,F,k,l⟩:=aad aD aK f j;clear aD aK f j;cases A with
    |nil=>
     simp only[fE];go_upto_region 4 with fail;go_quiet (fail);go_wp2_with fail;go_roundw
     case rel=>
      refine⟨m+1,T.pq x a,aar,aaz C.o,aaw,av.o.symm,?_,⟨l.o.os,l.o.tape,l.o.output,l.o.size,l.o.block⟩⟩;rw[F.o];have:=vJ.aR (w':=wr.drewN nq) k.o (λ_ _ _=>rfl);rw[az.o];simpa[T.pq]using this
     case measure=>simp[intOf];omega
    |cons y A=>
     obtain⟨p,o⟩:=aay A.length;have aL:(d++y::A).length=m:=(by rw[<-E.o,D.o]);simp only[aF,bg]at aL;have hN:((y::A).reverse++[x]++d.reverse++rest).length=L.length:=(by have:=HLEN.o;have:=D.o;simp;omega);obtain⟨G,H,u,c1,c2,I⟩:=k.o.at p aar;obtain⟨J,K,d0,d1,d2,M⟩:=k.o.at (p+1) aar;have ey:((y::A).reverse++[x]++d.reverse++rest)[p]'(by omega)=y:=by
      simp only[qQ,dC];rw[dh aaV];simp[<-o]
     have ex:((y::A).reverse++[x]++d.reverse++rest)[p+1]'(by omega)=x:=by
      simp only[qQ,dC];rw[dh aaV];simp[<-o]
     rw[ey]at u c1 c2 I;rw[ex]at d0 d1 d2 M;have bu:(p:Int)+1<(L.length:Int):=aar;have bv:(p:Int)<(L.length:Int):=aar;simp only[bg,o];push_cast;obtain⟨aU,aV⟩:=aab I.at M.at
     have q1:IntKind.i64.wrap ((p:Int)+1-1)=(p:Int):=aaZ;have q0:(0:Int)<(p:Int)+1:=aar;have HP:=aa o;have q4:IntKind.i64.wrap (p:Int)=(p:Int):=iL _ aar;have q2:(0:Int)<=(p:Int):=aar;have q3:(0:Int)<=(p:Int)+1:=aar;clear I M ex ey hN aL o;go_upto_region 4 with fail;obtain⟨c,N⟩:=aay (T.cmp x y);have aM:=aa N;have HY:=aa (aS.o y (by rw[E.o];simp));have HC:=aa (λW h1 h2=>N▸Nl (x.bE+1) x y (.agg #[.int .i64 x.aA,.string x.aI,.slice J x.ay.length K]) (.agg #[.int .i64 y.aA,.string y.aI,.slice G y.ay.length H]) W aar h1 h2 aT.o HY.o);clear N
     go_region_held3 (λW=>W.cell? ⟨g,p*3,none⟩=some (.int .i64 y.aA)/\W.cell? ⟨g,p*3+1,none⟩=some (.string y.aI)/\W.cell? ⟨g,p*3+2,none⟩=some (.slice G y.ay.length H)/\W.cell? ⟨g,(p+1)*3,none⟩=some (.int .i64 x.aA)/\W.cell? ⟨g,(p+1)*3+1,none⟩=some (.string x.aI)/\W.cell? ⟨g,(p+1)*3+2,none⟩=some (.slice J x.ay.length K)/\Below wr.heap.size wr W)
      (first|exact⟨u,c1,c2,d0,d1,d2,aC _ _⟩|exact⟨u,c1,c2,d0,d1,d2,(aC _ _).drew⟩|exact EW aaK aN|go_keep)
      ((go_at_call 63;refine(HC.o _ aV.o.drew aU.o.drew).m ?_;rintro e w2 ⟨rfl,aN⟩))
     rename_i hS;obtain⟨z0,z1,z2,y0,y1,y2,O⟩:=hS;obtain⟨v,aO⟩:=aab (k.o.aR λb _ hl=>O.block b hl) ((pR l.o (jr (some g) O)));clear u c1 c2 d0 d1 d2 aN O;by_cases z:c<0
     ·obtain⟨f0,f1,f2⟩:=v.o.free p;obtain⟨g0,g1,g2⟩:=v.o.free (p+1);have P:=aa z;go_wp2_with fail
      go_region
      have aP:vJ w2 base g cap (A.reverse++y::x::(d.reverse++rest)):=(by have:=v.o;simpa using this);obtain⟨Q,R⟩:=aP.swap (by rw[ib];exact HP.o) z0 z1 z2 y0 y1 y2 (λbz aW=>(((((((Ch.mk aW (λ_ _=>rfl) rfl rfl rfl rfl).set _ _).set _ _).set _ _).set _ _).set _ _).set _ _).drew);generalize((((((w2.setCell ⟨g,(p+1)*3,none⟩ (.int .i64 y.aA)).setCell ⟨g,(p+1)*3+1,none⟩ (.string y.aI)).setCell ⟨g,(p+1)*3+2,none⟩ (.slice G y.ay.length H)).setCell ⟨g,p*3,none⟩ (.int .i64 x.aA)).setCell ⟨g,p*3+1,none⟩ (.string x.aI)).setCell ⟨g,p*3+2,none⟩ (.slice J x.ay.length K)).drew=w5 at Q R⊢;obtain⟨aY,bf⟩:=aab Q (pR aO.o R);clear aP Q R f0 f1 f2 g0 g1 g2 z0 z1 z2 y0 y1 y2 z;go_wp2_with fail;go_roundw
      case rel=>
       refine⟨A,d++[y],by rw[E.o];simp,?_,by rw[HP.o],by have:=aY.o;simpa using this,bf.o⟩;rw[F.o];simp only[T.pq];rw[aJ (by rw[aM.o];exact P.o)];simp
      case measure=>simp[intOf]
     ·have bA:0<=c:=aar;have P:=aa z;clear z;go_wp2_with fail;go_roundw
      case rel=>
       refine⟨m+1,T.pq x a,aar,aaz C.o,aaw,av.o.symm,?_,aO.o⟩;rw[F.o];have:=v.o;rw[az.o];have e:T.pq x (y::A)=x::y::A:=(by simp only[T.pq];rw[aH (by rw[aM.o];exact P.o)]);rw[e];simpa using this
      case measure=>exact aax C.o
  ·have bB:(L.length:Int)<=(m:Int):=aar;have bi:=aa (show vJ wr base g cap (T.nO L) by
    have e:L.take m=L:=bG aar;have e':L.drop m=[]:=ll aar;rw[e',dK,q,e]at f;exact f)
   have HG:=aa j;clear f j q n;go_wp2_with fail;go_end0;exact⟨rfl,bi.o,HG.o⟩
theorem Sy(base g cap:Nat)(L:List T)(w:World)(h:vJ w base g cap L)(c:L.length<20)(hb:T.bJ L<=1048576):
 Calls Tryz.prog 160 #[.slice (some ⟨g,0,none⟩) L.length cap,.int .i64 L.length,.func (.func 63) #[] #[]] w λe w'=>
  e=.returned (.tuple #[])/\vJ w' base g cap (T.nO L)/\w.grownBy w' (some g):=by
 have d:=aa (insertion base g cap L w h aar hb);clear h hb;have j:(L.length:Int)<20:=aar;have k:(0:Int)<=(L.length:Int):=aar;clear c;go_enter Tryz.func160,Tryz.ntmps160;go_wp2_with fail;refine Be 1 ?_;rw[rounds_succ];go_wp2_with fail;refine d.o.m ?_;rintro e l ⟨rfl,a,b⟩;obtain⟨f,i⟩:=aab a b;clear a b;go_wp2_with fail;refine Be 1 ?_;rw[rounds_succ];go_wp2_with fail;go_end0;exact⟨rfl,f.o,i.o⟩
theorem WS(base g cap:Nat)(L:List T)(w:World)(h:vJ w base g cap L)(c:L.length<20)(hb:T.bJ L<=1048576):
 Calls Tryz.prog 131 #[.slice (some ⟨g,0,none⟩) L.length cap,.func (.func 63) #[] #[]] w λe w'=>
  e=.returned (.tuple #[])/\vJ w' base g cap (T.nO L)/\w.grownBy w' (some g):=by
 have d:=aa (Sy base g cap L w h c hb);clear h hb;go_enter Tryz.func131,Tryz.ntmps131;go_wp2_with fail;refine d.o.m ?_;rintro e j ⟨rfl,a,b⟩;obtain⟨f,i⟩:=aab a b;clear a b;go_wp2_with fail;go_end0;exact⟨rfl,f.o,i.o⟩
end
section
open Go.RowKit
attribute [local go_sem ↓] Go.wp_at_zero Go.wp_at_succ
def E5(w:World)(k:Int)(s:ByteArray)(L:List T)(wr:World):Prop:=
 ∃kv,jy wr w.heap.size (.int .i64 k) (.string s) kv/\jy wr (w.heap.size+1) (.int .i64 0) (.string ⟨#[]⟩) (.slice none 0 0)/\bK wr (w.heap.size+2) kv L/\Below w.heap.size w wr/\w.heap.size+2<=wr.heap.size
theorem E5.step{w:World}{k:Int}{s:ByteArray}{L:List T}{t:T}{wr w3 w4:World}{kv u0 u1 u2:Value}{xs:List Value}{g cap:Nat}
 (x:jy wr w.heap.size (.int .i64 k) (.string s) kv) (y:jy wr (w.heap.size+1) (.int .i64 0) (.string ⟨#[]⟩) (.slice none 0 0)) (f:bK wr (w.heap.size+2) kv L) (hb:Below w.heap.size w wr) (E:w.heap.size+2<=wr.heap.size)
 (n:∀i (h:i<L.length),∃u0 u1 u2,xs[i*3]?=some u0/\xs[i*3+1]?=some u1/\xs[i*3+2]?=some u2/\bI (but (w.heap.size+2) kv.ownBlock) wr (.agg #[u0,u1,u2]) L[i]) (o:xs.length=L.length*3)
 (j:Below wr.heap.size wr w3) (p:bI (dP wr.heap.size) w3 (.agg #[u0,u1,u2]) t)
 (q:w4.ownsRow (w.heap.size+2) 29 3 (.slice (some ⟨g,0,none⟩) (L.length+1) cap) (L.length+1) (xs++[u0,u1,u2])) (a:(w3.alloc (.cells #[u0,u1,u2] 29)).grownBy w4 kv.ownBlock)
 (r:kv.ownBlock=some g\/g=w3.heap.size+1):E5 w k s (L++[t]) (w4.setCell ⟨w.heap.size,2,none⟩ (.slice (some ⟨g,0,none⟩) (L.length+1) cap)):=by
 have m:∀b,b<w.heap.size+2->kv.ownBlock≠some b:=λb d e=>(aaz ((f.block b e).1));have c:=j.t ((ae w3 (.cells #[u0,u1,u2] 29)).m j.size);have u:Below w.heap.size w w4:=(hb.t (c.m aar)).grown a (by rw[aK];have:=j.size;omega) (λk v=>aaz ((f.block k v).1));refine⟨_,(((x.ag c).grown a (m _ aar)).AQ _),?_,?_,u.setCell (ax _) _,?_⟩;·exact((y.ag c).grown a (m _ aar)).setOther aau _
 ·have z:=bK.snoc (w:=w3.alloc (.cells #[u0,u1,u2] 29)) (H:=w3.heap.size+1) (t:=t) (λi hi=>by
   obtain⟨a0,A,a2,B,C,D,b3⟩:=n i hi;exact⟨a0,A,a2,B,C,D,b3.aR λb hb d=>⟨hb,c.block b d⟩⟩) o
   (p.aR λb l d=>⟨jd.2 ⟨aaz (ak l),λe=>aaA ((f.block b e).2) (ak l)⟩,fK w3 _ b d⟩)
   q a r aba
  exact z.aR λb l _=>aL _ _ _ _ (by show b≠w.heap.size;omega)
 ·have:=a.size;have:=c.size;simp[World.setCell];omega
theorem Y6:∀(N:Nat) (t:T) (v:Value) (w:World),t.bE<N->aS w v t->t.bE<=1048576->t.shape=true->
 Calls Tryz.prog 79 #[v] w (Ow t.fM w):=by
 intro N;induction N with
 |zero=>intro t v w h;omega
 |succ N ih=>
  intro t v w hN ht aQ G;cases ht with
  |mk k s A cap a U H I h3 h4 hA hU=>
   simp only[T.bE]at hN aQ;have bU:a.length<=262144:=(aaz (T.lq a));have HT:=aa (aS.mk k s A cap a U H I h3 h4 hA hU);obtain⟨i0,aR,aU,aW,aY⟩:=dU Tryz.uN;go_enter Tryz.func79,Tryz.ntmps79;go_wp2_with fail;obtain⟨c,J,K,x⟩:=oq w (.int .i64 k) (.string s) (.slice none 0 0) (.int .i64 0) (.string ⟨#[]⟩) (.slice none 0 0);generalize(w.alloc (.cells #[.int .i64 k,.string s,.slice none 0 0] 29)).alloc (.cells #[.int .i64 0,.string ⟨#[]⟩,.slice none 0 0] 29)=w1 at c J K x⊢;have ax:E5 w k s [] w1:=⟨_,c,J,bK.nil _ _,K,aar⟩;obtain⟨bf,IH,bg,bi⟩:=aad ax ih (T.I1 G) G;clear c J K x ax ih G;obtain⟨bn,bq⟩:=aab hA hU;clear hA hU;go_loopw [11] (λi wr=>∃j:Nat,j<=a.length/\i=.int .i64 j/\E5 w k s ((a.map T.fM).take j) wr) (λi _=>a.length-(intOf i).toNat);case atStart=>exact⟨0,aT _,rfl,by simpa using bf.o⟩
   case round=>
    obtain⟨j,hj,rfl,q⟩:=hrel;by_cases y:j<a.length
    ·obtain⟨kv,c,l,f,d,x⟩:=q;obtain⟨b,off,z,B,rfl,d0,d1,d2,hu⟩:=aS.cells y bn.o bq.o;obtain⟨e0,e1,e2⟩:=aak d d0 d1 d2;have hi:(j:Int)<(a.length:Int):=aar;obtain⟨HU,az,HJ⟩:=aac (hu.ag d) y hj;have aB:=aa (show a[j].bE<N/\a[j].bE<=1048576 from aaz (T.jq a j y));have bu:=aa (bg.o j y);clear d0 d1 d2 hu hj;go_upto_region 6 with fail;have o:=ae wr (.cells #[.int .i64 a[j].aA,.string a[j].aI,.slice z a[j].ay.length B] 29);have qx:=jy.new wr (.int .i64 a[j].aA) (.string a[j].aI) (.slice z a[j].ay.length B);have aC:=aK wr (.cells #[.int .i64 a[j].aA,.string a[j].aI,.slice z a[j].ay.length B] 29);generalize wr.alloc _=wq at o qx aC⊢;replace c:=c.ag o;replace l:=l.ag o;replace f:=f.ag o;replace d:=d.t (o.m d.size);have M:w.heap.size+2<=wq.heap.size:=aar;have bv:=aa (HU.o.ag o);obtain⟨xs,C,hx⟩:=f.owns;have aF:(List.take j (a.map T.fM)).length=j:=(by rw[aX,bZ];omega);have aG:=aa (λt w3 w4 u0 u1 u2 g cap=>E5.step (k:=k) (s:=s) (t:=t) (w3:=w3) (w4:=w4) (u0:=u0) (u1:=u1) (u2:=u2) (g:=g) (cap:=cap) c l f d M hx C.1);have bA:=aa (show List.take j (a.map T.fM)++[a[j].fM]=List.take (j+1) (a.map T.fM) by rw[aZ (by simpa using y),ic];rfl);obtain⟨O,P,r⟩:=c.cells;obtain⟨f0,f1,f2⟩:=c.free;obtain⟨q0,q1,q2⟩:=qx.cells;have Q:=f.block;rw[aF]at C aG;obtain⟨HOWN,R,bV⟩:=aac C c Q;have bW:w.heap.size<wq.heap.size:=aar;have bB:=aa M;have bC:=aa (show kv.ownBlock≠some w.heap.size from λe=>aaz ((Q _ e).1));clear e0 e1 e2 hx f l x M aF C c o d Q aC;go_region_law (first|(refine dW _ aav _ _ _ aav (w.heap.size+2) 29 i0 _ 3 48 cB aR aU aW aY rfl aar _ _ _ aav bD.o ⟨_,0,none⟩ 1 1 _ aav aav (cZ (bP _ _)) bF.o aar aaS aar bH.o _ rfl ?_;intro g cap w4 aL S q bI;have V:=(R.o.ag (m.t ((ae w3 _).m m.size))).grown S bC.o;have c4:=V.cells.2.2;have f4:=V.free.2.2)|(go_simp;go_at_call 79;refine(IH.o _ _ _ aB.o.1 bv.o.drew aB.o.2 bu.o).m ?_;rintro e w3 ⟨W,C3,rfl,X,bL⟩;have m:=jN bL;obtain⟨z0,z1,z2⟩:=aak m O P r;have bM:=af (ae w3 (.cells #[.int .i64 a[j].fM.aA,.string a[j].fM.aI,.slice W a[j].fM.ay.length C3] 29)) z2;obtain⟨bD,bF⟩:=aab ((dG HOWN.o m).alloc (.cells #[.int .i64 a[j].fM.aA,.string a[j].fM.aI,.slice W a[j].fM.ay.length C3] 29)) X.one;have bH:=aa (show w.heap.size+2<=(w3.alloc (.cells #[.int .i64 a[j].fM.aA,.string a[j].fM.aI,.slice W a[j].fM.ay.length C3] 29)).heap.size by rw[aK];have:=m.size;have:=bB.o;omega)));all_goals
      have Y:=aG.o a[j].fM w3 w4 _ _ _ g cap m X aL S (q.imp id (λh=>h.t (aK _ _)));rw[bA.o]at Y;have bN:=aa Y;clear Y S aL X c4 f4 V z0 z1 z2 bM q bI;go_wp2_with fail;go_roundw;case rel=>exact⟨j+1,az.o,aaw,bN.o⟩
      case measure=>exact aax az.o
    ·obtain rfl:j=a.length:=aar;rw[bG (by simp)]at q;obtain⟨kv,c,l,f,d,x⟩:=q;obtain⟨L,p⟩:=aay (a.map T.fM);rw[p]at f;have n:L.length=a.length:=(by rw[<-p,bZ]);obtain⟨O,P,r⟩:=c.cells;obtain⟨q0,q1,q2⟩:=l.cells;obtain⟨f0,f1,f2⟩:=l.free;by_cases D:k=7
     ·subst D;have bO:=T.FU bi.o;rcases f with⟨rfl,bQ⟩|⟨g,C4,rfl,Z⟩;·rw[bQ]at n;simp at n;omega
      have bX:w.heap.size+2<=g:=(by obtain⟨_,_,_,_,_,h5,_⟩:=Z;exact h5);have aM:T.bJ L<=1048576:=(by rw[<-p,<-T.iA,T.rA];omega);have HS:=aa (WS (w.heap.size+2) g C4 L wr Z aar aM);rw[n]at HS r c;have HN:=aa (show(T.mk 7 s a).fM=.mk 7 s (T.nO L) by simp only[T.fM,aJ,T.iA,p]);obtain⟨E,ah,R,ak⟩:=aad n d c l;have bR:some g≠some w.heap.size:=λe=>(by injection e;omega);have bS:some g≠some (w.heap.size+1):=λe=>(by injection e;omega);clear p n aM Z d c l bO;go_wp2_with fail;refine HS.o.m ?_;rintro e w5 ⟨rfl,aN,F⟩;have aO:=R.o.grown F bR;have av:=ak.o.grown F bS;have bT:=ah.o.grown F aar (λk hk=>by injection hk;omega);obtain⟨a0,a1,a2⟩:=aO.cells;obtain⟨b0,b1,b2⟩:=av.cells;obtain⟨c0,c1,c2⟩:=av.free;have u:=aa (bK.term (k:=7) (s:=s) (.inr ⟨g,C4,rfl,aN⟩) H I);rw[T.rE,E.o]at u;clear aN F aO O P r q0 q1 q2 f0 f1 f2;go_wp2_with fail;obtain⟨d0,d1,d2⟩:=(dX av (.int .i64 7) (.string s) (.slice (some ⟨g,0,none⟩) a.length C4)).cells;refine aV (v:=.agg #[.int .i64 7,.string s,.slice (some ⟨g,0,none⟩) a.length C4]) (by simp[results,Tryz.results79,go_sem,d0,d1,d2]) rfl ?_;rw[HN.o];exact rO (t:=.mk 7 s (T.nO L)) _ _ _ bT aar rfl rfl (by show _=Value.slice _ (T.nO L).length _;rw[T.rE,E.o]) u.o
     ·have bY:(k==7)=false:=(by rw[aD];exact D);obtain⟨A4,C4,aP,_,_⟩:=f.shape;have HN:=aa (show(T.mk k s a).fM=.mk k s L by simp only[T.fM,aH D,T.iA,p]);obtain⟨u,ah,ak,E⟩:=aad (f.term k s H I) d l n;rw[aP]at r u;rw[n]at r u;clear p D aP f d c l n;go_wp2_with fail;obtain⟨d0,d1,d2⟩:=(dX ak.o (.int .i64 k) (.string s) (.slice A4 a.length C4)).cells;refine aV (v:=.agg #[.int .i64 k,.string s,.slice A4 a.length C4]) (by simp[results,Tryz.results79,go_sem,d0,d1,d2]) rfl ?_;rw[HN.o];exact rO (t:=.mk k s L) _ _ _ ah.o aar rfl rfl (by show _=Value.slice _ L.length _;rw[E.o]) u.o
end
section
open Go.RowKit
namespace T
theorem TB(x y:List UInt8):Op.bytesLess x y=decide (x<y):=by
 induction x generalizing y with
 |nil=>cases y<;>simp[Op.bytesLess]
 |cons a x c=>cases y with
  |nil=>simp[Op.bytesLess]
  |cons b y=>simp only[Op.bytesLess,c,r9,Bool.decide_or,Bool.decide_and];congr 1
theorem acj{p:Prop}(h:p:=by
 rcases(show a<b\/b<a by have:a.toNat≠b.toNat:=λh=>e (qg.1 h);rw[jF,jF];omega)with g|g;·left;left;exact g
 ·right;right;left;exact g):p:=h
theorem M4(x y:List UInt8):x<y\/x=y\/y<x:=by
 induction x generalizing y with
 |nil=>cases y with
  |nil=>exact .inr (.inl rfl)
  |cons b y=>exact .inl (List.nil_lt_cons b y)
 |cons a x c=>cases y with
  |nil=>exact .inr (.inr (List.nil_lt_cons a x))
  |cons b y=>
   rw[r9,r9,zg];rcases c y with h|h|h
   ·by_cases e:a=b;·left;right;exact⟨e,h⟩
    ·exact acj
   ·by_cases e:a=b;·right;left;exact⟨e,h⟩
    ·exact acj
   ·by_cases e:a=b;·right;right;right;exact⟨e.symm,h⟩
    ·exact acj
theorem G6{a b:ByteArray}(h:a.toList=b.toList):a=b:=wJ (by rw[<-iR,<-iR];exact h)
theorem Mi{a b:ByteArray}:cs a b= -1<->a.toList<b.toList:=by
 unfold cs less;rw[TB];by_cases h:a.toList<b.toList;·simp[h]
 ·simp only[h,decide_false,nz,zX,iff_false];split<;>decide
theorem JO{a b:ByteArray}:cs a b=0<->a=b:=by
 unfold cs less;rw[TB];by_cases h:a.toList<b.toList
 ·have:a≠b:=λe=>(by rw[e]at h;exact qN _ h);simp[h,this]
 ·simp only[h,decide_false,nz,zX];by_cases e:a.toList=b.toList;·simp[G6 e]
  ·have c:(a.toList==b.toList)=false:=(by rw[aD];exact e);have:a≠b:=λh=>e (by rw[h]);simp[c,this]
theorem Qi(a b:ByteArray):cs a b= -1\/cs a b=0\/cs a b=1:=by
 unfold cs;split;·simp
 ·split<;>simp
theorem VP(a b:ByteArray):cs b a= -cs a b:=by
 rcases M4 a.toList b.toList with h|h|h
 ·have c:=Mi.2 h;have d:cs b a≠ -1:=λe=>qN _ (xn h (Mi.1 e));have f:cs b a≠0:=λe=>(by rw[JO.1 e]at h;exact qN _ h);rcases Qi b a with g|g|g;·exact absurd g d
  ·exact absurd g f
  ·rw[g,c];rfl
 ·have:=G6 h;subst this;rw[JO.2 rfl];rfl
 ·have c:=Mi.2 h;have d:cs a b≠ -1:=λe=>qN _ (xn h (Mi.1 e));have f:cs a b≠0:=λe=>(by rw[JO.1 e]at h;exact qN _ h);rcases Qi a b with g|g|g;·exact absurd g d
  ·exact absurd g f
  ·rw[g,c]
theorem YS{a b:Int}:ci a b= -1<->a<b:=by unfold ci;split<;>(try split)<;>omega
theorem TG{a b:Int}:ci a b=0<->a=b:=by unfold ci;split<;>(try split)<;>omega
theorem VN(a b:Int):ci b a= -ci a b:=by unfold ci;split<;>(try split)<;>(try split)<;>omega
theorem UJ{x y z a b c:Int}(d:a= -x)(hy:b= -y)(e:c= -z):QH a b c= -QH x y z:=by
 subst d;subst hy;subst e;unfold QH;split<;>(try split)<;>(try split)<;>(try split)<;>omega
mutual
theorem oL:∀a b:T,cmp b a= -cmp a b
 |.mk k s c,.mk k' e d=>by rw[yD,yD];exact UJ (VN _ _) (VP _ _) (Fg c d)
theorem Fg:∀l m:List T,iC m l= -iC l m
 |[],[]=>rfl
 |[],_::_=>rfl
 |_::_,[]=>rfl
 |a::r,b::c=>by
  have d:=oL a b;have e:=Fg r c;simp only[iC];split<;>split<;>omega
end
mutual
theorem cmp_eq:∀a b:T,cmp a b=0->a=b
 |.mk k s c,.mk k' j d=>λh=>by
  rw[yD]at h;unfold QH at h;split at h;·omega
  ·split at h;·omega
   ·rename_i e f;have g:=TG.1 (Decidable.not_not.1 e);have i:=JO.1 (Decidable.not_not.1 f);rw[g,i,JN c d h]
theorem JN:∀l m:List T,iC l m=0->l=m
 |[],[]=>λ_=>rfl
 |[],_::_=>λh=>by simp[iC]at h
 |_::_,[]=>λh=>by simp[iC]at h
 |a::r,b::c=>λh=>by
  simp only[iC]at h;split at h;·rename_i d;rw[cmp_eq a b d,JN r c h]
  ·omega
end
mutual
theorem pQ:∀a:T,cmp a a=0
 |.mk k s b=>by rw[yD,TG.2 rfl,JO.2 rfl,Fh b];rfl
theorem Fh:∀l:List T,iC l l=0
 |[]=>rfl
 |a::r=>by simp only[iC];rw[aJ (pQ a)];exact Fh r
end
theorem Yd{x y z:Int}:QH x y z= -1<->x= -1\/(x=0/\(y= -1\/(y=0/\z= -1))):=by
 unfold QH;split<;>(try split)<;>omega
mutual
theorem sV:∀a b c:T,cmp a b= -1->cmp b c= -1->cmp a c= -1
 |.mk k s d,.mk k' i e,.mk j l f=>λh g=>by
  rw[yD,Yd,YS,TG,Mi,JO]at h g⊢;rcases h with h|⟨rfl,h⟩
  ·rcases g with g|⟨rfl,g⟩;·left;omega
   ·left;exact h
  ·rcases g with g|⟨rfl,g⟩;·left;exact g
   ·right;refine⟨rfl,?_⟩;rcases h with h|⟨rfl,h⟩
    ·rcases g with g|⟨rfl,g⟩;·left;exact xn h g
     ·left;exact h
    ·rcases g with g|⟨rfl,g⟩;·left;exact g
     ·right;exact⟨rfl,Dr d e f h g⟩
theorem Dr:∀a b c:List T,iC a b= -1->iC b c= -1->iC a c= -1
 |[],[],_=>λh _=>by simp[iC]at h
 |[],_::_,[]=>λ_ g=>by simp[iC]at g
 |[],_::_,_::_=>λ_ _=>rfl
 |_::_,[],_=>λh _=>by simp[iC]at h
 |_::_,_::_,[]=>λ_ g=>by simp[iC]at g
 |a::r,b::f,c::i=>λh g=>by
  simp only[iC]at h g⊢;by_cases e:cmp a b=0
  ·rw[aJ e]at h;have:=cmp_eq a b e;subst this;by_cases d:cmp a c=0;·rw[aJ d]at g⊢;exact Dr r f i h g
   ·rw[aH d]at g⊢;exact g
  ·rw[aH e]at h;by_cases d:cmp b c=0
   ·have:=cmp_eq b c d;subst this;rw[aH e];exact h
   ·rw[aH d]at g;have:=sV a b c h g;rw[aH aaF];exact this
end
end T
def CT(S:Nat->Bool)(w:World)(xs:List Value)(L:List T):Prop:=
 xs.length=L.length*3/\∀i (h:i<L.length),∃a b c,xs[i*3]?=some a/\xs[i*3+1]?=some b/\xs[i*3+2]?=some c/\bI S w (.agg #[a,b,c]) L[i]
theorem CT.aR{S S':Nat->Bool}{w w':World}{xs:List Value}{L:List T}(h:CT S w xs L)(e:∀b,S b=true->b<w.heap.size->S' b=true/\w'.heap[b]?=w.heap[b]?):CT S' w' xs L:=
 ⟨h.1,λi hi=>by obtain⟨u0,u1,u2,a,b,c,d⟩:=h.2 i hi;exact⟨u0,u1,u2,a,b,c,d.aR e⟩⟩
theorem CT.nil(S:Nat->Bool)(w:World):CT S w [] []:=⟨rfl,λi h=>by simp at h⟩
theorem CT.one{S:Nat->Bool}{w:World}{u0 u1 u2:Value}{t:T}(h:bI S w (.agg #[u0,u1,u2]) t):CT S w [u0,u1,u2] [t]:=
 ⟨rfl,λi hi=>by
   obtain rfl:i=0:=aaP;exact⟨u0,u1,u2,rfl,rfl,rfl,h⟩⟩
theorem CT.append{S:Nat->Bool}{w:World}{xs l:List Value}{L M:List T}(h:CT S w xs L)(k:CT S w l M):CT S w (xs++l) (L++M):=by
 refine⟨by rw[aF,aF,h.1,k.1];omega,λi hi=>?_⟩;have n:=h.1;rcases bX i L.length with g|g
 ·obtain⟨e,f,j,a,b,c,d⟩:=h.2 i g;refine⟨e,f,j,?_,?_,?_,by rw[dH g];exact d⟩;all_goals rw[bN aaF];assumption
 ·have m:i-L.length<M.length:=aaQ;obtain⟨e,f,j,a,b,c,d⟩:=k.2 (i-L.length) m;refine⟨e,f,j,?_,?_,?_,by rw[dh g];exact d⟩;·rw[bq aar,<-a];congr 1;omega
  ·rw[bq aar,<-b];congr 1;omega
  ·rw[bq aar,<-c];congr 1;omega
theorem CT.take{S:Nat->Bool}{w:World}{xs:List Value}{L:List T}(h:CT S w xs L)(j:Nat):CT S w (xs.take (j*3)) (L.take j):=by
 refine⟨by rw[aX,aX,h.1];omega,λi hi=>?_⟩;have hj:i<j/\i<L.length:=(by rw[aX]at hi;omega);obtain⟨e,f,g,a,b,c,d⟩:=h.2 i hj.2;refine⟨e,f,g,?_,?_,?_,by rw[nX];exact d⟩;all_goals rw[gY,aJ aaF];assumption
theorem CT.drop{S:Nat->Bool}{w:World}{xs:List Value}{L:List T}(h:CT S w xs L)(j:Nat):CT S w (xs.drop (j*3)) (L.drop j):=by
 refine⟨by rw[dO,dO,h.1];omega,λi hi=>?_⟩;have hj:j+i<L.length:=(by rw[dO]at hi;omega);obtain⟨e,f,g,a,b,c,d⟩:=h.2 (j+i) hj;refine⟨e,f,g,?_,?_,?_,by rw[wO];exact d⟩;·rw[gX,<-a];congr 1;omega
 ·rw[gX,<-b];congr 1;omega
 ·rw[gX,<-c];congr 1;omega
theorem CT.one'{S:Nat->Bool}{w:World}{xs:List Value}{L:List T}(h:CT S w xs L):∀u∈xs,u.oneCell'=true:=by
 intro u hu;obtain⟨j,hj,rfl⟩:=bL hu;have i:=h.1;obtain⟨k,l,m,a,b,c,d⟩:=h.2 (j / 3) aar;have f:=d.one;have e:xs[j]?=some xs[j]:=az hj;rcases(show j=j / 3*3\/j=j / 3*3+1\/j=j / 3*3+2 by omega)with g|g|g;·rw[<-g,e]at a;injection a with a;rw[a];exact f _ aau
 ·rw[<-g,e]at b;injection b with b;rw[b];exact f _ aau
 ·rw[<-g,e]at c;injection c with c;rw[c];exact f _ aau
theorem bK.cells{w:World}{base:Nat}{v:Value}{L:List T}(h:bK w base v L):∃xs,w.ownsRow base 29 3 v L.length xs/\CT (but base v.ownBlock) w xs L:=by
 obtain⟨xs,a,b⟩:=h.owns;exact⟨xs,a,a.1,b⟩
theorem bK.of{w:World}{base:Nat}{v:Value}{L:List T}{xs:List Value}(h:w.ownsRow base 29 3 v L.length xs)(k:CT (but base v.ownBlock) w xs L):bK w base v L:=by
 rcases h.2 with⟨rfl,h0⟩|⟨g,cap,f,rfl,l,m,n,o,p,q⟩;·exact .inl ⟨rfl,bR h0⟩
 ·refine .inr ⟨g,cap,rfl,f,m,p,n,o,l,λi hi=>?_⟩;obtain⟨r,s,t,a,b,c,d⟩:=k.2 i hi;have e:∀j u,xs[j]?=some u->f[j]?=some u:=λj u hu=>by
   rw[<-q,gY]at hu;split at hu;·simpa using hu
   ·cases hu
  exact⟨r,s,t,e _ _ a,e _ _ b,e _ _ c,d⟩
theorem Nz{w:World}{base g n cap j:Nat}{e:TypeId}{size:Nat}{xs:List Value}(h:w.ownsRow base e size (.slice (some ⟨g,0,none⟩) n cap) n xs)(hj:j<=n):w.ownsRow base e size (.slice (some ⟨g,0,none⟩) j cap) j (xs.take (j*size)):=by
 obtain⟨c,d⟩:=h;rcases d with⟨h,_⟩|⟨q,r,f,a,i,k,l,m,o,p⟩;·cases h
 ·simp only[rf,iw,Ca,GY,Bb]at a;obtain⟨rfl,rfl⟩:=a;have b:j*size<=n*size:=iq _ hj;refine⟨by rw[aX,c];exact kg b,.inr ⟨g,cap,f,rfl,i,k,aG hj l,m,o,?_⟩⟩;rw[<-p,zL,kg b]
theorem Kh{w:World}{base n cap j:Nat}{A:Option Addr}{e:TypeId}{size:Nat}{xs:List Value}(h:w.ownsRow base e size (.slice A n cap) n xs)(hj:j<=n):w.ownsRow base e size (.slice A j cap) j (xs.take (j*size)):=by
 rcases h.2 with⟨a,h0⟩|⟨g,b,c,a,_⟩
 ·obtain rfl:j=0:=aar;subst h0;rw[a];simpa using gV w base e size
 ·have hA:A=some ⟨g,0,none⟩:=(by injection a);subst hA;exact Nz h hj
end
section
open Go.RowKit
def Src(w:World)(size:Nat)(A:Option Addr)(m:Nat)(xs:List Value):Prop:=
 xs.length=m*size/\(m=0\/∃g off,A=some ⟨g,off,none⟩/\∀j u,xs[j]?=some u->w.cell? ⟨g,off+j,none⟩=some u)
theorem Src.aR{w w':World}{size m:Nat}{A:Option Addr}{xs:List Value}(h:Src w size A m xs)(b:∀p:Addr,(w.cell? p).isSome=true->some p.block=A.map (·.block)->w'.cell? p=w.cell? p):Src w' size A m xs:=by
 refine⟨h.1,?_⟩;rcases h.2 with h0|⟨g,off,rfl,a⟩;·exact .inl h0
 ·exact .inr ⟨g,off,rfl,λj u hu=>(b ⟨g,off+j,none⟩ (by rw[a j u hu];rfl) rfl).t (a j u hu)⟩
theorem Src.ag{w w':World}{size m:Nat}{A:Option Addr}{xs:List Value}(h:Src w size A m xs)(hb:Below w.heap.size w w'):Src w' size A m xs:=
 h.aR λp b _=>by
   obtain⟨v,a⟩:=eO.1 b;rw[a];exact af hb a
theorem Src.grown{w w':World}{size m:Nat}{A:Option Addr}{xs:List Value}{row:Option Nat}(h:Src w size A m xs)(c:w.grownBy w' row)(a:A.map (·.block)≠row\/row=none):Src w' size A m xs:=
 h.aR λp d f=>by
   obtain⟨v,b⟩:=eO.1 d;rw[b];refine c.cell b (λe=>?_);rcases a with a|a;·exact a (by rw[<-f,e])
   ·rw[a]at e;cases e
theorem Src.none_(w:World)(size:Nat)(A:Option Addr):Src w size A 0 []:=⟨aau,.inl rfl⟩
theorem Src.yO{w:World}{base:Nat}{e:TypeId}{size n c:Nat}{A:Option Addr}{xs:List Value}(h:w.ownsRow base e size (.slice A n c) n xs):Src w size A n xs:=by
 refine⟨h.1,?_⟩;rcases h.2 with⟨_,h0⟩|⟨g,cap,b,a,_⟩;·exact .inl h0
 ·right;have hA:A=some ⟨g,0,none⟩:=(by injection a);subst hA;refine⟨g,0,rfl,λj u hu=>?_⟩;have:=h.cells (g:=g) rfl j u hu;rw[cz]at this;exact this
theorem Src.cut{w:World}{size n k cap:Nat}{A:Option Addr}{xs:List Value}(h:Src w size A n xs)(b:k<=n)(c:n<=cap):Src w size (if cap=k then A else A.map (·.add (k*size))) (n-k) (xs.drop (k*size)):=by
 refine⟨by rw[dO,h.1,Nat.sub_mul],?_⟩;rcases eF (n-k)with h0|h0;·exact .inl h0
 ·rcases h.2 with d|⟨g,off,rfl,a⟩;·omega
  ·right;rw[aH aaF];refine⟨g,off+k*size,by simp[Go.WideShapes.add_plain],λj u hu=>?_⟩;rw[gX]at hu;have:=a _ u hu;rw[<-gN]at this;exact this
section
variable {P:Program} (w:World)
theorem IW(base:Nat)(t ty e:TypeId)(i:TypeInfo)(z:Value)(size bytes:Nat)(k:P.underlying t=some (.slice e))(hi:P.info? e=some i)(y:i.zero=some z)
 (B:i.size=size) (C:i.bytes=bytes) (D:z.cells.size=size) (E:0<size)
 (v:Value) (n:Nat) (xs:List Value) (f:w.ownsRow base e size v n xs)
 (A:Option Addr) (m c:Nat) (news:List Value) (b:Src w size A m news) (F:∀u∈news,u.oneCell'=true)
 (G:n+m<=maxLen) (H:(n+m)*bytes<=140737488355328) (I:base<=w.heap.size):
 ∃A' a w',(Builtin.append_ #[t,t] ty #[v,.slice A m c]).run P w=.ok (.slice A' (n+m) a) w'/\w'.ownsRow base e size (.slice A' (n+m) a) (n+m) (xs++news)/\w.grownBy w' v.ownBlock/\
  (A'.map (·.block)=v.ownBlock\/A'.map (·.block)=some w.heap.size):=by
 have p:∀{w':World} {d:Value} {l:Nat} {q:List Value},w'.ownsRow base e size d l q->∃A' a,d=.slice A' l a/\d.ownBlock=A'.map (·.block):=by
  intro w' d l q h;rcases h.2 with⟨rfl,rfl⟩|⟨g,cap,J,rfl,_⟩;·exact⟨none,0,rfl,rfl⟩
  ·exact⟨_,cap,rfl,rfl⟩
 rcases A with _|r
 ·have K:m=0:=by
   rcases b.2 with h0|⟨g,off,h,_⟩;·exact h0
   ·cases h
  subst K;have o:news=[]:=bR (by simpa using b.1);subst o;obtain⟨A',a,s,hb⟩:=p f;refine⟨A',a,w,?_,by rw[fC,dK];exact s▸f,⟨rfl,rfl,rfl,ax _,λ_ _ _=>rfl⟩,.inl hb.symm⟩;rw[fC,<-s];rcases f.2 with⟨rfl,rfl⟩|⟨g,cap,J,rfl,_,_,L,_⟩;·simp[Builtin.append_,run_underlying k,sizeOf,typeInfo,hi,Builtin.lenOf,Builtin.firstCells]
  ·simp[Builtin.append_,run_underlying k,sizeOf,typeInfo,hi,Builtin.lenOf,Builtin.firstCells,L,storeCells]
 ·have M:∀j u,news[j]?=some u->w.cell? (r.add j)=some u:=by
   intro j u hu;rcases b.2 with h0|⟨g,off,h,N⟩
   ·subst h0;have o:news=[]:=bR (by simpa using b.1);subst o;simp at hu
   ·injection h with h;subst h;rw[cz];exact N j u hu
  obtain⟨d,w',O,x,Q,_,R⟩:=run_append_own_at (P:=P) w base t ty e i z size bytes k hi y B C D E v n xs f r m c news b.1 M F G H I;obtain⟨A',a,rfl,hb⟩:=p x;exact⟨A',a,w',O,x,Q,by rw[<-hb];exact R⟩
theorem Cw{o:Oper}{a:Act}{K:Act->World->Prop}{Q:Exit->Act->World->Prop}(s x:Operand)(t:TypeId)
 (d:o.op=.call { callee:=.builtin .append,args:=#[s,x],argTypes:=#[t,t] })
 (base:Nat) (e:TypeId) (i:TypeInfo) (z:Value) (size bytes:Nat) (f:P.underlying t=some (.slice e)) (hi:P.info? e=some i) (g:i.zero=some z)
 (j:i.size=size) (k:i.bytes=bytes) (l:z.cells.size=size) (p:0<size)
 (v:Value) (n:Nat) (xs:List Value) (q:a.eval s=v) (r:w.ownsRow base e size v n xs)
 (A:Option Addr) (m c:Nat) (news:List Value) (y:a.eval x=.slice A m c) (B:Src w size A m news) (C:∀u∈news,u.oneCell'=true)
 (D:n+m<=maxLen) (E:(n+m)*bytes<=140737488355328) (F:base<=w.heap.size)
 (h:∀A' b w',w'.ownsRow base e size (.slice A' (n+m) b) (n+m) (xs++news)->w.grownBy w' v.ownBlock->(A'.map (·.block)=v.ownBlock\/A'.map (·.block)=some w.heap.size)->K (a.put o.dst (.slice A' (n+m) b)) w'):o.wp P a w K Q:=by
 obtain⟨A',b,w',G,H,I,J⟩:=IW (P:=P) w base t o.type e i z size bytes f hi g j k l p v n xs r A m c news B C D E F;unfold Oper.wp execOp;simp only[d,resolve,invoke,builtin,Sem.run_bind,Sem.run_pure,Result.andThen_ok,List.map_toArray,jH,qP,q,y,G];exact h A' b w' H I J
theorem fq{ops:Array Oper}{rest:List Oper}{o:Oper}{a:Act}{Q:Exit->Act->World->Prop}(d:o.guard=none)(s x:Operand)(t:TypeId)
 (f:o.op=.call { callee:=.builtin .append,args:=#[s,x],argTypes:=#[t,t] })
 (base:Nat) (e:TypeId) (i:TypeInfo) (z:Value) (size bytes:Nat) (g:P.underlying t=some (.slice e)) (hi:P.info? e=some i) (j:i.zero=some z)
 (k:i.size=size) (l:i.bytes=bytes) (p:z.cells.size=size) (q:0<size)
 (v:Value) (n:Nat) (xs:List Value) (r:a.eval s=v) (y:w.ownsRow base e size v n xs)
 (A:Option Addr) (m c:Nat) (news:List Value) (B:a.eval x=.slice A m c) (C:Src w size A m news) (D:∀u∈news,u.oneCell'=true)
 (E:n+m<=maxLen) (F:(n+m)*bytes<=140737488355328) (G:base<=w.heap.size)
 (h:∀A' b w',w'.ownsRow base e size (.slice A' (n+m) b) (n+m) (xs++news)->w.grownBy w' v.ownBlock->(A'.map (·.block)=v.ownBlock\/A'.map (·.block)=some w.heap.size)->wpList P ops Q rest (a.put o.dst (.slice A' (n+m) b)) w'):wpList P ops Q (o::rest) a w:=
 wpList_plain d λ_ H=>Cw w s x t f base e i z size bytes g hi j k l p q v n xs r y A m c news B C D E F G λA' b w' I J K=>H _ _ (h A' b w' I J K)
theorem qi{ops:Array Oper}{o:Oper}{a:Act}{K:Act->World->Prop}{Q:Exit->Act->World->Prop}{E:Prop}(d:o.guard=none)(s x:Operand)(t:TypeId)
 (f:o.op=.call { callee:=.builtin .append,args:=#[s,x],argTypes:=#[t,t] })
 (base:Nat) (e:TypeId) (i:TypeInfo) (z:Value) (size bytes:Nat) (g:P.underlying t=some (.slice e)) (hi:P.info? e=some i) (j:i.zero=some z)
 (k:i.size=size) (l:i.bytes=bytes) (p:z.cells.size=size) (q:0<size)
 (v:Value) (n:Nat) (xs:List Value) (r:a.eval s=v) (y:w.ownsRow base e size v n xs)
 (A:Option Addr) (m c:Nat) (news:List Value) (B:a.eval x=.slice A m c) (C:Src w size A m news) (D:∀u∈news,u.oneCell'=true)
 (F:n+m<=maxLen) (G:(n+m)*bytes<=140737488355328) (H:base<=w.heap.size)
 (h:∀A' b w',w'.ownsRow base e size (.slice A' (n+m) b) (n+m) (xs++news)->w.grownBy w' v.ownBlock->(A'.map (·.block)=v.ownBlock\/A'.map (·.block)=some w.heap.size)->K (a.put o.dst (.slice A' (n+m) b)) w'):
 if Region.wanted o (yielded ops a.tmps)=true then Oper.wp P o a w K Q else E:=by
 have I:Region.wanted o (yielded ops a.tmps)=true:=(by simp[Region.wanted,d]);rw[aJ I];exact Cw w s x t f base e i z size bytes g hi j k l p q v n xs r y A m c news B C D F G H h
end
end
end Go.Proofs.YtaciciokmpbkkaaGreatDoor
