import Derived.Test.YtaciciokmpbkkaaGreatDoorWebG17
set_option maxRecDepth 100000
set_option maxHeartbeats 16000000
namespace Go.Proofs.YtaciciokmpbkkaaGreatDoor
section
open T
theorem RV:∀{y:T},y.aA=1\/y.aA=2->((y.aA=1\/y.aA=2)/\y.ay.length=0\/(y.aA=3\/y.aA=5\/y.aA=6)/\y.ay.length=2\/y.aA=4/\y.ay.length=1\/y.aA=7/\1<=y.ay.length/\y.ay.length<=4)->y.fM=y
 |.mk k s c,d,a=>by
  have f:k=1\/k=2:=d;have e:c=[]:=by
   rcases a with⟨_,a⟩|⟨a,_⟩|⟨a,_⟩|⟨a,_⟩;·exact dS.1 a
   ·have b:k=3\/k=5\/k=6:=a;omega
   ·have b:k=4:=a;omega
   ·have b:k=7:=a;omega
  subst e;simp only[T.fM];rw[aH aaF];simp[T.fV]
theorem Vq{t:T}(h:t.use=true):∀x∈t.ay,x.use=true:=by
 intro x m;obtain⟨i,hi,rfl⟩:=bL m;have d:t.eT i=t.ay[i]:=(by show t.ay.getD i T.qz=_;rw[dn,az hi];rfl);by_cases e:t.aA=7
 ·obtain⟨k,s,a⟩:=t;have n:k=7:=e;have f:i<a.length:=hi;unfold T.use at h;obtain⟨g,v⟩:=aN.1 h;unfold T.ground at g;obtain⟨j,c⟩:=aN.1 g;have l:=mr j;have o:=ak (aN.1 j).1;subst n;have p:=rJ l a[i] (aP f);have b:=T.tL _ l _ ((AZ _ _ (T.BR (.mk 7 s a))).1 i hi);rw[d]at b;have q:a[i].hasVar=false:=by
   rw[bT]at c;simp only[T.hasVar,T.nS,kL]at c;simpa using fH.1 c.2 a[i] (aP f)
  have r:a[i].eZ=true:=(by unfold T.eZ;rw[ah];exact⟨aM (aG b.2 o),b.1⟩);have u:a[i].fM=a[i]:=RV (QX p.1) (oZ (show a[i].shape=true from b.1));exact T.PT r q u
 ·rw[<-d];exact rW h e hi
theorem CQ:∀(b:List Bd) (ps left:List T) (f:ByteArray) (o:Nat) (left':List T) (d:ByteArray) (a:Nat),qH b ps left f o=some (left',d,a)->o<a->∃p∈ps,p.aA=2/\d=p.aI
 |b,[],left,f,o,left',d,a,h,j=>by
  simp only[qH,iw,mE]at h;omega
 |b,k::ps,left,f,o,left',d,a,h,j=>by
  simp only[qH]at h;cases c:val b k with
  |none=>
   rw[c]at h;have l:k.aA=2:=by
    unfold val at c;split at c;·assumption
    ·cases c
   rcases bX (o+1) a with g|g
   ·obtain⟨p,i,e⟩:=CQ b ps _ _ _ _ _ _ h g;exact⟨p,aY _ i,e⟩
   ·obtain⟨_,e,m,_⟩:=wE b ps _ _ _ _ _ _ h;exact⟨k,eu,l,m aar⟩
  |some v=>
   rw[c]at h;by_cases hi:fF v left<0;·simp only[aJ hi]at h;cases h
   ·simp only[aH hi]at h;obtain⟨p,i,e⟩:=CQ b ps _ _ _ _ _ _ h j;exact⟨p,aY _ i,e⟩
def GQ(Q:T->Prop)(L:List Bd):Prop:=LP L/\∀x∈L,isName x.var=true/\Q x.t
theorem GQ.ins{Q:T->Prop}{L:List Bd}{s:ByteArray}{t:T}(h:GQ Q L)(b:T.look L s=none)(c:isName s=true)(d:Q t):GQ Q (T.ins L s t):=
 ⟨O5 t h.1 b,λx a=>by
   rcases K4 a with rfl|a;·exact⟨c,d⟩
   ·exact h.2 x a⟩
theorem Oo{t:T}(h:t.shape=true)(a:t.aA=2):isName t.aI=true:=by
 obtain⟨k,s,c⟩:=t;have b:k=2:=a;simp only[T.shape,aJ (Or.inr b:k=1\/k=2),ah]at h;exact h.1
theorem WG{Q:T->Prop}{ps a:List T}{b x:List Bd}(j:∀p∈ps,p.shape=true)(hb:GQ Q b)(k:∀t∈a,Q t)(h:T.pow ps a b=some x):GQ Q x:=by
 unfold T.pow at h;cases c:qH b ps a ⟨#[]⟩ 0 with
 |none=>rw[c]at h;cases h
 |some q=>
  obtain⟨left,f,o⟩:=q;rw[c]at h;obtain⟨d,_,_,l,_⟩:=wE b ps a _ _ _ _ _ c;simp only[rH]at h;by_cases g:o=0
  ·rw[aJ g]at h;by_cases i:left.length=0
   ·rw[aJ i]at h;obtain rfl:b=x:=aa0;exact hb
   ·rw[aH i]at h;cases h
  ·rw[aH g]at h;by_cases e:o=1/\left.length=1
   ·rw[aJ e]at h;obtain⟨p,m,n,r⟩:=CQ b ps a _ _ _ _ _ c aar
    match left,e.2,d with
    |[y],_,d=>
     obtain rfl:T.ins b f y=x:=aaD;exact hb.ins (l aar) (by rw[r];exact Oo (j p m) n) (k y (d y eu))
   ·rw[aH e]at h;cases h
mutual
theorem Qw{Q:T->Prop}(c:∀t,Q t->∀x∈t.ay,Q x):∀(p t:T) (b x:List Bd),p.shape=true->GQ Q b->Q t->T.FE p t b=some x->GQ Q x
 |.mk k s i,t,b,x,a,hb,d,h=>by
  simp only[T.FE]at h;by_cases e:k=2
  ·rw[aJ e]at h;cases f:T.look b s with
   |none=>
    rw[f]at h;obtain rfl:T.ins b s t=x:=aaD;exact hb.ins f (Oo a e) d
   |some v=>
    rw[f]at h;by_cases j:cmp v t=0
    ·obtain rfl:b=x:=(by simpa[j]using h);exact hb
    ·simp[j]at h
  ·rw[aH e]at h;by_cases hd:k≠t.aA\/s≠t.aI\/i.length≠t.ay.length;·rw[aJ hd]at h;cases h
   ·rw[aH hd]at h;by_cases g:k=7
    ·rw[aJ g]at h;subst g;exact WG (λp l=>(rJ a p l).2) hb (c t d) h
    ·rw[aH g]at h;refine Il c i t.ay b x ?_ hb (c t d) h;by_cases m:k=1
     ·simp only[T.shape,aJ (Or.inl m:k=1\/k=2),ah,fD]at a;rw[dS.1 a.2];unfold T.dV;rfl
     ·simp only[T.shape,aH (show ¬(k=1\/k=2) by omega),ah]at a;exact a.2
theorem Il{Q:T->Prop}(f:∀t,Q t->∀x∈t.ay,Q x):∀(ps a:List T) (b x:List Bd),T.dV ps=true->GQ Q b->(∀t∈a,Q t)->T.kW ps a b=some x->GQ Q x
 |[],_,b,x,_,hb,_,h=>by
  obtain rfl:b=x:=(by simpa[T.kW]using h);exact hb
 |_::_,[],b,x,_,hb,_,h=>by
  obtain rfl:b=x:=(by simpa[T.kW]using h);exact hb
 |p::ps,t::a,b,x,d,hb,g,h=>by
  simp only[T.kW]at h;simp only[T.dV,ah]at d;cases e:T.FE p t b with
  |none=>rw[e]at h;cases h
  |some c=>
   rw[e]at h;have i:=Qw f p t b c d.1 hb (g t eu) e;exact Il f ps a c x d.2 i (λy hy=>g y (aY _ hy)) h
end
theorem Px{b:List Bd}(h:GQ (λt=>t.use=true) b):jO b=true:=by
 unfold jO;rw[bQ];intro i hi;have a:=ed.1 hi;rw[az a];show jJ b i b[i]=true;have c:=h.2 b[i] (aP a);unfold jJ;rw[c.1,c.2];by_cases h0:i=0;·simp[h0]
 ·rw[az aaF];have:=h.1.at (i:=i-1) (j:=i) aar a aar;simp[this]
theorem PD{b:List Bd}(h:jO b=true):GQ (λt=>t.use=true) b:=⟨LP.of h,qI h⟩
theorem Nf{p t:T}{b x:List Bd}(h:oz p t b=some x):jO x=true:=by
 obtain⟨a,c,d,e⟩:=J8 h;exact Px (Qw (λt f=>Vq f) p t b x (mr a) (PD d) c e)
structure jf.Fit (s:List iN) (x:jf):Prop where
 len:x.aO.length=s.length
 fF:∀(i:Nat) (q:oD) (st:iN),x.aO[i]?=some q->s[i]?=some st->q.fF<=st.2.length
 b:∀q∈x.aO,jO q.b=true
 bF:∀t∈x.bF,t.use=true
 VA:CY x.bF
theorem Rq{s:List iN}{K:List T}:(aQ.iJ s K).Fit s where
 len:=by simp[aQ.iJ]
 fF i q st h _:=by
  simp only[aQ.iJ,kQ]at h;cases a:s[i]? with
  |none=>rw[a]at h;cases h
  |some y=>
   rw[a]at h;obtain rfl:(⟨0,[]⟩:oD)=q:=aa0;exact aT _
 b q c:=by
   simp only[aQ.iJ,ek]at c;obtain⟨_,_,rfl⟩:=c;rfl
 bF t d:=by
  have:=(jG _).2 t |>.1 d;exact(fU.1 this).2
 VA:=(jG _).1
theorem kS{s:List iN}{x:jf}{i:Nat}{m:Int×T}(h:aQ.next s x i=some m):∃st q,s[i]?=some st/\x.aO[i]?=some q/\st.2[q.fF]?=some m:=by
 unfold aQ.next at h
 split at h;·rename_i st q a b;exact⟨st,q,a,b,h⟩
 ·cases h
def aQ.Vz(s:List iN)(x:jf)(m:Int×T)(t:mg):Prop:=aQ.next s x t.df=some m/\(m.1=2->∀q,x.aO[t.df]?=some q->(oz m.2 t.bC q.b).isSome=true)
theorem TU{s:List iN}{x:jf}{m:Int×T}{t:mg}(h:x.Fit s)(w:aQ.Vz s x m t):(aQ.move x m t).Fit s:=by
 obtain⟨y,z⟩:=w;obtain⟨st,q,A,c,B⟩:=kS y;have C:q∈x.aO:=dA c;have k:∀(i:Nat) (p:oD),(aQ.move x m t).aO[i]?=some p->(i=t.df/\p.fF=q.fF+1/\p.b=(if m.1=2 then (oz m.2 t.bC q.b).getD [] else q.b))\/(i≠t.df/\x.aO[i]?=some p):=by
  intro i p a;simp only[aQ.move,aQ.Zq,tZ]at a;by_cases e:t.df=i
  ·subst e;rw[c]at a;have l:(⟨q.fF+1,if m.1=2 then (oz m.2 t.bC q.b).getD [] else q.b⟩:oD)=p:=aaG;exact .inl ⟨rfl,by rw[<-l],by rw[<-l]⟩
  ·refine .inr ⟨jR e,?_⟩;simpa[e]using a
 have n:=h.b q C;refine⟨by simp[aQ.move,aQ.Zq,h.len],λi p o a g=>?_,λp a=>?_,?_,?_⟩
 ·rcases k i p a with⟨rfl,e,_⟩|⟨_,e⟩
  ·rw[A]at g;obtain rfl:st=o:=(by injection g);have:=(aU.1 B).1;omega
  ·exact h.fF i p o e g
 ·obtain⟨i,hi,rfl⟩:=bL a;rcases k i _ (az hi)with⟨rfl,_,e⟩|⟨_,e⟩
  ·rw[e];by_cases j:m.1=2
   ·rw[aJ j];have:=z j q c;cases r:oz m.2 t.bC q.b with
    |none=>rw[r]at this;cases this
    |some b=>exact Nf r
   ·rw[aH j];exact n
  ·exact h.b _ (dA e)
 ·intro u hu;simp only[aQ.move,c,gQ]at hu;by_cases d:m.1=1
  ·rw[aJ d]at hu;cases f:jP m.2 q.b with
   |none=>rw[f]at hu;exact h.bF u hu
   |some v=>
    rw[f]at hu;rcases bu.1 ((jG _).2 u |>.1 hu)with hu|hu;·exact h.bF u hu
    ·rw[bD]at hu;subst hu;exact(Rn f n).1
  ·rw[aH d]at hu;exact h.bF u hu
 ·show CY (aQ.move x m t).bF;simp only[aQ.move,c,gQ];by_cases d:m.1=1
  ·rw[aJ d];cases f:jP m.2 q.b with
   |none=>exact h.VA
   |some v=>exact(jG _).1
  ·rw[aH d];exact h.VA
end
section
open Go.RowKit Go.ChangeShapes Go.WideShapes
theorem rR:∀(N:Nat) (t:T),t.bE<N->t.shape=true->t.bE<=20*t.size
 |0,_,h,_=>by omega
 |N+1,t,f,a=>by
  obtain⟨k,s,c⟩:=t;by_cases d:k=1\/k=2
  ·rw[T.wI k s c d,ah,fD]at a;have e:=bR a.2;subst e;have o:s.size<=16:=by
    have:=a.1;unfold T.isName at this;rw[ah,ah,bO,bO]at this;exact this.2.2
   simp only[T.bE,T.bJ,T.size,T.dJ];omega
  ·rw[T.qB k s c (λe=>d (.inl e)) (λe=>d (.inr e)),ah,ah,bT]at a;obtain⟨⟨_,g⟩,j⟩:=a;have e:=T.Hm g;subst e;have m:∀(l:List T),(∀x∈l,x.bE<N/\x.shape=true)->T.bJ l<=20*T.dJ l:=λl=>by
    induction l with
    |nil=>intro _;simp[T.bJ]
    |cons x r n=>
     intro h;have b:=h x aau;have p:=rR N x b.1 b.2;have a2:=n λy hy=>h y (aY _ hy);simp only[T.bJ,T.dJ];omega
   have:=m c λx b=>by
    obtain⟨i,hi,rfl⟩:=bL b;have hb:=T.jq c i hi;simp only[T.bE]at f;refine⟨aar,?_⟩;have:=fH.1 j _ b;simpa using this
   simp only[T.bE,T.size];have:(⟨#[]⟩:ByteArray).size=0:=rfl;omega
namespace T
mutual
theorem SA:∀(t:T),t.shape=true->(subs t).length<=5*t.size
 |.mk k s b,h=>by
  have n:=oZ h;have h':=h;simp only[shape]at h';split at h'
  ·rename_i o;rw[ah,fD]at h';rw[bR h'.2];have d:¬k=7:=aar;simp only[subs,jb,size,dJ,aH d,dK,zz];omega
  ·rename_i o;rw[ah]at h';have B:=y9 b h'.2;simp only[subs,size,bg,aF];simp only[aA,ay]at n;split
   ·rename_i d;have p:∀(l:List T),(∀x∈l,x.aA=1\/x.aA=2)->(∀x∈l,x.shape=true)->(jb l).length<=l.length/\dJ l=l.length:=λl=>by
     induction l with
     |nil=>intro _ _;exact⟨ax _,rfl⟩
     |cons a r q=>
      intro f g;obtain⟨u,v⟩:=q (λx c=>f x (aY _ c)) (λx c=>g x (aY _ c));have j:=f a aau;have m:=g a aau;obtain⟨k',w,y⟩:=a;rw[T.wI k' w y j,ah,fD]at m;have e:=bR m.2;subst e;have C:k'=1\/k'=2:=j;have z:¬k'=7:=aar;simp only[jb,dJ,subs,size,aH z,aF,bg,dK,fE];omega
    have A:∀x∈b,x.aA=1\/x.aA=2:=λx c=>by
     obtain⟨i,hi,rfl⟩:=bL c;have:=Dt h d (i:=i) hi;rw[yI (t:=.mk k s b) hi]at this;exact this
    obtain⟨u,v⟩:=p b A ((mo b).1 h'.2);have D:(((Ej b).filter λl=>!l.isEmpty).map (T.mk 7 ⟨#[]⟩)).length<=2 ^ b.length:=by
     rw[bZ];refine aG (gF _ _) ?_;rw[Ja];exact ax _
    have E:2 ^ b.length+b.length+1<=5*(b.length+1):=by
     have:b.length=0\/b.length=1\/b.length=2\/b.length=3\/b.length=4:=aar;rcases this with e|e|e|e|e<;>rw[e]<;>decide
    omega
   ·simp only[fE];omega
theorem y9:∀(l:List T),dV l=true->(jb l).length<=5*dJ l
 |[],_=>by simp[jb,dJ]
 |t::r,h=>by
  simp only[dV,ah]at h;have a:=SA t h.1;have b:=y9 r h.2;simp only[jb,dJ,aF];omega
end
end T
end
section
open T
theorem Vo{a:List T}(d:∀t∈a,t.eZ=true)(k:a.length<=5000):yB (T.jb a):=by
 have f:T.dV a=true:=(T.mo a).2 λt b=>(aN.1 (d t b)).2;refine⟨λt b i hi=>(ng a t b).1 i hi,λt b g c i hi=>(ng a t b).2 g c i hi,λx h=>?_,?_⟩
 ·obtain⟨t,b,j⟩:=T.uo.1 h;have c:=aN.1 (d t b);have e:=T.tL t c.2 x j;have l:=ak c.1;unfold T.eZ;rw[ah];exact⟨aM aar,e.1⟩
 ·have c:=T.y9 a f;have e:=FW a λt b=>ak (aN.1 (d t b)).1;omega
theorem wY{K:List T}(b:∀t∈K,t.use=true)(d:K.length<=1000):CY (aQ.parts K)/\(∀x,x∈aQ.parts K<->An (· ∈K) x)/\∀x∈aQ.parts K,x.use=true:=by
 obtain⟨e,c⟩:=Ll (Yw (λt a=>T.ik (b t a)) d) (λt a=>KW a) b (dF _);exact⟨e,c,λx f=>XJ (λt a=>b t a) ((c x).1 f)⟩
theorem Pw{K L:List T}(a:∀t∈K,t.use=true)(b:K.length<=64)(h:PW (cnt K) L):L=aQ.parts K:=by
 rw[Mf b a]at h;obtain⟨c,d,_⟩:=wY a aar;exact Df (Rf h) c λx=>(h.1 x).t (d x).symm
def aQ.offers(pat:T)(b:List Bd)(K:List T):List T:=aQ.parts K++aQ.fills pat (aQ.zT pat) (aQ.parts K) (aQ.left pat b) b
theorem yP{pat:T}{b:List Bd}{K:List T}(c:∀t∈K,t.use=true)(d:K.length<=1000):∀t∈aQ.offers pat b K,t.eZ=true:=by
 intro t a;rcases bu.1 a with a|a;·exact T.ik ((wY c d).2.2 t a)
 ·obtain⟨f,_,h⟩:=(xZ _ _).1 a;obtain⟨_,u,_,hu,rfl⟩:=CE h;exact CX u hu
def aQ.MI(pat:T)(b:List Bd)(K:List T):List T:=jb (K++aQ.offers pat b K)
def aQ.wid(pat:T)(K:List T)(v:ByteArray):Nat:=if aQ.oM (aQ.zT pat) v=true then ((aQ.parts K).filter λp=>decide (p.aA=1)).length else (aQ.parts K).length
def aQ.XC(pat:T)(b:List Bd)(K:List T):Prop:=K.length<=64/\(aQ.offers pat b K).length<=4000/\∀v∈aQ.left pat b,aQ.wid pat K v ^ (vars pat).length<=900000
theorem TZ{pat:T}{b:List Bd}{K:List T}(c:∀t∈K,t.use=true)(h:aQ.XC pat b K):yB (aQ.MI pat b K)/\(∀t∈K,t∈aQ.MI pat b K)/\∀t∈aQ.offers pat b K,t∈aQ.MI pat b K:=by
 refine⟨Vo (λt a=>?_) (by rw[aF];have:=h.1;have:=h.2.1;omega),λt a=>KW (gM _ a),λt a=>KW (jE _ a)⟩;rcases bu.1 a with a|a;·exact T.ik (c t a)
 ·exact yP c (aaz h.1) t a
theorem TF{U K:List T}{W:List fG}{t:T}(b:∀t∈K,t.use=true)(c:K.length<=1000)(hU:yB U)(d:Inv U W)(hS:Wb.Sound (Wb.Part W) W)(e:∀x,Wb.Part W x<->An (· ∈K) x)(a:t.use=true->t∈U):Hd W t=aQ.can (aQ.parts K) t:=by
 obtain⟨_,f,g⟩:=wY b c;have h:∀x,Wb.Part W x<->x∈aQ.parts K:=λx=>(e x).t (f x).symm;unfold Hd aQ.can;by_cases hu:t.use=true
 ·rw[hu,lu,lu,jK,PG hU g (a hu) hu (dF _),eO,Wb.Qd hU (a hu) d hS];exact sD.iff h t
 ·rw[sH]at hu;rw[hu];rfl
theorem mem_left{pat:T}{b:List Bd}{v:ByteArray}:v∈aQ.left pat b<->v∈vars pat/\∀y∈b,y.var≠v:=by
 unfold aQ.left;rw[fU,Um];refine zm λ_=>?_;rw[bT,fH];exact⟨λh y hy=>by simpa using h y hy,λh y hy=>by simpa using h y hy⟩
theorem O3{pat:T}{b:List Bd}{K:List T}{vs names:List ByteArray}(f:∀t∈K,t.use=true)(g:K.length<=1000)(h:∀v,v∈vs<->v∈aQ.left pat b)(i:∀v,v∈names<->v∈aQ.zT pat):
 (∀k,k∈((aQ.parts K++aQ.fills pat names (aQ.parts K) vs b).foldl (aQ.offer pat b (aQ.parts K)) ⟨[],[]⟩).met->∃t∈aQ.offers pat b K,t.key=k)/\
 (∀t,t∈((aQ.parts K++aQ.fills pat names (aQ.parts K) vs b).foldl (aQ.offer pat b (aQ.parts K)) ⟨[],[]⟩).gP->t∈aQ.offers pat b K)/\
 ((aQ.parts K++aQ.fills pat names (aQ.parts K) vs b).foldl (aQ.offer pat b (aQ.parts K)) ⟨[],[]⟩).gP.Nodup/\
 aQ.Gr ((aQ.parts K++aQ.fills pat names (aQ.parts K) vs b).foldl (aQ.offer pat b (aQ.parts K)) ⟨[],[]⟩).gP=aQ.mJ pat b K:=by
 have c:∀t,t∈aQ.parts K++aQ.fills pat names (aQ.parts K) vs b<->t∈aQ.offers pat b K:=λt=>by
  unfold aQ.offers;rw[bu,bu,Ht h i t]
 obtain⟨j,d,l⟩:=Au (pat:=pat) (b:=b) (P:=aQ.parts K) (aQ.parts K++aQ.fills pat names (aQ.parts K) vs b) [] ⟨[],[]⟩ (λt a=>yP f g t ((c t).1 a)) (λk=>aau) (λt=>aau) zK;refine⟨λk m=>?_,λt a=>(c t).1 ((d t).1 a).1,l,WT λt=>?_⟩
 ·obtain⟨t,a,e⟩:=(j k).1 m;exact⟨t,(c t).1 a,e⟩
 ·rw[d,fU];exact and_congr_left λ_=>c t
theorem xX{pat:T}{b:List Bd}{K:List T}{t:T}(h:t∈aQ.mJ pat b K):(oz pat t b).isSome=true/\aQ.can (aQ.parts K) t=true:=by
 have:=(jG _).2 t |>.1 h;obtain⟨_,a⟩:=fU.1 this;unfold aQ.accept at a;exact aN.1 a
theorem Re{pat:T}{b:List Bd}{K:List T}:CY (aQ.mJ pat b K):=(jG _).1
theorem Fe{s:List iN}{x:jf}{t:mg}(h:t∈aQ.gB s x):∃m,aQ.Vz s x m t/\(m.1≠2->t.bC=qz)/\(m.1=2->∃q,x.aO[t.df]?=some q/\t.bC∈aQ.mJ m.2 q.b x.bF):=by
 unfold aQ.gB at h;obtain⟨i,_,h⟩:=o6.1 h;unfold aQ.turnsOf at h;cases a:aQ.next s x i with
 |none=>rw[a]at h;cases h
 |some m=>
  rw[a]at h;obtain⟨st,q,_,d,_⟩:=kS a;by_cases c:m.1=2
  ·simp only[aJ c,d,jL,gQ,ek]at h;obtain⟨u,hu,rfl⟩:=h;refine⟨m,⟨a,λ_ p f=>?_⟩,λh'=>absurd c h',λ_=>⟨q,d,hu⟩⟩;have e:x.aO[i]?=some p:=f;rw[d]at e;obtain rfl:q=p:=abb;exact(xX hu).1
  ·simp only[aH c,bD]at h;subst h;exact⟨m,⟨a,λh'=>absurd h' c⟩,λ_=>rfl,λh'=>absurd h' c⟩
end
section
open Go.RowKit Go.Sort
def jB(B:Nat)(w:World)(blk:Nat):Type:={ x:(Int×ByteArray×Option Addr×Nat×Nat)×T // bI (but B (some blk)) w (.agg #[.int .i64 x.1.1,.string x.1.2.1,.slice x.1.2.2.1 x.1.2.2.2.1 x.1.2.2.2.2]) x.2/\x.2.bE<=1048576 }
instance (B:Nat) (w:World) (blk:Nat):Inhabited (jB B w blk):=⟨⟨((0,⟨#[]⟩,none,0,0),.mk 0 ⟨#[]⟩ []),tX _ _ 0 ⟨#[]⟩ aat aat,aat⟩⟩
def jB.enc{B:Nat}{w:World}{blk:Nat}(x:jB B w blk):List Value:=[.int .i64 x.1.1.1,.string x.1.1.2.1,.slice x.1.1.2.2.1 x.1.1.2.2.2.1 x.1.1.2.2.2.2]
def jB.t{B:Nat}{w:World}{blk:Nat}(x:jB B w blk):T:=x.1.2
def jB.cf{B:Nat}{w:World}{blk:Nat}(x y:jB B w blk):Int:=T.cmp x.t y.t
theorem PI(B:Nat)(w:World)(blk:Nat):SWO (ltOf (jB.cf (B:=B) (w:=w) (blk:=blk))) where
 irrefl x:=by unfold ltOf jB.cf;rw[T.pQ];rfl
 trans x y z a b:=by
  unfold ltOf jB.cf at*;rw[bO]at*;have c:T.cmp x.t y.t= -1:=(by rcases T.mY x.t y.t with h|h|h<;>omega);have d:T.cmp y.t z.t= -1:=(by rcases T.mY y.t z.t with h|h|h<;>omega);rw[T.sV _ _ _ c d];decide
 ntrans x y z a b:=by
  unfold ltOf jB.cf at*;rw[kR]at*;intro i;have j:=T.oL x.t y.t;have a2:=T.oL y.t z.t;have f:T.cmp x.t z.t= -1:=(by rcases T.mY x.t z.t with h|h|h<;>omega);rcases T.mY x.t y.t with h|h|h;·omega
  ·have e:=T.cmp_eq _ _ h;rw[e]at f;omega
  ·rcases T.mY y.t z.t with g|g|g;·omega
   ·have e:=T.cmp_eq _ _ g;rw[e]at h;omega
   ·have:=T.sV z.t y.t x.t aar aar;have a3:=T.oL x.t z.t;omega
theorem NU{B:Nat}{w:World}{blk:Nat}(off size:Nat):CmpLays Tryz.prog 63 #[] (jB.enc (B:=B) (w:=w) (blk:=blk)) 3 jB.cf blk off size w:=λm os a _ x y=>by
 obtain⟨⟨⟨k,s,A,n,c⟩,t⟩,f,hb⟩:=x;obtain⟨⟨⟨k',q,r,u,v⟩,g⟩,i,j⟩:=y;have d:∀b,but B (some blk) b=true->b<w.heap.size->(λ_=>true) b=true/\(sortWorldK (jB.enc (B:=B) (w:=w) (blk:=blk)) 3 w blk off m a os).heap[b]?=w.heap[b]?:=λb hb l=>⟨rfl,pG _ _ _ _ _ _ _ _ b l (λe=>(jd.1 hb).2 abf)⟩;have h:=Y8 (t.bE+1) t g _ _ (sortWorldK (jB.enc (B:=B) (w:=w) (blk:=blk)) 3 w blk off m a os) aar (f.aR d).at (i.aR d).at hb j;exact h.m λe w' ⟨o,p⟩=>⟨o,p.grow⟩
def JB(base:Nat)(w:World)(A:Option Addr)(cap:Nat)(L:List T)(e:Ending)(w':World):Prop:=
 e=.returned (.tuple #[])/\∃c,c.Perm L/\c.Pairwise (λa b=>¬T.cmp b a<0)/\bK w' base (.slice A L.length cap) c/\Below base w w'
def QW(base:Nat)(w:World)(A:Option Addr)(cap:Nat)(L:List T)(e:Ending)(w':World):Prop:=JB base w A cap L e w'/\w.grownBy w' (Value.slice A L.length cap).ownBlock
theorem UL{base cap:Nat}{A:Option Addr}{L:List T}(w:World)(h:bK w base (.slice A L.length cap) L)(hb:∀t∈L,t.bE<=1048576)(hl:L.length<=1048576):
 Calls Tryz.prog 80 #[.slice A L.length cap,.func (.func 63) #[] #[]] w (QW base w A cap L):=by
 by_cases h0:L.length=0
 ·obtain rfl:L=[]:=bR h0;have W:=AnyF.slices_SortFunc_none (P:=Tryz.prog) Tryz.Xq A cap (.func (.func 63) #[] #[]) w;refine W.m ?_;rintro e w' ⟨rfl,rfl⟩;exact⟨⟨rfl,[],mQ _,List.Pairwise.nil,h,aC _ _⟩,rfl,rfl,rfl,ax _,λ_ _ _=>rfl⟩
 ·have h':=h;obtain⟨xs,H,X⟩:=h'.cells;obtain⟨blk,aF,e,_⟩:=H.form aar;injection e with f y I;subst f;subst I;have z:=h.block blk rfl;have Y:=h.shape;obtain⟨_,_,Z,aG,E⟩:=Y;injection Z with e5 e6 e7;subst e7;have o:∀i:Fin L.length,∃x:jB base w blk,x.t=L[i]/\∀r v,x.enc[r]?=some v->xs[i.1*3+r]?=some v:=λi=>by
   obtain⟨u0,u1,u2,q0,q1,q2,F⟩:=X.2 i.1 i.2;obtain⟨A0,c0,l⟩:=F.view;injection l with l;injection l with l;injection l with g0 l;injection l with g1 l;injection l with g2 _;subst g0;subst g1;subst g2;refine⟨⟨((L[i].aA,L[i].aI,A0,L[i].ay.length,c0),L[i]),F,hb _ (aP _)⟩,rfl,λr v a=>?_⟩
   match r,a with
   |0,a=>injection a with a;subst a;exact q0
   |1,a=>injection a with a;subst a;exact q1
   |2,a=>injection a with a;subst a;exact q2
   |r+3,a=>simp[jB.enc]at a
  obtain⟨d,M⟩:∃d:List (jB base w blk),d=List.ofFn (λi:Fin L.length=>(o i).choose):=⟨_,rfl⟩;have G:d.length=L.length:=(by rw[M,List.length_ofFn]);have N:∀j (hj:j<L.length),d[j]! =(o ⟨j,hj⟩).choose:=λj hj=>by
   rw[iy d j (by rw[G];exact hj)];subst M;rw[List.getElem_ofFn]
  have aa:d.map jB.t=L:=by
   apply sK;·rw[bZ,G]
   ·intro j h1 m;rw[ic];have:=N j m;rw[iy d j aaF]at this;rw[this];exact(o ⟨j,m⟩).choose_spec.1
  have p:d.toArray.size=L.length:=(by simp[G]);have hH:HoldsK (jB.enc (B:=base) (w:=w) (blk:=blk)) 3 w blk 0 d.toArray:=λj hj=>by
   rw[size_flatK]at hj;rw[get_flatK _ _ _ _ hj,eP];rw[p]at hj;have q:j / 3<L.length:=aar;refine⟨?_,H.frozenAt j⟩;rw[H.cellAt j aaF];have ae:d.toArray[j / 3]! =(o ⟨j / 3,q⟩).choose:=by
    rw[<-N (j / 3) q,iy d.toArray _ (by rw[p];exact q),iy d _ (by rw[G];exact q)];simp
   rw[ae];have O:=(o ⟨j / 3,q⟩).choose_spec.2 (j % 3);generalize(o ⟨j / 3,q⟩).choose=x at O;have C:j % 3<x.enc.length:=(by have:x.enc.length=3:=rfl;omega);have:=O _ (az C);have ej:j / 3*3+j % 3=j:=aar;rw[ej]at this;rw[this];show some _=some (x.enc[j % 3]!);rw[iy x.enc (j % 3) C]
  have eg:∀args w,(callFunc 63 args).run Tryz.prog w=.ok (.enter 63 args) w:=enters_of Tryz.func63 aas rfl;have Q:=AnyQ.slices_SortFunc (P:=Tryz.prog) Tryz.Xq 3 (λw=>Tryz.isAgg29 w) (λw=>Tryz.sizeOf29 w) (jB.enc (B:=base) (w:=w) (blk:=blk)) (λ_=>rfl) (λx v a=>by
   simp only[jB.enc,bM,eX,Iu]at a;rcases a with rfl|rfl|rfl<;>rfl) jB.cf (PI base w blk) 63 #[] blk 0 cap d.toArray w eg (NU 0 _) hH z.2 (by rw[p];omega)
  rw[p]at Q;refine Q.m ?_;rintro e w' ⟨rfl,d',n,os,⟨R,_,J⟩,af,rfl⟩;have u:d'.size=L.length:=(by rw[R,p]);have ag:d'.toList.Perm d:=by
   rw[<-u]at J;have f:d'.extract 0 d'.size=d':=aau;have y:d.toArray.extract 0 d'.size=d.toArray:=(by rw[u,<-p];simp);rw[f,y]at J;exact J
  have K:(d'.toList.map jB.t).length=L.length:=(by simp[u]);have D:=EX (jB.enc (B:=base) (w:=w) (blk:=blk)) 3 w blk 0 n d' os z.1 z.2;refine⟨⟨rfl,d'.toList.map jB.t,by rw[<-aa];exact ag.map _,?_,?_,D⟩,D.os,D.tape,D.output,D.size,λk hk ah=>pG _ _ _ _ _ _ _ _ k hk (λe=>ah (by rw[e];rfl))⟩
  ·rw[List.pairwise_map,lV];intro i j hi hj ak;have m:=af i j (aT _) ak (by simpa[u]using hj);unfold ltOf jB.cf at m;rw[kR]at m;rw[iy d' _ abk,iy d' _ aaP]at m;simpa using m
  ·have av:=holdsK_sortWorldK_c (jB.enc (B:=base) (w:=w) (blk:=blk)) 3 w blk 0 d.toArray d' n os hH z.2 R;have aB:∀i,i<L.length->∀r,r<3->(sortWorldK (jB.enc (B:=base) (w:=w) (blk:=blk)) 3 w blk 0 n d' os).cell? ⟨blk,0+i*3+r,none⟩=some (d'[i]!.enc[r]!):=λi hi r C=>by
    have:=(av (i*3+r) (by rw[size_flatK,u];omega)).1;rw[get_flatK _ _ _ _ (by rw[u];omega)]at this;have f:(i*3+r) / 3=i:=aar;have y:(i*3+r) % 3=r:=aar;rw[f,y,id]at this;rw[gN];exact this
   rcases h with⟨e,_⟩|⟨g,aH,e,S,b1,b2,b3,b4,b5,b6⟩;·cases e
   ·injection e with f y I;injection f with f;injection f with f;subst f;subst I;have U:(sortWorldK (jB.enc (B:=base) (w:=w) (blk:=blk)) 3 w blk 0 n d' os).heap[blk]?=some (.cells (putCells id 0 (flatK (jB.enc (B:=base) (w:=w) (blk:=blk)) 3 d') S) 29 (0,0)):=by
     show((w.heap.modify blk _)++os)[blk]?=_;rw[vD (by simpa using z.2),dY,aJ rfl,b1];rfl
    have E:∀i,i<L.length->∀r,r<3->(putCells id 0 (flatK (jB.enc (B:=base) (w:=w) (blk:=blk)) 3 d') S)[i*3+r]?=some (d'[i]!.enc[r]!):=λi hi r C=>by
     have:=aB i hi r C;unfold World.cell? at this;rw[U,eP]at this;simpa using this
    refine .inr ⟨blk,cap,by rw[K],_,U,?_,by rw[K];exact b3,b4,b5,λi hi=>?_⟩;·unfold putCells;rw[Array.size_mapIdx];exact b2
    ·rw[K]at hi;have f:(d'.toList.map jB.t)[i]=d'[i]!.t:=(by rw[ic,iy d' i aaF];rfl);refine⟨_,_,_,E i hi 0 aar,E i hi 1 aar,E i hi 2 aar,?_⟩;rw[f];obtain⟨⟨⟨k,s,A,n',c⟩,t⟩,F,_⟩:=d'[i]!;exact F.aR λb V aD=>⟨V,pG _ _ _ _ _ _ _ _ b aD (λe=>(jd.1 V).2 abf)⟩
theorem Yf{base cap:Nat}{A:Option Addr}{L:List T}(w:World)(h:bK w base (.slice A L.length cap) L)(hb:∀t∈L,t.bE<=1048576)(a:L.length<=1048576):
 Calls Tryz.prog 80 #[.slice A L.length cap,.func (.func 63) #[] #[]] w (JB base w A cap L):=(UL w h hb a).m λ_ _ k=>k.1
end
section
open T
namespace aQ
def uq(s:List iN)(x:jf)(t:mg):Option jf:=
 match next s x t.df with
 |none=>none
 |some m=>if m.1=2 then (if ((mJ m.2 (((x.aO[t.df]?).map oD.b).getD []) x.bF).any λc=>decide (cmp c t.bC=0))=true then some (move x m t) else none)
  else if cmp t.bC qz=0 then some (move x m t) else none
def qG(s:List iN):jf->List mg->Option jf
 |x,[]=>some x
 |x,t::r=>match uq s x t with
  |none=>none
  |some y=>qG s y r
end aQ
theorem FK{s:List iN}:∀(l m:List mg) (x:jf),aQ.qG s x (l++m)=(aQ.qG s x l).bind λy=>aQ.qG s y m
 |[],_,_=>rfl
 |t::r,m,x=>by
  simp only[iP,aQ.qG];cases aQ.uq s x t with
  |none=>rfl
  |some y=>exact FK r m y
theorem pg{s:List iN}{x:jf}{t:mg}(h:t∈aQ.gB s x):∃m,aQ.Vz s x m t/\aQ.uq s x t=some (aQ.move x m t):=by
 obtain⟨m,b,c,d⟩:=Fe h;refine⟨m,b,?_⟩;unfold aQ.uq;rw[b.1];by_cases a:m.1=2
 ·obtain⟨q,e,f⟩:=d a;simp only[aJ a,e,jL,gQ];rw[aJ (dM.2 ⟨_,f,aM (pQ _)⟩)]
 ·simp only[aH a];rw[aJ (by rw[c a];exact pQ _)]
theorem AU{s:List iN}{x y:jf}{t:mg}(h:aQ.uq s x t=some y):∃m,aQ.Vz s x m t/\y=aQ.move x m t:=by
 unfold aQ.uq at h;cases a:aQ.next s x t.df with
 |none=>rw[a]at h;cases h
 |some m=>
  rw[a]at h;obtain⟨st,q,_,d,_⟩:=kS a;by_cases b:m.1=2
  ·simp only[aJ b,d,jL,gQ]at h;split at h
   ·rename_i g;obtain⟨c,i,e⟩:=dM.1 g;have j:=cmp_eq _ _ (ak e);refine⟨m,⟨a,λ_ p f=>?_⟩,by injection h with h;exact h.symm⟩;rw[d]at f;obtain rfl:q=p:=(by injection f);rw[<-j];exact(xX i).1
   ·cases h
  ·simp only[aH b]at h;split at h;·exact⟨m,⟨a,λh'=>absurd h' b⟩,by injection h with h;exact h.symm⟩
   ·cases h
theorem NC{s:List iN}:∀(l:List mg) {x y:jf},x.Fit s->aQ.qG s x l=some y->y.Fit s
 |[],x,y,a,h=>by
  obtain rfl:x=y:=aa0;exact a
 |t::r,x,y,a,h=>by
  simp only[aQ.qG]at h;cases b:aQ.uq s x t with
  |none=>rw[b]at h;cases h
  |some z=>
   rw[b]at h;obtain⟨m,c,rfl⟩:=AU b;exact NC r (TU a c) h
structure aQ.xH.Ok (s:List iN) (x0:jf) (v:aQ.xH):Prop where
 zero:∃y,v.jc[0]?=some y/\y.x=x0
 link:∀i y,v.jc[i]?=some y->i=0\/(y.before<i/\∃p,v.jc[y.before]?=some p/\y.turn∈aQ.gB s p.x/\aQ.uq s p.x y.turn=some y.x)
 oo:∀a∈v.oo,∃j p t c,v.jc[j]?=some p/\t∈aQ.gB s p.x/\aQ.next s p.x t.df=some (3,c)/\aQ.mW s p.x t.df c=true/\a.2=aQ.schedule v.jc j t
theorem JI{s:List iN}{x0:jf}{v:aQ.xH}(h:v.Ok s x0):∀(f g i:Nat),i<=f->i<=g->aQ.back v.jc f i=aQ.back v.jc g i
 |0,0,i,_,_=>rfl
 |0,g+1,i,a,_=>by
  obtain rfl:i=0:=aar;rfl
 |f+1,0,i,_,b=>by
  obtain rfl:i=0:=aar;rfl
 |f+1,g+1,i,a,b=>by
  simp only[aQ.back];by_cases hi:0<i
  ·rw[aJ hi,aJ hi];cases hy:v.jc[i]? with
   |none=>rfl
   |some y=>
    have c:=(h.link i y hy).resolve_left aar;show y.turn::_=y.turn::_;rw[JI h f g y.before aar aaF]
  ·rw[aH hi,aH hi]
theorem LZ{s:List iN}{x0:jf}{v:aQ.xH}(h:v.Ok s x0)(z:aQ.LU):∀(f i:Nat),i<v.jc.length->aQ.back (v.jc++[z]) f i=aQ.back v.jc f i
 |0,i,_=>rfl
 |f+1,i,hi=>by
  simp only[aQ.back];rw[bN hi];by_cases h0:0<i
  ·rw[aJ h0,aJ h0];cases hy:v.jc[i]? with
   |none=>rfl
   |some y=>
    have a:=(h.link i y hy).resolve_left aar;show y.turn::_=y.turn::_;rw[LZ h z f y.before aaF]
  ·rw[aH h0,aH h0]
theorem Lp{s:List iN}{x0:jf}{v:aQ.xH}(h:v.Ok s x0)(z:aQ.LU){i:Nat}(hi:i<v.jc.length)(t:mg):aQ.schedule (v.jc++[z]) i t=aQ.schedule v.jc i t:=by
 unfold aQ.schedule;rw[LZ h z i i hi]
theorem Yx(s:List iN)(i:Nat)(v:aQ.xH)(t:mg):v.jc <+:(aQ.turn s i v t).jc:=by
 unfold aQ.turn;split;·exact uz
 ·split;·exact uz
  ·dsimp only
   split;·exact uz
   ·split;·exact uz
    ·exact List.prefix_append _ _
theorem QT{s:List iN}{x0:jf}{v:aQ.xH}(h:v.Ok s x0){i:Nat}{p:aQ.LU}(d:v.jc[i]?=some p){t:mg}(k:t∈aQ.gB s p.x):(aQ.turn s i v t).Ok s x0:=by
 obtain⟨m,r,A⟩:=pg k;have B:=(aU.1 d).1;unfold aQ.turn;rw[d];simp only[r.1];have l:∀a∈(if m.1=3/\aQ.mW s p.x t.df m.2=true/\v.oo.lookup (t.df,((p.x.aO[t.df]?).map oD.fF).getD 0)=none then ((t.df,((p.x.aO[t.df]?).map oD.fF).getD 0),aQ.schedule v.jc i t)::v.oo else v.oo),∃j p t c,v.jc[j]?=some p/\t∈aQ.gB s p.x/\aQ.next s p.x t.df=some (3,c)/\aQ.mW s p.x t.df c=true/\a.2=aQ.schedule v.jc j t:=by
  intro a b;split at b
  ·rename_i w;rcases bM.1 b with rfl|b;·exact⟨i,p,t,m.2,d,k,by rw[r.1,<-w.1],w.2.1,rfl⟩
   ·exact h.oo a b
  ·exact h.oo a b
 split;·exact⟨h.zero,h.link,l⟩
 ·split;·exact⟨h.zero,h.link,l⟩
  ·refine⟨?_,λj y hj=>?_,λa b=>?_⟩
   ·obtain⟨y,hy,e⟩:=h.zero;exact⟨y,by rw[bN (by have:=(aU.1 hy).1;exact this)];exact hy,e⟩
   ·rcases bX j v.jc.length with g|g
    ·rw[bN g]at hj;rcases h.link j y hj with e|⟨n,q,f,o⟩;·exact .inl e
     ·exact .inr ⟨n,q,by rw[bN aaF];exact f,o⟩
    ·rw[bq g]at hj;have C:j-v.jc.length=0:=by
      have:=(aU.1 hj).1;simp at this;omega
     rw[C]at hj;obtain rfl:(⟨aQ.move p.x m t,i,t⟩:aQ.LU)=y:=abk;refine .inr ⟨by show i<j;omega,p,?_,k,A⟩;show(v.jc++_)[i]?=some p;rw[bN B];exact d
   ·obtain⟨j,q,u,c,f,n,o,D,E⟩:=l a b;have z:=(aU.1 f).1;exact⟨j,q,u,c,by rw[bN z];exact f,n,o,D,by rw[Lp h _ z];exact E⟩
theorem Oi{s:List iN}{x0:jf}{i:Nat}{x:jf}:∀(l:List mg) {v:aQ.xH} {p:aQ.LU},v.Ok s x0->v.jc[i]?=some p->p.x=x->(∀t∈l,t∈aQ.gB s x)->(l.foldl (aQ.turn s i) v).Ok s x0
 |[],_,_,h,_,_,_=>h
 |t::r,v,p,h,a,e,b=>by
  refine Oi r (QT h a (by rw[e];exact b t aau)) (p:=p) ?_ e (λu hu=>b u (aY _ hu));have c:=Yx s i v t;have d:=(aU.1 a).1;obtain⟨z,f⟩:=c;rw[<-f,bN d];exact a
theorem Kn{s:List iN}{x0:jf}:∀(f i:Nat) {v:aQ.xH},v.Ok s x0->(aQ.search s f i v).Ok s x0
 |0,_,_,h=>h
 |f+1,i,v,h=>by
  simp only[aQ.search];cases a:v.jc[i]? with
  |none=>exact h
  |some p=>exact Kn f (i+1) (Oi _ h a rfl λt b=>b)
theorem Kr(s:List iN)(K:List T):(aQ.ni s K).Ok s (aQ.iJ s K):=
 Kn _ _ ⟨⟨_,rfl,rfl⟩,λi y h=>by
  have:=(aU.1 h).1;simp at this;exact .inl this,λa b=>by cases b⟩
theorem jf.Fit.ok{s:List iN}{x:jf}(h:x.Fit s)(e:∀st∈s,st.2.length<100):x.Ok where
 aO q a:=by
  obtain⟨i,hi,rfl⟩:=bL a;have c:i<s.length:=(by rw[<-h.len];exact hi);have g:=h.fF i _ _ (az hi) (az c);have j:=e _ (aP c);refine⟨aar,λy hy=>?_⟩;have d:=qI (h.b _ a) y hy;exact⟨d.1,T.ik d.2⟩
 bF t f:=T.ik (h.bF t f)
theorem FZ{s:List iN}{x y:jf}{t:mg}(h:aQ.uq s x t=some y):t∈aQ.gB s x:=by
 unfold aQ.uq at h;cases a:aQ.next s x t.df with
 |none=>rw[a]at h;cases h
 |some m=>
  obtain⟨st,q,f,j,_⟩:=kS a;refine o6.2 ⟨t.df,ed.2 (aU.1 f).1,?_⟩;unfold aQ.turnsOf;rw[a]at h⊢;by_cases d:m.1=2
  ·simp only[aJ d]at h⊢;split at h
   ·rename_i b;obtain⟨c,g,e⟩:=dM.1 b;have i:=cmp_eq _ _ (ak e);exact ek.2 ⟨c,g,by rw[i]⟩
   ·cases h
  ·simp only[aH d]at h⊢;split at h
   ·rename_i b;rw[bD,<-cmp_eq _ _ b]
   ·cases h
def aQ.YC{α:Type}(e:α->α->Bool):List α->List α->Bool
 |[],[]=>true
 |a::l,b::m=>e a b&&aQ.YC e l m
 |_,_=>false
theorem KO{α:Type}{e:α->α->Bool}(h:∀a b,e a b=true->a=b):∀l m,aQ.YC e l m=true->l=m
 |[],[],_=>rfl
 |[],_::_,h'=>by cases h'
 |_::_,[],h'=>by cases h'
 |a::l,b::m,h'=>by
  obtain⟨c,d⟩:=aN.1 (show(e a b&&aQ.YC e l m)=true from h');rw[h a b c,KO h l m d]
def aQ.ZJ(a b:T):Bool:=decide (T.cmp a b=0)
def aQ.ZY(p q:oD):Bool:=decide (p.fF=q.fF)&&aQ.YC (λ(a b:Bd)=>decide (a.var=b.var)&&aQ.ZJ a.t b.t) p.b q.b
def aQ.ZK(x y:jf):Bool:=aQ.YC aQ.ZY x.aO y.aO&&aQ.YC aQ.ZJ x.bF y.bF
theorem TQ{a b:T}(h:aQ.ZJ a b=true):a=b:=T.cmp_eq _ _ (ak h)
theorem XR(p q:oD)(h:aQ.ZY p q=true):p=q:=by
 obtain⟨d,c⟩:=aN.1 h;have c:=KO (λa b h=>by
  obtain⟨d,c⟩:=aN.1 h;obtain⟨v,t⟩:=a;obtain⟨e,f⟩:=b;obtain rfl:v=e:=ak d;obtain rfl:t=f:=TQ c;rfl) _ _ c
 obtain⟨k,b⟩:=p;obtain⟨k',b'⟩:=q;obtain rfl:k=k':=ak d;obtain rfl:b=b':=c;rfl
theorem TR{x y:jf}(h:aQ.ZK x y=true):x=y:=by
 obtain⟨a,b⟩:=aN.1 h;have a:=KO XR _ _ a;have b:=KO (λ_ _ h=>TQ h) _ _ b;obtain⟨s,k⟩:=x;obtain⟨c,k'⟩:=y;obtain rfl:s=c:=a;obtain rfl:k=k':=b;rfl
def aQ.shut(s:List iN)(V:List jf):Bool:=V.all λx=>(aQ.gB s x).all λt=>match aQ.next s x t.df with
 |none=>false
 |some m=>(!decide (m.1=3)||!aQ.mW s x t.df m.2)&&V.any λy=>aQ.ZK y (aQ.move x m t)
theorem QS{s:List iN}{V:List jf}(h:aQ.shut s V=true){x:jf}(b:x∈V){t:mg}(c:t∈aQ.gB s x){m:Int×T}(d:aQ.Vz s x m t):(m.1=3->aQ.mW s x t.df m.2=false)/\aQ.move x m t∈V:=by
 have a:=bQ.1 (bQ.1 h x b) t c;rw[d.1]at a;simp only[ah,eH,bT,kR]at a;refine⟨λf=>a.1.resolve_left (λh'=>h' f),?_⟩;obtain⟨y,hy,e⟩:=dM.1 a.2;rw[<-TR e];exact hy
theorem Ko{s:List iN}{V:List jf}(h:aQ.shut s V=true):∀(l:List mg) {x y:jf},x∈V->aQ.qG s x l=some y->y∈V
 |[],x,y,c,a=>by
  obtain rfl:x=y:=(by injection a);exact c
 |t::r,x,y,c,a=>by
  simp only[aQ.qG]at a;cases b:aQ.uq s x t with
  |none=>rw[b]at a;cases a
  |some z=>
   rw[b]at a;obtain⟨m,d,rfl⟩:=AU b;exact Ko h r (QS h c (FZ b) d).2 a
def aQ.oU(s:List iN):List jf:=(aQ.ni s dR).jc.map aQ.LU.x
def aQ.report(s:List iN):Nat×Bool×List Nat:=((aQ.ni s dR).jc.length,(aQ.ni s dR).all,(aQ.wU s (aQ.ni s dR)).map List.length)
theorem ET:aQ.report [oQ]=(3,true,[2]):=by kernel_rfl
theorem FQ:aQ.report [yV,oQ]=(9,true,[2]):=by kernel_rfl
theorem Ea:aQ.report [yU,yX]=(47,true,[]):=by kernel_rfl
theorem IV:aQ.report [tF,wG]=(74,true,[]):=by kernel_rfl
theorem Ct:aQ.shut [yU,yX] (aQ.oU [yU,yX])=true:=by kernel_rfl
theorem FV:aQ.shut [tF,wG] (aQ.oU [tF,wG])=true:=by kernel_rfl
theorem WO{s:List iN}(h:aQ.shut s (aQ.oU s)=true){l:List mg}{x:jf}(f:aQ.qG s (aQ.iJ s dR) l=some x){t:mg}(a:t∈aQ.gB s x){c:T}(g:aQ.next s x t.df=some (3,c)):aQ.mW s x t.df c=false:=by
 have h0:aQ.iJ s dR∈aQ.oU s:=by
  obtain⟨y,hy,e⟩:=(Kr s dR).zero;exact ek.2 ⟨y,dA hy,e⟩
 obtain⟨m,b,_⟩:=pg a;have d:=b.1;rw[g]at d;obtain rfl:((3,c):Int×T)=m:=(by injection d);exact(QS h (Ko h l h0 f) a b).1 rfl
def aQ.OV(s:List iN)(V:List jf):Bool:=V.all λx=>(List.range s.length).all λi=>match aQ.next s x i with
 |none=>true
 |some m=>!decide (m.1=2)||(decide (x.bF.length<=64)&&decide ((aQ.offers m.2 (((x.aO[i]?).map oD.b).getD []) x.bF).length<=4000)&&(aQ.left m.2 (((x.aO[i]?).map oD.b).getD [])).all λv=>decide (aQ.wid m.2 x.bF v ^ (T.vars m.2).length<=900000))
def aQ.GJ(s:List iN)(x:jf):Prop:=∀(i:Nat) (m:Int×T) (q:oD),aQ.next s x i=some m->m.1=2->x.aO[i]?=some q->aQ.XC m.2 q.b x.bF
theorem XT{s:List iN}{V:List jf}(h:aQ.OV s V=true):∀x∈V,aQ.GJ s x:=by
 intro x d i m q c e f;obtain⟨st,_,g,_,_⟩:=kS c;have a:=bQ.1 (bQ.1 h x d) i (ed.2 (aU.1 g).1);rw[c]at a;simp only[eH,bT,kR,ah,bO,f,jL,gQ,bQ]at a;have b:=a.resolve_left (λh'=>h' e);exact⟨b.1.1,b.1.2,b.2⟩
theorem Rl:aQ.OV [oQ] (aQ.oU [oQ])=true:=by kernel_rfl
theorem Mq:aQ.OV [yV,oQ] (aQ.oU [yV,oQ])=true:=by kernel_rfl
theorem KQ:aQ.OV [yU,yX] (aQ.oU [yU,yX])=true:=by kernel_rfl
theorem OW:aQ.OV [tF,wG] (aQ.oU [tF,wG])=true:=by kernel_rfl
namespace aQ
end aQ
def VU(c:UInt8):Bool:=c != 58&&(c != 59&&c != 124)
theorem VZ{c:UInt8}(h:low c=true):VU c=true:=by
 unfold low at h;unfold VU;simp only[ah,bO]at h;simp only[ah,jg,ne_eq];refine⟨?_,?_,?_⟩<;>(rintro rfl;revert h;decide)
theorem VQ{c:UInt8}(h:OT c=true):VU c=true:=by
 unfold OT at h;unfold VU;simp only[ah,bO]at h;simp only[ah,jg,ne_eq];refine⟨?_,?_,?_⟩<;>(rintro rfl;revert h;decide)
theorem Nh{s:ByteArray}(h:isName s=true):∀c∈s.data.toList,VU c=true:=by
 unfold isName at h;simp only[ah]at h;intro c a;obtain⟨i,hi,rfl⟩:=bL a;have:=bQ.1 h.1 i (ed.2 hi);unfold zD at this;rw[show s.data.toList.getD i 0=s.data.toList[i] by rw[dn,az hi];rfl]at this;simp only[eH,ah]at this;rcases this with g|⟨_,g⟩;·exact VZ g
 ·exact VQ g
theorem TV(k:Int):∀c∈kr k,VU c=true:=by
 unfold kr
 repeat' split
 all_goals decide
mutual
theorem Oh:∀t:T,t.shape=true->∀c∈t.gK,VU c=true
 |.mk k s g,h,c,a=>by
  by_cases b:k=1\/k=2
  ·simp only[T.shape,aJ b,ah]at h;simp only[gK]at a;by_cases d:k=1;·rw[aJ d]at a;exact Nh h.1 c a
   ·rw[aH d,aJ aaF]at a;rcases bM.1 a with rfl|a;·decide
    ·exact Nh h.1 c a
  ·simp only[T.shape,aH b,ah]at h;simp only[gK]at a;rw[aH aar,aH aaF]at a;have e:=Od g h.2;by_cases f:k=3
   ·rw[aJ f]at a;simp only[bu,bD]at a;rcases a with(rfl|a)|rfl;·decide
    ·exact e c a
    ·decide
   ·rw[aH f]at a;simp only[bu,bD]at a;rcases a with((a|rfl)|a)|rfl;·exact TV k c a
    ·decide
    ·exact e c a
    ·decide
theorem Od:∀l:List T,T.dV l=true->∀c∈eY l,VU c=true
 |[],_,c,a=>by simp[eY]at a
 |t::r,h,c,a=>by
  simp only[T.dV,ah]at h;simp only[eY,bu]at a;rcases a with a|a;·exact Oh t h.1 c a
  ·exact En r h.2 c a
theorem En:∀l:List T,T.dV l=true->∀c∈jh l,VU c=true
 |[],_,c,a=>by simp[jh]at a
 |t::r,h,c,a=>by
  simp only[T.dV,ah]at h;simp only[jh,bu,bM,eX,Iu]at a;rcases a with((rfl|rfl)|a)|a;·decide
  ·decide
  ·exact Oh t h.1 c a
  ·exact En r h.2 c a
end
inductive Tk where
 |st (n:Nat)
 |bn (y:Bd)
 |sep
 |kt (t:T)
def Tk.body:Tk->List UInt8
 |.st n=>[UInt8.ofNat (97+n)]
 |.bn y=>y.var.data.toList++61::y.t.gK
 |.sep=>[]
 |.kt t=>t.gK
def Tk.fin:Tk->UInt8
 |.st _=>58
 |.bn _=>59
 |.sep=>124
 |.kt _=>124
def Tk.ok:Tk->Prop
 |.st n=>n<20
 |.bn y=>isName y.var=true/\y.t.eZ=true
 |.sep=>True
 |.kt t=>t.eZ=true
abbrev Z9:=(Nat×Nat)×List mg
def ZO(NM:List ByteArray)(t:T):Prop:=t.aA=1->t.aI∈NM
structure Lot (NM:List ByteArray) (N:Nat) (G:List T) (x:jf):Prop where
 len:G.length<=N
 eT:∀t∈G,∀k∈t.ay,k∈G
 nm:∀t∈G,ZO NM t
 bF:∀t∈x.bF,t∈G
 vals:∀q∈x.aO,∀y∈q.b,y.t∈G
theorem Lot.Z0{NM:List ByteArray}{N:Nat}{G:List T}{x y:jf}(h:Lot NM N G x)(a:∀t∈y.bF,t∈G)(c:∀q∈y.aO,∀z∈q.b,z.t∈G):Lot NM N G y:=⟨h.len,h.eT,h.nm,a,c⟩
end
end Go.Proofs.YtaciciokmpbkkaaGreatDoor
