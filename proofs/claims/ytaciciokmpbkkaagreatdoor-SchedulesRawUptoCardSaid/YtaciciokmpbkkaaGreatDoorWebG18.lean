import Derived.Test.YtaciciokmpbkkaaGreatDoorWebG17
set_option maxRecDepth 100000
set_option maxHeartbeats 16000000
namespace Go.Proofs.YtaciciokmpbkkaaGreatDoor
section
open T
theorem Ro:∀{y:T},y.aC=1\/y.aC=2->((y.aC=1\/y.aC=2)/\y.ay.length=0\/(y.aC=3\/y.aC=5\/y.aC=6)/\y.ay.length=2\/y.aC=4/\y.ay.length=1\/y.aC=7/\1<=y.ay.length/\y.ay.length<=4)->y.fK=y
 |.mk k s c,d,a=>by
  have f:k=1\/k=2:=d;have e:c=[]:=by
   rcases a with⟨_,a⟩|⟨a,_⟩|⟨a,_⟩|⟨a,_⟩;·exact dQ.1 a
   ·have b:k=3\/k=5\/k=6:=a;omega
   ·have b:k=4:=a;omega
   ·have b:k=7:=a;omega
  subst e;simp only[T.fK];rw[aG (by omega)];simp[T.gJ]
theorem U9{t:T}(h:t.use=true):∀x∈t.ay,x.use=true:=by
 intro x m;obtain⟨i,hi,rfl⟩:=bI m;have d:t.eQ i=t.ay[i]:=(by show t.ay.getD i T.uC=_;rw[dC,aH hi];rfl);by_cases e:t.aC=7
 ·obtain⟨k,s,a⟩:=t;have n:k=7:=e;have f:i<a.length:=hi;unfold T.use at h;obtain⟨g,v⟩:=aP.1 h;unfold T.ground at g;obtain⟨j,c⟩:=aP.1 g;have l:=mq j;have o:=ax (aP.1 j).1;subst n;have p:=rJ l a[i] (aN f);have b:=T.tK _ l _ ((Ar _ _ (T.Bo (.mk 7 s a))).1 i hi);rw[d]at b;have q:a[i].hasVar=false:=by
   rw[bZ]at c;simp only[T.hasVar,T.mF,kJ]at c;simpa using fQ.1 c.2 a[i] (aN f)
  have r:a[i].fe=true:=(by unfold T.fe;rw[ai];exact⟨aQ (aD b.2 o),b.1⟩);have u:a[i].fK=a[i]:=Ro (Qw p.1) (oU (show a[i].shape=true from b.1));exact T.Pk r q u
 ·rw[<-d];exact rV h e hi
theorem Cr:∀(b:List Bd) (ps left:List T) (f:ByteArray) (o:Nat) (left':List T) (d:ByteArray) (a:Nat),qE b ps left f o=some (left',d,a)->o<a->∃p∈ps,p.aC=2/\d=p.aJ
 |b,[],left,f,o,left',d,a,h,j=>by
  simp only[qE,iD,jS]at h;omega
 |b,k::ps,left,f,o,left',d,a,h,j=>by
  simp only[qE]at h;cases c:val b k with
  |none=>
   rw[c]at h;have l:k.aC=2:=by
    unfold val at c;split at c;·assumption
    ·cases c
   rcases cu (o+1) a with g|g
   ·obtain⟨p,i,e⟩:=Cr b ps _ _ _ _ _ _ h g;exact⟨p,bq _ i,e⟩
   ·obtain⟨_,e,m,_⟩:=wh b ps _ _ _ _ _ _ h;exact⟨k,eD,l,m (by omega)⟩
  |some v=>
   rw[c]at h;by_cases hi:gq v left<0;·simp only[aI hi]at h;cases h
   ·simp only[aG hi]at h;obtain⟨p,i,e⟩:=Cr b ps _ _ _ _ _ _ h j;exact⟨p,bq _ i,e⟩
def Gp(Q:T->Prop)(L:List Bd):Prop:=La L/\∀x∈L,isName x.var=true/\Q x.t
theorem Gp.ins{Q:T->Prop}{L:List Bd}{s:ByteArray}{t:T}(h:Gp Q L)(b:T.look L s=none)(c:isName s=true)(d:Q t):Gp Q (T.ins L s t):=
 ⟨OA t h.1 b,λx a=>by
   rcases Kt a with rfl|a;·exact⟨c,d⟩
   ·exact h.2 x a⟩
theorem NK{t:T}(h:t.shape=true)(a:t.aC=2):isName t.aJ=true:=by
 obtain⟨k,s,c⟩:=t;have b:k=2:=a;simp only[T.shape,aI (Or.inr b:k=1\/k=2),ai]at h;exact h.1
theorem Wo{Q:T->Prop}{ps a:List T}{b x:List Bd}(j:∀p∈ps,p.shape=true)(hb:Gp Q b)(k:∀t∈a,Q t)(h:T.pow ps a b=some x):Gp Q x:=by
 unfold T.pow at h;cases c:qE b ps a ⟨#[]⟩ 0 with
 |none=>rw[c]at h;cases h
 |some q=>
  obtain⟨left,f,o⟩:=q;rw[c]at h;obtain⟨d,_,_,l,_⟩:=wh b ps a _ _ _ _ _ c;simp only[rH]at h;by_cases g:o=0
  ·rw[aI g]at h;by_cases i:left.length=0
   ·rw[aI i]at h;obtain rfl:b=x:=(by injection h);exact hb
   ·rw[aG i]at h;cases h
  ·rw[aG g]at h;by_cases e:o=1/\left.length=1
   ·rw[aI e]at h;obtain⟨p,m,n,r⟩:=Cr b ps a _ _ _ _ _ c (by omega)
    match left,e.2,d with
    |[y],_,d=>
     obtain rfl:T.ins b f y=x:=(by simpa using h);exact hb.ins (l (by omega)) (by rw[r];exact NK (j p m) n) (k y (d y eD))
   ·rw[aG e]at h;cases h
mutual
theorem PZ{Q:T->Prop}(c:∀t,Q t->∀x∈t.ay,Q x):∀(p t:T) (b x:List Bd),p.shape=true->Gp Q b->Q t->T.E8 p t b=some x->Gp Q x
 |.mk k s i,t,b,x,a,hb,d,h=>by
  simp only[T.E8]at h;by_cases e:k=2
  ·rw[aI e]at h;cases f:T.look b s with
   |none=>
    rw[f]at h;obtain rfl:T.ins b s t=x:=(by simpa using h);exact hb.ins f (NK a e) d
   |some v=>
    rw[f]at h;by_cases j:cmp v t=0
    ·obtain rfl:b=x:=(by simpa[j]using h);exact hb
    ·simp[j]at h
  ·rw[aG e]at h;by_cases hd:k≠t.aC\/s≠t.aJ\/i.length≠t.ay.length;·rw[aI hd]at h;cases h
   ·rw[aG hd]at h;by_cases g:k=7
    ·rw[aI g]at h;subst g;exact Wo (λp l=>(rJ a p l).2) hb (c t d) h
    ·rw[aG g]at h;refine Ho c i t.ay b x ?_ hb (c t d) h;by_cases m:k=1
     ·simp only[T.shape,aI (Or.inl m:k=1\/k=2),ai,eY]at a;rw[dQ.1 a.2];unfold T.dW;rfl
     ·simp only[T.shape,aG (show ¬(k=1\/k=2) by omega),ai]at a;exact a.2
theorem Ho{Q:T->Prop}(f:∀t,Q t->∀x∈t.ay,Q x):∀(ps a:List T) (b x:List Bd),T.dW ps=true->Gp Q b->(∀t∈a,Q t)->T.kY ps a b=some x->Gp Q x
 |[],_,b,x,_,hb,_,h=>by
  obtain rfl:b=x:=(by simpa[T.kY]using h);exact hb
 |_::_,[],b,x,_,hb,_,h=>by
  obtain rfl:b=x:=(by simpa[T.kY]using h);exact hb
 |p::ps,t::a,b,x,d,hb,g,h=>by
  simp only[T.kY]at h;simp only[T.dW,ai]at d;cases e:T.E8 p t b with
  |none=>rw[e]at h;cases h
  |some c=>
   rw[e]at h;have i:=PZ f p t b c d.1 hb (g t eD) e;exact Ho f ps a c x d.2 i (λy hy=>g y (bq _ hy)) h
end
theorem OX{b:List Bd}(h:Gp (λt=>t.use=true) b):jH b=true:=by
 unfold jH;rw[cz];intro i hi;have a:=dU.1 hi;rw[aH a];show jE b i b[i]=true;have c:=h.2 b[i] (aN a);unfold jE;rw[c.1,c.2];by_cases h0:i=0;·simp[h0]
 ·rw[aH (by omega)];have:=h.1.at (i:=i-1) (j:=i) (by omega) a (by omega);simp[this]
theorem O0{b:List Bd}(h:jH b=true):Gp (λt=>t.use=true) b:=⟨La.of h,qF h⟩
theorem MI{p t:T}{b x:List Bd}(h:oM p t b=some x):jH x=true:=by
 obtain⟨a,c,d,e⟩:=JI h;exact OX (PZ (λt f=>U9 f) p t b x (mq a) (O0 d) c e)
structure jZ.Fit (s:List iZ) (x:jZ):Prop where
 len:x.aS.length=s.length
 gq:∀(i:Nat) (q:pF) (st:iZ),x.aS[i]?=some q->s[i]?=some st->q.gq<=st.2.length
 b:∀q∈x.aS,jH q.b=true
 bH:∀t∈x.bH,t.use=true
 Vi:Cy x.bH
theorem QX{s:List iZ}{K:List T}:(aT.jV s K).Fit s where
 len:=by simp[aT.jV]
 gq i q st h _:=by
  simp only[aT.jV,kR]at h;cases a:s[i]? with
  |none=>rw[a]at h;cases h
  |some y=>
   rw[a]at h;obtain rfl:(⟨0,[]⟩:pF)=q:=(by injection h);exact aL _
 b q c:=by
   simp only[aT.jV,dB]at c;obtain⟨_,_,rfl⟩:=c;rfl
 bH t d:=by
  have:=(jC _).2 t |>.1 d;exact(fB.1 this).2
 Vi:=(jC _).1
theorem nX{s:List iZ}{x:jZ}{i:Nat}{m:Int×T}(h:aT.next s x i=some m):∃st q,s[i]?=some st/\x.aS[i]?=some q/\st.2[q.gq]?=some m:=by
 unfold aT.next at h
 split at h;·rename_i st q a b;exact⟨st,q,a,b,h⟩
 ·cases h
def aT.WR(s:List iZ)(x:jZ)(m:Int×T)(t:oF):Prop:=aT.next s x t.dM=some m/\(m.1=2->∀q,x.aS[t.dM]?=some q->(oM m.2 t.bJ q.b).isSome=true)
theorem TA{s:List iZ}{x:jZ}{m:Int×T}{t:oF}(h:x.Fit s)(w:aT.WR s x m t):(aT.move x m t).Fit s:=by
 obtain⟨y,z⟩:=w;obtain⟨st,q,A,c,B⟩:=nX y;have C:q∈x.aS:=eT c;have k:∀(i:Nat) (p:pF),(aT.move x m t).aS[i]?=some p->(i=t.dM/\p.gq=q.gq+1/\p.b=(if m.1=2 then (oM m.2 t.bJ q.b).getD [] else q.b))\/(i≠t.dM/\x.aS[i]?=some p):=by
  intro i p a;simp only[aT.move,aT.Zb,tT]at a;by_cases e:t.dM=i
  ·subst e;rw[c]at a;have l:(⟨q.gq+1,if m.1=2 then (oM m.2 t.bJ q.b).getD [] else q.b⟩:pF)=p:=(by simpa using a);exact .inl ⟨rfl,by rw[<-l],by rw[<-l]⟩
  ·refine .inr ⟨jN e,?_⟩;simpa[e]using a
 have n:=h.b q C;refine⟨by simp[aT.move,aT.Zb,h.len],λi p o a g=>?_,λp a=>?_,?_,?_⟩
 ·rcases k i p a with⟨rfl,e,_⟩|⟨_,e⟩
  ·rw[A]at g;obtain rfl:st=o:=(by injection g);have:=(bg.1 B).1;omega
  ·exact h.gq i p o e g
 ·obtain⟨i,hi,rfl⟩:=bI a;rcases k i _ (aH hi)with⟨rfl,_,e⟩|⟨_,e⟩
  ·rw[e];by_cases j:m.1=2
   ·rw[aI j];have:=z j q c;cases r:oM m.2 t.bJ q.b with
    |none=>rw[r]at this;cases this
    |some b=>exact MI r
   ·rw[aG j];exact n
  ·exact h.b _ (eT e)
 ·intro u hu;simp only[aT.move,c,iA]at hu;by_cases d:m.1=1
  ·rw[aI d]at hu;cases f:kz m.2 q.b with
   |none=>rw[f]at hu;exact h.bH u hu
   |some v=>
    rw[f]at hu;rcases aU.1 ((jC _).2 u |>.1 hu)with hu|hu;·exact h.bH u hu
    ·rw[aX]at hu;subst hu;exact(QU f n).1
  ·rw[aG d]at hu;exact h.bH u hu
 ·show Cy (aT.move x m t).bH;simp only[aT.move,c,iA];by_cases d:m.1=1
  ·rw[aI d];cases f:kz m.2 q.b with
   |none=>exact h.Vi
   |some v=>exact(jC _).1
  ·rw[aG d];exact h.Vi
end
section
open Go.RowKit Go.ChangeShapes Go.WideShapes
theorem rQ:∀(N:Nat) (t:T),t.bC<N->t.shape=true->t.bC<=20*t.size
 |0,_,h,_=>by omega
 |N+1,t,f,a=>by
  obtain⟨k,s,c⟩:=t;by_cases d:k=1\/k=2
  ·rw[T.wC k s c d,ai,eY]at a;have e:=bQ a.2;subst e;have o:s.size<=16:=by
    have:=a.1;unfold T.isName at this;rw[ai,ai,bW,bW]at this;exact this.2.2
   simp only[T.bC,T.bE,T.size,T.dK];omega
  ·rw[T.qy k s c (λe=>d (.inl e)) (λe=>d (.inr e)),ai,ai,bZ]at a;obtain⟨⟨_,g⟩,j⟩:=a;have e:=T.GH g;subst e;have m:∀(l:List T),(∀x∈l,x.bC<N/\x.shape=true)->T.bE l<=20*T.dK l:=λl=>by
    induction l with
    |nil=>intro _;simp[T.bE]
    |cons x r n=>
     intro h;have b:=h x (by simp);have p:=rQ N x b.1 b.2;have a2:=n λy hy=>h y (bq _ hy);simp only[T.bE,T.dK];omega
   have:=m c λx b=>by
    obtain⟨i,hi,rfl⟩:=bI b;have hb:=T.iQ c i hi;simp only[T.bC]at f;refine⟨by omega,?_⟩;have:=fQ.1 j _ b;simpa using this
   simp only[T.bC,T.size];have:(⟨#[]⟩:ByteArray).size=0:=rfl;omega
namespace T
mutual
theorem Sb:∀(t:T),t.shape=true->(subs t).length<=5*t.size
 |.mk k s b,h=>by
  have n:=oU h;have h':=h;simp only[shape]at h';split at h'
  ·rename_i o;rw[ai,eY]at h';rw[bQ h'.2];have d:¬k=7:=(by omega);simp only[subs,iY,size,dK,aG d,dS,zm];omega
  ·rename_i o;rw[ai]at h';have B:=yX b h'.2;simp only[subs,size,bu,aF];simp only[aC,ay]at n;split
   ·rename_i d;have p:∀(l:List T),(∀x∈l,x.aC=1\/x.aC=2)->(∀x∈l,x.shape=true)->(iY l).length<=l.length/\dK l=l.length:=λl=>by
     induction l with
     |nil=>intro _ _;exact⟨ak _,rfl⟩
     |cons a r q=>
      intro f g;obtain⟨u,v⟩:=q (λx c=>f x (bq _ c)) (λx c=>g x (bq _ c));have j:=f a (by simp);have m:=g a (by simp);obtain⟨k',w,y⟩:=a;rw[T.wC k' w y j,ai,eY]at m;have e:=bQ m.2;subst e;have C:k'=1\/k'=2:=j;have z:¬k'=7:=(by omega);simp only[iY,dK,subs,size,aG z,aF,bu,dS,fA];omega
    have A:∀x∈b,x.aC=1\/x.aC=2:=λx c=>by
     obtain⟨i,hi,rfl⟩:=bI c;have:=CY h d (i:=i) hi;rw[yG (t:=.mk k s b) hi]at this;exact this
    obtain⟨u,v⟩:=p b A ((mi b).1 h'.2);have D:(((DU b).filter λl=>!l.isEmpty).map (T.mk 7 ⟨#[]⟩)).length<=2 ^ b.length:=by
     rw[df];refine aD (fP _ _) ?_;rw[II];exact ak _
    have E:2 ^ b.length+b.length+1<=5*(b.length+1):=by
     have:b.length=0\/b.length=1\/b.length=2\/b.length=3\/b.length=4:=(by omega);rcases this with e|e|e|e|e<;>rw[e]<;>decide
    omega
   ·simp only[fA];omega
theorem yX:∀(l:List T),dW l=true->(iY l).length<=5*dK l
 |[],_=>by simp[iY,dK]
 |t::r,h=>by
  simp only[dW,ai]at h;have a:=Sb t h.1;have b:=yX r h.2;simp only[iY,dK,aF];omega
end
end T
end
section
open T
theorem U7{a:List T}(d:∀t∈a,t.fe=true)(k:a.length<=5000):yA (T.iY a):=by
 have f:T.dW a=true:=(T.mi a).2 λt b=>(aP.1 (d t b)).2;refine⟨λt b i hi=>(mY a t b).1 i hi,λt b g c i hi=>(mY a t b).2 g c i hi,λx h=>?_,?_⟩
 ·obtain⟨t,b,j⟩:=T.ug.1 h;have c:=aP.1 (d t b);have e:=T.tK t c.2 x j;have l:=ax c.1;unfold T.fe;rw[ai];exact⟨aQ (by omega),e.1⟩
 ·have c:=T.yX a f;have e:=Fx a λt b=>ax (aP.1 (d t b)).1;omega
theorem wW{K:List T}(b:∀t∈K,t.use=true)(d:K.length<=1000):Cy (aT.parts K)/\(∀x,x∈aT.parts K<->An (· ∈K) x)/\∀x∈aT.parts K,x.use=true:=by
 obtain⟨e,c⟩:=KJ (Yi (λt a=>T.iJ (b t a)) d) (λt a=>Ko a) b (dI _);exact⟨e,c,λx f=>Xv (λt a=>b t a) ((c x).1 f)⟩
theorem OW{K L:List T}(a:∀t∈K,t.use=true)(b:K.length<=64)(h:Po (cnt K) L):L=aT.parts K:=by
 rw[Lv b a]at h;obtain⟨c,d,_⟩:=wW a (by omega);exact CP (QK h) c λx=>(h.1 x).t (d x).symm
def aT.offers(pat:T)(b:List Bd)(K:List T):List T:=aT.parts K++aT.fills pat (aT.zJ pat) (aT.parts K) (aT.left pat b) b
theorem yN{pat:T}{b:List Bd}{K:List T}(c:∀t∈K,t.use=true)(d:K.length<=1000):∀t∈aT.offers pat b K,t.fe=true:=by
 intro t a;rcases aU.1 a with a|a;·exact T.iJ ((wW c d).2.2 t a)
 ·obtain⟨f,_,h⟩:=(xX _ _).1 a;obtain⟨_,u,_,hu,rfl⟩:=Ch h;exact Cx u hu
def aT.LZ(pat:T)(b:List Bd)(K:List T):List T:=iY (K++aT.offers pat b K)
def aT.wid(pat:T)(K:List T)(v:ByteArray):Nat:=if aT.oL (aT.zJ pat) v=true then ((aT.parts K).filter λp=>decide (p.aC=1)).length else (aT.parts K).length
def aT.Yn(pat:T)(b:List Bd)(K:List T):Prop:=K.length<=64/\(aT.offers pat b K).length<=4000/\∀v∈aT.left pat b,aT.wid pat K v ^ (vars pat).length<=900000
theorem TD{pat:T}{b:List Bd}{K:List T}(c:∀t∈K,t.use=true)(h:aT.Yn pat b K):yA (aT.LZ pat b K)/\(∀t∈K,t∈aT.LZ pat b K)/\∀t∈aT.offers pat b K,t∈aT.LZ pat b K:=by
 refine⟨U7 (λt a=>?_) (by rw[aF];have:=h.1;have:=h.2.1;omega),λt a=>Ko (gQ _ a),λt a=>Ko (jA _ a)⟩;rcases aU.1 a with a|a;·exact T.iJ (c t a)
 ·exact yN c (by have:=h.1;omega) t a
theorem Ti{U K:List T}{W:List fC}{t:T}(b:∀t∈K,t.use=true)(c:K.length<=1000)(hU:yA U)(d:Inv U W)(hS:Wb.Sound (Wb.Part W) W)(e:∀x,Wb.Part W x<->An (· ∈K) x)(a:t.use=true->t∈U):Gz W t=aT.can (aT.parts K) t:=by
 obtain⟨_,f,g⟩:=wW b c;have h:∀x,Wb.Part W x<->x∈aT.parts K:=λx=>(e x).t (f x).symm;unfold Gz aT.can;by_cases hu:t.use=true
 ·rw[hu,mr,mr,jY,O3 hU g (a hu) hu (dI _),eO,Wb.PD hU (a hu) d hS];exact sw.iff h t
 ·rw[oV]at hu;rw[hu];rfl
theorem mem_left{pat:T}{b:List Bd}{v:ByteArray}:v∈aT.left pat b<->v∈vars pat/\∀y∈b,y.var≠v:=by
 unfold aT.left;rw[fB,TR];refine ze λ_=>?_;rw[bZ,fQ];exact⟨λh y hy=>by simpa using h y hy,λh y hy=>by simpa using h y hy⟩
theorem Oy{pat:T}{b:List Bd}{K:List T}{vs names:List ByteArray}(f:∀t∈K,t.use=true)(g:K.length<=1000)(h:∀v,v∈vs<->v∈aT.left pat b)(i:∀v,v∈names<->v∈aT.zJ pat):
 (∀k,k∈((aT.parts K++aT.fills pat names (aT.parts K) vs b).foldl (aT.offer pat b (aT.parts K)) ⟨[],[]⟩).met->∃t∈aT.offers pat b K,t.key=k)/\
 (∀t,t∈((aT.parts K++aT.fills pat names (aT.parts K) vs b).foldl (aT.offer pat b (aT.parts K)) ⟨[],[]⟩).gW->t∈aT.offers pat b K)/\
 ((aT.parts K++aT.fills pat names (aT.parts K) vs b).foldl (aT.offer pat b (aT.parts K)) ⟨[],[]⟩).gW.Nodup/\
 aT.FQ ((aT.parts K++aT.fills pat names (aT.parts K) vs b).foldl (aT.offer pat b (aT.parts K)) ⟨[],[]⟩).gW=aT.rC pat b K:=by
 have c:∀t,t∈aT.parts K++aT.fills pat names (aT.parts K) vs b<->t∈aT.offers pat b K:=λt=>by
  unfold aT.offers;rw[aU,aU,GL h i t]
 obtain⟨j,d,l⟩:=zW (pat:=pat) (b:=b) (P:=aT.parts K) (aT.parts K++aT.fills pat names (aT.parts K) vs b) [] ⟨[],[]⟩ (λt a=>yN f g t ((c t).1 a)) (λk=>by simp) (λt=>by simp) zz;refine⟨λk m=>?_,λt a=>(c t).1 ((d t).1 a).1,l,WE λt=>?_⟩
 ·obtain⟨t,a,e⟩:=(j k).1 m;exact⟨t,(c t).1 a,e⟩
 ·rw[d,fB];exact and_congr_left λ_=>c t
theorem Ei{pat:T}{b:List Bd}{K:List T}{t:T}(h:t∈aT.rC pat b K):(oM pat t b).isSome=true/\aT.can (aT.parts K) t=true:=by
 have:=(jC _).2 t |>.1 h;obtain⟨_,a⟩:=fB.1 this;unfold aT.accept at a;exact aP.1 a
theorem QJ{pat:T}{b:List Bd}{K:List T}:Cy (aT.rC pat b K):=(jC _).1
theorem EJ{s:List iZ}{x:jZ}{t:oF}(h:t∈aT.jG s x):∃m,aT.WR s x m t/\(m.1≠2->t.bJ=uC)/\(m.1=2->∃q,x.aS[t.dM]?=some q/\t.bJ∈aT.rC m.2 q.b x.bH):=by
 unfold aT.jG at h;obtain⟨i,_,h⟩:=oW.1 h;unfold aT.turnsOf at h;cases a:aT.next s x i with
 |none=>rw[a]at h;cases h
 |some m=>
  rw[a]at h;obtain⟨st,q,_,d,_⟩:=nX a;by_cases c:m.1=2
  ·simp only[aI c,d,jh,iA,dB]at h;obtain⟨u,hu,rfl⟩:=h;refine⟨m,⟨a,λ_ p f=>?_⟩,λh'=>absurd c h',λ_=>⟨q,d,hu⟩⟩;have e:x.aS[i]?=some p:=f;rw[d]at e;obtain rfl:q=p:=(by injection e);exact(Ei hu).1
  ·simp only[aG c,aX]at h;subst h;exact⟨m,⟨a,λh'=>absurd h' c⟩,λ_=>rfl,λh'=>absurd h' c⟩
end
section
open Go.RowKit Go.Sort
def jy(B:Nat)(w:World)(blk:Nat):Type:={ x:(Int×ByteArray×Option Addr×Nat×Nat)×T // bN (but B (some blk)) w (.agg #[.int .i64 x.1.1,.string x.1.2.1,.slice x.1.2.2.1 x.1.2.2.2.1 x.1.2.2.2.2]) x.2/\x.2.bC<=1048576 }
instance (B:Nat) (w:World) (blk:Nat):Inhabited (jy B w blk):=⟨⟨((0,⟨#[]⟩,none,0,0),.mk 0 ⟨#[]⟩ []),wR _ _ 0 ⟨#[]⟩ (by decide) (by decide),by decide⟩⟩
def jy.enc{B:Nat}{w:World}{blk:Nat}(x:jy B w blk):List Value:=[.int .i64 x.1.1.1,.string x.1.1.2.1,.slice x.1.1.2.2.1 x.1.1.2.2.2.1 x.1.1.2.2.2.2]
def jy.t{B:Nat}{w:World}{blk:Nat}(x:jy B w blk):T:=x.1.2
def jy.cf{B:Nat}{w:World}{blk:Nat}(x y:jy B w blk):Int:=T.cmp x.t y.t
theorem O8(B:Nat)(w:World)(blk:Nat):SWO (ltOf (jy.cf (B:=B) (w:=w) (blk:=blk))) where
 irrefl x:=by unfold ltOf jy.cf;rw[T.nS];rfl
 trans x y z a b:=by
  unfold ltOf jy.cf at*;rw[bW]at*;have c:T.cmp x.t y.t= -1:=(by rcases T.mg x.t y.t with h|h|h<;>omega);have d:T.cmp y.t z.t= -1:=(by rcases T.mg y.t z.t with h|h|h<;>omega);rw[T.sU _ _ _ c d];decide
 ntrans x y z a b:=by
  unfold ltOf jy.cf at*;rw[mX]at*;intro i;have j:=T.oK x.t y.t;have a2:=T.oK y.t z.t;have f:T.cmp x.t z.t= -1:=(by rcases T.mg x.t z.t with h|h|h<;>omega);rcases T.mg x.t y.t with h|h|h;·omega
  ·have e:=T.cmp_eq _ _ h;rw[e]at f;omega
  ·rcases T.mg y.t z.t with g|g|g;·omega
   ·have e:=T.cmp_eq _ _ g;rw[e]at h;omega
   ·have:=T.sU z.t y.t x.t (by omega) (by omega);have a3:=T.oK x.t z.t;omega
theorem Nn{B:Nat}{w:World}{blk:Nat}(off size:Nat):CmpLays Tryz.prog 63 #[] (jy.enc (B:=B) (w:=w) (blk:=blk)) 3 jy.cf blk off size w:=λm os a _ x y=>by
 obtain⟨⟨⟨k,s,A,n,c⟩,t⟩,f,hb⟩:=x;obtain⟨⟨⟨k',q,r,u,v⟩,g⟩,i,j⟩:=y;have d:∀b,but B (some blk) b=true->b<w.heap.size->(λ_=>true) b=true/\(sortWorldK (jy.enc (B:=B) (w:=w) (blk:=blk)) 3 w blk off m a os).heap[b]?=w.heap[b]?:=λb hb l=>⟨rfl,pz _ _ _ _ _ _ _ _ b l (λe=>(ja.1 hb).2 (by rw[e]))⟩;have h:=YX (t.bC+1) t g _ _ (sortWorldK (jy.enc (B:=B) (w:=w) (blk:=blk)) 3 w blk off m a os) (by omega) (f.aR d).at (i.aR d).at hb j;exact h.m λe w' ⟨o,p⟩=>⟨o,p.grow⟩
def Ja(base:Nat)(w:World)(A:Option Addr)(cap:Nat)(L:List T)(e:Ending)(w':World):Prop:=
 e=.returned (.tuple #[])/\∃c,c.Perm L/\c.Pairwise (λa b=>¬T.cmp b a<0)/\bK w' base (.slice A L.length cap) c/\Below base w w'
def Qv(base:Nat)(w:World)(A:Option Addr)(cap:Nat)(L:List T)(e:Ending)(w':World):Prop:=Ja base w A cap L e w'/\w.grownBy w' (Value.slice A L.length cap).ownBlock
theorem Uq{base cap:Nat}{A:Option Addr}{L:List T}(w:World)(h:bK w base (.slice A L.length cap) L)(hb:∀t∈L,t.bC<=1048576)(hl:L.length<=1048576):
 Calls Tryz.prog 80 #[.slice A L.length cap,.func (.func 63) #[] #[]] w (Qv base w A cap L):=by
 by_cases h0:L.length=0
 ·obtain rfl:L=[]:=bQ h0;have W:=AnyF.slices_SortFunc_none (P:=Tryz.prog) Tryz.Xd A cap (.func (.func 63) #[] #[]) w;refine W.m ?_;rintro e w' ⟨rfl,rfl⟩;exact⟨⟨rfl,[],mQ _,List.Pairwise.nil,h,az _ _⟩,rfl,rfl,rfl,ak _,λ_ _ _=>rfl⟩
 ·have h':=h;obtain⟨xs,H,X⟩:=h'.cells;obtain⟨blk,aD,e,_⟩:=H.form (by omega);injection e with f y I;subst f;subst I;have z:=h.block blk rfl;have Y:=h.shape;obtain⟨_,_,Z,aF,E⟩:=Y;injection Z with e5 e6 e7;subst e7;have o:∀i:Fin L.length,∃x:jy base w blk,x.t=L[i]/\∀r v,x.enc[r]?=some v->xs[i.1*3+r]?=some v:=λi=>by
   obtain⟨u0,u1,u2,q0,q1,q2,F⟩:=X.2 i.1 i.2;obtain⟨A0,c0,l⟩:=F.view;injection l with l;injection l with l;injection l with g0 l;injection l with g1 l;injection l with g2 _;subst g0;subst g1;subst g2;refine⟨⟨((L[i].aC,L[i].aJ,A0,L[i].ay.length,c0),L[i]),F,hb _ (aN _)⟩,rfl,λr v a=>?_⟩
   match r,a with
   |0,a=>injection a with a;subst a;exact q0
   |1,a=>injection a with a;subst a;exact q1
   |2,a=>injection a with a;subst a;exact q2
   |r+3,a=>simp[jy.enc]at a
  obtain⟨d,M⟩:∃d:List (jy base w blk),d=List.ofFn (λi:Fin L.length=>(o i).choose):=⟨_,rfl⟩;have G:d.length=L.length:=(by rw[M,List.length_ofFn]);have N:∀j (hj:j<L.length),d[j]! =(o ⟨j,hj⟩).choose:=λj hj=>by
   rw[iE d j (by rw[G];exact hj)];subst M;rw[List.getElem_ofFn]
  have aa:d.map jy.t=L:=by
   apply sI;·rw[df,G]
   ·intro j h1 m;rw[gz];have:=N j m;rw[iE d j (by omega)]at this;rw[this];exact(o ⟨j,m⟩).choose_spec.1
  have p:d.toArray.size=L.length:=(by simp[G]);have hH:HoldsK (jy.enc (B:=base) (w:=w) (blk:=blk)) 3 w blk 0 d.toArray:=λj hj=>by
   rw[size_flatK]at hj;rw[get_flatK _ _ _ _ hj,dJ];rw[p]at hj;have q:j / 3<L.length:=(by omega);refine⟨?_,H.frozenAt j⟩;rw[H.cellAt j (by omega)];have ae:d.toArray[j / 3]! =(o ⟨j / 3,q⟩).choose:=by
    rw[<-N (j / 3) q,iE d.toArray _ (by rw[p];exact q),iE d _ (by rw[G];exact q)];simp
   rw[ae];have O:=(o ⟨j / 3,q⟩).choose_spec.2 (j % 3);generalize(o ⟨j / 3,q⟩).choose=x at O;have C:j % 3<x.enc.length:=(by have:x.enc.length=3:=rfl;omega);have:=O _ (aH C);have ej:j / 3*3+j % 3=j:=(by omega);rw[ej]at this;rw[this];show some _=some (x.enc[j % 3]!);rw[iE x.enc (j % 3) C]
  have eg:∀args w,(callFunc 63 args).run Tryz.prog w=.ok (.enter 63 args) w:=enters_of Tryz.func63 (by kernel_rfl) rfl;have Q:=AnyQ.slices_SortFunc (P:=Tryz.prog) Tryz.Xd 3 (λw=>Tryz.isAgg29 w) (λw=>Tryz.sizeOf29 w) (jy.enc (B:=base) (w:=w) (blk:=blk)) (λ_=>rfl) (λx v a=>by
   simp only[jy.enc,bL,dY,H8]at a;rcases a with rfl|rfl|rfl<;>rfl) jy.cf (O8 base w blk) 63 #[] blk 0 cap d.toArray w eg (Nn 0 _) hH z.2 (by rw[p];omega)
  rw[p]at Q;refine Q.m ?_;rintro e w' ⟨rfl,d',n,os,⟨R,_,J⟩,af,rfl⟩;have u:d'.size=L.length:=(by rw[R,p]);have ag:d'.toList.Perm d:=by
   rw[<-u]at J;have f:d'.extract 0 d'.size=d':=(by simp);have y:d.toArray.extract 0 d'.size=d.toArray:=(by rw[u,<-p];simp);rw[f,y]at J;exact J
  have K:(d'.toList.map jy.t).length=L.length:=(by simp[u]);have D:=Ev (jy.enc (B:=base) (w:=w) (blk:=blk)) 3 w blk 0 n d' os z.1 z.2;refine⟨⟨rfl,d'.toList.map jy.t,by rw[<-aa];exact ag.map _,?_,?_,D⟩,D.os,D.tape,D.output,D.size,λk hk ai=>pz _ _ _ _ _ _ _ _ k hk (λe=>ai (by rw[e];rfl))⟩
  ·rw[List.pairwise_map,lT];intro i j hi hj av;have m:=af i j (aL _) av (by simpa[u]using hj);unfold ltOf jy.cf at m;rw[mX]at m;rw[iE d' _ (by simpa using hj),iE d' _ (by simpa using hi)]at m;simpa using m
  ·have ax:=holdsK_sortWorldK_c (jy.enc (B:=base) (w:=w) (blk:=blk)) 3 w blk 0 d.toArray d' n os hH z.2 R;have aA:∀i,i<L.length->∀r,r<3->(sortWorldK (jy.enc (B:=base) (w:=w) (blk:=blk)) 3 w blk 0 n d' os).cell? ⟨blk,0+i*3+r,none⟩=some (d'[i]!.enc[r]!):=λi hi r C=>by
    have:=(ax (i*3+r) (by rw[size_flatK,u];omega)).1;rw[get_flatK _ _ _ _ (by rw[u];omega)]at this;have f:(i*3+r) / 3=i:=(by omega);have y:(i*3+r) % 3=r:=(by omega);rw[f,y,id]at this;rw[iw];exact this
   rcases h with⟨e,_⟩|⟨g,aG,e,S,b1,b2,b3,b4,b5,b6⟩;·cases e
   ·injection e with f y I;injection f with f;injection f with f;subst f;subst I;have U:(sortWorldK (jy.enc (B:=base) (w:=w) (blk:=blk)) 3 w blk 0 n d' os).heap[blk]?=some (.cells (putCells id 0 (flatK (jy.enc (B:=base) (w:=w) (blk:=blk)) 3 d') S) 29 (0,0)):=by
     show((w.heap.modify blk _)++os)[blk]?=_;rw[vg (by simpa using z.2),ed,aI rfl,b1];rfl
    have E:∀i,i<L.length->∀r,r<3->(putCells id 0 (flatK (jy.enc (B:=base) (w:=w) (blk:=blk)) 3 d') S)[i*3+r]?=some (d'[i]!.enc[r]!):=λi hi r C=>by
     have:=aA i hi r C;unfold World.cell? at this;rw[U,dJ]at this;simpa using this
    refine .inr ⟨blk,cap,by rw[K],_,U,?_,by rw[K];exact b3,b4,b5,λi hi=>?_⟩;·unfold putCells;rw[Array.size_mapIdx];exact b2
    ·rw[K]at hi;have f:(d'.toList.map jy.t)[i]=d'[i]!.t:=(by rw[gz,iE d' i (by omega)];rfl);refine⟨_,_,_,E i hi 0 (by omega),E i hi 1 (by omega),E i hi 2 (by omega),?_⟩;rw[f];obtain⟨⟨⟨k,s,A,n',c⟩,t⟩,F,_⟩:=d'[i]!;exact F.aR λb V aB=>⟨V,pz _ _ _ _ _ _ _ _ b aB (λe=>(ja.1 V).2 (by rw[e]))⟩
theorem X3{base cap:Nat}{A:Option Addr}{L:List T}(w:World)(h:bK w base (.slice A L.length cap) L)(hb:∀t∈L,t.bC<=1048576)(a:L.length<=1048576):
 Calls Tryz.prog 80 #[.slice A L.length cap,.func (.func 63) #[] #[]] w (Ja base w A cap L):=(Uq w h hb a).m λ_ _ k=>k.1
end
section
open T
namespace aT
def wD(s:List iZ)(x:jZ)(t:oF):Option jZ:=
 match next s x t.dM with
 |none=>none
 |some m=>if m.1=2 then (if ((rC m.2 (((x.aS[t.dM]?).map pF.b).getD []) x.bH).any λc=>decide (cmp c t.bJ=0))=true then some (move x m t) else none)
  else if cmp t.bJ uC=0 then some (move x m t) else none
def ui(s:List iZ):jZ->List oF->Option jZ
 |x,[]=>some x
 |x,t::r=>match wD s x t with
  |none=>none
  |some y=>ui s y r
end aT
theorem Fe{s:List iZ}:∀(l m:List oF) (x:jZ),aT.ui s x (l++m)=(aT.ui s x l).bind λy=>aT.ui s y m
 |[],_,_=>rfl
 |t::r,m,x=>by
  simp only[iT,aT.ui];cases aT.wD s x t with
  |none=>rfl
  |some y=>exact Fe r m y
theorem uR{s:List iZ}{x:jZ}{t:oF}(h:t∈aT.jG s x):∃m,aT.WR s x m t/\aT.wD s x t=some (aT.move x m t):=by
 obtain⟨m,b,c,d⟩:=EJ h;refine⟨m,b,?_⟩;unfold aT.wD;rw[b.1];by_cases a:m.1=2
 ·obtain⟨q,e,f⟩:=d a;simp only[aI a,e,jh,iA];rw[aI (eU.2 ⟨_,f,aQ (nS _)⟩)]
 ·simp only[aG a];rw[aI (by rw[c a];exact nS _)]
theorem DT{s:List iZ}{x y:jZ}{t:oF}(h:aT.wD s x t=some y):∃m,aT.WR s x m t/\y=aT.move x m t:=by
 unfold aT.wD at h;cases a:aT.next s x t.dM with
 |none=>rw[a]at h;cases h
 |some m=>
  rw[a]at h;obtain⟨st,q,_,d,_⟩:=nX a;by_cases b:m.1=2
  ·simp only[aI b,d,jh,iA]at h;split at h
   ·rename_i g;obtain⟨c,i,e⟩:=eU.1 g;have j:=cmp_eq _ _ (ax e);refine⟨m,⟨a,λ_ p f=>?_⟩,by injection h with h;exact h.symm⟩;rw[d]at f;obtain rfl:q=p:=(by injection f);rw[<-j];exact(Ei i).1
   ·cases h
  ·simp only[aG b]at h;split at h;·exact⟨m,⟨a,λh'=>absurd h' b⟩,by injection h with h;exact h.symm⟩
   ·cases h
theorem M4{s:List iZ}:∀(l:List oF) {x y:jZ},x.Fit s->aT.ui s x l=some y->y.Fit s
 |[],x,y,a,h=>by
  obtain rfl:x=y:=(by injection h);exact a
 |t::r,x,y,a,h=>by
  simp only[aT.ui]at h;cases b:aT.wD s x t with
  |none=>rw[b]at h;cases h
  |some z=>
   rw[b]at h;obtain⟨m,c,rfl⟩:=DT b;exact M4 r (TA a c) h
structure aT.xD.Ok (s:List iZ) (x0:jZ) (v:aT.xD):Prop where
 zero:∃y,v.jb[0]?=some y/\y.x=x0
 link:∀i y,v.jb[i]?=some y->i=0\/(y.before<i/\∃p,v.jb[y.before]?=some p/\y.turn∈aT.jG s p.x/\aT.wD s p.x y.turn=some y.x)
 ow:∀a∈v.ow,∃j p t c,v.jb[j]?=some p/\t∈aT.jG s p.x/\aT.next s p.x t.dM=some (3,c)/\aT.pJ s p.x t.dM c=true/\a.2=aT.schedule v.jb j t
theorem Jg{s:List iZ}{x0:jZ}{v:aT.xD}(h:v.Ok s x0):∀(f g i:Nat),i<=f->i<=g->aT.back v.jb f i=aT.back v.jb g i
 |0,0,i,_,_=>rfl
 |0,g+1,i,a,_=>by
  obtain rfl:i=0:=(by omega);rfl
 |f+1,0,i,_,b=>by
  obtain rfl:i=0:=(by omega);rfl
 |f+1,g+1,i,a,b=>by
  simp only[aT.back];by_cases hi:0<i
  ·rw[aI hi,aI hi];cases hy:v.jb[i]? with
   |none=>rfl
   |some y=>
    have c:=(h.link i y hy).resolve_left (by omega);show y.turn::_=y.turn::_;rw[Jg h f g y.before (by omega) (by omega)]
  ·rw[aG hi,aG hi]
theorem Lh{s:List iZ}{x0:jZ}{v:aT.xD}(h:v.Ok s x0)(z:aT.Lc):∀(f i:Nat),i<v.jb.length->aT.back (v.jb++[z]) f i=aT.back v.jb f i
 |0,i,_=>rfl
 |f+1,i,hi=>by
  simp only[aT.back];rw[bP hi];by_cases h0:0<i
  ·rw[aI h0,aI h0];cases hy:v.jb[i]? with
   |none=>rfl
   |some y=>
    have a:=(h.link i y hy).resolve_left (by omega);show y.turn::_=y.turn::_;rw[Lh h z f y.before (by omega)]
  ·rw[aG h0,aG h0]
theorem KP{s:List iZ}{x0:jZ}{v:aT.xD}(h:v.Ok s x0)(z:aT.Lc){i:Nat}(hi:i<v.jb.length)(t:oF):aT.schedule (v.jb++[z]) i t=aT.schedule v.jb i t:=by
 unfold aT.schedule;rw[Lh h z i i hi]
theorem Yj(s:List iZ)(i:Nat)(v:aT.xD)(t:oF):v.jb <+:(aT.turn s i v t).jb:=by
 unfold aT.turn;split;·exact uq
 ·split;·exact uq
  ·dsimp only
   split;·exact uq
   ·split;·exact uq
    ·exact List.prefix_append _ _
theorem Qr{s:List iZ}{x0:jZ}{v:aT.xD}(h:v.Ok s x0){i:Nat}{p:aT.Lc}(d:v.jb[i]?=some p){t:oF}(k:t∈aT.jG s p.x):(aT.turn s i v t).Ok s x0:=by
 obtain⟨m,r,A⟩:=uR k;have B:=(bg.1 d).1;unfold aT.turn;rw[d];simp only[r.1];have l:∀a∈(if m.1=3/\aT.pJ s p.x t.dM m.2=true/\v.ow.lookup (t.dM,((p.x.aS[t.dM]?).map pF.gq).getD 0)=none then ((t.dM,((p.x.aS[t.dM]?).map pF.gq).getD 0),aT.schedule v.jb i t)::v.ow else v.ow),∃j p t c,v.jb[j]?=some p/\t∈aT.jG s p.x/\aT.next s p.x t.dM=some (3,c)/\aT.pJ s p.x t.dM c=true/\a.2=aT.schedule v.jb j t:=by
  intro a b;split at b
  ·rename_i w;rcases bL.1 b with rfl|b;·exact⟨i,p,t,m.2,d,k,by rw[r.1,<-w.1],w.2.1,rfl⟩
   ·exact h.ow a b
  ·exact h.ow a b
 split;·exact⟨h.zero,h.link,l⟩
 ·split;·exact⟨h.zero,h.link,l⟩
  ·refine⟨?_,λj y hj=>?_,λa b=>?_⟩
   ·obtain⟨y,hy,e⟩:=h.zero;exact⟨y,by rw[bP (by have:=(bg.1 hy).1;exact this)];exact hy,e⟩
   ·rcases cu j v.jb.length with g|g
    ·rw[bP g]at hj;rcases h.link j y hj with e|⟨n,q,f,o⟩;·exact .inl e
     ·exact .inr ⟨n,q,by rw[bP (by omega)];exact f,o⟩
    ·rw[bD g]at hj;have C:j-v.jb.length=0:=by
      have:=(bg.1 hj).1;simp at this;omega
     rw[C]at hj;obtain rfl:(⟨aT.move p.x m t,i,t⟩:aT.Lc)=y:=(by simpa using hj);refine .inr ⟨by show i<j;omega,p,?_,k,A⟩;show(v.jb++_)[i]?=some p;rw[bP B];exact d
   ·obtain⟨j,q,u,c,f,n,o,D,E⟩:=l a b;have z:=(bg.1 f).1;exact⟨j,q,u,c,by rw[bP z];exact f,n,o,D,by rw[KP h _ z];exact E⟩
theorem ND{s:List iZ}{x0:jZ}{i:Nat}{x:jZ}:∀(l:List oF) {v:aT.xD} {p:aT.Lc},v.Ok s x0->v.jb[i]?=some p->p.x=x->(∀t∈l,t∈aT.jG s x)->(l.foldl (aT.turn s i) v).Ok s x0
 |[],_,_,h,_,_,_=>h
 |t::r,v,p,h,a,e,b=>by
  refine ND r (Qr h a (by rw[e];exact b t (by simp))) (p:=p) ?_ e (λu hu=>b u (bq _ hu));have c:=Yj s i v t;have d:=(bg.1 a).1;obtain⟨z,f⟩:=c;rw[<-f,bP d];exact a
theorem JU{s:List iZ}{x0:jZ}:∀(f i:Nat) {v:aT.xD},v.Ok s x0->(aT.search s f i v).Ok s x0
 |0,_,_,h=>h
 |f+1,i,v,h=>by
  simp only[aT.search];cases a:v.jb[i]? with
  |none=>exact h
  |some p=>exact JU f (i+1) (ND _ h a rfl λt b=>b)
theorem Sc(s:List iZ)(K:List T):(aT.qz s K).Ok s (aT.jV s K):=
 JU _ _ ⟨⟨_,rfl,rfl⟩,λi y h=>by
  have:=(bg.1 h).1;simp at this;exact .inl this,λa b=>by cases b⟩
theorem jZ.Fit.ok{s:List iZ}{x:jZ}(h:x.Fit s)(e:∀st∈s,st.2.length<100):x.Ok where
 aS q a:=by
  obtain⟨i,hi,rfl⟩:=bI a;have c:i<s.length:=(by rw[<-h.len];exact hi);have g:=h.gq i _ _ (aH hi) (aH c);have j:=e _ (aN c);refine⟨by omega,λy hy=>?_⟩;have d:=qF (h.b _ a) y hy;exact⟨d.1,T.iJ d.2⟩
 bH t f:=T.iJ (h.bH t f)
theorem Nv{s:List iZ}{x y:jZ}{t:oF}(h:aT.wD s x t=some y):t∈aT.jG s x:=by
 unfold aT.wD at h;cases a:aT.next s x t.dM with
 |none=>rw[a]at h;cases h
 |some m=>
  obtain⟨st,q,f,j,_⟩:=nX a;refine oW.2 ⟨t.dM,dU.2 (bg.1 f).1,?_⟩;unfold aT.turnsOf;rw[a]at h⊢;by_cases d:m.1=2
  ·simp only[aI d]at h⊢;split at h
   ·rename_i b;obtain⟨c,g,e⟩:=eU.1 b;have i:=cmp_eq _ _ (ax e);exact dB.2 ⟨c,g,by rw[i]⟩
   ·cases h
  ·simp only[aG d]at h⊢;split at h
   ·rename_i b;rw[aX,<-cmp_eq _ _ b]
   ·cases h
def aT.Yq{α:Type}(e:α->α->Bool):List α->List α->Bool
 |[],[]=>true
 |a::l,b::m=>e a b&&aT.Yq e l m
 |_,_=>false
theorem Kh{α:Type}{e:α->α->Bool}(h:∀a b,e a b=true->a=b):∀l m,aT.Yq e l m=true->l=m
 |[],[],_=>rfl
 |[],_::_,h'=>by cases h'
 |_::_,[],h'=>by cases h'
 |a::l,b::m,h'=>by
  obtain⟨c,d⟩:=aP.1 (show(e a b&&aT.Yq e l m)=true from h');rw[h a b c,Kh h l m d]
def aT.Zn(a b:T):Bool:=decide (T.cmp a b=0)
def aT.ZC(p q:pF):Bool:=decide (p.gq=q.gq)&&aT.Yq (λ(a b:Bd)=>decide (a.var=b.var)&&aT.Zn a.t b.t) p.b q.b
def aT.ZE(x y:jZ):Bool:=aT.Yq aT.ZC x.aS y.aS&&aT.Yq aT.Zn x.bH y.bH
theorem Tx{a b:T}(h:aT.Zn a b=true):a=b:=T.cmp_eq _ _ (ax h)
theorem XE(p q:pF)(h:aT.ZC p q=true):p=q:=by
 obtain⟨d,c⟩:=aP.1 h;have c:=Kh (λa b h=>by
  obtain⟨d,c⟩:=aP.1 h;obtain⟨v,t⟩:=a;obtain⟨e,f⟩:=b;obtain rfl:v=e:=ax d;obtain rfl:t=f:=Tx c;rfl) _ _ c
 obtain⟨k,b⟩:=p;obtain⟨k',b'⟩:=q;obtain rfl:k=k':=ax d;obtain rfl:b=b':=c;rfl
theorem XF{x y:jZ}(h:aT.ZE x y=true):x=y:=by
 obtain⟨a,b⟩:=aP.1 h;have a:=Kh XE _ _ a;have b:=Kh (λ_ _ h=>Tx h) _ _ b;obtain⟨s,k⟩:=x;obtain⟨c,k'⟩:=y;obtain rfl:s=c:=a;obtain rfl:k=k':=b;rfl
def aT.Cv(s:List iZ):List jZ:=(aT.qz s jO).jb.map aT.Lc.x
def aT.report(s:List iZ):Nat×Bool×List Nat:=((aT.qz s jO).jb.length,(aT.qz s jO).all,(aT.AP s (aT.qz s jO)).map List.length)
theorem RX:aT.report [xB]=(3,true,[2]):=by kernel_rfl
def aT.VC(s:List iZ)(V:List jZ):Bool:=V.all λx=>(List.range s.length).all λi=>match aT.next s x i with
 |none=>true
 |some m=>!decide (m.1=2)||(decide (x.bH.length<=64)&&decide ((aT.offers m.2 (((x.aS[i]?).map pF.b).getD []) x.bH).length<=4000)&&(aT.left m.2 (((x.aS[i]?).map pF.b).getD [])).all λv=>decide (aT.wid m.2 x.bH v ^ (T.vars m.2).length<=900000))
def aT.Gi(s:List iZ)(x:jZ):Prop:=∀(i:Nat) (m:Int×T) (q:pF),aT.next s x i=some m->m.1=2->x.aS[i]?=some q->aT.Yn m.2 q.b x.bH
theorem XG{s:List iZ}{V:List jZ}(h:aT.VC s V=true):∀x∈V,aT.Gi s x:=by
 intro x d i m q c e f;obtain⟨st,_,g,_,_⟩:=nX c;have a:=cz.1 (cz.1 h x d) i (dU.2 (bg.1 g).1);rw[c]at a;simp only[fH,bZ,mX,ai,bW,f,jh,iA,cz]at a;have b:=a.resolve_left (λh'=>h' e);exact⟨b.1.1,b.1.2,b.2⟩
theorem QP:aT.VC [xB] (aT.Cv [xB])=true:=by kernel_rfl
namespace aT
end aT
def VF(c:UInt8):Bool:=c != 58&&(c != 59&&c != 124)
theorem VK{c:UInt8}(h:low c=true):VF c=true:=by
 unfold low at h;unfold VF;simp only[ai,bW]at h;simp only[ai,jd,ne_eq];refine⟨?_,?_,?_⟩<;>(rintro rfl;revert h;decide)
theorem VA{c:UInt8}(h:Oo c=true):VF c=true:=by
 unfold Oo at h;unfold VF;simp only[ai,bW]at h;simp only[ai,jd,ne_eq];refine⟨?_,?_,?_⟩<;>(rintro rfl;revert h;decide)
theorem ML{s:ByteArray}(h:isName s=true):∀c∈s.data.toList,VF c=true:=by
 unfold isName at h;simp only[ai]at h;intro c a;obtain⟨i,hi,rfl⟩:=bI a;have:=cz.1 h.1 i (dU.2 hi);unfold zt at this;rw[show s.data.toList.getD i 0=s.data.toList[i] by rw[dC,aH hi];rfl]at this;simp only[fH,ai]at this;rcases this with g|⟨_,g⟩;·exact VK g
 ·exact VA g
theorem TB(k:Int):∀c∈ko k,VF c=true:=by
 unfold ko
 repeat' split
 all_goals decide
mutual
theorem NC:∀t:T,t.shape=true->∀c∈t.gL,VF c=true
 |.mk k s g,h,c,a=>by
  by_cases b:k=1\/k=2
  ·simp only[T.shape,aI b,ai]at h;simp only[gL]at a;by_cases d:k=1;·rw[aI d]at a;exact ML h.1 c a
   ·rw[aG d,aI (by omega)]at a;rcases bL.1 a with rfl|a;·decide
    ·exact ML h.1 c a
  ·simp only[T.shape,aG b,ai]at h;simp only[gL]at a;rw[aG (by omega),aG (by omega)]at a;have e:=Ny g h.2;by_cases f:k=3
   ·rw[aI f]at a;simp only[aU,aX]at a;rcases a with(rfl|a)|rfl;·decide
    ·exact e c a
    ·decide
   ·rw[aG f]at a;simp only[aU,aX]at a;rcases a with((a|rfl)|a)|rfl;·exact TB k c a
    ·decide
    ·exact e c a
    ·decide
theorem Ny:∀l:List T,T.dW l=true->∀c∈eX l,VF c=true
 |[],_,c,a=>by simp[eX]at a
 |t::r,h,c,a=>by
  simp only[T.dW,ai]at h;simp only[eX,aU]at a;rcases a with a|a;·exact NC t h.1 c a
  ·exact DW r h.2 c a
theorem DW:∀l:List T,T.dW l=true->∀c∈jf l,VF c=true
 |[],_,c,a=>by simp[jf]at a
 |t::r,h,c,a=>by
  simp only[T.dW,ai]at h;simp only[jf,aU,bL,dY,H8]at a;rcases a with((rfl|rfl)|a)|a;·decide
  ·decide
  ·exact NC t h.1 c a
  ·exact DW r h.2 c a
end
inductive Tk where
 |st (n:Nat)
 |bn (y:Bd)
 |sep
 |kt (t:T)
def Tk.body:Tk->List UInt8
 |.st n=>[UInt8.ofNat (97+n)]
 |.bn y=>y.var.data.toList++61::y.t.gL
 |.sep=>[]
 |.kt t=>t.gL
def Tk.fin:Tk->UInt8
 |.st _=>58
 |.bn _=>59
 |.sep=>124
 |.kt _=>124
def Tk.ok:Tk->Prop
 |.st n=>n<20
 |.bn y=>isName y.var=true/\y.t.fe=true
 |.sep=>True
 |.kt t=>t.fe=true
abbrev ZO:=(Nat×Nat)×List oF
def Zp(NM:List ByteArray)(t:T):Prop:=t.aC=1->t.aJ∈NM
structure Lot (NM:List ByteArray) (N:Nat) (G:List T) (x:jZ):Prop where
 len:G.length<=N
 eQ:∀t∈G,∀k∈t.ay,k∈G
 nm:∀t∈G,Zp NM t
 bH:∀t∈x.bH,t∈G
 vals:∀q∈x.aS,∀y∈q.b,y.t∈G
theorem Lot.ZG{NM:List ByteArray}{N:Nat}{G:List T}{x y:jZ}(h:Lot NM N G x)(a:∀t∈y.bH,t∈G)(c:∀q∈y.aS,∀z∈q.b,z.t∈G):Lot NM N G y:=⟨h.len,h.eQ,h.nm,a,c⟩
end
end Go.Proofs.YtaciciokmpbkkaaGreatDoor
