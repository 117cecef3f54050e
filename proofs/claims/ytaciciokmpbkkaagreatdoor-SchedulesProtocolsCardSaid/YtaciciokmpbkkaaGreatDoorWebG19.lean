import Derived.Test.YtaciciokmpbkkaaGreatDoorWebG18
set_option maxRecDepth 100000
set_option maxHeartbeats 16000000
namespace Go.Proofs.YtaciciokmpbkkaaGreatDoor
section
open T
theorem H7{α β:Type}{c:α->Bool}{f:α->List β}{B:Nat}:∀(P:List α),(∀p∈P,c p=false->f p=[])->(∀p∈P,(f p).length<=B)->(P.flatMap f).length<=(P.filter c).length*B
 |[],_,_=>by simp
 |p::r,h0,h=>by
  have d:=H7 r (λq b=>h0 q (aY _ b)) (λq b=>h q (aY _ b));rw[ma,aF];by_cases a:c p=true
  ·rw[List.filter_cons_of_pos a,bg,qU];have:=h p aau;omega
  ·rw[sH]at a;rw[List.filter_cons_of_neg (by rw[a];simp),h0 p aau a];simpa using d
theorem Hr{pat:T}{names:List ByteArray}{P:List T}{N:Nat}:∀(vs:List ByteArray) (b:List Bd),(∀v∈vs,(if aQ.oM names v=true then (P.filter λp=>decide (p.aA=1)).length else P.length)<=N)->(aQ.fills pat names P vs b).length<=N ^ vs.length
 |[],b,_=>by
  simp only[aQ.fills,fE,Nat.pow_zero];cases jP pat b<;>simp
 |v::r,b,h=>by
  simp only[aQ.fills];have a:=h v aau;have e:=λb=>Hr (pat:=pat) r b λu hu=>h u (aY _ hu);by_cases d:aQ.oM names v=true
  ·rw[aJ d]at a;refine aG (H7 (c:=λp=>decide (p.aA=1)) (B:=N ^ r.length) P (λp _ f=>by rw[aJ ⟨d,nL f⟩]) λp _=>?_) ?_
   ·split;·simp
    ·exact e _
   ·rw[bg,yo,Nat.mul_comm];exact Nat.mul_le_mul_left _ a
  ·rw[aH d]at a;refine aG (H7 (c:=λ_=>true) (B:=N ^ r.length) P (λp _ h=>by cases h) λp _=>?_) ?_
   ·split;·simp
    ·exact e _
   ·rw[List.filter_eq_self.2 (λ_ _=>rfl),bg,yo,Nat.mul_comm];exact Nat.mul_le_mul_left _ a
theorem Ro{pat:T}{b:List Bd}{K:List T}{vs names:List ByteArray}(h:aQ.XC pat b K)(a:∀v∈vs,v∈aQ.left pat b)(k:∀v,v∈names<->v∈aQ.zT pat)(l:vs.length<=(vars pat).length)(c:List Bd):
 (aQ.fills pat names (aQ.parts K) vs c).length<=900000:=by
 have m:∀v,(if aQ.oM names v=true then ((aQ.parts K).filter λp=>decide (p.aA=1)).length else (aQ.parts K).length)=aQ.wid pat K v:=λv=>by
  unfold aQ.wid;have e:aQ.oM names v=aQ.oM (aQ.zT pat) v:=(by rw[jK,kP,kP];exact k v);rw[e]
 have n:∀f:List ByteArray,(∀v∈f,v∈aQ.left pat b)->∃N,(∀v∈f,aQ.wid pat K v<=N)/\(N=0\/N ^ (vars pat).length<=900000):=by
  intro f;induction f with
  |nil=>intro _;exact⟨0,λv a=>(eX a).elim,Or.inl rfl⟩
  |cons u r o=>
   intro hu;obtain⟨N,i,d⟩:=o λv a=>hu v (aY _ a);rcases Nat.le_total (aQ.wid pat K u) N with g|g;·exact⟨N,λv a=>(bM.1 a).elim (λe=>by rw[e];exact g) (λa=>i v a),d⟩
   ·exact⟨aQ.wid pat K u,λv a=>(bM.1 a).elim (λe=>by rw[e];exact ax _) (λa=>aG (i v a) g),Or.inr (h.2.2 u (hu u aau))⟩
 obtain⟨N,i,d⟩:=n vs a;have j:=Hr (pat:=pat) (names:=names) (P:=aQ.parts K) (N:=N) vs c λv q=>(by rw[m];exact i v q);rcases eF N with h0|h0
 ·subst h0;cases vs with
  |nil=>simp at j;omega
  |cons v r=>rw[bg,yo,Nat.mul_zero]at j;omega
 ·rcases d with d|d;·omega
  ·exact aG j (aG (oG h0 l) d)
theorem BI{l m:List T}(h:l.Nodup)(h':∀x∈l,x∈m):l.length<=m.length:=by
 haveI:DecidableEq T:=Classical.typeDecidableEq T
 exact yc h h'
theorem EA{l:List T}(h:CY l):l.Nodup:=h.imp λ{a b} c e=>by
 subst e;exact Bu a c
theorem SQ{k:T}(h:k.ay=[]):vars k=if k.aA=2 then [k.aI] else []:=by
 obtain⟨b,s,a⟩:=k;have h':a=[]:=h;subst h';simp only[vars,jv,dK];rfl
theorem qJ:∀a:List T,(∀k∈a,k.ay=[])->(jv a).length<=a.length
 |[],_=>by simp[jv]
 |k::r,h=>by
  have c:=qJ r λx b=>h x (aY _ b);simp only[jv,aF,bg];have:(vars k).length<=1:=by
   rw[SQ (h k aau)];split<;>simp
  omega
def ats(x:jf):Nat:=(x.aO.map oD.fF).sum
theorem Jb:∀(l:List oD) (i:Nat) (f:oD->oD) (q:oD),l[i]?=some q->(∀r,(f r).fF=r.fF+1)->((l.modify i f).map oD.fF).sum=(l.map oD.fF).sum+1
 |[],_,_,_,h,_=>by simp at h
 |x::r,0,f,q,_,a=>by
  simp only[su,jH,Ce,a];omega
 |x::r,i+1,f,q,h,a=>by
  have b:=Jb r i f q aaD a;simp only[sj,jH,Ce,b];omega
theorem Ty{s:List iN}{x:jf}{m:Int×T}{t:mg}(a:aQ.Vz s x m t):ats (aQ.move x m t)=ats x+1:=by
 obtain⟨st,q,_,b,_⟩:=kS a.1;exact Jb x.aO t.df _ q b λr=>rfl
theorem Tx:∀(l:List oD) (s:List iN),l.length=s.length->(∀(i:Nat) (q:oD) (st:iN),l[i]?=some q->s[i]?=some st->q.fF<=st.2.length)->(l.map oD.fF).sum<=(s.map λx=>x.2.length).sum
 |[],[],_,_=>ax _
 |[],_::_,h,_=>by simp at h
 |_::_,[],h,_=>by simp at h
 |q::l,st::s,h,hi=>by
  have e:=Tx l s aaD λi a b c d=>hi (i+1) a b (by simpa using c) (by simpa using d);have h0:=hi 0 q st rfl rfl;simp only[jH,Ce];omega
theorem VS{s:List iN}{x:jf}(h:x.Fit s):ats x<=aQ.moves s:=Tx x.aO s h.len h.fF
namespace aQ
def MQ(i:Nat)(q:oD)(K:List T):List UInt8:=itoa i++58::(iT ⟨[q],[]⟩++iT ⟨[],K⟩)
end aQ
theorem F9(l:List oD)(K:List T):aQ.iT ⟨l,[]⟩++aQ.iT ⟨[],K⟩=aQ.iT ⟨l,K⟩:=by
 unfold aQ.iT;show(aQ.uP l++[])++([]++aQ.rV K)=aQ.uP l++aQ.rV K;simp
theorem O6:((List.range 100).all λn=>(aQ.itoa n).all λc=>c != 58)=true:=by kernel_rfl
theorem Ql{n:Nat}(h:n<100):∀c∈aQ.itoa n,c≠58:=λc a=>by
 have:=bQ.1 (bQ.1 O6 n (ed.2 h)) c a;simpa using this
theorem Ua{i j:Nat}{q p:oD}{K L:List T}(hi:i<100)(hj:j<100)(c:q.ok)(d:p.ok)(f:∀t∈K,t.eZ=true)(g:∀t∈L,t.eZ=true)(e:aQ.MQ i q K=aQ.MQ j p L):i=j/\q=p/\K=L:=by
 unfold aQ.MQ at e;rw[F9,F9]at e;obtain⟨k,l⟩:=KM (Ql hi) (Ql hj) e;have h:=SI (x:=⟨[q],K⟩) (y:=⟨[p],L⟩) ⟨λr a=>by rw[bD]at a;rw[a];exact c,f⟩ ⟨λr a=>by rw[bD]at a;rw[a];exact d,g⟩ l;injection h with b m;injection b with b _;exact⟨MN hi hj k,b,m⟩
def Tg(s:List iN)(k:List UInt8)(l:List T):Prop:=∃(i:Nat) (x:jf) (q:oD) (m:Int×T),x.Fit s/\x.aO[i]?=some q/\aQ.next s x i=some m/\m.1=2/\k=aQ.MQ i q x.bF/\l=aQ.mJ m.2 q.b x.bF
theorem Un{s:List iN}(a:∀st∈s,st.2.length<100)(t:s.length<100){x:jf}(c:x.Fit s){i:Nat}{q:oD}{m:Int×T}(d:x.aO[i]?=some q)(k:aQ.next s x i=some m){l:List T}(h:Tg s (aQ.MQ i q x.bF) l):l=aQ.mJ m.2 q.b x.bF:=by
 obtain⟨j,y,p,n,hy,f,o,_,r,rfl⟩:=h;have hi:=(aU.1 d).1;have hj:=(aU.1 f).1;have u:=c.len;have v:=hy.len;obtain⟨rfl,rfl,e⟩:=Ua aar aar ((c.ok a).aO q (dA d)) ((hy.ok a).aO p (dA f)) (c.ok a).bF (hy.ok a).bF r;have:m=n:=by
  have g:aQ.next s x i=aQ.next s y i:=by unfold aQ.next;rw[d,f]
  rw[k,o]at g;injection g
 subst this;rw[e]
theorem Uo{s:List iN}{x:jf}(a:x.Fit s){i:Nat}{q:oD}{m:Int×T}(c:x.aO[i]?=some q)(d:aQ.next s x i=some m)(e:m.1=2):Tg s (aQ.MQ i q x.bF) (aQ.mJ m.2 q.b x.bF):=⟨i,x,q,m,a,c,d,e,rfl,rfl⟩
def way(jc:List aQ.LU)(i:Nat):List mg:=(aQ.back jc i i).reverse
theorem Q4(s:List iN)(K:List T):ats (aQ.iJ s K)=0:=by
 unfold ats aQ.iJ;rw[qO];induction s with
 |nil=>rfl
 |cons x r a=>simpa using a
theorem NJ{b:List Bd}(h:jO b=true):T.QV 800 b:=⟨LP.of h,λy hy=>by
 have a:=T.ik (qI h y hy).2;have c:=rR (y.t.bE+1) y.t (dF _) (mr a);have d:=ak (aN.1 a).1;omega⟩
theorem jD{t:T}(a:t.eZ=true):t.bE<=800:=by
 have b:=rR (t.bE+1) t (dF _) (mr a);have c:=ak (aN.1 a).1;omega
theorem za{t:T}(a:t.eZ=true):t.gK.length<=2400:=by
 have:=Ba t;have:=jD a;omega
def Xi(x:jf):Prop:=∀q∈x.aO,q.b.length<=40*q.fF
theorem SS(s:List iN)(K:List T):Xi (aQ.iJ s K):=λq a=>by
 simp only[aQ.iJ,ek]at a;obtain⟨_,_,rfl⟩:=a;exact ax _
theorem Uf{p t:T}{b x:List Bd}(h:oz p t b=some x):x.length<=b.length+40:=by
 obtain⟨a,c,d,e⟩:=J8 h;have:=(T.BH (M:=800) p t b x (NJ d) (jD (T.ik c)) e).2;have:=ak (aN.1 a).1;omega
theorem Vw{x:jf}(h:Xi x)(m:Int×T)(t:mg):Xi (aQ.move x m t):=λp f=>by
 obtain⟨i,hi,rfl⟩:=bL f;have a:(aQ.move x m t).aO[i]?=some (aQ.move x m t).aO[i]:=az hi;generalize(aQ.move x m t).aO[i]=p at a;simp only[aQ.move,aQ.Zq,tZ]at a;cases c:x.aO[i]? with
 |none=>rw[c]at a;cases a
 |some q=>
  rw[c]at a;have g:=h q (dA c);by_cases e:t.df=i
  ·have d:(⟨q.fF+1,if m.1=2 then (oz m.2 t.bC q.b).getD [] else q.b⟩:oD)=p:=(by simpa[e]using a);rw[<-d];show(if m.1=2 then (oz m.2 t.bC q.b).getD [] else q.b).length<=40*(q.fF+1);split
   ·cases j:oz m.2 t.bC q.b with
    |none=>simp
    |some y=>
     have:=Uf j;show y.length<=_;omega
   ·omega
  ·have d:q=p:=(by simpa[e]using a);rw[<-d];exact g
theorem ND{s:List iN}:∀(l:List mg) {x y:jf},Xi x->aQ.qG s x l=some y->Xi y
 |[],x,y,a,h=>by
  obtain rfl:x=y:=aa0;exact a
 |t::r,x,y,a,h=>by
  simp only[aQ.qG]at h;cases b:aQ.uq s x t with
  |none=>rw[b]at h;cases h
  |some z=>
   rw[b]at h;obtain⟨m,c,rfl⟩:=AU b;exact ND r (Vw a m t) h
theorem Dw{α β:Type}{f:α->List β}{B:Nat}:∀(P:List α),(∀p∈P,(f p).length<=B)->(P.flatMap f).length<=P.length*B
 |[],_=>by simp
 |p::r,h=>by
  have b:=Dw r λq a=>h q (aY _ a);rw[ma,aF,bg,qU];have:=h p aau;omega
theorem RD:((List.range 100).all λn=>decide ((aQ.itoa n).length<=2))=true:=by kernel_rfl
theorem Ic{n:Nat}(h:n<100):(aQ.itoa n).length<=2:=ak (bQ.1 RD n (ed.2 h))
theorem Ni{s:ByteArray}(h:isName s=true):s.data.toList.length<=16:=by
 unfold isName at h;simp only[ah,bO]at h;rw[T.mq];omega
theorem SB{b:List Bd}(h:jO b=true):(aQ.pK b).length<=b.length*2418:=Dw b λy hy=>by
 have a:=qI h y hy;have c:=Ni a.1;have d:=za (T.ik a.2);simp only[aF,bg,fE];omega
theorem SG{s:List iN}{x:jf}(a:x.Fit s)(e:Xi x)(f:∀st∈s,st.2.length<=16):∀q∈x.aO,(aQ.itoa q.fF++10::aQ.pK q.b).length<=1600000:=λq c=>by
 obtain⟨i,hi,rfl⟩:=bL c;have d:i<s.length:=(by rw[<-a.len];exact hi);have g:=a.fF i _ _ (az hi) (az d);have h:=f _ (aP d);have j:=e _ c;have k:=SB (a.b _ c);have l:=Ic (n:=x.aO[i].fF) aar;have m:x.aO[i].b.length*2418<=640*2418:=iq _ aar;simp only[aF,bg];omega
theorem SK{s:List iN}{x:jf}(a:x.Fit s)(b:Xi x)(c:∀st∈s,st.2.length<=16)(f:s.length<=16)(d:x.bF.length<=64):(aQ.iT x).length<=26000000:=by
 unfold aQ.iT;have g:(aQ.uP x.aO).length<=x.aO.length*1600000:=Dw x.aO (SG a b c);have h:(aQ.rV x.bF).length<=x.bF.length*2402:=Dw x.bF λt e=>by
  have:=za (T.ik (a.bF t e));simp only[aF,bg,fE];omega
 have i:=a.len;have j:x.aO.length*1600000<=16*1600000:=iq _ aar;have k:x.bF.length*2402<=64*2402:=iq _ d;rw[aF];omega
theorem Sm{s:List iN}{x:jf}{l:List mg}{t:mg}:aQ.qG s x (l++[t])=(aQ.qG s x l).bind λy=>aQ.uq s y t:=by
 rw[FK];congr 1;funext y;simp only[aQ.qG];cases aQ.uq s y t<;>rfl
def zC:T->List T->List T
 |_,[]=>[]
 |p,y::r=>if T.cmp y p=0 then zC y r else y::zC y r
def dd:List T->List T
 |[]=>[]
 |x::r=>x::zC x r
def ZX(l:List T):Prop:=l.Pairwise λa b=>¬T.cmp b a<0
theorem Cz:∀(l:List T) (p:T),ZX (p::l)->CY (p::zC p l)/\∀x,x∈p::zC p l<->x∈p::l
 |[],p,_=>⟨by simp[zC,CY],λx=>by simp[zC]⟩
 |y::r,p,h=>by
  obtain⟨j,c⟩:=fe.1 h;obtain⟨k,m⟩:=fe.1 c;simp only[zC];by_cases e:T.cmp y p=0
  ·rw[aJ e];obtain rfl:=cmp_eq _ _ e;obtain⟨a,d⟩:=Cz r y c;exact⟨a,λx=>(d x).t aau⟩
  ·rw[aH e];obtain⟨a,d⟩:=Cz r y c;have i:T.cmp p y= -1:=by
    have g:=j y aau;rcases T.mY y p with b|b|b;·omega
    ·exact absurd b e
    ·exact TI.1 b
   refine⟨fe.2 ⟨λz f=>?_,a⟩,λx=>?_⟩
   ·rcases bM.1 f with rfl|f;·exact i
    ·exact T.sV _ _ _ i ((fe.1 a).1 z f)
   ·rw[bM,d x,bM (l:=y::r)]
theorem XP{l m:List T}(h:ZX l)(a:∀x,x∈l<->x∈m):dd l=aQ.Gr m:=by
 cases l with
 |nil=>exact Vg List.Pairwise.nil a
 |cons x r=>
  obtain⟨b,c⟩:=Cz r x h;exact Vg b λy=>(c y).t (a y)
theorem EJ:∀(r:List T) (p:T) (k:Nat),k<=r.length->(∀i (_:i<k) (h':i<r.length),¬T.cmp r[i] ((p::r)[i]' aaV)=0)->zC p r=r.take k++zC ((p::r).getD k p) (r.drop k)
 |r,p,0,_,_=>by simp
 |[],p,k+1,h,_=>by simp at h
 |y::r,p,k+1,h,hi=>by
  have h0:¬T.cmp y p=0:=hi 0 aar aau;have a:=EJ r y k aaD λi d b=>by
   have:=hi (i+1) aar aa9;simpa using this
  simp only[zC,aH h0,gJ,uJ,iP];rw[a];have e:(p::y::r).getD (k+1) p=(y::r).getD k y:=by
   rw[List.getD_cons_succ];have c:k<(y::r).length:=(by simp only[bg]at h⊢;omega);simp only[dn,az c,gQ]
  rw[e]
end
section
open Go.RowKit T
attribute [local go_sem ↓] Go.wp_at_zero Go.wp_at_succ
theorem fZ.Yv{base:Nat}{w:World}{v:Value}{L:List T}(h:fZ oC (dP base) base w v L):bK w base v L:=by
 obtain⟨dE,a,f⟩:=h;refine bK.of f ⟨a.MB,λi hi=>?_⟩;have d:i<dE.length:=(by rw[a.1];exact hi);obtain⟨A,c,e,g⟩:=a.2 i d hi;have b:=λr (j:r<3)=>a.flat (E:=oC) d j;rw[e]at b;exact⟨_,_,_,b 0 aar,b 1 aar,b 2 aar,g⟩
theorem JV(u0 u1 u2:Value):∀(dE:List (List Value)),(∀cs∈dE,cs.length=3)->∀(k:Nat),k<dE.length->((dE.flatten.set (k*3) u0).set (k*3+1) u1).set (k*3+2) u2=(dE.set k [u0,u1,u2]).flatten
 |[],_,k,h=>absurd h (ji _)
 |a::r,b,0,_=>by
  match a,b a (by simp)with
  |[x,y,z],_=>simp
 |a::r,b,k+1,h=>by
  have c:=JV u0 u1 u2 r (λcs d=>b cs (aY _ d)) k aaD
  match a,b a (by simp)with
  |[x,y,z],_=>
   rw[gu,dQ,gu,<-c,show(k+1)*3=k*3+1+1+1 by omega];rfl
structure ym (w:World) (base b cap n:Nat) (dE:List (List Value)) (wr:World):Prop where
 own:wr.ownsRow base 29 3 (.slice (some ⟨b,0,none⟩) n cap) n dE.flatten
 len:dE.length=n
 three:∀cs∈dE,cs.length=3
 grow:w.grownBy wr (some b)
theorem ym.ag{w:World}{base b cap n:Nat}{dE:List (List Value)}{wr w':World}(h:ym w base b cap n dE wr)(hb:Below wr.heap.size wr w'):ym w base b cap n dE w':=
 ⟨dG h.own hb,h.len,h.three,⟨hb.os.t h.grow.os,hb.tape.t h.grow.tape,hb.output.t h.grow.output,aG h.grow.size hb.size,λk a c=>(hb.block k (dw a h.grow.size)).t (h.grow.block k a c)⟩⟩
theorem ym.drew{w:World}{base b cap n:Nat}{dE:List (List Value)}{wr:World}(h:ym w base b cap n dE wr):ym w base b cap n dE wr.drew:=h.ag (aC _ _).drew
theorem ym.set{w:World}{base b cap n:Nat}{dE:List (List Value)}{wr:World}(h:ym w base b cap n dE wr){k:Nat}(c:k<n)(u0 u1 u2:Value):
 ym w base b cap n (dE.set k [u0,u1,u2]) (((wr.setCell ⟨b,k*3,none⟩ u0).setCell ⟨b,k*3+1,none⟩ u1).setCell ⟨b,k*3+2,none⟩ u2):=by
 obtain⟨j,a⟩:=h.own.stored (k*3) u0;obtain⟨l,d⟩:=j.stored (k*3+1) u1;obtain⟨i,b3⟩:=l.stored (k*3+2) u2;rw[JV u0 u1 u2 dE h.three k (by rw[h.len];exact c)]at i;refine⟨i,by rw[kT];exact h.len,λcs f=>?_,?_⟩
 ·rcases List.mem_or_eq_of_mem_set f with f|rfl;·exact h.three cs f
  ·rfl
 ·have g:=h.grow;exact⟨b3.os.t (d.os.t (a.os.t g.os)),b3.tape.t (d.tape.t (a.tape.t g.tape)),b3.output.t (d.output.t (a.output.t g.output)),aG g.size (aG a.size (aG d.size b3.size)),λk c e=>
   (b3.block k (dw c (aG g.size (aG a.size d.size))) e).t ((d.block k (dw c (aG g.size a.size)) e).t ((a.block k (dw c g.size) e).t (g.block k c e)))⟩
theorem ym.cells{w:World}{base b cap n:Nat}{dE:List (List Value)}{wr:World}(h:ym w base b cap n dE wr){i:Nat}(hi:i<n):
 (∀r,r<3->wr.cell? ⟨b,i*3+r,none⟩=(dE[i]'(by rw[h.len];exact hi))[r]?)/\(∀r,wr.frozen? ⟨b,i*3+r,none⟩=false):=by
 refine⟨λr a=>?_,λr=>h.own.frozenAt _⟩;rw[h.own.cellAt _ aaF];exact Bv dE h.three i (by rw[h.len];exact hi) r a
theorem ym.term{w:World}{base b cap n:Nat}{dE css0:List (List Value)}{L:List T}{wr:World}(h:ym w base b cap n dE wr)(d:oC.all (off (dP base) (some b)) w css0 L){i:Nat}(hi:i<n)(f:i<L.length)(g:dE[i]?=css0[i]?):
 ∃A c,wr.cell? ⟨b,i*3,none⟩=some (.int .i64 L[i].aA)/\wr.cell? ⟨b,i*3+1,none⟩=some (.string L[i].aI)/\wr.cell? ⟨b,i*3+2,none⟩=some (.slice A L[i].ay.length c)/\aS wr (.agg #[.int .i64 L[i].aA,.string L[i].aI,.slice A L[i].ay.length c]) L[i]/\
  oC.fF (off (dP base) (some b)) w [.int .i64 L[i].aA,.string L[i].aI,.slice A L[i].ay.length c] L[i]:=by
 have j:i<css0.length:=(by rw[d.1];exact f);have l:i<dE.length:=(by rw[h.len];exact hi);have m:dE[i]=css0[i]:=(by rw[az l,az j]at g;exact aB g);obtain⟨A,c,e,k⟩:=d.2 i j f;have a:=(h.cells hi).1;rw[m,e]at a;refine⟨A,c,a 0 aar,a 1 aar,a 2 aar,?_,⟨A,c,rfl,k⟩⟩;exact(k.aR (S':=λ_=>true) λx o p=>⟨rfl,h.grow.block x p (λe=>(dL.1 o).2 e.symm)⟩).at
theorem Gp{P:Program}(w:World)(t e:TypeId)(z z0 f z2:Value)(n:P.underlying t=some (.slice e))(p:∀w,(zeroValue e).run P w=.ok z w)(h:z.cells=#[z0,f,z2])(q:∀u∈[z0,f,z2],u.oneCell'=true)(b o c m:Nat)(x:0<m)
 (r:∀j,j<m*3->(w.cell? ⟨b,o+j,none⟩).isSome=true) (s:∀j,j<m*3->w.frozen? ⟨b,o+j,none⟩=false):
 ∃a:List Value,∀ty,(Builtin.clear_ #[t] ty #[.slice (some ⟨b,o,none⟩) m c]).run P w=.ok (.tuple #[]) (w.setCells b o a):=by
 obtain⟨a,d⟩:∃a,a=(Builtin.zeroCells z.cells m).toList:=⟨_,rfl⟩;have y:a.length=m*3:=(by rw[d,h];simp[Builtin.zeroCells]);have v:∀u∈a,u.oneCell'=true:=λu hu=>by
  rw[d,h]at hu;simp only[Builtin.zeroCells,Array.toList_map,ek]at hu;obtain⟨i,_,rfl⟩:=hu;have hi:i % 3<3:=Nat.mod_lt _ aat;rcases(show i % 3=0\/i % 3=1\/i % 3=2 by omega)with g|g|g<;>simp[g]<;>exact q _ aau
 have k:=run_storeCells_cells (P:=P) b o a 0 w (λj hj=>by simpa using r j aar) (λj hj=>s j aar) v;simp only[fC]at k;refine⟨a,λty=>?_⟩;obtain⟨l,rfl⟩:∃l,m=l+1:=⟨m-1,aar⟩;simp[Builtin.clear_,run_underlying n,p,<-d,k]
theorem UM{base b cap k:Nat}{e:TypeId}{xs:List Value}(a:List Value):∀(o:Nat) {w:World},w.ownsRow base e 3 (.slice (some ⟨b,0,none⟩) k cap) k xs->k*3<=o->(w.setCells b o a).ownsRow base e 3 (.slice (some ⟨b,0,none⟩) k cap) k xs:=by
 induction a with
 |nil=>intro o w h _;exact h
 |cons z r d=>
  intro o w h f;have c:=(h.stored o z).1;rw[List.set_eq_of_length_le (by rw[h.1];exact f)]at c;exact d (o+1) c aar
theorem H9{b:Nat}{row:Option Nat}{a:World}(c:row=some b):∀(vs:List Value) (o:Nat) {w:World},a.grownBy w row->a.grownBy (w.setCells b o vs) row
 |[],_,_,h=>h
 |v::r,o,w,h=>H9 c r (o+1) (w:=w.setCell ⟨b,o,none⟩ v) ⟨h.os,h.tape,h.output,by simpa[World.setCell]using h.size,λk f d=>(aL w _ v k (by subst c;intro e;exact d abf)).t (h.block k f d)⟩
theorem Nw(a b:T)(j k:Value)(w:World)(g:aS w j a)(hb:aS w k b)(l:a.bE<=1048576)(m:b.bE<=1048576):
 Calls Tryz.prog 82 #[j,k] w λe w'=>e=.returned (.bool (decide (T.cmp a b=0)))/\Below w.heap.size w w':=by
 obtain⟨A,c,rfl⟩:=bI.view g.uM;obtain⟨B,d,rfl⟩:=bI.view hb.uM;obtain⟨h,i,f,n⟩:=oq w (.int .i64 a.aA) (.string a.aI) (.slice A a.ay.length c) (.int .i64 b.aA) (.string b.aI) (.slice B b.ay.length d);have o:=aa (λW v x=>Nl (a.bE+1) a b (.agg #[.int .i64 a.aA,.string a.aI,.slice A a.ay.length c]) (.agg #[.int .i64 b.aA,.string b.aI,.slice B b.ay.length d]) W aar v x l m);obtain⟨q,p⟩:=aay (T.cmp a b);rw[p]at o⊢;obtain⟨r,s⟩:=aab (g.ag f) (hb.ag f);clear g hb l m p;go_enter Tryz.func82,Tryz.ntmps82;go_upto_region 1 with fail;generalize(w.alloc (.cells #[.int .i64 a.aA,.string a.aI,.slice A a.ay.length c] 29)).alloc (.cells #[.int .i64 b.aA,.string b.aI,.slice B b.ay.length d] 29)=y at h i f n r s⊢;obtain⟨x0,z,C⟩:=h.cells;obtain⟨D,E,F⟩:=i.cells;have t:=aa f;clear h i f n;go_wp2_with fail;refine(o.o y r.o s.o).m ?_;rintro e H ⟨rfl,u⟩;have G:=aa (t.o.t (u.m t.o.size));clear u x0 z C D E F;go_wp2_with fail;go_ret;exact⟨by first|rfl|simp,G.o⟩
theorem H8:∀(dE:List (List Value)),(∀cs∈dE,cs.length=3)->∀k,dE.flatten.take (k*3)=(dE.take k).flatten
 |[],_,k=>by simp
 |a::r,b,0=>by simp
 |a::r,b,k+1=>by
  have c:=b a aau;rw[gu,gJ,gu,<-H8 r (λcs d=>b cs (aY _ d)) k,List.take_append,c,bG aar,show(k+1)*3-3=k*3 by omega]
theorem XO{L:List T}(h:∀i,∀(h:i+1<L.length),¬T.cmp L[i+1] L[i]=0):dd L=L:=by
 cases L with
 |nil=>rfl
 |cons x r=>
  have a:=EJ r x r.length (ax _) λi a b=>by
   have:=h i aa9;simpa using this
  show x::zC x r=x::r;rw[a,lD,List.drop_length,zC,dK]
structure xJ (S:Nat->Bool) (w:World) (L:List T) (css0 dE:List (List Value)) (M:List T) (p kk:Nat):Prop where
 RU:M.length=kk
 le:kk<=p
 pos:1<=kk
 high:∀i,p<=i->dE[i]?=css0[i]?
 low:oC.all S w (dE.take kk) M
 go:∀(h:p<L.length),M++zC L[p] (L.drop (p+1))=dd L
theorem xJ.start{S:Nat->Bool}{w:World}{L:List T}{css0:List (List Value)}(c:oC.all S w css0 L){k:Nat}(d:k+1<L.length)(g:∀i,i+1<k+1->∀(h:i+1<L.length),¬T.cmp L[i+1] L[i]=0)(e:T.cmp L[k+1] L[k]=0):xJ S w L css0 css0 (L.take (k+1)) (k+1) (k+1) where
 RU:=by rw[aX];omega
 le:=ax _
 pos:=by omega
 high:=λ_ _=>rfl
 low:=c.sub id (by rw[aX,aX,c.1]) λi a b=>by
  rw[aX]at a b;exact⟨by show i<css0.length;omega,by show i<L.length;omega,nX,nX⟩
 go:=λh=>by
  cases L with
  |nil=>simp at d
  |cons x r=>
   simp only[bg]at d h;have f:=EJ r x k aar λi f m=>by
    have:=g i aar aaV;simpa using this
   have j:k<r.length:=aar;have l:(x::r).getD k x=(x::r)[k]'(by simp;omega):=by
    rw[dn,az aaV];rfl
   simp only[gJ,uJ,fJ,dd,iP]at e⊢;rw[f,l,dN j,zC,aJ e]
theorem xJ.skip{S:Nat->Bool}{w:World}{L:List T}{css0 dE:List (List Value)}{M:List T}{p kk:Nat}(h:xJ S w L css0 dE M p kk)(a:p+1<L.length)(b:T.cmp L[p+1] L[p]=0):xJ S w L css0 dE M (p+1) kk where
 RU:=h.RU
 le:=nZ h.le
 pos:=h.pos
 high:=λi hi=>h.high i aar
 low:=h.low
 go:=λ_=>by
  rw[<-h.go aar,dN a,zC,aJ b]
theorem xJ.take{S:Nat->Bool}{w:World}{L:List T}{css0 dE:List (List Value)}{M:List T}{p kk:Nat}(h:xJ S w L css0 dE M p kk)(a:p+1<L.length)(b:¬T.cmp L[p+1] L[p]=0)(d:dE.length=L.length){cs:List Value}(c:oC.fF S w cs L[p+1]):xJ S w L css0 (dE.set kk cs) (M++[L[p+1]]) (p+1) (kk+1) where
 RU:=by rw[aF,h.RU];rfl
 le:=Nat.succ_le_succ h.le
 pos:=by omega
 high:=λi hi=>by
  rw[List.getElem?_set_ne (aaz h.le)];exact h.high i aar
 low:=by
  have:=h.le;rw[List.take_set,aZ (show kk<dE.length by omega),lM _ _ aaR,aX,kg (show kk<=dE.length by omega),qR];exact h.low.push c
 go:=λ_=>by
  rw[<-h.go aar,dN a,zC,aH b];simp
theorem xJ.done{S:Nat->Bool}{w:World}{L:List T}{css0 dE:List (List Value)}{M:List T}{p kk:Nat}(h:xJ S w L css0 dE M p kk)(a:p+1=L.length):M=dd L:=by
 rw[<-h.go aar,ll aar,zC,dK]
theorem ym.done{w:World}{base b cap n:Nat}{dE css0:List (List Value)}{L M:List T}{wr:World}{p kk:Nat}(h:ym w base b cap n dE wr)(hi:xJ (off (dP base) (some b)) w L css0 dE M p kk)(o:L.length=n)(q:p+1=n)(a:List Value)(r:base<=b)(l:base<=w.heap.size):
 kk=(dd L).length/\bK (wr.setCells b (kk*3) a) base (.slice (some ⟨b,0,none⟩) kk cap) (dd L)/\Below base w (wr.setCells b (kk*3) a)/\w.grownBy (wr.setCells b (kk*3) a) (some b):=by
 have hM:=hi.done aar;have c:=hi.RU;rw[hM]at c;have d:=H9 rfl a (kk*3) h.grow;refine⟨c.symm,fZ.Yv ⟨dE.take kk,?_,?_⟩,(aC base w).grown d l (λk f=>by injection f with f;omega),d⟩
 ·have:=hi.low;rw[hM]at this;exact this.aR λx g m=>⟨g,d.block x m (λe=>(dL.1 g).2 e.symm)⟩
 ·have i:=UM a (kk*3) (Nz h.own (j:=kk) (aaz hi.le)) (ax _);rw[H8 dE h.three]at i;rw[c];exact i
theorem ym.start{w:World}{base b cap:Nat}{css0:List (List Value)}{L:List T}(a:oC.all (off (dP base) (some b)) w css0 L)(c:w.ownsRow base 29 3 (.slice (some ⟨b,0,none⟩) L.length cap) L.length css0.flatten):ym w base b cap L.length css0 w:=
 ⟨c,a.1,a.len,⟨rfl,rfl,rfl,ax _,λ_ _ _=>rfl⟩⟩
theorem UC{base cap:Nat}{A:Option Addr}{L:List T}(w:World)(h:bK w base (.slice A L.length cap) L)(hb:∀t∈L,t.bE<=1048576)(hl:L.length<=1048576)(ah:base<=w.heap.size):
 Calls Tryz.prog 81 #[.slice A L.length cap,.func (.func 82) #[] #[]] w λe w'=>e=.returned (.slice A (dd L).length cap)/\bK w' base (.slice A (dd L).length cap) (dd L)/\Below base w w'/\w.grownBy w' (Value.slice A L.length cap).ownBlock:=by
 by_cases r:L.length<2
 ·have e:dd L=L:=by
   match L,r with
   |[],_=>rfl
   |[x],_=>rfl
  rw[e];obtain⟨H,aG⟩:=aab h ah;obtain⟨n,F⟩:=aay L.length;have f:=aa F;rw[F]at r⊢;have hi:(n:Int)<2:=aar;clear h hb hl ah e F;go_enter Tryz.func81,Tryz.ntmps81;go_wp2_with fail;go_ret;refine⟨rfl,?_,aC _ _,rfl,rfl,rfl,ax _,λ_ _ _=>rfl⟩;have:=H.o;rw[f.o]at this;exact this
 ·have H0:=aa h;obtain⟨css0,av,aH⟩:=h.Sd;obtain⟨b,bR,e,_⟩:=aH.form aar;injection e with e1 e2 e3;subst e1;subst e3;have aR:=h.block b rfl;obtain⟨_,_,e4,aY,aZ⟩:=h.shape;injection e4 with e5 e6 e7;subst e5;subst e7;clear e6 e2;change oC.all (off (dP base) (some b)) w css0 L at av;obtain⟨aB,Z,bf,HB,aG⟩:=aae (ym.start av aH) av aR hb ah;obtain⟨n,F⟩:=aay L.length;have f:=aa F;obtain⟨R,hR⟩:=aay (dd L);have HR:=aa hR;rw[F]at r aY hl aB⊢;rw[hR];have bS:2<=n:=aar;unfold maxLen at aZ;have bT:¬(n:Int)<2:=aar;clear h hb ah F hR av aH aR r;go_enter Tryz.func81,Tryz.ntmps81;go_wp2_with fail;go_loopw [5] (λG wr=>∃k:Nat,k+1<=n/\G=.int .i64 ((k+1:Nat):Int)/\(∀i,i+1<k+1->∀(h:i+1<L.length),¬T.cmp L[i+1] L[i]=0)/\Below w.heap.size w wr) (λG _=>n-(intOf G).toNat);case atStart=>exact⟨0,aar,rfl,λi hi=>aar,aC _ _⟩
  case round=>
   obtain⟨k,hk,rfl,ae,Y⟩:=hrel;obtain⟨wo,rfl⟩:∃wo:World,wo=wr:=⟨_,rfl⟩;by_cases aJ:k+1<n
   ·have aK:k+1<L.length:=(by rw[f.o];exact aJ);obtain⟨A1,c1,x0,s,z,I,bg⟩:=(aB.o.ag Y).term Z.o (i:=k+1) aJ aK rfl;obtain⟨A2,c2,B,C,D,J,bi⟩:=(aB.o.ag Y).term Z.o (i:=k) aar aar rfl;clear bg bi;have N:=HB.o _ (aP aK);have O:=HB.o _ (aP (show k<L.length by omega));have Q:=xJ.start Z.o aK ae;have aL:=λ(h:¬T.cmp L[k+1] L[k]=0)=>show ∀i,i+1<k+1+1->∀(h:i+1<L.length),¬T.cmp L[i+1] L[i]=0 from λi hi h'=>by
     rcases bX (i+1) (k+1)with g|g;·exact ae i g h'
     ·obtain rfl:i=k:=aar;exact h
    obtain⟨x,U⟩:=aay (L[k+1]);obtain⟨y,hy⟩:=aay (L[k]' aaF);rw[U]at x0 s z I N;rw[hy]at B C D J O;rw[U,hy]at Q aL;have V:=aa (λW h1 r=>Nw x y (.agg #[.int .i64 x.aA,.string x.aI,.slice A1 x.ay.length c1]) (.agg #[.int .i64 y.aA,.string y.aI,.slice A2 y.ay.length c2]) W h1 r N O);obtain⟨q,X⟩:=aay (decide (T.cmp x y=0));rw[X]at V;obtain⟨HX,HY,aM,bn,HQ,l,aS⟩:=aag I J Q aL X Y aJ;have bq:(0:Int)<=(k:Int):=aar;have bu:(0:Int)<=(k:Int)+1:=aar;have bv:IntKind.i64.wrap (k:Int)=(k:Int):=iL _ aar;have bz:(k:Int)<(n:Int):=aar;have bA:(k:Int)+1<(n:Int):=aar;clear I J N O Q aL U hy ae Y X;go_upto_region 6 with fail;refine dm (S:=(λd=>d.cell? ⟨b,(k+1)*3,none⟩=some (.int .i64 x.aA)/\d.cell? ⟨b,(k+1)*3+1,none⟩=some (.string x.aI)/\d.cell? ⟨b,(k+1)*3+2,none⟩=some (.slice A1 x.ay.length c1)/\d.cell? ⟨b,k*3,none⟩=some (.int .i64 y.aA)/\d.cell? ⟨b,k*3+1,none⟩=some (.string y.aI)/\d.cell? ⟨b,k*3+2,none⟩=some (.slice A2 y.ay.length c2)/\Below wo.heap.size wo d)) aas (show _/\_/\_/\_/\_/\_/\_ from⟨x0,s,z,B,C,D,(aC _ wo).drew⟩) (λhHeld=>?_);refine dz 0 _ ?_;refine dz 1 _ ?_;refine dz 2 _ ?_;refine dz 3 _ ?_;refine dz 4 _ ?_;refine dz 5 _ ?_;refine dz 6 _ ?_;refine dz 7 _ ?_;refine dz 8 _ ?_;refine dz 9 _ ?_;(refine yR 10 λK hK=>?_;go_simp;go_at_call 82;refine(V.o _ (HX.o.ag hHeld.2.2.2.2.2.2) (HY.o.ag hHeld.2.2.2.2.2.2)).m ?_;rintro e wz ⟨rfl,aN⟩;refine mZ hK (zo hHeld aN) λhHeld=>?_;clear hK K);refine fB aas ?_ _;have aT:=aa (l.o.t (hHeld.2.2.2.2.2.2.m l.o.size));clear hHeld x0 s z B C D V;cases q with
    |false=>
     go_wp2_with fail;go_roundw;case rel=>exact⟨k+1,aaz aS.o,aaw,bn.o (nL HQ.o),aT.o⟩
     case measure=>exact aax aS.o
    |true=>
     obtain⟨bB,bC⟩:=aab (aM.o (ak HQ.o)) (aB.o.ag aT.o);obtain⟨m,hm⟩:=aay (n-(k+1));go_wp2_with fail;obtain⟨o,ho⟩:=aay ((k+1)*3);obtain⟨cp,aU⟩:=aay (cap-(k+1));rw[ho,aU];obtain⟨HO,HM⟩:=aab ho hm;have bD:1<=m:=aar;have bU:m<=1048576:=aar;clear ho aU hm bq bu bv bz bA;go_loopw [5,7] (λkv G wr=>∃(a i:Nat) (dE:List (List Value)) (M:List T),kv=.int .i64 (a:Int)/\G=.int .i64 ((i+1:Nat):Int)/\i+1<=m/\ym w base b cap n dE wr/\xJ (off (dP base) (some b)) w L css0 dE M (k+1+i) a) (λ_ G _=>m-(intOf G).toNat);case atStart=>exact⟨k+1,0,css0,_,aau,rfl,bD,bC.o,bB.o⟩
     case round=>
      obtain⟨a,i,dE,M,rfl,rfl,bV,p,E⟩:=hrel;have aV:=E.le;have bF:a<n:=(aaz HM.o);have bW:a<=n:=aar;by_cases bG:i+1<m
      ·have aD:k+1+i+1<L.length:=(aaA HM.o f.o);obtain⟨A1,c1,x0,s,z,I,aW⟩:=p.term Z.o (i:=k+1+i+1) (aaz f.o) aD (E.high _ aar);obtain⟨A2,c2,B,C,D,J,bH⟩:=p.term Z.o (i:=k+1+i) (aaz f.o) aar (E.high _ aar);clear bH;have N:=HB.o _ (aP aD);have O:=HB.o _ (aP (show k+1+i<L.length by omega));have Q:=E.skip aD;have aO:=λh=>E.take aD h (by rw[p.len,f.o]) aW;obtain⟨x,U⟩:=aay (L[k+1+i+1]);obtain⟨y,hy⟩:=aay (L[k+1+i]' aaF);rw[U]at x0 s z I N;rw[hy]at B C D J O;rw[U,hy]at Q aO;rw[show(k+1+i+1)*3=o+(i+1)*3 by have:=HO.o;omega]at x0 s z;rw[show(k+1+i)*3=o+i*3 by have:=HO.o;omega]at B C D;have V:=aa (λW h1 r=>Nw x y (.agg #[.int .i64 x.aA,.string x.aI,.slice A1 x.ay.length c1]) (.agg #[.int .i64 y.aA,.string y.aI,.slice A2 y.ay.length c2]) W h1 r N O);obtain⟨q,X⟩:=aay (decide (T.cmp x y=0));rw[X]at V;obtain⟨HX,HY,aM,bI,HQ,bJ,aF,aQ⟩:=aah I J Q aO X p bG bF;have bY:(0:Int)<=(i:Int):=aar;have bZ:(0:Int)<=(i:Int)+1:=aar;have cu:IntKind.i64.wrap (i:Int)=(i:Int):=iL _ aar;have cz:(i:Int)<(m:Int):=aar;have cK:(i:Int)+1<(m:Int):=aar;clear I J N O Q aO U hy X p E aW aV;go_upto_region 11 with fail;refine dm (S:=(λd=>d.cell? ⟨b,o+(i+1)*3,none⟩=some (.int .i64 x.aA)/\d.cell? ⟨b,o+(i+1)*3+1,none⟩=some (.string x.aI)/\d.cell? ⟨b,o+(i+1)*3+2,none⟩=some (.slice A1 x.ay.length c1)/\d.cell? ⟨b,o+i*3,none⟩=some (.int .i64 y.aA)/\d.cell? ⟨b,o+i*3+1,none⟩=some (.string y.aI)/\d.cell? ⟨b,o+i*3+2,none⟩=some (.slice A2 y.ay.length c2)/\Below wr.heap.size wr d)) aas (show _/\_/\_/\_/\_/\_/\_ from⟨x0,s,z,B,C,D,(aC _ wr).drew⟩) (λhHeld=>?_);refine dz 0 _ ?_;refine dz 1 _ ?_;refine dz 2 _ ?_;refine dz 3 _ ?_;refine dz 4 _ ?_;refine dz 5 _ ?_;refine dz 6 _ ?_;refine dz 7 _ ?_;refine dz 8 _ ?_;refine dz 9 _ ?_;(refine yR 10 λK hK=>?_;go_simp;go_at_call 82;refine(V.o _ (HX.o.ag hHeld.2.2.2.2.2.2) (HY.o.ag hHeld.2.2.2.2.2.2)).m ?_;rintro e wz ⟨rfl,aN⟩;refine mZ hK (zo hHeld aN) λhHeld=>?_;clear hK K);refine dz 11 _ ?_;refine fB aas ?_ _;have af:=aa (bJ.o.ag hHeld.2.2.2.2.2.2);obtain⟨z0,z1,z2,_,_,_,bL⟩:=hHeld;clear bL x0 s z B C D V;cases q with
       |true=>
        clear z0 z1 z2;go_wp2_with fail;go_roundw;case rel=>exact⟨a,i+1,dE,M,rfl,aaw,aF.o,af.o,aM.o (ak HQ.o)⟩
        case measure=>exact aax aF.o
       |false=>
        obtain⟨q1,q2⟩:=af.o.cells aQ.o;have f0:=q2 0;have f1:=q2 1;have f2:=q2 2;have bM:=af.o.three (dE[a]'(by rw[af.o.len];exact aQ.o)) (aP _);obtain⟨v0,bN⟩:∃v,wz.cell? ⟨b,a*3+0,none⟩=some v:=⟨_,(q1 0 aar).t (az aar)⟩;obtain⟨v1,cO⟩:∃v,wz.cell? ⟨b,a*3+1,none⟩=some v:=⟨_,(q1 1 aar).t (az aar)⟩;obtain⟨v2,cZ⟩:∃v,wz.cell? ⟨b,a*3+2,none⟩=some v:=⟨_,(q1 2 aar).t (az aar)⟩;rw[fC]at bN f0;clear q1 q2 bM;have df:(0:Int)<=(a:Int):=aar;have dh:(a:Int)<(n:Int):=aar;go_wp2_with fail;go_roundw;case rel=>exact⟨a+1,i+1,_,_,aaw,aaw,aF.o,af.o.set aQ.o _ _ _,bI.o (nL HQ.o)⟩
        case measure=>exact aax aF.o
      ·obtain rfl:i+1=m:=aar;have bO:dE.flatten.length=n*3:=p.own.1;obtain⟨zs,dn⟩:=Gp (P:=Tryz.prog) wr 23 29 (.agg #[.int .i64 0,.string ByteArray.empty,.slice none 0 0]) (.int .i64 0) (.string ByteArray.empty) (.slice none 0 0) cB xS (by simp[Value.cells]) aa6 b (a*3) (cap-a) (n-a) aar
        (λj hj=>by rw[p.own.cellAt _ aar,az aaF];rfl) (λj _=>p.own.frozenAt _)
       have HD:=aa (p.done E f.o (aaz HM.o) zs bf.o.1 aG.o);have hi:¬((i:Int)+1<(i:Int)+1):=aar;have dw:a<=cap:=aar;clear p E bO aV;go_wp2_with fail;go_ret;obtain⟨d1,d2,d3,d4⟩:=HD.o;rw[<-HR.o,<-d1];exact⟨rfl,d2,d3,d4⟩
   ·obtain rfl:k+1=n:=aar;have hi:¬((k:Int)+1)<((k:Int)+1):=aar;obtain⟨bP,l⟩:=aab ae Y;clear ae Y;go_wp2_with fail;go_ret;have bQ:=XO (L:=L) λi h=>bP.o i (aaz f.o) h;rw[<-HR.o,bQ,f.o];have aX:=H0.o.ag l.o;rw[f.o]at aX;exact⟨rfl,aX,l.o.m aG.o,l.o.os,l.o.tape,l.o.output,l.o.size,λk hk _=>l.o.block k hk⟩
def P8(base:Nat)(A:Option Addr)(cap:Nat)(L:List T)(w:World)(e:Ending)(w':World):Prop:=
 e=.returned (.slice A (aQ.Gr L).length cap)/\bK w' base (.slice A (aQ.Gr L).length cap) (aQ.Gr L)/\Below base w w'
def Tn(base:Nat)(A:Option Addr)(cap:Nat)(L:List T)(w:World)(e:Ending)(w':World):Prop:=P8 base A cap L w e w'/\w.grownBy w' (Value.slice A L.length cap).ownBlock
theorem UN(A:Option Addr)(n m c:Nat):(Value.slice A n c).ownBlock=(Value.slice A m c).ownBlock:=by
 cases A<;>rfl
theorem Ny{base cap:Nat}{A:Option Addr}{L:List T}(w:World)(h:bK w base (.slice A L.length cap) L)(hb:∀t∈L,t.bE<=1048576)(i:L.length<=1048576)(o:base<=w.heap.size):
 Calls Tryz.prog 37 #[.slice A L.length cap] w (Tn base A cap L w):=by
 obtain⟨p,E,F,G⟩:=aad (UL w h hb i) hb i o;obtain⟨n,j⟩:=aay L.length;have c:=aa j;rw[j]at p⊢;clear h hb i o j;go_enter Tryz.func37,Tryz.ntmps37;go_wp2_with fail;refine p.o.m ?_;rintro e q ⟨⟨rfl,d,f,r,l,m⟩,s⟩;have g:d.length=n:=(by rw[f.length_eq,c.o]);have u:bK q base (.slice A d.length cap) d:=(by rw[g];rw[c.o]at l;exact l);have v:dd d=aQ.Gr L:=XP r λx=>f.mem_iff;have y:=aa (UC q u (λt H=>E.o t (f.mem_iff.1 H)) (by rw[g,<-c.o];exact F.o) (aG G.o m.size));rw[g,v]at y;obtain⟨I,J⟩:=aab m s;clear f r l m g u v s;go_wp2_with fail;refine y.o.m ?_;rintro e w3 ⟨rfl,z,B,b⟩;obtain⟨K,M⟩:=aab z (I.o.t B);have N:=aa (show w.grownBy w3 (Value.slice A n cap).ownBlock from by
  have a:=J.o;rw[UN A L.length n cap]at a;exact⟨b.os.t a.os,b.tape.t a.tape,b.output.t a.output,aG a.size b.size,λk C D=>(b.block k (dw C a.size) D).t (a.block k C D)⟩)
 clear z B b;go_wp2_with fail;go_ret;exact⟨⟨rfl,K.o,M.o⟩,by rw[c.o];exact N.o⟩
theorem QI{base cap:Nat}{A:Option Addr}{L:List T}(w:World)(h:bK w base (.slice A L.length cap) L)(hb:∀t∈L,t.bE<=1048576)(a:L.length<=1048576)(b:base<=w.heap.size):
 Calls Tryz.prog 37 #[.slice A L.length cap] w (P8 base A cap L w):=(Ny w h hb a b).m λ_ _ k=>k.1
end
end Go.Proofs.YtaciciokmpbkkaaGreatDoor
