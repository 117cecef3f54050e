import Derived.Test.YtaciciokmpbkkaaGreatDoorWebG18
set_option maxRecDepth 100000
set_option maxHeartbeats 16000000
namespace Go.Proofs.YtaciciokmpbkkaaGreatDoor
section
open T
theorem GU{α β:Type}{c:α->Bool}{f:α->List β}{B:Nat}:∀(P:List α),(∀p∈P,c p=false->f p=[])->(∀p∈P,(f p).length<=B)->(P.flatMap f).length<=(P.filter c).length*B
 |[],_,_=>by simp
 |p::r,h0,h=>by
  have d:=GU r (λq b=>h0 q (bq _ b)) (λq b=>h q (bq _ b));rw[lZ,aF];by_cases a:c p=true
  ·rw[List.filter_cons_of_pos a,bu,qR];have:=h p (by simp);omega
  ·rw[oV]at a;rw[List.filter_cons_of_neg (by rw[a];simp),h0 p (by simp) a];simpa using d
theorem GK{pat:T}{names:List ByteArray}{P:List T}{N:Nat}:∀(vs:List ByteArray) (b:List Bd),(∀v∈vs,(if aT.oL names v=true then (P.filter λp=>decide (p.aC=1)).length else P.length)<=N)->(aT.fills pat names P vs b).length<=N ^ vs.length
 |[],b,_=>by
  simp only[aT.fills,fA,Nat.pow_zero];cases kz pat b<;>simp
 |v::r,b,h=>by
  simp only[aT.fills];have a:=h v (by simp);have e:=λb=>GK (pat:=pat) r b λu hu=>h u (bq _ hu);by_cases d:aT.oL names v=true
  ·rw[aI d]at a;refine aD (GU (c:=λp=>decide (p.aC=1)) (B:=N ^ r.length) P (λp _ f=>by rw[aI ⟨d,nN f⟩]) λp _=>?_) ?_
   ·split;·simp
    ·exact e _
   ·rw[bu,yo,Nat.mul_comm];exact Nat.mul_le_mul_left _ a
  ·rw[aG d]at a;refine aD (GU (c:=λ_=>true) (B:=N ^ r.length) P (λp _ h=>by cases h) λp _=>?_) ?_
   ·split;·simp
    ·exact e _
   ·rw[List.filter_eq_self.2 (λ_ _=>rfl),bu,yo,Nat.mul_comm];exact Nat.mul_le_mul_left _ a
theorem QV{pat:T}{b:List Bd}{K:List T}{vs names:List ByteArray}(h:aT.Yn pat b K)(a:∀v∈vs,v∈aT.left pat b)(k:∀v,v∈names<->v∈aT.zJ pat)(l:vs.length<=(vars pat).length)(c:List Bd):
 (aT.fills pat names (aT.parts K) vs c).length<=900000:=by
 have m:∀v,(if aT.oL names v=true then ((aT.parts K).filter λp=>decide (p.aC=1)).length else (aT.parts K).length)=aT.wid pat K v:=λv=>by
  unfold aT.wid;have e:aT.oL names v=aT.oL (aT.zJ pat) v:=(by rw[jY,kM,kM];exact k v);rw[e]
 have n:∀f:List ByteArray,(∀v∈f,v∈aT.left pat b)->∃N,(∀v∈f,aT.wid pat K v<=N)/\(N=0\/N ^ (vars pat).length<=900000):=by
  intro f;induction f with
  |nil=>intro _;exact⟨0,λv a=>(dY a).elim,Or.inl rfl⟩
  |cons u r o=>
   intro hu;obtain⟨N,i,d⟩:=o λv a=>hu v (bq _ a);rcases Nat.le_total (aT.wid pat K u) N with g|g;·exact⟨N,λv a=>(bL.1 a).elim (λe=>by rw[e];exact g) (λa=>i v a),d⟩
   ·exact⟨aT.wid pat K u,λv a=>(bL.1 a).elim (λe=>by rw[e];exact ak _) (λa=>aD (i v a) g),Or.inr (h.2.2 u (hu u (by simp)))⟩
 obtain⟨N,i,d⟩:=n vs a;have j:=GK (pat:=pat) (names:=names) (P:=aT.parts K) (N:=N) vs c λv q=>(by rw[m];exact i v q);rcases dE N with h0|h0
 ·subst h0;cases vs with
  |nil=>simp at j;omega
  |cons v r=>rw[bu,yo,Nat.mul_zero]at j;omega
 ·rcases d with d|d;·omega
  ·exact aD j (aD (oD h0 l) d)
theorem Be{l m:List T}(h:l.Nodup)(h':∀x∈l,x∈m):l.length<=m.length:=by
 haveI:DecidableEq T:=Classical.typeDecidableEq T
 exact xY h h'
theorem Ec{l:List T}(h:Cy l):l.Nodup:=h.imp λ{a b} c e=>by
 subst e;exact AU a c
theorem Sr{k:T}(h:k.ay=[]):vars k=if k.aC=2 then [k.aJ] else []:=by
 obtain⟨b,s,a⟩:=k;have h':a=[]:=h;subst h';simp only[vars,ik,dS];rfl
theorem qH:∀a:List T,(∀k∈a,k.ay=[])->(ik a).length<=a.length
 |[],_=>by simp[ik]
 |k::r,h=>by
  have c:=qH r λx b=>h x (bq _ b);simp only[ik,aF,bu];have:(vars k).length<=1:=by
   rw[Sr (h k (by simp))];split<;>simp
  omega
def ats(x:jZ):Nat:=(x.aS.map pF.gq).sum
theorem IJ:∀(l:List pF) (i:Nat) (f:pF->pF) (q:pF),l[i]?=some q->(∀r,(f r).gq=r.gq+1)->((l.modify i f).map pF.gq).sum=(l.map pF.gq).sum+1
 |[],_,_,_,h,_=>by simp at h
 |x::r,0,f,q,_,a=>by
  simp only[su,gP,BD,a];omega
 |x::r,i+1,f,q,h,a=>by
  have b:=IJ r i f q (by simpa using h) a;simp only[sj,gP,BD,b];omega
theorem S9{s:List iZ}{x:jZ}{m:Int×T}{t:oF}(a:aT.WR s x m t):ats (aT.move x m t)=ats x+1:=by
 obtain⟨st,q,_,b,_⟩:=nX a.1;exact IJ x.aS t.dM _ q b λr=>rfl
theorem SY:∀(l:List pF) (s:List iZ),l.length=s.length->(∀(i:Nat) (q:pF) (st:iZ),l[i]?=some q->s[i]?=some st->q.gq<=st.2.length)->(l.map pF.gq).sum<=(s.map λx=>x.2.length).sum
 |[],[],_,_=>ak _
 |[],_::_,h,_=>by simp at h
 |_::_,[],h,_=>by simp at h
 |q::l,st::s,h,hi=>by
  have e:=SY l s (by simpa using h) λi a b c d=>hi (i+1) a b (by simpa using c) (by simpa using d);have h0:=hi 0 q st rfl rfl;simp only[gP,BD];omega
theorem VD{s:List iZ}{x:jZ}(h:x.Fit s):ats x<=aT.moves s:=SY x.aS s h.len h.gq
namespace aT
def Mj(i:Nat)(q:pF)(K:List T):List UInt8:=itoa i++58::(iU ⟨[q],[]⟩++iU ⟨[],K⟩)
end aT
theorem FC(l:List pF)(K:List T):aT.iU ⟨l,[]⟩++aT.iU ⟨[],K⟩=aT.iU ⟨l,K⟩:=by
 unfold aT.iU;show(aT.uJ l++[])++([]++aT.rU K)=aT.uJ l++aT.rU K;simp
theorem OB:((List.range 100).all λn=>(aT.itoa n).all λc=>c != 58)=true:=by kernel_rfl
theorem PN{n:Nat}(h:n<100):∀c∈aT.itoa n,c≠58:=λc a=>by
 have:=cz.1 (cz.1 OB n (dU.2 h)) c a;simpa using this
theorem TE{i j:Nat}{q p:pF}{K L:List T}(hi:i<100)(hj:j<100)(c:q.ok)(d:p.ok)(f:∀t∈K,t.fe=true)(g:∀t∈L,t.fe=true)(e:aT.Mj i q K=aT.Mj j p L):i=j/\q=p/\K=L:=by
 unfold aT.Mj at e;rw[FC,FC]at e;obtain⟨k,l⟩:=Kg (PN hi) (PN hj) e;have h:=Sl (x:=⟨[q],K⟩) (y:=⟨[p],L⟩) ⟨λr a=>by rw[aX]at a;rw[a];exact c,f⟩ ⟨λr a=>by rw[aX]at a;rw[a];exact d,g⟩ l;injection h with b m;injection b with b _;exact⟨Mf hi hj k,b,m⟩
def SF(s:List iZ)(k:List UInt8)(l:List T):Prop:=∃(i:Nat) (x:jZ) (q:pF) (m:Int×T),x.Fit s/\x.aS[i]?=some q/\aT.next s x i=some m/\m.1=2/\k=aT.Mj i q x.bH/\l=aT.rC m.2 q.b x.bH
theorem TS{s:List iZ}(a:∀st∈s,st.2.length<100)(t:s.length<100){x:jZ}(c:x.Fit s){i:Nat}{q:pF}{m:Int×T}(d:x.aS[i]?=some q)(k:aT.next s x i=some m){l:List T}(h:SF s (aT.Mj i q x.bH) l):l=aT.rC m.2 q.b x.bH:=by
 obtain⟨j,y,p,n,hy,f,o,_,r,rfl⟩:=h;have hi:=(bg.1 d).1;have hj:=(bg.1 f).1;have u:=c.len;have v:=hy.len;obtain⟨rfl,rfl,e⟩:=TE (by omega) (by omega) ((c.ok a).aS q (eT d)) ((hy.ok a).aS p (eT f)) (c.ok a).bH (hy.ok a).bH r;have:m=n:=by
  have g:aT.next s x i=aT.next s y i:=by unfold aT.next;rw[d,f]
  rw[k,o]at g;injection g
 subst this;rw[e]
theorem TT{s:List iZ}{x:jZ}(a:x.Fit s){i:Nat}{q:pF}{m:Int×T}(c:x.aS[i]?=some q)(d:aT.next s x i=some m)(e:m.1=2):SF s (aT.Mj i q x.bH) (aT.rC m.2 q.b x.bH):=⟨i,x,q,m,a,c,d,e,rfl,rfl⟩
def way(jb:List aT.Lc)(i:Nat):List oF:=(aT.back jb i i).reverse
theorem QB(s:List iZ)(K:List T):ats (aT.jV s K)=0:=by
 unfold ats aT.jV;rw[l6];induction s with
 |nil=>rfl
 |cons x r a=>simpa using a
theorem Na{b:List Bd}(h:jH b=true):T.Qt 800 b:=⟨La.of h,λy hy=>by
 have a:=T.iJ (qF h y hy).2;have c:=rQ (y.t.bC+1) y.t (dI _) (mq a);have d:=ax (aP.1 a).1;omega⟩
theorem kZ{t:T}(a:t.fe=true):t.bC<=800:=by
 have b:=rQ (t.bC+1) t (dI _) (mq a);have c:=ax (aP.1 a).1;omega
theorem yY{t:T}(a:t.fe=true):t.gL.length<=2400:=by
 have:=Au t;have:=kZ a;omega
def WU(x:jZ):Prop:=∀q∈x.aS,q.b.length<=40*q.gq
theorem Su(s:List iZ)(K:List T):WU (aT.jV s K):=λq a=>by
 simp only[aT.jV,dB]at a;obtain⟨_,_,rfl⟩:=a;exact ak _
theorem TI{p t:T}{b x:List Bd}(h:oM p t b=some x):x.length<=b.length+40:=by
 obtain⟨a,c,d,e⟩:=JI h;have:=(T.Bc (M:=800) p t b x (Na d) (kZ (T.iJ c)) e).2;have:=ax (aP.1 a).1;omega
theorem Vf{x:jZ}(h:WU x)(m:Int×T)(t:oF):WU (aT.move x m t):=λp f=>by
 obtain⟨i,hi,rfl⟩:=bI f;have a:(aT.move x m t).aS[i]?=some (aT.move x m t).aS[i]:=aH hi;generalize(aT.move x m t).aS[i]=p at a;simp only[aT.move,aT.Zb,tT]at a;cases c:x.aS[i]? with
 |none=>rw[c]at a;cases a
 |some q=>
  rw[c]at a;have g:=h q (eT c);by_cases e:t.dM=i
  ·have d:(⟨q.gq+1,if m.1=2 then (oM m.2 t.bJ q.b).getD [] else q.b⟩:pF)=p:=(by simpa[e]using a);rw[<-d];show(if m.1=2 then (oM m.2 t.bJ q.b).getD [] else q.b).length<=40*(q.gq+1);split
   ·cases j:oM m.2 t.bJ q.b with
    |none=>simp
    |some y=>
     have:=TI j;show y.length<=_;omega
   ·omega
  ·have d:q=p:=(by simpa[e]using a);rw[<-d];exact g
theorem M5{s:List iZ}:∀(l:List oF) {x y:jZ},WU x->aT.ui s x l=some y->WU y
 |[],x,y,a,h=>by
  obtain rfl:x=y:=(by injection h);exact a
 |t::r,x,y,a,h=>by
  simp only[aT.ui]at h;cases b:aT.wD s x t with
  |none=>rw[b]at h;cases h
  |some z=>
   rw[b]at h;obtain⟨m,c,rfl⟩:=DT b;exact M5 r (Vf a m t) h
theorem C9{α β:Type}{f:α->List β}{B:Nat}:∀(P:List α),(∀p∈P,(f p).length<=B)->(P.flatMap f).length<=P.length*B
 |[],_=>by simp
 |p::r,h=>by
  have b:=C9 r λq a=>h q (bq _ a);rw[lZ,aF,bu,qR];have:=h p (by simp);omega
theorem Q9:((List.range 100).all λn=>decide ((aT.itoa n).length<=2))=true:=by kernel_rfl
theorem G8{n:Nat}(h:n<100):(aT.itoa n).length<=2:=ax (cz.1 Q9 n (dU.2 h))
theorem MM{s:ByteArray}(h:isName s=true):s.data.toList.length<=16:=by
 unfold isName at h;simp only[ai,bW]at h;rw[T.mo];omega
theorem Sd{b:List Bd}(h:jH b=true):(aT.pG b).length<=b.length*2418:=C9 b λy hy=>by
 have a:=qF h y hy;have c:=MM a.1;have d:=yY (T.iJ a.2);simp only[aF,bu,fA];omega
theorem Sj{s:List iZ}{x:jZ}(a:x.Fit s)(e:WU x)(f:∀st∈s,st.2.length<=16):∀q∈x.aS,(aT.itoa q.gq++10::aT.pG q.b).length<=1600000:=λq c=>by
 obtain⟨i,hi,rfl⟩:=bI c;have d:i<s.length:=(by rw[<-a.len];exact hi);have g:=a.gq i _ _ (aH hi) (aH d);have h:=f _ (aN d);have j:=e _ c;have k:=Sd (a.b _ c);have l:=G8 (n:=x.aS[i].gq) (by omega);have m:x.aS[i].b.length*2418<=640*2418:=iC _ (by omega);simp only[aF,bu];omega
theorem Sm{s:List iZ}{x:jZ}(a:x.Fit s)(b:WU x)(c:∀st∈s,st.2.length<=16)(f:s.length<=16)(d:x.bH.length<=64):(aT.iU x).length<=26000000:=by
 unfold aT.iU;have g:(aT.uJ x.aS).length<=x.aS.length*1600000:=C9 x.aS (Sj a b c);have h:(aT.rU x.bH).length<=x.bH.length*2402:=C9 x.bH λt e=>by
  have:=yY (T.iJ (a.bH t e));simp only[aF,bu,fA];omega
 have i:=a.len;have j:x.aS.length*1600000<=16*1600000:=iC _ (by omega);have k:x.bH.length*2402<=64*2402:=iC _ d;rw[aF];omega
theorem RN{s:List iZ}{x:jZ}{l:List oF}{t:oF}:aT.ui s x (l++[t])=(aT.ui s x l).bind λy=>aT.wD s y t:=by
 rw[Fe];congr 1;funext y;simp only[aT.ui];cases aT.wD s y t<;>rfl
def zq:T->List T->List T
 |_,[]=>[]
 |p,y::r=>if T.cmp y p=0 then zq y r else y::zq y r
def dd:List T->List T
 |[]=>[]
 |x::r=>x::zq x r
def ZA(l:List T):Prop:=l.Pairwise λa b=>¬T.cmp b a<0
theorem Cg:∀(l:List T) (p:T),ZA (p::l)->Cy (p::zq p l)/\∀x,x∈p::zq p l<->x∈p::l
 |[],p,_=>⟨by simp[zq,Cy],λx=>by simp[zq]⟩
 |y::r,p,h=>by
  obtain⟨j,c⟩:=fq.1 h;obtain⟨k,m⟩:=fq.1 c;simp only[zq];by_cases e:T.cmp y p=0
  ·rw[aI e];obtain rfl:=cmp_eq _ _ e;obtain⟨a,d⟩:=Cg r y c;exact⟨a,λx=>(d x).t (by simp)⟩
  ·rw[aG e];obtain⟨a,d⟩:=Cg r y c;have i:T.cmp p y= -1:=by
    have g:=j y (by simp);rcases T.mg y p with b|b|b;·omega
    ·exact absurd b e
    ·exact Tq.1 b
   refine⟨fq.2 ⟨λz f=>?_,a⟩,λx=>?_⟩
   ·rcases bL.1 f with rfl|f;·exact i
    ·exact T.sU _ _ _ i ((fq.1 a).1 z f)
   ·rw[bL,d x,bL (l:=y::r)]
theorem XC{l m:List T}(h:ZA l)(a:∀x,x∈l<->x∈m):dd l=aT.FQ m:=by
 cases l with
 |nil=>exact UW List.Pairwise.nil a
 |cons x r=>
  obtain⟨b,c⟩:=Cg r x h;exact UW b λy=>(c y).t (a y)
theorem En:∀(r:List T) (p:T) (k:Nat),k<=r.length->(∀i (_:i<k) (h':i<r.length),¬T.cmp r[i] ((p::r)[i]'(by simp;omega))=0)->zq p r=r.take k++zq ((p::r).getD k p) (r.drop k)
 |r,p,0,_,_=>by simp
 |[],p,k+1,h,_=>by simp at h
 |y::r,p,k+1,h,hi=>by
  have h0:¬T.cmp y p=0:=hi 0 (by omega) (by simp);have a:=En r y k (by simpa using h) λi d b=>by
   have:=hi (i+1) (by omega) (by simpa using b);simpa using this
  simp only[zq,aG h0,gK,uF,iT];rw[a];have e:(p::y::r).getD (k+1) p=(y::r).getD k y:=by
   rw[List.getD_cons_succ];have c:k<(y::r).length:=(by simp only[bu]at h⊢;omega);simp only[dC,aH c,iA]
  rw[e]
end
section
open Go.RowKit T
attribute [local go_sem ↓] Go.wp_at_zero Go.wp_at_succ
theorem gV.Yh{base:Nat}{w:World}{v:Value}{L:List T}(h:gV oC (eG base) base w v L):bK w base v L:=by
 obtain⟨dG,a,f⟩:=h;refine bK.of f ⟨a.LM,λi hi=>?_⟩;have d:i<dG.length:=(by rw[a.1];exact hi);obtain⟨A,c,e,g⟩:=a.2 i d hi;have b:=λr (j:r<3)=>a.flat (E:=oC) d j;rw[e]at b;exact⟨_,_,_,b 0 (by omega),b 1 (by omega),b 2 (by omega),g⟩
theorem Jv(u0 u1 u2:Value):∀(dG:List (List Value)),(∀cs∈dG,cs.length=3)->∀(k:Nat),k<dG.length->((dG.flatten.set (k*3) u0).set (k*3+1) u1).set (k*3+2) u2=(dG.set k [u0,u1,u2]).flatten
 |[],_,k,h=>absurd h (jg _)
 |a::r,b,0,_=>by
  match a,b a (by simp)with
  |[x,y,z],_=>simp
 |a::r,b,k+1,h=>by
  have c:=Jv u0 u1 u2 r (λcs d=>b cs (bq _ d)) k (by simpa using h)
  match a,b a (by simp)with
  |[x,y,z],_=>
   rw[gy,dP,gy,<-c,show(k+1)*3=k*3+1+1+1 by omega];rfl
structure ym (w:World) (base b cap n:Nat) (dG:List (List Value)) (wr:World):Prop where
 own:wr.ownsRow base 29 3 (.slice (some ⟨b,0,none⟩) n cap) n dG.flatten
 len:dG.length=n
 three:∀cs∈dG,cs.length=3
 grow:w.grownBy wr (some b)
theorem ym.ag{w:World}{base b cap n:Nat}{dG:List (List Value)}{wr w':World}(h:ym w base b cap n dG wr)(hb:Below wr.heap.size wr w'):ym w base b cap n dG w':=
 ⟨dz h.own hb,h.len,h.three,⟨hb.os.t h.grow.os,hb.tape.t h.grow.tape,hb.output.t h.grow.output,aD h.grow.size hb.size,λk a c=>(hb.block k (dF a h.grow.size)).t (h.grow.block k a c)⟩⟩
theorem ym.drew{w:World}{base b cap n:Nat}{dG:List (List Value)}{wr:World}(h:ym w base b cap n dG wr):ym w base b cap n dG wr.drew:=h.ag (az _ _).drew
theorem ym.set{w:World}{base b cap n:Nat}{dG:List (List Value)}{wr:World}(h:ym w base b cap n dG wr){k:Nat}(c:k<n)(u0 u1 u2:Value):
 ym w base b cap n (dG.set k [u0,u1,u2]) (((wr.setCell ⟨b,k*3,none⟩ u0).setCell ⟨b,k*3+1,none⟩ u1).setCell ⟨b,k*3+2,none⟩ u2):=by
 obtain⟨j,a⟩:=h.own.stored (k*3) u0;obtain⟨l,d⟩:=j.stored (k*3+1) u1;obtain⟨i,b3⟩:=l.stored (k*3+2) u2;rw[Jv u0 u1 u2 dG h.three k (by rw[h.len];exact c)]at i;refine⟨i,by rw[kU];exact h.len,λcs f=>?_,?_⟩
 ·rcases List.mem_or_eq_of_mem_set f with f|rfl;·exact h.three cs f
  ·rfl
 ·have g:=h.grow;exact⟨b3.os.t (d.os.t (a.os.t g.os)),b3.tape.t (d.tape.t (a.tape.t g.tape)),b3.output.t (d.output.t (a.output.t g.output)),aD g.size (aD a.size (aD d.size b3.size)),λk c e=>
   (b3.block k (dF c (aD g.size (aD a.size d.size))) e).t ((d.block k (dF c (aD g.size a.size)) e).t ((a.block k (dF c g.size) e).t (g.block k c e)))⟩
theorem ym.cells{w:World}{base b cap n:Nat}{dG:List (List Value)}{wr:World}(h:ym w base b cap n dG wr){i:Nat}(hi:i<n):
 (∀r,r<3->wr.cell? ⟨b,i*3+r,none⟩=(dG[i]'(by rw[h.len];exact hi))[r]?)/\(∀r,wr.frozen? ⟨b,i*3+r,none⟩=false):=by
 refine⟨λr a=>?_,λr=>h.own.frozenAt _⟩;rw[h.own.cellAt _ (by omega)];exact AV dG h.three i (by rw[h.len];exact hi) r a
theorem ym.term{w:World}{base b cap n:Nat}{dG css0:List (List Value)}{L:List T}{wr:World}(h:ym w base b cap n dG wr)(d:oC.all (off (eG base) (some b)) w css0 L){i:Nat}(hi:i<n)(f:i<L.length)(g:dG[i]?=css0[i]?):
 ∃A c,wr.cell? ⟨b,i*3,none⟩=some (.int .i64 L[i].aC)/\wr.cell? ⟨b,i*3+1,none⟩=some (.string L[i].aJ)/\wr.cell? ⟨b,i*3+2,none⟩=some (.slice A L[i].ay.length c)/\aO wr (.agg #[.int .i64 L[i].aC,.string L[i].aJ,.slice A L[i].ay.length c]) L[i]/\
  oC.gq (off (eG base) (some b)) w [.int .i64 L[i].aC,.string L[i].aJ,.slice A L[i].ay.length c] L[i]:=by
 have j:i<css0.length:=(by rw[d.1];exact f);have l:i<dG.length:=(by rw[h.len];exact hi);have m:dG[i]=css0[i]:=(by rw[aH l,aH j]at g;exact aA g);obtain⟨A,c,e,k⟩:=d.2 i j f;have a:=(h.cells hi).1;rw[m,e]at a;refine⟨A,c,a 0 (by omega),a 1 (by omega),a 2 (by omega),?_,⟨A,c,rfl,k⟩⟩;exact(k.aR (S':=λ_=>true) λx o p=>⟨rfl,h.grow.block x p (λe=>(dX.1 o).2 e.symm)⟩).at
theorem FP{P:Program}(w:World)(t e:TypeId)(z z0 f z2:Value)(n:P.underlying t=some (.slice e))(p:∀w,(zeroValue e).run P w=.ok z w)(h:z.cells=#[z0,f,z2])(q:∀u∈[z0,f,z2],u.oneCell'=true)(b o c m:Nat)(x:0<m)
 (r:∀j,j<m*3->(w.cell? ⟨b,o+j,none⟩).isSome=true) (s:∀j,j<m*3->w.frozen? ⟨b,o+j,none⟩=false):
 ∃a:List Value,∀ty,(Builtin.clear_ #[t] ty #[.slice (some ⟨b,o,none⟩) m c]).run P w=.ok (.tuple #[]) (w.setCells b o a):=by
 obtain⟨a,d⟩:∃a,a=(Builtin.zeroCells z.cells m).toList:=⟨_,rfl⟩;have y:a.length=m*3:=(by rw[d,h];simp[Builtin.zeroCells]);have v:∀u∈a,u.oneCell'=true:=λu hu=>by
  rw[d,h]at hu;simp only[Builtin.zeroCells,Array.toList_map,dB]at hu;obtain⟨i,_,rfl⟩:=hu;have hi:i % 3<3:=Nat.mod_lt _ (by decide);rcases(show i % 3=0\/i % 3=1\/i % 3=2 by omega)with g|g|g<;>simp[g]<;>exact q _ (by simp)
 have k:=run_storeCells_cells (P:=P) b o a 0 w (λj hj=>by simpa using r j (by omega)) (λj hj=>s j (by omega)) v;simp only[fE]at k;refine⟨a,λty=>?_⟩;obtain⟨l,rfl⟩:∃l,m=l+1:=⟨m-1,by omega⟩;simp[Builtin.clear_,run_underlying n,p,<-d,k]
theorem Ur{base b cap k:Nat}{e:TypeId}{xs:List Value}(a:List Value):∀(o:Nat) {w:World},w.ownsRow base e 3 (.slice (some ⟨b,0,none⟩) k cap) k xs->k*3<=o->(w.setCells b o a).ownsRow base e 3 (.slice (some ⟨b,0,none⟩) k cap) k xs:=by
 induction a with
 |nil=>intro o w h _;exact h
 |cons z r d=>
  intro o w h f;have c:=(h.stored o z).1;rw[List.set_eq_of_length_le (by rw[h.1];exact f)]at c;exact d (o+1) c (by omega)
theorem GX{b:Nat}{row:Option Nat}{a:World}(c:row=some b):∀(vs:List Value) (o:Nat) {w:World},a.grownBy w row->a.grownBy (w.setCells b o vs) row
 |[],_,_,h=>h
 |v::r,o,w,h=>GX c r (o+1) (w:=w.setCell ⟨b,o,none⟩ v) ⟨h.os,h.tape,h.output,by simpa[World.setCell]using h.size,λk f d=>(aM w _ v k (by subst c;intro e;exact d (by rw[e]))).t (h.block k f d)⟩
theorem MX(a b:T)(j k:Value)(w:World)(g:aO w j a)(hb:aO w k b)(l:a.bC<=1048576)(m:b.bC<=1048576):
 Calls Tryz.prog 82 #[j,k] w λe w'=>e=.returned (.bool (decide (T.cmp a b=0)))/\Below w.heap.size w w':=by
 obtain⟨A,c,rfl⟩:=bN.view g.uf;obtain⟨B,d,rfl⟩:=bN.view hb.uf;obtain⟨h,i,f,n⟩:=rz w (.int .i64 a.aC) (.string a.aJ) (.slice A a.ay.length c) (.int .i64 b.aC) (.string b.aJ) (.slice B b.ay.length d);have o:=aa (λW v x=>Ru (a.bC+1) a b (.agg #[.int .i64 a.aC,.string a.aJ,.slice A a.ay.length c]) (.agg #[.int .i64 b.aC,.string b.aJ,.slice B b.ay.length d]) W (by omega) v x l m);obtain⟨q,p⟩:∃q,T.cmp a b=q:=⟨_,rfl⟩;rw[p]at o⊢;obtain⟨r,s⟩:=ZQ (g.ag f) (hb.ag f);clear g hb l m p;go_enter Tryz.func82,Tryz.ntmps82;go_upto_region 1 with fail;generalize(w.alloc (.cells #[.int .i64 a.aC,.string a.aJ,.slice A a.ay.length c] 29)).alloc (.cells #[.int .i64 b.aC,.string b.aJ,.slice B b.ay.length d] 29)=y at h i f n r s⊢;obtain⟨x0,z,C⟩:=h.cells;obtain⟨D,E,F⟩:=i.cells;have t:=aa f;clear h i f n;go_wp2_with fail;refine(o.o y r.o s.o).m ?_;rintro e H ⟨rfl,u⟩;have G:=aa (t.o.t (u.m t.o.size));clear u x0 z C D E F;go_wp2_with fail;go_ret;exact⟨by first|rfl|simp,G.o⟩
theorem GV:∀(dG:List (List Value)),(∀cs∈dG,cs.length=3)->∀k,dG.flatten.take (k*3)=(dG.take k).flatten
 |[],_,k=>by simp
 |a::r,b,0=>by simp
 |a::r,b,k+1=>by
  have c:=b a (by simp);rw[gy,gK,gy,<-GV r (λcs d=>b cs (bq _ d)) k,List.take_append,c,aY (by omega),show(k+1)*3-3=k*3 by omega]
theorem XB{L:List T}(h:∀i,∀(h:i+1<L.length),¬T.cmp L[i+1] L[i]=0):dd L=L:=by
 cases L with
 |nil=>rfl
 |cons x r=>
  have a:=En r x r.length (ak _) λi a b=>by
   have:=h i (by simpa using b);simpa using this
  show x::zq x r=x::r;rw[a,lC,xH,zq,dS]
structure xG (S:Nat->Bool) (w:World) (L:List T) (css0 dG:List (List Value)) (M:List T) (p kk:Nat):Prop where
 Rn:M.length=kk
 le:kk<=p
 pos:1<=kk
 high:∀i,p<=i->dG[i]?=css0[i]?
 low:oC.all S w (dG.take kk) M
 go:∀(h:p<L.length),M++zq L[p] (L.drop (p+1))=dd L
theorem xG.start{S:Nat->Bool}{w:World}{L:List T}{css0:List (List Value)}(c:oC.all S w css0 L){k:Nat}(d:k+1<L.length)(g:∀i,i+1<k+1->∀(h:i+1<L.length),¬T.cmp L[i+1] L[i]=0)(e:T.cmp L[k+1] L[k]=0):xG S w L css0 css0 (L.take (k+1)) (k+1) (k+1) where
 Rn:=by rw[aW];omega
 le:=ak _
 pos:=by omega
 high:=λ_ _=>rfl
 low:=c.sub id (by rw[aW,aW,c.1]) λi a b=>by
  rw[aW]at a b;exact⟨by show i<css0.length;omega,by show i<L.length;omega,kS,kS⟩
 go:=λh=>by
  cases L with
  |nil=>simp at d
  |cons x r=>
   simp only[bu]at d h;have f:=En r x k (by omega) λi f m=>by
    have:=g i (by omega) (by simp;omega);simpa using this
   have j:k<r.length:=(by omega);have l:(x::r).getD k x=(x::r)[k]'(by simp;omega):=by
    rw[dC,aH (by simp;omega)];rfl
   simp only[gK,uF,fD,dd,iT]at e⊢;rw[f,l,dN j,zq,aI e]
theorem xG.skip{S:Nat->Bool}{w:World}{L:List T}{css0 dG:List (List Value)}{M:List T}{p kk:Nat}(h:xG S w L css0 dG M p kk)(a:p+1<L.length)(b:T.cmp L[p+1] L[p]=0):xG S w L css0 dG M (p+1) kk where
 Rn:=h.Rn
 le:=oo h.le
 pos:=h.pos
 high:=λi hi=>h.high i (by omega)
 low:=h.low
 go:=λ_=>by
  rw[<-h.go (by omega),dN a,zq,aI b]
theorem xG.take{S:Nat->Bool}{w:World}{L:List T}{css0 dG:List (List Value)}{M:List T}{p kk:Nat}(h:xG S w L css0 dG M p kk)(a:p+1<L.length)(b:¬T.cmp L[p+1] L[p]=0)(d:dG.length=L.length){cs:List Value}(c:oC.gq S w cs L[p+1]):xG S w L css0 (dG.set kk cs) (M++[L[p+1]]) (p+1) (kk+1) where
 Rn:=by rw[aF,h.Rn];rfl
 le:=Nat.succ_le_succ h.le
 pos:=by omega
 high:=λi hi=>by
  rw[List.getElem?_set_ne (by have:=h.le;omega)];exact h.high i (by omega)
 low:=by
  have:=h.le;rw[List.take_set,aV (show kk<dG.length by omega),lK _ _ (by rw[aW];omega),aW,iP (show kk<=dG.length by omega),qQ];exact h.low.push c
 go:=λ_=>by
  rw[<-h.go (by omega),dN a,zq,aG b];simp
theorem xG.done{S:Nat->Bool}{w:World}{L:List T}{css0 dG:List (List Value)}{M:List T}{p kk:Nat}(h:xG S w L css0 dG M p kk)(a:p+1=L.length):M=dd L:=by
 rw[<-h.go (by omega),jT (by omega),zq,dS]
theorem ym.done{w:World}{base b cap n:Nat}{dG css0:List (List Value)}{L M:List T}{wr:World}{p kk:Nat}(h:ym w base b cap n dG wr)(hi:xG (off (eG base) (some b)) w L css0 dG M p kk)(o:L.length=n)(q:p+1=n)(a:List Value)(r:base<=b)(l:base<=w.heap.size):
 kk=(dd L).length/\bK (wr.setCells b (kk*3) a) base (.slice (some ⟨b,0,none⟩) kk cap) (dd L)/\Below base w (wr.setCells b (kk*3) a)/\w.grownBy (wr.setCells b (kk*3) a) (some b):=by
 have hM:=hi.done (by omega);have c:=hi.Rn;rw[hM]at c;have d:=GX rfl a (kk*3) h.grow;refine⟨c.symm,gV.Yh ⟨dG.take kk,?_,?_⟩,(az base w).grown d l (λk f=>by injection f with f;omega),d⟩
 ·have:=hi.low;rw[hM]at this;exact this.aR λx g m=>⟨g,d.block x m (λe=>(dX.1 g).2 e.symm)⟩
 ·have i:=Ur a (kk*3) (M0 h.own (j:=kk) (by have:=hi.le;omega)) (ak _);rw[GV dG h.three]at i;rw[c];exact i
theorem ym.start{w:World}{base b cap:Nat}{css0:List (List Value)}{L:List T}(a:oC.all (off (eG base) (some b)) w css0 L)(c:w.ownsRow base 29 3 (.slice (some ⟨b,0,none⟩) L.length cap) L.length css0.flatten):ym w base b cap L.length css0 w:=
 ⟨c,a.1,a.len,⟨rfl,rfl,rfl,ak _,λ_ _ _=>rfl⟩⟩
theorem Ud{base cap:Nat}{A:Option Addr}{L:List T}(w:World)(h:bK w base (.slice A L.length cap) L)(hb:∀t∈L,t.bC<=1048576)(hl:L.length<=1048576)(ai:base<=w.heap.size):
 Calls Tryz.prog 81 #[.slice A L.length cap,.func (.func 82) #[] #[]] w λe w'=>e=.returned (.slice A (dd L).length cap)/\bK w' base (.slice A (dd L).length cap) (dd L)/\Below base w w'/\w.grownBy w' (Value.slice A L.length cap).ownBlock:=by
 by_cases r:L.length<2
 ·have e:dd L=L:=by
   match L,r with
   |[],_=>rfl
   |[x],_=>rfl
  rw[e];obtain⟨H,aF⟩:=ZQ h ai;obtain⟨n,F⟩:∃n,L.length=n:=⟨_,rfl⟩;have f:=aa F;rw[F]at r⊢;have hi:(n:Int)<2:=(by omega);clear h hb hl ai e F;go_enter Tryz.func81,Tryz.ntmps81;go_wp2_with fail;go_ret;refine⟨rfl,?_,az _ _,rfl,rfl,rfl,ak _,λ_ _ _=>rfl⟩;have:=H.o;rw[f.o]at this;exact this
 ·have H0:=aa h;obtain⟨css0,av,aG⟩:=h.RF;obtain⟨b,bS,e,_⟩:=aG.form (by omega);injection e with e1 e2 e3;subst e1;subst e3;have aR:=h.block b rfl;obtain⟨_,_,e4,aY,aZ⟩:=h.shape;injection e4 with e5 e6 e7;subst e5;subst e7;clear e6 e2;change oC.all (off (eG base) (some b)) w css0 L at av;obtain⟨aA,Z,bf,HB,aF⟩:=ZU (ym.start av aG) av aR hb ai;obtain⟨n,F⟩:∃n,L.length=n:=⟨_,rfl⟩;have f:=aa F;obtain⟨R,hR⟩:∃R,dd L=R:=⟨_,rfl⟩;have HR:=aa hR;rw[F]at r aY hl aA⊢;rw[hR];have bT:2<=n:=(by omega);unfold maxLen at aZ;have bU:¬(n:Int)<2:=(by omega);clear h hb ai F hR av aG aR r;go_enter Tryz.func81,Tryz.ntmps81;go_wp2_with fail;go_loopw [5] (λG wr=>∃k:Nat,k+1<=n/\G=.int .i64 ((k+1:Nat):Int)/\(∀i,i+1<k+1->∀(h:i+1<L.length),¬T.cmp L[i+1] L[i]=0)/\Below w.heap.size w wr) (λG _=>n-(intOf G).toNat);case atStart=>exact⟨0,by omega,rfl,λi hi=>by omega,az _ _⟩
  case round=>
   obtain⟨k,hk,rfl,ae,Y⟩:=hrel;obtain⟨wo,rfl⟩:∃wo:World,wo=wr:=⟨_,rfl⟩;by_cases aI:k+1<n
   ·have aK:k+1<L.length:=(by rw[f.o];exact aI);obtain⟨A1,c1,x0,s,z,I,bg⟩:=(aA.o.ag Y).term Z.o (i:=k+1) aI aK rfl;obtain⟨A2,c2,B,C,D,J,bi⟩:=(aA.o.ag Y).term Z.o (i:=k) (by omega) (by omega) rfl;clear bg bi;have N:=HB.o _ (aN aK);have O:=HB.o _ (aN (show k<L.length by omega));have Q:=xG.start Z.o aK ae;have aL:=λ(h:¬T.cmp L[k+1] L[k]=0)=>show ∀i,i+1<k+1+1->∀(h:i+1<L.length),¬T.cmp L[i+1] L[i]=0 from λi hi h'=>by
     rcases cu (i+1) (k+1)with g|g;·exact ae i g h'
     ·obtain rfl:i=k:=(by omega);exact h
    obtain⟨x,U⟩:∃x,L[k+1]=x:=⟨_,rfl⟩;obtain⟨y,hy⟩:∃y,L[k]'(by omega)=y:=⟨_,rfl⟩;rw[U]at x0 s z I N;rw[hy]at B C D J O;rw[U,hy]at Q aL;have V:=aa (λW h1 r=>MX x y (.agg #[.int .i64 x.aC,.string x.aJ,.slice A1 x.ay.length c1]) (.agg #[.int .i64 y.aC,.string y.aJ,.slice A2 y.ay.length c2]) W h1 r N O);obtain⟨q,X⟩:∃q,decide (T.cmp x y=0)=q:=⟨_,rfl⟩;rw[X]at V;obtain⟨HX,HY,aM,bn,HQ,l,aS⟩:=ZW I J Q aL X Y aI;have bq:(0:Int)<=(k:Int):=(by omega);have bu:(0:Int)<=(k:Int)+1:=(by omega);have bv:IntKind.i64.wrap (k:Int)=(k:Int):=jc _ (by omega);have bz:(k:Int)<(n:Int):=(by omega);have bA:(k:Int)+1<(n:Int):=(by omega);clear I J N O Q aL U hy ae Y X;go_upto_region 6 with fail;refine bX (S:=(λd=>d.cell? ⟨b,(k+1)*3,none⟩=some (.int .i64 x.aC)/\d.cell? ⟨b,(k+1)*3+1,none⟩=some (.string x.aJ)/\d.cell? ⟨b,(k+1)*3+2,none⟩=some (.slice A1 x.ay.length c1)/\d.cell? ⟨b,k*3,none⟩=some (.int .i64 y.aC)/\d.cell? ⟨b,k*3+1,none⟩=some (.string y.aJ)/\d.cell? ⟨b,k*3+2,none⟩=some (.slice A2 y.ay.length c2)/\Below wo.heap.size wo d)) (by kernel_rfl) (show _/\_/\_/\_/\_/\_/\_ from⟨x0,s,z,B,C,D,(az _ wo).drew⟩) (λhHeld=>?_);refine cB 0 _ ?_;refine cB 1 _ ?_;refine cB 2 _ ?_;refine cB 3 _ ?_;refine cB 4 _ ?_;refine cB 5 _ ?_;refine cB 6 _ ?_;refine cB 7 _ ?_;refine cB 8 _ ?_;refine cB 9 _ ?_;(refine ve 10 λK hK=>?_;go_simp;go_at_call 82;refine(V.o _ (HX.o.ag hHeld.2.2.2.2.2.2) (HY.o.ag hHeld.2.2.2.2.2.2)).m ?_;rintro e wz ⟨rfl,aO⟩;refine mH hK (GY hHeld aO) λhHeld=>?_;clear hK K);refine dR (by kernel_rfl) ?_ _;have aT:=aa (l.o.t (hHeld.2.2.2.2.2.2.m l.o.size));clear hHeld x0 s z B C D V;cases q with
    |false=>
     go_wp2_with fail;go_roundw;case rel=>exact⟨k+1,by have:=aS.o;omega,by go_num,bn.o (nN HQ.o),aT.o⟩
     case measure=>have:=aS.o;simp[intOf];omega
    |true=>
     obtain⟨bB,bD⟩:=ZQ (aM.o (ax HQ.o)) (aA.o.ag aT.o);obtain⟨m,hm⟩:∃m,n-(k+1)=m:=⟨_,rfl⟩;go_wp2_with fail;obtain⟨o,ho⟩:∃o,(k+1)*3=o:=⟨_,rfl⟩;obtain⟨cp,aU⟩:∃c,cap-(k+1)=c:=⟨_,rfl⟩;rw[ho,aU];obtain⟨HO,HM⟩:=ZQ ho hm;have bE:1<=m:=(by omega);have bV:m<=1048576:=(by omega);clear ho aU hm bq bu bv bz bA;go_loopw [5,7] (λkv G wr=>∃(a i:Nat) (dG:List (List Value)) (M:List T),kv=.int .i64 (a:Int)/\G=.int .i64 ((i+1:Nat):Int)/\i+1<=m/\ym w base b cap n dG wr/\xG (off (eG base) (some b)) w L css0 dG M (k+1+i) a) (λ_ G _=>m-(intOf G).toNat);case atStart=>exact⟨k+1,0,css0,_,by simp,rfl,bE,bD.o,bB.o⟩
     case round=>
      obtain⟨a,i,dG,M,rfl,rfl,bW,p,E⟩:=hrel;have aV:=E.le;have bF:a<n:=(by have:=HM.o;omega);have bY:a<=n:=(by omega);by_cases bG:i+1<m
      ·have aB:k+1+i+1<L.length:=(by have:=HM.o;have:=f.o;omega);obtain⟨A1,c1,x0,s,z,I,aW⟩:=p.term Z.o (i:=k+1+i+1) (by have:=f.o;omega) aB (E.high _ (by omega));obtain⟨A2,c2,B,C,D,J,bH⟩:=p.term Z.o (i:=k+1+i) (by have:=f.o;omega) (by omega) (E.high _ (by omega));clear bH;have N:=HB.o _ (aN aB);have O:=HB.o _ (aN (show k+1+i<L.length by omega));have Q:=E.skip aB;have aP:=λh=>E.take aB h (by rw[p.len,f.o]) aW;obtain⟨x,U⟩:∃x,L[k+1+i+1]=x:=⟨_,rfl⟩;obtain⟨y,hy⟩:∃y,L[k+1+i]'(by omega)=y:=⟨_,rfl⟩;rw[U]at x0 s z I N;rw[hy]at B C D J O;rw[U,hy]at Q aP;rw[show(k+1+i+1)*3=o+(i+1)*3 by have:=HO.o;omega]at x0 s z;rw[show(k+1+i)*3=o+i*3 by have:=HO.o;omega]at B C D;have V:=aa (λW h1 r=>MX x y (.agg #[.int .i64 x.aC,.string x.aJ,.slice A1 x.ay.length c1]) (.agg #[.int .i64 y.aC,.string y.aJ,.slice A2 y.ay.length c2]) W h1 r N O);obtain⟨q,X⟩:∃q,decide (T.cmp x y=0)=q:=⟨_,rfl⟩;rw[X]at V;obtain⟨HX,HY,aM,bI,HQ,bJ,aD,aQ⟩:=ZX I J Q aP X p bG bF;have bZ:(0:Int)<=(i:Int):=(by omega);have cz:(0:Int)<=(i:Int)+1:=(by omega);have cK:IntKind.i64.wrap (i:Int)=(i:Int):=jc _ (by omega);have cO:(i:Int)<(m:Int):=(by omega);have cZ:(i:Int)+1<(m:Int):=(by omega);clear I J N O Q aP U hy X p E aW aV;go_upto_region 11 with fail;refine bX (S:=(λd=>d.cell? ⟨b,o+(i+1)*3,none⟩=some (.int .i64 x.aC)/\d.cell? ⟨b,o+(i+1)*3+1,none⟩=some (.string x.aJ)/\d.cell? ⟨b,o+(i+1)*3+2,none⟩=some (.slice A1 x.ay.length c1)/\d.cell? ⟨b,o+i*3,none⟩=some (.int .i64 y.aC)/\d.cell? ⟨b,o+i*3+1,none⟩=some (.string y.aJ)/\d.cell? ⟨b,o+i*3+2,none⟩=some (.slice A2 y.ay.length c2)/\Below wr.heap.size wr d)) (by kernel_rfl) (show _/\_/\_/\_/\_/\_/\_ from⟨x0,s,z,B,C,D,(az _ wr).drew⟩) (λhHeld=>?_);refine cB 0 _ ?_;refine cB 1 _ ?_;refine cB 2 _ ?_;refine cB 3 _ ?_;refine cB 4 _ ?_;refine cB 5 _ ?_;refine cB 6 _ ?_;refine cB 7 _ ?_;refine cB 8 _ ?_;refine cB 9 _ ?_;(refine ve 10 λK hK=>?_;go_simp;go_at_call 82;refine(V.o _ (HX.o.ag hHeld.2.2.2.2.2.2) (HY.o.ag hHeld.2.2.2.2.2.2)).m ?_;rintro e wz ⟨rfl,aO⟩;refine mH hK (GY hHeld aO) λhHeld=>?_;clear hK K);refine cB 11 _ ?_;refine dR (by kernel_rfl) ?_ _;have af:=aa (bJ.o.ag hHeld.2.2.2.2.2.2);obtain⟨z0,z1,z2,_,_,_,bL⟩:=hHeld;clear bL x0 s z B C D V;cases q with
       |true=>
        clear z0 z1 z2;go_wp2_with fail;go_roundw;case rel=>exact⟨a,i+1,dG,M,rfl,by go_num,aD.o,af.o,aM.o (ax HQ.o)⟩
        case measure=>have:=aD.o;simp[intOf];omega
       |false=>
        obtain⟨q1,q2⟩:=af.o.cells aQ.o;have f0:=q2 0;have f1:=q2 1;have f2:=q2 2;have bN:=af.o.three (dG[a]'(by rw[af.o.len];exact aQ.o)) (aN _);obtain⟨v0,bO⟩:∃v,wz.cell? ⟨b,a*3+0,none⟩=some v:=⟨_,(q1 0 (by omega)).t (aH (by omega))⟩;obtain⟨v1,df⟩:∃v,wz.cell? ⟨b,a*3+1,none⟩=some v:=⟨_,(q1 1 (by omega)).t (aH (by omega))⟩;obtain⟨v2,dh⟩:∃v,wz.cell? ⟨b,a*3+2,none⟩=some v:=⟨_,(q1 2 (by omega)).t (aH (by omega))⟩;rw[fE]at bO f0;clear q1 q2 bN;have di:(0:Int)<=(a:Int):=(by omega);have dm:(a:Int)<(n:Int):=(by omega);go_wp2_with fail;go_roundw;case rel=>exact⟨a+1,i+1,_,_,by go_num,by go_num,aD.o,af.o.set aQ.o _ _ _,bI.o (nN HQ.o)⟩
        case measure=>have:=aD.o;simp[intOf];omega
      ·obtain rfl:i+1=m:=(by omega);have bP:dG.flatten.length=n*3:=p.own.1;obtain⟨zs,dw⟩:=FP (P:=Tryz.prog) wr 23 29 (.agg #[.int .i64 0,.string ByteArray.empty,.slice none 0 0]) (.int .i64 0) (.string ByteArray.empty) (.slice none 0 0) bM xQ (by simp[Value.cells]) (by intro u hu;simp at hu;rcases hu with rfl|rfl|rfl<;>rfl) b (a*3) (cap-a) (n-a) (by omega)
        (λj hj=>by rw[p.own.cellAt _ (by omega),aH (by omega)];rfl) (λj _=>p.own.frozenAt _)
       have HD:=aa (p.done E f.o (by have:=HM.o;omega) zs bf.o.1 aF.o);have hi:¬((i:Int)+1<(i:Int)+1):=(by omega);have dx:a<=cap:=(by omega);clear p E bP aV;go_wp2_with fail;go_ret;obtain⟨d1,d2,d3,d4⟩:=HD.o;rw[<-HR.o,<-d1];exact⟨rfl,d2,d3,d4⟩
   ·obtain rfl:k+1=n:=(by omega);have hi:¬((k:Int)+1)<((k:Int)+1):=(by omega);obtain⟨bQ,l⟩:=ZQ ae Y;clear ae Y;go_wp2_with fail;go_ret;have bR:=XB (L:=L) λi h=>bQ.o i (by have:=f.o;omega) h;rw[<-HR.o,bR,f.o];have aX:=H0.o.ag l.o;rw[f.o]at aX;exact⟨rfl,aX,l.o.m aF.o,l.o.os,l.o.tape,l.o.output,l.o.size,λk hk _=>l.o.block k hk⟩
def Pw(base:Nat)(A:Option Addr)(cap:Nat)(L:List T)(w:World)(e:Ending)(w':World):Prop:=
 e=.returned (.slice A (aT.FQ L).length cap)/\bK w' base (.slice A (aT.FQ L).length cap) (aT.FQ L)/\Below base w w'
def SK(base:Nat)(A:Option Addr)(cap:Nat)(L:List T)(w:World)(e:Ending)(w':World):Prop:=Pw base A cap L w e w'/\w.grownBy w' (Value.slice A L.length cap).ownBlock
theorem Us(A:Option Addr)(n m c:Nat):(Value.slice A n c).ownBlock=(Value.slice A m c).ownBlock:=by
 cases A<;>rfl
theorem MZ{base cap:Nat}{A:Option Addr}{L:List T}(w:World)(h:bK w base (.slice A L.length cap) L)(hb:∀t∈L,t.bC<=1048576)(i:L.length<=1048576)(o:base<=w.heap.size):
 Calls Tryz.prog 37 #[.slice A L.length cap] w (SK base A cap L w):=by
 obtain⟨p,E,F,G⟩:=ZT (Uq w h hb i) hb i o;obtain⟨n,j⟩:∃n,L.length=n:=⟨_,rfl⟩;have c:=aa j;rw[j]at p⊢;clear h hb i o j;go_enter Tryz.func37,Tryz.ntmps37;go_wp2_with fail;refine p.o.m ?_;rintro e q ⟨⟨rfl,d,f,r,l,m⟩,s⟩;have g:d.length=n:=(by rw[f.length_eq,c.o]);have u:bK q base (.slice A d.length cap) d:=(by rw[g];rw[c.o]at l;exact l);have v:dd d=aT.FQ L:=XC r λx=>f.mem_iff;have y:=aa (Ud q u (λt H=>E.o t (f.mem_iff.1 H)) (by rw[g,<-c.o];exact F.o) (aD G.o m.size));rw[g,v]at y;obtain⟨I,J⟩:=ZQ m s;clear f r l m g u v s;go_wp2_with fail;refine y.o.m ?_;rintro e w3 ⟨rfl,z,B,b⟩;obtain⟨K,M⟩:=ZQ z (I.o.t B);have N:=aa (show w.grownBy w3 (Value.slice A n cap).ownBlock from by
  have a:=J.o;rw[Us A L.length n cap]at a;exact⟨b.os.t a.os,b.tape.t a.tape,b.output.t a.output,aD a.size b.size,λk C D=>(b.block k (dF C a.size) D).t (a.block k C D)⟩)
 clear z B b;go_wp2_with fail;go_ret;exact⟨⟨rfl,K.o,M.o⟩,by rw[c.o];exact N.o⟩
theorem Qe{base cap:Nat}{A:Option Addr}{L:List T}(w:World)(h:bK w base (.slice A L.length cap) L)(hb:∀t∈L,t.bC<=1048576)(a:L.length<=1048576)(b:base<=w.heap.size):
 Calls Tryz.prog 37 #[.slice A L.length cap] w (Pw base A cap L w):=(MZ w h hb a b).m λ_ _ k=>k.1
end
end Go.Proofs.YtaciciokmpbkkaaGreatDoor
