import Derived.Test.YtaciciokmpbkkaaGreatDoorWebG14
set_option maxRecDepth 100000
set_option maxHeartbeats 16000000
namespace Go.Proofs.YtaciciokmpbkkaaGreatDoor
section
open Go.RowKit
attribute [local go_sem ↓] Go.wp_at_zero Go.wp_at_succ
end
section
open Go.RowKit
theorem ny.aR{B g:Nat}{w w':World}(h:ny B g w)(d:∀b,b<=g->b<w.heap.size->w'.heap[b]?=w.heap[b]?):ny B g w':=by
 have f:=h.lt;obtain⟨h0,A,n,c,k,i,l,m,o,a⟩:=h;refine⟨h0,A,n,c,k,(d g (ak _) f).t i,l,m,o,?_⟩;rcases a with a|⟨b,off,p,e,q⟩;·exact .inl a
 ·refine .inr ⟨b,off,p,e,λj hj=>?_⟩;obtain⟨z,r,s⟩:=q j hj;refine⟨z,?_,s⟩;rw[<-r];exact dD (d b (by omega) (by omega))
theorem bK.Y4{w1 w3:World}{base:Nat}{v:Value}{L:List T}{t:T}{A8:Option Addr}{c8:Nat}{xs:List Value}{u0 u1 u2:Value}{o:Obj}(c:CT (but base v.ownBlock) w1 xs L)
 (f:bN (but base v.ownBlock) w1 (.agg #[u0,u1,u2]) t) (d:w3.ownsRow base 29 3 (.slice A8 (L.length+1) c8) (L.length+1) (xs++[u0,u1,u2]))
 (g:(w1.alloc o).grownBy w3 v.ownBlock) (j:A8.map (·.block)=v.ownBlock\/A8.map (·.block)=some (w1.alloc o).heap.size):bK w3 base (.slice A8 (L.length+1) c8) (L++[t]):=by
 obtain⟨x,cap,e,_⟩:=d.form (by omega);injection e with k y l;subst k;subst l;refine bK.snoc (w:=w1.alloc o) (H:=(w1.alloc o).heap.size) (λi hi=>?_) c.1 ?_ d g ?_ rfl
 ·obtain⟨a0,m,n,p,q,r,b3⟩:=c.2 i hi;exact⟨a0,m,n,p,q,r,b3.aR λb s a=>⟨s,fF w1 o b a⟩⟩
 ·exact f.aR λb u a=>⟨u,fF w1 o b a⟩
 ·rcases j with h|h;·exact .inl h.symm
  ·right;injection h
def Ea(P:T->Prop)(B g:Nat)(w:World)(L:List T)(l:Value)(wr:World):Prop:=bK wr B l L/\(∀t∈L,P t)/\ny g g wr/\Below w.heap.size w wr/\w.heap.size<=g/\g<B/\B<=wr.heap.size
theorem Ea.step{P:T->Prop}{B g:Nat}{w wr w3:World}{L:List T}{l:Value}(h:Ea P B g w L l wr)(hd:ny g g w3)(a:wr.grownBy w3 (some g)):Ea P B g w L l w3:=by
 obtain⟨d,f,q,c,i,j,m⟩:=h;exact⟨d.aR λb hb n=>a.block b n (λe=>by have o:b=g:=aA e;omega),f,hd,c.grown a c.size (λk p=>by have o:g=k:=aA p;omega),i,j,aD m a.size⟩
theorem Ea.ag{P:T->Prop}{B g:Nat}{w wr w3:World}{L:List T}{l:Value}(h:Ea P B g w L l wr)(hb:Below wr.heap.size wr w3):Ea P B g w L l w3:=by
 obtain⟨c,d,a,b,e,f,i⟩:=h;exact⟨c.ag hb,d,a.below hb a.lt,b.t (hb.m b.size),e,f,aD i hb.size⟩
theorem Ea.cells{P:T->Prop}{B g:Nat}{w wr:World}{L:List T}{l:Value}(h:Ea P B g w L l wr):∃A c xs,l=.slice A L.length c/\wr.ownsRow B 29 3 (.slice A L.length c) L.length xs/\CT (but B (Value.slice A L.length c).ownBlock) wr xs L:=by
 obtain⟨xs,a,b⟩:=h.1.cells;obtain⟨A,c,rfl⟩:=oO a;exact⟨A,c,xs,rfl,a,b⟩
theorem Ea.apart{P:T->Prop}{B g:Nat}{w wr w3:World}{L:List T}{l v:Value}{t:T}(h:Ea P B g w L l wr)(a:bN (eG wr.heap.size) w3 v t):bN (but B l.ownBlock) w3 v t:=by
 obtain⟨c,d,f,i,j,k,m⟩:=h;exact a.aR λb hb _=>⟨ja.2 ⟨by have:=ax hb;omega,λe=>by have:=(c.block b e).2;have:=ax hb;omega⟩,rfl⟩
theorem Ea.push{P:T->Prop}{B g:Nat}{w w3 w8:World}{L:List T}{t:T}{A A8:Option Addr}{c c8:Nat}{xs:List Value}{u0 u1 u2:Value}{o:Obj}(h:Ea P B g w L (.slice A L.length c) w3)
 (j:CT (but B (Value.slice A L.length c).ownBlock) w3 xs L) (l:bN (but B (Value.slice A L.length c).ownBlock) w3 (.agg #[u0,u1,u2]) t) (m:P t)
 (n:w8.ownsRow B 29 3 (.slice A8 (L.length+1) c8) (L.length+1) (xs++[u0,u1,u2])) (d:(w3.alloc o).grownBy w8 (Value.slice A L.length c).ownBlock)
 (p:A8.map (·.block)=(Value.slice A L.length c).ownBlock\/A8.map (·.block)=some (w3.alloc o).heap.size):Ea P B g w (L++[t]) (.slice A8 (L.length+1) c8) w8:=by
 obtain⟨i,q,r,f,s,u,v⟩:=h;have hb:=af w3 o;have C:=aK w3 o;refine⟨bK.Y4 j l n d p,λx a=>?_,r.aR λb D y=>?_,?_,s,u,aD v (aD hb.size d.size)⟩
 ·rcases aU.1 a with a|a;·exact q x a
  ·rw[aX]at a;subst a;exact m
 ·exact(d.block b (by omega) (λe=>by have:=(i.block b e.symm).1;omega)).t (hb.block b y)
 ·refine(f.t (hb.m f.size)).grown d (aD f.size (by omega)) (λk z=>?_);have:=(i.block k z).1;omega
namespace T
theorem Ai:∀{a b:List T},a.Sublist b->bE a<=bE b
 |_,_,.slnil=>ak _
 |_,_,.cons _ h=>by have:=Ai h;simp only[bE];omega
 |_,_,.cons_cons _ h=>by have:=Ai h;simp only[bE];omega
mutual
theorem Sa:∀(t x:T),x∈subs t->x.bC<=t.bC
 |.mk k s a,x,h=>by
  simp only[subs]at h;rcases bL.1 h with rfl|h;·exact ak _
  ·rcases aU.1 h with h|h;·have:=DV a x h;simp only[T.bC];omega
   ·split at h
    ·obtain⟨l,b,rfl⟩:=dB.1 h;have:=Ai (Aj (fB.1 b).1);simp only[T.bC,Tw];omega
    ·cases h
theorem DV:∀(l:List T) (x:T),x∈iY l->x.bC<=bE l
 |[],x,h=>by cases h
 |t::r,x,h=>by
  simp only[iY]at h;simp only[bE];rcases aU.1 h with h|h;·have:=Sa t x h;omega
  ·have:=DV r x h;omega
end
end T
theorem Pk{L:List T}:∀t∈cnt L,t.use=true:=λ_ h=>(fB.1 h).2
end
section
theorem rV{t:T}(h:t.use=true)(m:t.aC≠7){i:Nat}(hi:i<t.ay.length):(t.eQ i).use=true:=by
 unfold T.use at h;obtain⟨e,n⟩:=aP.1 h;unfold T.ground at e;obtain⟨f,c⟩:=aP.1 e;obtain⟨_,b⟩:=(T.AY t).1 n;have o:=(Ar t t (T.Bo t)).1 i hi;have g:=T.tK t (aP.1 f).2 _ o;have v:=ax (aP.1 f).1;obtain⟨k,s,a⟩:=t;have d:i<a.length:=hi;have p:(T.mk k s a).eQ i=a[i]:=(by show a.getD i T.uC=_;rw[dC,aH d];rfl);rw[p]at g⊢;have q:k≠7:=m;simp only[T.fK,aG q]at b;injection b with _ _ b;rw[T.iF]at b;have r:a[i].fK=a[i]:=by
  have j:(a.map T.fK)[i]?=a[i]?:=(by rw[b]);rw[kR,aH d]at j;exact aA j
 have l:a[i].fe=true:=(by unfold T.fe;rw[ai];exact⟨aQ (by omega),g.1⟩);have u:a[i].hasVar=false:=by
  rw[bZ]at c;simp only[T.hasVar,T.mF,kJ]at c;have:=fQ.1 c.2 a[i] (aN d);simpa using this
 unfold T.use;rw[ai];refine⟨by unfold T.ground;rw[ai];exact⟨l,by rw[u];rfl⟩,(T.AY _).2 ⟨l,r⟩⟩
theorem Xv{K:T->Prop}(h:∀t,K t->t.use=true){t:T}(c:An K t):t.use=true:=c (λt=>t.use=true) (λt a=>by
 have d:=T.oU (aP.1 (T.iJ a)).2;exact⟨λb=>⟨rV a (by omega) (by omega),rV a (by omega) (by omega)⟩,λb=>rV a (by omega) (by omega),λb _=>rV a (by omega) (by omega)⟩) h
theorem XA{L:List T}(a:L.length<=64):cnt L=L.filter T.use:=by unfold cnt;rw[aY a]
theorem Lv{L:List T}(a:L.length<=64)(hu:∀t∈L,t.use=true):cnt L=L:=by rw[XA a,List.filter_eq_self];exact hu
def Cy(l:List T):Prop:=l.Pairwise λa b=>T.cmp a b= -1
theorem AU(a:T):T.cmp a a≠ -1:=by rw[T.nS];decide
theorem Tq{a b:T}:T.cmp a b=1<->T.cmp b a= -1:=by rw[T.oK a b];constructor<;>intro h<;>omega
theorem CP:∀{l m:List T},Cy l->Cy m->(∀x,x∈l<->x∈m)->l=m
 |[],[],_,_,_=>rfl
 |[],b::r,_,_,h=>by have:=(h b).2 (by simp);cases this
 |a::r,[],_,_,h=>by have:=(h a).1 (by simp);cases this
 |a::l,b::m,g,i,h=>by
  obtain⟨d,j⟩:=fq.1 g;obtain⟨f,k⟩:=fq.1 i;have n:a=b:=by
   rcases bL.1 ((h a).1 (by simp))with e|o;·exact e
   ·rcases bL.1 ((h b).2 (by simp))with e|hb;·exact e.symm
    ·exact absurd (T.sU _ _ _ (d b hb) (f a o)) (AU a)
  subst n;rw[CP j k λx=>⟨λc=>by
   rcases bL.1 ((h x).1 (bq _ c))with e|h';·subst e;exact absurd (d x c) (AU x)
   ·exact h',λc=>by
   rcases bL.1 ((h x).2 (bq _ c))with e|h';·subst e;exact absurd (f x c) (AU x)
   ·exact h'⟩]
def yg(l:List T)(t:T):Nat->Option Nat
 |0=>some 0
 |k+1=>if 0<=T.cmp (l.getD k T.uC) t then (if T.cmp (l.getD k T.uC) t=0 then none else yg l t k) else some (k+1)
def qw(l:List T)(t:T):List T:=match yg l t l.length with
 |none=>l
 |some k=>(l.take k++[t])++l.drop k
theorem getD_at{l:List T}{k:Nat}(h:k<l.length):l.getD k T.uC=l[k]:=by rw[dC,aH h];rfl
theorem Iu {l:List T} (c:Cy l) (t:T):∀k,k<=l.length->(∀j (h:j<l.length),k<=j->T.cmp l[j] t=1)->match yg l t k with
  |none=>t∈l
  |some q=>q<=l.length/\(∀j (h:j<l.length),j<q->T.cmp l[j] t= -1)/\∀j (h:j<l.length),q<=j->T.cmp l[j] t=1
 |0,a,h=>⟨a,λj _ hj=>by omega,h⟩
 |k+1,a,h=>by
  simp only[yg];rw[getD_at (by omega)];by_cases d:0<=T.cmp l[k] t
  ·rw[aI d];by_cases b:T.cmp l[k] t=0
   ·rw[aI b];have:=T.cmp_eq _ _ b;show t∈l;rw[<-this];exact aN _
   ·rw[aG b];refine Iu c t k (by omega) λj hj i=>?_;by_cases e:j=k;·subst e;rcases T.mg l[j] t with g|g|g<;>omega
    ·exact h j hj (by omega)
  ·rw[aG d];have f:T.cmp l[k] t= -1:=(by rcases T.mg l[k] t with g|g|g<;>omega);refine⟨a,λj hj m=>?_,h⟩;by_cases e:j=k;·subst e;exact f
   ·exact T.sU _ _ _ (lT.1 c j k hj (by omega) (by omega)) f
theorem uZ{l:List T}(d:Cy l)(t:T):Cy (qw l t)/\∀x,x∈qw l t<->x∈l\/x=t:=by
 have h:=Iu d t l.length (ak _) (λj hj h=>by omega);unfold qw;cases e:yg l t l.length with
 |none=>
  rw[e]at h;exact⟨d,λx=>⟨.inl,λh'=>by rcases h' with h'|rfl;exact h';exact h⟩⟩
 |some q=>
  rw[e]at h;obtain⟨r,f,g⟩:=h;have i:∀a∈l.take q,T.cmp a t= -1:=λa c=>by
   obtain⟨j,hj,rfl⟩:=bI c;rw[kS];rw[aW]at hj;exact f j (by omega) (by omega)
  have hd:∀a∈l.drop q,T.cmp t a= -1:=λa c=>by
   obtain⟨j,hj,rfl⟩:=bI c;rw[wJ];rw[dO]at hj;exact Tq.1 (g (q+j) (by omega) (by omega))
  have k:Cy (l.take q++l.drop q):=(by rw[ku];exact d);obtain⟨m,n,o⟩:=tV.1 k;refine⟨?_,λx=>?_⟩
  ·show Cy ((l.take q++[t])++l.drop q);refine tV.2 ⟨tV.2 ⟨m,by simp,λa c b hb=>?_⟩,n,λa c b hb=>?_⟩;·rw[aX]at hb;subst hb;exact i a c
   ·rcases aU.1 c with c|c;·exact o a c b hb
    ·rw[aX]at c;subst c;exact hd b hb
  ·show x∈(l.take q++[t])++l.drop q<->_;have p:x∈l<->x∈l.take q\/x∈l.drop q:=(by rw[<-aU,ku]);rw[p,aU,aU,aX];constructor
   ·rintro((h|h)|h);·exact .inl (.inl h)
    ·exact .inr h
    ·exact .inl (.inr h)
   ·rintro((h|h)|h);·exact .inl (.inl h)
    ·exact .inr h
    ·exact .inl (.inr h)
def Q5(l:List T)(t:T):Bool:=l.any λx=>decide (T.cmp x t=0)
theorem yE{l:List T}{t:T}:Q5 l t=true<->t∈l:=by
 unfold Q5;rw[eU];constructor
 ·rintro⟨x,a,h⟩;have:=T.cmp_eq _ _ (ax h);rw[<-this];exact a
 ·intro h;exact⟨t,h,by rw[T.nS];rfl⟩
def uj:List T->List T->Option (List T)
 |l,[]=>some l
 |l,m::a=>match l.findIdx? (λx=>decide (T.cmp x m=0))with
  |none=>none
  |some k=>uj (l.eraseIdx k) a
theorem vZ:∀{l:List T} {k:Nat} (h:k<l.length),l.Perm (l[k]::l.eraseIdx k)
 |a::r,0,_=>mQ _
 |a::r,k+1,h=>by
  have:=vZ (l:=r) (k:=k) (by simpa using h);simp only[fD,qA];exact(this.cons a).t (List.Perm.swap _ _ _)
theorem D7:∀{m l r:List T},uj l m=some r->l.Perm (m++r)
 |[],l,r,h=>by simp only[uj]at h;injection h with h;rw[h];exact mQ _
 |x::d,l,r,h=>by
  simp only[uj]at h;cases a:l.findIdx? (λy=>decide (T.cmp y x=0))with
  |none=>rw[a]at h;cases h
  |some k=>
   rw[a]at h;rw[jP]at a;obtain⟨b,c,_⟩:=a;have e:=T.cmp_eq _ _ (ax c);have:=(vZ b).t ((D7 h).cons l[k]);rw[e]at this;exact this
theorem D6:∀{m l r:List T},l.Perm (m++r)->∃b,uj l m=some b/\b.Perm r
 |[],l,r,h=>⟨l,rfl,h⟩
 |x::i,l,r,h=>by
  simp only[uj];cases a:l.findIdx? (λy=>decide (T.cmp y x=0))with
  |none=>
   rw[wE]at a;have d:x∈l:=h.mem_iff.2 (by simp);have:=a x d;rw[T.nS]at this;simp at this
  |some k=>
   rw[jP]at a;obtain⟨f,g,_⟩:=a;have e:=T.cmp_eq _ _ (ax g);have c:=(vZ f).symm.t h;rw[e]at c;exact D6 (vw c)
def UK(l:List T)(t:T):Bool:=(l.any λp=>decide (p.aC=7)&&match uj t.ay p.ay with
 |none=>false
 |some r=>r.all (Q5 l))||t.ay.all (Q5 l)
def uE:Nat->List T->T->Bool
 |0,_,_=>false
 |n+1,l,t=>Q5 l t||(if t.aC=3\/t.aC=5\/t.aC=6\/t.aC=4 then t.ay.all (uE n l) else if t.aC=7 then UK l t else false)
theorem J6{l r:List T}:r.all (Q5 l)=true<->∀x∈r,x∈l:=by
 rw[cz];exact⟨λh x a=>yE.1 (h x a),λh x a=>yE.2 (h x a)⟩
theorem DD{l:List T}{t:T}:UK l t=true<->(∃p∈l,p.aC=7/\∃r,t.ay.Perm (p.ay++r)/\∀x∈r,x∈l)\/∀x∈t.ay,x∈l:=by
 unfold UK;rw[fH,J6,eU];refine or_congr ⟨?_,?_⟩ tL
 ·rintro⟨p,a,h⟩;rw[ai]at h;refine⟨p,a,ax h.1,?_⟩;cases b:uj t.ay p.ay with
  |none=>rw[b]at h;exact absurd h.2 (by simp)
  |some r=>
   rw[b]at h;exact⟨r,D7 b,J6.1 h.2⟩
 ·rintro⟨p,a,c,r,d,e⟩;obtain⟨j,f,g⟩:=D6 d;refine⟨p,a,?_⟩;rw[ai,f];exact⟨aQ c,J6.2 λx i=>e x (g.mem_iff.1 i)⟩
theorem yG{t:T}{i:Nat}(h:i<t.ay.length):t.eQ i=t.ay[i]:=by show t.ay.getD i T.uC=_;rw[dC,aH h];rfl
theorem wX{U l:List T}(hU:yA U):∀(n:Nat) (t:T),t∈U->t.bC<n->sw (· ∈l) t->uE n l t=true
 |0,_,_,hb,_=>by omega
 |n+1,t,d,hb,o=>by
  have y:=T.oU (aP.1 (hU.ok t d)).2;have g:∀i,i<t.ay.length->sw (· ∈l) (t.eQ i)->uE n l (t.eQ i)=true:=λi hi h=>wX hU n _ (hU.eQ t d i hi) (by have:=T.Dh hi;omega) h;simp only[uE];rw[fH,yE];cases o with
  |base h=>exact .inl h
  |hash z h0=>
   right;rw[aI (by omega),cz];intro x b;obtain⟨i,hi,rfl⟩:=bI b;obtain rfl:i=0:=(by omega);rw[<-yG hi];exact g 0 hi h0
  |two A h0 e=>
   right;rw[aI (by omega),cz];intro x b;obtain⟨i,hi,rfl⟩:=bI b;rw[<-yG hi];rcases(by omega:i=0\/i=1)with rfl|rfl;·exact g 0 hi h0
   ·exact g 1 hi e
  |raise c e h0=>
   right;rw[aG (by omega),aI c,DD];right;intro x b;obtain⟨i,hi,rfl⟩:=bI b;obtain rfl:i=0:=(by omega);rw[<-yG hi];exact h0.atom (CY (aP.1 (hU.ok t d)).2 c hi)
  |pow i c e hi q b=>
   right;rw[aG (by omega),aI c,DD];have j:t.ay[i]∈l:=by
    rw[<-yG hi];exact b.atom (CY (aP.1 (hU.ok t d)).2 c hi)
   have k:t.ay.Perm (t.ay[i]::(t.iI i).ay):=vZ hi;have f:=wX hU n _ (hU.less t d c e i hi) (by have:=T.Ba hi;omega) q;cases n with
   |zero=>cases f
   |succ n=>
    simp only[uE]at f;have m:(t.iI i).aC=7:=rfl;rw[fH,yE,aG (by omega),aI m,DD]at f;rcases f with h|⟨p,s,u,r,v,w⟩|h;·exact .inl ⟨_,h,m,[t.ay[i]],k.t (by rw[<-List.singleton_append];exact zn),λx b=>by rw[aX]at b;rw[b];exact j⟩
    ·refine .inl ⟨p,s,u,t.ay[i]::r,k.t ((v.cons _).t ?_),λx b=>?_⟩;·exact(xM (l₁:=p.ay) (l₂:=r) (a:=t.ay[i])).symm
     ·rcases bL.1 b with rfl|b;·exact j
      ·exact w x b
    ·right;intro x b;rcases bL.1 (k.mem_iff.1 b)with rfl|b;·exact j
     ·exact h x b
def Xr(l:List T):Prop:=l.Pairwise λa b=>T.cmp a b<=0
theorem D5:∀{l m:List T},Xr l->Xr m->l.Perm m->l=m
 |[],m,_,_,h=>(List.nil_perm.1 h).symm
 |a::l,[],_,_,h=>absurd h.length_eq (by simp)
 |a::l,b::m,c,d,h=>by
  obtain⟨f,g⟩:=fq.1 c;obtain⟨i,j⟩:=fq.1 d;have k:a=b:=by
   rcases bL.1 (h.mem_iff.1 (show a∈a::l by simp))with e|n;·exact e
   ·rcases bL.1 (h.mem_iff.2 (show b∈b::m by simp))with e|hb;·exact e.symm
    ·have o:=f b hb;have p:=i a n;have q:=T.oK a b;exact T.cmp_eq _ _ (by omega)
  subst k;rw[D5 g j (vw h)]
theorem U8{l:List T}(h:Xr l)(i:Nat):Xr (l.eraseIdx i):=zl (og l i) h
theorem Vb{t:T}(h:t.use=true)(d:t.aC=7):Xr t.ay/\t.aJ=⟨#[]⟩:=by
 have e:=T.iJ h;unfold T.use at h;obtain⟨_,a⟩:=(T.AY t).1 (aP.1 h).2;have b:=(aP.1 e).2;obtain⟨k,s,c⟩:=t;obtain rfl:k=7:=d;simp only[T.fK,aI]at a;injection a with _ _ a;refine⟨?_,?_⟩
 ·have:=T.G7 (T.gJ c);rw[a]at this;exact this
 ·rw[T.qy 7 s c (by decide) (by decide)]at b;have f:=(aP.1 (aP.1 b).1).2;show s=⟨#[]⟩;exact T.GH f
theorem M6{l:List T}{p:T}(c:p∈l)(d:p.aC=7)(f:p.aJ=⟨#[]⟩)(g:Xr p.ay)(m:1<=p.ay.length):∀(r a:List T),Xr a->a.Perm (p.ay++r)->(∀x∈r,x∈l)->sw (· ∈l) (.mk 7 ⟨#[]⟩ a)
 |[],a,hu,b,_=>by
  rw[dS]at b;have e:=D5 hu g b;obtain⟨k,s,n⟩:=p;obtain rfl:k=7:=d;obtain rfl:s=⟨#[]⟩:=f;have o:a=n:=e;rw[o];exact .base c
 |x::r,a,hu,b,h=>by
  have q:x∈a:=b.mem_iff.2 (jA _ (by simp));obtain⟨j,hj,e⟩:=bI q;have v:a.length=p.ay.length+(r.length+1):=(by rw[b.length_eq];simp);have u:(a.eraseIdx j).Perm (p.ay++r):=by
   have i:=(vZ hj).symm.t (b.t xM);rw[e]at i;exact vw i
  refine .pow j rfl (show 1<a.length by omega) hj (M6 c d f g m r _ (U8 hu j) u λy hy=>h y (bq _ hy)) (.base ?_);show T.eQ (.mk 7 ⟨#[]⟩ a) j∈l;rw[yG (t:=.mk 7 ⟨#[]⟩ a) hj];show a[j]∈l;rw[e];exact h x (by simp)
theorem JR{l:List T}:∀(n:Nat) (a:List T),a.length=n+1->(∀x∈a,x∈l)->sw (· ∈l) (.mk 7 ⟨#[]⟩ a)
 |0,a,b,h=>by
  refine .raise rfl b (.base ?_);show T.eQ (.mk 7 ⟨#[]⟩ a) 0∈l;rw[yG (t:=.mk 7 ⟨#[]⟩ a) (show 0<a.length by omega)];exact h _ (aN _)
 |n+1,a,b,h=>by
  refine .pow 0 rfl (show 1<a.length by omega) (show 0<a.length by omega) (JR n (a.eraseIdx 0) ?_ λx c=>h x ((og a 0).subset c)) (.base ?_);·rw[List.length_eraseIdx,aI (by omega)];omega
  ·show T.eQ (.mk 7 ⟨#[]⟩ a) 0∈l;rw[yG (t:=.mk 7 ⟨#[]⟩ a) (show 0<a.length by omega)];exact h _ (aN _)
theorem Ct{l:List T}(b:∀p∈l,p.use=true):∀(n:Nat) (t:T),t.use=true->uE n l t=true->sw (· ∈l) t
 |0,_,_,h=>by cases h
 |n+1,t,hu,h=>by
  have g:=T.oU (aP.1 (T.iJ hu)).2;simp only[uE]at h;rw[fH,yE]at h;rcases h with h|h;·exact .base h
  ·split at h
   ·rename_i x;rw[cz]at h;have c:∀i,i<t.ay.length->sw (· ∈l) (t.eQ i):=λi hi=>Ct b n _ (rV hu (by omega) hi) (by rw[yG hi];exact h _ (aN hi));by_cases j:t.aC=4;·exact .hash j (c 0 (by omega))
    ·exact .two (by omega) (c 0 (by omega)) (c 1 (by omega))
   ·split at h
    ·rename_i e;obtain⟨m,o⟩:=Vb hu e;rw[DD]at h;obtain⟨k,s,a⟩:=t;obtain rfl:k=7:=e;obtain rfl:s=⟨#[]⟩:=o;rcases h with⟨p,d,f,r,q,u⟩|h
     ·obtain⟨v,w⟩:=Vb (b p d) f;have y:=T.oU (aP.1 (T.iJ (b p d))).2;exact M6 d f w v (by omega) r a m q u
     ·have z:1<=a.length:=by
       rcases g with⟨h,_⟩|⟨h,_⟩|⟨h,_⟩|⟨_,h,_⟩;·have h':(7:Int)=1\/(7:Int)=2:=h;omega
       ·have h':(7:Int)=3\/(7:Int)=5\/(7:Int)=6:=h;omega
       ·have h':(7:Int)=4:=h;omega
       ·exact h
      exact JR (a.length-1) a (by omega) h
    ·cases h
theorem O3{U l:List T}(hU:yA U)(a:∀p∈l,p.use=true){t:T}(b:t∈U)(hu:t.use=true){n:Nat}(c:t.bC<n):uE n l t=true<->sw (· ∈l) t:=⟨Ct a n t hu,wX hU n t b c⟩
end
end Go.Proofs.YtaciciokmpbkkaaGreatDoor
