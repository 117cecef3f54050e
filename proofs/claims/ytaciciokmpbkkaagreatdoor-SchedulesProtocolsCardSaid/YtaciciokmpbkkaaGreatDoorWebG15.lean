import Derived.Test.YtaciciokmpbkkaaGreatDoorWebG14
set_option maxRecDepth 100000
set_option maxHeartbeats 16000000
namespace Go.Proofs.YtaciciokmpbkkaaGreatDoor
section
open Go.RowKit
attribute [local go_sem ↓] Go.wp_at_zero Go.wp_at_succ
end
section
open Go.RowKit
theorem nA.aR{B g:Nat}{w w':World}(h:nA B g w)(d:∀b,b<=g->b<w.heap.size->w'.heap[b]?=w.heap[b]?):nA B g w':=by
 have f:=h.lt;obtain⟨h0,A,n,c,k,i,l,m,o,a⟩:=h;refine⟨h0,A,n,c,k,(d g (ax _) f).t i,l,m,o,?_⟩;rcases a with a|⟨b,off,p,e,q⟩;·exact .inl a
 ·refine .inr ⟨b,off,p,e,λj hj=>?_⟩;obtain⟨z,r,s⟩:=q j hj;refine⟨z,?_,s⟩;rw[<-r];exact dB (d b aar aar)
theorem bK.Zg{w1 w3:World}{base:Nat}{v:Value}{L:List T}{t:T}{A8:Option Addr}{c8:Nat}{xs:List Value}{u0 u1 u2:Value}{o:Obj}(c:CT (but base v.ownBlock) w1 xs L)
 (f:bI (but base v.ownBlock) w1 (.agg #[u0,u1,u2]) t) (d:w3.ownsRow base 29 3 (.slice A8 (L.length+1) c8) (L.length+1) (xs++[u0,u1,u2]))
 (g:(w1.alloc o).grownBy w3 v.ownBlock) (j:A8.map (·.block)=v.ownBlock\/A8.map (·.block)=some (w1.alloc o).heap.size):bK w3 base (.slice A8 (L.length+1) c8) (L++[t]):=by
 obtain⟨x,cap,e,_⟩:=d.form aar;injection e with k y l;subst k;subst l;refine bK.snoc (w:=w1.alloc o) (H:=(w1.alloc o).heap.size) (λi hi=>?_) c.1 ?_ d g ?_ rfl
 ·obtain⟨a0,m,n,p,q,r,b3⟩:=c.2 i hi;exact⟨a0,m,n,p,q,r,b3.aR λb s a=>⟨s,fK w1 o b a⟩⟩
 ·exact f.aR λb u a=>⟨u,fK w1 o b a⟩
 ·rcases j with h|h;·exact .inl h.symm
  ·right;injection h
def Ey(P:T->Prop)(B g:Nat)(w:World)(L:List T)(l:Value)(wr:World):Prop:=bK wr B l L/\(∀t∈L,P t)/\nA g g wr/\Below w.heap.size w wr/\w.heap.size<=g/\g<B/\B<=wr.heap.size
theorem Ey.step{P:T->Prop}{B g:Nat}{w wr w3:World}{L:List T}{l:Value}(h:Ey P B g w L l wr)(hd:nA g g w3)(a:wr.grownBy w3 (some g)):Ey P B g w L l w3:=by
 obtain⟨d,f,q,c,i,j,m⟩:=h;exact⟨d.aR λb hb n=>a.block b n (λe=>by have o:b=g:=aB e;omega),f,hd,c.grown a c.size (λk p=>by have o:g=k:=aB p;omega),i,j,aG m a.size⟩
theorem Ey.ag{P:T->Prop}{B g:Nat}{w wr w3:World}{L:List T}{l:Value}(h:Ey P B g w L l wr)(hb:Below wr.heap.size wr w3):Ey P B g w L l w3:=by
 obtain⟨c,d,a,b,e,f,i⟩:=h;exact⟨c.ag hb,d,a.below hb a.lt,b.t (hb.m b.size),e,f,aG i hb.size⟩
theorem Ey.cells{P:T->Prop}{B g:Nat}{w wr:World}{L:List T}{l:Value}(h:Ey P B g w L l wr):∃A c xs,l=.slice A L.length c/\wr.ownsRow B 29 3 (.slice A L.length c) L.length xs/\CT (but B (Value.slice A L.length c).ownBlock) wr xs L:=by
 obtain⟨xs,a,b⟩:=h.1.cells;obtain⟨A,c,rfl⟩:=oO a;exact⟨A,c,xs,rfl,a,b⟩
theorem Ey.apart{P:T->Prop}{B g:Nat}{w wr w3:World}{L:List T}{l v:Value}{t:T}(h:Ey P B g w L l wr)(a:bI (dP wr.heap.size) w3 v t):bI (but B l.ownBlock) w3 v t:=by
 obtain⟨c,d,f,i,j,k,m⟩:=h;exact a.aR λb hb _=>⟨jd.2 ⟨aaz (ak hb),λe=>aaA ((c.block b e).2) (ak hb)⟩,rfl⟩
theorem Ey.push{P:T->Prop}{B g:Nat}{w w3 w8:World}{L:List T}{t:T}{A A8:Option Addr}{c c8:Nat}{xs:List Value}{u0 u1 u2:Value}{o:Obj}(h:Ey P B g w L (.slice A L.length c) w3)
 (j:CT (but B (Value.slice A L.length c).ownBlock) w3 xs L) (l:bI (but B (Value.slice A L.length c).ownBlock) w3 (.agg #[u0,u1,u2]) t) (m:P t)
 (n:w8.ownsRow B 29 3 (.slice A8 (L.length+1) c8) (L.length+1) (xs++[u0,u1,u2])) (d:(w3.alloc o).grownBy w8 (Value.slice A L.length c).ownBlock)
 (p:A8.map (·.block)=(Value.slice A L.length c).ownBlock\/A8.map (·.block)=some (w3.alloc o).heap.size):Ey P B g w (L++[t]) (.slice A8 (L.length+1) c8) w8:=by
 obtain⟨i,q,r,f,s,u,v⟩:=h;have hb:=ae w3 o;have C:=aK w3 o;refine⟨bK.Zg j l n d p,λx a=>?_,r.aR λb D y=>?_,?_,s,u,aG v (aG hb.size d.size)⟩
 ·rcases bu.1 a with a|a;·exact q x a
  ·rw[bD]at a;subst a;exact m
 ·exact(d.block b aar (λe=>aaz ((i.block b e.symm).1))).t (hb.block b y)
 ·refine(f.t (hb.m f.size)).grown d (aG f.size aar) (λk z=>?_);have:=(i.block k z).1;omega
namespace T
theorem AV:∀{a b:List T},a.Sublist b->bJ a<=bJ b
 |_,_,.slnil=>ax _
 |_,_,.cons _ h=>by have:=AV h;simp only[bJ];omega
 |_,_,.cons_cons _ h=>by have:=AV h;simp only[bJ];omega
mutual
theorem Sz:∀(t x:T),x∈subs t->x.bE<=t.bE
 |.mk k s a,x,h=>by
  simp only[subs]at h;rcases bM.1 h with rfl|h;·exact ax _
  ·rcases bu.1 h with h|h;·have:=Em a x h;simp only[T.bE];omega
   ·split at h
    ·obtain⟨l,b,rfl⟩:=ek.1 h;have:=AV (AX (fU.1 b).1);simp only[T.bE,TN];omega
    ·cases h
theorem Em:∀(l:List T) (x:T),x∈jb l->x.bE<=bJ l
 |[],x,h=>by cases h
 |t::r,x,h=>by
  simp only[jb]at h;simp only[bJ];rcases bu.1 h with h|h;·have:=Sz t x h;omega
  ·have:=Em r x h;omega
end
end T
theorem PT{L:List T}:∀t∈cnt L,t.use=true:=λ_ h=>(fU.1 h).2
end
section
theorem rW{t:T}(h:t.use=true)(m:t.aA≠7){i:Nat}(hi:i<t.ay.length):(t.eT i).use=true:=by
 unfold T.use at h;obtain⟨e,n⟩:=aN.1 h;unfold T.ground at e;obtain⟨f,c⟩:=aN.1 e;obtain⟨_,b⟩:=(T.Bz t).1 n;have o:=(AZ t t (T.BR t)).1 i hi;have g:=T.tL t (aN.1 f).2 _ o;have v:=ak (aN.1 f).1;obtain⟨k,s,a⟩:=t;have d:i<a.length:=hi;have p:(T.mk k s a).eT i=a[i]:=(by show a.getD i T.qz=_;rw[dn,az d];rfl);rw[p]at g⊢;have q:k≠7:=m;simp only[T.fM,aH q]at b;injection b with _ _ b;rw[T.iA]at b;have r:a[i].fM=a[i]:=by
  have j:(a.map T.fM)[i]?=a[i]?:=(by rw[b]);rw[kQ,az d]at j;exact aB j
 have l:a[i].eZ=true:=(by unfold T.eZ;rw[ah];exact⟨aM aar,g.1⟩);have u:a[i].hasVar=false:=by
  rw[bT]at c;simp only[T.hasVar,T.nS,kL]at c;have:=fH.1 c.2 a[i] (aP d);simpa using this
 unfold T.use;rw[ah];refine⟨by unfold T.ground;rw[ah];exact⟨l,by rw[u];rfl⟩,(T.Bz _).2 ⟨l,r⟩⟩
theorem XJ{K:T->Prop}(h:∀t,K t->t.use=true){t:T}(c:An K t):t.use=true:=c (λt=>t.use=true) (λt a=>by
 have d:=T.oZ (aN.1 (T.ik a)).2;exact⟨λb=>⟨rW a aar aar,rW a aar aar⟩,λb=>rW a aar aar,λb _=>rW a aar aar⟩) h
theorem XN{L:List T}(a:L.length<=64):cnt L=L.filter T.use:=by unfold cnt;rw[bG a]
theorem Mf{L:List T}(a:L.length<=64)(hu:∀t∈L,t.use=true):cnt L=L:=by rw[XN a,List.filter_eq_self];exact hu
def CY(l:List T):Prop:=l.Pairwise λa b=>T.cmp a b= -1
theorem Bu(a:T):T.cmp a a≠ -1:=by rw[T.pQ];decide
theorem TI{a b:T}:T.cmp a b=1<->T.cmp b a= -1:=by rw[T.oL a b];constructor<;>intro h<;>omega
theorem Df:∀{l m:List T},CY l->CY m->(∀x,x∈l<->x∈m)->l=m
 |[],[],_,_,_=>rfl
 |[],b::r,_,_,h=>by have:=(h b).2 aau;cases this
 |a::r,[],_,_,h=>by have:=(h a).1 aau;cases this
 |a::l,b::m,g,i,h=>by
  obtain⟨d,j⟩:=fe.1 g;obtain⟨f,k⟩:=fe.1 i;have n:a=b:=by
   rcases bM.1 ((h a).1 aau)with e|o;·exact e
   ·rcases bM.1 ((h b).2 aau)with e|hb;·exact e.symm
    ·exact absurd (T.sV _ _ _ (d b hb) (f a o)) (Bu a)
  subst n;rw[Df j k λx=>⟨λc=>by
   rcases bM.1 ((h x).1 (aY _ c))with e|h';·subst e;exact absurd (d x c) (Bu x)
   ·exact h',λc=>by
   rcases bM.1 ((h x).2 (aY _ c))with e|h';·subst e;exact absurd (f x c) (Bu x)
   ·exact h'⟩]
def Km(l:List T)(t:T):Nat->Option Nat
 |0=>some 0
 |k+1=>if 0<=T.cmp (l.getD k T.qz) t then (if T.cmp (l.getD k T.qz) t=0 then none else Km l t k) else some (k+1)
def zF(l:List T)(t:T):List T:=match Km l t l.length with
 |none=>l
 |some k=>(l.take k++[t])++l.drop k
theorem getD_at{l:List T}{k:Nat}(h:k<l.length):l.getD k T.qz=l[k]:=by rw[dn,az h];rfl
theorem IX {l:List T} (c:CY l) (t:T):∀k,k<=l.length->(∀j (h:j<l.length),k<=j->T.cmp l[j] t=1)->match Km l t k with
  |none=>t∈l
  |some q=>q<=l.length/\(∀j (h:j<l.length),j<q->T.cmp l[j] t= -1)/\∀j (h:j<l.length),q<=j->T.cmp l[j] t=1
 |0,a,h=>⟨a,λj _ hj=>aar,h⟩
 |k+1,a,h=>by
  simp only[Km];rw[getD_at aaF];by_cases d:0<=T.cmp l[k] t
  ·rw[aJ d];by_cases b:T.cmp l[k] t=0
   ·rw[aJ b];have:=T.cmp_eq _ _ b;show t∈l;rw[<-this];exact aP _
   ·rw[aH b];refine IX c t k aar λj hj i=>?_;by_cases e:j=k;·subst e;rcases T.mY l[j] t with g|g|g<;>omega
    ·exact h j hj aar
  ·rw[aH d];have f:T.cmp l[k] t= -1:=(by rcases T.mY l[k] t with g|g|g<;>omega);refine⟨a,λj hj m=>?_,h⟩;by_cases e:j=k;·subst e;exact f
   ·exact T.sV _ _ _ (lV.1 c j k hj aar aar) f
theorem vC{l:List T}(d:CY l)(t:T):CY (zF l t)/\∀x,x∈zF l t<->x∈l\/x=t:=by
 have h:=IX d t l.length (ax _) (λj hj h=>aar);unfold zF;cases e:Km l t l.length with
 |none=>
  rw[e]at h;exact⟨d,λx=>⟨.inl,λh'=>by rcases h' with h'|rfl;exact h';exact h⟩⟩
 |some q=>
  rw[e]at h;obtain⟨r,f,g⟩:=h;have i:∀a∈l.take q,T.cmp a t= -1:=λa c=>by
   obtain⟨j,hj,rfl⟩:=bL c;rw[nX];rw[aX]at hj;exact f j aar aar
  have hd:∀a∈l.drop q,T.cmp t a= -1:=λa c=>by
   obtain⟨j,hj,rfl⟩:=bL c;rw[wO];rw[dO]at hj;exact TI.1 (g (q+j) aar aar)
  have k:CY (l.take q++l.drop q):=(by rw[lN];exact d);obtain⟨m,n,o⟩:=ug.1 k;refine⟨?_,λx=>?_⟩
  ·show CY ((l.take q++[t])++l.drop q);refine ug.2 ⟨ug.2 ⟨m,aau,λa c b hb=>?_⟩,n,λa c b hb=>?_⟩;·rw[bD]at hb;subst hb;exact i a c
   ·rcases bu.1 c with c|c;·exact o a c b hb
    ·rw[bD]at c;subst c;exact hd b hb
  ·show x∈(l.take q++[t])++l.drop q<->_;have p:x∈l<->x∈l.take q\/x∈l.drop q:=(by rw[<-bu,lN]);rw[p,bu,bu,bD];constructor
   ·rintro((h|h)|h);·exact .inl (.inl h)
    ·exact .inr h
    ·exact .inl (.inr h)
   ·rintro((h|h)|h);·exact .inl (.inl h)
    ·exact .inr h
    ·exact .inl (.inr h)
def Rx(l:List T)(t:T):Bool:=l.any λx=>decide (T.cmp x t=0)
theorem yG{l:List T}{t:T}:Rx l t=true<->t∈l:=by
 unfold Rx;rw[dM];constructor
 ·rintro⟨x,a,h⟩;have:=T.cmp_eq _ _ (ak h);rw[<-this];exact a
 ·intro h;exact⟨t,h,by rw[T.pQ];rfl⟩
def uu:List T->List T->Option (List T)
 |l,[]=>some l
 |l,m::a=>match l.findIdx? (λx=>decide (T.cmp x m=0))with
  |none=>none
  |some k=>uu (l.eraseIdx k) a
theorem wD:∀{l:List T} {k:Nat} (h:k<l.length),l.Perm (l[k]::l.eraseIdx k)
 |a::r,0,_=>mQ _
 |a::r,k+1,h=>by
  have:=wD (l:=r) (k:=k) aaD;simp only[fJ,qC];exact(this.cons a).t (List.Perm.swap _ _ _)
theorem Ev:∀{m l r:List T},uu l m=some r->l.Perm (m++r)
 |[],l,r,h=>by simp only[uu]at h;injection h with h;rw[h];exact mQ _
 |x::d,l,r,h=>by
  simp only[uu]at h;cases a:l.findIdx? (λy=>decide (T.cmp y x=0))with
  |none=>rw[a]at h;cases h
  |some k=>
   rw[a]at h;rw[jS]at a;obtain⟨b,c,_⟩:=a;have e:=T.cmp_eq _ _ (ak c);have:=(wD b).t ((Ev h).cons l[k]);rw[e]at this;exact this
theorem Eu:∀{m l r:List T},l.Perm (m++r)->∃b,uu l m=some b/\b.Perm r
 |[],l,r,h=>⟨l,rfl,h⟩
 |x::i,l,r,h=>by
  simp only[uu];cases a:l.findIdx? (λy=>decide (T.cmp y x=0))with
  |none=>
   rw[wK]at a;have d:x∈l:=h.mem_iff.2 aau;have:=a x d;rw[T.pQ]at this;simp at this
  |some k=>
   rw[jS]at a;obtain⟨f,g,_⟩:=a;have e:=T.cmp_eq _ _ (ak g);have c:=(wD f).symm.t h;rw[e]at c;exact Eu (vG c)
def U6(l:List T)(t:T):Bool:=(l.any λp=>decide (p.aA=7)&&match uu t.ay p.ay with
 |none=>false
 |some r=>r.all (Rx l))||t.ay.all (Rx l)
def uI:Nat->List T->T->Bool
 |0,_,_=>false
 |n+1,l,t=>Rx l t||(if t.aA=3\/t.aA=5\/t.aA=6\/t.aA=4 then t.ay.all (uI n l) else if t.aA=7 then U6 l t else false)
theorem KC{l r:List T}:r.all (Rx l)=true<->∀x∈r,x∈l:=by
 rw[bQ];exact⟨λh x a=>yG.1 (h x a),λh x a=>yG.2 (h x a)⟩
theorem D8{l:List T}{t:T}:U6 l t=true<->(∃p∈l,p.aA=7/\∃r,t.ay.Perm (p.ay++r)/\∀x∈r,x∈l)\/∀x∈t.ay,x∈l:=by
 unfold U6;rw[eH,KC,dM];refine or_congr ⟨?_,?_⟩ tQ
 ·rintro⟨p,a,h⟩;rw[ah]at h;refine⟨p,a,ak h.1,?_⟩;cases b:uu t.ay p.ay with
  |none=>rw[b]at h;exact absurd h.2 aau
  |some r=>
   rw[b]at h;exact⟨r,Ev b,KC.1 h.2⟩
 ·rintro⟨p,a,c,r,d,e⟩;obtain⟨j,f,g⟩:=Eu d;refine⟨p,a,?_⟩;rw[ah,f];exact⟨aM c,KC.2 λx i=>e x (g.mem_iff.1 i)⟩
theorem yI{t:T}{i:Nat}(h:i<t.ay.length):t.eT i=t.ay[i]:=by show t.ay.getD i T.qz=_;rw[dn,az h];rfl
theorem wZ{U l:List T}(hU:yB U):∀(n:Nat) (t:T),t∈U->t.bE<n->sD (· ∈l) t->uI n l t=true
 |0,_,_,hb,_=>by omega
 |n+1,t,d,hb,o=>by
  have y:=T.oZ (aN.1 (hU.ok t d)).2;have g:∀i,i<t.ay.length->sD (· ∈l) (t.eT i)->uI n l (t.eT i)=true:=λi hi h=>wZ hU n _ (hU.eT t d i hi) (aaz (T.DF hi)) h;simp only[uI];rw[eH,yG];cases o with
  |base h=>exact .inl h
  |hash z h0=>
   right;rw[aJ aar,bQ];intro x b;obtain⟨i,hi,rfl⟩:=bL b;obtain rfl:i=0:=aar;rw[<-yI hi];exact g 0 hi h0
  |two A h0 e=>
   right;rw[aJ aar,bQ];intro x b;obtain⟨i,hi,rfl⟩:=bL b;rw[<-yI hi];rcases(by omega:i=0\/i=1)with rfl|rfl;·exact g 0 hi h0
   ·exact g 1 hi e
  |raise c e h0=>
   right;rw[aH aar,aJ c,D8];right;intro x b;obtain⟨i,hi,rfl⟩:=bL b;obtain rfl:i=0:=aar;rw[<-yI hi];exact h0.atom (Dt (aN.1 (hU.ok t d)).2 c hi)
  |pow i c e hi q b=>
   right;rw[aH aar,aJ c,D8];have j:t.ay[i]∈l:=by
    rw[<-yI hi];exact b.atom (Dt (aN.1 (hU.ok t d)).2 c hi)
   have k:t.ay.Perm (t.ay[i]::(t.iF i).ay):=wD hi;have f:=wZ hU n _ (hU.less t d c e i hi) (aaz (T.BF hi)) q;cases n with
   |zero=>cases f
   |succ n=>
    simp only[uI]at f;have m:(t.iF i).aA=7:=rfl;rw[eH,yG,aH aar,aJ m,D8]at f;rcases f with h|⟨p,s,u,r,v,w⟩|h;·exact .inl ⟨_,h,m,[t.ay[i]],k.t (by rw[<-List.singleton_append];exact zA),λx b=>by rw[bD]at b;rw[b];exact j⟩
    ·refine .inl ⟨p,s,u,t.ay[i]::r,k.t ((v.cons _).t ?_),λx b=>?_⟩;·exact(xO (l₁:=p.ay) (l₂:=r) (a:=t.ay[i])).symm
     ·rcases bM.1 b with rfl|b;·exact j
      ·exact w x b
    ·right;intro x b;rcases bM.1 (k.mem_iff.1 b)with rfl|b;·exact j
     ·exact h x b
def XG(l:List T):Prop:=l.Pairwise λa b=>T.cmp a b<=0
theorem Es:∀{l m:List T},XG l->XG m->l.Perm m->l=m
 |[],m,_,_,h=>(List.nil_perm.1 h).symm
 |a::l,[],_,_,h=>absurd h.length_eq aau
 |a::l,b::m,c,d,h=>by
  obtain⟨f,g⟩:=fe.1 c;obtain⟨i,j⟩:=fe.1 d;have k:a=b:=by
   rcases bM.1 (h.mem_iff.1 (show a∈a::l by simp))with e|n;·exact e
   ·rcases bM.1 (h.mem_iff.2 (show b∈b::m by simp))with e|hb;·exact e.symm
    ·have o:=f b hb;have p:=i a n;have q:=T.oL a b;exact T.cmp_eq _ _ aar
  subst k;rw[Es g j (vG h)]
theorem Vp{l:List T}(h:XG l)(i:Nat):XG (l.eraseIdx i):=zw (nU l i) h
theorem Vt{t:T}(h:t.use=true)(d:t.aA=7):XG t.ay/\t.aI=⟨#[]⟩:=by
 have e:=T.ik h;unfold T.use at h;obtain⟨_,a⟩:=(T.Bz t).1 (aN.1 h).2;have b:=(aN.1 e).2;obtain⟨k,s,c⟩:=t;obtain rfl:k=7:=d;simp only[T.fM,aJ]at a;injection a with _ _ a;refine⟨?_,?_⟩
 ·have:=T.Ib (T.fV c);rw[a]at this;exact this
 ·rw[T.qB 7 s c aat abe]at b;have f:=(aN.1 (aN.1 b).1).2;show s=⟨#[]⟩;exact T.Hm f
theorem NF{l:List T}{p:T}(c:p∈l)(d:p.aA=7)(f:p.aI=⟨#[]⟩)(g:XG p.ay)(m:1<=p.ay.length):∀(r a:List T),XG a->a.Perm (p.ay++r)->(∀x∈r,x∈l)->sD (· ∈l) (.mk 7 ⟨#[]⟩ a)
 |[],a,hu,b,_=>by
  rw[dK]at b;have e:=Es hu g b;obtain⟨k,s,n⟩:=p;obtain rfl:k=7:=d;obtain rfl:s=⟨#[]⟩:=f;have o:a=n:=e;rw[o];exact .base c
 |x::r,a,hu,b,h=>by
  have q:x∈a:=b.mem_iff.2 (jE _ aau);obtain⟨j,hj,e⟩:=bL q;have v:a.length=p.ay.length+(r.length+1):=(by rw[b.length_eq];simp);have u:(a.eraseIdx j).Perm (p.ay++r):=by
   have i:=(wD hj).symm.t (b.t xO);rw[e]at i;exact vG i
  refine .pow j rfl (show 1<a.length by omega) hj (NF c d f g m r _ (Vp hu j) u λy hy=>h y (aY _ hy)) (.base ?_);show T.eT (.mk 7 ⟨#[]⟩ a) j∈l;rw[yI (t:=.mk 7 ⟨#[]⟩ a) hj];show a[j]∈l;rw[e];exact h x aau
theorem Kj{l:List T}:∀(n:Nat) (a:List T),a.length=n+1->(∀x∈a,x∈l)->sD (· ∈l) (.mk 7 ⟨#[]⟩ a)
 |0,a,b,h=>by
  refine .raise rfl b (.base ?_);show T.eT (.mk 7 ⟨#[]⟩ a) 0∈l;rw[yI (t:=.mk 7 ⟨#[]⟩ a) (show 0<a.length by omega)];exact h _ (aP _)
 |n+1,a,b,h=>by
  refine .pow 0 rfl (show 1<a.length by omega) (show 0<a.length by omega) (Kj n (a.eraseIdx 0) ?_ λx c=>h x ((nU a 0).subset c)) (.base ?_);·rw[List.length_eraseIdx,aJ aaF];omega
  ·show T.eT (.mk 7 ⟨#[]⟩ a) 0∈l;rw[yI (t:=.mk 7 ⟨#[]⟩ a) (show 0<a.length by omega)];exact h _ (aP _)
theorem CS{l:List T}(b:∀p∈l,p.use=true):∀(n:Nat) (t:T),t.use=true->uI n l t=true->sD (· ∈l) t
 |0,_,_,h=>by cases h
 |n+1,t,hu,h=>by
  have g:=T.oZ (aN.1 (T.ik hu)).2;simp only[uI]at h;rw[eH,yG]at h;rcases h with h|h;·exact .base h
  ·split at h
   ·rename_i x;rw[bQ]at h;have c:∀i,i<t.ay.length->sD (· ∈l) (t.eT i):=λi hi=>CS b n _ (rW hu aar hi) (by rw[yI hi];exact h _ (aP hi));by_cases j:t.aA=4;·exact .hash j (c 0 aar)
    ·exact .two aar (c 0 aar) (c 1 aar)
   ·split at h
    ·rename_i e;obtain⟨m,o⟩:=Vt hu e;rw[D8]at h;obtain⟨k,s,a⟩:=t;obtain rfl:k=7:=e;obtain rfl:s=⟨#[]⟩:=o;rcases h with⟨p,d,f,r,q,u⟩|h
     ·obtain⟨v,w⟩:=Vt (b p d) f;have y:=T.oZ (aN.1 (T.ik (b p d))).2;exact NF d f w v aar r a m q u
     ·have z:1<=a.length:=by
       rcases g with⟨h,_⟩|⟨h,_⟩|⟨h,_⟩|⟨_,h,_⟩;·have h':(7:Int)=1\/(7:Int)=2:=h;omega
       ·have h':(7:Int)=3\/(7:Int)=5\/(7:Int)=6:=h;omega
       ·have h':(7:Int)=4:=h;omega
       ·exact h
      exact Kj (a.length-1) a aar h
    ·cases h
theorem PG{U l:List T}(hU:yB U)(a:∀p∈l,p.use=true){t:T}(b:t∈U)(hu:t.use=true){n:Nat}(c:t.bE<n):uI n l t=true<->sD (· ∈l) t:=⟨CS a n t hu,wZ hU n t b c⟩
end
end Go.Proofs.YtaciciokmpbkkaaGreatDoor
