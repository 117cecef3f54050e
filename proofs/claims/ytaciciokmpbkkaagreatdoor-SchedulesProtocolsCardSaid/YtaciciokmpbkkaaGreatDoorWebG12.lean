import Derived.Test.YtaciciokmpbkkaaGreatDoorWebG11
set_option maxRecDepth 100000
set_option maxHeartbeats 16000000
namespace Go.Proofs.YtaciciokmpbkkaaGreatDoor
section
open Go.RowKit
structure El (α:Type) where
 ty:TypeId
 size:Nat
 fF:(Nat->Bool)->World->List Value->α->Prop
 len:∀{S w xs a},fF S w xs a->xs.length=size
 one:∀{S w xs a},fF S w xs a->∀u∈xs,u.oneCell'=true
 aR:∀{S S':Nat->Bool} {w w':World} {xs a},fF S w xs a->(∀b,S b=true->b<w.heap.size->S' b=true/\w'.heap[b]?=w.heap[b]?)->fF S' w' xs a
 pos:0<size
namespace El
variable {α:Type} (E:El α)
def all(S:Nat->Bool)(w:World)(dE:List (List Value))(L:List α):Prop:=dE.length=L.length/\∀i (h:i<dE.length) (h':i<L.length),E.fF S w dE[i] L[i]
variable {E} {S S':Nat->Bool} {w w':World} {dE:List (List Value)} {L:List α}
theorem all.aR(h:E.all S w dE L)(c:∀b,S b=true->b<w.heap.size->S' b=true/\w'.heap[b]?=w.heap[b]?):E.all S' w' dE L:=⟨h.1,λi a b=>E.aR (h.2 i a b) c⟩
theorem all.nil:E.all S w [] []:=⟨rfl,λ_ h=>absurd h (ji _)⟩
theorem all.push{cs:List Value}{a:α}(h:E.all S w dE L)(c:E.fF S w cs a):E.all S w (dE++[cs]) (L++[a]):=by
 refine⟨by rw[aF,aF,h.1];rfl,λi a b=>?_⟩;by_cases hi:i<dE.length
 ·rw[dH hi,dH aa7];exact h.2 i hi aa7
 ·have d:i=dE.length:=(by simp at a;omega);subst d;rw[dh (ax _),dh (by rw[h.1];exact ax _)];simpa[h.1]using c
theorem all.len(h:E.all S w dE L):∀cs∈dE,cs.length=E.size:=λcs a=>by
 obtain⟨j,hj,rfl⟩:=bL a;exact E.len (h.2 j hj (by rw[<-h.1];exact hj))
theorem all.ones(h:E.all S w dE L):∀u∈dE.flatten,u.oneCell'=true:=λu hu=>by
 obtain⟨cs,a,hu⟩:=List.mem_flatten.1 hu;obtain⟨j,hj,rfl⟩:=bL a;exact E.one (h.2 j hj (by rw[<-h.1];exact hj)) u hu
theorem all.append{c:List (List Value)}{d:List α}(h:E.all S w dE L)(h':E.all S w c d):E.all S w (dE++c) (L++d):=by
 refine⟨by rw[aF,aF,h.1,h'.1],λi a b=>?_⟩;by_cases hi:i<dE.length
 ·rw[dH hi,dH aa7];exact h.2 i hi aa7
 ·rw[dh aar,dh (by rw[<-h.1];omega)];have e:=h.1;simp only[e];exact h'.2 _ _ _
theorem all.sub{e:List (List Value)}{g:List α}(h:E.all S w dE L)(f:Nat->Nat)(j:e.length=g.length)(k:∀i (a:i<e.length) (b:i<g.length),∃(c:f i<dE.length) (d:f i<L.length),e[i]=dE[f i]/\g[i]=L[f i]):E.all S w e g:=
 ⟨j,λi a b=>by obtain⟨c,d,l,m⟩:=k i a b;rw[l,m];exact h.2 _ c d⟩
theorem all.flat(h:E.all S w dE L){i:Nat}(hi:i<dE.length){r:Nat}(a:r<E.size):dE.flatten[i*E.size+r]?=(dE[i])[r]?:=Bv dE h.len i hi r a
theorem all.MB(h:E.all S w dE L):dE.flatten.length=L.length*E.size:=by
 have:∀(dE:List (List Value)),(∀cs∈dE,cs.length=E.size)->dE.flatten.length=dE.length*E.size:=by
  intro dE;induction dE with
  |nil=>intro _;simp
  |cons a r d=>intro b;rw[gu,aF,b a eu,d λc e=>b c (aY _ e),bg,qU];omega
 rw[this dE h.len,h.1]
end El
def off(S:Nat->Bool)(g:Option Nat):Nat->Bool:=λb=>S b&&!(g==some b)
theorem dL{S:Nat->Bool}{g:Option Nat}{b:Nat}:off S g b=true<->S b=true/\g≠some b:=by
 unfold off;rw[ah,bT,aD]
def ku:Nat->Bool:=λ_=>true
def jT(B:Nat):Nat->Bool:=λb=>decide (b<B)
variable {α:Type} {E:El α}
def jU(E:El α)(S:Nat->Bool)(w:World)(v:Value)(L:List α):Prop:=
 ∃A cap,v=.slice A L.length cap/\L.length<=cap/\cap<=maxLen/\(L.length=0\/∃b o dE,A=some ⟨b,o,none⟩/\S b=true/\E.all S w dE L/\∀j u,dE.flatten[j]?=some u->w.cell? ⟨b,o+j,none⟩=some u)
theorem jU.nil(E:El α)(S:Nat->Bool)(w:World):jU E S w (.slice none 0 0) []:=⟨none,0,rfl,ax _,aT _,.inl rfl⟩
theorem jU.aR{S S':Nat->Bool}{w w':World}{v:Value}{L:List α}(h:jU E S w v L)(c:∀b,S b=true->b<w.heap.size->S' b=true/\w'.heap[b]?=w.heap[b]?):jU E S' w' v L:=by
 obtain⟨A,cap,e,g,i,k⟩:=h;refine⟨A,cap,e,g,i,?_⟩;rcases k with h0|⟨b,o,dE,l,hS,d,f⟩;·exact .inl h0
 ·rcases eF L.length with h0|h0;·exact .inl h0
  ·have m:0<dE.flatten.length:=(by rw[d.MB];exact Nat.mul_pos h0 E.pos);have n:=eQ w _ (f 0 _ (az m));obtain⟨p,q⟩:=c b hS n;exact .inr ⟨b,o,dE,l,p,d.aR c,λj u hu=>(dB (a:=⟨b,o+j,none⟩) q).t (f j u hu)⟩
theorem jU.ag{S:Nat->Bool}{w w':World}{v:Value}{L:List α}(h:jU E S w v L)(hb:Below w.heap.size w w'):jU E S w' v L:=h.aR λb hS a=>⟨hS,hb.block b a⟩
theorem jU.any{S:Nat->Bool}{w:World}{v:Value}{L:List α}(h:jU E S w v L):jU E ku w v L:=h.aR λ_ _ _=>⟨rfl,rfl⟩
theorem jU.low{S:Nat->Bool}{w:World}{v:Value}{L:List α}(h:jU E S w v L):jU E (jT w.heap.size) w v L:=h.aR λ_ _ a=>⟨aM a,rfl⟩
theorem jU.get{S:Nat->Bool}{w:World}{A:Option Addr}{n cap:Nat}{L:List α}(h:jU E S w (.slice A n cap) L){i:Nat}(hi:i<L.length):
 ∃b o cs,A=some ⟨b,o,none⟩/\E.fF S w cs L[i]/\∀r u,cs[r]?=some u->w.cell? ⟨b,o+(i*E.size+r),none⟩=some u:=by
 obtain⟨A',j,e,k,l,f⟩:=h;injection e with c m p;subst c;rcases f with h0|⟨b,o,dE,c,hS,a,g⟩;·omega
 ·have d:i<dE.length:=(by rw[a.1];exact hi);refine⟨b,o,dE[i],c,a.2 i d hi,λr u hu=>g _ u ?_⟩;rw[a.flat d aa8];exact hu
theorem jU.shape{S:Nat->Bool}{w:World}{v:Value}{L:List α}(h:jU E S w v L):∃A cap,v=.slice A L.length cap/\L.length<=cap/\cap<=maxLen:=by
 obtain⟨A,cap,e,a,b,_⟩:=h;exact⟨A,cap,e,a,b⟩
def fZ(E:El α)(S:Nat->Bool)(base:Nat)(w:World)(v:Value)(L:List α):Prop:=∃dE,E.all (off S v.ownBlock) w dE L/\w.ownsRow base E.ty E.size v L.length dE.flatten
theorem fZ.nil(E:El α)(S:Nat->Bool)(base:Nat)(w:World):fZ E S base w (.slice none 0 0) []:=⟨[],El.all.nil,gV _ _ _ _⟩
theorem fZ.aR{S:Nat->Bool}{base:Nat}{w w':World}{v:Value}{L:List α}(h:fZ E S base w v L)(c:∀b,(S b=true\/v.ownBlock=some b)->b<w.heap.size->w'.heap[b]?=w.heap[b]?):fZ E S base w' v L:=by
 obtain⟨dE,d,e⟩:=h;exact⟨dE,d.aR λb hb a=>⟨hb,c b (.inl (dL.1 hb).1) a⟩,pE e λb hb a=>c b (.inr hb) a⟩
theorem fZ.ag{S:Nat->Bool}{base:Nat}{w w':World}{v:Value}{L:List α}(h:fZ E S base w v L)(hb:Below w.heap.size w w'):fZ E S base w' v L:=h.aR λb _ a=>hb.block b a
theorem fZ.shape{S:Nat->Bool}{base:Nat}{w:World}{v:Value}{L:List α}(h:fZ E S base w v L):∃A cap,v=.slice A L.length cap:=by
 obtain⟨dE,_,a⟩:=h;exact oO a
theorem fZ.cells{S:Nat->Bool}{base:Nat}{w:World}{v:Value}{L:List α}(h:fZ E S base w v L):∃A cap dE,v=.slice A L.length cap/\E.all (off S (Value.slice A L.length cap).ownBlock) w dE L/\w.ownsRow base E.ty E.size (.slice A L.length cap) L.length dE.flatten:=by
 obtain⟨A,cap,rfl⟩:=h.shape;obtain⟨dE,a,b⟩:=h;exact⟨A,cap,dE,rfl,a,b⟩
theorem fZ.block{S:Nat->Bool}{base:Nat}{w:World}{v:Value}{L:List α}(h:fZ E S base w v L):∀k,v.ownBlock=some k->base<=k/\k<w.heap.size:=by
 obtain⟨dE,_,a⟩:=h;exact a.lt
theorem fZ.Gh{S S':Nat->Bool}{base:Nat}{w:World}{v:Value}{L:List α}(h:fZ E S base w v L)(hS:∀b,S b=true->S' b=true)(c:∀b,base<=b->S' b=true):jU E S' w v L:=by
 obtain⟨dE,d,a⟩:=h;have e:E.all S' w dE L:=d.aR λb hb _=>⟨hS b (dL.1 hb).1,rfl⟩;have l:=a.lt;rcases a.2 with⟨rfl,h0⟩|⟨g,cap,m,rfl,f,_,i,k,_⟩;·exact⟨none,0,by rw[h0],aar,aT _,.inl h0⟩
 ·refine⟨_,cap,rfl,i,k,.inr ⟨g,0,dE,rfl,c g f,e,λj u hu=>?_⟩⟩;have:=a.cells (g:=g) rfl j u hu;rw[cz]at this;exact this
theorem fZ.list{base:Nat}{w:World}{v:Value}{L:List α}(h:fZ E (dP base) base w v L):jU E (dP base) w v L:=h.Gh (λ_ h=>h) (λ_ h=>aM h)
theorem fZ.push{S:Nat->Bool}{base n c cap:Nat}{w w3 w4:World}{A A':Option Addr}{L:List α}{dE:List (List Value)}{cs:List Value}{a:α}(i:E.all (off S (Value.slice A n c).ownBlock) w dE L)(j:L.length=n)
 (k:∀b,b<w.heap.size->w3.heap[b]?=w.heap[b]?) (l:E.fF (off S (Value.slice A n c).ownBlock) w3 cs a)
 (f:w4.ownsRow base E.ty E.size (.slice A' (n+1) cap) (n+1) (dE.flatten++cs)) (m:w3.grownBy w4 (Value.slice A n c).ownBlock) (o:A'.map (·.block)=(Value.slice A n c).ownBlock\/A'.map (·.block)=some w3.heap.size):
 fZ E S base w4 (.slice A' (n+1) cap) (L++[a]):=by
 obtain⟨g,v,e,_⟩:=f.form aar;injection e with p x y;subst p;have q:∀b,off S (Value.slice A n c).ownBlock b=true->b<w3.heap.size->off S (Value.slice (some ⟨g,0,none⟩) (n+1) cap).ownBlock b=true/\w4.heap[b]?=w3.heap[b]?:=λb hb d=>by
  obtain⟨s,h⟩:=dL.1 hb;refine⟨dL.2 ⟨s,λe=>?_⟩,m.block b d (λe=>h e.symm)⟩;have t:g=b:=aB e;rcases o with r|r;·exact h (by rw[<-r,<-t];rfl)
  ·have:g=w3.heap.size:=aB r;omega
 have u:(L++[a]).length=n+1:=(by simp[j]);refine⟨dE++[cs],?_,?_⟩;·exact((i.aR λb hb d=>⟨hb,k b d⟩).push l).aR q
 ·rw[u,pM];simpa using f
theorem El.fresh{S:Nat->Bool}{B:Nat}{w3 w':World}{cs:List Value}{a:α}{g:Option Nat}(h:E.fF (dP B) w3 cs a)(hS:∀b,B<=b->S b=true)(c:∀k,g=some k->k<B)(hb:∀b,b<w3.heap.size->w'.heap[b]?=w3.heap[b]?):E.fF (off S g) w' cs a:=
 E.aR h λb d f=>by
   have i:=ak d;exact⟨dL.2 ⟨hS b i,λe=>aaz (c b e)⟩,hb b f⟩
def oC:El T where
 ty:=29
 size:=3
 fF S w xs t:=∃A c,xs=[.int .i64 t.aA,.string t.aI,.slice A t.ay.length c]/\bI S w (.agg #[.int .i64 t.aA,.string t.aI,.slice A t.ay.length c]) t
 len:=λ⟨_,_,e,_⟩=>by rw[e];rfl
 one:=λ⟨_,_,e,_⟩ u hu=>by rw[e]at hu;simp at hu;rcases hu with rfl|rfl|rfl<;>rfl
 aR:=λ⟨A,c,e,h⟩ a=>⟨A,c,e,h.aR a⟩
 pos:=by decide
def LK:El Bd where
 ty:=132
 size:=4
 fF S w xs x:=∃A c,xs=[.string x.var,.int .i64 x.t.aA,.string x.t.aI,.slice A x.t.ay.length c]/\bI S w (.agg #[.int .i64 x.t.aA,.string x.t.aI,.slice A x.t.ay.length c]) x.t/\x.var.size<=maxLen
 len:=λ⟨_,_,e,_⟩=>by rw[e];rfl
 one:=λ⟨_,_,e,_⟩ u hu=>by rw[e]at hu;simp at hu;rcases hu with rfl|rfl|rfl|rfl<;>rfl
 aR:=λ⟨A,c,e,h,a⟩ b=>⟨A,c,e,h.aR b,a⟩
 pos:=by decide
theorem jU.term{S:Nat->Bool}{w:World}{v:Value}{L:List T}(h:jU oC S w v L)(k:Int)(s:ByteArray)(n: -9223372036854775808<=k/\k<=9223372036854775807)(p:s.size<=maxLen):bI S w (.agg #[.int .i64 k,.string s,v]) (.mk k s L):=by
 obtain⟨A,cap,rfl,c,f,u⟩:=h;rcases u with h0|⟨b,o,dE,x,hS,g,y⟩
 ·obtain rfl:=bR h0;exact aS.mk k s A cap [] (λ_=>(undef,undef,undef)) n p c f (.inl rfl) (λi h=>absurd h (ji _))
 ·subst x;have z:=g.1;refine aS.mk k s _ cap L (λi=>((dE.getD i []).getD 0 undef,(dE.getD i []).getD 1 undef,(dE.getD i []).getD 2 undef)) n p c f (.inr ⟨b,o,rfl,λi hi=>?_⟩) (λi hi=>?_)
  ·have a:i<dE.length:=aar;obtain⟨j,l,e,q⟩:=g.2 i a hi;have t:=λr (d:r<3)=>g.flat (E:=oC) a d;rw[e]at t;simp only[dn,az a,e,gQ];have m:∀r,r<3->(only w S).cell? ⟨b,o+i*3+r,none⟩=([.int .i64 L[i].aA,.string L[i].aI,.slice j L[i].ay.length l]:List Value)[r]?:=λr d=>by
    rw[fO,aJ hS];have c:=t r d;have f:([.int .i64 L[i].aA,.string L[i].aI,.slice j L[i].ay.length l]:List Value)[r]?=some (([.int .i64 L[i].aA,.string L[i].aI,.slice j L[i].ay.length l]:List Value)[r]'d):=az d;rw[f]at c⊢;have:=y _ _ c;rw[gN];exact this
   exact⟨m 0 aar,m 1 aar,m 2 aar⟩
  ·have a:i<dE.length:=aar;obtain⟨j,l,e,q⟩:=g.2 i a hi;simp only[dn,az a,e,gQ];exact q
theorem jU.bF{S:Nat->Bool}{w:World}{A:Option Addr}{cap:Nat}{L:List T}(h:jU oC S w (.slice A L.length cap) L):iY w A cap L:=(h.term 0 ⟨#[]⟩ aar aat).at
theorem bI.Gh{S:Nat->Bool}{w:World}{k:Int}{s:ByteArray}{v:Value}{L:List T}(h:bI S w (.agg #[.int .i64 k,.string s,v]) (.mk k s L)):jU oC S w v L:=by
 cases h with
 |mk k s A cap I U J K z B hA hU=>
  refine⟨A,cap,rfl,z,B,?_⟩;rcases eF L.length with h0|h0;·exact .inl h0
  ·rcases hA with hA|⟨b,o,e,m⟩;·omega
   ·have d:∀p:Addr,∀u,(only w S).cell? p=some u->S p.block=true/\w.cell? p=some u:=λp u hu=>by
     rw[fO]at hu;split at hu;·exact⟨by assumption,hu⟩
     ·cases hu
    obtain⟨C,_,_⟩:=m 0 h0;have n:(((List.range L.length).map λi=>[(U i).1,(U i).2.1,(U i).2.2]):List (List Value)).length=L.length:=aau;have l:oC.all S w ((List.range L.length).map λi=>[(U i).1,(U i).2.1,(U i).2.2]) L:=⟨n,λi a b=>by
     have q:=hU i b;obtain⟨t,x,D,F,y⟩:=aS.view q;refine⟨D,F,?_,?_⟩
     ·simp only[ic,List.getElem_range];rw[<-t,<-x,<-y]
     ·rw[<-t,<-x,<-y];exact q⟩
    refine .inr ⟨b,o,_,e,(d _ _ C).1,l,λj u hu=>?_⟩;have hj:j<L.length*3:=by
     have:=(aU.1 hu).1;rw[l.MB]at this;exact this
    have hi:j / 3<L.length:=aar;have f:=λr (G:r<3)=>l.flat (E:=oC) (i:=j / 3) (by rw[n];exact hi) G;obtain⟨d0,d1,d2⟩:=m (j / 3) hi;have H:oC.size=3:=rfl;rw[H]at f;rcases(show j=j / 3*3+0\/j=j / 3*3+1\/j=j / 3*3+2 by omega)with g|g|g
    ·have c:=f 0 aar;rw[<-g,hu]at c;simp at c;rw[c,show o+j=o+j / 3*3 by omega];exact(d _ _ d0).2
    ·have c:=f 1 aar;rw[<-g,hu]at c;simp at c;rw[c,show o+j=o+j / 3*3+1 by omega];exact(d _ _ d1).2
    ·have c:=f 2 aar;rw[<-g,hu]at c;simp at c;rw[c,show o+j=o+j / 3*3+2 by omega];exact(d _ _ d2).2
theorem iY.Gh{w:World}{A:Option Addr}{cap:Nat}{L:List T}(h:iY w A cap L):jU oC (jT w.heap.size) w (.slice A L.length cap) L:=(aS.uM h).Gh
theorem bK.Sd{w:World}{base:Nat}{v:Value}{L:List T}(h:bK w base v L):fZ oC (dP base) base w v L:=by
 obtain⟨xs,q,b,s⟩:=h.cells;have:∃dE:List (List Value),dE.flatten=xs/\oC.all (but base v.ownBlock) w dE L:=by
  clear q h;induction L generalizing xs with
  |nil=>exact⟨[],(bR aa9).symm,El.all.nil⟩
  |cons t r u=>
   obtain⟨c,d,f,a0,g,j,a⟩:=s 0 aau
   match xs,b with
   |x0::k::l::x,b=>
    obtain⟨dE,e,m⟩:=u x (by simp at b;omega) (λi hi=>by
     obtain⟨c,d,f,a0,g,j,a⟩:=s (i+1) aaP;refine⟨c,d,f,?_,?_,?_,by simpa using a⟩;·rw[<-a0,show(i+1)*3=i*3+1+1+1 by omega];rfl
     ·rw[<-g,show(i+1)*3+1=i*3+1+1+1+1 by omega];rfl
     ·rw[<-j,show(i+1)*3+2=i*3+2+1+1+1 by omega];rfl)
    obtain rfl:x0=c:=(by simpa using a0);obtain rfl:k=d:=(by simpa using g);obtain rfl:l=f:=(by simpa using j);obtain⟨n,o,y,z,p⟩:=aS.view a;have A:oC.fF (but base v.ownBlock) w [x0,k,l] t:=⟨y,z,by rw[n,o,p];rfl,by simp only[dI]at a n o p;rw[<-n,<-o,<-p];exact a⟩;refine⟨[x0,k,l]::dE,by simp[e],?_⟩;exact(El.all.push El.all.nil A).append m
 obtain⟨dE,rfl,m⟩:=this;exact⟨dE,m,q⟩
def Bf(S:Nat->Bool)(w:World)(v:Value)(L:List Bd):Prop:=(v=.slice none 0 0/\L=[])\/(0<L.length/\jU LK S w v L)
theorem Bf.Gh{S:Nat->Bool}{w:World}{v:Value}{L:List Bd}(h:Bf S w v L):jU LK S w v L:=by
 rcases h with⟨rfl,rfl⟩|h;·exact jU.nil _ _ _
 ·exact h.2
theorem Bf.nil(S:Nat->Bool)(w:World):Bf S w (.slice none 0 0) []:=.inl ⟨rfl,rfl⟩
theorem Bf.aR{S S':Nat->Bool}{w w':World}{v:Value}{L:List Bd}(h:Bf S w v L)(a:∀b,S b=true->b<w.heap.size->S' b=true/\w'.heap[b]?=w.heap[b]?):Bf S' w' v L:=by
 rcases h with h|⟨h0,h⟩;·exact .inl h
 ·exact .inr ⟨h0,h.aR a⟩
theorem Bf.at{S:Nat->Bool}{w:World}{v:Value}{L:List Bd}(h:Bf S w v L):gH w v L:=by
 rcases h with h|⟨h0,A,cap,rfl,g,j,d⟩;·exact .inl h
 ·rcases d with d|⟨b,o,dE,rfl,hS,c,k⟩;·omega
  ·refine .inr ⟨b,o,cap,dE.flatten,rfl,h0,g,j,⟨c.MB,λi hi=>?_⟩,k⟩;have f:i<dE.length:=(by rw[c.1];exact hi);obtain⟨l,m,e,n,p⟩:=c.2 i f hi;have a:=λr (q:r<4)=>c.flat (E:=LK) f q;rw[e]at a;exact⟨l,m,a 0 aar,a 1 aar,a 2 aar,a 3 aar,n.at,p⟩
theorem BC.dE{w:World}:∀{L:List Bd} {xs:List Value},BC w xs L->∃dE:List (List Value),dE.flatten=xs/\LK.all (jT w.heap.size) w dE L
 |[],xs,h=>⟨[],(bR (by simpa using h.1)).symm,El.all.nil⟩
 |x::r,xs,⟨f,g⟩=>by
  obtain⟨A,c,a0,a,a2,a3,b,d⟩:=g 0 aau
  match xs,f with
  |x0::j::k::l::m,f=>
   obtain⟨dE,e,n⟩:=BC.dE (L:=r) (xs:=m) ⟨by simp at f;omega,λi hi=>by
    obtain⟨A,c,a0,a,a2,a3,b,d⟩:=g (i+1) aaP;refine⟨A,c,?_,?_,?_,?_,by simpa using b,by simpa using d⟩;·simpa[show(i+1)*4=i*4+1+1+1+1 by omega]using a0
    ·simpa[show(i+1)*4+1=i*4+1+1+1+1+1 by omega]using a
    ·simpa[show(i+1)*4+2=i*4+2+1+1+1+1 by omega]using a2
    ·simpa[show(i+1)*4+3=i*4+3+1+1+1+1 by omega]using a3⟩
   simp only[dI]at a0 a a2 a3 b d;obtain rfl:x0=_:=(by simpa using a0);obtain rfl:j=_:=aaG;obtain rfl:k=_:=(by simpa using a2);obtain rfl:l=_:=(by simpa using a3);refine⟨[_,_,_,_]::dE,by rw[gu,e];rfl,?_⟩;exact(El.all.push (El.all.nil) (show LK.fF (jT w.heap.size) w _ x from⟨A,c,rfl,b.uM,d⟩)).append n
theorem gH.bin{w:World}{v:Value}{L:List Bd}(h:gH w v L):Bf (jT w.heap.size) w v L:=by
 rcases h with h|⟨b,o,cap,xs,rfl,h0,d,e,f,a⟩;·exact .inl h
 ·obtain⟨dE,rfl,c⟩:=f.dE;have g:0<dE.flatten.length:=(by rw[c.MB];exact Nat.mul_pos h0 LK.pos);exact .inr ⟨h0,_,cap,rfl,d,e,.inr ⟨b,o,dE,rfl,aM (eQ w _ (a 0 _ (az g))),c,a⟩⟩
theorem Ku.dE{S:Nat->Bool}{w:World}:∀{L:List Bd} {xs:List Value},Ku S w xs L->∃dE:List (List Value),dE.flatten=xs/\LK.all S w dE L
 |[],xs,h=>⟨[],(bR (by simpa using h.1)).symm,El.all.nil⟩
 |x::r,xs,⟨f,g⟩=>by
  obtain⟨A,c,a0,a,a2,a3,b,d⟩:=g 0 aau
  match xs,f with
  |x0::j::k::l::m,f=>
   obtain⟨dE,e,n⟩:=Ku.dE (L:=r) (xs:=m) ⟨by simp at f;omega,λi hi=>by
    obtain⟨A,c,a0,a,a2,a3,b,d⟩:=g (i+1) aaP;refine⟨A,c,?_,?_,?_,?_,by simpa using b,by simpa using d⟩;·simpa[show(i+1)*4=i*4+1+1+1+1 by omega]using a0
    ·simpa[show(i+1)*4+1=i*4+1+1+1+1+1 by omega]using a
    ·simpa[show(i+1)*4+2=i*4+2+1+1+1+1 by omega]using a2
    ·simpa[show(i+1)*4+3=i*4+3+1+1+1+1 by omega]using a3⟩
   simp only[dI]at a0 a a2 a3 b d;obtain rfl:x0=_:=(by simpa using a0);obtain rfl:j=_:=aaG;obtain rfl:k=_:=(by simpa using a2);obtain rfl:l=_:=(by simpa using a3);refine⟨[_,_,_,_]::dE,by rw[gu,e];rfl,?_⟩;exact(El.all.push (El.all.nil) (show LK.fF S w _ x from⟨A,c,rfl,b,d⟩)).append n
theorem yl.bin{base:Nat}{w:World}{v:Value}{L:List Bd}(h:yl base w v L):Bf (dP base) w v L:=by
 rcases h with h|⟨h0,xs,a,b⟩;·exact .inl h
 ·obtain⟨dE,rfl,c⟩:=b.dE;exact .inr ⟨h0,fZ.list ⟨dE,c,a⟩⟩
end
section
open Go.RowKit
theorem iI.aR{w w':World}{A:Option Addr}{a:List (Int×T)}(h:iI w A a)(c:∀p:Addr,(w.cell? p).isSome=true->w'.cell? p=w.cell? p):iI w' A a:=by
 rcases h with h|⟨b,off,e,f⟩;·exact .inl h
 ·refine .inr ⟨b,off,e,λi hi=>?_⟩;obtain⟨g,j,h0,k,l,m,n,o⟩:=f i hi;have key:∀{p:Addr} {v:Value},w.cell? p=some v->w'.cell? p=some v:=λ{p v} d=>(c p (by rw[d];rfl)).t d;exact⟨g,j,key h0,key k,key l,key m,n.aR c,o⟩
def uR(S:Nat->Bool)(w:World)(A:Option Addr)(a:List (Int×T)):Prop:=iI (only w S) A a
theorem uR.at{S:Nat->Bool}{w:World}{A:Option Addr}{b:List (Int×T)}(h:uR S w A b):iI w A b:=
 iI.aR h λp a=>by
  rw[fO]at a⊢;split at a;·rename_i hS;rw[aJ hS]
  ·cases a
theorem uR.aR{S S':Nat->Bool}{w w':World}{A:Option Addr}{c:List (Int×T)}(h:uR S w A c)(d:∀b,S b=true->b<w.heap.size->S' b=true/\w'.heap[b]?=w.heap[b]?):uR S' w' A c:=
 iI.aR h λp a=>by
  rw[fO]at a;rw[fO,fO];split at a
  ·rename_i hS;obtain⟨v,e⟩:=eO.1 a;obtain⟨f,g⟩:=d _ hS (eQ w p e);rw[aJ hS,aJ f];exact dB g
  ·cases a
def VE(w:World)(base g cap:Nat)(L:List (Int×T)):Prop:=
 ∃a:Array Value,w.heap[g]?=some (.cells a 31 (0,0))/\a.size=cap*4/\L.length<=cap/\cap<=maxLen/\base<=g/\
  ∀i (h:i<L.length),∃b c d,a[i*4]?=some (.int .i64 L[i].1)/\a[i*4+1]?=some b/\a[i*4+2]?=some c/\a[i*4+3]?=some d/\bI (but base (some g)) w (.agg #[b,c,d]) L[i].2/\ -9223372036854775808<=L[i].1/\L[i].1<=9223372036854775807
def jI(w:World)(base:Nat)(v:Value)(L:List (Int×T)):Prop:=
 (v=.slice none 0 0/\L=[])\/∃g cap,v=.slice (some ⟨g,0,none⟩) L.length cap/\VE w base g cap L
theorem jI.nil(w:World)(base:Nat):jI w base (.slice none 0 0) []:=.inl ⟨rfl,rfl⟩
theorem VE.aR{w w':World}{base g cap:Nat}{L:List (Int×T)}(h:VE w base g cap L)(f:∀b,base<=b->b<w.heap.size->w'.heap[b]?=w.heap[b]?):VE w' base g cap L:=by
 obtain⟨l,j,m,n,o,k,p⟩:=h;refine⟨l,?_,m,n,o,k,λi hi=>?_⟩;·rw[f g k (aW.1 j).1];exact j
 ·obtain⟨u0,u1,u2,a0,a,b,c,d,e⟩:=p i hi;exact⟨u0,u1,u2,a0,a,b,c,d.aR λb hb q=>⟨hb,f b (jd.1 hb).1 q⟩,e⟩
theorem jI.aR{w w':World}{base:Nat}{v:Value}{L:List (Int×T)}(h:jI w base v L)(a:∀b,base<=b->b<w.heap.size->w'.heap[b]?=w.heap[b]?):jI w' base v L:=by
 rcases h with h|⟨g,cap,rfl,h⟩;·exact .inl h
 ·exact .inr ⟨g,cap,rfl,h.aR a⟩
theorem jI.ag{w w':World}{base:Nat}{v:Value}{L:List (Int×T)}(h:jI w base v L)(hb:Below w.heap.size w w'):jI w' base v L:=h.aR λb _ a=>hb.block b a
theorem jI.shape{w:World}{base:Nat}{v:Value}{L:List (Int×T)}(h:jI w base v L):∃A cap,v=.slice A L.length cap/\L.length<=cap/\cap<=maxLen:=by
 rcases h with⟨rfl,rfl⟩|⟨g,cap,rfl,c,_,_,a,b,_⟩;·exact⟨none,0,rfl,ax _,aT _⟩
 ·exact⟨_,cap,rfl,a,b⟩
theorem jI.block{w:World}{base:Nat}{v:Value}{L:List (Int×T)}(h:jI w base v L):∀k,v.ownBlock=some k->base<=k/\k<w.heap.size:=by
 intro k a;rcases h with⟨rfl,rfl⟩|⟨g,cap,rfl,d,b,_,_,_,c,_⟩;·cases a
 ·injection a with a;subst a;exact⟨c,(aW.1 b).1⟩
theorem jI.moves{w:World}{base:Nat}{v:Value}{L:List (Int×T)}(h:jI w base v L):
 ∃A cap,v=.slice A L.length cap/\uR (dP base) w A L:=by
 rcases h with⟨rfl,rfl⟩|⟨g,cap,rfl,l,m,r,s,t,n,o⟩;·exact⟨none,0,rfl,.inl rfl⟩
 ·have f:∀j u,l[j]?=some u->(only w (dP base)).cell? ⟨g,j,none⟩=some u:=λj u hu=>by
   rw[fO,aJ (by unfold dP;exact aM n)];simp[World.cell?,m,hu]
  refine⟨_,cap,rfl,.inr ⟨g,0,rfl,λi hi=>?_⟩⟩;obtain⟨x,y,z,a0,a,b,c,d,e⟩:=o i hi;obtain⟨p,q,k⟩:=d.view;simp only[Value.agg.injEq,Array.mk.injEq,zg,GY]at k;obtain⟨rfl,rfl,rfl⟩:=k;simp only[eP];exact⟨p,q,f _ _ a0,f _ _ a,f _ _ b,f _ _ c,d.aR (S':=dP base) λb hb _=>⟨aM (jd.1 hb).1,rfl⟩,e⟩
theorem jI.owns{w:World}{base:Nat}{v:Value}{L:List (Int×T)}(h:jI w base v L):∃xs,w.ownsRow base 31 4 v L.length xs/\
 (∀i (h:i<L.length),∃u0 u1 u2,xs[i*4]?=some (.int .i64 L[i].1)/\xs[i*4+1]?=some u0/\xs[i*4+2]?=some u1/\xs[i*4+3]?=some u2/\bI (but base v.ownBlock) w (.agg #[u0,u1,u2]) L[i].2/\ -9223372036854775808<=L[i].1/\L[i].1<=9223372036854775807):=by
 rcases h with⟨rfl,rfl⟩|⟨g,cap,rfl,f,k,j,l,m,n,o⟩;·exact⟨[],gV _ _ _ _,λi h=>by simp at h⟩
 ·refine⟨f.toList.take (L.length*4),⟨?_,.inr ⟨g,cap,f,rfl,n,k,l,m,j,rfl⟩⟩,λi hi=>?_⟩
  ·have p:f.toList.length=cap*4:=(by simpa using j);rw[aX];exact kg aar
  ·obtain⟨u0,u1,u2,a0,a,b,c,d,e⟩:=o i hi;refine⟨u0,u1,u2,?_,?_,?_,?_,d,e⟩;all_goals rw[gY,aJ aaF];simpa
theorem jI.snoc{w w':World}{base g cap H:Nat}{v:Value}{L:List (Int×T)}{xs:List Value}{u0 u1 u2:Value}{k:Int}{t:T}
 (p:∀i (h:i<L.length),∃u0 u1 u2,xs[i*4]?=some (.int .i64 L[i].1)/\xs[i*4+1]?=some u0/\xs[i*4+2]?=some u1/\xs[i*4+3]?=some u2/\bI (but base v.ownBlock) w (.agg #[u0,u1,u2]) L[i].2/\ -9223372036854775808<=L[i].1/\L[i].1<=9223372036854775807) (d:xs.length=L.length*4)
 (q:bI (but base v.ownBlock) w (.agg #[u0,u1,u2]) t) (r: -9223372036854775808<=k/\k<=9223372036854775807)
 (s:w'.ownsRow base 31 4 (.slice (some ⟨g,0,none⟩) (L.length+1) cap) (L.length+1) (xs++[.int .i64 k,u0,u1,u2])) (x:w.grownBy w' v.ownBlock) (y:v.ownBlock=some g\/g=H) (hH:w.heap.size=H):
 jI w' base (.slice (some ⟨g,0,none⟩) (L.length+1) cap) (L++[(k,t)]):=by
 have m:∀b,but base v.ownBlock b=true->b<w.heap.size->but base (some g) b=true/\w'.heap[b]?=w.heap[b]?:=λb hb z=>by
  obtain⟨l,f⟩:=jd.1 hb;refine⟨jd.2 ⟨l,λe=>?_⟩,x.block b z (λe=>f e.symm)⟩;injection e with e;subst e;rcases y with h|h;·exact f h
  ·omega
 obtain⟨N,A⟩:=s;rcases A with⟨h,_⟩|⟨O,P,n,o,B,l,C,D,f,E⟩;·cases h
 ·simp only[rf,iw,Ca,GY,Bb]at o;obtain⟨rfl,rfl⟩:=o;have a:∀j u,(xs++[.int .i64 k,u0,u1,u2])[j]?=some u->n[j]?=some u:=λj u hu=>by
   rw[<-E,gY]at hu;split at hu;·simpa using hu
   ·cases hu
  refine .inr ⟨g,cap,by rw[aF];rfl,n,l,f,by rw[aF];exact C,D,B,λi hi=>?_⟩;rcases bX i L.length with c|c
  ·obtain⟨a0,F,a2,b4,G,I,J,b3,K⟩:=p i c;refine⟨a0,F,a2,a _ _ ?_,a _ _ ?_,a _ _ ?_,a _ _ ?_,?_,?_⟩;·rw[bN aar,dH c];exact b4
   ·rw[bN aaF];exact G
   ·rw[bN aaF];exact I
   ·rw[bN aaF];exact J
   ·rw[dH c];exact b3.aR m
   ·rw[dH c];exact K
  ·have M:i=L.length:=aaQ;subst M;refine⟨u0,u1,u2,a _ _ ?_,a _ _ ?_,a _ _ ?_,a _ _ ?_,?_,?_⟩;·rw[bq aar,d];simp
   ·rw[bq aar,d];simp
   ·rw[bq aar,d];simp
   ·rw[bq aar,d];simp
   ·rw[dh (ax _)];simpa using q.aR m
   ·rw[dh (ax _)];simpa using r
theorem Tryz.YY:(Tryz.prog.info? 31).map (λi=>(i.zero,i.size,i.bytes))=some (some (.agg #[.int .i64 0,.int .i64 0,.string ByteArray.empty,.slice none 0 0]),4,56):=by kernel_rfl
def GX(S:Nat->Bool)(w:World)(v:Value)(s:ByteArray×List (Int×T)):Prop:=∃A c,v=.agg #[.string s.1,.slice A s.2.length c]/\uR S w A s.2
theorem GX.aR{S S':Nat->Bool}{w w':World}{v:Value}{s:ByteArray×List (Int×T)}(h:GX S w v s)(a:∀b,S b=true->b<w.heap.size->S' b=true/\w'.heap[b]?=w.heap[b]?):GX S' w' v s:=by
 obtain⟨A,c,e,h⟩:=h;exact⟨A,c,e,h.aR a⟩
end
section
open Go.RowKit
attribute [local go_sem ↓] Go.wp_at_zero Go.wp_at_succ
def MR(c:UInt8):Int:=if c=82 then 2 else if c=67 then 3 else if c=68 then 4 else 1
theorem Ub (c:UInt8):1<=MR c/\MR c<=4:=by unfold MR;repeat' split
                                          all_goals omega
def MG(x:ByteArray):Prop:=2<=x.size/\(x.data.toList.getD 0 0=83\/x.data.toList.getD 0 0=82\/x.data.toList.getD 0 0=67\/x.data.toList.getD 0 0=68)
def vY(x:ByteArray):Int×T:=(MR (x.data.toList.getD 0 0),(T.parse (x.extract 2 x.size)).1)
theorem Mw(s:ByteArray)(h:0<s.size):s.data.toList.getD 0 0=s[0]:=by
 simp[List.getD,h];rfl
def mF(w:World)(g:Nat)(a b:Value):Prop:=w.heap[g]?=some (.cells #[a,b] 26 (0,0))
theorem mF.lt{w:World}{g:Nat}{a b:Value}(h:mF w g a b):g<w.heap.size:=(aW.1 h).1
theorem mF.cells{w:World}{g:Nat}{a b:Value}(h:mF w g a b):w.cell? ⟨g,0,none⟩=some a/\w.cell? ⟨g,1,none⟩=some b:=by
 unfold mF at h;refine⟨?_,?_⟩<;>simp[World.cell?,h]
theorem mF.free{w:World}{g:Nat}{a b:Value}(h:mF w g a b):w.frozen? ⟨g,0,none⟩=false/\w.frozen? ⟨g,1,none⟩=false:=by
 unfold mF at h;refine⟨?_,?_⟩<;>simp[World.frozen?,h]
theorem mF.ag{w w':World}{g:Nat}{a b:Value}(h:mF w g a b)(hb:Below w.heap.size w w'):mF w' g a b:=(hb.block g h.lt).t h
theorem mF.grown{w w':World}{g:Nat}{a b:Value}{row:Option Nat}(h:mF w g a b)(c:w.grownBy w' row)(d:row≠some g):mF w' g a b:=(c.block g h.lt (λe=>d e.symm)).t h
theorem mF.new(w:World)(a b:Value):mF (w.alloc (.cells #[a,b] 26)) w.heap.size a b:=bP w _
theorem mF.Jp{w:World}{g:Nat}{a b:Value}(h:mF w g a b)(v:Value):mF (w.setCell ⟨g,1,none⟩ v) g a v:=by
 unfold mF at*;simp[World.setCell,Array.getElem?_modify,h]
theorem mF.setOther{w:World}{g:Nat}{a b:Value}(h:mF w g a b){p:Addr}(c:g≠p.block)(v:Value):mF (w.setCell p v) g a b:=
 (aL _ _ _ _ c).t h
theorem mF.AQ{w:World}{g:Nat}{a b:Value}(h:mF w g a b)(x y:Value):mF ((w.setCell ⟨g,0,none⟩ x).setCell ⟨g,1,none⟩ y) g x y:=by
 unfold mF at*;simp[World.setCell,Array.getElem?_modify,h]
theorem N9(w:World)(g:Nat)(x y:Value)(k:Nat)(a:k≠g):((w.setCell ⟨g,0,none⟩ x).setCell ⟨g,1,none⟩ y).heap[k]?=w.heap[k]?:=by
 rw[aL _ _ _ _ a,aL _ _ _ _ a]
def Xh(w:World)(role:ByteArray)(L:List (Int×T))(wr:World):Prop:=
 ∃kv,mF wr (w.heap.size+1) (.string role) kv/\mF wr w.heap.size (.string ⟨#[]⟩) (.slice none 0 0)/\jI wr (w.heap.size+2) kv L/\Below w.heap.size w wr/\w.heap.size+2<=wr.heap.size
theorem Xh.step{w:World}{role:ByteArray}{L:List (Int×T)}{k:Int}{t:T}{wr w3 w4:World}{kv u0 u1 u2:Value}{xs:List Value}{g cap:Nat}
 (x:mF wr (w.heap.size+1) (.string role) kv) (y:mF wr w.heap.size (.string ⟨#[]⟩) (.slice none 0 0)) (f:jI wr (w.heap.size+2) kv L) (hb:Below w.heap.size w wr) (D:w.heap.size+2<=wr.heap.size)
 (o:∀i (h:i<L.length),∃u0 u1 u2,xs[i*4]?=some (.int .i64 L[i].1)/\xs[i*4+1]?=some u0/\xs[i*4+2]?=some u1/\xs[i*4+3]?=some u2/\bI (but (w.heap.size+2) kv.ownBlock) wr (.agg #[u0,u1,u2]) L[i].2/\ -9223372036854775808<=L[i].1/\L[i].1<=9223372036854775807) (p:xs.length=L.length*4)
 (j: -9223372036854775808<=k/\k<=9223372036854775807)
 (l:Below wr.heap.size wr w3) (q:bI (dP wr.heap.size) w3 (.agg #[u0,u1,u2]) t)
 (r:w4.ownsRow (w.heap.size+2) 31 4 (.slice (some ⟨g,0,none⟩) (L.length+1) cap) (L.length+1) (xs++[.int .i64 k,u0,u1,u2])) (a:(w3.alloc (.cells #[.int .i64 k,u0,u1,u2] 31)).grownBy w4 kv.ownBlock)
 (s:kv.ownBlock=some g\/g=w3.heap.size+1):Xh w role (L++[(k,t)]) (w4.setCell ⟨w.heap.size+1,1,none⟩ (.slice (some ⟨g,0,none⟩) (L.length+1) cap)):=by
 have n:∀b,b<w.heap.size+2->kv.ownBlock≠some b:=λb d e=>(aaz ((f.block b e).1));have c:=l.t ((ae w3 (.cells #[.int .i64 k,u0,u1,u2] 31)).m l.size);have u:Below w.heap.size w w4:=(hb.t (c.m aar)).grown a (by rw[aK];have:=l.size;omega) (λk j=>aaz ((f.block k j).1));refine⟨_,(((x.ag c).grown a (n _ aar)).Jp _),?_,?_,u.setCell (by show w.heap.size<=w.heap.size+1;omega) _,?_⟩;·exact((y.ag c).grown a (n _ aar)).setOther aau _
 ·have v:=jI.snoc (w:=w3.alloc (.cells #[.int .i64 k,u0,u1,u2] 31)) (H:=w3.heap.size+1) (t:=t) (λi hi=>by
   obtain⟨a0,z,a2,b9,A,B,C,b3,b4⟩:=o i hi;exact⟨a0,z,a2,b9,A,B,C,b3.aR λb hb d=>⟨hb,c.block b d⟩,b4⟩) p
   (q.aR λb m d=>⟨jd.2 ⟨aaz (ak m),λe=>aaA ((f.block b e).2) (ak m)⟩,fK w3 _ b d⟩)
   j r a s aba
  exact v.aR λb m _=>aL _ _ _ _ (by show b≠w.heap.size+1;omega)
 ·have:=a.size;have:=c.size;simp[World.setCell];omega
def YL(s:ByteArray×List (Int×T))(w:World)(e:Ending)(w':World):Prop:=∃A c,e=.returned (.agg #[.string s.1,.slice A s.2.length c])/\uR (dP w.heap.size) w' A s.2/\Below w.heap.size w w'
end
section
open Go.RowKit
abbrev vw:ByteArray:=⟨#[112,97,115,115,105,118,101]⟩
abbrev xV:ByteArray:=⟨#[97,99,116,105,118,101]⟩
abbrev sO:ByteArray:=⟨#[101,120,99,104,97,110,103,101]⟩
abbrev VK:ByteArray:=⟨#[98,108,105,110,100]⟩
abbrev Bl:ByteArray:=⟨#[99,108,111,110,101]⟩
abbrev nV:ByteArray:=⟨#[99,104,105,112]⟩
abbrev kC:ByteArray:=⟨#[114,101,97,100,101,114]⟩
abbrev WV:List ByteArray:=[⟨#[83,32,115,105,103,110,40,115,116,97,116,101,44,32,60,100,97,116,97,44,32,112,111,119,101,114,40,99,104,105,112,41,62,41]⟩,⟨#[82,32,63,110]⟩,⟨#[68,32,63,110]⟩,⟨#[83,32,115,105,103,110,40,99,104,105,112,44,32,63,110,41]⟩]
def Pb:List (Int×T):=WV.map vY
def tF:ByteArray×List (Int×T):=(nV,Pb)
abbrev WW:List ByteArray:=[⟨#[83,32,115,105,103,110,40,115,116,97,116,101,44,32,60,100,97,116,97,44,32,112,111,119,101,114,40,99,104,105,112,41,62,41]⟩,⟨#[82,32,112,111,119,101,114,40,63,120,41]⟩,⟨#[68,32,104,97,115,104,40,112,111,119,101,114,40,99,104,105,112,44,32,63,120,41,41]⟩,⟨#[83,32,104,97,115,104,40,112,111,119,101,114,40,99,104,105,112,44,32,63,120,41,41]⟩]
def Pd:List (Int×T):=WW.map vY
def yU:ByteArray×List (Int×T):=(nV,Pd)
abbrev WX:List ByteArray:=[⟨#[83,32,115,105,103,110,40,115,116,97,116,101,44,32,60,100,97,116,97,44,32,112,111,119,101,114,40,99,104,105,112,41,62,41]⟩,⟨#[68,32,100,97,116,97]⟩]
def Pe:List (Int×T):=WX.map vY
def yV:ByteArray×List (Int×T):=(nV,Pe)
abbrev WZ:List ByteArray:=[⟨#[82,32,115,105,103,110,40,115,116,97,116,101,44,32,60,63,100,44,32,112,111,119,101,114,40,63,99,41,62,41]⟩,⟨#[83,32,110,111,110,99,101]⟩,⟨#[82,32,115,105,103,110,40,63,99,44,32,110,111,110,99,101,41]⟩,⟨#[67,32,110,111,110,99,101]⟩]
def Pf:List (Int×T):=WZ.map vY
def wG:ByteArray×List (Int×T):=(kC,Pf)
abbrev Xa:List ByteArray:=[⟨#[82,32,115,105,103,110,40,115,116,97,116,101,44,32,60,63,100,44,32,112,111,119,101,114,40,63,99,41,62,41]⟩,⟨#[83,32,112,111,119,101,114,40,101,112,104,41]⟩,⟨#[82,32,104,97,115,104,40,112,111,119,101,114,40,101,112,104,44,32,63,99,41,41]⟩,⟨#[67,32,104,97,115,104,40,112,111,119,101,114,40,101,112,104,44,32,63,99,41,41]⟩]
def Pg:List (Int×T):=Xa.map vY
def yX:ByteArray×List (Int×T):=(kC,Pg)
abbrev Xb:List ByteArray:=[⟨#[82,32,115,105,103,110,40,115,116,97,116,101,44,32,60,63,100,44,32,63,112,62,41]⟩,⟨#[67,32,63,100]⟩]
def Ph:List (Int×T):=Xb.map vY
def oQ:ByteArray×List (Int×T):=(kC,Ph)
abbrev WY:List ByteArray:=[⟨#[100,97,116,97]⟩,⟨#[115,105,103,110,40,115,116,97,116,101,44,32,60,100,97,116,97,44,32,112,111,119,101,114,40,99,104,105,112,41,62,41]⟩,⟨#[112,111,119,101,114,40,115,116,97,116,101,41]⟩,⟨#[101,118,105,108]⟩,⟨#[112,111,119,101,114,40,101,118,105,108,41]⟩]
def dR:List T:=WY.map λx=>(T.parse x).1
def Xl(x:ByteArray):Bool:=decide (2<=x.size)&&(x.data.toList.getD 0 0==83||(x.data.toList.getD 0 0==82||(x.data.toList.getD 0 0==67||x.data.toList.getD 0 0==68)))
theorem x8(b:List ByteArray)(h:b.all Xl=true):∀x∈b,MG x:=by
 intro x c;have a:=bQ.1 h x c;simp only[Xl,ah,eH,bO,fD]at a;exact⟨a.1,a.2⟩
theorem tN(w:World)(a:List ByteArray):og (w.alloc (.cells (a.map Value.string).toArray 9)) (some ⟨w.heap.size,0,none⟩) a:=by
 refine⟨aau,.inr ⟨_,0,rfl,λj u hu=>?_⟩⟩;have h:=bP w (.cells (a.map Value.string).toArray 9);rw[eP];unfold World.cell?;rw[h];simpa using hu
theorem YL.box{s:ByteArray×List (Int×T)}{w w1 a:World}{A:Option Addr}{c:Nat}(x y:Value)(d:Below w.heap.size w w1)(f:w.heap.size<w1.heap.size)(h:uR (dP w1.heap.size) a A s.2)(hb:Below w1.heap.size w1 a):
 YL s w (.returned (.agg #[.string s.1,.slice A s.2.length c])) ((a.setCell ⟨w.heap.size,0,none⟩ x).setCell ⟨w.heap.size,1,none⟩ y):=by
 refine⟨A,c,rfl,h.aR λb e _=>?_,((d.t (hb.m aar)).setCell (ax _) _).setCell (ax _) _⟩;have:=ak e;exact⟨aM aar,N9 _ _ _ _ _ aar⟩
def vo(w:World)(A:Option Addr)(l:List (ByteArray×List (Int×T))):Prop:=l.length=0\/∃b off,A=some ⟨b,off,none⟩/\∀i (h:i<l.length),∃a c,w.cell? ⟨b,off+i*2,none⟩=some (.string l[i].1)/\w.cell? ⟨b,off+i*2+1,none⟩=some (.slice a l[i].2.length c)/\iI w a l[i].2
theorem vo.ag{w w':World}{A:Option Addr}{l:List (ByteArray×List (Int×T))}(h:vo w A l)(hb:Below w.heap.size w w'):vo w' A l:=by
 rcases h with h|⟨b,off,e,a⟩;·exact .inl h
 ·refine .inr ⟨b,off,e,λi hi=>?_⟩;obtain⟨c,d,h0,f,g⟩:=a i hi;exact⟨c,d,af hb h0,af hb f,g.ag hb⟩
def KA(w:World)(v:Value)(L:List T):Prop:=aS w (.agg #[.int .i64 0,.string ⟨#[]⟩,v]) (.mk 0 ⟨#[]⟩ L)
theorem bK.list{w:World}{base:Nat}{v:Value}{L:List T}(h:bK w base v L):KA w v L:=(h.term 0 ⟨#[]⟩ aar aat).at
theorem iE(w:World)(xs:Array Value)(ty:TypeId)(j:Nat):(w.alloc (.cells xs ty)).cell? ⟨w.heap.size,j,none⟩=xs[j]?:=by
 have h:=bP w (.cells xs ty);unfold World.cell?;rw[h];rfl
def Xf(a:World)(L:List T)(v:Value)(wr:World):Prop:=bK wr a.heap.size v L/\Below a.heap.size a wr
theorem Xf.step{a wr w3 w4:World}{L:List T}{kv:Value}{xs:List Value}{u0 u1 u2:Value}{t:T}{g cap:Nat}(f:bK wr a.heap.size kv L)(hb:Below a.heap.size a wr)
 (n:∀i (h:i<L.length),∃u0 u1 u2,xs[i*3]?=some u0/\xs[i*3+1]?=some u1/\xs[i*3+2]?=some u2/\bI (but a.heap.size kv.ownBlock) wr (.agg #[u0,u1,u2]) L[i]) (o:xs.length=L.length*3)
 (c:Below wr.heap.size wr w3) (p:bI (dP wr.heap.size) w3 (.agg #[u0,u1,u2]) t)
 (q:w4.ownsRow a.heap.size 29 3 (.slice (some ⟨g,0,none⟩) (L.length+1) cap) (L.length+1) (xs++[u0,u1,u2])) (j:(w3.alloc (.cells #[u0,u1,u2] 29)).grownBy w4 kv.ownBlock)
 (r:kv.ownBlock=some g\/g=w3.heap.size+1):Xf a (L++[t]) (.slice (some ⟨g,0,none⟩) (L.length+1) cap) w4:=by
 have l:=c.t ((ae w3 (.cells #[u0,u1,u2] 29)).m c.size);refine⟨?_,(hb.t (l.m hb.size)).grown j (by rw[aK];have:=c.size;have:=hb.size;omega) (λk s=>(f.block k s).1)⟩;exact bK.snoc (w:=w3.alloc (.cells #[u0,u1,u2] 29)) (H:=w3.heap.size+1) (t:=t) (λi hi=>by
  obtain⟨a0,u,a2,v,x,y,b3⟩:=n i hi;exact⟨a0,u,a2,v,x,y,b3.aR λb hb d=>⟨hb,l.block b d⟩⟩) o
  (p.aR λb m d=>⟨jd.2 ⟨aaA (ak m) hb.size,λe=>aaA ((f.block b e).2) (ak m)⟩,fK w3 _ b d⟩)
  q j r aba
structure jm (B:Nat) (w w':World):Prop extends Below B w w' where
 drawn:w.drawn<=w'.drawn
theorem jm.refl(B:Nat)(w:World):jm B w w:=⟨aC B w,ax _⟩
theorem jm.t{B:Nat}{a b c:World}(h:jm B a b)(k:jm B b c):jm B a c:=⟨h.toBelow.t k.toBelow,aG h.drawn k.drawn⟩
theorem jm.m{B a:Nat}{w w':World}(h:jm B w w')(b:a<=B):jm a w w':=⟨h.toBelow.m b,h.drawn⟩
theorem jm.drew{B:Nat}{a w:World}(h:jm B a w):jm B a w.drew:=⟨h.toBelow.drew,nZ h.drawn⟩
theorem jm.alloc{B:Nat}{a w:World}(h:jm B a w)(b:B<=w.heap.size)(o:Obj):jm B a (w.alloc o):=⟨h.toBelow.alloc b o,h.drawn⟩
theorem JJ(w:World)(a b c a' b' d:Value)(t:TypeId):jm w.heap.size w ((w.alloc (.cells #[a,b,c] t)).alloc (.cells #[a',b',d] t)):=⟨(vz w a b c a' b' d t).2.2,ax _⟩
theorem Ri(A A':Option Addr)(cap Q:Nat)(a d:List T)(U l:Nat->Value×Value×Value)(w:World)(aG:a.length<=1048576)(_:d.length<=1048576)
 (hA:a.length=0\/∃b off,A=some ⟨b,off,none⟩/\∀i,i<a.length->w.cell? ⟨b,off+i*3,none⟩=some (U i).1/\w.cell? ⟨b,off+i*3+1,none⟩=some (U i).2.1/\w.cell? ⟨b,off+i*3+2,none⟩=some (U i).2.2)
 (hU:∀i (h:i<a.length),aS w (.agg #[(U i).1,(U i).2.1,(U i).2.2]) a[i])
 (R:d.length=0\/∃b off,A'=some ⟨b,off,none⟩/\∀i,i<d.length->w.cell? ⟨b,off+i*3,none⟩=some (l i).1/\w.cell? ⟨b,off+i*3+1,none⟩=some (l i).2.1/\w.cell? ⟨b,off+i*3+2,none⟩=some (l i).2.2)
 (S:∀i (h:i<d.length),aS w (.agg #[(l i).1,(l i).2.1,(l i).2.2]) d[i])
 (C:∀j (h:j<a.length) (h':j<d.length) (v D:Value) (W:World),aS W v a[j]->aS W D d[j]->Calls Tryz.prog 63 #[v,D] W λe w'=>e=.returned (.int .i64 (T.cmp a[j] d[j]))/\jm W.heap.size W w'):
 Calls Tryz.prog 108 #[.slice A a.length cap,.slice A' d.length Q,.func (.func 63) #[] #[]] w λe w'=>
  e=.returned (.int .i64 (T.iC a d))/\jm w.heap.size w w':=by
 have V:=aa C;clear C;go_enter Tryz.func108,Tryz.ntmps108;go_wp2_with fail;go_loopw [13] (λi wr=>∃j:Nat,j<=a.length/\j<=d.length/\i=.int .i64 j/\(∀m (h:m<j) (h1:m<a.length) (h2:m<d.length),T.cmp a[m] d[m]=0)/\jm w.heap.size w wr) (λi _=>a.length-(intOf i).toNat);case atStart=>exact⟨0,aT _,aT _,rfl,λm h=>absurd h aar,jm.refl _ _⟩
 case round=>
  obtain⟨j,hj,aK,rfl,E,f⟩:=hrel;have q:=aa E;clear E;by_cases r:j<a.length
  ·obtain⟨b,off,s,t,rfl,d0,d1,d2,hu⟩:=aS.cells r hA hU;obtain⟨X,Y,Z⟩:=aak f.toBelow d0 d1 d2;have hi:(j:Int)<(a.length:Int):=aar;clear d0 d1 d2;by_cases u:j<d.length
   ·obtain⟨b',aL,ae,ah,rfl,F,G,H,I⟩:=aS.cells u R S;obtain⟨J,K,L⟩:=aak f.toBelow F G H;clear F G H;have ak:(j:Int)<(d.length:Int):=aar;have f0:=af ((aC wr.heap.size wr).alloc (ax _) (.cells #[.int .i64 a[j].aA,.string a[j].aI,.slice s a[j].ay.length t] 29)) J;have f1:=af ((aC wr.heap.size wr).alloc (ax _) (.cells #[.int .i64 a[j].aA,.string a[j].aI,.slice s a[j].ay.length t] 29)) K;have f2:=af ((aC wr.heap.size wr).alloc (ax _) (.cells #[.int .i64 a[j].aA,.string a[j].aI,.slice s a[j].ay.length t] 29)) L;have x:=JJ wr (.int .i64 a[j].aA) (.string a[j].aI) (.slice s a[j].ay.length t) (.int .i64 d[j].aA) (.string d[j].aI) (.slice ae d[j].ay.length ah) 29;obtain⟨HU,av,M,az⟩:=aad ((hu.ag f.toBelow).ag x.toBelow) ((I.ag f.toBelow).ag x.toBelow) r u;have aB:=aa (λhn=>T.EG a d j r u (λm g=>q.o m g aar aar) hn);obtain⟨c,N⟩:=aay (T.cmp a[j] d[j]);have y:=aa N;have O:=V.o j r u;have aD:=aa O;clear N O hu I;go_wp2_with fail;refine(aD.o _ _ _ HU.o av.o).m ?_;rintro e w2 ⟨P,z⟩;have aF:e=.returned (.int .i64 c):=P.t (gI y.o);clear P;subst aF;replace z:=f.t ((x.t (z.m x.size)).m f.size);clear f0 f1 f2 X Y Z J K L;by_cases B:c=0
    ·subst B;go_wp2_with fail;go_roundw
     case rel=>
      refine⟨j+1,M.o,az.o,aaw,λm h k o=>?_,z⟩;rcases bX m j with g|g;·exact q.o m g k o
      ·obtain rfl:m=j:=aar;exact y.o
     case measure=>exact aax M.o
    ·have aM:(c != 0)=true:=(by rw[jg];exact B);have HR:=aa (aB.o (λh=>B (y.o.symm.t h)));go_wp2_with fail;go_ret;exact⟨gI (y.o.symm.t HR.o.symm),z⟩
   ·have ak:(d.length:Int)<=(j:Int):=aar;have p:=aa (show T.iC a d=1 by rw[T.sU a d (λm k o=>q.o m aar k o),aH aar,aJ aaF]);have aN:=aa hu;clear hu;go_wp2_with fail;go_ret;exact⟨gI p.o.symm,f.alloc f.size _⟩
  ·have hi:(a.length:Int)<=(j:Int):=aar;have n:=T.sU a d (λm k o=>q.o m aar k o);by_cases k:a.length<d.length
   ·rw[aJ k]at n;have p:=aa n;clear n;have q1:(a.length:Int)<(d.length:Int):=aar;go_wp2_with fail;go_ret;exact⟨gI p.o.symm,f⟩
   ·rw[aH k,aH aaF]at n;have p:=aa n;clear n;have q1:(d.length:Int)<=(a.length:Int):=aar;go_wp2_with fail;go_ret;exact⟨gI p.o.symm,f⟩
theorem I4{w1 W a:World}{b c d e f g:Addr}{v0 i v2 v3 v4 v5:Value}(h:W.cell? b=some v0/\W.cell? c=some i/\W.cell? d=some v2/\W.cell? e=some v3/\W.cell? f=some v4/\W.cell? g=some v5/\jm w1.heap.size w1 W)
 (hb:jm W.heap.size W a):a.cell? b=some v0/\a.cell? c=some i/\a.cell? d=some v2/\a.cell? e=some v3/\a.cell? f=some v4/\a.cell? g=some v5/\jm w1.heap.size w1 a:=by
 obtain⟨h0,k,l,m,n,o,j⟩:=h;exact⟨af hb.toBelow h0,af hb.toBelow k,af hb.toBelow l,af hb.toBelow m,af hb.toBelow n,af hb.toBelow o,j.t (hb.m j.size)⟩
theorem ab8{p:Prop}(h:p:=by
 exact .inr ⟨b,off,e,λi hi=>by obtain⟨E,c1,c2⟩:=D i hi;exact⟨af d.toBelow E,af d.toBelow c1,af d.toBelow c2⟩⟩):p:=h
theorem Y8:∀(N:Nat) (t l:T) (v m:Value) (w:World),t.bE<N->aS w v t->aS w m l->t.bE<=1048576->l.bE<=1048576->
 Calls Tryz.prog 63 #[v,m] w λe w'=>e=.returned (.int .i64 (t.cmp l))/\jm w.heap.size w w':=by
 intro N;induction N with
 |zero=>intro t l v m w h;omega
 |succ N H=>
  intro t l v m w I q J K L;cases q with
  |mk k s A cap a U M O P Q hA hU=>
  cases J with
  |mk k' o f g c R ak av ay az r u=>
   simp only[T.bE]at I K L;have S:a.length<=1048576:=(aaz (T.lq a));have V:c.length<=1048576:=(aaz (T.lq c));rw[T.yD];obtain⟨F,G,_⟩:=vz w (.int .i64 k) (.string s) (.slice A a.length cap) (.int .i64 k') (.string o) (.slice f c.length g) 29;have n:=JJ w (.int .i64 k) (.string s) (.slice A a.length cap) (.int .i64 k') (.string o) (.slice f c.length g) 29;have q:=aS.mk k s A cap a U M O P Q hA hU;go_enter Tryz.func63,Tryz.ntmps63;go_upto_region 1 with fail;generalize(w.alloc (.cells #[.int .i64 k,.string s,.slice A a.length cap] 29)).alloc (.cells #[.int .i64 k',.string o,.slice f c.length g] 29)=p at F G n⊢;obtain⟨x0,x,y⟩:=F;obtain⟨z,B,C⟩:=G;obtain⟨bA,bU,aA,aB⟩:=aad hA hU r u;have hF:∀W,jm p.heap.size p W->Calls Tryz.prog 108 #[.slice A a.length cap,.slice f c.length g,.func (.func 63) #[] #[]] W λe w'=>
    e=.returned (.int .i64 (T.iC a c))/\jm W.heap.size W w':=λW X=>by
    have d:=n.t (X.m n.size);refine Ri A f cap g a c U R W S V ?_ (λi h=>(hU i h).ag d.toBelow) ?_ (λi h=>(u i h).ag d.toBelow) ?_
    ·rcases hA with h|⟨b,off,e,D⟩;·exact .inl h
     ·exact ab8
    ·rcases r with h|⟨b,off,e,D⟩;·exact .inl h
     ·exact ab8
    ·intro j h h' v m W' Y Z;have:=T.jq a j h;have:=T.jq c j h';exact H _ _ _ _ _ aar Y Z aar aar
   have HF:=aa hF;clear hA hU r u q hF
   go_region_held3 (λW=>W.cell? ⟨w.heap.size,0,none⟩=some (.int .i64 k)/\W.cell? ⟨w.heap.size,1,none⟩=some (.string s)/\W.cell? ⟨w.heap.size,2,none⟩=some (.slice A a.length cap)/\W.cell? ⟨w.heap.size+1,0,none⟩=some (.int .i64 k')/\W.cell? ⟨w.heap.size+1,1,none⟩=some (.string o)/\W.cell? ⟨w.heap.size+1,2,none⟩=some (.slice f c.length g)/\jm p.heap.size p W)
    (first|exact⟨x0,x,y,z,B,C,jm.refl _ _⟩|exact⟨x0,x,y,z,B,C,(jm.refl _ _).drew⟩|exact I4 aaK ae|exact I4 aaK ((jm.refl _ _).alloc (ax _) _)|go_keep)
    (first|(go_at_call 106;refine(Qg _ _ _).m ?_;rintro e w' ⟨rfl,rfl⟩)|(go_at_call 107;refine(Qh _ _ _).m ?_;rintro e w' ⟨rfl,rfl⟩)|(go_at_call 108;refine(HF.o _ (by first|assumption|exact jm.refl _ _|exact(jm.refl _ _).drew)).m ?_;rintro e w2 ⟨rfl,ae⟩)|(go_at_call 105;refine(TJ _ _ _ _ _ _ (iQ _ _ _ _ _).1 (iQ _ _ _ _ _).2.1 (iQ _ _ _ _ _).2.2).m ?_;rintro e w' ⟨rfl,rfl⟩))
   all_goals
    rename_i hS;have ah:=hS.2.2.2.2.2.2;clear hS x0 x y z B C;go_wp2_with fail;go_ret;exact⟨rfl,n.t (ah.m n.size)⟩
theorem jm.grow{w w':World}(h:jm w.heap.size w w'):∃q os,w'=Go.Sort.grow (w.drewN q) os:=by
 refine⟨w'.drawn-w.drawn,w'.heap.extract w.heap.size w'.heap.size,?_⟩;have hd:=h.drawn;have a:w'.heap=w.heap++w'.heap.extract w.heap.size w'.heap.size:=by
  apply Array.ext_getElem?;intro i;have e:=h.size;rw[Array.getElem?_append];split;·rename_i hi;exact h.block i hi
  ·rename_i hi;rw[Array.getElem?_extract];split;·congr 1;omega
   ·rw[ny aaF]
 obtain⟨f,t1,d1,g,j⟩:=w';have b:=h.os;have c:=h.tape;have d:=h.output;dsimp only at hd a b c d⊢;unfold Go.Sort.grow World.drewN;dsimp only
 congr 1;omega
end
section
open Go.RowKit Go.Maps
variable {X:Nat->Bool}
namespace Wb
variable {W:List fG} {f i:Nat} {m:Bool}
theorem WK(h:W.length<=i):yh f i m W=(W,m):=by
 cases f with
 |zero=>rfl
 |succ f=>simp only[yh];rw[aH aaF]
theorem U2(h:i<W.length)(a:W[i].part=false):yh (f+1) i m W=yh f (i+1) m W:=by
 simp only[yh];rw[aJ h,aH (by rw[wX h,a];simp)]
theorem U3(h:i<W.length)(a:W[i].part=true):yh (f+1) i m W=yh f (i+1) (m||(apart W i).2) (apart W i).1:=by
 simp only[yh];rw[aJ h,aJ (by rw[wX h,a])]
theorem PM(K:List T)(j:Nat)(h:j<K.length):start (K.take (j+1))=(take (start (K.take j)) K[j] 1 []).1:=by
 rw[aZ h];unfold start;rw[mf];rfl
theorem Kq{U:List T}{K:List T}(h:∀t∈K,t∈U)(j:Nat):Inv U (start (K.take j)):=
 (FY ⟨#[]⟩ (K.take j) [] (λt a=>h t (uf a)) (Inv.nil U)).1
theorem U8{N:Nat}{W':List fG}(h:yh N 0 false W=(W',true)):run N (f+1) W=run N f W':=by
 simp only[run,h];rfl
theorem U7{N:Nat}{W':List fG}(h:yh N 0 false W=(W',false)):run N (f+1) W=W':=by
 simp only[run,h];rfl
def fill(N:Nat)(K:List T):List fG:=run N (N+1) (start K)
end Wb
theorem QK(w:World)(B:Nat)(e:TypeId)(size:Nat):w.ownsRow B e size (.slice none 0 0) 0 []:=⟨aau,.inl ⟨rfl,rfl⟩⟩
theorem gz.empty(w:World)(B:Nat)(a:B<=w.heap.size):gz mM B ((w.alloc (.map #[] 0)).alloc (.cells #[.slice none 0 0,.map (some w.heap.size),.slice none 0 0] 195)) (w.heap.size+1) w.heap.size (.slice none 0 0) (.slice none 0 0) []:=by
 have hb:=ae (w.alloc (.map #[] 0)) (.cells #[.slice none 0 0,.map (some w.heap.size),.slice none 0 0] 195);refine⟨⟨[],⟨rfl,λi h=>absurd h (ji _)⟩,QK _ _ _ _⟩,QK _ _ _ _,⟨.map [],0,?_,ax _,zh.nil⟩,?_,⟨aar,a⟩,aau,λ_ _=>rfl⟩;·exact(World.ownsMap_made w Tryz.prog 9 _).kept (row:=none) (jr none hb) aau
 ·have:=bP (w.alloc (.map #[] 0)) (.cells #[.slice none 0 0,.map (some w.heap.size),.slice none 0 0] 195);rw[aK]at this;exact this
theorem Za{U:List T}(hU:yB U)(bi:∀t∈U,t.bE<=1048576)(L:List T)(A:Option Addr)(cap:Nat)(w:World)(h:iY w A cap L)(hb:∀t∈L,t.bE<=1048576)(hK:∀t∈cnt L,t∈U):
 Calls Tryz.prog 146 #[.slice A L.length cap] w λe w'=>∃g M vs vp,e=.returned (.pointer (some ⟨g,0,none⟩))/\gz mM w.heap.size w' g M vs vp (Wb.fill U.length (cnt L))/\Below w.heap.size w w':=by
 obtain⟨N,O⟩:=aay U.length;have HL:=aa (λ(W:List fG) (z:Inv U W)=>show W.length<=N by rw[<-O];exact z.len);rw[O];have dE:N<=1048576:=(by rw[<-O];exact hU.size);obtain⟨R,hR⟩:=aay (Wb.fill N (cnt L));rw[hR];obtain⟨HR,bO,bR,bS⟩:=aad hR (λ(t:T) (ht:t∈U) v' W' how jw F fc g M a vs' mK (bP:Inv U a) hW bQ hF=>Xx (X:=mM) (W:=a) (g:=g) (M:=M) (B:=w.heap.size) (vs:=vs') (vp:=mK) t v' W' how jw F fc hW bQ (bi t ht) hF (bP.room hU ht)) (λi w' g M vs vp W hi z hW=>X7 (X:=mM) (B:=w.heap.size) (g:=g) (M:=M) (vs:=vs) (vp:=vp) (W:=W) hU bi i w' hi z hW) (λ(i:Nat) (W:List fG) (hi:i<W.length) (z:Inv U W)=>(Wb.JD hU z hi).1);have bT:Sem.run Tryz.prog (Instr.makeMap 91 none) w=.ok (.map (some w.heap.size)) (w.alloc (.map #[] 0)):=rfl;have hw:=(ae w (.map #[] 0)).t ((ae (w.alloc (.map #[] 0)) (.cells #[.slice none 0 0,.map (some w.heap.size),.slice none 0 0] 195)).m aaW);obtain⟨P,HC,aC,Q⟩:=aad (gz.empty w w.heap.size (ax _)) (UD L A cap _ (h.ag hw) hb) hw hK;clear h hb hK hw hR O;go_enter Tryz.func146,Tryz.ntmps146;go_upto_region 2 with fail;clear bT;generalize bn:(w.alloc (.map #[] 0)).alloc (.cells #[.slice none 0 0,.map (some w.heap.size),.slice none 0 0] 195)=w1 at P HC aC⊢;have bq:w1.heap.size=w.heap.size+1+1:=(by rw[<-bn,aK,aK]);have dF:=aa bq;have bU:(w.alloc (.map #[] 0)).heap.size=w.heap.size+1:=aK _ _;clear bn bq;obtain⟨g,hg⟩:=aay (w.heap.size+1);rw[hg]at P⊢;clear hg bU;go_wp2_with fail;refine HC.o.m ?_;rintro e w2 ⟨v',rfl,aD,q⟩;obtain⟨A5,c5,rfl,_,bV⟩:=aD.shape;have bu:bI (nr mM g w.heap.size (.slice none 0 0) (.slice none 0 0)) w2 (.agg #[.int .i64 0,.string ⟨#[]⟩,.slice A5 (cnt L).length c5]) (.mk 0 ⟨#[]⟩ (cnt L)):=
  (aD.term 0 ⟨#[]⟩ aar (aT _)).aR (λb hb S=>⟨qA P.o (ak hb),rfl⟩)
 obtain⟨V,aF,Y⟩:=aac (P.o.ag q) bu (aC.o.t (q.m aC.o.size));clear aD q bu bV;have bv:(cnt L).length<=64:=aG (gF _ _) aaR;generalize cnt L=K at aF Q HR bv⊢;obtain⟨n,hn⟩:=aay K.length;have HN:=aa hn;rw[hn]at aF bv⊢;clear hn;go_upto_region 3 with fail;go_loopw [14] (λbW wr=>∃(j:Nat) (s u:Value),j<=n/\bW=.int .i64 j/\gz mM w.heap.size wr g w.heap.size s u (Wb.start (K.take j))/\bI (nr mM g w.heap.size s u) wr (.agg #[.int .i64 0,.string ⟨#[]⟩,.slice A5 n c5]) (.mk 0 ⟨#[]⟩ K)/\Below w.heap.size w wr) (λi _=>n-(intOf i).toNat);case atStart=>exact⟨0,_,_,aT _,rfl,by rw[iM];exact V.o,aF.o,Y.o⟩
 case round=>
  obtain⟨j,s,u,hj,rfl,C,Z,D⟩:=hrel;by_cases d:j<n
  ·have E:j<K.length:=(by rw[HN.o];exact d);obtain⟨b,off,A1,c1,rfl,hS,d0,d1,d2,aH⟩:=Z.eT (i:=j) E;have aJ:=aa (show(T.mk 0 ⟨#[]⟩ K).eT j=K[j]'(E)from T.O9 (t:=.mk 0 ⟨#[]⟩ K) E);generalize(T.mk 0 ⟨#[]⟩ K).eT j=t at d0 d1 d2 aH aJ;have bX:=aa (show t∈U by rw[aJ.o];exact Q.o _ (aP E));have bY:=aa (show Wb.start (K.take (j+1))=(Wb.take (Wb.start (K.take j)) t 1 []).1 by rw[aJ.o];exact Wb.PM K j E);have hi:(j:Int)<(n:Int):=aar;have G:=ae wr (.cells #[.int .i64 t.aA,.string t.aI,.slice A1 t.ay.length c1] 29);have bk:=jy.new wr (.int .i64 t.aA) (.string t.aI) (.slice A1 t.ay.length c1);obtain⟨bZ,cu,cz,cB,aL⟩:=aae (C.ag G) (Z.aR (S':=nr mM g w.heap.size s u) (λb hb S=>⟨hb,G.block b S⟩)) (aH.aR (S':=nr mM g w.heap.size s u) (λb hb S=>⟨hb,G.block b S⟩)) (D.t (G.m D.size)) d;have cK:=aa (bO.o t bX.o _ _ 1 [] none 0 g w.heap.size _ s u (Wb.Kq Q.o j) bZ.o cz.o (lH.none_ _ _));clear C Z D aH G;go_upto_region 5 with fail;generalize wr.alloc _=wa at*;obtain⟨k0,k1,k2⟩:=bk.cells;clear bk d0 d1 d2;go_wp2_with fail;refine cK.o.m ?_;rintro e w3 ⟨rfl,bz,bA,H,x⟩;have af:=aa (show gz mM w.heap.size w3 g w.heap.size bz bA (Wb.start (K.take (j+1))) by rw[bY.o];exact H);obtain⟨cO,ah⟩:=aab (cu.o.fr x) (cB.o.t x.below);clear H x k0 k1 k2;go_wp2_with fail;go_roundw;case rel=>exact⟨j+1,_,_,aL.o,aaw,af.o,cO.o,ah.o⟩
   case measure=>exact aax aL.o
  ·obtain rfl:j=n:=aar;have cZ:=aa (show Inv U (Wb.start K) by have:=Wb.Kq Q.o j;rw[bG (by rw[HN.o];omega)]at this;exact this);have df:=aa (show gz mM w.heap.size wr g w.heap.size s u (Wb.start K) by rw[bG (by rw[HN.o];omega)]at C;exact C);have dh:=aa D;clear C Z D;go_upto_region 8 with fail
   go_loopg [6] (N+1) (λgg s6 bB=>∃(m:Bool) (a:List fG) (f:Nat) (bC bD:Value),s6=.bool m/\gz mM w.heap.size bB g w.heap.size bC bD a/\Inv U a/\Below w.heap.size w bB/\(m=true->Wb.run N f a=R/\N+1<=Wb.np a+f/\N+1<=Wb.np a+gg)/\(m=false->a=R))
   case atStart=>exact⟨true,_,N+1,_,_,rfl,df.o,cZ.o,dh.o,λ_=>⟨HR.o,Nat.le_add_left _ _,Nat.le_add_left _ _⟩,λe=>by cases e⟩
   case round=>
    obtain⟨m,a,f,bC,bD,rfl,aM,av,q,aN,aO⟩:=hrel;obtain⟨V,dm,Y⟩:=aac aM av q;cases m with
    |false=>
     have k:=aa (aO rfl);clear aM av q aN aO;go_wp2_with fail;go_ret;exact⟨g,w.heap.size,_,_,rfl,by rw[<-k.o];exact V.o,Y.o⟩
    |true=>
     obtain⟨HM,dn⟩:=aab (aN rfl) (show Wb.np a<=N from aG (Wb.Xu a) (HL.o a av));clear aM av q aN aO;obtain⟨wo,rfl⟩:∃wo:World,wo=wr:=⟨_,rfl⟩;go_upto_region 11 with fail;go_loopw [6,7] (λs6 s7 wi=>∃(l:Bool) (i I:Nat) (c:List fG) (bF bH:Value),s6=.bool l/\s7=.int .i64 i/\i<=N/\N<=I+i/\Wb.yh I i l c=Wb.yh N 0 false a/\Inv U c/\gz mM w.heap.size wi g w.heap.size bF bH c/\Below w.heap.size w wi) (λ_ i _=>N+1-(intOf i).toNat);case atStart=>exact⟨false,0,N,a,_,_,rfl,rfl,aT _,aar,rfl,dm.o,V.o,Y.o⟩
     case round=>
      obtain⟨l,i,I,c,bF,bH,rfl,rfl,bJ,bK,aQ,az,v,aS⟩:=hrel;obtain⟨A7,c7,A8,c8,rfl,rfl⟩:=v.shapes;obtain⟨aU,aB,aV,aW⟩:=aad v az aS aQ;have dw:=v.cells.1;have dx:=v.cells.2.2.1;by_cases d:i<c.length
      ·have dz:=HL.o c az;obtain⟨o,dA⟩:∃o,I=o+1:=⟨I-1,aar⟩;subst dA;have aL:=aa d;have p:=aa (show i+1<=N/\N<=o+(i+1) by omega);obtain⟨gp,cp,dB,p0,_,_⟩:=v.D5 d;injection dB with J _ h3;subst J;subst h3;have bL:(0:Int)<=(i:Int)/\(i:Int)<(c.length:Int):=aar;obtain⟨bL,dC⟩:=bL;have dG:(i:Int)<=1048576:=aar;clear v az aS aQ bK dz bJ;cases y:(c[i]'(d)).part with
       |false=>
        rw[y]at p0;have k:=aa (show Wb.yh o (i+1) l c=Wb.yh N 0 false a by rw[<-aW.o];exact(Wb.U2 d y).symm);clear y d;go_wp2_with fail;go_roundw;case rel=>exact⟨l,i+1,o,c,_,_,rfl,aaw,p.o.1,p.o.2,k.o,aB.o,aU.o,aV.o⟩
        case measure=>exact aax p.o.1
       |true=>
        rw[y]at p0;have aY:=bR.o i wr g w.heap.size _ _ c d aB.o aU.o;have aZ:=bS.o i c d aB.o;have bf:=(Wb.U3 (f:=o) (m:=l) d y).symm.t aW.o;generalize Wb.apart c i=r at aY aZ bf;obtain⟨dD,bM,bN⟩:=aac aY aZ bf;clear y d aY aZ bf;go_wp2_with fail;refine dD.o.m ?_;rintro e w3 ⟨rfl,bz,bA,H,x⟩;obtain⟨af,ah⟩:=aab H (aV.o.t x.below);clear H x p0 dw dx;obtain⟨r1,r2⟩:=r;cases r2 with
        |true=>
         have k:=aa (show Wb.yh o (i+1) true r1=Wb.yh N 0 false a by have:=bN.o;rw[Bool.or_true]at this;exact this);go_wp2_with fail;go_roundw;case rel=>exact⟨true,i+1,o,r1,_,_,rfl,aaw,p.o.1,p.o.2,k.o,bM.o,af.o,ah.o⟩
         case measure=>exact aax p.o.1
        |false=>
         have k:=aa (show Wb.yh o (i+1) l r1=Wb.yh N 0 false a by have:=bN.o;rw[tO]at this;exact this);go_wp2_with fail;go_roundw;case rel=>exact⟨l,i+1,o,r1,_,_,rfl,aaw,p.o.1,p.o.2,k.o,bM.o,af.o,ah.o⟩
         case measure=>exact aax p.o.1
      ·have dC:¬((i:Int)<(c.length:Int)):=aar;have k:=aa (show Wb.yh N 0 false a=(c,l) by rw[<-aW.o];exact Wb.WK aar);have bg:=aa (show 0<gk/\0<f from aaA HM.o dn.o);clear v az aS aQ bK bJ d;go_wp2_with fail
       go_roundg (gk-1)
       case measure=>have:=bg.o;omega
       case rel=>
        refine⟨l,c,f-1,_,_,rfl,aU.o,aB.o,aV.o,λe=>?_,λe=>?_⟩
        ·subst e;obtain⟨J,h2,h3⟩:=HM.o;obtain⟨h4,h5⟩:=bg.o;have h6:=(Wb.Ld N 0 false a).2;rw[k.o]at h6;have h7:Wb.np a+1<=Wb.np c:=by
          rcases h6 rfl with h|h;·cases h
          ·exact h
         refine⟨?_,aar,aar⟩;rw[<-J,show f=f-1+1 by omega,Wb.U8 k.o,jQ]
        ·subst e;obtain⟨J,h2,h3⟩:=HM.o;obtain⟨h4,h5⟩:=bg.o;rw[<-J,show f=f-1+1 by omega,Wb.U7 k.o]
end
end Go.Proofs.YtaciciokmpbkkaaGreatDoor
