import Derived.Test.YtaciciokmpbkkaaGreatDoorWebG11
set_option maxRecDepth 100000
set_option maxHeartbeats 16000000
namespace Go.Proofs.YtaciciokmpbkkaaGreatDoor
section
open Go.RowKit
structure El (α:Type) where
 ty:TypeId
 size:Nat
 gq:(Nat->Bool)->World->List Value->α->Prop
 len:∀{S w xs a},gq S w xs a->xs.length=size
 one:∀{S w xs a},gq S w xs a->∀u∈xs,u.oneCell'=true
 aR:∀{S S':Nat->Bool} {w w':World} {xs a},gq S w xs a->(∀b,S b=true->b<w.heap.size->S' b=true/\w'.heap[b]?=w.heap[b]?)->gq S' w' xs a
 pos:0<size
namespace El
variable {α:Type} (E:El α)
def all(S:Nat->Bool)(w:World)(dG:List (List Value))(L:List α):Prop:=dG.length=L.length/\∀i (h:i<dG.length) (h':i<L.length),E.gq S w dG[i] L[i]
variable {E} {S S':Nat->Bool} {w w':World} {dG:List (List Value)} {L:List α}
theorem all.aR(h:E.all S w dG L)(c:∀b,S b=true->b<w.heap.size->S' b=true/\w'.heap[b]?=w.heap[b]?):E.all S' w' dG L:=⟨h.1,λi a b=>E.aR (h.2 i a b) c⟩
theorem all.nil:E.all S w [] []:=⟨rfl,λ_ h=>absurd h (jg _)⟩
theorem all.push{cs:List Value}{a:α}(h:E.all S w dG L)(c:E.gq S w cs a):E.all S w (dG++[cs]) (L++[a]):=by
 refine⟨by rw[aF,aF,h.1];rfl,λi a b=>?_⟩;by_cases hi:i<dG.length
 ·rw[dH hi,dH (by rw[<-h.1];exact hi)];exact h.2 i hi (by rw[<-h.1];exact hi)
 ·have d:i=dG.length:=(by simp at a;omega);subst d;rw[dm (ak _),dm (by rw[h.1];exact ak _)];simpa[h.1]using c
theorem all.len(h:E.all S w dG L):∀cs∈dG,cs.length=E.size:=λcs a=>by
 obtain⟨j,hj,rfl⟩:=bI a;exact E.len (h.2 j hj (by rw[<-h.1];exact hj))
theorem all.ones(h:E.all S w dG L):∀u∈dG.flatten,u.oneCell'=true:=λu hu=>by
 obtain⟨cs,a,hu⟩:=List.mem_flatten.1 hu;obtain⟨j,hj,rfl⟩:=bI a;exact E.one (h.2 j hj (by rw[<-h.1];exact hj)) u hu
theorem all.append{c:List (List Value)}{d:List α}(h:E.all S w dG L)(h':E.all S w c d):E.all S w (dG++c) (L++d):=by
 refine⟨by rw[aF,aF,h.1,h'.1],λi a b=>?_⟩;by_cases hi:i<dG.length
 ·rw[dH hi,dH (by rw[<-h.1];exact hi)];exact h.2 i hi (by rw[<-h.1];exact hi)
 ·rw[dm (by omega),dm (by rw[<-h.1];omega)];have e:=h.1;simp only[e];exact h'.2 _ _ _
theorem all.sub{e:List (List Value)}{g:List α}(h:E.all S w dG L)(f:Nat->Nat)(j:e.length=g.length)(k:∀i (a:i<e.length) (b:i<g.length),∃(c:f i<dG.length) (d:f i<L.length),e[i]=dG[f i]/\g[i]=L[f i]):E.all S w e g:=
 ⟨j,λi a b=>by obtain⟨c,d,l,m⟩:=k i a b;rw[l,m];exact h.2 _ c d⟩
theorem all.flat(h:E.all S w dG L){i:Nat}(hi:i<dG.length){r:Nat}(a:r<E.size):dG.flatten[i*E.size+r]?=(dG[i])[r]?:=AV dG h.len i hi r a
theorem all.LM(h:E.all S w dG L):dG.flatten.length=L.length*E.size:=by
 have:∀(dG:List (List Value)),(∀cs∈dG,cs.length=E.size)->dG.flatten.length=dG.length*E.size:=by
  intro dG;induction dG with
  |nil=>intro _;simp
  |cons a r d=>intro b;rw[gy,aF,b a eD,d λc e=>b c (bq _ e),bu,qR];omega
 rw[this dG h.len,h.1]
end El
def off(S:Nat->Bool)(g:Option Nat):Nat->Bool:=λb=>S b&&!(g==some b)
theorem dX{S:Nat->Bool}{g:Option Nat}{b:Nat}:off S g b=true<->S b=true/\g≠some b:=by
 unfold off;rw[ai,bZ,aB]
def mf:Nat->Bool:=λ_=>true
def jQ(B:Nat):Nat->Bool:=λb=>decide (b<B)
variable {α:Type} {E:El α}
def jK(E:El α)(S:Nat->Bool)(w:World)(v:Value)(L:List α):Prop:=
 ∃A cap,v=.slice A L.length cap/\L.length<=cap/\cap<=maxLen/\(L.length=0\/∃b o dG,A=some ⟨b,o,none⟩/\S b=true/\E.all S w dG L/\∀j u,dG.flatten[j]?=some u->w.cell? ⟨b,o+j,none⟩=some u)
theorem jK.nil(E:El α)(S:Nat->Bool)(w:World):jK E S w (.slice none 0 0) []:=⟨none,0,rfl,ak _,aL _,.inl rfl⟩
theorem jK.aR{S S':Nat->Bool}{w w':World}{v:Value}{L:List α}(h:jK E S w v L)(c:∀b,S b=true->b<w.heap.size->S' b=true/\w'.heap[b]?=w.heap[b]?):jK E S' w' v L:=by
 obtain⟨A,cap,e,g,i,k⟩:=h;refine⟨A,cap,e,g,i,?_⟩;rcases k with h0|⟨b,o,dG,l,hS,d,f⟩;·exact .inl h0
 ·rcases dE L.length with h0|h0;·exact .inl h0
  ·have m:0<dG.flatten.length:=(by rw[d.LM];exact Nat.mul_pos h0 E.pos);have n:=eP w _ (f 0 _ (aH m));obtain⟨p,q⟩:=c b hS n;exact .inr ⟨b,o,dG,l,p,d.aR c,λj u hu=>(dD (a:=⟨b,o+j,none⟩) q).t (f j u hu)⟩
theorem jK.ag{S:Nat->Bool}{w w':World}{v:Value}{L:List α}(h:jK E S w v L)(hb:Below w.heap.size w w'):jK E S w' v L:=h.aR λb hS a=>⟨hS,hb.block b a⟩
theorem jK.any{S:Nat->Bool}{w:World}{v:Value}{L:List α}(h:jK E S w v L):jK E mf w v L:=h.aR λ_ _ _=>⟨rfl,rfl⟩
theorem jK.low{S:Nat->Bool}{w:World}{v:Value}{L:List α}(h:jK E S w v L):jK E (jQ w.heap.size) w v L:=h.aR λ_ _ a=>⟨aQ a,rfl⟩
theorem jK.get{S:Nat->Bool}{w:World}{A:Option Addr}{n cap:Nat}{L:List α}(h:jK E S w (.slice A n cap) L){i:Nat}(hi:i<L.length):
 ∃b o cs,A=some ⟨b,o,none⟩/\E.gq S w cs L[i]/\∀r u,cs[r]?=some u->w.cell? ⟨b,o+(i*E.size+r),none⟩=some u:=by
 obtain⟨A',j,e,k,l,f⟩:=h;injection e with c m p;subst c;rcases f with h0|⟨b,o,dG,c,hS,a,g⟩;·omega
 ·have d:i<dG.length:=(by rw[a.1];exact hi);refine⟨b,o,dG[i],c,a.2 i d hi,λr u hu=>g _ u ?_⟩;rw[a.flat d (by rw[<-E.len (a.2 i d hi)];exact(bg.1 hu).1)];exact hu
theorem jK.shape{S:Nat->Bool}{w:World}{v:Value}{L:List α}(h:jK E S w v L):∃A cap,v=.slice A L.length cap/\L.length<=cap/\cap<=maxLen:=by
 obtain⟨A,cap,e,a,b,_⟩:=h;exact⟨A,cap,e,a,b⟩
def gV(E:El α)(S:Nat->Bool)(base:Nat)(w:World)(v:Value)(L:List α):Prop:=∃dG,E.all (off S v.ownBlock) w dG L/\w.ownsRow base E.ty E.size v L.length dG.flatten
theorem gV.nil(E:El α)(S:Nat->Bool)(base:Nat)(w:World):gV E S base w (.slice none 0 0) []:=⟨[],El.all.nil,gZ _ _ _ _⟩
theorem gV.aR{S:Nat->Bool}{base:Nat}{w w':World}{v:Value}{L:List α}(h:gV E S base w v L)(c:∀b,(S b=true\/v.ownBlock=some b)->b<w.heap.size->w'.heap[b]?=w.heap[b]?):gV E S base w' v L:=by
 obtain⟨dG,d,e⟩:=h;exact⟨dG,d.aR λb hb a=>⟨hb,c b (.inl (dX.1 hb).1) a⟩,pg e λb hb a=>c b (.inr hb) a⟩
theorem gV.ag{S:Nat->Bool}{base:Nat}{w w':World}{v:Value}{L:List α}(h:gV E S base w v L)(hb:Below w.heap.size w w'):gV E S base w' v L:=h.aR λb _ a=>hb.block b a
theorem gV.shape{S:Nat->Bool}{base:Nat}{w:World}{v:Value}{L:List α}(h:gV E S base w v L):∃A cap,v=.slice A L.length cap:=by
 obtain⟨dG,_,a⟩:=h;exact oO a
theorem gV.cells{S:Nat->Bool}{base:Nat}{w:World}{v:Value}{L:List α}(h:gV E S base w v L):∃A cap dG,v=.slice A L.length cap/\E.all (off S (Value.slice A L.length cap).ownBlock) w dG L/\w.ownsRow base E.ty E.size (.slice A L.length cap) L.length dG.flatten:=by
 obtain⟨A,cap,rfl⟩:=h.shape;obtain⟨dG,a,b⟩:=h;exact⟨A,cap,dG,rfl,a,b⟩
theorem gV.block{S:Nat->Bool}{base:Nat}{w:World}{v:Value}{L:List α}(h:gV E S base w v L):∀k,v.ownBlock=some k->base<=k/\k<w.heap.size:=by
 obtain⟨dG,_,a⟩:=h;exact a.lt
theorem gV.Hg{S S':Nat->Bool}{base:Nat}{w:World}{v:Value}{L:List α}(h:gV E S base w v L)(hS:∀b,S b=true->S' b=true)(c:∀b,base<=b->S' b=true):jK E S' w v L:=by
 obtain⟨dG,d,a⟩:=h;have e:E.all S' w dG L:=d.aR λb hb _=>⟨hS b (dX.1 hb).1,rfl⟩;have l:=a.lt;rcases a.2 with⟨rfl,h0⟩|⟨g,cap,m,rfl,f,_,i,k,_⟩;·exact⟨none,0,by rw[h0],by omega,aL _,.inl h0⟩
 ·refine⟨_,cap,rfl,i,k,.inr ⟨g,0,dG,rfl,c g f,e,λj u hu=>?_⟩⟩;have:=a.cells (g:=g) rfl j u hu;rw[bS]at this;exact this
theorem gV.list{base:Nat}{w:World}{v:Value}{L:List α}(h:gV E (eG base) base w v L):jK E (eG base) w v L:=h.Hg (λ_ h=>h) (λ_ h=>aQ h)
theorem gV.push{S:Nat->Bool}{base n c cap:Nat}{w w3 w4:World}{A A':Option Addr}{L:List α}{dG:List (List Value)}{cs:List Value}{a:α}(i:E.all (off S (Value.slice A n c).ownBlock) w dG L)(j:L.length=n)
 (k:∀b,b<w.heap.size->w3.heap[b]?=w.heap[b]?) (l:E.gq (off S (Value.slice A n c).ownBlock) w3 cs a)
 (f:w4.ownsRow base E.ty E.size (.slice A' (n+1) cap) (n+1) (dG.flatten++cs)) (m:w3.grownBy w4 (Value.slice A n c).ownBlock) (o:A'.map (·.block)=(Value.slice A n c).ownBlock\/A'.map (·.block)=some w3.heap.size):
 gV E S base w4 (.slice A' (n+1) cap) (L++[a]):=by
 obtain⟨g,v,e,_⟩:=f.form (by omega);injection e with p x y;subst p;have q:∀b,off S (Value.slice A n c).ownBlock b=true->b<w3.heap.size->off S (Value.slice (some ⟨g,0,none⟩) (n+1) cap).ownBlock b=true/\w4.heap[b]?=w3.heap[b]?:=λb hb d=>by
  obtain⟨s,h⟩:=dX.1 hb;refine⟨dX.2 ⟨s,λe=>?_⟩,m.block b d (λe=>h e.symm)⟩;have t:g=b:=aA e;rcases o with r|r;·exact h (by rw[<-r,<-t];rfl)
  ·have:g=w3.heap.size:=aA r;omega
 have u:(L++[a]).length=n+1:=(by simp[j]);refine⟨dG++[cs],?_,?_⟩;·exact((i.aR λb hb d=>⟨hb,k b d⟩).push l).aR q
 ·rw[u,pI];simpa using f
theorem El.fresh{S:Nat->Bool}{B:Nat}{w3 w':World}{cs:List Value}{a:α}{g:Option Nat}(h:E.gq (eG B) w3 cs a)(hS:∀b,B<=b->S b=true)(c:∀k,g=some k->k<B)(hb:∀b,b<w3.heap.size->w'.heap[b]?=w3.heap[b]?):E.gq (off S g) w' cs a:=
 E.aR h λb d f=>by
   have i:=ax d;exact⟨dX.2 ⟨hS b i,λe=>by have:=c b e;omega⟩,hb b f⟩
def oC:El T where
 ty:=29
 size:=3
 gq S w xs t:=∃A c,xs=[.int .i64 t.aC,.string t.aJ,.slice A t.ay.length c]/\bN S w (.agg #[.int .i64 t.aC,.string t.aJ,.slice A t.ay.length c]) t
 len:=λ⟨_,_,e,_⟩=>by rw[e];rfl
 one:=λ⟨_,_,e,_⟩ u hu=>by rw[e]at hu;simp at hu;rcases hu with rfl|rfl|rfl<;>rfl
 aR:=λ⟨A,c,e,h⟩ a=>⟨A,c,e,h.aR a⟩
 pos:=by decide
def NN:El Bd where
 ty:=132
 size:=4
 gq S w xs x:=∃A c,xs=[.string x.var,.int .i64 x.t.aC,.string x.t.aJ,.slice A x.t.ay.length c]/\bN S w (.agg #[.int .i64 x.t.aC,.string x.t.aJ,.slice A x.t.ay.length c]) x.t/\x.var.size<=maxLen
 len:=λ⟨_,_,e,_⟩=>by rw[e];rfl
 one:=λ⟨_,_,e,_⟩ u hu=>by rw[e]at hu;simp at hu;rcases hu with rfl|rfl|rfl|rfl<;>rfl
 aR:=λ⟨A,c,e,h,a⟩ b=>⟨A,c,e,h.aR b,a⟩
 pos:=by decide
theorem jK.term{S:Nat->Bool}{w:World}{v:Value}{L:List T}(h:jK oC S w v L)(k:Int)(s:ByteArray)(n: -9223372036854775808<=k/\k<=9223372036854775807)(p:s.size<=maxLen):bN S w (.agg #[.int .i64 k,.string s,v]) (.mk k s L):=by
 obtain⟨A,cap,rfl,c,f,u⟩:=h;rcases u with h0|⟨b,o,dG,x,hS,g,y⟩
 ·obtain rfl:=bQ h0;exact aO.mk k s A cap [] (λ_=>(undef,undef,undef)) n p c f (.inl rfl) (λi h=>absurd h (jg _))
 ·subst x;have z:=g.1;refine aO.mk k s _ cap L (λi=>((dG.getD i []).getD 0 undef,(dG.getD i []).getD 1 undef,(dG.getD i []).getD 2 undef)) n p c f (.inr ⟨b,o,rfl,λi hi=>?_⟩) (λi hi=>?_)
  ·have a:i<dG.length:=(by omega);obtain⟨j,l,e,q⟩:=g.2 i a hi;have t:=λr (d:r<3)=>g.flat (E:=oC) a d;rw[e]at t;simp only[dC,aH a,e,iA];have m:∀r,r<3->(only w S).cell? ⟨b,o+i*3+r,none⟩=([.int .i64 L[i].aC,.string L[i].aJ,.slice j L[i].ay.length l]:List Value)[r]?:=λr d=>by
    rw[fM,aI hS];have c:=t r d;have f:([.int .i64 L[i].aC,.string L[i].aJ,.slice j L[i].ay.length l]:List Value)[r]?=some (([.int .i64 L[i].aC,.string L[i].aJ,.slice j L[i].ay.length l]:List Value)[r]'d):=aH d;rw[f]at c⊢;have:=y _ _ c;rw[iw];exact this
   exact⟨m 0 (by omega),m 1 (by omega),m 2 (by omega)⟩
  ·have a:i<dG.length:=(by omega);obtain⟨j,l,e,q⟩:=g.2 i a hi;simp only[dC,aH a,e,iA];exact q
theorem jK.bH{S:Nat->Bool}{w:World}{A:Option Addr}{cap:Nat}{L:List T}(h:jK oC S w (.slice A L.length cap) L):gM w A cap L:=(h.term 0 ⟨#[]⟩ (by omega) (by decide)).at
theorem bN.Hg{S:Nat->Bool}{w:World}{k:Int}{s:ByteArray}{v:Value}{L:List T}(h:bN S w (.agg #[.int .i64 k,.string s,v]) (.mk k s L)):jK oC S w v L:=by
 cases h with
 |mk k s A cap I U J K z B hA hU=>
  refine⟨A,cap,rfl,z,B,?_⟩;rcases dE L.length with h0|h0;·exact .inl h0
  ·rcases hA with hA|⟨b,o,e,m⟩;·omega
   ·have d:∀p:Addr,∀u,(only w S).cell? p=some u->S p.block=true/\w.cell? p=some u:=λp u hu=>by
     rw[fM]at hu;split at hu;·exact⟨by assumption,hu⟩
     ·cases hu
    obtain⟨C,_,_⟩:=m 0 h0;have n:(((List.range L.length).map λi=>[(U i).1,(U i).2.1,(U i).2.2]):List (List Value)).length=L.length:=(by simp);have l:oC.all S w ((List.range L.length).map λi=>[(U i).1,(U i).2.1,(U i).2.2]) L:=⟨n,λi a b=>by
     have q:=hU i b;obtain⟨t,x,D,F,y⟩:=aO.view q;refine⟨D,F,?_,?_⟩
     ·simp only[gz,vz];rw[<-t,<-x,<-y]
     ·rw[<-t,<-x,<-y];exact q⟩
    refine .inr ⟨b,o,_,e,(d _ _ C).1,l,λj u hu=>?_⟩;have hj:j<L.length*3:=by
     have:=(bg.1 hu).1;rw[l.LM]at this;exact this
    have hi:j / 3<L.length:=(by omega);have f:=λr (G:r<3)=>l.flat (E:=oC) (i:=j / 3) (by rw[n];exact hi) G;obtain⟨d0,d1,d2⟩:=m (j / 3) hi;have H:oC.size=3:=rfl;rw[H]at f;rcases(show j=j / 3*3+0\/j=j / 3*3+1\/j=j / 3*3+2 by omega)with g|g|g
    ·have c:=f 0 (by omega);rw[<-g,hu]at c;simp at c;rw[c,show o+j=o+j / 3*3 by omega];exact(d _ _ d0).2
    ·have c:=f 1 (by omega);rw[<-g,hu]at c;simp at c;rw[c,show o+j=o+j / 3*3+1 by omega];exact(d _ _ d1).2
    ·have c:=f 2 (by omega);rw[<-g,hu]at c;simp at c;rw[c,show o+j=o+j / 3*3+2 by omega];exact(d _ _ d2).2
theorem gM.Hg{w:World}{A:Option Addr}{cap:Nat}{L:List T}(h:gM w A cap L):jK oC (jQ w.heap.size) w (.slice A L.length cap) L:=(aO.uf h).Hg
theorem bK.RF{w:World}{base:Nat}{v:Value}{L:List T}(h:bK w base v L):gV oC (eG base) base w v L:=by
 obtain⟨xs,q,b,s⟩:=h.cells;have:∃dG:List (List Value),dG.flatten=xs/\oC.all (but base v.ownBlock) w dG L:=by
  clear q h;induction L generalizing xs with
  |nil=>exact⟨[],(bQ (by simpa using b)).symm,El.all.nil⟩
  |cons t r u=>
   obtain⟨c,d,f,a0,g,j,a⟩:=s 0 (by simp)
   match xs,b with
   |x0::k::l::x,b=>
    obtain⟨dG,e,m⟩:=u x (by simp at b;omega) (λi hi=>by
     obtain⟨c,d,f,a0,g,j,a⟩:=s (i+1) (by simpa using hi);refine⟨c,d,f,?_,?_,?_,by simpa using a⟩;·rw[<-a0,show(i+1)*3=i*3+1+1+1 by omega];rfl
     ·rw[<-g,show(i+1)*3+1=i*3+1+1+1+1 by omega];rfl
     ·rw[<-j,show(i+1)*3+2=i*3+2+1+1+1 by omega];rfl)
    obtain rfl:x0=c:=(by simpa using a0);obtain rfl:k=d:=(by simpa using g);obtain rfl:l=f:=(by simpa using j);obtain⟨n,o,y,z,p⟩:=aO.view a;have A:oC.gq (but base v.ownBlock) w [x0,k,l] t:=⟨y,z,by rw[n,o,p];rfl,by simp only[dw]at a n o p;rw[<-n,<-o,<-p];exact a⟩;refine⟨[x0,k,l]::dG,by simp[e],?_⟩;exact(El.all.push El.all.nil A).append m
 obtain⟨dG,rfl,m⟩:=this;exact⟨dG,m,q⟩
def Cb(S:Nat->Bool)(w:World)(v:Value)(L:List Bd):Prop:=(v=.slice none 0 0/\L=[])\/(0<L.length/\jK NN S w v L)
theorem Cb.Hg{S:Nat->Bool}{w:World}{v:Value}{L:List Bd}(h:Cb S w v L):jK NN S w v L:=by
 rcases h with⟨rfl,rfl⟩|h;·exact jK.nil _ _ _
 ·exact h.2
theorem Cb.nil(S:Nat->Bool)(w:World):Cb S w (.slice none 0 0) []:=.inl ⟨rfl,rfl⟩
theorem Cb.aR{S S':Nat->Bool}{w w':World}{v:Value}{L:List Bd}(h:Cb S w v L)(a:∀b,S b=true->b<w.heap.size->S' b=true/\w'.heap[b]?=w.heap[b]?):Cb S' w' v L:=by
 rcases h with h|⟨h0,h⟩;·exact .inl h
 ·exact .inr ⟨h0,h.aR a⟩
theorem Cb.at{S:Nat->Bool}{w:World}{v:Value}{L:List Bd}(h:Cb S w v L):gu w v L:=by
 rcases h with h|⟨h0,A,cap,rfl,g,j,d⟩;·exact .inl h
 ·rcases d with d|⟨b,o,dG,rfl,hS,c,k⟩;·omega
  ·refine .inr ⟨b,o,cap,dG.flatten,rfl,h0,g,j,⟨c.LM,λi hi=>?_⟩,k⟩;have f:i<dG.length:=(by rw[c.1];exact hi);obtain⟨l,m,e,n,p⟩:=c.2 i f hi;have a:=λr (q:r<4)=>c.flat (E:=NN) f q;rw[e]at a;exact⟨l,m,a 0 (by omega),a 1 (by omega),a 2 (by omega),a 3 (by omega),n.at,p⟩
theorem BC.dG{w:World}:∀{L:List Bd} {xs:List Value},BC w xs L->∃dG:List (List Value),dG.flatten=xs/\NN.all (jQ w.heap.size) w dG L
 |[],xs,h=>⟨[],(bQ (by simpa using h.1)).symm,El.all.nil⟩
 |x::r,xs,⟨f,g⟩=>by
  obtain⟨A,c,a0,a,a2,a3,b,d⟩:=g 0 (by simp)
  match xs,f with
  |x0::j::k::l::m,f=>
   obtain⟨dG,e,n⟩:=BC.dG (L:=r) (xs:=m) ⟨by simp at f;omega,λi hi=>by
    obtain⟨A,c,a0,a,a2,a3,b,d⟩:=g (i+1) (by simpa using hi);refine⟨A,c,?_,?_,?_,?_,by simpa using b,by simpa using d⟩;·simpa[show(i+1)*4=i*4+1+1+1+1 by omega]using a0
    ·simpa[show(i+1)*4+1=i*4+1+1+1+1+1 by omega]using a
    ·simpa[show(i+1)*4+2=i*4+2+1+1+1+1 by omega]using a2
    ·simpa[show(i+1)*4+3=i*4+3+1+1+1+1 by omega]using a3⟩
   simp only[dw]at a0 a a2 a3 b d;obtain rfl:x0=_:=(by simpa using a0);obtain rfl:j=_:=(by simpa using a);obtain rfl:k=_:=(by simpa using a2);obtain rfl:l=_:=(by simpa using a3);refine⟨[_,_,_,_]::dG,by rw[gy,e];rfl,?_⟩;exact(El.all.push (El.all.nil) (show NN.gq (jQ w.heap.size) w _ x from⟨A,c,rfl,b.uf,d⟩)).append n
theorem gu.bin{w:World}{v:Value}{L:List Bd}(h:gu w v L):Cb (jQ w.heap.size) w v L:=by
 rcases h with h|⟨b,o,cap,xs,rfl,h0,d,e,f,a⟩;·exact .inl h
 ·obtain⟨dG,rfl,c⟩:=f.dG;have g:0<dG.flatten.length:=(by rw[c.LM];exact Nat.mul_pos h0 NN.pos);exact .inr ⟨h0,_,cap,rfl,d,e,.inr ⟨b,o,dG,rfl,aQ (eP w _ (a 0 _ (aH g))),c,a⟩⟩
theorem JX.dG{S:Nat->Bool}{w:World}:∀{L:List Bd} {xs:List Value},JX S w xs L->∃dG:List (List Value),dG.flatten=xs/\NN.all S w dG L
 |[],xs,h=>⟨[],(bQ (by simpa using h.1)).symm,El.all.nil⟩
 |x::r,xs,⟨f,g⟩=>by
  obtain⟨A,c,a0,a,a2,a3,b,d⟩:=g 0 (by simp)
  match xs,f with
  |x0::j::k::l::m,f=>
   obtain⟨dG,e,n⟩:=JX.dG (L:=r) (xs:=m) ⟨by simp at f;omega,λi hi=>by
    obtain⟨A,c,a0,a,a2,a3,b,d⟩:=g (i+1) (by simpa using hi);refine⟨A,c,?_,?_,?_,?_,by simpa using b,by simpa using d⟩;·simpa[show(i+1)*4=i*4+1+1+1+1 by omega]using a0
    ·simpa[show(i+1)*4+1=i*4+1+1+1+1+1 by omega]using a
    ·simpa[show(i+1)*4+2=i*4+2+1+1+1+1 by omega]using a2
    ·simpa[show(i+1)*4+3=i*4+3+1+1+1+1 by omega]using a3⟩
   simp only[dw]at a0 a a2 a3 b d;obtain rfl:x0=_:=(by simpa using a0);obtain rfl:j=_:=(by simpa using a);obtain rfl:k=_:=(by simpa using a2);obtain rfl:l=_:=(by simpa using a3);refine⟨[_,_,_,_]::dG,by rw[gy,e];rfl,?_⟩;exact(El.all.push (El.all.nil) (show NN.gq S w _ x from⟨A,c,rfl,b,d⟩)).append n
theorem yj.bin{base:Nat}{w:World}{v:Value}{L:List Bd}(h:yj base w v L):Cb (eG base) w v L:=by
 rcases h with h|⟨h0,xs,a,b⟩;·exact .inl h
 ·obtain⟨dG,rfl,c⟩:=b.dG;exact .inr ⟨h0,gV.list ⟨dG,c,a⟩⟩
end
section
open Go.RowKit
theorem jm.aR{w w':World}{A:Option Addr}{a:List (Int×T)}(h:jm w A a)(c:∀p:Addr,(w.cell? p).isSome=true->w'.cell? p=w.cell? p):jm w' A a:=by
 rcases h with h|⟨b,off,e,f⟩;·exact .inl h
 ·refine .inr ⟨b,off,e,λi hi=>?_⟩;obtain⟨g,j,h0,k,l,m,n,o⟩:=f i hi;have key:∀{p:Addr} {v:Value},w.cell? p=some v->w'.cell? p=some v:=λ{p v} d=>(c p (by rw[d];rfl)).t d;exact⟨g,j,key h0,key k,key l,key m,n.aR c,o⟩
def uL(S:Nat->Bool)(w:World)(A:Option Addr)(a:List (Int×T)):Prop:=jm (only w S) A a
theorem uL.at{S:Nat->Bool}{w:World}{A:Option Addr}{b:List (Int×T)}(h:uL S w A b):jm w A b:=
 jm.aR h λp a=>by
  rw[fM]at a⊢;split at a;·rename_i hS;rw[aI hS]
  ·cases a
theorem uL.aR{S S':Nat->Bool}{w w':World}{A:Option Addr}{c:List (Int×T)}(h:uL S w A c)(d:∀b,S b=true->b<w.heap.size->S' b=true/\w'.heap[b]?=w.heap[b]?):uL S' w' A c:=
 jm.aR h λp a=>by
  rw[fM]at a;rw[fM,fM];split at a
  ·rename_i hS;obtain⟨v,e⟩:=eO.1 a;obtain⟨f,g⟩:=d _ hS (eP w p e);rw[aI hS,aI f];exact dD g
  ·cases a
def Vo(w:World)(base g cap:Nat)(L:List (Int×T)):Prop:=
 ∃a:Array Value,w.heap[g]?=some (.cells a 31 (0,0))/\a.size=cap*4/\L.length<=cap/\cap<=maxLen/\base<=g/\
  ∀i (h:i<L.length),∃b c d,a[i*4]?=some (.int .i64 L[i].1)/\a[i*4+1]?=some b/\a[i*4+2]?=some c/\a[i*4+3]?=some d/\bN (but base (some g)) w (.agg #[b,c,d]) L[i].2/\ -9223372036854775808<=L[i].1/\L[i].1<=9223372036854775807
def jD(w:World)(base:Nat)(v:Value)(L:List (Int×T)):Prop:=
 (v=.slice none 0 0/\L=[])\/∃g cap,v=.slice (some ⟨g,0,none⟩) L.length cap/\Vo w base g cap L
theorem jD.nil(w:World)(base:Nat):jD w base (.slice none 0 0) []:=.inl ⟨rfl,rfl⟩
theorem Vo.aR{w w':World}{base g cap:Nat}{L:List (Int×T)}(h:Vo w base g cap L)(f:∀b,base<=b->b<w.heap.size->w'.heap[b]?=w.heap[b]?):Vo w' base g cap L:=by
 obtain⟨l,j,m,n,o,k,p⟩:=h;refine⟨l,?_,m,n,o,k,λi hi=>?_⟩;·rw[f g k (aZ.1 j).1];exact j
 ·obtain⟨u0,u1,u2,a0,a,b,c,d,e⟩:=p i hi;exact⟨u0,u1,u2,a0,a,b,c,d.aR λb hb q=>⟨hb,f b (ja.1 hb).1 q⟩,e⟩
theorem jD.aR{w w':World}{base:Nat}{v:Value}{L:List (Int×T)}(h:jD w base v L)(a:∀b,base<=b->b<w.heap.size->w'.heap[b]?=w.heap[b]?):jD w' base v L:=by
 rcases h with h|⟨g,cap,rfl,h⟩;·exact .inl h
 ·exact .inr ⟨g,cap,rfl,h.aR a⟩
theorem jD.ag{w w':World}{base:Nat}{v:Value}{L:List (Int×T)}(h:jD w base v L)(hb:Below w.heap.size w w'):jD w' base v L:=h.aR λb _ a=>hb.block b a
theorem jD.shape{w:World}{base:Nat}{v:Value}{L:List (Int×T)}(h:jD w base v L):∃A cap,v=.slice A L.length cap/\L.length<=cap/\cap<=maxLen:=by
 rcases h with⟨rfl,rfl⟩|⟨g,cap,rfl,c,_,_,a,b,_⟩;·exact⟨none,0,rfl,ak _,aL _⟩
 ·exact⟨_,cap,rfl,a,b⟩
theorem jD.block{w:World}{base:Nat}{v:Value}{L:List (Int×T)}(h:jD w base v L):∀k,v.ownBlock=some k->base<=k/\k<w.heap.size:=by
 intro k a;rcases h with⟨rfl,rfl⟩|⟨g,cap,rfl,d,b,_,_,_,c,_⟩;·cases a
 ·injection a with a;subst a;exact⟨c,(aZ.1 b).1⟩
theorem jD.moves{w:World}{base:Nat}{v:Value}{L:List (Int×T)}(h:jD w base v L):
 ∃A cap,v=.slice A L.length cap/\uL (eG base) w A L:=by
 rcases h with⟨rfl,rfl⟩|⟨g,cap,rfl,l,m,r,s,t,n,o⟩;·exact⟨none,0,rfl,.inl rfl⟩
 ·have f:∀j u,l[j]?=some u->(only w (eG base)).cell? ⟨g,j,none⟩=some u:=λj u hu=>by
   rw[fM,aI (by unfold eG;exact aQ n)];simp[World.cell?,m,hu]
  refine⟨_,cap,rfl,.inr ⟨g,0,rfl,λi hi=>?_⟩⟩;obtain⟨x,y,z,a0,a,b,c,d,e⟩:=o i hi;obtain⟨p,q,k⟩:=d.view;simp only[Value.agg.injEq,Array.mk.injEq,y8,Gu]at k;obtain⟨rfl,rfl,rfl⟩:=k;simp only[dJ];exact⟨p,q,f _ _ a0,f _ _ a,f _ _ b,f _ _ c,d.aR (S':=eG base) λb hb _=>⟨aQ (ja.1 hb).1,rfl⟩,e⟩
theorem jD.owns{w:World}{base:Nat}{v:Value}{L:List (Int×T)}(h:jD w base v L):∃xs,w.ownsRow base 31 4 v L.length xs/\
 (∀i (h:i<L.length),∃u0 u1 u2,xs[i*4]?=some (.int .i64 L[i].1)/\xs[i*4+1]?=some u0/\xs[i*4+2]?=some u1/\xs[i*4+3]?=some u2/\bN (but base v.ownBlock) w (.agg #[u0,u1,u2]) L[i].2/\ -9223372036854775808<=L[i].1/\L[i].1<=9223372036854775807):=by
 rcases h with⟨rfl,rfl⟩|⟨g,cap,rfl,f,k,j,l,m,n,o⟩;·exact⟨[],gZ _ _ _ _,λi h=>by simp at h⟩
 ·refine⟨f.toList.take (L.length*4),⟨?_,.inr ⟨g,cap,f,rfl,n,k,l,m,j,rfl⟩⟩,λi hi=>?_⟩
  ·have p:f.toList.length=cap*4:=(by simpa using j);rw[aW];exact iP (by omega)
  ·obtain⟨u0,u1,u2,a0,a,b,c,d,e⟩:=o i hi;refine⟨u0,u1,u2,?_,?_,?_,?_,d,e⟩;all_goals rw[ic,aI (by omega)];simpa
theorem jD.snoc{w w':World}{base g cap H:Nat}{v:Value}{L:List (Int×T)}{xs:List Value}{u0 u1 u2:Value}{k:Int}{t:T}
 (p:∀i (h:i<L.length),∃u0 u1 u2,xs[i*4]?=some (.int .i64 L[i].1)/\xs[i*4+1]?=some u0/\xs[i*4+2]?=some u1/\xs[i*4+3]?=some u2/\bN (but base v.ownBlock) w (.agg #[u0,u1,u2]) L[i].2/\ -9223372036854775808<=L[i].1/\L[i].1<=9223372036854775807) (d:xs.length=L.length*4)
 (q:bN (but base v.ownBlock) w (.agg #[u0,u1,u2]) t) (r: -9223372036854775808<=k/\k<=9223372036854775807)
 (s:w'.ownsRow base 31 4 (.slice (some ⟨g,0,none⟩) (L.length+1) cap) (L.length+1) (xs++[.int .i64 k,u0,u1,u2])) (x:w.grownBy w' v.ownBlock) (y:v.ownBlock=some g\/g=H) (hH:w.heap.size=H):
 jD w' base (.slice (some ⟨g,0,none⟩) (L.length+1) cap) (L++[(k,t)]):=by
 have m:∀b,but base v.ownBlock b=true->b<w.heap.size->but base (some g) b=true/\w'.heap[b]?=w.heap[b]?:=λb hb z=>by
  obtain⟨l,f⟩:=ja.1 hb;refine⟨ja.2 ⟨l,λe=>?_⟩,x.block b z (λe=>f e.symm)⟩;injection e with e;subst e;rcases y with h|h;·exact f h
  ·omega
 obtain⟨N,A⟩:=s;rcases A with⟨h,_⟩|⟨O,P,n,o,B,l,C,D,f,E⟩;·cases h
 ·simp only[q9,iD,Bw,Gu,Aw]at o;obtain⟨rfl,rfl⟩:=o;have a:∀j u,(xs++[.int .i64 k,u0,u1,u2])[j]?=some u->n[j]?=some u:=λj u hu=>by
   rw[<-E,ic]at hu;split at hu;·simpa using hu
   ·cases hu
  refine .inr ⟨g,cap,by rw[aF];rfl,n,l,f,by rw[aF];exact C,D,B,λi hi=>?_⟩;rcases cu i L.length with c|c
  ·obtain⟨a0,F,a2,b4,G,I,J,b3,K⟩:=p i c;refine⟨a0,F,a2,a _ _ ?_,a _ _ ?_,a _ _ ?_,a _ _ ?_,?_,?_⟩;·rw[bP (by omega),dH c];exact b4
   ·rw[bP (by omega)];exact G
   ·rw[bP (by omega)];exact I
   ·rw[bP (by omega)];exact J
   ·rw[dH c];exact b3.aR m
   ·rw[dH c];exact K
  ·have M:i=L.length:=(by simp at hi;omega);subst M;refine⟨u0,u1,u2,a _ _ ?_,a _ _ ?_,a _ _ ?_,a _ _ ?_,?_,?_⟩;·rw[bD (by omega),d];simp
   ·rw[bD (by omega),d];simp
   ·rw[bD (by omega),d];simp
   ·rw[bD (by omega),d];simp
   ·rw[dm (ak _)];simpa using q.aR m
   ·rw[dm (ak _)];simpa using r
theorem Tryz.YM:(Tryz.prog.info? 31).map (λi=>(i.zero,i.size,i.bytes))=some (some (.agg #[.int .i64 0,.int .i64 0,.string ByteArray.empty,.slice none 0 0]),4,56):=by kernel_rfl
def Gt(S:Nat->Bool)(w:World)(v:Value)(s:ByteArray×List (Int×T)):Prop:=∃A c,v=.agg #[.string s.1,.slice A s.2.length c]/\uL S w A s.2
theorem Gt.aR{S S':Nat->Bool}{w w':World}{v:Value}{s:ByteArray×List (Int×T)}(h:Gt S w v s)(a:∀b,S b=true->b<w.heap.size->S' b=true/\w'.heap[b]?=w.heap[b]?):Gt S' w' v s:=by
 obtain⟨A,c,e,h⟩:=h;exact⟨A,c,e,h.aR a⟩
end
section
open Go.RowKit
attribute [local go_sem ↓] Go.wp_at_zero Go.wp_at_succ
def Mk(c:UInt8):Int:=if c=82 then 2 else if c=67 then 3 else if c=68 then 4 else 1
theorem TF (c:UInt8):1<=Mk c/\Mk c<=4:=by unfold Mk;repeat' split
                                          all_goals omega
def LW(x:ByteArray):Prop:=2<=x.size/\(x.data.toList.getD 0 0=83\/x.data.toList.getD 0 0=82\/x.data.toList.getD 0 0=67\/x.data.toList.getD 0 0=68)
def yI(x:ByteArray):Int×T:=(Mk (x.data.toList.getD 0 0),(T.parse (x.extract 2 x.size)).1)
theorem LJ(s:ByteArray)(h:0<s.size):s.data.toList.getD 0 0=s[0]:=by
 simp[List.getD,h];rfl
def nD(w:World)(g:Nat)(a b:Value):Prop:=w.heap[g]?=some (.cells #[a,b] 26 (0,0))
theorem nD.lt{w:World}{g:Nat}{a b:Value}(h:nD w g a b):g<w.heap.size:=(aZ.1 h).1
theorem nD.cells{w:World}{g:Nat}{a b:Value}(h:nD w g a b):w.cell? ⟨g,0,none⟩=some a/\w.cell? ⟨g,1,none⟩=some b:=by
 unfold nD at h;refine⟨?_,?_⟩<;>simp[World.cell?,h]
theorem nD.free{w:World}{g:Nat}{a b:Value}(h:nD w g a b):w.frozen? ⟨g,0,none⟩=false/\w.frozen? ⟨g,1,none⟩=false:=by
 unfold nD at h;refine⟨?_,?_⟩<;>simp[World.frozen?,h]
theorem nD.ag{w w':World}{g:Nat}{a b:Value}(h:nD w g a b)(hb:Below w.heap.size w w'):nD w' g a b:=(hb.block g h.lt).t h
theorem nD.grown{w w':World}{g:Nat}{a b:Value}{row:Option Nat}(h:nD w g a b)(c:w.grownBy w' row)(d:row≠some g):nD w' g a b:=(c.block g h.lt (λe=>d e.symm)).t h
theorem nD.new(w:World)(a b:Value):nD (w.alloc (.cells #[a,b] 26)) w.heap.size a b:=bO w _
theorem nD.IZ{w:World}{g:Nat}{a b:Value}(h:nD w g a b)(v:Value):nD (w.setCell ⟨g,1,none⟩ v) g a v:=by
 unfold nD at*;simp[World.setCell,Array.getElem?_modify,h]
theorem nD.setOther{w:World}{g:Nat}{a b:Value}(h:nD w g a b){p:Addr}(c:g≠p.block)(v:Value):nD (w.setCell p v) g a b:=
 (aM _ _ _ _ c).t h
theorem nD.Bv{w:World}{g:Nat}{a b:Value}(h:nD w g a b)(x y:Value):nD ((w.setCell ⟨g,0,none⟩ x).setCell ⟨g,1,none⟩ y) g x y:=by
 unfold nD at*;simp[World.setCell,Array.getElem?_modify,h]
theorem Nu(w:World)(g:Nat)(x y:Value)(k:Nat)(a:k≠g):((w.setCell ⟨g,0,none⟩ x).setCell ⟨g,1,none⟩ y).heap[k]?=w.heap[k]?:=by
 rw[aM _ _ _ _ a,aM _ _ _ _ a]
def WT(w:World)(role:ByteArray)(L:List (Int×T))(wr:World):Prop:=
 ∃kv,nD wr (w.heap.size+1) (.string role) kv/\nD wr w.heap.size (.string ⟨#[]⟩) (.slice none 0 0)/\jD wr (w.heap.size+2) kv L/\Below w.heap.size w wr/\w.heap.size+2<=wr.heap.size
theorem WT.step{w:World}{role:ByteArray}{L:List (Int×T)}{k:Int}{t:T}{wr w3 w4:World}{kv u0 u1 u2:Value}{xs:List Value}{g cap:Nat}
 (x:nD wr (w.heap.size+1) (.string role) kv) (y:nD wr w.heap.size (.string ⟨#[]⟩) (.slice none 0 0)) (f:jD wr (w.heap.size+2) kv L) (hb:Below w.heap.size w wr) (D:w.heap.size+2<=wr.heap.size)
 (o:∀i (h:i<L.length),∃u0 u1 u2,xs[i*4]?=some (.int .i64 L[i].1)/\xs[i*4+1]?=some u0/\xs[i*4+2]?=some u1/\xs[i*4+3]?=some u2/\bN (but (w.heap.size+2) kv.ownBlock) wr (.agg #[u0,u1,u2]) L[i].2/\ -9223372036854775808<=L[i].1/\L[i].1<=9223372036854775807) (p:xs.length=L.length*4)
 (j: -9223372036854775808<=k/\k<=9223372036854775807)
 (l:Below wr.heap.size wr w3) (q:bN (eG wr.heap.size) w3 (.agg #[u0,u1,u2]) t)
 (r:w4.ownsRow (w.heap.size+2) 31 4 (.slice (some ⟨g,0,none⟩) (L.length+1) cap) (L.length+1) (xs++[.int .i64 k,u0,u1,u2])) (a:(w3.alloc (.cells #[.int .i64 k,u0,u1,u2] 31)).grownBy w4 kv.ownBlock)
 (s:kv.ownBlock=some g\/g=w3.heap.size+1):WT w role (L++[(k,t)]) (w4.setCell ⟨w.heap.size+1,1,none⟩ (.slice (some ⟨g,0,none⟩) (L.length+1) cap)):=by
 have n:∀b,b<w.heap.size+2->kv.ownBlock≠some b:=λb d e=>(by have:=(f.block b e).1;omega);have c:=l.t ((af w3 (.cells #[.int .i64 k,u0,u1,u2] 31)).m l.size);have u:Below w.heap.size w w4:=(hb.t (c.m (by omega))).grown a (by rw[aK];have:=l.size;omega) (λk j=>by have:=(f.block k j).1;omega);refine⟨_,(((x.ag c).grown a (n _ (by omega))).IZ _),?_,?_,u.setCell (by show w.heap.size<=w.heap.size+1;omega) _,?_⟩;·exact((y.ag c).grown a (n _ (by omega))).setOther (by simp) _
 ·have v:=jD.snoc (w:=w3.alloc (.cells #[.int .i64 k,u0,u1,u2] 31)) (H:=w3.heap.size+1) (t:=t) (λi hi=>by
   obtain⟨a0,z,a2,b9,A,B,C,b3,b4⟩:=o i hi;exact⟨a0,z,a2,b9,A,B,C,b3.aR λb hb d=>⟨hb,c.block b d⟩,b4⟩) p
   (q.aR λb m d=>⟨ja.2 ⟨by have:=ax m;omega,λe=>by have:=(f.block b e).2;have:=ax m;omega⟩,fF w3 _ b d⟩)
   j r a s (by rw[aK])
  exact v.aR λb m _=>aM _ _ _ _ (by show b≠w.heap.size+1;omega)
 ·have:=a.size;have:=c.size;simp[World.setCell];omega
def Yz(s:ByteArray×List (Int×T))(w:World)(e:Ending)(w':World):Prop:=∃A c,e=.returned (.agg #[.string s.1,.slice A s.2.length c])/\uL (eG w.heap.size) w' A s.2/\Below w.heap.size w w'
end
section
open Go.RowKit
abbrev Yp:ByteArray:=⟨#[112,97,115,115,105,118,101]⟩
abbrev YE:ByteArray:=⟨#[97,99,116,105,118,101]⟩
abbrev Xy:ByteArray:=⟨#[101,120,99,104,97,110,103,101]⟩
abbrev Zg:ByteArray:=⟨#[98,108,105,110,100]⟩
abbrev Vt:ByteArray:=⟨#[99,108,111,110,101]⟩
abbrev uz:ByteArray:=⟨#[99,104,105,112]⟩
abbrev nR:ByteArray:=⟨#[114,101,97,100,101,114]⟩
abbrev WH:List ByteArray:=[⟨#[83,32,115,105,103,110,40,115,116,97,116,101,44,32,60,100,97,116,97,44,32,112,111,119,101,114,40,99,104,105,112,41,62,41]⟩,⟨#[82,32,63,110]⟩,⟨#[68,32,63,110]⟩,⟨#[83,32,115,105,103,110,40,99,104,105,112,44,32,63,110,41]⟩]
def OG:List (Int×T):=WH.map yI
def RY:ByteArray×List (Int×T):=(uz,OG)
abbrev ZM:List ByteArray:=[⟨#[83,32,115,105,103,110,40,115,116,97,116,101,44,32,60,100,97,116,97,44,32,112,111,119,101,114,40,99,104,105,112,41,62,41]⟩,⟨#[82,32,112,111,119,101,114,40,63,120,41]⟩,⟨#[68,32,104,97,115,104,40,112,111,119,101,114,40,99,104,105,112,44,32,63,120,41,41]⟩,⟨#[83,32,104,97,115,104,40,112,111,119,101,114,40,99,104,105,112,44,32,63,120,41,41]⟩]
abbrev WI:List ByteArray:=[⟨#[83,32,115,105,103,110,40,115,116,97,116,101,44,32,60,100,97,116,97,44,32,112,111,119,101,114,40,99,104,105,112,41,62,41]⟩,⟨#[68,32,100,97,116,97]⟩]
def OH:List (Int×T):=WI.map yI
def RZ:ByteArray×List (Int×T):=(uz,OH)
abbrev WK:List ByteArray:=[⟨#[82,32,115,105,103,110,40,115,116,97,116,101,44,32,60,63,100,44,32,112,111,119,101,114,40,63,99,41,62,41]⟩,⟨#[83,32,110,111,110,99,101]⟩,⟨#[82,32,115,105,103,110,40,63,99,44,32,110,111,110,99,101,41]⟩,⟨#[67,32,110,111,110,99,101]⟩]
def OI:List (Int×T):=WK.map yI
def R3:ByteArray×List (Int×T):=(nR,OI)
abbrev ZN:List ByteArray:=[⟨#[82,32,115,105,103,110,40,115,116,97,116,101,44,32,60,63,100,44,32,112,111,119,101,114,40,63,99,41,62,41]⟩,⟨#[83,32,112,111,119,101,114,40,101,112,104,41]⟩,⟨#[82,32,104,97,115,104,40,112,111,119,101,114,40,101,112,104,44,32,63,99,41,41]⟩,⟨#[67,32,104,97,115,104,40,112,111,119,101,114,40,101,112,104,44,32,63,99,41,41]⟩]
abbrev WL:List ByteArray:=[⟨#[82,32,115,105,103,110,40,115,116,97,116,101,44,32,60,63,100,44,32,63,112,62,41]⟩,⟨#[67,32,63,100]⟩]
def OJ:List (Int×T):=WL.map yI
def xB:ByteArray×List (Int×T):=(nR,OJ)
abbrev WJ:List ByteArray:=[⟨#[100,97,116,97]⟩,⟨#[115,105,103,110,40,115,116,97,116,101,44,32,60,100,97,116,97,44,32,112,111,119,101,114,40,99,104,105,112,41,62,41]⟩,⟨#[112,111,119,101,114,40,115,116,97,116,101,41]⟩,⟨#[101,118,105,108]⟩,⟨#[112,111,119,101,114,40,101,118,105,108,41]⟩]
def jO:List T:=WJ.map λx=>(T.parse x).1
def WY(x:ByteArray):Bool:=decide (2<=x.size)&&(x.data.toList.getD 0 0==83||(x.data.toList.getD 0 0==82||(x.data.toList.getD 0 0==67||x.data.toList.getD 0 0==68)))
theorem Db(b:List ByteArray)(h:b.all WY=true):∀x∈b,LW x:=by
 intro x c;have a:=cz.1 h x c;simp only[WY,ai,fH,bW,eY]at a;exact⟨a.1,a.2⟩
theorem Br(w:World)(a:List ByteArray):kH (w.alloc (.cells (a.map Value.string).toArray 9)) (some ⟨w.heap.size,0,none⟩) a:=by
 refine⟨by simp,.inr ⟨_,0,rfl,λj u hu=>?_⟩⟩;have h:=bO w (.cells (a.map Value.string).toArray 9);rw[dJ];unfold World.cell?;rw[h];simpa using hu
theorem Yz.box{s:ByteArray×List (Int×T)}{w w1 a:World}{A:Option Addr}{c:Nat}(x y:Value)(d:Below w.heap.size w w1)(f:w.heap.size<w1.heap.size)(h:uL (eG w1.heap.size) a A s.2)(hb:Below w1.heap.size w1 a):
 Yz s w (.returned (.agg #[.string s.1,.slice A s.2.length c])) ((a.setCell ⟨w.heap.size,0,none⟩ x).setCell ⟨w.heap.size,1,none⟩ y):=by
 refine⟨A,c,rfl,h.aR λb e _=>?_,((d.t (hb.m (by omega))).setCell (ak _) _).setCell (ak _) _⟩;have:=ax e;exact⟨aQ (by omega),Nu _ _ _ _ _ (by omega)⟩
def sJ(w:World)(A:Option Addr)(l:List (ByteArray×List (Int×T))):Prop:=l.length=0\/∃b off,A=some ⟨b,off,none⟩/\∀i (h:i<l.length),∃a c,w.cell? ⟨b,off+i*2,none⟩=some (.string l[i].1)/\w.cell? ⟨b,off+i*2+1,none⟩=some (.slice a l[i].2.length c)/\jm w a l[i].2
theorem sJ.ag{w w':World}{A:Option Addr}{l:List (ByteArray×List (Int×T))}(h:sJ w A l)(hb:Below w.heap.size w w'):sJ w' A l:=by
 rcases h with h|⟨b,off,e,a⟩;·exact .inl h
 ·refine .inr ⟨b,off,e,λi hi=>?_⟩;obtain⟨c,d,h0,f,g⟩:=a i hi;exact⟨c,d,ae hb h0,ae hb f,g.ag hb⟩
def J5(w:World)(v:Value)(L:List T):Prop:=aO w (.agg #[.int .i64 0,.string ⟨#[]⟩,v]) (.mk 0 ⟨#[]⟩ L)
theorem bK.list{w:World}{base:Nat}{v:Value}{L:List T}(h:bK w base v L):J5 w v L:=(h.term 0 ⟨#[]⟩ (by omega) (by decide)).at
theorem kL(w:World)(xs:Array Value)(ty:TypeId)(j:Nat):(w.alloc (.cells xs ty)).cell? ⟨w.heap.size,j,none⟩=xs[j]?:=by
 have h:=bO w (.cells xs ty);unfold World.cell?;rw[h];rfl
def WQ(a:World)(L:List T)(v:Value)(wr:World):Prop:=bK wr a.heap.size v L/\Below a.heap.size a wr
theorem WQ.step{a wr w3 w4:World}{L:List T}{kv:Value}{xs:List Value}{u0 u1 u2:Value}{t:T}{g cap:Nat}(f:bK wr a.heap.size kv L)(hb:Below a.heap.size a wr)
 (n:∀i (h:i<L.length),∃u0 u1 u2,xs[i*3]?=some u0/\xs[i*3+1]?=some u1/\xs[i*3+2]?=some u2/\bN (but a.heap.size kv.ownBlock) wr (.agg #[u0,u1,u2]) L[i]) (o:xs.length=L.length*3)
 (c:Below wr.heap.size wr w3) (p:bN (eG wr.heap.size) w3 (.agg #[u0,u1,u2]) t)
 (q:w4.ownsRow a.heap.size 29 3 (.slice (some ⟨g,0,none⟩) (L.length+1) cap) (L.length+1) (xs++[u0,u1,u2])) (j:(w3.alloc (.cells #[u0,u1,u2] 29)).grownBy w4 kv.ownBlock)
 (r:kv.ownBlock=some g\/g=w3.heap.size+1):WQ a (L++[t]) (.slice (some ⟨g,0,none⟩) (L.length+1) cap) w4:=by
 have l:=c.t ((af w3 (.cells #[u0,u1,u2] 29)).m c.size);refine⟨?_,(hb.t (l.m hb.size)).grown j (by rw[aK];have:=c.size;have:=hb.size;omega) (λk s=>(f.block k s).1)⟩;exact bK.snoc (w:=w3.alloc (.cells #[u0,u1,u2] 29)) (H:=w3.heap.size+1) (t:=t) (λi hi=>by
  obtain⟨a0,u,a2,v,x,y,b3⟩:=n i hi;exact⟨a0,u,a2,v,x,y,b3.aR λb hb d=>⟨hb,l.block b d⟩⟩) o
  (p.aR λb m d=>⟨ja.2 ⟨by have:=ax m;have:=hb.size;omega,λe=>by have:=(f.block b e).2;have:=ax m;omega⟩,fF w3 _ b d⟩)
  q j r (by rw[aK])
structure jl (B:Nat) (w w':World):Prop extends Below B w w' where
 drawn:w.drawn<=w'.drawn
theorem jl.refl(B:Nat)(w:World):jl B w w:=⟨az B w,ak _⟩
theorem jl.t{B:Nat}{a b c:World}(h:jl B a b)(k:jl B b c):jl B a c:=⟨h.toBelow.t k.toBelow,aD h.drawn k.drawn⟩
theorem jl.m{B a:Nat}{w w':World}(h:jl B w w')(b:a<=B):jl a w w':=⟨h.toBelow.m b,h.drawn⟩
theorem jl.drew{B:Nat}{a w:World}(h:jl B a w):jl B a w.drew:=⟨h.toBelow.drew,oo h.drawn⟩
theorem jl.alloc{B:Nat}{a w:World}(h:jl B a w)(b:B<=w.heap.size)(o:Obj):jl B a (w.alloc o):=⟨h.toBelow.alloc b o,h.drawn⟩
theorem Jj(w:World)(a b c a' b' d:Value)(t:TypeId):jl w.heap.size w ((w.alloc (.cells #[a,b,c] t)).alloc (.cells #[a',b',d] t)):=⟨(uY w a b c a' b' d t).2.2,ak _⟩
theorem QM(A A':Option Addr)(cap Q:Nat)(a d:List T)(U l:Nat->Value×Value×Value)(w:World)(aH:a.length<=1048576)(_:d.length<=1048576)
 (hA:a.length=0\/∃b off,A=some ⟨b,off,none⟩/\∀i,i<a.length->w.cell? ⟨b,off+i*3,none⟩=some (U i).1/\w.cell? ⟨b,off+i*3+1,none⟩=some (U i).2.1/\w.cell? ⟨b,off+i*3+2,none⟩=some (U i).2.2)
 (hU:∀i (h:i<a.length),aO w (.agg #[(U i).1,(U i).2.1,(U i).2.2]) a[i])
 (R:d.length=0\/∃b off,A'=some ⟨b,off,none⟩/\∀i,i<d.length->w.cell? ⟨b,off+i*3,none⟩=some (l i).1/\w.cell? ⟨b,off+i*3+1,none⟩=some (l i).2.1/\w.cell? ⟨b,off+i*3+2,none⟩=some (l i).2.2)
 (S:∀i (h:i<d.length),aO w (.agg #[(l i).1,(l i).2.1,(l i).2.2]) d[i])
 (C:∀j (h:j<a.length) (h':j<d.length) (v D:Value) (W:World),aO W v a[j]->aO W D d[j]->Calls Tryz.prog 63 #[v,D] W λe w'=>e=.returned (.int .i64 (T.cmp a[j] d[j]))/\jl W.heap.size W w'):
 Calls Tryz.prog 108 #[.slice A a.length cap,.slice A' d.length Q,.func (.func 63) #[] #[]] w λe w'=>
  e=.returned (.int .i64 (T.iG a d))/\jl w.heap.size w w':=by
 have V:=aa C;clear C;go_enter Tryz.func108,Tryz.ntmps108;go_wp2_with fail;go_loopw [13] (λi wr=>∃j:Nat,j<=a.length/\j<=d.length/\i=.int .i64 j/\(∀m (h:m<j) (h1:m<a.length) (h2:m<d.length),T.cmp a[m] d[m]=0)/\jl w.heap.size w wr) (λi _=>a.length-(intOf i).toNat);case atStart=>exact⟨0,aL _,aL _,rfl,λm h=>absurd h (by omega),jl.refl _ _⟩
 case round=>
  obtain⟨j,hj,aK,rfl,E,f⟩:=hrel;have q:=aa E;clear E;by_cases r:j<a.length
  ·obtain⟨b,off,s,t,rfl,d0,d1,d2,hu⟩:=aO.cells r hA hU;obtain⟨X,Y,Z⟩:=Z0 f.toBelow d0 d1 d2;have hi:(j:Int)<(a.length:Int):=(by omega);clear d0 d1 d2;by_cases u:j<d.length
   ·obtain⟨b',aM,af,ai,rfl,F,G,H,I⟩:=aO.cells u R S;obtain⟨J,K,L⟩:=Z0 f.toBelow F G H;clear F G H;have av:(j:Int)<(d.length:Int):=(by omega);have f0:=ae ((az wr.heap.size wr).alloc (ak _) (.cells #[.int .i64 a[j].aC,.string a[j].aJ,.slice s a[j].ay.length t] 29)) J;have f1:=ae ((az wr.heap.size wr).alloc (ak _) (.cells #[.int .i64 a[j].aC,.string a[j].aJ,.slice s a[j].ay.length t] 29)) K;have f2:=ae ((az wr.heap.size wr).alloc (ak _) (.cells #[.int .i64 a[j].aC,.string a[j].aJ,.slice s a[j].ay.length t] 29)) L;have x:=Jj wr (.int .i64 a[j].aC) (.string a[j].aJ) (.slice s a[j].ay.length t) (.int .i64 d[j].aC) (.string d[j].aJ) (.slice af d[j].ay.length ai) 29;obtain⟨HU,ax,M,aA⟩:=ZT ((hu.ag f.toBelow).ag x.toBelow) ((I.ag f.toBelow).ag x.toBelow) r u;have aB:=aa (λhn=>T.Ej a d j r u (λm g=>q.o m g (by omega) (by omega)) hn);obtain⟨c,N⟩:∃c,T.cmp a[j] d[j]=c:=⟨_,rfl⟩;have y:=aa N;have O:=V.o j r u;have aD:=aa O;clear N O hu I;go_wp2_with fail;refine(aD.o _ _ _ HU.o ax.o).m ?_;rintro e w2 ⟨P,z⟩;have aF:e=.returned (.int .i64 c):=P.t (fG y.o);clear P;subst aF;replace z:=f.t ((x.t (z.m x.size)).m f.size);clear f0 f1 f2 X Y Z J K L;by_cases B:c=0
    ·subst B;go_wp2_with fail;go_roundw
     case rel=>
      refine⟨j+1,M.o,aA.o,by go_num,λm h k o=>?_,z⟩;rcases cu m j with g|g;·exact q.o m g k o
      ·obtain rfl:m=j:=(by omega);exact y.o
     case measure=>have:=M.o;simp[intOf];omega
    ·have aN:(c != 0)=true:=(by rw[jd];exact B);have HR:=aa (aB.o (λh=>B (y.o.symm.t h)));go_wp2_with fail;go_ret;exact⟨fG (y.o.symm.t HR.o.symm),z⟩
   ·have av:(d.length:Int)<=(j:Int):=(by omega);have p:=aa (show T.iG a d=1 by rw[T.sS a d (λm k o=>q.o m (by omega) k o),aG (by omega),aI (by omega)]);have aP:=aa hu;clear hu;go_wp2_with fail;go_ret;exact⟨fG p.o.symm,f.alloc f.size _⟩
  ·have hi:(a.length:Int)<=(j:Int):=(by omega);have n:=T.sS a d (λm k o=>q.o m (by omega) k o);by_cases k:a.length<d.length
   ·rw[aI k]at n;have p:=aa n;clear n;have q1:(a.length:Int)<(d.length:Int):=(by omega);go_wp2_with fail;go_ret;exact⟨fG p.o.symm,f⟩
   ·rw[aG k,aG (by omega)]at n;have p:=aa n;clear n;have q1:(d.length:Int)<=(a.length:Int):=(by omega);go_wp2_with fail;go_ret;exact⟨fG p.o.symm,f⟩
theorem IA{w1 W a:World}{b c d e f g:Addr}{v0 i v2 v3 v4 v5:Value}(h:W.cell? b=some v0/\W.cell? c=some i/\W.cell? d=some v2/\W.cell? e=some v3/\W.cell? f=some v4/\W.cell? g=some v5/\jl w1.heap.size w1 W)
 (hb:jl W.heap.size W a):a.cell? b=some v0/\a.cell? c=some i/\a.cell? d=some v2/\a.cell? e=some v3/\a.cell? f=some v4/\a.cell? g=some v5/\jl w1.heap.size w1 a:=by
 obtain⟨h0,k,l,m,n,o,j⟩:=h;exact⟨ae hb.toBelow h0,ae hb.toBelow k,ae hb.toBelow l,ae hb.toBelow m,ae hb.toBelow n,ae hb.toBelow o,j.t (hb.m j.size)⟩
theorem YX:∀(N:Nat) (t l:T) (v m:Value) (w:World),t.bC<N->aO w v t->aO w m l->t.bC<=1048576->l.bC<=1048576->
 Calls Tryz.prog 63 #[v,m] w λe w'=>e=.returned (.int .i64 (t.cmp l))/\jl w.heap.size w w':=by
 intro N;induction N with
 |zero=>intro t l v m w h;omega
 |succ N H=>
  intro t l v m w I q J K L;cases q with
  |mk k s A cap a U M O P Q hA hU=>
  cases J with
  |mk k' o f g c R av ax ay az r u=>
   simp only[T.bC]at I K L;have S:a.length<=1048576:=(by have:=T.kN a;omega);have V:c.length<=1048576:=(by have:=T.kN c;omega);rw[T.yC];obtain⟨F,G,_⟩:=uY w (.int .i64 k) (.string s) (.slice A a.length cap) (.int .i64 k') (.string o) (.slice f c.length g) 29;have n:=Jj w (.int .i64 k) (.string s) (.slice A a.length cap) (.int .i64 k') (.string o) (.slice f c.length g) 29;have q:=aO.mk k s A cap a U M O P Q hA hU;go_enter Tryz.func63,Tryz.ntmps63;go_upto_region 1 with fail;generalize(w.alloc (.cells #[.int .i64 k,.string s,.slice A a.length cap] 29)).alloc (.cells #[.int .i64 k',.string o,.slice f c.length g] 29)=p at F G n⊢;obtain⟨x0,x,y⟩:=F;obtain⟨z,B,C⟩:=G;obtain⟨bA,bU,aA,aB⟩:=ZT hA hU r u;have hF:∀W,jl p.heap.size p W->Calls Tryz.prog 108 #[.slice A a.length cap,.slice f c.length g,.func (.func 63) #[] #[]] W λe w'=>
    e=.returned (.int .i64 (T.iG a c))/\jl W.heap.size W w':=λW X=>by
    have d:=n.t (X.m n.size);refine QM A f cap g a c U R W S V ?_ (λi h=>(hU i h).ag d.toBelow) ?_ (λi h=>(u i h).ag d.toBelow) ?_
    ·rcases hA with h|⟨b,off,e,D⟩;·exact .inl h
     ·exact .inr ⟨b,off,e,λi hi=>by obtain⟨E,c1,c2⟩:=D i hi;exact⟨ae d.toBelow E,ae d.toBelow c1,ae d.toBelow c2⟩⟩
    ·rcases r with h|⟨b,off,e,D⟩;·exact .inl h
     ·exact .inr ⟨b,off,e,λi hi=>by obtain⟨E,c1,c2⟩:=D i hi;exact⟨ae d.toBelow E,ae d.toBelow c1,ae d.toBelow c2⟩⟩
    ·intro j h h' v m W' Y Z;have:=T.iQ a j h;have:=T.iQ c j h';exact H _ _ _ _ _ (by omega) Y Z (by omega) (by omega)
   have HF:=aa hF;clear hA hU r u q hF
   go_region_held3 (λW=>W.cell? ⟨w.heap.size,0,none⟩=some (.int .i64 k)/\W.cell? ⟨w.heap.size,1,none⟩=some (.string s)/\W.cell? ⟨w.heap.size,2,none⟩=some (.slice A a.length cap)/\W.cell? ⟨w.heap.size+1,0,none⟩=some (.int .i64 k')/\W.cell? ⟨w.heap.size+1,1,none⟩=some (.string o)/\W.cell? ⟨w.heap.size+1,2,none⟩=some (.slice f c.length g)/\jl p.heap.size p W)
    (first|exact⟨x0,x,y,z,B,C,jl.refl _ _⟩|exact⟨x0,x,y,z,B,C,(jl.refl _ _).drew⟩|exact IA (by assumption) af|exact IA (by assumption) ((jl.refl _ _).alloc (ak _) _)|go_keep)
    (first|(go_at_call 106;refine(PH _ _ _).m ?_;rintro e w' ⟨rfl,rfl⟩)|(go_at_call 107;refine(PI _ _ _).m ?_;rintro e w' ⟨rfl,rfl⟩)|(go_at_call 108;refine(HF.o _ (by first|assumption|exact jl.refl _ _|exact(jl.refl _ _).drew)).m ?_;rintro e w2 ⟨rfl,af⟩)|(go_at_call 105;refine(Tt _ _ _ _ _ _ (iB _ _ _ _ _).1 (iB _ _ _ _ _).2.1 (iB _ _ _ _ _).2.2).m ?_;rintro e w' ⟨rfl,rfl⟩))
   all_goals
    rename_i hS;have ai:=hS.2.2.2.2.2.2;clear hS x0 x y z B C;go_wp2_with fail;go_ret;exact⟨rfl,n.t (ai.m n.size)⟩
theorem jl.grow{w w':World}(h:jl w.heap.size w w'):∃q os,w'=Go.Sort.grow (w.drewN q) os:=by
 refine⟨w'.drawn-w.drawn,w'.heap.extract w.heap.size w'.heap.size,?_⟩;have hd:=h.drawn;have a:w'.heap=w.heap++w'.heap.extract w.heap.size w'.heap.size:=by
  apply Array.ext_getElem?;intro i;have e:=h.size;rw[Array.getElem?_append];split;·rename_i hi;exact h.block i hi
  ·rename_i hi;rw[Array.getElem?_extract];split;·congr 1;omega
   ·rw[nk (by omega)]
 obtain⟨f,t1,d1,g,j⟩:=w';have b:=h.os;have c:=h.tape;have d:=h.output;dsimp only at hd a b c d⊢;unfold Go.Sort.grow World.drewN;dsimp only
 congr 1;omega
end
section
open Go.RowKit Go.Maps
variable {X:Nat->Bool}
namespace Wb
variable {W:List fC} {f i:Nat} {m:Bool}
theorem Ww(h:W.length<=i):yf f i m W=(W,m):=by
 cases f with
 |zero=>rfl
 |succ f=>simp only[yf];rw[aG (by omega)]
theorem UG(h:i<W.length)(a:W[i].part=false):yf (f+1) i m W=yf f (i+1) m W:=by
 simp only[yf];rw[aI h,aG (by rw[wV h,a];simp)]
theorem UH(h:i<W.length)(a:W[i].part=true):yf (f+1) i m W=yf f (i+1) (m||(apart W i).2) (apart W i).1:=by
 simp only[yf];rw[aI h,aI (by rw[wV h,a])]
theorem Pd(K:List T)(j:Nat)(h:j<K.length):start (K.take (j+1))=(take (start (K.take j)) K[j] 1 []).1:=by
 rw[aV h];unfold start;rw[kQ];rfl
theorem JV{U:List T}{K:List T}(h:∀t∈K,t∈U)(j:Nat):Inv U (start (K.take j)):=
 (Fz ⟨#[]⟩ (K.take j) [] (λt a=>h t (iL a)) (Inv.nil U)).1
theorem UM{N:Nat}{W':List fC}(h:yf N 0 false W=(W',true)):run N (f+1) W=run N f W':=by
 simp only[run,h];rfl
theorem UL{N:Nat}{W':List fC}(h:yf N 0 false W=(W',false)):run N (f+1) W=W':=by
 simp only[run,h];rfl
def fill(N:Nat)(K:List T):List fC:=run N (N+1) (start K)
end Wb
theorem Qg(w:World)(B:Nat)(e:TypeId)(size:Nat):w.ownsRow B e size (.slice none 0 0) 0 []:=⟨by simp,.inl ⟨rfl,rfl⟩⟩
theorem gD.empty(w:World)(B:Nat)(a:B<=w.heap.size):gD mM B ((w.alloc (.map #[] 0)).alloc (.cells #[.slice none 0 0,.map (some w.heap.size),.slice none 0 0] 195)) (w.heap.size+1) w.heap.size (.slice none 0 0) (.slice none 0 0) []:=by
 have hb:=af (w.alloc (.map #[] 0)) (.cells #[.slice none 0 0,.map (some w.heap.size),.slice none 0 0] 195);refine⟨⟨[],⟨rfl,λi h=>absurd h (jg _)⟩,Qg _ _ _ _⟩,Qg _ _ _ _,⟨.map [],0,?_,ak _,y9.nil⟩,?_,⟨by omega,a⟩,by simp,λ_ _=>rfl⟩;·exact(World.ownsMap_made w Tryz.prog 9 _).kept (row:=none) (jr none hb) (by simp)
 ·have:=bO (w.alloc (.map #[] 0)) (.cells #[.slice none 0 0,.map (some w.heap.size),.slice none 0 0] 195);rw[aK]at this;exact this
theorem YZ{U:List T}(hU:yA U)(bn:∀t∈U,t.bC<=1048576)(L:List T)(A:Option Addr)(cap:Nat)(w:World)(h:gM w A cap L)(hb:∀t∈L,t.bC<=1048576)(hK:∀t∈cnt L,t∈U):
 Calls Tryz.prog 146 #[.slice A L.length cap] w λe w'=>∃g M vs vp,e=.returned (.pointer (some ⟨g,0,none⟩))/\gD mM w.heap.size w' g M vs vp (Wb.fill U.length (cnt L))/\Below w.heap.size w w':=by
 obtain⟨N,O⟩:∃N,U.length=N:=⟨_,rfl⟩;have HL:=aa (λ(W:List fC) (z:Inv U W)=>show W.length<=N by rw[<-O];exact z.len);rw[O];have dE:N<=1048576:=(by rw[<-O];exact hU.size);obtain⟨R,hR⟩:∃R,Wb.fill N (cnt L)=R:=⟨_,rfl⟩;rw[hR];obtain⟨HR,bO,bR,bS⟩:=ZT hR (λ(t:T) (ht:t∈U) v' W' how jv F fc g M a vs' mK (bP:Inv U a) hW bQ hF=>Xi (X:=mM) (W:=a) (g:=g) (M:=M) (B:=w.heap.size) (vs:=vs') (vp:=mK) t v' W' how jv F fc hW bQ (bn t ht) hF (bP.room hU ht)) (λi w' g M vs vp W hi z hW=>XT (X:=mM) (B:=w.heap.size) (g:=g) (M:=M) (vs:=vs) (vp:=vp) (W:=W) hU bn i w' hi z hW) (λ(i:Nat) (W:List fC) (hi:i<W.length) (z:Inv U W)=>(Wb.Jc hU z hi).1);have bT:Sem.run Tryz.prog (Instr.makeMap 91 none) w=.ok (.map (some w.heap.size)) (w.alloc (.map #[] 0)):=rfl;have hw:=(af w (.map #[] 0)).t ((af (w.alloc (.map #[] 0)) (.cells #[.slice none 0 0,.map (some w.heap.size),.slice none 0 0] 195)).m (by rw[aK];omega));obtain⟨P,HC,aB,Q⟩:=ZT (gD.empty w w.heap.size (ak _)) (Ue L A cap _ (h.ag hw) hb) hw hK;clear h hb hK hw hR O;go_enter Tryz.func146,Tryz.ntmps146;go_upto_region 2 with fail;clear bT;generalize bq:(w.alloc (.map #[] 0)).alloc (.cells #[.slice none 0 0,.map (some w.heap.size),.slice none 0 0] 195)=w1 at P HC aB⊢;have bu:w1.heap.size=w.heap.size+1+1:=(by rw[<-bq,aK,aK]);have dF:=aa bu;have bU:(w.alloc (.map #[] 0)).heap.size=w.heap.size+1:=aK _ _;clear bq bu;obtain⟨g,hg⟩:∃g,w.heap.size+1=g:=⟨_,rfl⟩;rw[hg]at P⊢;clear hg bU;go_wp2_with fail;refine HC.o.m ?_;rintro e w2 ⟨v',rfl,aF,q⟩;obtain⟨A5,c5,rfl,_,bV⟩:=aF.shape;have bv:bN (nr mM g w.heap.size (.slice none 0 0) (.slice none 0 0)) w2 (.agg #[.int .i64 0,.string ⟨#[]⟩,.slice A5 (cnt L).length c5]) (.mk 0 ⟨#[]⟩ (cnt L)):=
  (aF.term 0 ⟨#[]⟩ (by omega) (aL _)).aR (λb hb S=>⟨qp P.o (ax hb),rfl⟩)
 obtain⟨V,aG,Y⟩:=ZR (P.o.ag q) bv (aB.o.t (q.m aB.o.size));clear aF q bv bV;have bz:(cnt L).length<=64:=aD (fP _ _) (by rw[aW];omega);generalize cnt L=K at aG Q HR bz⊢;obtain⟨n,hn⟩:∃n,K.length=n:=⟨_,rfl⟩;have HN:=aa hn;rw[hn]at aG bz⊢;clear hn;go_upto_region 3 with fail;go_loopw [14] (λbW wr=>∃(j:Nat) (s u:Value),j<=n/\bW=.int .i64 j/\gD mM w.heap.size wr g w.heap.size s u (Wb.start (K.take j))/\bN (nr mM g w.heap.size s u) wr (.agg #[.int .i64 0,.string ⟨#[]⟩,.slice A5 n c5]) (.mk 0 ⟨#[]⟩ K)/\Below w.heap.size w wr) (λi _=>n-(intOf i).toNat);case atStart=>exact⟨0,_,_,aL _,rfl,by rw[iH];exact V.o,aG.o,Y.o⟩
 case round=>
  obtain⟨j,s,u,hj,rfl,C,Z,D⟩:=hrel;by_cases d:j<n
  ·have E:j<K.length:=(by rw[HN.o];exact d);obtain⟨b,off,A1,c1,rfl,hS,d0,d1,d2,aH⟩:=Z.eQ (i:=j) E;have aI:=aa (show(T.mk 0 ⟨#[]⟩ K).eQ j=K[j]'(E)from T.OE (t:=.mk 0 ⟨#[]⟩ K) E);generalize(T.mk 0 ⟨#[]⟩ K).eQ j=t at d0 d1 d2 aH aI;have bX:=aa (show t∈U by rw[aI.o];exact Q.o _ (aN E));have bY:=aa (show Wb.start (K.take (j+1))=(Wb.take (Wb.start (K.take j)) t 1 []).1 by rw[aI.o];exact Wb.Pd K j E);have hi:(j:Int)<(n:Int):=(by omega);have G:=af wr (.cells #[.int .i64 t.aC,.string t.aJ,.slice A1 t.ay.length c1] 29);have bk:=jM.new wr (.int .i64 t.aC) (.string t.aJ) (.slice A1 t.ay.length c1);obtain⟨bZ,cu,cz,cB,aM⟩:=ZU (C.ag G) (Z.aR (S':=nr mM g w.heap.size s u) (λb hb S=>⟨hb,G.block b S⟩)) (aH.aR (S':=nr mM g w.heap.size s u) (λb hb S=>⟨hb,G.block b S⟩)) (D.t (G.m D.size)) d;have cK:=aa (bO.o t bX.o _ _ 1 [] none 0 g w.heap.size _ s u (Wb.JV Q.o j) bZ.o cz.o (lG.none_ _ _));clear C Z D aH G;go_upto_region 5 with fail;generalize wr.alloc (.cells #[.int .i64 t.aC,.string t.aJ,.slice A1 t.ay.length c1] 29)=wa at*;obtain⟨k0,k1,k2⟩:=bk.cells;clear bk d0 d1 d2;go_wp2_with fail;refine cK.o.m ?_;rintro e w3 ⟨rfl,bA,bB,H,x⟩;have ae:=aa (show gD mM w.heap.size w3 g w.heap.size bA bB (Wb.start (K.take (j+1))) by rw[bY.o];exact H);obtain⟨cO,ai⟩:=ZQ (cu.o.fr x) (cB.o.t x.below);clear H x k0 k1 k2;go_wp2_with fail;go_roundw;case rel=>exact⟨j+1,_,_,aM.o,by go_num,ae.o,cO.o,ai.o⟩
   case measure=>have:=aM.o;simp[intOf];omega
  ·obtain rfl:j=n:=(by omega);have cZ:=aa (show Inv U (Wb.start K) by have:=Wb.JV Q.o j;rw[aY (by rw[HN.o];omega)]at this;exact this);have df:=aa (show gD mM w.heap.size wr g w.heap.size s u (Wb.start K) by rw[aY (by rw[HN.o];omega)]at C;exact C);have dh:=aa D;clear C Z D;go_upto_region 8 with fail
   go_loopg [6] (N+1) (λgg s6 bD=>∃(m:Bool) (a:List fC) (f:Nat) (bE bF:Value),s6=.bool m/\gD mM w.heap.size bD g w.heap.size bE bF a/\Inv U a/\Below w.heap.size w bD/\(m=true->Wb.run N f a=R/\N+1<=Wb.np a+f/\N+1<=Wb.np a+gg)/\(m=false->a=R))
   case atStart=>exact⟨true,_,N+1,_,_,rfl,df.o,cZ.o,dh.o,λ_=>⟨HR.o,Nat.le_add_left _ _,Nat.le_add_left _ _⟩,λe=>by cases e⟩
   case round=>
    obtain⟨m,a,f,bE,bF,rfl,aO,av,q,aP,aQ⟩:=hrel;obtain⟨V,di,Y⟩:=ZR aO av q;cases m with
    |false=>
     have k:=aa (aQ rfl);clear aO av q aP aQ;go_wp2_with fail;go_ret;exact⟨g,w.heap.size,_,_,rfl,by rw[<-k.o];exact V.o,Y.o⟩
    |true=>
     obtain⟨HM,dm⟩:=ZQ (aP rfl) (show Wb.np a<=N from aD (Wb.Xg a) (HL.o a av));clear aO av q aP aQ;obtain⟨wo,rfl⟩:∃wo:World,wo=wr:=⟨_,rfl⟩;go_upto_region 11 with fail;go_loopw [6,7] (λs6 s7 wi=>∃(l:Bool) (i I:Nat) (c:List fC) (bG bH:Value),s6=.bool l/\s7=.int .i64 i/\i<=N/\N<=I+i/\Wb.yf I i l c=Wb.yf N 0 false a/\Inv U c/\gD mM w.heap.size wi g w.heap.size bG bH c/\Below w.heap.size w wi) (λ_ i _=>N+1-(intOf i).toNat);case atStart=>exact⟨false,0,N,a,_,_,rfl,rfl,aL _,by omega,rfl,di.o,V.o,Y.o⟩
     case round=>
      obtain⟨l,i,I,c,bG,bH,rfl,rfl,bI,bJ,aS,az,v,aT⟩:=hrel;obtain⟨A7,c7,A8,c8,rfl,rfl⟩:=v.shapes;obtain⟨aU,aA,aV,aX⟩:=ZT v az aT aS;have dw:=v.cells.1;have dx:=v.cells.2.2.1;by_cases d:i<c.length
      ·have dz:=HL.o c az;obtain⟨o,dA⟩:∃o,I=o+1:=⟨I-1,by omega⟩;subst dA;have aM:=aa d;have p:=aa (show i+1<=N/\N<=o+(i+1) by omega);obtain⟨gp,cp,dB,p0,_,_⟩:=v.Dy d;injection dB with J _ h3;subst J;subst h3;have bK:(0:Int)<=(i:Int)/\(i:Int)<(c.length:Int):=(by omega);obtain⟨bK,dC⟩:=bK;have dG:(i:Int)<=1048576:=(by omega);clear v az aT aS bJ dz bI;cases y:(c[i]'(d)).part with
       |false=>
        rw[y]at p0;have k:=aa (show Wb.yf o (i+1) l c=Wb.yf N 0 false a by rw[<-aX.o];exact(Wb.UG d y).symm);clear y d;go_wp2_with fail;go_roundw;case rel=>exact⟨l,i+1,o,c,_,_,rfl,by go_num,p.o.1,p.o.2,k.o,aA.o,aU.o,aV.o⟩
        case measure=>have:=p.o.1;simp[intOf];omega
       |true=>
        rw[y]at p0;have aZ:=bR.o i wr g w.heap.size _ _ c d aA.o aU.o;have bf:=bS.o i c d aA.o;have bg:=(Wb.UH (f:=o) (m:=l) d y).symm.t aX.o;generalize Wb.apart c i=r at aZ bf bg;obtain⟨dD,bL,bM⟩:=ZR aZ bf bg;clear y d aZ bf bg;go_wp2_with fail;refine dD.o.m ?_;rintro e w3 ⟨rfl,bA,bB,H,x⟩;obtain⟨ae,ai⟩:=ZQ H (aV.o.t x.below);clear H x p0 dw dx;obtain⟨r1,r2⟩:=r;cases r2 with
        |true=>
         have k:=aa (show Wb.yf o (i+1) true r1=Wb.yf N 0 false a by have:=bM.o;rw[Bool.or_true]at this;exact this);go_wp2_with fail;go_roundw;case rel=>exact⟨true,i+1,o,r1,_,_,rfl,by go_num,p.o.1,p.o.2,k.o,bL.o,ae.o,ai.o⟩
         case measure=>have:=p.o.1;simp[intOf];omega
        |false=>
         have k:=aa (show Wb.yf o (i+1) l r1=Wb.yf N 0 false a by have:=bM.o;rw[pK]at this;exact this);go_wp2_with fail;go_roundw;case rel=>exact⟨l,i+1,o,r1,_,_,rfl,by go_num,p.o.1,p.o.2,k.o,bL.o,ae.o,ai.o⟩
         case measure=>have:=p.o.1;simp[intOf];omega
      ·have dC:¬((i:Int)<(c.length:Int)):=(by omega);have k:=aa (show Wb.yf N 0 false a=(c,l) by rw[<-aX.o];exact Wb.Ww (by omega));have bi:=aa (show 0<gk/\0<f by have:=HM.o;have:=dm.o;omega);clear v az aT aS bJ bI d;go_wp2_with fail
       go_roundg (gk-1)
       case measure=>have:=bi.o;omega
       case rel=>
        refine⟨l,c,f-1,_,_,rfl,aU.o,aA.o,aV.o,λe=>?_,λe=>?_⟩
        ·subst e;obtain⟨J,h2,h3⟩:=HM.o;obtain⟨h4,h5⟩:=bi.o;have h6:=(Wb.KD N 0 false a).2;rw[k.o]at h6;have h7:Wb.np a+1<=Wb.np c:=by
          rcases h6 rfl with h|h;·cases h
          ·exact h
         refine⟨?_,by omega,by omega⟩;rw[<-J,show f=f-1+1 by omega,Wb.UM k.o,jI]
        ·subst e;obtain⟨J,h2,h3⟩:=HM.o;obtain⟨h4,h5⟩:=bi.o;rw[<-J,show f=f-1+1 by omega,Wb.UL k.o]
end
end Go.Proofs.YtaciciokmpbkkaaGreatDoor
