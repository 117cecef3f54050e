import Derived.Test.YtaciciokmpbkkaaGreatDoorWebG22
import Derived.Test.YtaciciokmpbkkaaGreatDoorShelfD
import Derived.Test.YtaciciokmpbkkaaGreatDoorShelfR
set_option maxRecDepth 100000
set_option maxHeartbeats 16000000
namespace Go.Proofs.YtaciciokmpbkkaaGreatDoor
section
open Go.RowKit Go.Maps T
def WO:El aT.Lc where
 ty:=88
 size:=7
 gq S w xs v:=v.before<=1048576/\v.turn.dM<=1048576/\∃A c B d C e,xs=[.slice A v.x.aS.length c,.slice B v.x.bH.length d,.int .i64 (v.before:Int),.int .i64 (v.turn.dM:Int),.int .i64 v.turn.bJ.aC,.string v.turn.bJ.aJ,.slice C v.turn.bJ.ay.length e]/\
  jK Cz S w (.slice A v.x.aS.length c) v.x.aS/\jK oC S w (.slice B v.x.bH.length d) v.x.bH/\bN S w (.agg #[.int .i64 v.turn.bJ.aC,.string v.turn.bJ.aJ,.slice C v.turn.bJ.ay.length e]) v.turn.bJ
 len:=λ⟨_,_,_,_,_,_,_,_,e,_⟩=>by rw[e];rfl
 one:=λ⟨_,_,_,_,_,_,_,_,e,_⟩ u hu=>by rw[e]at hu;simp at hu;rcases hu with rfl|rfl|rfl|rfl|rfl|rfl|rfl<;>rfl
 aR:=λ⟨b,f,A,c,B,d,C,e,g,h,i,j⟩ a=>⟨b,f,A,c,B,d,C,e,g,h.aR a,i.aR a,j.aR a⟩
 pos:=by decide
def sx(X:Nat->Bool)(g Mn Ma Mg:Nat)(fv:Value):Nat->Bool:=λb=>X b&&!(b==g)&&!(b==Mn)&&!(b==Ma)&&!(b==Mg)&&!(fv.ownBlock==some b)
theorem nQ{X:Nat->Bool}{g Mn Ma Mg:Nat}{fv:Value}{b:Nat}:sx X g Mn Ma Mg fv b=true<->X b=true/\b≠g/\b≠Mn/\b≠Ma/\b≠Mg/\fv.ownBlock≠some b:=by
 unfold sx;rw[ai,ai,ai,ai,ai,bZ,bZ,bZ,bZ,bZ,aB,aB,aB,aB,aB,lD,lD,lD,lD]
abbrev uk(g Mn Ma Mg:Nat)(fv:Value):Nat->Bool:=sx mM g Mn Ma Mg fv
theorem Ew{X:Nat->Bool}{g Mn Ma Mg:Nat}{fv:Value}{b:Nat}(h:sx X g Mn Ma Mg fv b=true):uk g Mn Ma Mg fv b=true:=nQ.2 ⟨rfl,(nQ.1 h).2⟩
def svC(sv fv:Value)(Mn:Nat)(all:Bool)(Ma Mg:Nat):List Value:=[sv,fv,.map (some Mn),.bool all,.map (some Ma),.map (some Mg)]
def Eb(w:World)(M:Nat)(KS:List (List UInt8)):Prop:=∃n F,qI Tryz.prog 9 w M n F/\n<=KS.length/\∀k:ByteArray,(F (zQ k)).isSome=KS.any λq=>decide (q=k.data.toList)
def AL(s:List iZ)(S:Nat->Bool)(w:World)(M N:Nat):Prop:=∃n F,qI Tryz.prog 9 w M n F/\n<=N/\∀(k:ByteArray) (u:Value),F (zQ k)=some u->∃l,SF s k.data.toList l/\jK oC S w u l
def I8(S:Nat->Bool)(w:World)(M N:Nat)(ow:List ((Nat×Nat)×List oF)):Prop:=∃n F,qI Tryz.prog 99 w M n F/\n<=N/\∀i k:Nat,i<=1048576->k<=1048576->match ow.lookup (i,k)with
 |none=>F (Vj i k)=none
 |some l=>∃u,F (Vj i k)=some u/\jK CG S w u l
section
variable {S S':Nat->Bool} {w w':World} {M N:Nat}
theorem Eb.aR{KS:List (List UInt8)}(h:Eb w M KS)(a:w'.heap[M]?=w.heap[M]?):Eb w' M KS:=by
 obtain⟨n,F,b,c⟩:=h;exact⟨n,F,b.aR a,c⟩
theorem Eb.lt{KS:List (List UInt8)}(h:Eb w M KS):M<w.heap.size:=by
 obtain⟨n,F,a,b⟩:=h;exact a.lt
theorem AL.aR{s:List iZ}(h:AL s S w M N)(hM:w'.heap[M]?=w.heap[M]?)(a:∀b,S b=true->b<w.heap.size->S' b=true/\w'.heap[b]?=w.heap[b]?):AL s S' w' M N:=by
 obtain⟨n,F,c,d,e⟩:=h;exact⟨n,F,c.aR hM,d,λk u hu=>by
  obtain⟨l,f,g⟩:=e k u hu;exact⟨l,f,g.aR a⟩⟩
theorem AL.lt{s:List iZ}(h:AL s S w M N):M<w.heap.size:=by
 obtain⟨n,F,a,b⟩:=h;exact a.lt
theorem I8.aR{ow:List ((Nat×Nat)×List oF)}(h:I8 S w M N ow)(hM:w'.heap[M]?=w.heap[M]?)(c:∀b,S b=true->b<w.heap.size->S' b=true/\w'.heap[b]?=w.heap[b]?):I8 S' w' M N ow:=by
 obtain⟨n,F,d,e,f⟩:=h;refine⟨n,F,d.aR hM,e,λi k hi g=>?_⟩;have:=f i k hi g;cases a:ow.lookup (i,k)with
 |none=>rw[a]at this;exact this
 |some l=>
  rw[a]at this;obtain⟨u,j,m⟩:=this;exact⟨u,j,m.aR c⟩
theorem I8.lt{ow:List ((Nat×Nat)×List oF)}(h:I8 S w M N ow):M<w.heap.size:=by
 obtain⟨n,F,a,b⟩:=h;exact a.lt
end
structure kK (X:Nat->Bool) (s:List iZ) (sv:Value) (B g Mn Ma Mg N NA:Nat) (w:World) (fv:Value) (v:aT.xD) (KS:List (List UInt8)):Prop where
 box:iy w g 95 (svC sv fv Mn v.all Ma Mg)
 jb:gV WO (sx X g Mn Ma Mg fv) B w fv v.jb
 nums:Eb w Mn KS
 bJ:AL s (sx X g Mn Ma Mg fv) w Mg N
 ow:I8 (sx X g Mn Ma Mg fv) w Ma NA v.ow
 low:B<=g/\B<=Mn/\B<=Ma/\B<=Mg
 sep:g≠Mn/\g≠Ma/\g≠Mg/\Mn≠Ma/\Mn≠Mg/\Ma≠Mg
 qo:∀k,fv.ownBlock=some k->k≠g/\k≠Mn/\k≠Ma/\k≠Mg
 fresh:∀b,w.heap.size<=b->X b=true
 OQ:∀b,b<B->X b=true
structure xC (B g Mn Ma Mg:Nat) (w:World) (fv:Value) (w':World) (Da:Value):Prop where
 below:Below B w w'
 aR:∀b,uk g Mn Ma Mg fv b=true->b<w.heap.size->uk g Mn Ma Mg Da b=true/\w'.heap[b]?=w.heap[b]?
section
variable {X:Nat->Bool} {s:List iZ} {sv:Value} {B g Mn Ma Mg N NA:Nat} {w w' w'':World} {fv Da Q4:Value} {v:aT.xD} {KS:List (List UInt8)}
theorem xC.refl(B g Mn Ma Mg:Nat)(w:World)(fv:Value):xC B g Mn Ma Mg w fv w fv:=⟨az _ _,λ_ hb _=>⟨hb,rfl⟩⟩
theorem xC.t(k:xC B g Mn Ma Mg w fv w' Da)(k':xC B g Mn Ma Mg w' Da w'' Q4):xC B g Mn Ma Mg w fv w'' Q4:=
 ⟨k.below.t k'.below,λb hb a=>by
   obtain⟨c,d⟩:=k.aR b hb a;obtain⟨e,f⟩:=k'.aR b c (dF a k.below.size);exact⟨e,f.t d⟩⟩
theorem xC.of(a:B<=w.heap.size)(hb:Below w.heap.size w w'):xC B g Mn Ma Mg w fv w' fv:=⟨hb.m a,λb c d=>⟨c,hb.block b d⟩⟩
theorem xC.ag(k:xC B g Mn Ma Mg w fv w' Da)(a:B<=w.heap.size)(hb:Below w'.heap.size w' w''):xC B g Mn Ma Mg w fv w'' Da:=k.t (xC.of (aD a k.below.size) hb)
theorem kK.lt(h:kK X s sv B g Mn Ma Mg N NA w fv v KS):B<=w.heap.size:=by have:=h.box.lt;have:=h.low.1;omega
theorem kK.ag(h:kK X s sv B g Mn Ma Mg N NA w fv v KS)(hb:Below w.heap.size w w'):kK X s sv B g Mn Ma Mg N NA w' fv v KS:=
 ⟨h.box.ag hb,h.jb.ag hb,h.nums.aR (hb.block _ h.nums.lt),h.bJ.aR (hb.block _ h.bJ.lt) (λb a c=>⟨a,hb.block b c⟩),h.ow.aR (hb.block _ h.ow.lt) (λb a c=>⟨a,hb.block b c⟩),h.low,h.sep,h.qo,λb a=>h.fresh b (aD hb.size a),h.OQ⟩
theorem kK.more(h:kK X s sv B g Mn Ma Mg N NA w fv v KS){a b:Nat}(c:N<=a)(hA:NA<=b):kK X s sv B g Mn Ma Mg a b w fv v KS:=by
 obtain⟨n,F,d,e,f⟩:=h.bJ;obtain⟨i,j,k,l,b3⟩:=h.ow;exact⟨h.box,h.jb,h.nums,⟨n,F,d,aD e c,f⟩,⟨i,j,k,aD l hA,b3⟩,h.low,h.sep,h.qo,h.fresh,h.OQ⟩
theorem kK.new(h:kK X s sv B g Mn Ma Mg N NA w fv v KS){b:Nat}(hb:w.heap.size<=b):sx X g Mn Ma Mg fv b=true:=
 nQ.2 ⟨h.fresh b hb,by have:=h.box.lt;omega,by have:=h.nums.lt;omega,by have:=h.ow.lt;omega,by have:=h.bJ.lt;omega,λe=>by have:=(h.jb.block b e).2;omega⟩
open Classical in
theorem kK.UB(h:kK X s sv B g Mn Ma Mg N NA w fv v KS)(k:ByteArray)(m:k.size<=maxLen)(H:N<maxLen){u:Value}{l:List T}(o:SF s k.data.toList l)(hu:jK oC (sx X g Mn Ma Mg fv) w u l):
 ∃w',(Instr.mapUpdate 93 (.map (some Mg)) (.string k) u).run Tryz.prog w=.ok () w'/\kK X s sv B g Mn Ma Mg (N+1) NA w' fv v KS/\xC B g Mn Ma Mg w fv w' fv:=by
 obtain⟨n,F,p,I,r⟩:=h.bJ;obtain⟨w',t,x,a⟩:=p.put vR Tryz.underlying93 (by omega) (He k m) (Kv k) u;obtain⟨J,K,z,L,A,C⟩:=h.sep;have j:∀b,uk g Mn Ma Mg fv b=true->b<w.heap.size->uk g Mn Ma Mg fv b=true/\w'.heap[b]?=w.heap[b]?:=λb hb c=>⟨hb,a.block b c (λe=>(nQ.1 hb).2.2.2.2.1 (aA e))⟩;have d:∀b,sx X g Mn Ma Mg fv b=true->b<w.heap.size->sx X g Mn Ma Mg fv b=true/\w'.heap[b]?=w.heap[b]?:=λb hb c=>⟨hb,(j b (Ew hb) c).2⟩;refine⟨w',t,⟨h.box.grown a (λe=>z (aA e).symm),h.jb.aR λb hb c=>?_,h.nums.aR (a.block _ h.nums.lt (λe=>A (aA e))),⟨n+1,λq=>if q=zQ k then some u else F q,x _ (aI rfl) (λq i=>aG i),by omega,λq y hy=>?_⟩,h.ow.aR (a.block _ h.ow.lt (λe=>C (aA e))) d,h.low,h.sep,h.qo,λb hb=>h.fresh b (aD a.size hb),h.OQ⟩,⟨(az B w).grown a h.lt (λq i=>by rw[<-aA i];exact h.low.2.2.2),j⟩⟩
 ·rcases hb with hb|hb;·exact(d b hb c).2
  ·exact a.block b c (λe=>(h.qo b hb).2.2.2 (aA e))
 ·have f:(if zQ q=zQ k then some u else F (zQ q))=some y:=hy;by_cases e:zQ q=zQ k
  ·rw[aI e]at f;obtain rfl:=FY e;obtain rfl:u=y:=(by injection f);exact⟨l,o,hu.aR d⟩
  ·rw[aG e]at f;obtain⟨D,E,G⟩:=r q y f;exact⟨D,E,G.aR d⟩
open Classical in
theorem kK.X8(h:kK X s sv B g Mn Ma Mg N NA w fv v KS){i k:Nat}(hi:i<=1048576)(o:k<=1048576)(O:NA<maxLen){u:Value}{l:List oF}(hu:jK CG (sx X g Mn Ma Mg fv) w u l):
 ∃w',(Instr.mapUpdate 92 (.map (some Ma)) (.agg #[.int .i64 i,.int .i64 k]) u).run Tryz.prog w=.ok () w'/\kK X s sv B g Mn Ma Mg N (NA+1) w' fv ⟨v.jb,v.all,((i,k),l)::v.ow⟩ KS/\xC B g Mn Ma Mg w fv w' fv:=by
 obtain⟨n,F,y,P,z⟩:=h.ow;obtain⟨w',A,C,c⟩:=y.put zS ou (by omega) (Ml hi o) (XM i k) u;obtain⟨Q,D,R,E,S,G⟩:=h.sep;have p:∀b,uk g Mn Ma Mg fv b=true->b<w.heap.size->uk g Mn Ma Mg fv b=true/\w'.heap[b]?=w.heap[b]?:=λb hb a=>⟨hb,c.block b a (λe=>(nQ.1 hb).2.2.2.1 (aA e))⟩;have f:∀b,sx X g Mn Ma Mg fv b=true->b<w.heap.size->sx X g Mn Ma Mg fv b=true/\w'.heap[b]?=w.heap[b]?:=λb hb a=>⟨hb,(p b (Ew hb) a).2⟩;refine⟨w',A,⟨h.box.grown c (λe=>D (aA e).symm),h.jb.aR λb hb a=>?_,h.nums.aR (c.block _ h.nums.lt (λe=>E (aA e))),h.bJ.aR (c.block _ h.bJ.lt (λe=>G (aA e).symm)) f,⟨n+1,λq=>if q=Vj i k then some u else F q,C _ (aI rfl) (λq m=>aG m),by omega,λd k' r t=>?_⟩,h.low,h.sep,h.qo,λb hb=>h.fresh b (aD c.size hb),h.OQ⟩,⟨(az B w).grown c h.lt (λq m=>by rw[<-aA m];exact h.low.2.2.1),p⟩⟩
 ·rcases hb with hb|hb;·exact(f b hb a).2
  ·exact c.block b a (λe=>(h.qo b hb).2.2.1 (aA e))
 ·by_cases e:(d,k')=(i,k)
  ·obtain⟨rfl,rfl⟩:=zF e;simp only[xL,xS];exact⟨u,aI trivial,hu.aR f⟩
  ·have H:((d,k')==(i,k))=false:=aB.2 e;have x:¬Vj d k'=Vj i k:=λh'=>e (by obtain⟨I,J⟩:=XL r t hi o h';rw[I,J]);have j:=z d k' r t;simp only[xL,H];cases a:v.ow.lookup (d,k')with
   |none=>rw[a]at j;exact(aG x).t j
   |some T=>
    rw[a]at j;obtain⟨K,L,M⟩:=j;exact⟨K,(aG x).t L,M.aR f⟩
open Classical in
theorem kK.Ya(h:kK X s sv B g Mn Ma Mg N NA w fv v KS)(k:ByteArray)(j:k.size<=maxLen)(z:KS.length<maxLen)(u:Value):
 ∃w',(Instr.mapUpdate 91 (.map (some Mn)) (.string k) u).run Tryz.prog w=.ok () w'/\kK X s sv B g Mn Ma Mg N NA w' fv v (KS++[k.data.toList])/\xC B g Mn Ma Mg w fv w' fv:=by
 obtain⟨n,F,l,m,o⟩:=h.nums;obtain⟨w',p,r,a⟩:=l.put vR oq (by omega) (He k j) (Kv k) u;obtain⟨t,A,C,x,y,D⟩:=h.sep;have i:∀b,uk g Mn Ma Mg fv b=true->b<w.heap.size->uk g Mn Ma Mg fv b=true/\w'.heap[b]?=w.heap[b]?:=λb hb c=>⟨hb,a.block b c (λe=>(nQ.1 hb).2.2.1 (aA e))⟩;have d:∀b,sx X g Mn Ma Mg fv b=true->b<w.heap.size->sx X g Mn Ma Mg fv b=true/\w'.heap[b]?=w.heap[b]?:=λb hb c=>⟨hb,(i b (Ew hb) c).2⟩;refine⟨w',p,⟨h.box.grown a (λe=>t (aA e).symm),h.jb.aR λb hb c=>?_,⟨n+1,λq=>if q=zQ k then some u else F q,r _ (aI rfl) (λq f=>aG f),by rw[aF];exact Nat.succ_le_succ m,λq=>?_⟩,h.bJ.aR (a.block _ h.bJ.lt (λe=>y (aA e).symm)) d,h.ow.aR (a.block _ h.ow.lt (λe=>x (aA e).symm)) d,h.low,h.sep,h.qo,λb hb=>h.fresh b (aD a.size hb),h.OQ⟩,⟨(az B w).grown a h.lt (λq f=>by rw[<-aA f];exact h.low.2.1),i⟩⟩
 ·rcases hb with hb|hb;·exact(d b hb c).2
  ·exact a.block b c (λe=>(h.qo b hb).2.1 (aA e))
 ·show(if zQ q=zQ k then some u else F (zQ q)).isSome=_;rw[y7,<-o q];by_cases e:zQ q=zQ k
  ·rw[aI e];obtain rfl:=FY e;simp
  ·rw[aG e];have:¬k.data.toList=q.data.toList:=λh'=>e (by unfold zQ;rw[h']);simp[this]
theorem kK.cut(h:kK X s sv B g Mn Ma Mg N NA w fv v KS):kK X s sv B g Mn Ma Mg N NA (w.setCell ⟨g,3,none⟩ (.bool false)) fv ⟨v.jb,false,v.ow⟩ KS/\xC B g Mn Ma Mg w fv (w.setCell ⟨g,3,none⟩ (.bool false)) fv:=by
 obtain⟨f,i,j,k,l,m⟩:=h.sep;have a:∀b,b≠g->(w.setCell ⟨g,3,none⟩ (.bool false)).heap[b]?=w.heap[b]?:=λb hb=>aM _ _ _ _ hb;have e:∀b,uk g Mn Ma Mg fv b=true->b<w.heap.size->uk g Mn Ma Mg fv b=true/\(w.setCell ⟨g,3,none⟩ (.bool false)).heap[b]?=w.heap[b]?:=λb hb _=>⟨hb,a b (nQ.1 hb).2.1⟩;have c:∀b,sx X g Mn Ma Mg fv b=true->b<w.heap.size->sx X g Mn Ma Mg fv b=true/\(w.setCell ⟨g,3,none⟩ (.bool false)).heap[b]?=w.heap[b]?:=λb hb d=>⟨hb,(e b (Ew hb) d).2⟩;refine⟨⟨h.box.set 3 _,h.jb.aR λb hb d=>?_,h.nums.aR (a _ (jN f)),h.bJ.aR (a _ (jN j)) c,h.ow.aR (a _ (jN i)) c,h.low,h.sep,h.qo,λb hb=>h.fresh b (by simpa[World.setCell]using hb),h.OQ⟩,⟨(az B w).setCell (show B<=(⟨g,3,none⟩:Addr).block from h.low.1) _,e⟩⟩;rcases hb with hb|hb;·exact(c b hb d).2
 ·exact a b (h.qo b hb).1
theorem kK.push{m cap a:Nat}{y:aT.Lc}{cs:List Value}{dG:List (List Value)}(h:kK X s sv B g Mn Ma Mg N NA w fv v KS)(u:WO.all (off (sx X g Mn Ma Mg fv) fv.ownBlock) w dG v.jb)(x:v.jb.length=m)(z:WO.gq (sx X g Mn Ma Mg fv) w cs y)
 (l:w'.ownsRow B 88 7 (.slice (some ⟨a,0,none⟩) (m+1) cap) (m+1) (dG.flatten++cs)) (f:w.grownBy w' fv.ownBlock) (n:fv.ownBlock=some a\/w.heap.size<=a):
 kK X s sv B g Mn Ma Mg N NA (w'.setCell ⟨g,1,none⟩ (.slice (some ⟨a,0,none⟩) (m+1) cap)) (.slice (some ⟨a,0,none⟩) (m+1) cap) ⟨v.jb++[y],v.all,v.ow⟩ KS/\
  xC B g Mn Ma Mg w fv (w'.setCell ⟨g,1,none⟩ (.slice (some ⟨a,0,none⟩) (m+1) cap)) (.slice (some ⟨a,0,none⟩) (m+1) cap):=by
 obtain⟨A,C,D,K,L,M⟩:=h.sep;have o:a≠g/\a≠Mn/\a≠Ma/\a≠Mg:=by
  rcases n with c|c;·exact h.qo a c
  ·exact⟨by have:=h.box.lt;omega,by have:=h.nums.lt;omega,by have:=h.ow.lt;omega,by have:=h.bJ.lt;omega⟩
 have i:∀q,q<w.heap.size->q≠g->fv.ownBlock≠some q->(w'.setCell ⟨g,1,none⟩ (.slice (some ⟨a,0,none⟩) (m+1) cap)).heap[q]?=w.heap[q]?:=λq d c E=>(aM _ _ _ _ c).t (f.block q d (λe=>E e.symm));have j:∀Y:Nat->Bool,∀b,sx Y g Mn Ma Mg fv b=true->b<w.heap.size->sx Y g Mn Ma Mg (.slice (some ⟨a,0,none⟩) (m+1) cap) b=true/\(w'.setCell ⟨g,1,none⟩ (.slice (some ⟨a,0,none⟩) (m+1) cap)).heap[b]?=w.heap[b]?:=λY b hb d=>by
  obtain⟨a0,p,F,G,H,r⟩:=nQ.1 hb;refine⟨nQ.2 ⟨a0,p,F,G,H,λe=>?_⟩,i b d p r⟩;have I:a=b:=aA e;rcases n with c|c;·exact r (by rw[c,I])
  ·omega
 have O:=l.lt a rfl;refine⟨⟨(h.box.grown f (λe=>(h.qo g e).1 rfl)).set 1 _,?_,h.nums.aR (i _ h.nums.lt (jN A) (λe=>(h.qo _ e).2.1 rfl)),h.bJ.aR (i _ h.bJ.lt (jN D) (λe=>(h.qo _ e).2.2.2 rfl)) (j X),h.ow.aR (i _ h.ow.lt (jN C) (λe=>(h.qo _ e).2.2.1 rfl)) (j X),h.low,h.sep,λq k=>by rw[<-aA k];exact o,λb hb=>h.fresh b (aD f.size (by simpa[World.setCell]using hb)),h.OQ⟩,⟨((az B w).grown f h.lt (λq k=>(h.jb.block q k).1)).setCell (show B<=(⟨g,1,none⟩:Addr).block from h.low.1) _,j mM⟩⟩;refine⟨dG++[cs],?_,?_⟩
 ·have t:∀b,sx X g Mn Ma Mg fv b=true->b<w.heap.size->off (sx X g Mn Ma Mg (.slice (some ⟨a,0,none⟩) (m+1) cap)) (some a) b=true/\(w'.setCell ⟨g,1,none⟩ (.slice (some ⟨a,0,none⟩) (m+1) cap)).heap[b]?=w.heap[b]?:=λb hb d=>by
   obtain⟨c1,c2⟩:=j X b hb d;exact⟨dX.2 ⟨c1,λe=>(nQ.1 c1).2.2.2.2.2 e⟩,c2⟩
  exact(u.aR λb hb d=>t b (dX.1 hb).1 d).push (WO.aR z t)
 ·have J:(v.jb++[y]).length=m+1:=(by simp[x]);rw[J,pI];have:=pg l (w':=w'.setCell ⟨g,1,none⟩ (.slice (some ⟨a,0,none⟩) (m+1) cap)) λb hb _=>aM _ _ _ _ (by
   show b≠g;rw[<-(show a=b from aA hb)];exact o.1)
  have e:([cs]:List (List Value)).flatten=cs:=(by simp);rw[e];exact this
theorem kK.turn{Y:Nat->Bool}(h:kK X s sv B g Mn Ma Mg N NA w fv v KS)(d:∀b,sx X g Mn Ma Mg fv b=true->b<w.heap.size->Y b=true/\w'.heap[b]?=w.heap[b]?)(a:∀b,(b=g\/b=Mn\/b=Ma\/b=Mg\/fv.ownBlock=some b)->w'.heap[b]?=w.heap[b]?)(e:∀b,w'.heap.size<=b->Y b=true)(hd:∀b,b<B->Y b=true):kK Y s sv B g Mn Ma Mg N NA w' fv v KS:=by
 have kk:∀b,sx X g Mn Ma Mg fv b=true->b<w.heap.size->sx Y g Mn Ma Mg fv b=true/\w'.heap[b]?=w.heap[b]?:=λb hb c=>⟨nQ.2 ⟨(d b hb c).1,(nQ.1 hb).2⟩,(d b hb c).2⟩;refine⟨(a g (.inl rfl)).t h.box,?_,h.nums.aR (a _ (.inr (.inl rfl))),h.bJ.aR (a _ (.inr (.inr (.inr (.inl rfl))))) kk,h.ow.aR (a _ (.inr (.inr (.inl rfl)))) kk,h.low,h.sep,h.qo,e,hd⟩;obtain⟨dG,f,i⟩:=h.jb;exact⟨dG,f.aR λb hb c=>⟨dX.2 ⟨(kk b (dX.1 hb).1 c).1,(dX.1 hb).2⟩,(kk b (dX.1 hb).1 c).2⟩,pg i λb hb _=>a b (.inr (.inr (.inr (.inr hb))))⟩
end
end
section
open Go.Shelf Go.RowKit
theorem Tc:(Tryz.prog.info? 137).map (·.size)=some 2:=by kernel_rfl
theorem Ta:liesAt Tryz.prog Tryz.prog.depth 137 (2 / Tryz.prog.cellsOf 137) 0 137 1=true:=by kernel_rfl
theorem QI:(Tryz.prog.info? 5).map (λi=>(i.zero,i.size,i.bytes))=some (some (.int .u8 0),1,1):=by kernel_rfl
theorem OP(B b:Nat)(a:List Value)(w:World)(h:Lib.IsBuilder 137 5 B b a w):
 Calls Tryz.prog 136 #[.pointer (some ⟨b,0,none⟩)] w λe w'=>e=.returned (.tuple #[])/\(Lib.BuilderAt 137 5 B b (.pointer (some ⟨b,0,none⟩)) a w'/\Below B w w'/\∀k,k≠b->w'.heap[k]?=w.heap[k]?):=by
 obtain⟨j,hj,d⟩:=nC.1 Tc;rcases h with h|h
 ·have h0:=h.cell0;have c:=h.shape;have g:=h.frozen0;have H:=aa h;clear h;go_enter Tryz.func136,Tryz.ntmps136;go_wp2;rw[Lib.run_to_unsafe w ⟨b,0,none⟩ nJ vK hj (by rw[d];decide) c (Nat.zero_lt_succ 1)];simp only[Result.andThen];rw[za];go_wp2;rw[run_callFunc_extern Tryz.func172 (by kernel_rfl) (by kernel_rfl) (by kernel_rfl) (e:=Extern.AbiNoEscape.same) (by kernel_rfl)];rw[Lib.run_noEscape];simp only[Result.andThen];rw[za];go_wp2;rw[Lib.run_from_unsafe w ⟨b,0,none⟩ vK nJ hj c Ta];simp only[Result.andThen];rw[za];go_wp2;go_end0;exact⟨rfl,H.o.used _,(az B w).setCell (p:=⟨b,0,none⟩) H.o.1 _,λk f=>aM _ _ _ _ f⟩
 ·have h0:=h.cell0;have H:=aa h;clear h;go_enter Tryz.func136,Tryz.ntmps136;go_wp2;rw[Lib.run_neq_ptr_same w _ nJ hj];go_wp2;go_end0;exact⟨rfl,H.o,az B _,λ_ _=>rfl⟩
theorem KI(B b:Nat)(a:List Value)(s:ByteArray)(w:World)(h:Lib.IsBuilder 137 5 B b a w)(L:a.length+s.size<=140737488355328)(M:B<=w.heap.size):
 Calls Tryz.prog 93 #[.pointer (some ⟨b,0,none⟩),.string s] w λe w'=>e=.returned (.tuple #[.int .i64 s.size,.nilIface])/\(Lib.BuilderAt 137 5 B b (.pointer (some ⟨b,0,none⟩)) (a++Lib.strCells s) w'/\Below B w w'/\∀k cs ty q,k≠b->w.heap[k]?=some (.cells cs ty q)->ty≠5->w'.heap[k]?=w.heap[k]?):=by
 obtain⟨z,hi,A,C,D⟩:=dV QI;go_enter Tryz.func93,Tryz.ntmps93;go_wp2_with fail;refine(OP B b a _ h).m ?_;rintro e w1 ⟨rfl,d,c⟩;obtain⟨c,E⟩:=c;obtain⟨r,v,f,m,F⟩:=d;have c0:w1.cell? ⟨b,0,none⟩=some (.pointer (some ⟨b,0,none⟩)):=(by rw[sG f];rfl);have c1:w1.cell? ⟨b,1,none⟩=some v:=(by rw[sG f];rfl);go_wp2_with (at_builtin;refine Lib.wpList_append_own_string _ rfl _ _ 135 9 rfl B 5 z ql gB hi A C D _ _ _ rfl m s rfl ?c3 ?c4 ?c5 ?_);case c3=>unfold maxLen;omega
 case c4=>omega
 case c5=>have:=c.size;omega
 intro G i t n _;have H:b<w1.heap.size:=by
  rcases cu b w1.heap.size with h'|h';·exact h'
  ·simp[Array.getElem?_eq_none h']at f
 have j:i.heap[b]?=some (.cells #[.pointer (some ⟨b,0,none⟩),v] 137 (0,0)):=by
  rw[n.block b H (λe=>F e.symm)];exact f
 have d0:i.cell? ⟨b,0,none⟩=some (.pointer (some ⟨b,0,none⟩)):=(by rw[sG j];rfl);have d1:i.cell? ⟨b,1,none⟩=some v:=(by rw[sG j];rfl);have f1:i.frozen? ⟨b,1,none⟩=false:=Lib.frozen_of_heap j 1;obtain⟨u,x,cap,rfl⟩:∃u x cap,G=.slice u x cap:=by
  rcases t.2 with⟨o,_⟩|⟨g,cap,N,o,_⟩;·exact⟨_,_,_,o⟩
  ·exact⟨_,_,_,o⟩
 go_wp2;go_ret2;refine⟨rfl,?_,?_,λk cs ty q l I J=>?_⟩;·exact Lib.BuilderAt.put (T:=137) (e:=5) r j (bs':=a++Lib.strCells s) (by simpa[Lib.strCells_length]using t) (by decide)
 ·exact(c.grown n (by have:=c.size;omega) (λk l=>(m.lt k l).1)).setCell (p:=⟨b,1,none⟩) r _
 ·have d:=E k l;have y:=d.t I;have K:k<w1.heap.size:=(aZ.1 y).1;exact(aM _ _ _ _ l).t ((n.block k K (λe=>Lib.ownBlock_ne m y J e.symm)).t d)
end
section
open Go.RowKit T
attribute [local go_sem ↓] Go.wp_at_zero Go.wp_at_succ
theorem xx{α β:Type}(f:α->List β)(l:List α)(j:Nat):((l.take j).flatMap f).length<=(l.flatMap f).length:=by
 have e:l.flatMap f=(l.take j).flatMap f++(l.drop j).flatMap f:=(by rw[<-jw,ku]);rw[e,aF];omega
theorem uA{α β:Type}(f:α->List β)(l:List α){j:Nat}(h:j<l.length):(l.take (j+1)).flatMap f=(l.take j).flatMap f++f l[j]:=by
 rw[aV h,jw,lZ,xJ,dS]
def Sz(B:Nat)(l:List UInt8)(w:World):Prop:=Lib.IsBuilder 137 5 B B (Lib.byteCells l) w
theorem Sz.ag{B:Nat}{l:List UInt8}{w w':World}(h:Sz B l w)(hb:Below w.heap.size w w'):Sz B l w':=by
 have key:∀p,Lib.BuilderAt 137 5 B B p (Lib.byteCells l) w->Lib.BuilderAt 137 5 B B p (Lib.byteCells l) w':=λp k=>by
  have a:=k.lt;obtain⟨b,v,c,d,e⟩:=k;exact⟨b,v,(hb.block B a).t c,dz d hb,e⟩
 exact h.imp (key _) (key _)
theorem Sz.lt{B:Nat}{l:List UInt8}{w:World}(h:Sz B l w):B<w.heap.size:=h.elim Lib.BuilderAt.lt Lib.BuilderAt.lt
theorem P9(B:Nat)(l:List UInt8)(s:ByteArray)(w:World)(h:Sz B l w)(k:l.length+s.size<=1099511627776)(b:B<=w.heap.size):
 Calls Tryz.prog 93 #[.pointer (some ⟨B,0,none⟩),.string s] w λe w'=>e=.returned (.tuple #[.int .i64 s.size,.nilIface])/\Sz B (l++s.data.toList) w'/\Below B w w'/\∀g ty xs,g≠B->iy w g ty xs->ty≠5->iy w' g ty xs:=by
 refine(KI B B (Lib.byteCells l) s w h (by rw[Lib.byteCells_length];omega) b).m ?_;rintro e w' ⟨rfl,c,d,f⟩;refine⟨rfl,.inr ?_,d,λg ty xs i a j=>(f g _ _ _ i a j).t a⟩;have e:Lib.byteCells (l++s.data.toList)=Lib.byteCells l++Lib.strCells s:=(by rw[Lib.strCells_eq];unfold Lib.byteCells;rw[fZ]);rw[e];exact c
theorem nV(a b:ByteArray):(a++b).data.toList=a.data.toList++b.data.toList:=by simp
theorem nZ(a:ByteArray):a.size=a.data.toList.length:=by rw[lh];rfl
theorem Ls(l:List UInt8):(⟨l.toArray⟩:ByteArray).data.toList=l:=by simp
theorem Y2(x:jZ)(vx:Value)(w:World)(hx:qi mf w vx x)(bZ:∀q∈x.aS,q.gq<100)(hb:∀q∈x.aS,q.b.length<=1048576/\∀y∈q.b,y.t.fe=true/\y.var.size<=64)(hk:∀t∈x.bH,t.fe=true)
 (dQ:x.aS.length<=1048576) (Z:x.bH.length<=1048576) (cu:(aT.iU x).length<=1099511627776):
 Calls Tryz.prog 46 #[vx] w λe w'=>e=.returned (.string ⟨(aT.iU x).toArray⟩)/\Below w.heap.size w w':=by
 obtain⟨Ax,cx,Bx,dx,rfl,cz,cB⟩:=hx;have M:=af w (.cells #[.slice Ax x.aS.length cx,.slice Bx x.bH.length dx] 35);have ae:=iy.new w [.slice Ax x.aS.length cx,.slice Bx x.bH.length dx] 35;have aG:=aK w (.cells #[.slice Ax x.aS.length cx,.slice Bx x.bH.length dx] 35);change iy (w.alloc (.cells #[.slice Ax x.aS.length cx,.slice Bx x.bH.length dx] 35)) w.heap.size _ _ at ae;obtain⟨ai,av⟩:=ZQ (cz.ag M) (cB.ag M);obtain⟨n,hn⟩:∃n,x.aS.length=n:=⟨_,rfl⟩;obtain⟨kn,bF⟩:∃n,x.bH.length=n:=⟨_,rfl⟩;obtain⟨HN,HK,dR,HB,dS,HLEN⟩:=ZV hn bF bZ hb hk cu;rw[hn]at dQ ae M aG ai av⊢;rw[bF]at Z ae M aG ai av⊢;clear cz cB hn bF bZ hb hk cu;go_enter Tryz.func46,Tryz.ntmps46;go_upto_region 2 with fail;generalize w.alloc (.cells #[.slice Ax n cx,.slice Bx kn dx] 35)=C at ae M aG ai av⊢;have aH:=af C (.cells #[.pointer none,.slice none 0 0] 137);have bB:=iy.new C [.pointer none,.slice none 0 0] 137;obtain⟨B,hB⟩:∃B,C.heap.size=B:=⟨_,rfl⟩;have cK:w.heap.size<B:=(by omega);rw[<-aG,hB];rw[hB]at bB aH;change iy (C.alloc (.cells #[.pointer none,.slice none 0 0] 137)) B _ _ at bB;have bg:=ae.ag (aH.m (by omega));have cO:=aa (show Sz B [] (C.alloc (.cells #[.pointer none,.slice none 0 0] 137))from .inl ⟨ak _,_,bB,gZ _ _ _ _,by intro e;cases e⟩);generalize C.alloc (.cells #[.pointer none,.slice none 0 0] 137)=w2 at aH bg cO⊢;have ai:=aa ((jK.low ai.o).aR (S':=jQ B) (w':=C) λb hb _=>⟨by rw[<-hB];exact hb,rfl⟩);have av:=aa ((jK.low av.o).aR (S':=jQ B) (w':=C) λb hb _=>⟨by rw[<-hB];exact hb,rfl⟩);obtain⟨cZ,dU,dV,df,bi⟩:=ZU aH (M.m (ak _)) hB bg cK;obtain⟨z0,z1,_,_⟩:=bg.two;obtain⟨q0,bG⟩:∃q,w.heap.size=q:=⟨_,rfl⟩;rw[bG]at z0 z1 df bi⊢;have HQ:=aa bG;clear ae bg bB M aH aG hB cK bG z1;go_upto_region 3 with fail;go_loopw [13] (λv wr=>∃j:Nat,j<=n/\v=.int .i64 j/\Sz B (aT.uJ (x.aS.take j)) wr/\Below B C wr) (λv _=>n-(intOf v).toNat);case atStart=>exact⟨0,aL _,rfl,cO.o,cZ.o⟩
 case round=>
  obtain⟨j,hj,rfl,c,f⟩:=hrel;have dh:B<=wr.heap.size:=(by have:=dV.o;have:=f.size;omega);by_cases N:j<n
  ·have D:j<x.aS.length:=(by rw[HN.o];exact N);obtain⟨b1,o1,vB,hA,e0,e1,aM,-⟩:=jK.stand (jK.aR ai.o (S':=jQ B) (w':=wr) λb hb _=>⟨hb,f.block b (ax hb)⟩) D;subst hA;have H:=dR.o _ (aN D);obtain⟨J,bI⟩:=HB.o _ (aN D);have aO:aT.uJ (x.aS.take (j+1))=aT.uJ (x.aS.take j)++(aT.itoa (x.aS[j]).gq++10::aT.pG (x.aS[j]).b):=uA _ _ D;have bn:=xx (λq:pF=>aT.itoa q.gq++10::aT.pG q.b) x.aS (j+1);change(aT.uJ (x.aS.take (j+1))).length<=(aT.uJ x.aS).length at bn;have di:(aT.uJ x.aS).length<=1099511627776:=(by have:=HLEN.o;unfold aT.iU at this;rw[aF]at this;omega);obtain⟨q,hq⟩:∃q,x.aS[j]=q:=⟨_,rfl⟩;rw[hq]at e0 aM H J bI aO;obtain⟨Ab,cb,rfl,dW,fw⟩:=aM.Hg.shape;obtain⟨m,hm⟩:∃m,q.b.length=m:=⟨_,rfl⟩;rw[hm]at e1 aM J dW;have HM:=aa hm;obtain⟨l1,dm⟩:∃l,aT.uJ (x.aS.take j)=l:=⟨_,rfl⟩;rw[dm]at c aO;rw[aO]at bn;have bJ:=aa aO;have bq:(l1++(aT.itoa q.gq++10::aT.pG q.b)).length<=1099511627776:=aD bn di;obtain⟨gq,dw⟩:∃a,q.gq=a:=⟨_,rfl⟩;rw[dw]at e0 H bq bJ;obtain⟨I,hI⟩:∃I:ByteArray,(⟨(Lib.decDigits gq).toArray⟩:ByteArray)=I:=⟨_,rfl⟩;have aP:I.data.toList=aT.itoa gq:=(by rw[<-hI];exact Ls _);have fB:I.size<=2:=(by have h2:=G8 H;rw[<-aP,lh]at h2;exact h2);have dz:=aa (λW=>Tryz.strconv_Itoa_small gq H W);rw[hI]at dz;have r:=af wr (.cells #[.int .i64 gq,.slice Ab m cb] 72);have bx:=iy.new wr [.int .i64 gq,.slice Ab m cb] 72;obtain⟨bK,dB,dC,dD,fC,dX,dY,dE,HG⟩:=ZY (c.ag r) (f.t (r.m dh)) N (aM.aR (S':=jQ B) λb hb hl=>⟨hb,r.block b hl⟩) aP J bI bq c.lt;have dZ:=aa (show l1.length+(I++(⟨#[10]⟩:ByteArray)).size<=1099511627776 by rw[nZ,nV,aP];simp only[aF,bu]at bq⊢;simp;omega);have d9:=aa (show(I++(⟨#[10]⟩:ByteArray)).data.toList=aT.itoa gq++[10] by rw[nV,aP]);have hi:(j:Int)<(n:Int):=(by omega);clear hm c f aM H J bI aO bn di hq dm bq dw hI aP r D N hj dh;go_upto_region 5 with fail;generalize wr.alloc (.cells #[.int .i64 gq,.slice Ab m cb] 72)=w3 at bx bK dB dD⊢;obtain⟨g5,dF⟩:∃g,wr.heap.size=g:=⟨_,rfl⟩;rw[dF]at bx HG⊢;clear e0 e1 dF;obtain⟨y0,y1,_,_⟩:=bx.two;have ed:=aa bx;have fD:I.size+1<=9223372036854775807:=(by omega);clear bx;have bv:=aa (λl s W h1 h2 h3=>P9 B l s W h1 h2 h3);go_wp2_with fail;refine(dz.o _).m ?_;rintro e w4 ⟨rfl,rfl⟩;go_wp2_with fail;refine(bv.o l1 _ _ bK.o dZ.o (by have:=HG.o;have:=bK.o.lt;omega)).m ?_;rintro e w4 ⟨rfl,bL,bM,dG⟩;rw[d9.o]at bL;have dH:=dG g5 _ _ (by have:=HG.o;omega) ed.o (by decide);obtain⟨dI,ek,eu⟩:=ZR bL (dB.o.t bM) (dD.o.aR (S':=jQ B) λb hb _=>⟨hb,bM.block b (ax hb)⟩);clear y0 y1 bL bM dG;obtain⟨y0,y1,_,_⟩:=dH.two;clear dH y0;go_upto_region 7 with fail;obtain⟨O,bN⟩:∃O,l1++(aT.itoa gq++[10])=O:=⟨_,rfl⟩;have eB:=aa (show l1++(aT.itoa gq++10::aT.pG q.b)=O++aT.pG q.b by rw[<-bN];simp);rw[bN]at dI;rw[eB.o]at dE bJ;clear bN;have fF:(m:Int)<=1048576:=(by have:=dX.o;omega);go_loopw [25] (λv aQ=>∃i:Nat,i<=m/\v=.int .i64 i/\Sz B (O++aT.pG (q.b.take i)) aQ/\Below B w4 aQ) (λv _=>m-(intOf v).toNat);case atStart=>exact⟨0,aL _,rfl,by have:=dI.o;simpa[aT.pG]using this,az _ _⟩
   case round=>
    obtain⟨i,eD,rfl,c,f⟩:=hrel;by_cases bO:i<m
    ·have D:i<q.b.length:=(by rw[HM.o];exact bO);obtain⟨b2,o2,eG,bP,⟨h,o,rfl,P,bQ⟩,E⟩:=jK.get (eu.o.Hg.aR (S':=jQ B) (w':=wr) λb hb _=>⟨hb,f.block b (ax hb)⟩) D;subst bP;have d0:=E 0 _ rfl;have d1:=E 1 _ rfl;have d2:=E 2 _ rfl;have d3:=E 3 _ rfl;have dJ:NN.size=4:=rfl;rw[dJ]at d0 d1 d2 d3;rw[fE]at d0;rw[<-iw]at d1 d2 d3;obtain⟨z,bR⟩:=dY.o _ (aN D);have Q:aT.pG (q.b.take (i+1))=aT.pG (q.b.take i)++((q.b[i]).var.data.toList++61::((q.b[i]).t.gL++[10])):=uA _ _ D;have aU:=xx (λy:Bd=>y.var.data.toList++61::(y.t.gL++[10])) q.b (i+1);change(aT.pG (q.b.take (i+1))).length<=(aT.pG q.b).length at aU;obtain⟨y,hy⟩:∃y,q.b[i]=y:=⟨_,rfl⟩;rw[hy]at d0 d1 d2 d3 P bQ z bR Q;have aV:=dE.o;obtain⟨p,R⟩:∃p,O++aT.pG (q.b.take i)=p:=⟨_,rfl⟩;have L:O++aT.pG (q.b.take (i+1))=p++(y.var.data.toList++61::(y.t.gL++[10])):=(by rw[Q,<-R,dA]);have aA:(p++(y.var.data.toList++61::(y.t.gL++[10]))).length<=1099511627776:=(by rw[<-L,aF];rw[aF]at aV;omega);rw[R]at c;obtain⟨d,U⟩:∃d:ByteArray,strOf y.t.gL=d:=⟨_,rfl⟩;have F:d.data.toList=y.t.gL:=(by rw[<-U];exact tH _);have aW:=yY z;have eH:d.size<=2400:=(by rw[nZ,F];exact aW);obtain⟨V,hV⟩:∃V,y.var=V:=⟨_,rfl⟩;rw[hV]at d0 bQ bR L aA;have H:V.data.toList.length=V.size:=(nZ V).symm;have J:d.size=y.t.gL.length:=(by rw[nZ,F]);have bS:=aa (show p.length+((V++(⟨#[61]⟩:ByteArray))++d++(⟨#[10]⟩:ByteArray)).size<=1099511627776 by
      rw[iV,iV,iV];show p.length+(V.size+1+d.size+1)<=_;simp only[aF,bu,fA,H]at aA;omega)
     have bT:=aa (show p++((V++(⟨#[61]⟩:ByteArray))++d++(⟨#[10]⟩:ByteArray)).data.toList=O++aT.pG (q.b.take (i+1)) by rw[L,nV,nV,nV,F];simp);have r:=af wr (.cells #[.string V,.int .i64 y.t.aC,.string y.t.aJ,.slice h y.t.ay.length o] 132);have u:=iy.new wr [.string V,.int .i64 y.t.aC,.string y.t.aJ,.slice h y.t.ay.length o] 132;obtain⟨X,bA⟩:=ZQ (c.ag r) ((f.t (r.m (jo c.lt))));have aX:=aa (show ∀W,Below (wr.alloc (.cells #[.string V,.int .i64 y.t.aC,.string y.t.aJ,.slice h y.t.ay.length o] 132)).heap.size (wr.alloc (.cells #[.string V,.int .i64 y.t.aC,.string y.t.aJ,.slice h y.t.ay.length o] 132)) W->
      Calls Tryz.prog 95 #[.agg #[.int .i64 y.t.aC,.string y.t.aJ,.slice h y.t.ay.length o]] W λe w'=>e=.returned (.string d)/\Below W.heap.size W w' from λW hW=>by
      have:=Dr y.t (.agg #[.int .i64 y.t.aC,.string y.t.aJ,.slice h y.t.ay.length o]) W ((P.at.ag r).ag hW) (aD (kZ z) (by decide));rw[aI z,U]at this;exact this)
     have eO:¬9223372036854775807<V.size+1:=(by omega);have eP:¬9223372036854775807<V.size+1+d.size:=(by omega);have fG:¬9223372036854775807<V.size+1+d.size+1:=(by omega);have aZ:=aa bO;have bU:(i:Int)<(m:Int):=(by omega);clear H J E P bQ z bR Q aU hy aV R L aA U F aW hV r c f D bO eD dJ;go_upto_region 9 with fail;generalize wr.alloc (.cells #[.string V,.int .i64 y.t.aC,.string y.t.aJ,.slice h y.t.ay.length o] 132)=A at u X bA aX⊢;generalize wr.heap.size=G at u⊢;clear d0 d1 d2 d3;have x0:=u.cell 0 rfl;have x1:=u.cell 1 rfl;have x2:=u.cell 2 rfl;have x3:=u.cell 3 rfl;clear u;have HC:=aa (show A.cell? ⟨G,0,none⟩=some (.string V)/\A.cell? ⟨G,1,none⟩=some (.int .i64 y.t.aC)/\A.cell? ⟨G,2,none⟩=some (.string y.t.aJ)/\A.cell? ⟨G,3,none⟩=some (.slice h y.t.ay.length o)/\Below A.heap.size A A from⟨x0,x1,x2,x3,az _ _⟩);clear x0 x1 x2 x3;refine gI (S:=(λWq=>Wq.cell? ⟨G,0,none⟩=some (.string V)/\Wq.cell? ⟨G,1,none⟩=some (.int .i64 y.t.aC)/\Wq.cell? ⟨G,2,none⟩=some (.string y.t.aJ)/\Wq.cell? ⟨G,3,none⟩=some (.slice h y.t.ay.length o)/\Below A.heap.size A Wq)) (λi=>if [8].contains i then 2 else 0) (by kernel_rfl) (show _/\_/\_/\_/\_ from⟨HC.o.1,HC.o.2.1,HC.o.2.2.1,HC.o.2.2.2.1,(az _ A).drew⟩) (λhHeld=>?_);refine gG 0 _ ?_;refine gG 1 _ ?_;refine gG 2 _ ?_;refine gG 3 _ ?_;refine gG 4 _ ?_;refine x8 5 λK hK=>?_;(go_simp;go_at_call 95;refine(aX.o _ hHeld.2.2.2.2).m ?_;rintro e w9 ⟨rfl,dK⟩;(try replace eQ:=aa (eQ.o.ag dK));refine mH hK (gX HC.o (hHeld.2.2.2.2.t (dK.m hHeld.2.2.2.2.size))) λhHeld=>?_;clear hK K);refine gG 6 _ ?_;refine gG 7 _ ?_;refine yh 8 λK hK=>?_;((go_simp;go_at_call 93;refine(bv.o p _ _ (X.o.ag hHeld.2.2.2.2) bS.o (jo (X.o.ag hHeld.2.2.2.2).lt)).m ?_;rintro e eT ⟨rfl,Y,bf,bV⟩);refine rW hK ?_;clear hK K);refine dL (by kernel_rfl) ?_ _;rw[bT.o]at Y;obtain⟨bW,bX⟩:=ZQ Y (((bA.o.t (hHeld.2.2.2.2.m (jo X.o.lt))).t bf));clear Y bf bV hHeld;go_wp2_with fail;go_roundw;case rel=>exact⟨i+1,aZ.o,by go_num,bW.o,bX.o⟩
     case measure=>have:=aZ.o;simp[intOf];omega
    ·obtain rfl:i=m:=(by omega);have bU:(i:Int)<=(i:Int):=iK _;rw[aY (by rw[HM.o];exact ak _)]at c;rw[<-bJ.o]at c;obtain⟨aB,bC⟩:=ZQ c (ek.o.t f);clear c f;go_wp2_with fail;go_roundw;case rel=>exact⟨j+1,dC.o,by go_num,aB.o,bC.o⟩
     case measure=>have:=dC.o;simp[intOf];omega
  ·obtain rfl:j=n:=(by omega);have hi:(j:Int)<=(j:Int):=iK _;rw[aY (by rw[HN.o];exact ak _)]at c;obtain⟨_,z1,_,_⟩:=(show iy wr q0 35 [.slice Ax j cx,.slice Bx kn dx]from(f.block q0 bi.o).t ((cZ.o.block q0 bi.o).symm.t df.o)).two;obtain⟨X,bA⟩:=ZQ c f;obtain⟨lS,bD⟩:∃l,aT.uJ x.aS=l:=⟨_,rfl⟩;have eU:=aa (show(lS++aT.rU x.bH).length<=1099511627776 from by have:=HLEN.o;unfold aT.iU at this;rw[bD]at this;exact this);have eX:=aa (show aT.iU x=lS++aT.rU x.bH by unfold aT.iU;rw[bD]);rw[bD]at X;obtain⟨wo,eY⟩:∃wo:World,wo=wr:=⟨_,rfl⟩;subst eY;have bv:=aa (λl s W h1 h2 h3=>P9 B l s W h1 h2 h3);clear c f z0 bD;go_upto_region 13 with fail;go_loopw [43] (λv aQ=>∃k:Nat,k<=kn/\v=.int .i64 k/\Sz B (lS++aT.rU (x.bH.take k)) aQ/\Below B C aQ) (λv _=>kn-(intOf v).toNat);case atStart=>exact⟨0,aL _,rfl,by have:=X.o;simpa[aT.rU]using this,bA.o⟩
   case round=>
    obtain⟨k,eZ,rfl,c,f⟩:=hrel;by_cases N:k<kn
    ·have Z:k<x.bH.length:=(by rw[HK.o];exact N);obtain⟨b2,o2,eG,bP,⟨h,o,rfl,P⟩,E⟩:=jK.get (jK.aR av.o (S':=jQ B) (w':=wr) λb hb _=>⟨hb,f.block b (ax hb)⟩) Z;subst bP;have d0:=E 0 _ rfl;have d1:=E 1 _ rfl;have d2:=E 2 _ rfl;have dM:oC.size=3:=rfl;rw[dM]at d0 d1 d2;rw[fE]at d0;rw[<-iw]at d1 d2;have z:=dS.o _ (aN Z);have Q:aT.rU (x.bH.take (k+1))=aT.rU (x.bH.take k)++(43::((x.bH[k]).gL++[10])):=uA _ _ Z;have aU:=xx (λt:T=>43::(t.gL++[10])) x.bH (k+1);change(aT.rU (x.bH.take (k+1))).length<=(aT.rU x.bH).length at aU;obtain⟨y,hy⟩:∃y,x.bH[k]=y:=⟨_,rfl⟩;rw[hy]at d0 d1 d2 P z Q;have aV:=eU.o;obtain⟨p,R⟩:∃p,lS++aT.rU (x.bH.take k)=p:=⟨_,rfl⟩;have L:lS++aT.rU (x.bH.take (k+1))=p++(43::(y.gL++[10])):=(by rw[Q,<-R,dA]);have aA:(p++(43::(y.gL++[10]))).length<=1099511627776:=(by rw[<-L,aF];rw[aF]at aV;omega);rw[R]at c;obtain⟨d,U⟩:∃d:ByteArray,strOf y.gL=d:=⟨_,rfl⟩;have F:d.data.toList=y.gL:=(by rw[<-U];exact tH _);have aW:=yY z;have eH:d.size<=2400:=(by rw[nZ,F];exact aW);have J:d.size=y.gL.length:=(by rw[nZ,F]);have bS:=aa (show p.length+((⟨#[43]⟩:ByteArray)++d++(⟨#[10]⟩:ByteArray)).size<=1099511627776 by
      rw[iV,iV];show p.length+(1+d.size+1)<=_;simp only[aF,bu,fA]at aA;omega)
     have bT:=aa (show p++((⟨#[43]⟩:ByteArray)++d++(⟨#[10]⟩:ByteArray)).data.toList=lS++aT.rU (x.bH.take (k+1)) by rw[L,nV,nV,F];simp);have r:=af wr (.cells #[.int .i64 y.aC,.string y.aJ,.slice h y.ay.length o] 29);have u:=iy.new wr [.int .i64 y.aC,.string y.aJ,.slice h y.ay.length o] 29;obtain⟨aB,bC⟩:=ZQ (c.ag r) ((f.t (r.m (jo c.lt))));have aX:=aa (show Calls Tryz.prog 95 #[.agg #[.int .i64 y.aC,.string y.aJ,.slice h y.ay.length o]] (wr.alloc (.cells #[.int .i64 y.aC,.string y.aJ,.slice h y.ay.length o] 29)) λe w'=>e=.returned (.string d)/\Below (wr.alloc (.cells #[.int .i64 y.aC,.string y.aJ,.slice h y.ay.length o] 29)).heap.size (wr.alloc (.cells #[.int .i64 y.aC,.string y.aJ,.slice h y.ay.length o] 29)) w' by
      have:=Dr y (.agg #[.int .i64 y.aC,.string y.aJ,.slice h y.ay.length o]) (wr.alloc (.cells #[.int .i64 y.aC,.string y.aJ,.slice h y.ay.length o] 29)) (P.at.ag r) (aD (kZ z) (by decide));rw[aI z,U]at this;exact this)
     have eO:¬9223372036854775807<1+d.size:=(by omega);have eP:¬9223372036854775807<1+d.size+1:=(by omega);have aZ:=aa N;have bU:(k:Int)<(kn:Int):=(by omega);clear J E P z Q aU hy aV R L aA U F aW r c f Z N eZ dM;go_upto_region 15 with fail;generalize wr.alloc (.cells #[.int .i64 y.aC,.string y.aJ,.slice h y.ay.length o] 29)=A at u aB bC aX⊢;generalize wr.heap.size=G at u⊢;clear d0 d1 d2;have x1:=u.cell 0 rfl;have x2:=u.cell 1 rfl;have x3:=u.cell 2 rfl;clear u;go_wp2_with fail;refine aX.o.m ?_;rintro e w9 ⟨rfl,bE⟩;go_wp2_with fail;refine(bv.o p _ _ (aB.o.ag bE) bS.o (jo (aB.o.ag bE).lt)).m ?_;rintro e eT ⟨rfl,Y,bf,bV⟩;rw[bT.o]at Y;obtain⟨bW,bX⟩:=ZQ Y (((bC.o.t (bE.m (jo aB.o.lt))).t bf));clear Y bf bV bE x1 x2 x3;go_wp2_with fail;go_roundw;case rel=>exact⟨k+1,aZ.o,by go_num,bW.o,bX.o⟩
     case measure=>have:=aZ.o;simp[intOf];omega
    ·obtain rfl:k=kn:=(by omega);have bU:(k:Int)<=(k:Int):=iK _;rw[aY (by rw[HK.o];exact ak _),<-eX.o]at c;have dN:=aa (Tryz.Builder_String_any B B (aT.iU x) wr c (jo c.lt));obtain⟨TX,bY⟩:∃TX:ByteArray,(⟨(aT.iU x).toArray⟩:ByteArray)=TX:=⟨_,rfl⟩;rw[bY]at dN;obtain⟨fo,fq⟩:=ZQ f bY;clear c f bY z1;go_wp2_with fail;refine dN.o.m ?_;rintro e w6 ⟨rfl,dO⟩;have fu:=aa (fo.o.t dO);clear dO;go_wp2_with fail;go_ret;exact⟨by rw[fq.o];rfl,(dU.o.t (fu.o.m (by have:=HQ.o;have:=bi.o;omega)))⟩
end
section
open Go.RowKit T
def um(R:Option T)(ok:Bool)(k:Int)(nm:ByteArray)(A:Option Addr)(l c:Nat)(B:Nat)(w:World):Prop:=match R with
 |none=>ok=false
 |some u=>ok=true/\k=u.aC/\nm=u.aJ/\l=u.ay.length/\bN (eG B) w (.agg #[.int .i64 k,.string nm,.slice A l c]) u
theorem zZ{R:Option T}{w:World}{e:Ending}{w':World}(h:Xp R w e w'):∃(k:Int) (nm:ByteArray) (A:Option Addr) (l c:Nat) (ok:Bool),e=.returned (.tuple #[.agg #[.int .i64 k,.string nm,.slice A l c],.bool ok])/\Below w.heap.size w w'/\um R ok k nm A l c w.heap.size w':=by
 obtain⟨hb,h⟩:=h;cases R with
 |none=>
  obtain⟨A,c,e⟩:=h;exact⟨_,_,A,_,c,_,e,hb,rfl⟩
 |some u=>
  obtain⟨A,c,e,a⟩:=h;exact⟨_,_,A,_,c,_,e,hb,rfl,rfl,rfl,rfl,a⟩
theorem um.aR{R:Option T}{ok:Bool}{k:Int}{nm:ByteArray}{A:Option Addr}{l c B a:Nat}{w w':World}(h:um R ok k nm A l c B w)(d:a<=B)(e:∀b,B<=b->b<w.heap.size->w'.heap[b]?=w.heap[b]?):um R ok k nm A l c a w':=by
 cases R with
 |none=>exact h
 |some u=>
  obtain⟨f,g,i,j,m⟩:=h;exact⟨f,g,i,j,m.aR λb hb n=>⟨aQ (aD d (ax hb)),e b (ax hb) n⟩⟩
theorem um.ag{R:Option T}{ok:Bool}{k:Int}{nm:ByteArray}{A:Option Addr}{l c B:Nat}{w w':World}(h:um R ok k nm A l c B w)(hb:Below w.heap.size w w'):um R ok k nm A l c B w':=h.aR (ak _) λb _ a=>hb.block b a
theorem qG(w:World)(g:Nat)(x y z:Value)(b:Nat)(h:b≠g):(((w.setCell ⟨g,0,none⟩ x).setCell ⟨g,1,none⟩ y).setCell ⟨g,2,none⟩ z).heap[b]?=w.heap[b]?:=
 (aM _ _ _ _ h).t ((aM _ _ _ _ h).t (aM _ _ _ _ h))
def K8(R:Option T)(B:Nat)(w:World)(p a:Value):Prop:=∃(g:Nat) (k:Int) (nm:ByteArray) (A:Option Addr) (l c:Nat) (ok:Bool),p=.pointer (some ⟨g,0,none⟩)/\a=.bool ok/\B<=g/\iy w g 29 [.int .i64 k,.string nm,.slice A l c]/\um R ok k nm A l c B w
theorem K8.ag{R:Option T}{B:Nat}{w w':World}{p a:Value}(h:K8 R B w p a)(hb:Below w.heap.size w w'):K8 R B w' p a:=by
 obtain⟨g,k,nm,A,l,c,ok,b,d,e,f,i⟩:=h;exact⟨g,k,nm,A,l,c,ok,b,d,e,f.ag hb,i.ag hb⟩
theorem zK{p u:T}{b:List Bd}(h:kz p b=some u):u.fe=true:=by
 obtain⟨_,v,_,a,rfl⟩:=Ch h;exact Cx v a
theorem um.none_{R:Option T}{k:Int}{nm:ByteArray}{A:Option Addr}{l c B:Nat}{w:World}(h:um R false k nm A l c B w):R=none:=by
 cases R with
 |none=>rfl
 |some u=>obtain⟨a,_⟩:=h;cases a
theorem um.some_{R:Option T}{k:Int}{nm:ByteArray}{A:Option Addr}{l c B:Nat}{w:World}(h:um R true k nm A l c B w):∃u,R=some u/\k=u.aC/\nm=u.aJ/\l=u.ay.length/\bN (eG B) w (.agg #[.int .i64 k,.string nm,.slice A l c]) u:=by
 cases R with
 |none=>cases h
 |some u=>obtain⟨_,h⟩:=h;exact⟨u,rfl,h⟩
theorem gV.wide{α:Type}{E:El α}{S S':Nat->Bool}{base:Nat}{w:World}{v:Value}{L:List α}(h:gV E S base w v L)(hS:∀b,S b=true->S' b=true):gV E S' base w v L:=by
 obtain⟨dG,a,c⟩:=h;exact⟨dG,a.aR λb hb _=>⟨dX.2 ⟨hS b (dX.1 hb).1,(dX.1 hb).2⟩,rfl⟩,c⟩
def wL(w:World)(v:Value)(l:List iZ):Prop:=∃A c,v=.slice A l.length c/\l.length<=c/\c<=maxLen/\(l.length=0\/∃b off,A=some ⟨b,off,none⟩/\∀i (h:i<l.length),∃a d,w.cell? ⟨b,off+i*2,none⟩=some (.string l[i].1)/\w.cell? ⟨b,off+i*2+1,none⟩=some (.slice a l[i].2.length d)/\jm w a l[i].2/\l[i].2.length<=d)
theorem wL.strs{w:World}{v:Value}{l:List iZ}(h:wL w v l):yu w v l:=by
 obtain⟨A,c,e,d,f,a⟩:=h;refine⟨A,c,e,?_,d,f⟩;rcases a with a|⟨b,off,e,a⟩;·exact .inl a
 ·refine .inr ⟨b,off,e,λi hi=>?_⟩;obtain⟨g,j,k,m,n,_⟩:=a i hi;exact⟨g,j,k,m,n⟩
theorem wL.ag{w w':World}{v:Value}{l:List iZ}(h:wL w v l)(hb:Below w.heap.size w w'):wL w' v l:=by
 obtain⟨A,c,e,d,f,a⟩:=h;refine⟨A,c,e,d,f,?_⟩;rcases a with a|⟨b,off,e,a⟩;·exact .inl a
 ·refine .inr ⟨b,off,e,λi hi=>?_⟩;obtain⟨g,j,k,m,n,o⟩:=a i hi;exact⟨g,j,ae hb k,ae hb m,n.ag hb,o⟩
theorem wL.get{w:World}{A:Option Addr}{n c:Nat}{l:List iZ}(h:wL w (.slice A n c) l){i:Nat}(hi:i<l.length):∃b o A' a,A=some ⟨b,o,none⟩/\w.cell? ⟨b,o+i*2,none⟩=some (.string l[i].1)/\w.cell? ⟨b,o+i*2+1,none⟩=some (.slice A' l[i].2.length a)/\jm w A' l[i].2/\l[i].2.length<=a:=by
 obtain⟨p,q,e,_,_,d⟩:=h;injection e with f r s;subst f;rcases d with d|⟨b,off,e,d⟩;·omega
 ·obtain⟨A',a,g,j,k,m⟩:=d i hi;exact⟨b,off,A',a,e,g,j,k,m⟩
structure BF (x:jZ):Prop where
 gq:∀q∈x.aS,q.gq<100
 b:∀q∈x.aS,q.b.length<=1048576/\∀y∈q.b,y.t.fe=true/\y.var.size<=64
 bH:∀t∈x.bH,t.fe=true
 sl:x.aS.length<=1048576
 kl:x.bH.length<=1048576
 len:(aT.iU x).length<=1099511627776
theorem LK{α β:Type}(f:α->List β){l:List α}{a:α}(h:a∈l):(f a).length<=(l.flatMap f).length:=by
 induction l with
 |nil=>cases h
 |cons b r c=>
  rw[lZ,aF];rcases bL.1 h with rfl|h;·omega
  ·have:=c h;omega
theorem BF.kn{x:jZ}(h:BF x):BF ⟨[],x.bH⟩:=by
 refine⟨λq a=>absurd a dY,λq a=>absurd a dY,h.bH,aL _,h.kl,?_⟩;have b:=h.len;have e:aT.iU ⟨[],x.bH⟩=aT.rU x.bH:=rfl;rw[e];unfold aT.iU at b;rw[aF]at b;omega
theorem BF.one{x:jZ}(h:BF x){q:pF}(a:q∈x.aS):BF ⟨[q],[]⟩:=by
 refine⟨λp c=>by rw[aX.1 c];exact h.gq q a,λp c=>by rw[aX.1 c];exact h.b q a,λt f=>absurd f dY,by show 1<=_;omega,aL _,?_⟩;have d:=h.len;have g:=LK (λq:pF=>aT.itoa q.gq++10::aT.pG q.b) a;have e:(aT.iU ⟨[q],[]⟩).length=(aT.itoa q.gq++10::aT.pG q.b).length:=(by simp[aT.iU,aT.uJ,aT.rU]);rw[e];unfold aT.iU at d;rw[aF]at d;unfold aT.uJ at d;omega
theorem Gd(x:jZ)(a:Value)(w:World)(h:BF x)(c:qi mf w a x):Calls Tryz.prog 46 #[a] w λe w'=>e=.returned (.string ⟨(aT.iU x).toArray⟩)/\Below w.heap.size w w':=
 Y2 x a w c h.gq h.b h.bH h.sl h.kl h.len
structure zb (s:List iZ):Prop where
 sl:s.length<=16
 ml:∀st∈s,st.2.length<=16
 pat:∀st∈s,∀m∈st.2,m.2.bC<=1048576/\(vars m.2).length<=100000/\∀v∈vars m.2,v.size<=64
structure zH (s:List iZ) (x:jZ):Prop where
 fit:x.Fit s
 few:aT.Gi s x
 ZH:WU x
 kl:x.bH.length<=64
theorem zb.next{s:List iZ}(a:zb s){x:jZ}{i:Nat}{m:Int×T}(h:aT.next s x i=some m):m.2.bC<=1048576/\(vars m.2).length<=100000/\∀v∈vars m.2,v.size<=64:=by
 obtain⟨st,q,b,_,c⟩:=nX h;exact a.pat st (eT b) m (eT c)
theorem zH.gq{s:List iZ}{x:jZ}(h:zH s x)(b:zb s):∀q∈x.aS,q.gq<=16:=λq c=>by
 obtain⟨i,hi,rfl⟩:=bI c;have a:i<s.length:=(by rw[<-h.fit.len];exact hi);have d:=h.fit.gq i _ _ (aH hi) (aH a);have e:=b.ml _ (aN a);omega
theorem zH.Xz{s:List iZ}{x:jZ}(h:zH s x)(d:zb s):∀q∈x.aS,q.b.length<=640/\∀y∈q.b,y.t.fe=true/\y.t.bC<=800/\y.var.size<=64:=λq a=>by
 have e:=h.ZH q a;have f:=h.gq d q a;refine⟨by omega,λy hy=>?_⟩;have c:=qF (h.fit.b q a) y hy;have g:=MM c.1;exact⟨T.iJ c.2,kZ (T.iJ c.2),by rw[nZ];omega⟩
theorem zH.ZB{s:List iZ}{x:jZ}(h:zH s x)(a:zb s):Pn s x where
 fit:=h.fit
 few:=h.few
 Xz q b:=by
  obtain⟨f,c⟩:=h.Xz a q b;exact⟨by omega,λy hy=>by have:=(c y hy).2.1;omega⟩
 pat i m d:=a.next d
 ml st e:=by have:=a.ml st e;omega
 sl:=by have:=a.sl;omega
theorem zH.txt{s:List iZ}{x:jZ}(h:zH s x)(a:zb s):BF x where
 gq q c:=by have:=h.gq a q c;omega
 b q c:=by
   obtain⟨f,d⟩:=h.Xz a q c;exact⟨by omega,λy hy=>⟨(d y hy).1,(d y hy).2.2⟩⟩
 bH t e:=T.iJ (h.fit.bH t e)
 sl:=by have:=h.fit.len;have:=a.sl;omega
 kl:=by have:=h.kl;omega
 len:=by have:=Sm h.fit h.ZH a.ml a.sl h.kl;omega
theorem jK.one{α:Type}{E:El α}{S:Nat->Bool}{w:World}{b o n cap c:Nat}{L:List α}(h:jK E S w (.slice (some ⟨b,o,none⟩) n cap) L){i:Nat}(hi:i<L.length)(k:1<=c)(l:c<=maxLen):jK E S w (.slice (some ⟨b,o+i*E.size,none⟩) 1 c) [L[i]]:=by
 obtain⟨r,s,e,t,v,m⟩:=h;injection e with a x y;subst a;rcases m with h0|⟨b',z,dG,a,hS,d,p⟩;·omega
 ·injection a with a;injection a with a q;subst a;subst q;have f:i<dG.length:=(by rw[d.1];exact hi);refine⟨_,c,rfl,k,l,.inr ⟨b,o+i*E.size,[dG[i]],rfl,hS,El.all.push El.all.nil (d.2 i f hi),λj u hu=>?_⟩⟩;have g:dG[i][j]?=some u:=(by simpa using hu);have hj:j<E.size:=(by rw[<-E.len (d.2 i f hi)];exact(bg.1 g).1);have:=p (i*E.size+j) u (by rw[d.flat f hj];exact g);rw[iw];exact this
def xm(R:Option (Int×T))(ok:Bool)(mk k:Int)(nm:ByteArray)(A:Option Addr)(l c:Nat)(w:World):Prop:=match R with
 |none=>ok=false
 |some m=>ok=true/\mk=m.1/\k=m.2.aC/\nm=m.2.aJ/\l=m.2.ay.length/\aO w (.agg #[.int .i64 k,.string nm,.slice A l c]) m.2
theorem Ga{R:Option (Int×T)}{a w:World}{e:Ending}{w':World}(h:Gn R a w e w'):∃(mk k:Int) (nm:ByteArray) (A:Option Addr) (l c:Nat) (ok:Bool),e=.returned (.tuple #[.agg #[.int .i64 mk,.int .i64 k,.string nm,.slice A l c],.bool ok])/\Below w.heap.size w w'/\xm R ok mk k nm A l c a:=by
 obtain⟨hb,h⟩:=h;cases R with
 |none=>exact⟨_,_,_,_,_,_,_,h,hb,rfl⟩
 |some m=>
  obtain⟨A,c,e,b⟩:=h;exact⟨_,_,_,A,_,c,_,e,hb,rfl,rfl,rfl,rfl,rfl,b⟩
theorem xm.ag{R:Option (Int×T)}{ok:Bool}{mk k:Int}{nm:ByteArray}{A:Option Addr}{l c:Nat}{w w':World}(h:xm R ok mk k nm A l c w)(hb:Below w.heap.size w w'):xm R ok mk k nm A l c w':=by
 cases R with
 |none=>exact h
 |some m=>
  obtain⟨a,b,d,e,f,g⟩:=h;exact⟨a,b,d,e,f,g.ag hb⟩
theorem xm.none_{R:Option (Int×T)}{mk k:Int}{nm:ByteArray}{A:Option Addr}{l c:Nat}{w:World}(h:xm R false mk k nm A l c w):R=none:=by
 cases R with
 |none=>rfl
 |some m=>obtain⟨a,_⟩:=h;cases a
theorem xm.some_{R:Option (Int×T)}{mk k:Int}{nm:ByteArray}{A:Option Addr}{l c:Nat}{w:World}(h:xm R true mk k nm A l c w):∃m,R=some m/\mk=m.1/\k=m.2.aC/\nm=m.2.aJ/\l=m.2.ay.length/\aO w (.agg #[.int .i64 k,.string nm,.slice A l c]) m.2:=by
 cases R with
 |none=>cases h
 |some m=>obtain⟨_,h⟩:=h;exact⟨m,rfl,h⟩
def Yy(R:Option (Int×T))(B:Nat)(w:World)(p a:Value):Prop:=∃(g:Nat) (mk k:Int) (nm:ByteArray) (A:Option Addr) (l c:Nat) (ok:Bool),p=.pointer (some ⟨g,0,none⟩)/\a=.bool ok/\B<=g/\iy w g 31 [.int .i64 mk,.int .i64 k,.string nm,.slice A l c]/\xm R ok mk k nm A l c w
def xo(v:Value):Nat->Bool:=λb=>!(v.ownBlock==some b)
theorem yZ{v:Value}{b:Nat}:xo v b=true<->v.ownBlock≠some b:=by
 unfold xo;rw[bZ,aB]
end
section
open Go.RowKit Go.Maps T
section
variable {X:Nat->Bool} {s:List iZ} {sv:Value} {B g Mn Ma Mg N NA:Nat} {w w' w'':World} {fv Da Q4:Value} {v:aT.xD} {KS:List (List UInt8)}
theorem kK.look(h:kK X s sv B g Mn Ma Mg N NA w fv v KS)(k:ByteArray)(b:k.size<=maxLen):∃(A:Option Addr) (n c:Nat) (ok:Bool),(Instr.lookup 93 (.map (some Mg)) (.string k) true).run Tryz.prog w=.ok (.tuple #[.slice A n c,.bool ok]) w/\(ok=true->∃l,SF s k.data.toList l/\jK oC (sx X g Mn Ma Mg fv) w (.slice A n c) l):=by
 obtain⟨n,F,d,m,f⟩:=h.bJ;have a:=d.look_ok vR Tryz.underlying93 (z:=.slice none 0 0) (xP w) (He k b);cases hF:F (zQ k)with
 |none=>exact⟨none,0,0,false,by rw[a,hF];rfl,λe=>by cases e⟩
 |some u=>
  obtain⟨l,i,hi⟩:=f k u hF;obtain⟨A,c,rfl,j⟩:=hi;exact⟨A,_,c,true,by rw[a,hF];rfl,λ_=>⟨l,i,A,c,rfl,j⟩⟩
theorem kK.Xe(h:kK X s sv B g Mn Ma Mg N NA w fv v KS){i k:Nat}(hi:i<=1048576)(d:k<=1048576):∃(A:Option Addr) (n c:Nat),∀W,Below w.heap.size w W->(Instr.lookup 92 (.map (some Ma)) (.agg #[.int .i64 i,.int .i64 k]) true).run Tryz.prog W=.ok (.tuple #[.slice A n c,.bool (v.ow.lookup (i,k)).isSome]) W:=by
 obtain⟨n,F,f,o,j⟩:=h.ow;have b:=j i k hi d;cases a:v.ow.lookup (i,k)with
 |none=>
  rw[a]at b;refine⟨none,0,0,λW e=>?_⟩;have a:=(f.ag e).look_ok zS ou (z:=.slice none 0 0) (o6 W) (Ml hi d);rw[a,b];rfl
 |some l=>
  rw[a]at b;obtain⟨u,m,A,c,rfl,_⟩:=b;refine⟨A,l.length,c,λW e=>?_⟩;have a:=(f.ag e).look_ok zS ou (z:=.slice none 0 0) (o6 W) (Ml hi d);rw[a,m];rfl
theorem kK.YR(h:kK X s sv B g Mn Ma Mg N NA w fv v KS)(k:ByteArray)(a:k.size<=maxLen):∃u,(Instr.lookup 91 (.map (some Mn)) (.string k) true).run Tryz.prog w=.ok (.tuple #[u,.bool (KS.any λq=>decide (q=k.data.toList))]) w:=by
 obtain⟨n,F,b,e,c⟩:=h.nums;have d:=b.look_ok vR oq (z:=.int .i64 0) (ji w) (He k a);exact⟨_,by rw[d,c]⟩
theorem V9{base:Nat}{o:Value}{L:List oF}(h:gV CG (uk g Mn Ma Mg fv) base w o L)(a:∀b,base<=b->uk g Mn Ma Mg fv b=true)(k:xC B g Mn Ma Mg w fv w' fv):gV CG (uk g Mn Ma Mg fv) base w' o L:=
 h.aR λb hb c=>(k.aR b (hb.elim (λe=>e) (λe=>a b (h.block b e).1)) c).2
theorem xC.grown{own:Option Nat}(k:xC B g Mn Ma Mg w fv w' fv)(a:B<=w.heap.size)(c:w'.grownBy w'' own)(d:∀q,own=some q->w.heap.size<=q):xC B g Mn Ma Mg w fv w'' fv:=
 ⟨k.below.grown c (aD a k.below.size) (λq h=>aD a (d q h)),λb hb f=>by
   obtain⟨i,j⟩:=k.aR b hb f;exact⟨i,(c.block b (dF f k.below.size) (λe=>by have:=d b e.symm;omega)).t j⟩⟩
theorem KH(A:Option Addr)(n c:Nat):(Value.slice A n c).ownBlock=A.map (·.block):=by cases A<;>rfl
theorem kK.app{ov Dv:Value}{base:Nat}(h:kK (xo ov) s sv B g Mn Ma Mg N NA w fv v KS)(o:∀b,base<=b->uk g Mn Ma Mg fv b=true)(z:B<=base)(j:∀q,ov.ownBlock=some q->base<=q)(k:w.grownBy w' ov.ownBlock)(l:Dv.ownBlock=ov.ownBlock\/Dv.ownBlock=some w.heap.size)(hb:base<=w.heap.size)(p:∀q,Dv.ownBlock=some q->q<w'.heap.size):
 kK (xo Dv) s sv B g Mn Ma Mg N NA w' fv v KS/\∀b,sx (xo ov) g Mn Ma Mg fv b=true->b<w.heap.size->sx (xo Dv) g Mn Ma Mg fv b=true/\w'.heap[b]?=w.heap[b]?:=by
 have m:∀b,xo ov b=true->b<w.heap.size->xo Dv b=true/\w'.heap[b]?=w.heap[b]?:=λb n c=>by
  refine⟨yZ.2 λe=>?_,k.block b c (λe=>yZ.1 n e.symm)⟩;rcases l with d|d;·exact yZ.1 n (d.symm.t e)
  ·rw[d]at e;injection e with e;omega
 have d:∀q,Dv.ownBlock=some q->base<=q:=λq e=>by
  rcases l with f|f;·exact j q (f.symm.t e)
  ·rw[f]at e;injection e with e;omega
 have f:∀b,uk g Mn Ma Mg fv b=false->b<w.heap.size->w'.heap[b]?=w.heap[b]?:=λb a c=>k.block b c λe=>by
  rw[o b (j b e.symm)]at a;cases a
 have r:∀b,(b=g\/b=Mn\/b=Ma\/b=Mg\/fv.ownBlock=some b)->uk g Mn Ma Mg fv b=false:=λb hb=>by
  cases a:uk g Mn Ma Mg fv b with
  |false=>rfl
  |true=>
   obtain⟨_,t,a2,a3,a4,a5⟩:=nQ.1 a;rcases hb with e|e|e|e|e;·exact absurd e t
   ·exact absurd e a2
   ·exact absurd e a3
   ·exact absurd e a4
   ·exact absurd e a5
 have u:∀b,(b=g\/b=Mn\/b=Ma\/b=Mg\/fv.ownBlock=some b)->b<w.heap.size:=λb hb=>by
  rcases hb with rfl|rfl|rfl|rfl|e;·exact h.box.lt
  ·exact h.nums.lt
  ·exact h.ow.lt
  ·exact h.bJ.lt
  ·exact(h.jb.block b e).2
 refine⟨h.turn (λb a c=>m b (nQ.1 a).1 c) (λb i=>f b (r b i) (u b i)) (λb i=>yZ.2 λe=>by have:=p b e;omega) (λb i=>yZ.2 λe=>by have:=d b e;omega),λb a c=>?_⟩;obtain⟨x,y⟩:=m b (nQ.1 a).1 c;exact⟨nQ.2 ⟨x,(nQ.1 a).2⟩,y⟩
end
end
section
open Go.RowKit Go.Sort
def C4:Type:={ xs:List Value // xs.length=4/\∀u∈xs,u.oneCell'=true }
instance:Inhabited C4:=⟨⟨[.int .i64 0,.int .i64 0,.int .i64 0,.int .i64 0],rfl,λu hu=>by simp at hu;rw[hu];rfl⟩⟩
def C4.enc(x:C4):List Value:=x.1
theorem QY(l:List C4){i r:Nat}(hi:i<l.length)(a:r<4):((l.map C4.enc).flatten)[i*4+r]?=(l[i].enc)[r]?:=by
 have:=AV (l.map C4.enc) (λcs b=>by obtain⟨x,_,rfl⟩:=dB.1 b;exact x.2.1) i (by rw[df];exact hi) r a;rw[this,gz]
theorem Jt:∀l:List C4,((l.map C4.enc).flatten).length=l.length*4
 |[]=>rfl
 |x::r=>by
  have a:x.enc.length=4:=x.2.1;rw[gP,gy,aF,Jt r,bu,a];omega
theorem GQ(l:List C4):(flatK C4.enc 4 l.toArray).toList=(l.map C4.enc).flatten:=by
 apply qL;intro t;rcases cu t (l.length*4)with h|h
 ·have a:t<(flatK C4.enc 4 l.toArray).size:=(by rw[size_flatK];simpa using h);have hi:t / 4<l.length:=(by omega);have e:t / 4*4+t % 4=t:=(by omega);have b:=QY l hi (show t % 4<4 by omega);rw[e]at b;rw[b,lJ,fO a];have c:=get_flatK C4.enc 4 l.toArray t (by simpa using h);rw[iE _ t a]at c;rw[c,iE l.toArray (t / 4) (by simpa using hi)];have d:l[t / 4].enc.length=4:=l[t / 4].2.1;rw[aH (by omega)];simp only[List.getElem_toArray];rw[iE _ _ (by omega)]
 ·rw[ig (by rw[lh,size_flatK];simpa using h),ig (by rw[Jt];exact h)]
theorem Uo{S:Nat->Bool}{base cap:Nat}{A:Option Addr}{L:List oF}(w:World)(h:gV CG S base w (.slice A L.length cap) L)(h0:0<L.length)(X:L.length<=1048576):
 Calls Tryz.prog 139 #[.slice A L.length cap] w λe w'=>e=.returned (.tuple #[])/\gV CG S base w' (.slice A L.length cap) L.reverse/\w.grownBy w' (Value.slice A L.length cap).ownBlock:=by
 obtain⟨dG,d,q⟩:=h;have r:=q;obtain⟨Y,Z|⟨g,aa,s,e,hb,J,t,K,m,M⟩⟩:=q;·omega
 ·injection e with N e2 O;subst N;subst O;have v:∀i:Fin dG.length,∃x:C4,x.enc=dG[i]:=λi=>⟨⟨dG[i],d.len _ (aN _),λu hu=>CG.one (d.2 i.1 i.2 (by rw[<-d.1];exact i.2)) u hu⟩,rfl⟩;obtain⟨c,y⟩:∃c:List C4,c=List.ofFn (λi:Fin dG.length=>(v i).choose):=⟨_,rfl⟩;have l:c.length=L.length:=(by rw[y,List.length_ofFn,d.1]);have z:c.map C4.enc=dG:=by
   apply sI;·rw[df,l,d.1]
   ·intro j h1 Q;rw[gz];subst y;rw[List.getElem_ofFn];exact(v ⟨j,Q⟩).choose_spec
  have B:=GQ c;rw[z]at B;have hH:HoldsK C4.enc 4 w g 0 c.toArray:=λj hj=>by
   rw[size_flatK]at hj;have R:j<L.length*4:=(by simpa[l]using hj);refine⟨?_,by rw[dJ];exact r.frozenAt j⟩;rw[dJ,r.cellAt j R,<-B,lJ];have C:j<(flatK C4.enc 4 c.toArray).size:=(by rw[size_flatK];exact hj);rw[fO C,id,iE _ j C]
  have D:c.toArray.size=L.length:=(by simp[l]);have E:=AnyQ.slices_Reverse (P:=Tryz.prog) Tryz.YQ 4 (λw=>Tryz.isAgg61 w) (λw=>Tryz.sizeOf61 w) C4.enc (λx=>x.2.1) (λx=>x.2.2) g 0 cap c.toArray w hH (by rw[D];omega);rw[D]at E;refine E.m ?_;rintro e w' ⟨rfl,n,rfl⟩;have T:(putRowK C4.enc 4 (Sort.ahead w n) g 0 c.toArray.reverse).heap[g]?=some (.cells (putCells id 0 (flatK C4.enc 4 c.toArray.reverse) s) 61 (0,0)):=by
   show(w.heap.modify g _)[g]?=_;rw[ed,aI rfl,J];rfl
  have F:∀k,k≠g->(putRowK C4.enc 4 (Sort.ahead w n) g 0 c.toArray.reverse).heap[k]?=w.heap[k]?:=λk o=>by
   show(w.heap.modify g _)[k]?=_;rw[ed,aG (jN o)]
  have G:c.toArray.reverse=c.reverse.toArray:=(by simp);have U:w.grownBy (putRowK C4.enc 4 (Sort.ahead w n) g 0 c.toArray.reverse) (some g):=⟨rfl,rfl,rfl,by rw[size_putRowK];exact ak _,λk _ o=>F k (λe=>o (by rw[e]))⟩;have p:=GQ c.reverse;rw[List.map_reverse,z]at p;have H:dG.length=L.length:=d.1;refine⟨rfl,⟨dG.reverse,?_,?_⟩,U⟩
  ·refine El.all.aR (w:=w) (S:=off S (some g)) ⟨by rw[iq,iq,H],λi a b=>?_⟩ λb I ae=>⟨I,F b (λe=>(dX.1 I).2 (by rw[e]))⟩;rw[zy,zy];have:=d.2 (dG.length-1-i) (by rw[iq]at a;omega) (by rw[iq]at a;omega);simp only[H]at this⊢;exact this
  ·rw[iq];have f:(flatK C4.enc 4 c.toArray.reverse).size=L.length*4:=(by rw[size_flatK];simp[l]);refine⟨?_,.inr ⟨g,cap,_,rfl,hb,T,t,K,?_,?_⟩⟩;·rw[<-p,lh,<-G];exact f
   ·unfold putCells;rw[Array.size_mapIdx];exact m
   ·have V:CG.size=4:=rfl;rw[V]at m M⊢;rw[<-p,<-G];apply qL;intro j;rw[ic];split
    ·rename_i hj;rw[lJ,lJ];have W:j<s.size:=(by rw[m];exact dF hj (iC 4 t));unfold putCells;rw[rY,fO W,jh,aI ⟨aL _,by rw[f];omega⟩,Nat.sub_zero,id,fO (by rw[f];exact hj),iE _ j (by rw[f];exact hj)]
    ·rename_i hj;rw[ig (by rw[lh,f];omega)]
end
end Go.Proofs.YtaciciokmpbkkaaGreatDoor
