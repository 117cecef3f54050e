import Derived.Test.YtaciciokmpbkkaaGreatDoorWebG1
import Derived.Deep.RegionLaw
import Derived.Deep.DrawnRows
import Derived.Deep.DeepCutAuto
set_option maxRecDepth 100000
set_option maxHeartbeats 16000000
namespace Go.Proofs.YtaciciokmpbkkaaGreatDoor
section
open Go.RowKit
def only(w:World)(S:Nat->Bool):World:={ w with heap:=w.heap.mapIdx λi o=>if S i=true then o else .cells #[] 0 (0,0) }
theorem fM(w:World)(S:Nat->Bool)(p:Addr):(only w S).cell? p=if S p.block=true then w.cell? p else none:=by
 unfold World.cell? only
 simp only[rY];cases h:w.heap[p.block]? with
 |none=>simp
 |some o=>
  by_cases hS:S p.block=true;·simp[hS]
  ·simp[hS]
def bN(S:Nat->Bool)(w:World)(v:Value)(t:T):Prop:=aO (only w S) v t
theorem bN.at{S:Nat->Bool}{w:World}{v:Value}{t:T}(h:bN S w v t):aO w v t:=
 aO.aR h λp a=>by
  rw[fM]at a⊢;split at a;·rename_i hS;rw[aI hS]
  ·cases a
theorem bN.aR{S S':Nat->Bool}{w w':World}{v:Value}{t:T}(h:bN S w v t)(c:∀b,S b=true->b<w.heap.size->S' b=true/\w'.heap[b]?=w.heap[b]?):bN S' w' v t:=
 aO.aR h λp a=>by
  rw[fM]at a;rw[fM,fM];split at a
  ·rename_i hS;obtain⟨v,d⟩:=eO.1 a;obtain⟨e,f⟩:=c _ hS (eP w p d);rw[aI hS,aI e];exact dD f
  ·cases a
theorem aO.uf{w:World}{v:Value}{t:T}(h:aO w v t):bN (λb=>decide (b<w.heap.size)) w v t:=
 aO.aR h λp a=>by
  obtain⟨v,c⟩:=eO.1 a;rw[fM,aI (aQ (eP w p c))]
def eG(B:Nat):Nat->Bool:=λb=>decide (B<=b)
def but(B:Nat)(g:Option Nat):Nat->Bool:=λb=>decide (B<=b)&&!(g==some b)
theorem ja{B:Nat}{g:Option Nat}{b:Nat}:but B g b=true<->B<=b/\g≠some b:=by
 unfold but;rw[ai,bW,bZ,aB]
def vE(w:World)(base g cap:Nat)(L:List T):Prop:=
 ∃a:Array Value,w.heap[g]?=some (.cells a 29 (0,0))/\a.size=cap*3/\L.length<=cap/\cap<=maxLen/\base<=g/\
  ∀i (h:i<L.length),∃b c d,a[i*3]?=some b/\a[i*3+1]?=some c/\a[i*3+2]?=some d/\bN (but base (some g)) w (.agg #[b,c,d]) L[i]
def bK(w:World)(base:Nat)(v:Value)(L:List T):Prop:=
 (v=.slice none 0 0/\L=[])\/∃g cap,v=.slice (some ⟨g,0,none⟩) L.length cap/\vE w base g cap L
theorem bK.nil(w:World)(base:Nat):bK w base (.slice none 0 0) []:=.inl ⟨rfl,rfl⟩
theorem vE.aR{w w':World}{base g cap:Nat}{L:List T}(h:vE w base g cap L)(e:∀b,base<=b->b<w.heap.size->w'.heap[b]?=w.heap[b]?):vE w' base g cap L:=by
 obtain⟨k,f,l,m,n,j,o⟩:=h;refine⟨k,?_,l,m,n,j,λi hi=>?_⟩;·rw[e g j (aZ.1 f).1];exact f
 ·obtain⟨u0,u1,u2,a,b,c,d⟩:=o i hi;exact⟨u0,u1,u2,a,b,c,d.aR λb hb p=>⟨hb,e b (ja.1 hb).1 p⟩⟩
theorem bK.aR{w w':World}{base:Nat}{v:Value}{L:List T}(h:bK w base v L)(a:∀b,base<=b->b<w.heap.size->w'.heap[b]?=w.heap[b]?):bK w' base v L:=by
 rcases h with h|⟨g,cap,rfl,h⟩;·exact .inl h
 ·exact .inr ⟨g,cap,rfl,h.aR a⟩
theorem bK.ag{w w':World}{base:Nat}{v:Value}{L:List T}(h:bK w base v L)(hb:Below w.heap.size w w'):bK w' base v L:=h.aR λb _ a=>hb.block b a
theorem bK.shape{w:World}{base:Nat}{v:Value}{L:List T}(h:bK w base v L):∃A cap,v=.slice A L.length cap/\L.length<=cap/\cap<=maxLen:=by
 rcases h with⟨rfl,rfl⟩|⟨g,cap,rfl,c,_,_,a,b,_⟩;·exact⟨none,0,rfl,ak _,aL _⟩
 ·exact⟨_,cap,rfl,a,b⟩
theorem bK.block{w:World}{base:Nat}{v:Value}{L:List T}(h:bK w base v L):∀k,v.ownBlock=some k->base<=k/\k<w.heap.size:=by
 intro k a;rcases h with⟨rfl,rfl⟩|⟨g,cap,rfl,d,b,_,_,_,c,_⟩;·cases a
 ·injection a with a;subst a;exact⟨c,(aZ.1 b).1⟩
theorem bK.term{w:World}{base:Nat}{v:Value}{L:List T}(h:bK w base v L)(k:Int)(s:ByteArray)(m: -9223372036854775808<=k/\k<=9223372036854775807)(n:s.size<=maxLen):
 bN (eG base) w (.agg #[.int .i64 k,.string s,v]) (.mk k s L):=by
 rcases h with⟨rfl,rfl⟩|⟨g,cap,rfl,f,t,A,x,y,z,o⟩;·exact aO.mk k s none 0 [] (λ_=>(undef,undef,undef)) m n (ak _) (aL _) (.inl rfl) (λi h=>by simp at h)
 ·have l:∀j u,f[j]?=some u->(only w (eG base)).cell? ⟨g,j,none⟩=some u:=λj u hu=>by
   rw[fM,aI (by unfold eG;exact aQ z)];simp[World.cell?,t,hu]
  refine aO.mk k s (some ⟨g,0,none⟩) cap L (λi=>(f.getD (i*3) undef,f.getD (i*3+1) undef,f.getD (i*3+2) undef)) m n x y (.inr ⟨g,0,rfl,λi hi=>?_⟩) (λi hi=>?_)
  ·obtain⟨p,q,r,a,b,c,d⟩:=o i hi;rw[dJ];refine⟨(l _ _ a).t ?_,(l _ _ b).t ?_,(l _ _ c).t ?_⟩;·simp[Array.getD_eq_getD_getElem?,a]
   ·simp[Array.getD_eq_getD_getElem?,b]
   ·simp[Array.getD_eq_getD_getElem?,c]
  ·obtain⟨p,q,r,a,b,c,d⟩:=o i hi;have e:(Value.agg #[f.getD (i*3) undef,f.getD (i*3+1) undef,f.getD (i*3+2) undef])=.agg #[p,q,r]:=by
    simp[Array.getD_eq_getD_getElem?,a,b,c]
   show aO _ (Value.agg #[f.getD (i*3) undef,f.getD (i*3+1) undef,f.getD (i*3+2) undef]) _;rw[e];exact d.aR (S':=eG base) λb hb _=>⟨aQ (ja.1 hb).1,rfl⟩
theorem bK.owns{w:World}{base:Nat}{v:Value}{L:List T}(h:bK w base v L):∃xs,w.ownsRow base 29 3 v L.length xs/\
 (∀i (h:i<L.length),∃u0 u1 u2,xs[i*3]?=some u0/\xs[i*3+1]?=some u1/\xs[i*3+2]?=some u2/\bN (but base v.ownBlock) w (.agg #[u0,u1,u2]) L[i]):=by
 rcases h with⟨rfl,rfl⟩|⟨g,cap,rfl,e,j,f,k,l,m,n⟩;·exact⟨[],gZ _ _ _ _,λi h=>by simp at h⟩
 ·refine⟨e.toList.take (L.length*3),⟨?_,.inr ⟨g,cap,e,rfl,m,j,k,l,f,rfl⟩⟩,λi hi=>?_⟩
  ·have o:e.toList.length=cap*3:=(by simpa using f);rw[aW];exact iP (by omega)
  ·obtain⟨u0,u1,u2,a,b,c,d⟩:=n i hi;refine⟨u0,u1,u2,?_,?_,?_,d⟩;all_goals rw[ic,aI (by omega)];simpa
theorem bK.snoc{w w':World}{base g cap H:Nat}{v:Value}{L:List T}{xs:List Value}{u0 u1 u2:Value}{t:T}
 (o:∀i (h:i<L.length),∃u0 u1 u2,xs[i*3]?=some u0/\xs[i*3+1]?=some u1/\xs[i*3+2]?=some u2/\bN (but base v.ownBlock) w (.agg #[u0,u1,u2]) L[i]) (d:xs.length=L.length*3)
 (p:bN (but base v.ownBlock) w (.agg #[u0,u1,u2]) t)
 (q:w'.ownsRow base 29 3 (.slice (some ⟨g,0,none⟩) (L.length+1) cap) (L.length+1) (xs++[u0,u1,u2])) (r:w.grownBy w' v.ownBlock) (s:v.ownBlock=some g\/g=H) (hH:w.heap.size=H):
 bK w' base (.slice (some ⟨g,0,none⟩) (L.length+1) cap) (L++[t]):=by
 have l:∀b,but base v.ownBlock b=true->b<w.heap.size->but base (some g) b=true/\w'.heap[b]?=w.heap[b]?:=λb hb x=>by
  obtain⟨f,c⟩:=ja.1 hb;refine⟨ja.2 ⟨f,λe=>?_⟩,r.block b x (λe=>c e.symm)⟩;injection e with e;subst e;rcases s with h|h;·exact c h
  ·omega
 obtain⟨J,y⟩:=q;rcases y with⟨h,_⟩|⟨K,M,m,n,z,f,A,B,c,C⟩;·cases h
 ·simp only[q9,iD,Bw,Gu,Aw]at n;obtain⟨rfl,rfl⟩:=n;have a:∀j u,(xs++[u0,u1,u2])[j]?=some u->m[j]?=some u:=λj u hu=>by
   rw[<-C,ic]at hu;split at hu;·simpa using hu
   ·cases hu
  refine .inr ⟨g,cap,by rw[aF];rfl,m,f,c,by rw[aF];exact A,B,z,λi hi=>?_⟩;rcases cu i L.length with k|k
  ·obtain⟨a0,D,a2,E,F,G,b3⟩:=o i k;refine⟨a0,D,a2,a _ _ ?_,a _ _ ?_,a _ _ ?_,?_⟩;·rw[bP (by omega)];exact E
   ·rw[bP (by omega)];exact F
   ·rw[bP (by omega)];exact G
   ·rw[dH k];exact b3.aR l
  ·have I:i=L.length:=(by simp at hi;omega);subst I;refine⟨u0,u1,u2,a _ _ ?_,a _ _ ?_,a _ _ ?_,?_⟩;·rw[bD (by omega),d];simp
   ·rw[bD (by omega),d];simp
   ·rw[bD (by omega),d];simp
   ·rw[dm (ak _)];simpa using p.aR l
theorem bN.one{S:Nat->Bool}{w:World}{a b c:Value}{t:T}(h:bN S w (.agg #[a,b,c]) t):∀u∈[a,b,c],u.oneCell'=true:=by
 obtain⟨rfl,rfl,A,cap,rfl⟩:=aO.view h;intro u hu;simp at hu;rcases hu with rfl|rfl|rfl<;>rfl
theorem bN.view{S:Nat->Bool}{w:World}{v:Value}{t:T}(h:bN S w v t):∃A cap,v=.agg #[.int .i64 t.aC,.string t.aJ,.slice A t.ay.length cap]:=by
 cases h;exact⟨_,_,rfl⟩
theorem Tryz.uI:(Tryz.prog.info? 29).map (λi=>(i.zero,i.size,i.bytes))=some (some (.agg #[.int .i64 0,.string ByteArray.empty,.slice none 0 0]),3,48):=by kernel_rfl
namespace T
def o8(x:T):List T->List T
 |[]=>[x]
 |y::r=>if cmp x y<0 then y::o8 x r else x::y::r
def nT(l:List T):List T:=(l.foldl (λa x=>o8 x a) []).reverse
mutual
def fK:T->T
 |.mk k s a=>.mk k s (if k=7 then nT (gJ a) else gJ a)
def gJ:List T->List T
 |[]=>[]
 |t::r=>fK t::gJ r
end
theorem iF:∀l:List T,gJ l=l.map fK
 |[]=>rfl
 |t::r=>by simp only[gJ,gP,iF r]
theorem zI:∀l m:List T,bE (l++m)=bE l+bE m
 |[],m=>by simp[bE]
 |t::r,m=>by simp only[iT,bE,zI r m];omega
theorem FJ(l:List T):bE l.reverse=bE l:=by
 induction l with
 |nil=>rfl
 |cons t r a=>rw[qO,zI,a];simp only[bE];omega
theorem Ka(x:T)(l:List T):bE (o8 x l)=x.bC+bE l:=by
 induction l with
 |nil=>rfl
 |cons t r a=>
  simp only[o8];split;·simp only[bE,a];omega
  ·simp only[bE]
theorem Mw(x:T)(l:List T):(o8 x l).length=l.length+1:=by
 induction l with
 |nil=>rfl
 |cons t r a=>
  simp only[o8];split;·simp only[bu,a]
  ·rfl
theorem CS(l:List T):∀a,bE (l.foldl (λa x=>o8 x a) a)=bE a+bE l:=by
 induction l with
 |nil=>intro a;simp[bE]
 |cons t r b=>intro a;rw[kT,b,Ka];simp only[bE];omega
theorem EX(l:List T):∀a:List T,(l.foldl (λa x=>o8 x a) a).length=a.length+l.length:=by
 induction l with
 |nil=>intro a;simp
 |cons t r b=>intro a;rw[kT,b,Mw];simp only[bu];omega
theorem BL(l:List T):bE (nT l)=bE l:=by
 unfold nT;rw[FJ,CS];simp[bE]
theorem rE(l:List T):(nT l).length=l.length:=by
 unfold nT;rw[iq,EX];simp
mutual
theorem xV:∀t:T,t.fK.bC=t.bC
 |.mk k s a=>by
  simp only[fK,bC];split;·rw[BL,rA a]
  ·rw[rA a]
theorem rA:∀l:List T,bE (gJ l)=bE l
 |[]=>rfl
 |t::r=>by simp only[gJ,bE,xV t,rA r]
end
theorem Iz{k:Int}{s:ByteArray}{a:List T}(h:(T.mk k s a).shape=true):∀i (g:i<a.length),a[i].shape=true:=by
 intro i g;by_cases b:k=1\/k=2
 ·rw[wC k s a b,ai]at h;have:=eY.1 h.2;omega
 ·rw[qy k s a (λe=>b (.inl e)) (λe=>b (.inr e)),ai,bZ]at h;have:=fQ.1 h.2 a[i] (aN g);simpa using this
theorem Fw{s:ByteArray}{a:List T}(h:(T.mk 7 s a).shape=true):1<=a.length/\a.length<=4:=by
 rw[qy 7 s a (by decide) (by decide),ai,ai]at h;rcases De 7 a with⟨g,_⟩|g;·rw[g]at h;simp at h
 ·omega
end T
def jM(w:World)(g:Nat)(a b c:Value):Prop:=w.heap[g]?=some (.cells #[a,b,c] 29 (0,0))
theorem jM.cells{w:World}{g:Nat}{a b c:Value}(h:jM w g a b c):w.cell? ⟨g,0,none⟩=some a/\w.cell? ⟨g,1,none⟩=some b/\w.cell? ⟨g,2,none⟩=some c:=by
 unfold jM at h;refine⟨?_,?_,?_⟩<;>simp[World.cell?,h]
theorem jM.free{w:World}{g:Nat}{a b c:Value}(h:jM w g a b c):w.frozen? ⟨g,0,none⟩=false/\w.frozen? ⟨g,1,none⟩=false/\w.frozen? ⟨g,2,none⟩=false:=by
 unfold jM at h;refine⟨?_,?_,?_⟩<;>simp[World.frozen?,h]
theorem jM.lt{w:World}{g:Nat}{a b c:Value}(h:jM w g a b c):g<w.heap.size:=(aZ.1 h).1
theorem jM.Bv{w:World}{g:Nat}{a b c:Value}(h:jM w g a b c)(v:Value):jM (w.setCell ⟨g,2,none⟩ v) g a b v:=by
 unfold jM at*;simp[World.setCell,Array.getElem?_modify,h]
theorem jM.setOther{w:World}{g:Nat}{a b c:Value}(h:jM w g a b c){p:Addr}(d:g≠p.block)(v:Value):jM (w.setCell p v) g a b c:=by
 unfold jM at*;rw[aM _ _ _ _ d];exact h
theorem jM.ag{w w':World}{g:Nat}{a b c:Value}(h:jM w g a b c)(hb:Below w.heap.size w w'):jM w' g a b c:=(hb.block g h.lt).t h
theorem jM.grown{w w':World}{g:Nat}{a b c:Value}{row:Option Nat}(h:jM w g a b c)(d:w.grownBy w' row)(f:row≠some g):jM w' g a b c:=(d.block g h.lt (λe=>f e.symm)).t h
theorem jM.new(w:World)(a b c:Value):jM (w.alloc (.cells #[a,b,c] 29)) w.heap.size a b c:=bO w _
theorem rz(w:World)(a b c a' b' d:Value):jM ((w.alloc (.cells #[a,b,c] 29)).alloc (.cells #[a',b',d] 29)) w.heap.size a b c/\jM ((w.alloc (.cells #[a,b,c] 29)).alloc (.cells #[a',b',d] 29)) (w.heap.size+1) a' b' d/\
 Below w.heap.size w ((w.alloc (.cells #[a,b,c] 29)).alloc (.cells #[a',b',d] 29))/\((w.alloc (.cells #[a,b,c] 29)).alloc (.cells #[a',b',d] 29)).heap.size=w.heap.size+2:=by
 have e:=aK w (.cells #[a,b,c] 29);have f:=jM.new (w.alloc (.cells #[a,b,c] 29)) a' b' d;rw[e]at f;exact⟨(jM.new w a b c).ag (af _ _),f,(af _ _).t ((af _ _).m (by rw[e];omega)),by rw[aK,e]⟩
theorem dz{w w':World}{base:Nat}{e:TypeId}{size n:Nat}{v:Value}{xs:List Value}(h:w.ownsRow base e size v n xs)(hb:Below w.heap.size w w'):w'.ownsRow base e size v n xs:=
 h.kept (row:=none) ⟨hb.os,hb.tape,hb.output,hb.size,λk a _=>hb.block k a⟩ (by cases v.ownBlock<;>simp)
theorem jW{w w':World}(h:Below w.drew.heap.size w.drew w'):Below w.heap.size w w':=⟨h.os,h.tape,h.output,h.size,h.block⟩
def Qu(t:T)(w:World)(e:Ending)(w':World):Prop:=∃A cap,e=.returned (.agg #[.int .i64 t.aC,.string t.aJ,.slice A t.ay.length cap])/\
 bN (eG w.heap.size) w' (.agg #[.int .i64 t.aC,.string t.aJ,.slice A t.ay.length cap]) t/\Below w.heap.size w w'
theorem fJ{w:World}{g:Nat}{a b c:Value}(h:jM w g a b c)(x y z:Value):jM (((w.setCell ⟨g,0,none⟩ x).setCell ⟨g,1,none⟩ y).setCell ⟨g,2,none⟩ z) g x y z:=by
 unfold jM at*;simp[World.setCell,Array.getElem?_modify,h]
theorem nP(w:World)(g:Nat)(x y z:Value)(k:Nat)(a:k≠g):(((w.setCell ⟨g,0,none⟩ x).setCell ⟨g,1,none⟩ y).setCell ⟨g,2,none⟩ z).heap[k]?=w.heap[k]?:=by
 rw[aM _ _ _ _ a,aM _ _ _ _ a,aM _ _ _ _ a]
theorem wy{t:T}{w wr:World}{A:Option Addr}{cap g:Nat}(x y z:Value)(c:Below w.heap.size w wr)(a:w.heap.size<=g)
 (d:x=.int .i64 t.aC) (hy:y=.string t.aJ) (e:z=.slice A t.ay.length cap) (h:bN (eG (g+1)) wr (.agg #[x,y,z]) t):
 Qu t w (.returned (.agg #[x,y,z])) (((wr.setCell ⟨g,0,none⟩ x).setCell ⟨g,1,none⟩ y).setCell ⟨g,2,none⟩ z):=by
 subst d;subst hy;subst e;refine⟨A,cap,rfl,h.aR λb hb _=>?_,((c.setCell a _).setCell a _).setCell a _⟩;have:=ax hb;exact⟨aQ (by omega),nP _ _ _ _ _ _ (by omega)⟩
theorem pO{w w' w'':World}{row:Option Nat}(h:w.grownBy w' row)(k:w'.grownBy w'' row):w.grownBy w'' row:=
 ⟨k.os.t h.os,k.tape.t h.tape,k.output.t h.output,aD h.size k.size,λi hi a=>(k.block i (dF hi h.size) a).t (h.block i hi a)⟩
theorem jr{w w':World}(row:Option Nat)(h:Below w.heap.size w w'):w.grownBy w' row:=⟨h.os,h.tape,h.output,h.size,λk a _=>h.block k a⟩
theorem vE.at{w:World}{base g cap:Nat}{L:List T}(h:vE w base g cap L)(i:Nat)(hi:i<L.length):∃A C,w.cell? ⟨g,i*3,none⟩=some (.int .i64 L[i].aC)/\w.cell? ⟨g,i*3+1,none⟩=some (.string L[i].aJ)/\
 w.cell? ⟨g,i*3+2,none⟩=some (.slice A L[i].ay.length C)/\bN (but base (some g)) w (.agg #[.int .i64 L[i].aC,.string L[i].aJ,.slice A L[i].ay.length C]) L[i]:=by
 obtain⟨j,e,k,l,m,n,f⟩:=h;obtain⟨o,p,q,a,b,c,d⟩:=f i hi;obtain⟨rfl,rfl,A,C,rfl⟩:=aO.view d;refine⟨A,C,?_,?_,?_,d⟩<;>simp[World.cell?,e,a,b,c]
theorem vE.free{w:World}{base g cap:Nat}{L:List T}(h:vE w base g cap L)(i:Nat):w.frozen? ⟨g,i*3,none⟩=false/\w.frozen? ⟨g,i*3+1,none⟩=false/\w.frozen? ⟨g,i*3+2,none⟩=false:=by
 obtain⟨b,a,_⟩:=h;refine⟨?_,?_,?_⟩<;>simp[World.frozen?,a]
theorem WG{P Q:List T}{x y:T}{p:Nat}(a:P.length=p)(i:Nat)(h:i<(P++x::y::Q).length)(h':i<(P++y::x::Q).length)(b:i≠p)(c:i≠p+1):(P++x::y::Q)[i]=(P++y::x::Q)[i]:=by
 apply lW.1;rw[<-aH,<-aH];rcases cu i p with g|g;·rw[bP (by omega),bP (by omega)]
 ·obtain⟨q,rfl⟩:∃q,i=P.length+(q+2):=⟨i-p-2,by omega⟩;rw[bD (by omega),bD (by omega)];simp
structure BH (w:World) (g:Nat) (cur:Array Value) (w':World):Prop where
 row:w'.heap[g]?=some (.cells cur 29 (0,0))
 other:∀k,k≠g->w'.heap[k]?=w.heap[k]?
 os:w'.os=w.os
 tape:w'.tape=w.tape
 output:w'.output=w.output
 size:w'.heap.size=w.heap.size
theorem BH.set{w w':World}{g:Nat}{a:Array Value}(h:BH w g a w')(i:Nat)(v:Value):BH w g (a.setIfInBounds i v) (w'.setCell ⟨g,i,none⟩ v):=
 ⟨by simp[World.setCell,Array.getElem?_modify,h.row],λk b=>by rw[aM _ _ _ _ b];exact h.other k b,h.os,h.tape,h.output,by simp[World.setCell,h.size]⟩
theorem BH.drew{w w':World}{g:Nat}{a:Array Value}(h:BH w g a w'):BH w g a w'.drew:=⟨h.row,h.other,h.os,h.tape,h.output,h.size⟩
theorem BH.grown{w w':World}{g:Nat}{a:Array Value}(h:BH w g a w'):w.grownBy w' (some g):=⟨h.os,h.tape,h.output,Nat.le_of_eq h.size.symm,λk _ b=>h.other k (λe=>b (by rw[e]))⟩
theorem vE.swap{w W:World}{base g cap p:Nat}{P Q:List T}{x y:T}(f:P.length=p)(h:vE w base g cap (P++y::x::Q)){a0 k a2 l m n:Value}
 (z0:w.cell? ⟨g,p*3,none⟩=some a0) (H:w.cell? ⟨g,p*3+1,none⟩=some k) (z2:w.cell? ⟨g,p*3+2,none⟩=some a2)
 (I:w.cell? ⟨g,(p+1)*3,none⟩=some l) (J:w.cell? ⟨g,(p+1)*3+1,none⟩=some m) (K:w.cell? ⟨g,(p+1)*3+2,none⟩=some n)
 (L:∀a,w.heap[g]?=some (.cells a 29 (0,0))->BH w g ((((((a.setIfInBounds ((p+1)*3) a0).setIfInBounds ((p+1)*3+1) k).setIfInBounds ((p+1)*3+2) a2).setIfInBounds (p*3) l).setIfInBounds (p*3+1) m).setIfInBounds (p*3+2) n) W):
 vE W base g cap (P++x::y::Q)/\w.grownBy W (some g):=by
 obtain⟨a,B,C,M,N,O,o⟩:=h;have q:=L a B;have D:(P++x::y::Q).length=(P++y::x::Q).length:=(by simp);have R:p+1<(P++y::x::Q).length:=(by simp;omega);have c:∀j v,w.cell? ⟨g,j,none⟩=some v->a[j]?=some v:=λj v S=>(by simpa[World.cell?,B]using S);have V:a.size=cap*3:=C;have aR:∀{v:Value} {t:T},bN (but base (some g)) w v t->bN (but base (some g)) W v t:=λU=>
  U.aR λb hb _=>⟨hb,q.other b (λe=>(ja.1 hb).2 (by rw[e]))⟩
 refine⟨⟨_,q.row,by simpa using C,by rw[D];exact M,N,O,λi hi=>?_⟩,q.grown⟩;have E:i<(P++y::x::Q).length:=(by rw[<-D];exact hi);by_cases F:i=p
 ·subst F;obtain⟨u0,u1,u2,c0,c1,c2,d⟩:=o (i+1) R;have r:l=u0:=lW.1 ((c _ _ I).symm.t c0);have s:m=u1:=lW.1 ((c _ _ J).symm.t c1);have u:n=u2:=lW.1 ((c _ _ K).symm.t c2);have z:(P++y::x::Q)[i+1]=x:=(by rw[dm (by omega)];simp[<-f]);have A:(P++x::y::Q)[i]=x:=(by rw[dm (by omega)];simp[<-f]);subst r;subst s;subst u;rw[z]at d;refine⟨l,m,n,?_,?_,?_,by rw[A];exact aR d⟩;all_goals simp only[iO,iR];repeat(first|rw[aI trivial]|rw[aI (by omega)]|rw[aG (by omega)])
 ·by_cases G:i=p+1
  ·subst G;obtain⟨u0,u1,u2,c0,c1,c2,d⟩:=o p (by omega);have r:a0=u0:=lW.1 ((c _ _ z0).symm.t c0);have s:k=u1:=lW.1 ((c _ _ H).symm.t c1);have u:a2=u2:=lW.1 ((c _ _ z2).symm.t c2);have z:(P++y::x::Q)[p]=y:=(by rw[dm (by omega)];simp[<-f]);have A:(P++x::y::Q)[p+1]=y:=(by rw[dm (by omega)];simp[<-f]);subst r;subst s;subst u;rw[z]at d;refine⟨a0,k,a2,?_,?_,?_,by rw[A];exact aR d⟩;all_goals simp only[iO,iR];repeat(first|rw[aI trivial]|rw[aI (by omega)]|rw[aG (by omega)])
  ·obtain⟨u0,u1,u2,c0,c1,c2,d⟩:=o i E;rw[WG f i hi E F G];refine⟨u0,u1,u2,?_,?_,?_,aR d⟩;all_goals simp only[iO,iR];repeat(first|rw[aI trivial]|rw[aI (by omega)]|rw[aG (by omega)])
   ·exact c0
   ·exact c1
   ·exact c2
theorem insertion(base g cap:Nat)(L:List T)(w:World)(h:vE w base g cap L)(hL:L.length<=20)(hb:T.bE L<=1048576):
 Calls Tryz.prog 161 #[.slice (some ⟨g,0,none⟩) L.length cap,.int .i64 0,.int .i64 L.length,.func (.func 63) #[] #[]] w λe w'=>
  e=.returned (.tuple #[])/\vE w' base g cap (T.nT L)/\w.grownBy w' (some g):=by
 have HR:=aa h;clear h;go_enter Tryz.func161,Tryz.ntmps161;go_wp2_with fail;go_loopw [8] (λi wr=>∃(m:Nat) (a:List T),1<=m/\m<=20/\i=.int .i64 m/\a=(L.take m).foldl (λa x=>T.o8 x a) []/\vE wr base g cap (a.reverse++L.drop m)/\w.grownBy wr (some g)) (λi _=>30-(intOf i).toNat)
 case atStart=>
  refine⟨1,L.take 1,ak _,by omega,rfl,?_,?_,⟨rfl,rfl,rfl,ak _,λ_ _ _=>rfl⟩⟩
  ·cases L with
   |nil=>rfl
   |cons t r=>rfl
  ·have:(L.take 1).reverse++L.drop 1=L:=(by cases L<;>simp);rw[this];exact HR.o
 case round=>
  obtain⟨m,a,bn,bq,rfl,q,f,j⟩:=hrel;by_cases n:m<L.length
  ·have hi:(m:Int)<(L.length:Int):=(by omega);obtain⟨B,k,S,C⟩:=ZT q f j n;clear q f j;go_wp2_with fail;have U:(List.take m L).length=m:=(by rw[aW];omega);have V:a.length=m:=(by rw[B.o,T.EX,U];simp);obtain⟨x,X,Y,Z⟩:∃x,L.drop m=x::L.drop (m+1)/\L.take (m+1)=L.take m++[x]/\x.bC<=T.bE L:=⟨L[m],dN n,aV n,T.iQ L m n⟩;have ae:(L.take (m+1)).foldl (λa x=>T.o8 x a) []=T.o8 x a:=(by rw[Y,kQ,<-B.o];rfl);obtain⟨rest,s⟩:∃rest,L.drop (m+1)=rest:=⟨_,rfl⟩;have af:vE wr base g cap (a.reverse++[x]++[].reverse++rest):=(by have:=k.o;rw[X,s]at this;simpa using this);have ag:a.length+1+rest.length=L.length:=(by rw[<-s,dO];omega);have aQ:T.bE a<=T.bE L:=(by rw[B.o,T.CS];have:=T.o7 L m;simp only[T.bE];omega);have ai:∀t∈a,t.bC<=1048576:=λt ht=>by
    obtain⟨i,hi,rfl⟩:=bI ht;have:=T.iQ a i hi;omega
   obtain⟨av,ax,aS,aT,D,HLEN,aA⟩:=ZW af ae ai (aD Z hb) V ag s;clear af ae ai aQ Z V ag X U Y s;obtain⟨wo,aB⟩:∃wo:World,wo=wr:=⟨_,rfl⟩;rw[<-aB]at av S⊢;clear aB k;go_loopw [9] (λi wr=>∃A d:List T,a=d++A/\T.o8 x a=d++T.o8 x A/\i=.int .i64 A.length/\vE wr base g cap (A.reverse++[x]++d.reverse++rest)/\w.grownBy wr (some g)) (λi _=>(intOf i).toNat);case atStart=>exact⟨a,[],rfl,rfl,by rw[D.o],av.o,S.o⟩
   case round=>
    obtain⟨A,d,aH,aK,rfl,f,j⟩:=hrel;obtain⟨E,F,k,l⟩:=ZT aH aK f j;clear aH aK f j;cases A with
    |nil=>
     simp only[fA];go_upto_region 4 with fail;go_quiet (fail);go_wp2_with fail;go_roundw
     case rel=>
      refine⟨m+1,T.o8 x a,by omega,by have:=C.o;omega,by go_num,ax.o.symm,?_,⟨l.o.os,l.o.tape,l.o.output,l.o.size,l.o.block⟩⟩;rw[F.o];have:=vE.aR (w':=wr.drewN nq) k.o (λ_ _ _=>rfl);rw[aA.o];simpa[T.o8]using this
     case measure=>simp[intOf];omega
    |cons y A=>
     obtain⟨p,o⟩:∃p,A.length=p:=⟨_,rfl⟩;have aL:(d++y::A).length=m:=(by rw[<-E.o,D.o]);simp only[aF,bu]at aL;have hN:((y::A).reverse++[x]++d.reverse++rest).length=L.length:=(by have:=HLEN.o;have:=D.o;simp;omega);obtain⟨G,H,u,c1,c2,I⟩:=k.o.at p (by omega);obtain⟨J,K,d0,d1,d2,M⟩:=k.o.at (p+1) (by omega);have ey:((y::A).reverse++[x]++d.reverse++rest)[p]'(by omega)=y:=by
      simp only[qO,dA];rw[dm (by simp;omega)];simp[<-o]
     have ex:((y::A).reverse++[x]++d.reverse++rest)[p+1]'(by omega)=x:=by
      simp only[qO,dA];rw[dm (by simp;omega)];simp[<-o]
     rw[ey]at u c1 c2 I;rw[ex]at d0 d1 d2 M;have bv:(p:Int)+1<(L.length:Int):=(by omega);have bz:(p:Int)<(L.length:Int):=(by omega);simp only[bu,o];push_cast;obtain⟨aU,aX⟩:=ZQ I.at M.at
     have q1:IntKind.i64.wrap ((p:Int)+1-1)=(p:Int):=(by rw[jc _ (by omega)];omega);have q0:(0:Int)<(p:Int)+1:=(by omega);have HP:=aa o;have q4:IntKind.i64.wrap (p:Int)=(p:Int):=jc _ (by omega);have q2:(0:Int)<=(p:Int):=(by omega);have q3:(0:Int)<=(p:Int)+1:=(by omega);clear I M ex ey hN aL o;go_upto_region 4 with fail;obtain⟨c,N⟩:∃c,T.cmp x y=c:=⟨_,rfl⟩;have aM:=aa N;have HY:=aa (aS.o y (by rw[E.o];simp));have HC:=aa (λW h1 h2=>N▸Ru (x.bC+1) x y (.agg #[.int .i64 x.aC,.string x.aJ,.slice J x.ay.length K]) (.agg #[.int .i64 y.aC,.string y.aJ,.slice G y.ay.length H]) W (by omega) h1 h2 aT.o HY.o);clear N
     go_region_held3 (λW=>W.cell? ⟨g,p*3,none⟩=some (.int .i64 y.aC)/\W.cell? ⟨g,p*3+1,none⟩=some (.string y.aJ)/\W.cell? ⟨g,p*3+2,none⟩=some (.slice G y.ay.length H)/\W.cell? ⟨g,(p+1)*3,none⟩=some (.int .i64 x.aC)/\W.cell? ⟨g,(p+1)*3+1,none⟩=some (.string x.aJ)/\W.cell? ⟨g,(p+1)*3+2,none⟩=some (.slice J x.ay.length K)/\Below wr.heap.size wr W)
      (first|exact⟨u,c1,c2,d0,d1,d2,az _ _⟩|exact⟨u,c1,c2,d0,d1,d2,(az _ _).drew⟩|exact Eu (by assumption) aN|go_keep)
      ((go_at_call 63;refine(HC.o _ aX.o.drew aU.o.drew).m ?_;rintro e w2 ⟨rfl,aN⟩))
     rename_i hS;obtain⟨z0,z1,z2,y0,y1,y2,O⟩:=hS;obtain⟨v,aO⟩:=ZQ (k.o.aR λb _ hl=>O.block b hl) ((pO l.o (jr (some g) O)));clear u c1 c2 d0 d1 d2 aN O;by_cases z:c<0
     ·obtain⟨f0,f1,f2⟩:=v.o.free p;obtain⟨g0,g1,g2⟩:=v.o.free (p+1);have P:=aa z;go_wp2_with fail
      go_region
      have aP:vE w2 base g cap (A.reverse++y::x::(d.reverse++rest)):=(by have:=v.o;simpa using this);obtain⟨Q,R⟩:=aP.swap (by rw[iq];exact HP.o) z0 z1 z2 y0 y1 y2 (λbA aZ=>(((((((BH.mk aZ (λ_ _=>rfl) rfl rfl rfl rfl).set _ _).set _ _).set _ _).set _ _).set _ _).set _ _).drew);generalize((((((w2.setCell ⟨g,(p+1)*3,none⟩ (.int .i64 y.aC)).setCell ⟨g,(p+1)*3+1,none⟩ (.string y.aJ)).setCell ⟨g,(p+1)*3+2,none⟩ (.slice G y.ay.length H)).setCell ⟨g,p*3,none⟩ (.int .i64 x.aC)).setCell ⟨g,p*3+1,none⟩ (.string x.aJ)).setCell ⟨g,p*3+2,none⟩ (.slice J x.ay.length K)).drew=w5 at Q R⊢;obtain⟨bf,bg⟩:=ZQ Q (pO aO.o R);clear aP Q R f0 f1 f2 g0 g1 g2 z0 z1 z2 y0 y1 y2 z;go_wp2_with fail;go_roundw
      case rel=>
       refine⟨A,d++[y],by rw[E.o];simp,?_,by rw[HP.o],by have:=bf.o;simpa using this,bg.o⟩;rw[F.o];simp only[T.o8];rw[aI (by rw[aM.o];exact P.o)];simp
      case measure=>simp[intOf]
     ·have bB:0<=c:=(by omega);have P:=aa z;clear z;go_wp2_with fail;go_roundw
      case rel=>
       refine⟨m+1,T.o8 x a,by omega,by have:=C.o;omega,by go_num,ax.o.symm,?_,aO.o⟩;rw[F.o];have:=v.o;rw[aA.o];have e:T.o8 x (y::A)=x::y::A:=(by simp only[T.o8];rw[aG (by rw[aM.o];exact P.o)]);rw[e];simpa using this
      case measure=>have:=C.o;simp[intOf];omega
  ·have bD:(L.length:Int)<=(m:Int):=(by omega);have bi:=aa (show vE wr base g cap (T.nT L) by
    have e:L.take m=L:=aY (by omega);have e':L.drop m=[]:=jT (by omega);rw[e',dS,q,e]at f;exact f)
   have HG:=aa j;clear f j q n;go_wp2_with fail;go_end0;exact⟨rfl,bi.o,HG.o⟩
theorem R9(base g cap:Nat)(L:List T)(w:World)(h:vE w base g cap L)(c:L.length<20)(hb:T.bE L<=1048576):
 Calls Tryz.prog 160 #[.slice (some ⟨g,0,none⟩) L.length cap,.int .i64 L.length,.func (.func 63) #[] #[]] w λe w'=>
  e=.returned (.tuple #[])/\vE w' base g cap (T.nT L)/\w.grownBy w' (some g):=by
 have d:=aa (insertion base g cap L w h (by omega) hb);clear h hb;have j:(L.length:Int)<20:=(by omega);have k:(0:Int)<=(L.length:Int):=(by omega);clear c;go_enter Tryz.func160,Tryz.ntmps160;go_wp2_with fail;refine AB 1 ?_;rw[rounds_succ];go_wp2_with fail;refine d.o.m ?_;rintro e l ⟨rfl,a,b⟩;obtain⟨f,i⟩:=ZQ a b;clear a b;go_wp2_with fail;refine AB 1 ?_;rw[rounds_succ];go_wp2_with fail;go_end0;exact⟨rfl,f.o,i.o⟩
theorem WC(base g cap:Nat)(L:List T)(w:World)(h:vE w base g cap L)(c:L.length<20)(hb:T.bE L<=1048576):
 Calls Tryz.prog 131 #[.slice (some ⟨g,0,none⟩) L.length cap,.func (.func 63) #[] #[]] w λe w'=>
  e=.returned (.tuple #[])/\vE w' base g cap (T.nT L)/\w.grownBy w' (some g):=by
 have d:=aa (R9 base g cap L w h c hb);clear h hb;go_enter Tryz.func131,Tryz.ntmps131;go_wp2_with fail;refine d.o.m ?_;rintro e j ⟨rfl,a,b⟩;obtain⟨f,i⟩:=ZQ a b;clear a b;go_wp2_with fail;go_end0;exact⟨rfl,f.o,i.o⟩
end
section
open Go.RowKit
attribute [local go_sem ↓] Go.wp_at_zero Go.wp_at_succ
def Ez(w:World)(k:Int)(s:ByteArray)(L:List T)(wr:World):Prop:=
 ∃kv,jM wr w.heap.size (.int .i64 k) (.string s) kv/\jM wr (w.heap.size+1) (.int .i64 0) (.string ⟨#[]⟩) (.slice none 0 0)/\bK wr (w.heap.size+2) kv L/\Below w.heap.size w wr/\w.heap.size+2<=wr.heap.size
theorem Ez.step{w:World}{k:Int}{s:ByteArray}{L:List T}{t:T}{wr w3 w4:World}{kv u0 u1 u2:Value}{xs:List Value}{g cap:Nat}
 (x:jM wr w.heap.size (.int .i64 k) (.string s) kv) (y:jM wr (w.heap.size+1) (.int .i64 0) (.string ⟨#[]⟩) (.slice none 0 0)) (f:bK wr (w.heap.size+2) kv L) (hb:Below w.heap.size w wr) (E:w.heap.size+2<=wr.heap.size)
 (n:∀i (h:i<L.length),∃u0 u1 u2,xs[i*3]?=some u0/\xs[i*3+1]?=some u1/\xs[i*3+2]?=some u2/\bN (but (w.heap.size+2) kv.ownBlock) wr (.agg #[u0,u1,u2]) L[i]) (o:xs.length=L.length*3)
 (j:Below wr.heap.size wr w3) (p:bN (eG wr.heap.size) w3 (.agg #[u0,u1,u2]) t)
 (q:w4.ownsRow (w.heap.size+2) 29 3 (.slice (some ⟨g,0,none⟩) (L.length+1) cap) (L.length+1) (xs++[u0,u1,u2])) (a:(w3.alloc (.cells #[u0,u1,u2] 29)).grownBy w4 kv.ownBlock)
 (r:kv.ownBlock=some g\/g=w3.heap.size+1):Ez w k s (L++[t]) (w4.setCell ⟨w.heap.size,2,none⟩ (.slice (some ⟨g,0,none⟩) (L.length+1) cap)):=by
 have m:∀b,b<w.heap.size+2->kv.ownBlock≠some b:=λb d e=>(by have:=(f.block b e).1;omega);have c:=j.t ((af w3 (.cells #[u0,u1,u2] 29)).m j.size);have u:Below w.heap.size w w4:=(hb.t (c.m (by omega))).grown a (by rw[aK];have:=j.size;omega) (λk v=>by have:=(f.block k v).1;omega);refine⟨_,(((x.ag c).grown a (m _ (by omega))).Bv _),?_,?_,u.setCell (ak _) _,?_⟩;·exact((y.ag c).grown a (m _ (by omega))).setOther (by simp) _
 ·have z:=bK.snoc (w:=w3.alloc (.cells #[u0,u1,u2] 29)) (H:=w3.heap.size+1) (t:=t) (λi hi=>by
   obtain⟨a0,A,a2,B,C,D,b3⟩:=n i hi;exact⟨a0,A,a2,B,C,D,b3.aR λb hb d=>⟨hb,c.block b d⟩⟩) o
   (p.aR λb l d=>⟨ja.2 ⟨by have:=ax l;omega,λe=>by have:=(f.block b e).2;have:=ax l;omega⟩,fF w3 _ b d⟩)
   q a r (by rw[aK])
  exact z.aR λb l _=>aM _ _ _ _ (by show b≠w.heap.size;omega)
 ·have:=a.size;have:=c.size;simp[World.setCell];omega
theorem YV:∀(N:Nat) (t:T) (v:Value) (w:World),t.bC<N->aO w v t->t.bC<=1048576->t.shape=true->
 Calls Tryz.prog 79 #[v] w (Qu t.fK w):=by
 intro N;induction N with
 |zero=>intro t v w h;omega
 |succ N ih=>
  intro t v w hN ht aS G;cases ht with
  |mk k s A cap a U H I h3 h4 hA hU=>
   simp only[T.bC]at hN aS;have bV:a.length<=262144:=(by have:=T.kN a;omega);have HT:=aa (aO.mk k s A cap a U H I h3 h4 hA hU);obtain⟨i0,aT,aU,aX,aZ⟩:=dV Tryz.uI;go_enter Tryz.func79,Tryz.ntmps79;go_wp2_with fail;obtain⟨c,J,K,x⟩:=rz w (.int .i64 k) (.string s) (.slice none 0 0) (.int .i64 0) (.string ⟨#[]⟩) (.slice none 0 0);generalize(w.alloc (.cells #[.int .i64 k,.string s,.slice none 0 0] 29)).alloc (.cells #[.int .i64 0,.string ⟨#[]⟩,.slice none 0 0] 29)=w1 at c J K x⊢;have ax:Ez w k s [] w1:=⟨_,c,J,bK.nil _ _,K,by omega⟩;obtain⟨bf,IH,bg,bi⟩:=ZT ax ih (T.Iz G) G;clear c J K x ax ih G;obtain⟨bn,bq⟩:=ZQ hA hU;clear hA hU;go_loopw [11] (λi wr=>∃j:Nat,j<=a.length/\i=.int .i64 j/\Ez w k s ((a.map T.fK).take j) wr) (λi _=>a.length-(intOf i).toNat);case atStart=>exact⟨0,aL _,rfl,by simpa using bf.o⟩
   case round=>
    obtain⟨j,hj,rfl,q⟩:=hrel;by_cases y:j<a.length
    ·obtain⟨kv,c,l,f,d,x⟩:=q;obtain⟨b,off,z,B,rfl,d0,d1,d2,hu⟩:=aO.cells y bn.o bq.o;obtain⟨e0,e1,e2⟩:=Z0 d d0 d1 d2;have hi:(j:Int)<(a.length:Int):=(by omega);obtain⟨HU,az,HJ⟩:=ZR (hu.ag d) y hj;have aA:=aa (show a[j].bC<N/\a[j].bC<=1048576 by have:=T.iQ a j y;omega);have bu:=aa (bg.o j y);clear d0 d1 d2 hu hj;go_upto_region 6 with fail;have o:=af wr (.cells #[.int .i64 a[j].aC,.string a[j].aJ,.slice z a[j].ay.length B] 29);have qx:=jM.new wr (.int .i64 a[j].aC) (.string a[j].aJ) (.slice z a[j].ay.length B);have aD:=aK wr (.cells #[.int .i64 a[j].aC,.string a[j].aJ,.slice z a[j].ay.length B] 29);generalize wr.alloc (.cells #[.int .i64 a[j].aC,.string a[j].aJ,.slice z a[j].ay.length B] 29)=wq at o qx aD⊢;replace c:=c.ag o;replace l:=l.ag o;replace f:=f.ag o;replace d:=d.t (o.m d.size);have M:w.heap.size+2<=wq.heap.size:=(by omega);have bv:=aa (HU.o.ag o);obtain⟨xs,C,hx⟩:=f.owns;have aF:(List.take j (a.map T.fK)).length=j:=(by rw[aW,df];omega);have aH:=aa (λt w3 w4 u0 u1 u2 g cap=>Ez.step (k:=k) (s:=s) (t:=t) (w3:=w3) (w4:=w4) (u0:=u0) (u1:=u1) (u2:=u2) (g:=g) (cap:=cap) c l f d M hx C.1);have bA:=aa (show List.take j (a.map T.fK)++[a[j].fK]=List.take (j+1) (a.map T.fK) by rw[aV (by simpa using y),gz];rfl);obtain⟨O,P,r⟩:=c.cells;obtain⟨f0,f1,f2⟩:=c.free;obtain⟨q0,q1,q2⟩:=qx.cells;have Q:=f.block;rw[aF]at C aH;obtain⟨HOWN,R,bW⟩:=ZR C c Q;have bX:w.heap.size<wq.heap.size:=(by omega);have bB:=aa M;have bD:=aa (show kv.ownBlock≠some w.heap.size from λe=>by have:=(Q _ e).1;omega);clear e0 e1 e2 hx f l x M aF C c o d Q aD;go_region_law (first|(refine dZ _ (by rfl) _ _ _ (by rfl) (w.heap.size+2) 29 i0 _ 3 48 bM aT aU aX aZ rfl (by omega) _ _ _ (by rfl) bF.o ⟨_,0,none⟩ 1 1 _ (by rfl) (by rfl) (di (bO _ _)) bH.o (by omega) (by unfold maxLen;omega) (by omega) bI.o _ rfl ?_;intro g cap w4 aM S q bJ;have V:=(R.o.ag (m.t ((af w3 _).m m.size))).grown S bD.o;have c4:=V.cells.2.2;have f4:=V.free.2.2)|(go_simp;go_at_call 79;refine(IH.o _ _ _ aA.o.1 bv.o.drew aA.o.2 bu.o).m ?_;rintro e w3 ⟨W,C3,rfl,X,bL⟩;have m:=jW bL;obtain⟨z0,z1,z2⟩:=Z0 m O P r;have bN:=ae (af w3 (.cells #[.int .i64 a[j].fK.aC,.string a[j].fK.aJ,.slice W a[j].fK.ay.length C3] 29)) z2;obtain⟨bF,bH⟩:=ZQ ((dz HOWN.o m).alloc (.cells #[.int .i64 a[j].fK.aC,.string a[j].fK.aJ,.slice W a[j].fK.ay.length C3] 29)) X.one;have bI:=aa (show w.heap.size+2<=(w3.alloc (.cells #[.int .i64 a[j].fK.aC,.string a[j].fK.aJ,.slice W a[j].fK.ay.length C3] 29)).heap.size by rw[aK];have:=m.size;have:=bB.o;omega)));all_goals
      have Y:=aH.o a[j].fK w3 w4 _ _ _ g cap m X aM S (q.imp id (λh=>h.t (aK _ _)));rw[bA.o]at Y;have bP:=aa Y;clear Y S aM X c4 f4 V z0 z1 z2 bN q bJ;go_wp2_with fail;go_roundw;case rel=>exact⟨j+1,az.o,by go_num,bP.o⟩
      case measure=>have:=az.o;simp[intOf];omega
    ·obtain rfl:j=a.length:=(by omega);rw[aY (by simp)]at q;obtain⟨kv,c,l,f,d,x⟩:=q;obtain⟨L,p⟩:∃L,a.map T.fK=L:=⟨_,rfl⟩;rw[p]at f;have n:L.length=a.length:=(by rw[<-p,df]);obtain⟨O,P,r⟩:=c.cells;obtain⟨q0,q1,q2⟩:=l.cells;obtain⟨f0,f1,f2⟩:=l.free;by_cases D:k=7
     ·subst D;have bQ:=T.Fw bi.o;rcases f with⟨rfl,bR⟩|⟨g,C4,rfl,Z⟩;·rw[bR]at n;simp at n;omega
      have bY:w.heap.size+2<=g:=(by obtain⟨_,_,_,_,_,h5,_⟩:=Z;exact h5);have aN:T.bE L<=1048576:=(by rw[<-p,<-T.iF,T.rA];omega);have HS:=aa (WC (w.heap.size+2) g C4 L wr Z (by omega) aN);rw[n]at HS r c;have HN:=aa (show(T.mk 7 s a).fK=.mk 7 s (T.nT L) by simp only[T.fK,aI,T.iF,p]);obtain⟨E,ai,R,ak⟩:=ZT n d c l;have bS:some g≠some w.heap.size:=λe=>(by injection e;omega);have bT:some g≠some (w.heap.size+1):=λe=>(by injection e;omega);clear p n aN Z d c l bQ;go_wp2_with fail;refine HS.o.m ?_;rintro e w5 ⟨rfl,aP,F⟩;have aQ:=R.o.grown F bS;have av:=ak.o.grown F bT;have bU:=ai.o.grown F (by omega) (λk hk=>by injection hk;omega);obtain⟨a0,a1,a2⟩:=aQ.cells;obtain⟨b0,b1,b2⟩:=av.cells;obtain⟨c0,c1,c2⟩:=av.free;have u:=aa (bK.term (k:=7) (s:=s) (.inr ⟨g,C4,rfl,aP⟩) H I);rw[T.rE,E.o]at u;clear aP F aQ O P r q0 q1 q2 f0 f1 f2;go_wp2_with fail;obtain⟨d0,d1,d2⟩:=(fJ av (.int .i64 7) (.string s) (.slice (some ⟨g,0,none⟩) a.length C4)).cells;refine bG (v:=.agg #[.int .i64 7,.string s,.slice (some ⟨g,0,none⟩) a.length C4]) (by simp[results,Tryz.results79,go_sem,d0,d1,d2]) rfl ?_;rw[HN.o];exact wy (t:=.mk 7 s (T.nT L)) _ _ _ bU (by omega) rfl rfl (by show _=Value.slice _ (T.nT L).length _;rw[T.rE,E.o]) u.o
     ·have bZ:(k==7)=false:=(by rw[aB];exact D);obtain⟨A4,C4,aR,_,_⟩:=f.shape;have HN:=aa (show(T.mk k s a).fK=.mk k s L by simp only[T.fK,aG D,T.iF,p]);obtain⟨u,ai,ak,E⟩:=ZT (f.term k s H I) d l n;rw[aR]at r u;rw[n]at r u;clear p D aR f d c l n;go_wp2_with fail;obtain⟨d0,d1,d2⟩:=(fJ ak.o (.int .i64 k) (.string s) (.slice A4 a.length C4)).cells;refine bG (v:=.agg #[.int .i64 k,.string s,.slice A4 a.length C4]) (by simp[results,Tryz.results79,go_sem,d0,d1,d2]) rfl ?_;rw[HN.o];exact wy (t:=.mk k s L) _ _ _ ai.o (by omega) rfl rfl (by show _=Value.slice _ L.length _;rw[E.o]) u.o
end
section
open Go.RowKit
namespace T
theorem Td(x y:List UInt8):Op.bytesLess x y=decide (x<y):=by
 induction x generalizing y with
 |nil=>cases y<;>simp[Op.bytesLess]
 |cons a x c=>cases y with
  |nil=>simp[Op.bytesLess]
  |cons b y=>simp only[Op.bytesLess,c,rZ,Bool.decide_or,Bool.decide_and];congr 1
theorem Mx(x y:List UInt8):x<y\/x=y\/y<x:=by
 induction x generalizing y with
 |nil=>cases y with
  |nil=>exact .inr (.inl rfl)
  |cons b y=>exact .inl (List.nil_lt_cons b y)
 |cons a x c=>cases y with
  |nil=>exact .inr (.inr (List.nil_lt_cons a x))
  |cons b y=>
   rw[rZ,rZ,y8];rcases c y with h|h|h
   ·by_cases e:a=b;·left;right;exact⟨e,h⟩
    ·rcases(show a<b\/b<a by have:a.toNat≠b.toNat:=λh=>e (qc.1 h);rw[jB,jB];omega)with g|g;·left;left;exact g
     ·right;right;left;exact g
   ·by_cases e:a=b;·right;left;exact⟨e,h⟩
    ·rcases(show a<b\/b<a by have:a.toNat≠b.toNat:=λh=>e (qc.1 h);rw[jB,jB];omega)with g|g;·left;left;exact g
     ·right;right;left;exact g
   ·by_cases e:a=b;·right;right;right;exact⟨e.symm,h⟩
    ·rcases(show a<b\/b<a by have:a.toNat≠b.toNat:=λh=>e (qc.1 h);rw[jB,jB];omega)with g|g;·left;left;exact g
     ·right;right;left;exact g
theorem Gw{a b:ByteArray}(h:a.toList=b.toList):a=b:=tJ (by rw[<-fV,<-fV];exact h)
theorem Lx{a b:ByteArray}:cs a b= -1<->a.toList<b.toList:=by
 unfold cs less;rw[Td];by_cases h:a.toList<b.toList;·simp[h]
 ·simp only[h,decide_false,nu,zP,iff_false];split<;>decide
theorem Js{a b:ByteArray}:cs a b=0<->a=b:=by
 unfold cs less;rw[Td];by_cases h:a.toList<b.toList
 ·have:a≠b:=λe=>(by rw[e]at h;exact qM _ h);simp[h,this]
 ·simp only[h,decide_false,nu,zP];by_cases e:a.toList=b.toList;·simp[Gw e]
  ·have c:(a.toList==b.toList)=false:=(by rw[aB];exact e);have:a≠b:=λh=>e (by rw[h]);simp[c,this]
theorem PK(a b:ByteArray):cs a b= -1\/cs a b=0\/cs a b=1:=by
 unfold cs;split;·simp
 ·split<;>simp
theorem Vz(a b:ByteArray):cs b a= -cs a b:=by
 rcases Mx a.toList b.toList with h|h|h
 ·have c:=Lx.2 h;have d:cs b a≠ -1:=λe=>qM _ (xk h (Lx.1 e));have f:cs b a≠0:=λe=>(by rw[Js.1 e]at h;exact qM _ h);rcases PK b a with g|g|g;·exact absurd g d
  ·exact absurd g f
  ·rw[g,c];rfl
 ·have:=Gw h;subst this;rw[Js.2 rfl];rfl
 ·have c:=Lx.2 h;have d:cs a b≠ -1:=λe=>qM _ (xk h (Lx.1 e));have f:cs a b≠0:=λe=>(by rw[Js.1 e]at h;exact qM _ h);rcases PK a b with g|g|g;·exact absurd g d
  ·exact absurd g f
  ·rw[g,c]
theorem YI{a b:Int}:ci a b= -1<->a<b:=by unfold ci;split<;>(try split)<;>omega
theorem Tn{a b:Int}:ci a b=0<->a=b:=by unfold ci;split<;>(try split)<;>omega
theorem Vx(a b:Int):ci b a= -ci a b:=by unfold ci;split<;>(try split)<;>(try split)<;>omega
theorem Un{x y z a b c:Int}(d:a= -x)(hy:b= -y)(e:c= -z):Qd a b c= -Qd x y z:=by
 subst d;subst hy;subst e;unfold Qd;split<;>(try split)<;>(try split)<;>(try split)<;>omega
mutual
theorem oK:∀a b:T,cmp b a= -cmp a b
 |.mk k s c,.mk k' e d=>by rw[yC,yC];exact Un (Vx _ _) (Vz _ _) (EL c d)
theorem EL:∀l m:List T,iG m l= -iG l m
 |[],[]=>rfl
 |[],_::_=>rfl
 |_::_,[]=>rfl
 |a::r,b::c=>by
  have d:=oK a b;have e:=EL r c;simp only[iG];split<;>split<;>omega
end
mutual
theorem cmp_eq:∀a b:T,cmp a b=0->a=b
 |.mk k s c,.mk k' j d=>λh=>by
  rw[yC]at h;unfold Qd at h;split at h;·omega
  ·split at h;·omega
   ·rename_i e f;have g:=Tn.1 (Decidable.not_not.1 e);have i:=Js.1 (Decidable.not_not.1 f);rw[g,i,Jr c d h]
theorem Jr:∀l m:List T,iG l m=0->l=m
 |[],[]=>λ_=>rfl
 |[],_::_=>λh=>by simp[iG]at h
 |_::_,[]=>λh=>by simp[iG]at h
 |a::r,b::c=>λh=>by
  simp only[iG]at h;split at h;·rename_i d;rw[cmp_eq a b d,Jr r c h]
  ·omega
end
mutual
theorem nS:∀a:T,cmp a a=0
 |.mk k s b=>by rw[yC,Tn.2 rfl,Js.2 rfl,EM b];rfl
theorem EM:∀l:List T,iG l l=0
 |[]=>rfl
 |a::r=>by simp only[iG];rw[aI (nS a)];exact EM r
end
theorem XZ{x y z:Int}:Qd x y z= -1<->x= -1\/(x=0/\(y= -1\/(y=0/\z= -1))):=by
 unfold Qd;split<;>(try split)<;>omega
mutual
theorem sU:∀a b c:T,cmp a b= -1->cmp b c= -1->cmp a c= -1
 |.mk k s d,.mk k' i e,.mk j l f=>λh g=>by
  rw[yC,XZ,YI,Tn,Lx,Js]at h g⊢;rcases h with h|⟨rfl,h⟩
  ·rcases g with g|⟨rfl,g⟩;·left;omega
   ·left;exact h
  ·rcases g with g|⟨rfl,g⟩;·left;exact g
   ·right;refine⟨rfl,?_⟩;rcases h with h|⟨rfl,h⟩
    ·rcases g with g|⟨rfl,g⟩;·left;exact xk h g
     ·left;exact h
    ·rcases g with g|⟨rfl,g⟩;·left;exact g
     ·right;exact⟨rfl,CX d e f h g⟩
theorem CX:∀a b c:List T,iG a b= -1->iG b c= -1->iG a c= -1
 |[],[],_=>λh _=>by simp[iG]at h
 |[],_::_,[]=>λ_ g=>by simp[iG]at g
 |[],_::_,_::_=>λ_ _=>rfl
 |_::_,[],_=>λh _=>by simp[iG]at h
 |_::_,_::_,[]=>λ_ g=>by simp[iG]at g
 |a::r,b::f,c::i=>λh g=>by
  simp only[iG]at h g⊢;by_cases e:cmp a b=0
  ·rw[aI e]at h;have:=cmp_eq a b e;subst this;by_cases d:cmp a c=0;·rw[aI d]at g⊢;exact CX r f i h g
   ·rw[aG d]at g⊢;exact g
  ·rw[aG e]at h;by_cases d:cmp b c=0
   ·have:=cmp_eq b c d;subst this;rw[aG e];exact h
   ·rw[aG d]at g;have:=sU a b c h g;rw[aG (by omega)];exact this
end
end T
def CT(S:Nat->Bool)(w:World)(xs:List Value)(L:List T):Prop:=
 xs.length=L.length*3/\∀i (h:i<L.length),∃a b c,xs[i*3]?=some a/\xs[i*3+1]?=some b/\xs[i*3+2]?=some c/\bN S w (.agg #[a,b,c]) L[i]
theorem CT.aR{S S':Nat->Bool}{w w':World}{xs:List Value}{L:List T}(h:CT S w xs L)(e:∀b,S b=true->b<w.heap.size->S' b=true/\w'.heap[b]?=w.heap[b]?):CT S' w' xs L:=
 ⟨h.1,λi hi=>by obtain⟨u0,u1,u2,a,b,c,d⟩:=h.2 i hi;exact⟨u0,u1,u2,a,b,c,d.aR e⟩⟩
theorem CT.nil(S:Nat->Bool)(w:World):CT S w [] []:=⟨rfl,λi h=>by simp at h⟩
theorem CT.one{S:Nat->Bool}{w:World}{u0 u1 u2:Value}{t:T}(h:bN S w (.agg #[u0,u1,u2]) t):CT S w [u0,u1,u2] [t]:=
 ⟨rfl,λi hi=>by
   obtain rfl:i=0:=(by simpa using hi);exact⟨u0,u1,u2,rfl,rfl,rfl,h⟩⟩
theorem CT.append{S:Nat->Bool}{w:World}{xs l:List Value}{L M:List T}(h:CT S w xs L)(k:CT S w l M):CT S w (xs++l) (L++M):=by
 refine⟨by rw[aF,aF,h.1,k.1];omega,λi hi=>?_⟩;have n:=h.1;rcases cu i L.length with g|g
 ·obtain⟨e,f,j,a,b,c,d⟩:=h.2 i g;refine⟨e,f,j,?_,?_,?_,by rw[dH g];exact d⟩;all_goals rw[bP (by omega)];assumption
 ·have m:i-L.length<M.length:=(by simp at hi;omega);obtain⟨e,f,j,a,b,c,d⟩:=k.2 (i-L.length) m;refine⟨e,f,j,?_,?_,?_,by rw[dm g];exact d⟩;·rw[bD (by omega),<-a];congr 1;omega
  ·rw[bD (by omega),<-b];congr 1;omega
  ·rw[bD (by omega),<-c];congr 1;omega
theorem CT.take{S:Nat->Bool}{w:World}{xs:List Value}{L:List T}(h:CT S w xs L)(j:Nat):CT S w (xs.take (j*3)) (L.take j):=by
 refine⟨by rw[aW,aW,h.1];omega,λi hi=>?_⟩;have hj:i<j/\i<L.length:=(by rw[aW]at hi;omega);obtain⟨e,f,g,a,b,c,d⟩:=h.2 i hj.2;refine⟨e,f,g,?_,?_,?_,by rw[kS];exact d⟩;all_goals rw[ic,aI (by omega)];assumption
theorem CT.drop{S:Nat->Bool}{w:World}{xs:List Value}{L:List T}(h:CT S w xs L)(j:Nat):CT S w (xs.drop (j*3)) (L.drop j):=by
 refine⟨by rw[dO,dO,h.1];omega,λi hi=>?_⟩;have hj:j+i<L.length:=(by rw[dO]at hi;omega);obtain⟨e,f,g,a,b,c,d⟩:=h.2 (j+i) hj;refine⟨e,f,g,?_,?_,?_,by rw[wJ];exact d⟩;·rw[ib,<-a];congr 1;omega
 ·rw[ib,<-b];congr 1;omega
 ·rw[ib,<-c];congr 1;omega
theorem CT.one'{S:Nat->Bool}{w:World}{xs:List Value}{L:List T}(h:CT S w xs L):∀u∈xs,u.oneCell'=true:=by
 intro u hu;obtain⟨j,hj,rfl⟩:=bI hu;have i:=h.1;obtain⟨k,l,m,a,b,c,d⟩:=h.2 (j / 3) (by omega);have f:=d.one;have e:xs[j]?=some xs[j]:=aH hj;rcases(show j=j / 3*3\/j=j / 3*3+1\/j=j / 3*3+2 by omega)with g|g|g;·rw[<-g,e]at a;injection a with a;rw[a];exact f _ (by simp)
 ·rw[<-g,e]at b;injection b with b;rw[b];exact f _ (by simp)
 ·rw[<-g,e]at c;injection c with c;rw[c];exact f _ (by simp)
theorem bK.cells{w:World}{base:Nat}{v:Value}{L:List T}(h:bK w base v L):∃xs,w.ownsRow base 29 3 v L.length xs/\CT (but base v.ownBlock) w xs L:=by
 obtain⟨xs,a,b⟩:=h.owns;exact⟨xs,a,a.1,b⟩
theorem bK.of{w:World}{base:Nat}{v:Value}{L:List T}{xs:List Value}(h:w.ownsRow base 29 3 v L.length xs)(k:CT (but base v.ownBlock) w xs L):bK w base v L:=by
 rcases h.2 with⟨rfl,h0⟩|⟨g,cap,f,rfl,l,m,n,o,p,q⟩;·exact .inl ⟨rfl,bQ h0⟩
 ·refine .inr ⟨g,cap,rfl,f,m,p,n,o,l,λi hi=>?_⟩;obtain⟨r,s,t,a,b,c,d⟩:=k.2 i hi;have e:∀j u,xs[j]?=some u->f[j]?=some u:=λj u hu=>by
   rw[<-q,ic]at hu;split at hu;·simpa using hu
   ·cases hu
  exact⟨r,s,t,e _ _ a,e _ _ b,e _ _ c,d⟩
theorem M0{w:World}{base g n cap j:Nat}{e:TypeId}{size:Nat}{xs:List Value}(h:w.ownsRow base e size (.slice (some ⟨g,0,none⟩) n cap) n xs)(hj:j<=n):w.ownsRow base e size (.slice (some ⟨g,0,none⟩) j cap) j (xs.take (j*size)):=by
 obtain⟨c,d⟩:=h;rcases d with⟨h,_⟩|⟨q,r,f,a,i,k,l,m,o,p⟩;·cases h
 ·simp only[q9,iD,Bw,Gu,Aw]at a;obtain⟨rfl,rfl⟩:=a;have b:j*size<=n*size:=iC _ hj;refine⟨by rw[aW,c];exact iP b,.inr ⟨g,cap,f,rfl,i,k,aD hj l,m,o,?_⟩⟩;rw[<-p,qP,iP b]
theorem JP{w:World}{base n cap j:Nat}{A:Option Addr}{e:TypeId}{size:Nat}{xs:List Value}(h:w.ownsRow base e size (.slice A n cap) n xs)(hj:j<=n):w.ownsRow base e size (.slice A j cap) j (xs.take (j*size)):=by
 rcases h.2 with⟨a,h0⟩|⟨g,b,c,a,_⟩
 ·obtain rfl:j=0:=(by omega);subst h0;rw[a];simpa using gZ w base e size
 ·have hA:A=some ⟨g,0,none⟩:=(by injection a);subst hA;exact M0 h hj
end
section
open Go.RowKit
def Src(w:World)(size:Nat)(A:Option Addr)(m:Nat)(xs:List Value):Prop:=
 xs.length=m*size/\(m=0\/∃g off,A=some ⟨g,off,none⟩/\∀j u,xs[j]?=some u->w.cell? ⟨g,off+j,none⟩=some u)
theorem Src.aR{w w':World}{size m:Nat}{A:Option Addr}{xs:List Value}(h:Src w size A m xs)(b:∀p:Addr,(w.cell? p).isSome=true->some p.block=A.map (·.block)->w'.cell? p=w.cell? p):Src w' size A m xs:=by
 refine⟨h.1,?_⟩;rcases h.2 with h0|⟨g,off,rfl,a⟩;·exact .inl h0
 ·exact .inr ⟨g,off,rfl,λj u hu=>(b ⟨g,off+j,none⟩ (by rw[a j u hu];rfl) rfl).t (a j u hu)⟩
theorem Src.ag{w w':World}{size m:Nat}{A:Option Addr}{xs:List Value}(h:Src w size A m xs)(hb:Below w.heap.size w w'):Src w' size A m xs:=
 h.aR λp b _=>by
   obtain⟨v,a⟩:=eO.1 b;rw[a];exact ae hb a
theorem Src.grown{w w':World}{size m:Nat}{A:Option Addr}{xs:List Value}{row:Option Nat}(h:Src w size A m xs)(c:w.grownBy w' row)(a:A.map (·.block)≠row\/row=none):Src w' size A m xs:=
 h.aR λp d f=>by
   obtain⟨v,b⟩:=eO.1 d;rw[b];refine c.cell b (λe=>?_);rcases a with a|a;·exact a (by rw[<-f,e])
   ·rw[a]at e;cases e
theorem Src.none_(w:World)(size:Nat)(A:Option Addr):Src w size A 0 []:=⟨by simp,.inl rfl⟩
theorem Src.uD{w:World}{base:Nat}{e:TypeId}{size n c:Nat}{A:Option Addr}{xs:List Value}(h:w.ownsRow base e size (.slice A n c) n xs):Src w size A n xs:=by
 refine⟨h.1,?_⟩;rcases h.2 with⟨_,h0⟩|⟨g,cap,b,a,_⟩;·exact .inl h0
 ·right;have hA:A=some ⟨g,0,none⟩:=(by injection a);subst hA;refine⟨g,0,rfl,λj u hu=>?_⟩;have:=h.cells (g:=g) rfl j u hu;rw[bS]at this;exact this
theorem Src.cut{w:World}{size n k cap:Nat}{A:Option Addr}{xs:List Value}(h:Src w size A n xs)(b:k<=n)(c:n<=cap):Src w size (if cap=k then A else A.map (·.add (k*size))) (n-k) (xs.drop (k*size)):=by
 refine⟨by rw[dO,h.1,Nat.sub_mul],?_⟩;rcases dE (n-k)with h0|h0;·exact .inl h0
 ·rcases h.2 with d|⟨g,off,rfl,a⟩;·omega
  ·right;rw[aG (by omega)];refine⟨g,off+k*size,by simp[Go.WideShapes.add_plain],λj u hu=>?_⟩;rw[ib]at hu;have:=a _ u hu;rw[<-iw]at this;exact this
section
variable {P:Program} (w:World)
theorem Ir(base:Nat)(t ty e:TypeId)(i:TypeInfo)(z:Value)(size bytes:Nat)(k:P.underlying t=some (.slice e))(hi:P.info? e=some i)(y:i.zero=some z)
 (B:i.size=size) (C:i.bytes=bytes) (D:z.cells.size=size) (E:0<size)
 (v:Value) (n:Nat) (xs:List Value) (f:w.ownsRow base e size v n xs)
 (A:Option Addr) (m c:Nat) (news:List Value) (b:Src w size A m news) (F:∀u∈news,u.oneCell'=true)
 (G:n+m<=maxLen) (H:(n+m)*bytes<=140737488355328) (I:base<=w.heap.size):
 ∃A' a w',(Builtin.append_ #[t,t] ty #[v,.slice A m c]).run P w=.ok (.slice A' (n+m) a) w'/\w'.ownsRow base e size (.slice A' (n+m) a) (n+m) (xs++news)/\w.grownBy w' v.ownBlock/\
  (A'.map (·.block)=v.ownBlock\/A'.map (·.block)=some w.heap.size):=by
 have p:∀{w':World} {d:Value} {l:Nat} {q:List Value},w'.ownsRow base e size d l q->∃A' a,d=.slice A' l a/\d.ownBlock=A'.map (·.block):=by
  intro w' d l q h;rcases h.2 with⟨rfl,rfl⟩|⟨g,cap,J,rfl,_⟩;·exact⟨none,0,rfl,rfl⟩
  ·exact⟨_,cap,rfl,rfl⟩
 rcases A with _|r
 ·have K:m=0:=by
   rcases b.2 with h0|⟨g,off,h,_⟩;·exact h0
   ·cases h
  subst K;have o:news=[]:=bQ (by simpa using b.1);subst o;obtain⟨A',a,s,hb⟩:=p f;refine⟨A',a,w,?_,by rw[fE,dS];exact s▸f,⟨rfl,rfl,rfl,ak _,λ_ _ _=>rfl⟩,.inl hb.symm⟩;rw[fE,<-s];rcases f.2 with⟨rfl,rfl⟩|⟨g,cap,J,rfl,_,_,L,_⟩;·simp[Builtin.append_,run_underlying k,sizeOf,typeInfo,hi,Builtin.lenOf,Builtin.firstCells]
  ·simp[Builtin.append_,run_underlying k,sizeOf,typeInfo,hi,Builtin.lenOf,Builtin.firstCells,L,storeCells]
 ·have M:∀j u,news[j]?=some u->w.cell? (r.add j)=some u:=by
   intro j u hu;rcases b.2 with h0|⟨g,off,h,N⟩
   ·subst h0;have o:news=[]:=bQ (by simpa using b.1);subst o;simp at hu
   ·injection h with h;subst h;rw[bS];exact N j u hu
  obtain⟨d,w',O,x,Q,_,R⟩:=run_append_own_at (P:=P) w base t ty e i z size bytes k hi y B C D E v n xs f r m c news b.1 M F G H I;obtain⟨A',a,rfl,hb⟩:=p x;exact⟨A',a,w',O,x,Q,by rw[<-hb];exact R⟩
theorem Ca{o:Oper}{a:Act}{K:Act->World->Prop}{Q:Exit->Act->World->Prop}(s x:Operand)(t:TypeId)
 (d:o.op=.call { callee:=.builtin .append,args:=#[s,x],argTypes:=#[t,t] })
 (base:Nat) (e:TypeId) (i:TypeInfo) (z:Value) (size bytes:Nat) (f:P.underlying t=some (.slice e)) (hi:P.info? e=some i) (g:i.zero=some z)
 (j:i.size=size) (k:i.bytes=bytes) (l:z.cells.size=size) (p:0<size)
 (v:Value) (n:Nat) (xs:List Value) (q:a.eval s=v) (r:w.ownsRow base e size v n xs)
 (A:Option Addr) (m c:Nat) (news:List Value) (y:a.eval x=.slice A m c) (B:Src w size A m news) (C:∀u∈news,u.oneCell'=true)
 (D:n+m<=maxLen) (E:(n+m)*bytes<=140737488355328) (F:base<=w.heap.size)
 (h:∀A' b w',w'.ownsRow base e size (.slice A' (n+m) b) (n+m) (xs++news)->w.grownBy w' v.ownBlock->(A'.map (·.block)=v.ownBlock\/A'.map (·.block)=some w.heap.size)->K (a.put o.dst (.slice A' (n+m) b)) w'):o.wp P a w K Q:=by
 obtain⟨A',b,w',G,H,I,J⟩:=Ir (P:=P) w base t o.type e i z size bytes f hi g j k l p v n xs r A m c news B C D E F;unfold Oper.wp execOp;simp only[d,resolve,invoke,builtin,Sem.run_bind,Sem.run_pure,Result.andThen_ok,List.map_toArray,gP,nA,q,y,G];exact h A' b w' H I J
theorem bT{ops:Array Oper}{rest:List Oper}{o:Oper}{a:Act}{Q:Exit->Act->World->Prop}(d:o.guard=none)(s x:Operand)(t:TypeId)
 (f:o.op=.call { callee:=.builtin .append,args:=#[s,x],argTypes:=#[t,t] })
 (base:Nat) (e:TypeId) (i:TypeInfo) (z:Value) (size bytes:Nat) (g:P.underlying t=some (.slice e)) (hi:P.info? e=some i) (j:i.zero=some z)
 (k:i.size=size) (l:i.bytes=bytes) (p:z.cells.size=size) (q:0<size)
 (v:Value) (n:Nat) (xs:List Value) (r:a.eval s=v) (y:w.ownsRow base e size v n xs)
 (A:Option Addr) (m c:Nat) (news:List Value) (B:a.eval x=.slice A m c) (C:Src w size A m news) (D:∀u∈news,u.oneCell'=true)
 (E:n+m<=maxLen) (F:(n+m)*bytes<=140737488355328) (G:base<=w.heap.size)
 (h:∀A' b w',w'.ownsRow base e size (.slice A' (n+m) b) (n+m) (xs++news)->w.grownBy w' v.ownBlock->(A'.map (·.block)=v.ownBlock\/A'.map (·.block)=some w.heap.size)->wpList P ops Q rest (a.put o.dst (.slice A' (n+m) b)) w'):wpList P ops Q (o::rest) a w:=
 wpList_plain d λ_ H=>Ca w s x t f base e i z size bytes g hi j k l p q v n xs r y A m c news B C D E F G λA' b w' I J K=>H _ _ (h A' b w' I J K)
theorem qd{ops:Array Oper}{o:Oper}{a:Act}{K:Act->World->Prop}{Q:Exit->Act->World->Prop}{E:Prop}(d:o.guard=none)(s x:Operand)(t:TypeId)
 (f:o.op=.call { callee:=.builtin .append,args:=#[s,x],argTypes:=#[t,t] })
 (base:Nat) (e:TypeId) (i:TypeInfo) (z:Value) (size bytes:Nat) (g:P.underlying t=some (.slice e)) (hi:P.info? e=some i) (j:i.zero=some z)
 (k:i.size=size) (l:i.bytes=bytes) (p:z.cells.size=size) (q:0<size)
 (v:Value) (n:Nat) (xs:List Value) (r:a.eval s=v) (y:w.ownsRow base e size v n xs)
 (A:Option Addr) (m c:Nat) (news:List Value) (B:a.eval x=.slice A m c) (C:Src w size A m news) (D:∀u∈news,u.oneCell'=true)
 (F:n+m<=maxLen) (G:(n+m)*bytes<=140737488355328) (H:base<=w.heap.size)
 (h:∀A' b w',w'.ownsRow base e size (.slice A' (n+m) b) (n+m) (xs++news)->w.grownBy w' v.ownBlock->(A'.map (·.block)=v.ownBlock\/A'.map (·.block)=some w.heap.size)->K (a.put o.dst (.slice A' (n+m) b)) w'):
 if Region.wanted o (yielded ops a.tmps)=true then Oper.wp P o a w K Q else E:=by
 have I:Region.wanted o (yielded ops a.tmps)=true:=(by simp[Region.wanted,d]);rw[aI I];exact Ca w s x t f base e i z size bytes g hi j k l p q v n xs r y A m c news B C D F G H h
end
end
end Go.Proofs.YtaciciokmpbkkaaGreatDoor
