import Derived.Test.YtaciciokmpbkkaaGreatDoorWebG2
import Derived.Deep.CutBlock
import Derived.Test.YtaciciokmpbkkaaGreatDoorShelf
set_option maxRecDepth 100000
set_option maxHeartbeats 16000000
namespace Go.Proofs.YtaciciokmpbkkaaGreatDoor
section
open Go.RowKit
attribute [local go_sem ↓] Go.wp_at_zero Go.wp_at_succ
namespace T
def ve(k:Int)(l:List T):List T:=if k=7 then nO l else l
theorem Sc(k:Int)(s:ByteArray)(a:List T):(T.mk k s a).fM=.mk k s (ve k (a.map fM)):=by
 simp only[fM,ve,iA]
end T
def qL(k:Int)(l:List T)(x:T)(A a:List T):Prop:=
 T.ve k l=A.reverse++a.reverse/\(k=7->l.foldl (λb x=>T.pq x b) []=a++A/\T.pq x (l.foldl (λb x=>T.pq x b) [])=a++T.pq x A)/\(k≠7->a=[])
theorem qL.start(k:Int)(l:List T)(x:T):qL k l x (T.ve k l).reverse []:=
 ⟨aau,λh=>by unfold T.ve;rw[aJ h];simp[T.nO],λ_=>rfl⟩
theorem qL.step{k:Int}{l:List T}{x y:T}{A a:List T}(h:qL k l x (y::A) a)(b:k=7)(c:T.cmp x y<0):qL k l x A (a++[y]):=by
 obtain⟨d,e,i⟩:=h;obtain⟨f,g⟩:=e b;refine⟨by rw[d];simp,λ_=>⟨by rw[f];simp,by rw[g];simp only[T.pq];rw[aJ c];simp⟩,λh=>absurd b h⟩
theorem qL.exit{k:Int}{l:List T}{x:T}{A c:List T}(h:qL k l x A c)(d:k=7->∀y A',A=y::A'->¬T.cmp x y<0):T.ve k (l++[x])=A.reverse++x::c.reverse:=by
 obtain⟨b,e,f⟩:=h;by_cases a:k=7
 ·obtain⟨i,g⟩:=e a;unfold T.ve T.nO;rw[aJ a,mf];show(T.pq x _).reverse=_;rw[g];cases A with
  |nil=>simp[T.pq]
  |cons y A'=>simp only[T.pq];rw[aH (d a y A' rfl)];simp
 ·have:=f a;subst this;unfold T.ve at b⊢;rw[aH a]at b⊢;rw[b];simp
def LM(w:World)(k:Int)(s:ByteArray)(ay:Value)(L:List T)(wr:World):Prop:=
 ∃kv,jy wr w.heap.size (.int .i64 k) (.string s) ay/\jy wr (w.heap.size+1) (.int .i64 0) (.string ⟨#[]⟩) (.slice none 0 0)/\jy wr (w.heap.size+1+1) (.int .i64 k) (.string s) kv/\
  bK wr (w.heap.size+3) kv L/\Below w.heap.size w wr/\w.heap.size+3<=wr.heap.size
theorem Q7(w:World)(a b c a' b' d e f g:Value):jy (((w.alloc (.cells #[a,b,c] 29)).alloc (.cells #[a',b',d] 29)).alloc (.cells #[e,f,g] 29)) w.heap.size a b c/\
 jy (((w.alloc (.cells #[a,b,c] 29)).alloc (.cells #[a',b',d] 29)).alloc (.cells #[e,f,g] 29)) (w.heap.size+1) a' b' d/\
 jy (((w.alloc (.cells #[a,b,c] 29)).alloc (.cells #[a',b',d] 29)).alloc (.cells #[e,f,g] 29)) (w.heap.size+1+1) e f g/\
 Below w.heap.size w (((w.alloc (.cells #[a,b,c] 29)).alloc (.cells #[a',b',d] 29)).alloc (.cells #[e,f,g] 29))/\
 (((w.alloc (.cells #[a,b,c] 29)).alloc (.cells #[a',b',d] 29)).alloc (.cells #[e,f,g] 29)).heap.size=w.heap.size+3:=by
 obtain⟨j,k,l,h⟩:=oq w a b c a' b' d;have hb:=ae ((w.alloc (.cells #[a,b,c] 29)).alloc (.cells #[a',b',d] 29)) (.cells #[e,f,g] 29);have i:=jy.new ((w.alloc (.cells #[a,b,c] 29)).alloc (.cells #[a',b',d] 29)) e f g;rw[h]at i;exact⟨j.ag hb,k.ag hb,i,l.t (hb.m (by rw[h];omega)),by rw[aK,h]⟩
theorem Src.boxed(w:World)(a b c:Value):Src (w.alloc (.cells #[a,b,c] 29)) 3 (some ⟨w.heap.size,0,none⟩) 1 [a,b,c]:=by
 refine⟨rfl,.inr ⟨_,0,rfl,λj u hu=>?_⟩⟩;obtain⟨h0,d,e⟩:=(jy.new w a b c).cells;rw[eP]
 match j,hu with
 |0,hu=>exact h0.t hu
 |1,hu=>exact d.t hu
 |2,hu=>exact e.t hu
theorem Ml{w1 W a:World}{b c d e f g i j:Addr}{v0 k v2 v3 v4 v5 l m:Value}(h:W.cell? b=some v0/\W.cell? c=some k/\W.cell? d=some v2/\W.cell? e=some v3/\W.cell? f=some v4/\W.cell? g=some v5/\W.cell? i=some l/\W.cell? j=some m/\Below w1.heap.size w1 W)
 (hb:Below W.heap.size W a):a.cell? b=some v0/\a.cell? c=some k/\a.cell? d=some v2/\a.cell? e=some v3/\a.cell? f=some v4/\a.cell? g=some v5/\a.cell? i=some l/\a.cell? j=some m/\Below w1.heap.size w1 a:=by
 obtain⟨h0,o,p,q,r,s,t,u,n⟩:=h;exact⟨af hb h0,af hb o,af hb p,af hb q,af hb r,af hb s,af hb t,af hb u,n.t (hb.m n.size)⟩
theorem FX{wt c w7 w8 w9 kJ:World}{a5 a d:Option Nat}(p:c.heap.size=wt.heap.size+1)(m:∀b,b<wt.heap.size->c.heap[b]?=wt.heap[b]?)(f:c.grownBy w7 (some wt.heap.size))
 (g:Below w7.heap.size w7 w8) (i:w8.grownBy w9 a5) (n:a=a5\/a=some w8.heap.size) (j:w9.grownBy kJ a) (o:d=a\/d=some w9.heap.size):
 (∀b,b<wt.heap.size->a5≠some b->kJ.heap[b]?=wt.heap[b]?/\d≠some b)/\wt.heap.size<=kJ.heap.size:=by
 have q:=f.size;have r:=g.size;have z9:=i.size;have s:=j.size;refine⟨λb hb k=>?_,aar⟩;have l:a≠some b:=λe=>by
  rcases n with h|h;·exact k (by rw[<-h];exact e)
  ·rw[h]at e;injection e with e;omega
 refine⟨?_,λe=>?_⟩;·rw[j.block b aar (λe=>l e.symm),i.block b aar (λe=>k e.symm),g.block b aar,f.block b aar (λe=>by have t:b=wt.heap.size:=aB e;omega),m b hb]
 ·rcases o with h|h;·exact l (by rw[<-h];exact e)
  ·rw[h]at e;injection e with e;omega
theorem I6{w wt kJ:World}{k:Int}{s:ByteArray}{ay kv:Value}{base:Nat}{a5:Option Nat}{a:Option Addr}{d g:Nat}{P Q:List T}{x:T}{xs:List Value}{u0 u1 u2:Value}{p:Nat}
 (o:base=w.heap.size+3) (j:jy wt w.heap.size (.int .i64 k) (.string s) ay) (l:jy wt (w.heap.size+1) (.int .i64 0) (.string ⟨#[]⟩) (.slice none 0 0)) (h:jy wt (w.heap.size+1+1) (.int .i64 k) (.string s) kv)
 (hb:Below w.heap.size w wt) (q:kJ.os=wt.os) (r:kJ.tape=wt.tape) (t:kJ.output=wt.output) (u:∀b,a5=some b->base<=b)
 (c:(∀b,b<wt.heap.size->a5≠some b->kJ.heap[b]?=wt.heap[b]?/\a.map (·.block)≠some b)/\wt.heap.size<=kJ.heap.size)
 (i:P.length=p) (m:CT (but base a5) wt xs (P++Q)) (v:bI (but base a5) wt (.agg #[u0,u1,u2]) x) (y:d=(P++x::Q).length)
 (A:kJ.ownsRow base 29 3 (.slice a d g) d (xs.take (p*3)++[u0,u1,u2]++xs.drop (p*3))):
 LM w k s ay (P++x::Q) (kJ.setCell ⟨w.heap.size+1+1,2,none⟩ (.slice a d g)):=by
 subst o;subst y;have f:∀b,b<w.heap.size+3->a5≠some b:=λb hb e=>(aaz (u b e));have k0:=(c.1 w.heap.size j.lt (f _ aar)).1;have B:=(c.1 (w.heap.size+1) l.lt (f _ aar)).1;have C:=(c.1 (w.heap.size+1+1) h.lt (f _ aar)).1;have z:=h.lt;have D:CT (but (w.heap.size+3) (a.map (·.block))) kJ (xs.take (p*3)++[u0,u1,u2]++xs.drop (p*3)) (P++x::Q):=by
  have c1:=m.take p;have c2:=m.drop p;rw[<-i,vH]at c1;rw[<-i,zI]at c2;have c3:=(c1.append (CT.one v)).append c2;rw[i]at c3;rw[dC P [x] Q]at c3;refine c3.aR λb hb E=>?_;obtain⟨F,G⟩:=jd.1 hb;obtain⟨g3,g4⟩:=c.1 b E G;exact⟨jd.2 ⟨F,g4⟩,g3⟩
 have H:(Value.slice a (P++x::Q).length g).ownBlock=a.map (·.block):=(by cases a<;>rfl);refine⟨_,((show jy kJ _ _ _ _ from k0.t j)).setOther aaV _,((show jy kJ _ _ _ _ from B.t l)).setOther aau _,(show jy kJ _ _ _ _ from C.t h).AQ _,?_,?_,?_⟩;·exact(bK.of A (by rw[H];exact D)).aR λb hb _=>aL _ _ _ _ (by show b≠w.heap.size+1+1;omega)
 ·refine Below.setCell ⟨q.t hb.os,r.t hb.tape,t.t hb.output,aG hb.size c.2,λb n=>?_⟩ (by show w.heap.size<=w.heap.size+1+1;omega) _;rw[(c.1 b (dw n hb.size) (f _ aar)).1];exact hb.block b n
 ·have:=c.2;simp[World.setCell];omega
theorem acP{p:Prop}(h:p:=by
 have eH:=aa bN;clear bN;go_wp2_with (at_builtin;refine fq _ rfl _ _ 23 rfl wt.heap.size 29 i0 _ 3 48 cB bu bv bA bB rfl aar _ 0 [] rfl gK.o _ (j-p) _ _ rfl eH.o dM.o (by have:=I.o;unfold maxLen;omega) (aaz I.o) aaW ?_;intro A7 c7 f aP C bT);simp only[eP,jZ]at aP;have aQ:∀b,b<wt.heap.size->(wt.alloc (.cells #[] 29)).heap[b]?=wt.heap[b]?:=λb hb=>fK _ _ b hb;have aU:∀b,b<wt.heap.size->f.heap[b]?=wt.heap[b]?:=λb hb=>abx;have bU:wt.heap.size+1<=f.heap.size:=(by have:=C.size;rw[aK]at this;exact this);have bW:=dL.o.size;have aW:∀{g:Nat} {a b c:Value},jy wt g a b c->jy f g a b c:=λh=>(aU _ h.lt).t h;have ah:=bQ.o.ag H.o;rw[aO.o,r.o]at ah;have aY:=aW ah;have bX:=aW (dY.o.ag H.o);obtain⟨y0,y1,y2⟩:=aY.cells;obtain⟨t0,t1,t2⟩:=bX.cells;have bY:∀b,A7.map (·.block)=some b->wt.heap.size<=b:=λb e=>by
  rcases bT with h|h;·rw[h]at e;have e':wt.heap.size=b:=aB e;omega
  ·rw[h,aK]at e;have e':wt.heap.size+1=b:=aB e;omega
 have cu:=Kh (dG HOWN.o (w':=f) ⟨C.os,C.tape,C.output,aar,aU⟩) J.o;obtain⟨eO,eQ,eT,eU,cz,av,eX⟩:=aag (Src.yO aP) aY bY bU bW C (show ∀u∈[Value.int .i64 x.aA,.string x.aI,.slice l x.ay.length C3],u.oneCell'=true from bI.o.one);have d1:=af (ae f (.cells #[.int .i64 x.aA,.string x.aI,.slice l x.ay.length C3] 29)) y2;have o:=aa (show Below f.heap.size f (f.alloc (.cells #[.int .i64 x.aA,.string x.aI,.slice l x.ay.length C3] 29)).drew from(ae f _).drew);obtain⟨eY,eZ⟩:=aab (dG cu o.o) ((show Src (f.alloc (.cells #[.int .i64 x.aA,.string x.aI,.slice l x.ay.length C3] 29)).drew 3 (some ⟨f.heap.size,0,none⟩) 1 [.int .i64 x.aA,.string x.aI,.slice l x.ay.length C3]from Src.boxed f _ _ _));have bf:=aa (show ∀(A:Option Addr) (n c:Nat),(Value.slice A n c).ownBlock=A.map (·.block)from λA n c=>by cases A<;>rfl);have cK:=aa (show m.map (·.block)≠some (w.heap.size+1+1)from λe=>aaz ((aL.o _ e).1));have fe:=aa (show p+1<=maxLen by have:=I.o;have:=J.o;unfold maxLen;omega);have fo:=aa (show(p+1)*48<=140737488355328 from aaA I.o J.o);have bg:=aa (show w.heap.size+3<=((f.alloc (.cells #[.int .i64 x.aA,.string x.aI,.slice l x.ay.length C3] 29)).drew).heap.size by have:=o.o.size;have:=eU.o;have:=cz.o;have:=dD.o;omega);have fu:=aa (show ∀(A8:Option Addr) (n c:Nat),(A8.map (·.block)=(Value.slice m n c).ownBlock\/A8.map (·.block)=some ((f.alloc (.cells #[.int .i64 x.aA,.string x.aI,.slice l x.ay.length C3] 29)).drew).heap.size)->A8.map (·.block)≠some (w.heap.size+1+1)from λA8 n c h e=>by
  rcases h with h|h;·rw[h,bO.o]at e;exact cK.o e
  ·rw[h]at e;have e':=aB e;have:=bg.o;omega)
 have fw:=aa (show p+1+(j-p)<=maxLen by have:=I.o;have:=J.o;unfold maxLen;omega);have fA:=aa (show(p+1+(j-p))*48<=140737488355328 from aaA I.o J.o);have fB:=aa (show A7.map (·.block)≠m.map (·.block)\/m.map (·.block)=none by
  rcases h:m.map (·.block)with _|b;·exact .inr h
  ·left;intro e;have:=(aL.o b h).2;have:=eT.o b (e.t h);have:=cz.o;omega)
 have cO:p+1+(j-p)=(E.reverse++x::G.reverse).length:=by
  have K:=bV List.length B.o.1;rw[r.o]at K;have:=M.o;have:=J.o;simp at K⊢;omega
 have fC:=aa (show ∀(A8 D:Option Addr) (c c8 az:Nat) (w9 kJ:World),(f.alloc (.cells #[.int .i64 x.aA,.string x.aI,.slice l x.ay.length C3] 29)).drew.grownBy w9 (Value.slice m p c).ownBlock->(A8.map (·.block)=(Value.slice m p c).ownBlock\/A8.map (·.block)=some ((f.alloc (.cells #[.int .i64 x.aA,.string x.aI,.slice l x.ay.length C3] 29)).drew).heap.size)->
  w9.grownBy kJ (Value.slice A8 (p+1) c8).ownBlock->(D.map (·.block)=(Value.slice A8 (p+1) c8).ownBlock\/D.map (·.block)=some w9.heap.size)->
  kJ.ownsRow (w.heap.size+3) 29 3 (.slice D (p+1+(j-p)) az) (p+1+(j-p)) (xs.take (p*3)++[.int .i64 x.aA,.string x.aI,.slice l x.ay.length C3]++xs.drop (p*3))->
  LM w k s (.slice (some ⟨b,off,none⟩) d.length cap) (T.ve k (KS.take (j+1))) (kJ.setCell ⟨w.heap.size+1+1,2,none⟩ (.slice D (p+1+(j-p)) az))from λA8 D c c8 az w9 kJ O a9 P cZ ho=>by
  rw[bf.o]at O a9 P cZ;rw[gL.o,aF.o];exact I6 (a5:=m.map (·.block)) (kv:=.slice m j _) rfl (d9.o.ag H.o) ((dA.o.ag aN.o).ag H.o) ah (bH.o.t (dL.o.m bH.o.size))
   (P.os.t (O.os.t (o.o.os.t av.o.os))) (P.tape.t (O.tape.t (o.o.tape.t av.o.tape))) (P.output.t (O.output.t (o.o.output.t av.o.output)))
   (λb hb=>(aL.o b hb).1) (FX aba aQ av.o o.o O a9 P cZ) (by rw[ib];exact M.o)
   (by have h:=gJ.o;rw[bf.o,B.o.1]at h;exact h)
   (bI.o.aR λb hb hl=>⟨jd.2 ⟨aaA (ak hb) dD.o,λe=>aaA (ak hb) ((aL.o b e).2)⟩,H.o.block b hl⟩) cO ho)
 clear cO aP aQ aU bU bW aW ah aY bX bY cu C bT z0 z1 z gG y0 y1;go_region_law (first|(refine qi _ aav (.tmp 58) (.tmp 60) _ aav (w.heap.size+3) 29 i0 _ 3 48 cB bu bv bA bB rfl aar _ p _ aav eY.o _ 1 1 _ aav eZ.o eX.o fe.o fo.o bg.o ?_;intro A8 c8 w9 df Q bi)|(refine qi _ aav (.tmp 61) (.tmp 62) _ aav (w.heap.size+3) 29 i0 _ 3 48 cB bu bv bA bB rfl aar _ (p+1) _ aav df _ (j-p) c7 _ aav ((eO.o.ag o.o).grown Q (by rw[bO.o];exact fB.o)) dM.o fw.o fA.o (aG bg.o Q.size) ?_;intro D az kJ dm bn dn;have bq:=((eQ.o.ag o.o).grown Q (by rw[bO.o];exact cK.o)).grown bn (by rw[bf.o A8];exact fu.o A8 _ _ bi);have fD:=bq.cells.2.2;have f10:=bq.free.2.2));all_goals
  have dw:=fC.o A8 D _ _ _ w9 kJ Q bi bn dn dm;have HF:=aa dw;clear dw Q bi bn dn dm df bq fD f10 y2 t0 t1 t2 d1;go_wp2_with fail;go_roundw;case rel=>exact⟨j+1,bF.o,aaw,HF.o⟩
  case measure=>exact aax bF.o):p:=h
theorem acR{p:Prop}(h:p:=by
 go_upto_region 7 with fail;go_quiet (fail);go_wp2_with fail;go_meet;exact⟨_,E,G,rfl,M.o,B.o,aF.o,below_drewN dH.o nq⟩):p:=h
theorem ZU:∀(N:Nat) (t:T) (v:Value) (w:World),t.bE<N->aS w v t->t.bE<=1048576->
 Calls Tryz.prog 89 #[v] w (Ow t.fM w):=by
 intro N;induction N with
 |zero=>intro t v w h;omega
 |succ N ih=>
  intro t v w hN ht gM;cases ht with
  |mk k s A cap d U K h2 h3 h4 hA hU=>
   simp only[T.bE]at hN gM;have iy:d.length<=262144:=(aaz (T.lq d));obtain⟨i0,bu,bv,bA,bB⟩:=dU Tryz.uN;go_enter Tryz.func89,Tryz.ntmps89;go_wp2_with fail;obtain⟨R,L,S,dR,bC⟩:=Q7 w (.int .i64 k) (.string s) (.slice A d.length cap) (.int .i64 0) (.string ⟨#[]⟩) (.slice none 0 0) (.int .i64 k) (.string s) (.slice none 0 0);generalize((w.alloc (.cells #[.int .i64 k,.string s,.slice A d.length cap] 29)).alloc (.cells #[.int .i64 0,.string ⟨#[]⟩,.slice none 0 0] 29)).alloc (.cells #[.int .i64 k,.string s,.slice none 0 0] 29)=w1 at R L S dR bC⊢;have gN:=aa (show LM w k s (.slice A d.length cap) [] w1 from⟨_,R,L,S,bK.nil _ _,dR,aar⟩);obtain⟨IH,gP,gQ⟩:=aac ih hA hU;obtain⟨KS,dx⟩:=aay (d.map T.fM);have fG:KS.length=d.length:=(by rw[<-dx,bZ]);obtain⟨fH,dz⟩:=aab dx fG;have gT:=aa (show T.bJ KS<=1048576 by rw[<-dx,<-T.iA,T.rA];omega);clear R L S dR bC ih hA hU dx fG;go_loopw [4] (λi wr=>∃j:Nat,j<=d.length/\i=.int .i64 j/\LM w k s (.slice A d.length cap) (T.ve k (KS.take j)) wr) (λi _=>d.length-(intOf i).toNat);case atStart=>exact⟨0,aT _,rfl,by have:=gN.o;simpa[T.ve,T.nO]using this⟩
   case round=>
    obtain⟨j,hj,rfl,dS⟩:=hrel;obtain⟨V,rfl⟩:∃V:World,V=wr:=⟨_,rfl⟩;by_cases bP:j<d.length
    ·obtain⟨kv,R,L,S,bD,X,bC⟩:=dS;obtain⟨b,off,B1,C1,rfl,d0,d1,d2,hu⟩:=aS.cells bP gP.o gQ.o;obtain⟨e0,e1,e2⟩:=aak X d0 d1 d2;have hi:(j:Int)<(d.length:Int):=aar;obtain⟨x0,x1,x2⟩:=R.cells;obtain⟨HU,bF⟩:=aab (hu.ag X) bP;have dV:=aa (show d[j].bE<N/\d[j].bE<=1048576 from aaz (T.jq d j bP));obtain⟨gU,dA,gV,dB,bH,dD⟩:=aaf R L S bD X bC;clear d0 d1 d2 hu hj R L S bD X bC;go_wp2_with fail;refine(IH.o _ _ _ dV.o.1 HU.o dV.o.2).m ?_;rintro e w2 ⟨l,C3,rfl,dE,dF⟩;obtain⟨bI,iB⟩:=aab dE dF;go_upto_region 6 with fail;have hq:=ae w2 (.cells #[.int .i64 d[j].fM.aA,.string d[j].fM.aI,.slice l d[j].fM.ay.length C3] 29);have qx:=jy.new w2 (.int .i64 d[j].fM.aA) (.string d[j].fM.aI) (.slice l d[j].fM.ay.length C3);have fI:=aK w2 (.cells #[.int .i64 d[j].fM.aA,.string d[j].fM.aI,.slice l d[j].fM.ay.length C3] 29);generalize w2.alloc _=wq at hq qx fI⊢;obtain⟨x,hx,fJ,gW,fO⟩:∃x,d[j].fM=x/\x.bE<=1048576/\KS.drop j=x::KS.drop (j+1)/\KS.take (j+1)=KS.take j++[x]:=by
      have fP:j<KS.length:=(by rw[dz.o];exact bP);have e:KS[j]=d[j].fM:=by have h:=fH.o;subst h;exact ic ..
      exact⟨_,rfl,by rw[T.Bo];exact dV.o.2,by rw[<-e];exact dN fP,by rw[<-e];exact aZ fP⟩
     rw[hx]at dE qx⊢;have dW:Below V.heap.size V wq:=dF.t (hq.m dF.size);obtain⟨aN,dY,bI⟩:=aac dW qx (dE.aR (w':=wq) (S':=dP V.heap.size) λb hb hl=>⟨hb,hq.block b hl⟩);obtain⟨m,C5,bL,fQ,fT⟩:=dB.o.shape;obtain⟨aO,bQ⟩:=aab bL (gV.o.ag dW);obtain⟨z0,z1,z⟩:=bQ.o.cells;obtain⟨gX,iC⟩:=aab fQ fT;rw[bL]at z;have dZ:(T.ve k (KS.take j)).length=j:=(by unfold T.ve;split<;>(try rw[T.rE])<;>(rw[aX,dz.o];omega));rw[dZ]at z;clear dE dF x0 x1 x2 e0 e1 e2 bL fQ fT hq dW qx fI hx hi;obtain⟨d9,gY,r⟩:=aac (gU.o.ag aN.o) fJ dZ;clear fJ dZ z0 z1 gW;go_upto_block 2 with fail;go_cut [6]from 29 to 48 (λiv wc=>∃(p:Nat) (E G:List T),iv=.int .i64 p/\E.length=p/\qL k (KS.take j) x E G/\T.ve k (KS.take j++[x])=E.reverse++x::G.reverse/\Below wq.heap.size wq wc)
     case first=>
      go_wp2_with fail;go_loopw [6] (λi wr=>∃A G:List T,i=.int .i64 A.length/\qL k (KS.take j) x A G/\Below wq.heap.size wq wr) (λi _=>(intOf i).toNat);case atStart=>exact⟨_,[],by rw[ib,r.o],qL.start _ _ _,aC _ _⟩
      case round=>
       obtain⟨E,G,rfl,bR,bM⟩:=hrel;obtain⟨B,dH⟩:=aab bR bM;obtain⟨x0,x1,x2⟩:=(d9.o.ag bM).cells;obtain⟨z0,z1,z⟩:=(bQ.o.ag bM).cells;obtain⟨t0,t1,t2⟩:=(dY.o.ag bM).cells;rw[aO.o,r.o]at z;obtain⟨p,hp⟩:=aay E.length;have dI:p<=j:=abv;have M:=aa hp;rw[hp];clear hp bR;have h3:k≠7\/(k=7/\E=[])\/(k=7/\∃y A',E=y::A'):=by
        by_cases F:k=7
        ·right;cases E with
         |nil=>left;exact⟨F,rfl⟩
         |cons y A'=>right;exact⟨F,y,A',rfl⟩
        ·left;exact F
       rcases h3 with F|⟨F,Y⟩|⟨F,y,A',Y⟩
       ·have aF:=aa (B.o.exit (λhk=>absurd hk F));have ed:(k==7)=false:=(by rw[aD];exact F);clear F;exact acR
       ·have aF:=aa (B.o.exit (λ_ y A' e=>by rw[Y]at e;cases e));have ed:(k==7)=true:=(by rw[F];rfl);have iD:decide ((0:Int)<(p:Int))=false:=abw;have iE:decide (0<p)=false:=abw;clear F Y;exact acR
       ·have fU:=aa Y;have ed:(k==7)=true:=(by rw[F];rfl);obtain⟨q,hq⟩:=aay A'.length;have fV:p=q+1:=(by have:=M.o;rw[Y]at this;simp at this;omega);have gZ:=dB.o.ag (aN.o.t (bM.m aN.o.size));have bS:=B.o.1;rw[Y]at bS;rcases gZ with⟨_,ig⟩|⟨g,C6,fZ,gm⟩;·rw[ig]at bS;simp at bS
        have gp:=aO.o.symm.t fZ;simp only[rf,Bb]at gp;obtain⟨rfl,rfl⟩:=gp;have ey:(T.ve k (KS.take j))[q]'(by rw[r.o];omega)=y:=by
         simp only[bS,qQ,dC];rw[dh aaV];simp[<-hq]
        obtain⟨A6,C6,c0,c1,c2,ek⟩:=gm.at q (by rw[r.o];omega);rw[ey]at c0 c1 c2 ek;have ik:=aa ek.at
        have il:=aa (bI.o.at.ag bM);have gq:y.bE<=1048576:=by
         have K:=T.jq _ q (show q<(T.ve k (KS.take j)).length by rw[r.o];omega);rw[ey]at K;have h2:T.bJ (T.ve k (KS.take j))<=T.bJ KS:=(by unfold T.ve;split<;>(try rw[T.Ck])<;>exact T.uX _ _);have:=gT.o;omega
        obtain⟨c,eu⟩:=aay (T.cmp y x);have gu:=aa eu;have HC:=aa (λW K h2=>eu▸Zh (y.bE+1) y x (.agg #[.int .i64 y.aA,.string y.aI,.slice A6 y.ay.length C6]) (.agg #[.int .i64 x.aA,.string x.aI,.slice l x.ay.length C3]) W aar K h2 gq gY.o);have p0:(0:Int)<(p:Int):=aar;have iF:decide ((0:Int)<(p:Int))=true:=aM p0;have iG:decide (0<p)=true:=aM aar;have p1:IntKind.i64.wrap ((p:Int)-1)=(q:Int):=(by rw[iL _ (aaz bF.o)];omega);have p2:(0:Int)<=(q:Int):=aar;have p3:(q:Int)<(j:Int):=aar;obtain⟨iq,HQ⟩:=aab fV hq;clear gm bS ek ey gq eu fV hq Y F fZ;go_upto_region 7 with fail
        go_region_held3 (λW=>W.cell? ⟨w.heap.size,0,none⟩=some (.int .i64 k)/\W.cell? ⟨w.heap.size+1+1,2,none⟩=some (.slice (some ⟨g,0,none⟩) j C5)/\W.cell? ⟨g,q*3,none⟩=some (.int .i64 y.aA)/\W.cell? ⟨g,q*3+1,none⟩=some (.string y.aI)/\W.cell? ⟨g,q*3+2,none⟩=some (.slice A6 y.ay.length C6)/\W.cell? ⟨w2.heap.size,0,none⟩=some (.int .i64 x.aA)/\W.cell? ⟨w2.heap.size,1,none⟩=some (.string x.aI)/\W.cell? ⟨w2.heap.size,2,none⟩=some (.slice l x.ay.length C3)/\Below wr.heap.size wr W)
         (first|exact⟨x0,z,c0,c1,c2,t0,t1,t2,aC _ _⟩|exact⟨x0,z,c0,c1,c2,t0,t1,t2,(aC _ _).drew⟩|exact Ml aaK gy|go_keep)
         ((go_at_call 90;refine(HC.o _ ik.o.drew il.o.drew).m ?_;rintro e w5 ⟨rfl,gy⟩))
        rename_i hS;have Z:Below wq.heap.size wq w5:=dH.o.t (hS.2.2.2.2.2.2.2.2.m dH.o.size);clear hS gy c0 c1 c2 x0 x1 x2 z0 z1 z t0 t1 t2;by_cases hc:0<c
        ·have iw:=aa (qL.step (y:=y) (A:=A') (by have:=B.o;rw[fU.o]at this;exact this) (by simpa using ed) (by rw[T.oL,gu.o];omega));have H:=aa Z;clear Z;go_wp2_with fail;go_roundw;case rel=>exact⟨A',G++[y],by rw[HQ.o],iw.o,H.o⟩
         case measure=>exact aax iq.o
        have aF:=aa (B.o.exit (λ_ y' iH e gz=>by
         rw[fU.o]at e;injection e with e1 e2;subst e1;rw[T.oL,gu.o]at gz;omega))
        have gz:c<=0:=aar;clear hc;go_wp2_with fail;go_meet;exact⟨_,E,G,rfl,M.o,B.o,aF.o,Z⟩
     case rest=>
      obtain⟨p,E,G,rfl,hp,bR,gB,Z⟩:=hcut;obtain⟨B,M,aF⟩:=aac bR hp gB;have dI:p<=j:=abv;clear hp bR gB;go_upto_region 9 with fail;generalize wc=wt at Z⊢;have H:=aa Z;have eB:Below V.heap.size V wt:=aN.o.t (Z.m aN.o.size);have gD:=dB.o.ag eB;obtain⟨xs,dJ,dK⟩:=gD.cells;rw[aO.o,r.o]at dJ dK;have eF:∀n c,(Value.slice m n c).ownBlock=m.map (·.block):=λn c=>(by cases m<;>rfl);have gF:∀b,m.map (·.block)=some b->w.heap.size+3<=b/\b<V.heap.size:=λb e=>dB.o.block b (by rw[aO.o,eF];exact e);obtain⟨z0,z1,z⟩:=(bQ.o.ag Z).cells;rw[aO.o,r.o]at z;have gG:=af (ae wt (.cells #[] 29)) z;have gH:=vT (size:=3) (e:=29) wt #[] 0 (base:=wt.heap.size) (ax _) (aT _) rfl;have eG:j<=C5:=(by have:=gX.o;rw[r.o]at this;exact this);have gI:j<=262144:=(aaz bF.o);have bN:=((Src.yO dJ).ag (ae wt (.cells #[] 29))).cut dI eG;have c4:(p:Int)<=(C5:Int):=aar;have c1:(p:Int)<=(j:Int):=aar;have c2:(j:Int)<=(C5:Int):=aar;have c3:(0:Int)<=(p:Int):=aar;obtain⟨HOWN,gJ,gK,bO,aL,dL,dM,I,J⟩:=aai dJ dK gH eF gF eB ((λu (hu:u∈xs.drop (p*3))=>dK.one' u (kM hu))) gI dI;obtain⟨gL,iI⟩:=aab fO eG;clear fO dJ dK gH eF gF gD Z eB gI dI eG;by_cases dO:p=C5
      ·subst dO;rw[aJ rfl]at bN;exact acP
      ·replace dO:¬C5=p:=λe=>dO e.symm;rw[aH dO]at bN;exact acP
    ·obtain rfl:j=d.length:=aar;rw[bG (by rw[dz.o];omega)]at dS;obtain⟨kv,R,L,S,bD,X,bC⟩:=dS;have fE:(T.ve k KS).length=d.length:=(by unfold T.ve;split<;>(try rw[T.rE])<;>exact dz.o);obtain⟨x0,x1,x2⟩:=R.cells;obtain⟨y0,y1,y2⟩:=L.cells;obtain⟨f0,f1,f2⟩:=L.free;obtain⟨z0,z1,z⟩:=S.cells;obtain⟨A4,C4,bL,_,_⟩:=bD.shape;have HN:=aa (show(T.mk k s d).fM=.mk k s (T.ve k KS) by rw[T.Sc,fH.o]);have fF:=aa ((bD.term k s K h2).aR (w':=V) (S':=dP (w.heap.size+1+1)) λb hb _=>⟨by have:=ak hb;exact aM aar,rfl⟩);obtain⟨bH,dA,r⟩:=aac X L fE;rw[bL]at z fF;rw[fE]at z fF;clear bL bD X R L S fE bP;go_wp2_with fail;obtain⟨d0,d1,d2⟩:=(dX dA.o (.int .i64 k) (.string s) (.slice A4 d.length C4)).cells;refine aV (v:=.agg #[.int .i64 k,.string s,.slice A4 d.length C4]) (by simp[results,Tryz.results89,go_sem,d0,d1,d2]) rfl ?_;rw[HN.o];exact rO (t:=.mk k s (T.ve k KS)) _ _ _ bH.o aar rfl rfl (by show _=Value.slice _ (T.ve k KS).length _;rw[r.o]) fF.o
end
section
open Go.RowKit
theorem acQ{p:Prop}(h:p:=by
 exact rO (t:=.mk 0 ⟨#[]⟩ []) (A:=none) (cap:=0) _ _ _ j.o aar rfl rfl rfl (aS.mk 0 ⟨#[]⟩ none 0 [] (λ_=>(undef,undef,undef)) aat aat (ax _) (aT _) (.inl rfl) (λi h=>by simp at h))):p:=h
theorem Wt(t:T)(v:Value)(w:World)(M:aS w v t)(l:t.bE<=1048576):
 Calls Tryz.prog 151 #[v] w (Ow (if t.eZ=true then t.fM else .mk 0 ⟨#[]⟩ []) w):=by
 have m:=aa (λW n r c N O=>Az t v W n l r c N O);have P:=aa (λW n (Q:t.shape=true)=>Y6 (t.bE+1) t v W aar n l Q);obtain⟨q,o⟩:=aay t.eZ;have R:=aa (λ(h:q=true)=>show t.shape=true by rw[<-o]at h;exact(aN.1 h).2);rw[o]at m⊢;clear l o;generalize t.fM=f at*;cases M with
 |mk k s A cap p U S V X Y hA hU=>
  have Z:=aa (aS.mk k s A cap p U S V X Y hA hU);obtain⟨D,u,g,E⟩:=oq w (.int .i64 k) (.string s) (.slice A p.length cap) (.int .i64 0) (.string ⟨#[]⟩) (.slice none 0 0);clear hA hU;go_enter Tryz.func151,Tryz.ntmps151;go_upto_region 1 with fail;generalize(w.alloc (.cells #[.int .i64 k,.string s,.slice A p.length cap] 29)).alloc (.cells #[.int .i64 0,.string ⟨#[]⟩,.slice none 0 0] 29)=w1 at D u g E⊢;have x:=aa (Z.o.ag g);obtain⟨x0,y,z⟩:=D.cells;cases q
  ·go_wp2_with fail;refine(m.o _ x.o false 76 rfl (.inr ⟨rfl,rfl⟩)).m ?_;rintro e F ⟨rfl,a⟩;have d:=u.ag a;obtain⟨G,H,I⟩:=d.cells;obtain⟨f0,f1,f2⟩:=d.free;obtain⟨j,B⟩:=aab (g.t (a.m g.size)) d;clear x0 y z a d;go_wp2_with fail;obtain⟨d0,d1,d2⟩:=(dX B.o (.int .i64 0) (.string ⟨#[]⟩) (.slice none 0 0)).cells;refine aV (v:=.agg #[.int .i64 0,.string ⟨#[]⟩,.slice none 0 0]) (by simp[results,Tryz.results151,go_sem,d0,d1,d2]) rfl ?_;exact acQ
  ·go_wp2_with fail;refine(m.o _ x.o true 0 rfl (.inl ⟨rfl,rfl⟩)).m ?_;rintro e F ⟨rfl,a⟩;obtain⟨G,H,I⟩:=aak a x0 y z;obtain⟨j,ae,ah⟩:=aac (g.t (a.m g.size)) (u.ag a) (x.o.ag a);have J:w.heap.size+2<=F.heap.size:=(aaz a.size);have av:=aa J;clear x0 y z a J E;go_wp2_with fail;refine(P.o _ ah.o (R.o abn)).m ?_;rintro e w3 ⟨K,C3,rfl,L,C⟩;have d:=ae.o.ag C;obtain⟨G,H,I⟩:=d.cells;obtain⟨f0,f1,f2⟩:=d.free;obtain⟨B,az⟩:=aab d (j.o.t (C.m j.o.size));have aB:=aa (L.aR (w':=w3) (S':=dP (w.heap.size+1+1)) λb hb _=>⟨by have:=ak hb;have:=av.o;exact aM aar,rfl⟩);clear L C d;go_wp2_with fail;obtain⟨d0,d1,d2⟩:=(dX B.o (.int .i64 f.aA) (.string f.aI) (.slice K f.ay.length C3)).cells;refine aV (v:=.agg #[.int .i64 f.aA,.string f.aI,.slice K f.ay.length C3]) (by simp[results,Tryz.results151,go_sem,d0,d1,d2]) rfl ?_;exact rO _ _ _ az.o aar rfl rfl rfl aB.o
theorem WL(t:T)(v:Value)(w:World)(M:aS w v t)(l:t.bE<=1048576):
 Calls Tryz.prog 60 #[v] w (Ow (if t.eZ=true then t.fM else .mk 0 ⟨#[]⟩ []) w):=by
 have m:=aa (λW n r c N O=>EU t v W n l r c N O);have P:=aa (λW n (_:t.shape=true)=>ZU (t.bE+1) t v W aar n l );obtain⟨q,o⟩:=aay t.eZ;have Q:=aa (λ(h:q=true)=>show t.shape=true by rw[<-o]at h;exact(aN.1 h).2);rw[o]at m⊢;clear l o;generalize t.fM=f at*;cases M with
 |mk k s A cap p U R S V X hA hU=>
  have Y:=aa (aS.mk k s A cap p U R S V X hA hU);obtain⟨D,u,g,E⟩:=oq w (.int .i64 k) (.string s) (.slice A p.length cap) (.int .i64 0) (.string ⟨#[]⟩) (.slice none 0 0);clear hA hU;go_enter Tryz.func60,Tryz.ntmps60;go_upto_region 1 with fail;generalize(w.alloc (.cells #[.int .i64 k,.string s,.slice A p.length cap] 29)).alloc (.cells #[.int .i64 0,.string ⟨#[]⟩,.slice none 0 0] 29)=w1 at D u g E⊢;have x:=aa (Y.o.ag g);obtain⟨x0,y,z⟩:=D.cells;cases q
  ·go_wp2_with fail;refine(m.o _ x.o false 76 rfl (.inr ⟨rfl,rfl⟩)).m ?_;rintro e F ⟨rfl,a⟩;have d:=u.ag a;obtain⟨G,H,I⟩:=d.cells;obtain⟨f0,f1,f2⟩:=d.free;obtain⟨j,B⟩:=aab (g.t (a.m g.size)) d;clear x0 y z a d;go_wp2_with fail;obtain⟨d0,d1,d2⟩:=(dX B.o (.int .i64 0) (.string ⟨#[]⟩) (.slice none 0 0)).cells;refine aV (v:=.agg #[.int .i64 0,.string ⟨#[]⟩,.slice none 0 0]) (by simp[results,Tryz.results60,go_sem,d0,d1,d2]) rfl ?_;exact acQ
  ·go_wp2_with fail;refine(m.o _ x.o true 0 rfl (.inl ⟨rfl,rfl⟩)).m ?_;rintro e F ⟨rfl,a⟩;obtain⟨G,H,I⟩:=aak a x0 y z;obtain⟨j,Z,ae⟩:=aac (g.t (a.m g.size)) (u.ag a) (x.o.ag a);have J:w.heap.size+2<=F.heap.size:=(aaz a.size);have ah:=aa J;clear x0 y z a J E;go_wp2_with fail;refine(P.o _ ae.o (Q.o abn)).m ?_;rintro e w3 ⟨K,C3,rfl,L,C⟩;have d:=Z.o.ag C;obtain⟨G,H,I⟩:=d.cells;obtain⟨f0,f1,f2⟩:=d.free;obtain⟨B,av⟩:=aab d (j.o.t (C.m j.o.size));have az:=aa (L.aR (w':=w3) (S':=dP (w.heap.size+1+1)) λb hb _=>⟨by have:=ak hb;have:=ah.o;exact aM aar,rfl⟩);clear L C d;go_wp2_with fail;obtain⟨d0,d1,d2⟩:=(dX B.o (.int .i64 f.aA) (.string f.aI) (.slice K f.ay.length C3)).cells;refine aV (v:=.agg #[.int .i64 f.aA,.string f.aI,.slice K f.ay.length C3]) (by simp[results,Tryz.results60,go_sem,d0,d1,d2]) rfl ?_;exact rO _ _ _ av.o aar rfl rfl rfl az.o
end
section
namespace T
theorem J2(x:T)(l:List T):(pq x l).Perm (x::l):=by
 induction l with
 |nil=>exact mQ _
 |cons y r a=>
  simp only[pq];split;·exact(a.cons y).t (List.Perm.swap _ _ _)
  ·exact mQ _
theorem Rv(l:List T):∀a,(l.foldl (λa x=>pq x a) a).Perm (a++l):=by
 induction l with
 |nil=>intro a;simp
 |cons x r b=>
  intro a;rw[lW];refine(b _).t ?_;refine((J2 x a).append_right r).t ?_;exact xO.symm
theorem kG(l:List T):(nO l).Perm l:=by
 unfold nO;exact(nY _).t (by simpa using Rv l [])
theorem J4{a b:T}(h:¬cmp a b<0):cmp b a<=0:=by rw[oL a b];omega
theorem RL{a b c:T}(h:cmp a b<=0)(g:cmp b c<=0):cmp a c<=0:=by
 rcases mY a b with d|d|d
 ·rcases mY b c with e|e|e;·rw[sV a b c d e];decide
  ·rw[<-cmp_eq b c e];exact h
  ·omega
 ·rw[cmp_eq a b d];exact g
 ·omega
theorem RA(x:T)(l:List T)(h:l.Pairwise λa b=>cmp b a<=0):(pq x l).Pairwise λa b=>cmp b a<=0:=by
 induction l with
 |nil=>simp[pq]
 |cons y r e=>
  simp only[pq];rw[fe]at h;split
  ·rename_i f;rw[fe];refine⟨λz c=>?_,e h.2⟩;rcases bM.1 ((J2 x r).mem_iff.1 c)with rfl|c;·omega
   ·exact h.1 z c
  ·rename_i d;rw[fe,fe];refine⟨λz c=>?_,h⟩;rcases bM.1 c with rfl|c;·exact J4 d
   ·exact RL (h.1 z c) (J4 d)
theorem Ru(l:List T):∀c:List T,(c.Pairwise λa b=>cmp b a<=0)->(l.foldl (λc x=>pq x c) c).Pairwise λa b=>cmp b a<=0:=by
 induction l with
 |nil=>intro c h;exact h
 |cons x r d=>intro c h;rw[lW];exact d _ (RA x c h)
theorem Ib(l:List T):(nO l).Pairwise λa b=>cmp a b<=0:=by
 unfold nO;rw[List.pairwise_reverse];exact Ru l [] List.Pairwise.nil
theorem Es:∀(l m:List T),l.Perm m->(l.Pairwise λa b=>cmp a b<=0)->(m.Pairwise λa b=>cmp a b<=0)->l=m
 |[],m,h,_,_=>by rw[List.nil_perm.1 h]
 |a::r,[],h,_,_=>by have:=h.length_eq;simp at this
 |a::r,b::f,h,c,d=>by
  rw[fe]at c d;have e:a=b:=by
   rcases bM.1 (h.mem_iff.1 (eu))with e|g;·exact e
   ·rcases bM.1 (h.mem_iff.2 (eu))with e|hb;·exact e.symm
    ·have j:=c.1 b hb;have i:=d.1 a g;rw[oL a b]at i;exact cmp_eq a b aar
  subst e;rw[Es r f (mR a |>.1 h) c.2 d.2]
theorem xA{l m:List T}(h:l.Perm m):nO l=nO m:=
 Es _ _ ((kG l).t (h.t (kG m).symm)) (Ib l) (Ib m)
mutual
def turn:T->T
 |.mk k s a=>.mk k s (if k=7 then a.reverse else qj a)
def qj:List T->List T
 |[]=>[]
 |t::r=>turn t::qj r
end
mutual
theorem RY:∀t:T,t.turn.fM=t.fM
 |.mk k s a=>by
  simp only[turn,fM];split;·rw[iA,iA,List.map_reverse,xA (nY _)]
  ·rw[DR a]
theorem DR:∀l:List T,fV (qj l)=fV l
 |[]=>rfl
 |t::r=>by simp only[qj,fV,RY t,DR r]
end
mutual
theorem BJ:∀t:T,t.fM.fM=t.fM
 |.mk k s a=>by
  simp only[fM];split
  ·have h:(fV (nO (fV a))).Perm (fV a):=by
    have b:=(kG (fV a)).map fM;rw[<-iA,<-iA,yL a]at b;exact b
   rw[xA h]
  ·rw[yL a]
theorem yL:∀l:List T,fV (fV l)=fV l
 |[]=>rfl
 |t::r=>by simp only[fV,BJ t,yL r]
end
end T
end
section
open Go.RowKit
theorem Zk(t i:T)(v n:Value)(w:World)(f:aS w v t)(g:aS w n i)(hb:t.bE<=1048576)(x:i.bE<=1048576):
 Calls Tryz.prog 57 #[v,n] w λe w'=>e=.returned (.bool (decide (t.cmp i=0)))/\Below w.heap.size w w':=by
 cases f with
 |mk k s A cap a U y z B C hA hU=>
 cases g with
 |mk k' b j l d D E F G H o p=>
  have q:=λW I J=>Zh ((T.mk k s a).bE+1) (.mk k s a) (.mk k' b d) (.agg #[.int .i64 k,.string s,.slice A a.length cap]) (.agg #[.int .i64 k',.string b,.slice j d.length l]) W aar I J hb x;have f:=aS.mk k s A cap a U y z B C hA hU;have g:=aS.mk k' b j l d D E F G H o p;obtain⟨K,L,M⟩:=aac q f g;obtain⟨c,r⟩:=aay ((T.mk k s a).cmp (.mk k' b d));have u:=aa r;clear q f g hA o hU p r;go_enter Tryz.func57,Tryz.ntmps57;go_wp2_with fail;have h:=(vz w (.int .i64 k) (.string s) (.slice A a.length cap) (.int .i64 k') (.string b) (.slice j d.length l) 29).2.2;refine(K.o _ (L.o.ag h) (M.o.ag h)).m ?_;rintro e N ⟨rfl,m⟩;replace m:=h.t (m.m h.size);rw[u.o];go_wp2_with fail;go_ret;exact⟨cO (by rw[u.o,jK,fD,bO]),m⟩
namespace T
def K5(t:T):Bool:=t.eZ&&decide (cmp t t.fM=0)
theorem Bz(t:T):t.K5=true<->t.eZ=true/\t.fM=t:=by
 unfold K5;rw[ah,bO];constructor;·rintro⟨a,b⟩;exact⟨a,(cmp_eq _ _ b).symm⟩
 ·rintro⟨a,b⟩;exact⟨a,by rw[b];exact pQ t⟩
end T
theorem BB{w1 W b:World}{c d e:Addr}{v0 f v2:Value}{a:Value}{g:T}(h:W.cell? c=some v0/\W.cell? d=some f/\W.cell? e=some v2/\aS W a g/\Below w1.heap.size w1 W)
 (hb:Below W.heap.size W b):b.cell? c=some v0/\b.cell? d=some f/\b.cell? e=some v2/\aS b a g/\Below w1.heap.size w1 b:=by
 obtain⟨h0,j,k,l,i⟩:=h;exact⟨af hb h0,af hb j,af hb k,l.ag hb,i.t (hb.m i.size)⟩
theorem UG(t:T)(v:Value)(w:World)(E:aS w v t)(f:t.bE<=1048576):
 Calls Tryz.prog 35 #[v] w λe w'=>e=.returned (.bool t.K5)/\Below w.heap.size w w':=by
 have p:=aa (λW g r c F i=>Az t v W g f r c F i);have z:=aa (λW g (G:t.shape=true)=>Y6 (t.bE+1) t v W aar g f G);have u:=aa (λH W g I=>Nl (t.bE+1) t t.fM v H W aar g I f (by rw[T.Bo];exact f));have B:t.K5=(t.eZ&&decide (T.cmp t t.fM=0)):=rfl;obtain⟨q,x⟩:=aay t.eZ;obtain⟨c,i⟩:=aay (T.cmp t t.fM);have J:=aa (λ(h:q=true)=>show t.shape=true by rw[<-x]at h;exact(aN.1 h).2);rw[B];rw[i]at u⊢;rw[x]at p⊢;clear B f x i;generalize t.fM=V at z u;cases E with
 |mk k s A cap b U L M N O hA hU=>
 have P:=aa (aS.mk k s A cap b U L M N O hA hU);have C:=iQ w (.int .i64 k) (.string s) (.slice A b.length cap) 29;have j:=ae w (.cells #[.int .i64 k,.string s,.slice A b.length cap] 29);clear hA hU;go_enter Tryz.func35,Tryz.ntmps35;go_upto_region 1 with fail;generalize w.alloc _=l at C j⊢;obtain⟨x0,m,n⟩:=C;obtain⟨D,o⟩:=aab (P.o.ag j) j;clear j;cases q
 ·(refine dm (S:=(λW=>W.cell? ⟨w.heap.size,0,none⟩=some (.int .i64 k)/\W.cell? ⟨w.heap.size,1,none⟩=some (.string s)/\W.cell? ⟨w.heap.size,2,none⟩=some (.slice A b.length cap)/\aS W (.agg #[.int .i64 k,.string s,.slice A b.length cap]) (.mk k s b)/\Below l.heap.size l W)) aas (show _/\_/\_/\_/\_ from⟨x0,m,n,D.o.drew,(aC _ _).drew⟩) (λhHeld=>?_));(first|refine dz 0 _ ?_|refine iG 0 ?_);(refine yR 1 λK a=>?_;go_simp;go_at_call 77;refine(p.o _ hHeld.2.2.2.1 false 76 rfl (.inr ⟨rfl,rfl⟩)).m ?_;rintro e w' ⟨rfl,d⟩;refine mZ a (BB hHeld d) λhHeld=>?_;clear a K);(first|refine dz 2 _ ?_|refine iG 2 ?_);(first|refine dz 3 _ ?_|refine iG 3 ?_);(first|refine dz 4 _ ?_|refine iG 4 ?_);(first|refine dz 5 _ ?_|refine iG 5 ?_);(first|refine dz 6 _ ?_|refine iG 6 ?_);(first|refine dz 7 _ ?_|refine iG 7 ?_);(first|refine dz 8 _ ?_|refine iG 8 ?_);(first|refine dz 9 _ ?_|refine iG 9 ?_);(first|refine dz 10 _ ?_|refine iG 10 ?_);refine fB aas ?_ _;have y:=aa (o.o.t (hHeld.2.2.2.2.m o.o.size));clear hHeld x0 m n;go_wp2_with fail;go_ret;exact⟨rfl,y.o⟩
 ·(refine dm (S:=(λW=>W.cell? ⟨w.heap.size,0,none⟩=some (.int .i64 k)/\W.cell? ⟨w.heap.size,1,none⟩=some (.string s)/\W.cell? ⟨w.heap.size,2,none⟩=some (.slice A b.length cap)/\aS W (.agg #[.int .i64 k,.string s,.slice A b.length cap]) (.mk k s b)/\Below l.heap.size l W)) aas (show _/\_/\_/\_/\_ from⟨x0,m,n,D.o.drew,(aC _ _).drew⟩) (λhHeld=>?_));(first|refine dz 0 _ ?_|refine iG 0 ?_);(refine yR 1 λK a=>?_;go_simp;go_at_call 77;refine(p.o _ hHeld.2.2.2.1 true 0 rfl (.inl ⟨rfl,rfl⟩)).m ?_;rintro e w' ⟨rfl,d⟩;refine mZ a (BB hHeld d) λhHeld=>?_;clear a K);(first|refine dz 2 _ ?_|refine iG 2 ?_);(first|refine dz 3 _ ?_|refine iG 3 ?_);(first|refine dz 4 _ ?_|refine iG 4 ?_);(first|refine dz 5 _ ?_|refine iG 5 ?_);(refine yR 6 λK a=>?_;go_simp;go_at_call 79;refine(z.o _ hHeld.2.2.2.1 (J.o rfl)).m ?_;rintro e w' ⟨X,C3,rfl,Q,d⟩;have R:=aa Q.at;refine mZ a (BB hHeld d) λhHeld=>?_;clear a K);(refine yR 7 λK a=>?_;go_simp;go_at_call 63;refine(u.o _ _ hHeld.2.2.2.1 R.o).m ?_;rintro e w' ⟨rfl,d⟩;refine mZ a (BB hHeld d) λhHeld=>?_;clear a K);(first|refine dz 8 _ ?_|refine iG 8 ?_);(first|refine dz 9 _ ?_|refine iG 9 ?_);(first|refine dz 10 _ ?_|refine iG 10 ?_);refine fB aas ?_ _;have y:=aa (o.o.t (hHeld.2.2.2.2.m o.o.size));clear hHeld x0 m n;go_wp2_with fail;go_ret;exact⟨cO (by first|rfl|simp),y.o⟩
def strOf(l:List UInt8):ByteArray:=⟨l.toArray⟩
theorem y7(l:List UInt8):(strOf l).size=l.length:=I9 l
theorem tK(l:List UInt8):(strOf l).data.toList=l:=by simp[strOf]
namespace T
def kr(k:Int):List UInt8:=if k=4 then [104,97,115,104] else if k=5 then [115,101,97,108] else if k=6 then [115,105,103,110] else [112,111,119,101,114]
mutual
def gK:T->List UInt8
 |.mk k s a=>if k=1 then s.data.toList else if k=2 then 63::s.data.toList else if k=3 then [60]++eY a++[62] else kr k++[40]++eY a++[41]
def eY:List T->List UInt8
 |[]=>[]
 |t::r=>gK t++jh r
def jh:List T->List UInt8
 |[]=>[]
 |t::r=>[44,32]++gK t++jh r
end
theorem Cv:∀l:List T,jh l=Lib.joinTail [44,32] (l.map gK)
 |[]=>rfl
 |t::r=>by simp[jh,Lib.joinTail,Cv r]
theorem LB:∀l:List T,eY l=Lib.join (l.map gK) [44,32]
 |[]=>rfl
 |t::r=>by rw[jH,Lib.join_cons,<-Cv];rfl
theorem JX(k:Int):(kr k).length<=5:=by
 unfold kr;repeat' split
 all_goals simp
mutual
theorem Ba:∀t:T,t.gK.length+2<=3*t.bE
 |.mk k s a=>by
  have h:=F8 a;have h':=JX k;simp only[gK,bE]
  repeat' split
  all_goals simp<;>omega
theorem F8:∀l:List T,(eY l).length<=3*bJ l
 |[]=>by simp[eY]
 |t::r=>by
  have h:=Ba t;have h':=Eo r;simp only[eY,bJ,aF];omega
theorem Eo:∀l:List T,(jh l).length<=3*bJ l
 |[]=>by simp[jh]
 |t::r=>by
  have h:=Ba t;have h':=Eo r;simp only[jh,bJ,aF,bg,fE];omega
end
end T
theorem Zb(k:Int)(w:World):Calls Tryz.prog 175 #[.int .i64 k] w λe w'=>e=.returned (.string ⟨(T.kr k).toArray⟩)/\w=w':=by
 have d:(k=4/\T.kr k=[104,97,115,104])\/(k=5/\T.kr k=[115,101,97,108])\/(k=6/\T.kr k=[115,105,103,110])\/(((k==4)=false/\(k==5)=false/\(k==6)=false)/\T.kr k=[112,111,119,101,114]):=by
  unfold T.kr;by_cases a:k=4;·left;exact⟨a,by rw[aJ a]⟩
  by_cases b:k=5;·right;left;exact⟨b,by rw[aH a,aJ b]⟩
  by_cases c:k=6;·right;right;left;exact⟨c,by rw[aH a,aH b,aJ c]⟩
  ·right;right;right;refine⟨⟨?_,?_,?_⟩,by rw[aH a,aH b,aH c]⟩<;>(rw[aD];assumption)
 rcases d with⟨rfl,e⟩|⟨rfl,e⟩|⟨rfl,e⟩|⟨⟨f,g,h⟩,e⟩;all_goals
  have E:=aa e;clear e;go_enter Tryz.func175,Tryz.ntmps175;go_wp2;go_ret;exact⟨nM (by rw[E.o]),rfl⟩
end
section
namespace T
def key(t:T):ByteArray:=if t.eZ=true then strOf t.gK else ⟨#[]⟩
def qz:T:=.mk 0 ⟨#[]⟩ []
def eT(t:T)(i:Nat):T:=t.ay.getD i qz
def iF(t:T)(i:Nat):T:=.mk 7 ⟨#[]⟩ (t.ay.eraseIdx i)
end T
structure fG where
 t:T
 how:Nat
 jw:List Nat
 part:Bool
namespace Wb
def find(W:List fG)(t:T):Option Nat:=W.findIdx? λs=>decide (s.t.key=t.key)
def add(W:List fG)(t:T)(how:Nat)(jw:List Nat):List fG×Nat:=
 match find W t with
 |some i=>(W,i)
 |none=>(W++[⟨t,how,jw,false⟩],W.length)
def partAt(W:List fG)(i:Nat):Bool:=(W[i]?.map fG.part).getD false
def mark(W:List fG)(i:Nat):List fG:=W.modify i λs=>{ s with part:=true }
def take(W:List fG)(t:T)(how:Nat)(jw:List Nat):List fG×Bool:=
 if partAt (add W t how jw).1 (add W t how jw).2=true then ((add W t how jw).1,false) else (mark (add W t how jw).1 (add W t how jw).2,true)
def both(rec:List fG->T->List fG×Option Nat)(W:List fG)(t:T)(how:Nat):List fG×Option Nat:=
 match (rec W (t.eT 0)).2 with
 |none=>((rec W (t.eT 0)).1,none)
 |some a=>
  match (rec (rec W (t.eT 0)).1 (t.eT 1)).2 with
  |none=>((rec (rec W (t.eT 0)).1 (t.eT 1)).1,none)
  |some b=>((add (rec (rec W (t.eT 0)).1 (t.eT 1)).1 t how [a,b]).1,some (add (rec (rec W (t.eT 0)).1 (t.eT 1)).1 t how [a,b]).2)
def pow(rec:List fG->T->List fG×Option Nat)(t:T):Nat->Nat->List fG->List fG×Option Nat
 |0,_,W=>(W,none)
 |f+1,i,W=>
  match find W (t.eT i)with
  |none=>pow rec t f (i+1) W
  |some nm=>
   if t.ay.length=1 then ((add W t 11 [nm]).1,some (add W t 11 [nm]).2)
   else match (rec W (t.iF i)).2 with
    |none=>pow rec t f (i+1) (rec W (t.iF i)).1
    |some p=>((add (rec W (t.iF i)).1 t 10 [p,nm]).1,some (add (rec W (t.iF i)).1 t 10 [p,nm]).2)
def build:Nat->List fG->T->List fG×Option Nat
 |0,W,_=>(W,none)
 |n+1,W,t=>
  match find W t with
  |some i=>(W,some i)
  |none=>
   if t.aA=4 then
    match (build n W (t.eT 0)).2 with
    |none=>((build n W (t.eT 0)).1,none)
    |some m=>((add (build n W (t.eT 0)).1 t 7 [m]).1,some (add (build n W (t.eT 0)).1 t 7 [m]).2)
   else if t.aA=3 then both (build n) W t 6
   else if t.aA=5 then both (build n) W t 8
   else if t.aA=6 then both (build n) W t 9
   else if t.aA=7 then pow (build n) t t.ay.length 0 W
   else (W,none)
def Ci(W:List fG)(t:T):List fG×Option Nat:=build (t.bE+1) W t
def rU(W:List fG)(i:Nat):T:=(W[i]?.map fG.t).getD T.qz
def apart(W:List fG)(i:Nat):List fG×Bool:=
 let t:=rU W i
 if t.aA=3 then ((take (take W (t.eT 0) 2 [i]).1 (t.eT 1) 3 [i]).1,(take (take W (t.eT 0) 2 [i]).1 (t.eT 1) 3 [i]).2||(take W (t.eT 0) 2 [i]).2)
 else if t.aA=6 then take W (t.eT 1) 5 [i]
 else if t.aA=5 then
  if (find W (t.eT 1)).any (λm=>partAt W m)=true then (W,false)
  else match (Ci W (t.eT 0)).2 with
   |none=>((Ci W (t.eT 0)).1,false)
   |some k=>take (Ci W (t.eT 0)).1 (t.eT 1) 4 [i,k]
 else (W,false)
def yh:Nat->Nat->Bool->List fG->List fG×Bool
 |0,_,m,W=>(W,m)
 |f+1,i,m,W=>
  if i<W.length then
   if partAt W i=true then yh f (i+1) (m||(apart W i).2) (apart W i).1 else yh f (i+1) m W
  else (W,m)
def run(U:Nat):Nat->List fG->List fG
 |0,W=>W
 |f+1,W=>if (yh U 0 false W).2=true then run U f (yh U 0 false W).1 else (yh U 0 false W).1
def start(a:List T):List fG:=a.foldl (λW t=>(take W t 1 []).1) []
end Wb
end
end Go.Proofs.YtaciciokmpbkkaaGreatDoor
