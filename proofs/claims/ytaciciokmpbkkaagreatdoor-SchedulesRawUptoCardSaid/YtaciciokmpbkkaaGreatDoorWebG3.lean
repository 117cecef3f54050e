import Derived.Test.YtaciciokmpbkkaaGreatDoorWebG2
import Derived.Deep.CutBlock
import Derived.Test.YtaciciokmpbkkaaGreatDoorShelf
set_option maxRecDepth 100000
set_option maxHeartbeats 16000000
namespace Go.Proofs.YtaciciokmpbkkaaGreatDoor
section
open Go.RowKit
attribute [local go_sem ↓] Go.wp_at_zero Go.wp_at_succ
namespace T
def uU(k:Int)(l:List T):List T:=if k=7 then nT l else l
theorem RD(k:Int)(s:ByteArray)(a:List T):(T.mk k s a).fK=.mk k s (uU k (a.map fK)):=by
 simp only[fK,uU,iF]
end T
def qJ(k:Int)(l:List T)(x:T)(A a:List T):Prop:=
 T.uU k l=A.reverse++a.reverse/\(k=7->l.foldl (λb x=>T.o8 x b) []=a++A/\T.o8 x (l.foldl (λb x=>T.o8 x b) [])=a++T.o8 x A)/\(k≠7->a=[])
theorem qJ.start(k:Int)(l:List T)(x:T):qJ k l x (T.uU k l).reverse []:=
 ⟨by simp,λh=>by unfold T.uU;rw[aI h];simp[T.nT],λ_=>rfl⟩
theorem qJ.step{k:Int}{l:List T}{x y:T}{A a:List T}(h:qJ k l x (y::A) a)(b:k=7)(c:T.cmp x y<0):qJ k l x A (a++[y]):=by
 obtain⟨d,e,i⟩:=h;obtain⟨f,g⟩:=e b;refine⟨by rw[d];simp,λ_=>⟨by rw[f];simp,by rw[g];simp only[T.o8];rw[aI c];simp⟩,λh=>absurd b h⟩
theorem qJ.exit{k:Int}{l:List T}{x:T}{A c:List T}(h:qJ k l x A c)(d:k=7->∀y A',A=y::A'->¬T.cmp x y<0):T.uU k (l++[x])=A.reverse++x::c.reverse:=by
 obtain⟨b,e,f⟩:=h;by_cases a:k=7
 ·obtain⟨i,g⟩:=e a;unfold T.uU T.nT;rw[aI a,kQ];show(T.o8 x _).reverse=_;rw[g];cases A with
  |nil=>simp[T.o8]
  |cons y A'=>simp only[T.o8];rw[aG (d a y A' rfl)];simp
 ·have:=f a;subst this;unfold T.uU at b⊢;rw[aG a]at b⊢;rw[b];simp
def K9(w:World)(k:Int)(s:ByteArray)(ay:Value)(L:List T)(wr:World):Prop:=
 ∃kv,jM wr w.heap.size (.int .i64 k) (.string s) ay/\jM wr (w.heap.size+1) (.int .i64 0) (.string ⟨#[]⟩) (.slice none 0 0)/\jM wr (w.heap.size+1+1) (.int .i64 k) (.string s) kv/\
  bK wr (w.heap.size+3) kv L/\Below w.heap.size w wr/\w.heap.size+3<=wr.heap.size
theorem QC(w:World)(a b c a' b' d e f g:Value):jM (((w.alloc (.cells #[a,b,c] 29)).alloc (.cells #[a',b',d] 29)).alloc (.cells #[e,f,g] 29)) w.heap.size a b c/\
 jM (((w.alloc (.cells #[a,b,c] 29)).alloc (.cells #[a',b',d] 29)).alloc (.cells #[e,f,g] 29)) (w.heap.size+1) a' b' d/\
 jM (((w.alloc (.cells #[a,b,c] 29)).alloc (.cells #[a',b',d] 29)).alloc (.cells #[e,f,g] 29)) (w.heap.size+1+1) e f g/\
 Below w.heap.size w (((w.alloc (.cells #[a,b,c] 29)).alloc (.cells #[a',b',d] 29)).alloc (.cells #[e,f,g] 29))/\
 (((w.alloc (.cells #[a,b,c] 29)).alloc (.cells #[a',b',d] 29)).alloc (.cells #[e,f,g] 29)).heap.size=w.heap.size+3:=by
 obtain⟨j,k,l,h⟩:=rz w a b c a' b' d;have hb:=af ((w.alloc (.cells #[a,b,c] 29)).alloc (.cells #[a',b',d] 29)) (.cells #[e,f,g] 29);have i:=jM.new ((w.alloc (.cells #[a,b,c] 29)).alloc (.cells #[a',b',d] 29)) e f g;rw[h]at i;exact⟨j.ag hb,k.ag hb,i,l.t (hb.m (by rw[h];omega)),by rw[aK,h]⟩
theorem Src.boxed(w:World)(a b c:Value):Src (w.alloc (.cells #[a,b,c] 29)) 3 (some ⟨w.heap.size,0,none⟩) 1 [a,b,c]:=by
 refine⟨rfl,.inr ⟨_,0,rfl,λj u hu=>?_⟩⟩;obtain⟨h0,d,e⟩:=(jM.new w a b c).cells;rw[dJ]
 match j,hu with
 |0,hu=>exact h0.t hu
 |1,hu=>exact d.t hu
 |2,hu=>exact e.t hu
theorem LC{w1 W a:World}{b c d e f g i j:Addr}{v0 k v2 v3 v4 v5 l m:Value}(h:W.cell? b=some v0/\W.cell? c=some k/\W.cell? d=some v2/\W.cell? e=some v3/\W.cell? f=some v4/\W.cell? g=some v5/\W.cell? i=some l/\W.cell? j=some m/\Below w1.heap.size w1 W)
 (hb:Below W.heap.size W a):a.cell? b=some v0/\a.cell? c=some k/\a.cell? d=some v2/\a.cell? e=some v3/\a.cell? f=some v4/\a.cell? g=some v5/\a.cell? i=some l/\a.cell? j=some m/\Below w1.heap.size w1 a:=by
 obtain⟨h0,o,p,q,r,s,t,u,n⟩:=h;exact⟨ae hb h0,ae hb o,ae hb p,ae hb q,ae hb r,ae hb s,ae hb t,ae hb u,n.t (hb.m n.size)⟩
theorem Fy{wt c w7 w8 w9 kP:World}{a5 a d:Option Nat}(p:c.heap.size=wt.heap.size+1)(m:∀b,b<wt.heap.size->c.heap[b]?=wt.heap[b]?)(f:c.grownBy w7 (some wt.heap.size))
 (g:Below w7.heap.size w7 w8) (i:w8.grownBy w9 a5) (n:a=a5\/a=some w8.heap.size) (j:w9.grownBy kP a) (o:d=a\/d=some w9.heap.size):
 (∀b,b<wt.heap.size->a5≠some b->kP.heap[b]?=wt.heap[b]?/\d≠some b)/\wt.heap.size<=kP.heap.size:=by
 have q:=f.size;have r:=g.size;have z9:=i.size;have s:=j.size;refine⟨λb hb k=>?_,by omega⟩;have l:a≠some b:=λe=>by
  rcases n with h|h;·exact k (by rw[<-h];exact e)
  ·rw[h]at e;injection e with e;omega
 refine⟨?_,λe=>?_⟩;·rw[j.block b (by omega) (λe=>l e.symm),i.block b (by omega) (λe=>k e.symm),g.block b (by omega),f.block b (by omega) (λe=>by have t:b=wt.heap.size:=aA e;omega),m b hb]
 ·rcases o with h|h;·exact l (by rw[<-h];exact e)
  ·rw[h]at e;injection e with e;omega
theorem IB{w wt kP:World}{k:Int}{s:ByteArray}{ay kv:Value}{base:Nat}{a5:Option Nat}{a:Option Addr}{d g:Nat}{P Q:List T}{x:T}{xs:List Value}{u0 u1 u2:Value}{p:Nat}
 (o:base=w.heap.size+3) (j:jM wt w.heap.size (.int .i64 k) (.string s) ay) (l:jM wt (w.heap.size+1) (.int .i64 0) (.string ⟨#[]⟩) (.slice none 0 0)) (h:jM wt (w.heap.size+1+1) (.int .i64 k) (.string s) kv)
 (hb:Below w.heap.size w wt) (q:kP.os=wt.os) (r:kP.tape=wt.tape) (t:kP.output=wt.output) (u:∀b,a5=some b->base<=b)
 (c:(∀b,b<wt.heap.size->a5≠some b->kP.heap[b]?=wt.heap[b]?/\a.map (·.block)≠some b)/\wt.heap.size<=kP.heap.size)
 (i:P.length=p) (m:CT (but base a5) wt xs (P++Q)) (v:bN (but base a5) wt (.agg #[u0,u1,u2]) x) (y:d=(P++x::Q).length)
 (A:kP.ownsRow base 29 3 (.slice a d g) d (xs.take (p*3)++[u0,u1,u2]++xs.drop (p*3))):
 K9 w k s ay (P++x::Q) (kP.setCell ⟨w.heap.size+1+1,2,none⟩ (.slice a d g)):=by
 subst o;subst y;have f:∀b,b<w.heap.size+3->a5≠some b:=λb hb e=>(by have:=u b e;omega);have k0:=(c.1 w.heap.size j.lt (f _ (by omega))).1;have B:=(c.1 (w.heap.size+1) l.lt (f _ (by omega))).1;have C:=(c.1 (w.heap.size+1+1) h.lt (f _ (by omega))).1;have z:=h.lt;have D:CT (but (w.heap.size+3) (a.map (·.block))) kP (xs.take (p*3)++[u0,u1,u2]++xs.drop (p*3)) (P++x::Q):=by
  have c1:=m.take p;have c2:=m.drop p;rw[<-i,vC]at c1;rw[<-i,zw]at c2;have c3:=(c1.append (CT.one v)).append c2;rw[i]at c3;rw[dA P [x] Q]at c3;refine c3.aR λb hb E=>?_;obtain⟨F,G⟩:=ja.1 hb;obtain⟨g3,g4⟩:=c.1 b E G;exact⟨ja.2 ⟨F,g4⟩,g3⟩
 have H:(Value.slice a (P++x::Q).length g).ownBlock=a.map (·.block):=(by cases a<;>rfl);refine⟨_,((show jM kP _ _ _ _ from k0.t j)).setOther (by simp;omega) _,((show jM kP _ _ _ _ from B.t l)).setOther (by simp) _,(show jM kP _ _ _ _ from C.t h).Bv _,?_,?_,?_⟩;·exact(bK.of A (by rw[H];exact D)).aR λb hb _=>aM _ _ _ _ (by show b≠w.heap.size+1+1;omega)
 ·refine Below.setCell ⟨q.t hb.os,r.t hb.tape,t.t hb.output,aD hb.size c.2,λb n=>?_⟩ (by show w.heap.size<=w.heap.size+1+1;omega) _;rw[(c.1 b (dF n hb.size) (f _ (by omega))).1];exact hb.block b n
 ·have:=c.2;simp[World.setCell];omega
theorem Zw:∀(N:Nat) (t:T) (v:Value) (w:World),t.bC<N->aO w v t->t.bC<=1048576->
 Calls Tryz.prog 89 #[v] w (Qu t.fK w):=by
 intro N;induction N with
 |zero=>intro t v w h;omega
 |succ N ih=>
  intro t v w hN ht gP;cases ht with
  |mk k s A cap d U K h2 h3 h4 hA hU=>
   simp only[T.bC]at hN gP;have iB:d.length<=262144:=(by have:=T.kN d;omega);obtain⟨i0,bu,bv,bA,bB⟩:=dV Tryz.uI;go_enter Tryz.func89,Tryz.ntmps89;go_wp2_with fail;obtain⟨R,L,S,dS,bD⟩:=QC w (.int .i64 k) (.string s) (.slice A d.length cap) (.int .i64 0) (.string ⟨#[]⟩) (.slice none 0 0) (.int .i64 k) (.string s) (.slice none 0 0);generalize((w.alloc (.cells #[.int .i64 k,.string s,.slice A d.length cap] 29)).alloc (.cells #[.int .i64 0,.string ⟨#[]⟩,.slice none 0 0] 29)).alloc (.cells #[.int .i64 k,.string s,.slice none 0 0] 29)=w1 at R L S dS bD⊢;have gQ:=aa (show K9 w k s (.slice A d.length cap) [] w1 from⟨_,R,L,S,bK.nil _ _,dS,by omega⟩);obtain⟨IH,gT,gV⟩:=ZR ih hA hU;obtain⟨KS,dB⟩:∃KS,d.map T.fK=KS:=⟨_,rfl⟩;have fG:KS.length=d.length:=(by rw[<-dB,df]);obtain⟨fH,dC⟩:=ZQ dB fG;have gW:=aa (show T.bE KS<=1048576 by rw[<-dB,<-T.iF,T.rA];omega);clear R L S dS bD ih hA hU dB fG;go_loopw [4] (λi wr=>∃j:Nat,j<=d.length/\i=.int .i64 j/\K9 w k s (.slice A d.length cap) (T.uU k (KS.take j)) wr) (λi _=>d.length-(intOf i).toNat);case atStart=>exact⟨0,aL _,rfl,by have:=gQ.o;simpa[T.uU,T.nT]using this⟩
   case round=>
    obtain⟨j,hj,rfl,dU⟩:=hrel;obtain⟨V,rfl⟩:∃V:World,V=wr:=⟨_,rfl⟩;by_cases bQ:j<d.length
    ·obtain⟨kv,R,L,S,bF,X,bD⟩:=dU;obtain⟨b,off,B1,C1,rfl,d0,d1,d2,hu⟩:=aO.cells bQ gT.o gV.o;obtain⟨e0,e1,e2⟩:=Z0 X d0 d1 d2;have hi:(j:Int)<(d.length:Int):=(by omega);obtain⟨x0,x1,x2⟩:=R.cells;obtain⟨HU,bH⟩:=ZQ (hu.ag X) bQ;have dW:=aa (show d[j].bC<N/\d[j].bC<=1048576 by have:=T.iQ d j bQ;omega);obtain⟨gX,dD,gY,dE,bI,dF⟩:=ZV R L S bF X bD;clear d0 d1 d2 hu hj R L S bF X bD;go_wp2_with fail;refine(IH.o _ _ _ dW.o.1 HU.o dW.o.2).m ?_;rintro e w2 ⟨l,C3,rfl,dG,dH⟩;obtain⟨bJ,iC⟩:=ZQ dG dH;go_upto_region 6 with fail;have hq:=af w2 (.cells #[.int .i64 d[j].fK.aC,.string d[j].fK.aJ,.slice l d[j].fK.ay.length C3] 29);have qx:=jM.new w2 (.int .i64 d[j].fK.aC) (.string d[j].fK.aJ) (.slice l d[j].fK.ay.length C3);have fI:=aK w2 (.cells #[.int .i64 d[j].fK.aC,.string d[j].fK.aJ,.slice l d[j].fK.ay.length C3] 29);generalize w2.alloc (.cells #[.int .i64 d[j].fK.aC,.string d[j].fK.aJ,.slice l d[j].fK.ay.length C3] 29)=wq at hq qx fI⊢;obtain⟨x,hx,fM,gZ,fO⟩:∃x,d[j].fK=x/\x.bC<=1048576/\KS.drop j=x::KS.drop (j+1)/\KS.take (j+1)=KS.take j++[x]:=by
      have fP:j<KS.length:=(by rw[dC.o];exact bQ);have e:KS[j]=d[j].fK:=by have h:=fH.o;subst h;exact gz ..
      exact⟨_,rfl,by rw[T.xV];exact dW.o.2,by rw[<-e];exact dN fP,by rw[<-e];exact aV fP⟩
     rw[hx]at dG qx⊢;have dX:Below V.heap.size V wq:=dH.t (hq.m dH.size);obtain⟨aN,dY,bJ⟩:=ZR dX qx (dG.aR (w':=wq) (S':=eG V.heap.size) λb hb hl=>⟨hb,hq.block b hl⟩);obtain⟨m,C5,bL,fQ,fT⟩:=dE.o.shape;obtain⟨aP,bR⟩:=ZQ bL (gY.o.ag dX);obtain⟨z0,z1,z⟩:=bR.o.cells;obtain⟨ib,iD⟩:=ZQ fQ fT;rw[bL]at z;have dZ:(T.uU k (KS.take j)).length=j:=(by unfold T.uU;split<;>(try rw[T.rE])<;>(rw[aW,dC.o];omega));rw[dZ]at z;clear dG dH x0 x1 x2 e0 e1 e2 bL fQ fT hq dX qx fI hx hi;obtain⟨d9,ic,r⟩:=ZR (gX.o.ag aN.o) fM dZ;clear fM dZ z0 z1 gZ;go_upto_block 2 with fail;go_cut [6]from 29 to 48 (λiv wc=>∃(p:Nat) (E G:List T),iv=.int .i64 p/\E.length=p/\qJ k (KS.take j) x E G/\T.uU k (KS.take j++[x])=E.reverse++x::G.reverse/\Below wq.heap.size wq wc)
     case first=>
      go_wp2_with fail;go_loopw [6] (λi wr=>∃A G:List T,i=.int .i64 A.length/\qJ k (KS.take j) x A G/\Below wq.heap.size wq wr) (λi _=>(intOf i).toNat);case atStart=>exact⟨_,[],by rw[iq,r.o],qJ.start _ _ _,az _ _⟩
      case round=>
       obtain⟨E,G,rfl,bS,bN⟩:=hrel;obtain⟨B,dI⟩:=ZQ bS bN;obtain⟨x0,x1,x2⟩:=(d9.o.ag bN).cells;obtain⟨z0,z1,z⟩:=(bR.o.ag bN).cells;obtain⟨t0,t1,t2⟩:=(dY.o.ag bN).cells;rw[aP.o,r.o]at z;obtain⟨p,hp⟩:∃p,E.length=p:=⟨_,rfl⟩;have dK:p<=j:=(by have:=bY List.length B.o.1;rw[r.o]at this;simp at this;omega);have M:=aa hp;rw[hp];clear hp bS;have h3:k≠7\/(k=7/\E=[])\/(k=7/\∃y A',E=y::A'):=by
        by_cases F:k=7
        ·right;cases E with
         |nil=>left;exact⟨F,rfl⟩
         |cons y A'=>right;exact⟨F,y,A',rfl⟩
        ·left;exact F
       rcases h3 with F|⟨F,Y⟩|⟨F,y,A',Y⟩
       ·have aH:=aa (B.o.exit (λhk=>absurd hk F));have ed:(k==7)=false:=(by rw[aB];exact F);clear F;go_upto_region 7 with fail;go_quiet (fail);go_wp2_with fail;go_meet;exact⟨_,E,G,rfl,M.o,B.o,aH.o,below_drewN dI.o nq⟩
       ·have aH:=aa (B.o.exit (λ_ y A' e=>by rw[Y]at e;cases e));have ed:(k==7)=true:=(by rw[F];rfl);have iE:decide ((0:Int)<(p:Int))=false:=(by have:=M.o;rw[Y]at this;simp at this;rw[<-this];rfl);have iG:decide (0<p)=false:=(by have:=M.o;rw[Y]at this;simp at this;rw[<-this];rfl);clear F Y;go_upto_region 7 with fail;go_quiet (fail);go_wp2_with fail;go_meet;exact⟨_,E,G,rfl,M.o,B.o,aH.o,below_drewN dI.o nq⟩
       ·have fU:=aa Y;have ed:(k==7)=true:=(by rw[F];rfl);obtain⟨q,hq⟩:∃q,A'.length=q:=⟨_,rfl⟩;have fV:p=q+1:=(by have:=M.o;rw[Y]at this;simp at this;omega);have ig:=dE.o.ag (aN.o.t (bN.m aN.o.size));have bU:=B.o.1;rw[Y]at bU;rcases ig with⟨_,ik⟩|⟨g,C6,fZ,gm⟩;·rw[ik]at bU;simp at bU
        have gp:=aP.o.symm.t fZ;simp only[q9,Aw]at gp;obtain⟨rfl,rfl⟩:=gp;have ey:(T.uU k (KS.take j))[q]'(by rw[r.o];omega)=y:=by
         simp only[bU,qO,dA];rw[dm (by simp;omega)];simp[<-hq]
        obtain⟨A6,C6,c0,c1,c2,ek⟩:=gm.at q (by rw[r.o];omega);rw[ey]at c0 c1 c2 ek;have il:=aa ek.at
        have iw:=aa (bJ.o.at.ag bN);have gq:y.bC<=1048576:=by
         have K:=T.iQ _ q (show q<(T.uU k (KS.take j)).length by rw[r.o];omega);rw[ey]at K;have h2:T.bE (T.uU k (KS.take j))<=T.bE KS:=(by unfold T.uU;split<;>(try rw[T.BL])<;>exact T.o7 _ _);have:=gW.o;omega
        obtain⟨c,eu⟩:∃c,T.cmp y x=c:=⟨_,rfl⟩;have gu:=aa eu;have HC:=aa (λW K h2=>eu▸Yc (y.bC+1) y x (.agg #[.int .i64 y.aC,.string y.aJ,.slice A6 y.ay.length C6]) (.agg #[.int .i64 x.aC,.string x.aJ,.slice l x.ay.length C3]) W (by omega) K h2 gq ic.o);have p0:(0:Int)<(p:Int):=(by omega);have iH:decide ((0:Int)<(p:Int))=true:=aQ p0;have iI:decide (0<p)=true:=aQ (by omega);have p1:IntKind.i64.wrap ((p:Int)-1)=(q:Int):=(by rw[jc _ (by have:=bH.o;omega)];omega);have p2:(0:Int)<=(q:Int):=(by omega);have p3:(q:Int)<(j:Int):=(by omega);obtain⟨iy,HQ⟩:=ZQ fV hq;clear gm bU ek ey gq eu fV hq Y F fZ;go_upto_region 7 with fail
        go_region_held3 (λW=>W.cell? ⟨w.heap.size,0,none⟩=some (.int .i64 k)/\W.cell? ⟨w.heap.size+1+1,2,none⟩=some (.slice (some ⟨g,0,none⟩) j C5)/\W.cell? ⟨g,q*3,none⟩=some (.int .i64 y.aC)/\W.cell? ⟨g,q*3+1,none⟩=some (.string y.aJ)/\W.cell? ⟨g,q*3+2,none⟩=some (.slice A6 y.ay.length C6)/\W.cell? ⟨w2.heap.size,0,none⟩=some (.int .i64 x.aC)/\W.cell? ⟨w2.heap.size,1,none⟩=some (.string x.aJ)/\W.cell? ⟨w2.heap.size,2,none⟩=some (.slice l x.ay.length C3)/\Below wr.heap.size wr W)
         (first|exact⟨x0,z,c0,c1,c2,t0,t1,t2,az _ _⟩|exact⟨x0,z,c0,c1,c2,t0,t1,t2,(az _ _).drew⟩|exact LC (by assumption) gy|go_keep)
         ((go_at_call 90;refine(HC.o _ il.o.drew iw.o.drew).m ?_;rintro e w5 ⟨rfl,gy⟩))
        rename_i hS;have Z:Below wq.heap.size wq w5:=dI.o.t (hS.2.2.2.2.2.2.2.2.m dI.o.size);clear hS gy c0 c1 c2 x0 x1 x2 z0 z1 z t0 t1 t2;by_cases hc:0<c
        ·have iA:=aa (qJ.step (y:=y) (A:=A') (by have:=B.o;rw[fU.o]at this;exact this) (by simpa using ed) (by rw[T.oK,gu.o];omega));have H:=aa Z;clear Z;go_wp2_with fail;go_roundw;case rel=>exact⟨A',G++[y],by rw[HQ.o],iA.o,H.o⟩
         case measure=>have:=iy.o;simp[intOf];omega
        have aH:=aa (B.o.exit (λ_ y' iJ e gB=>by
         rw[fU.o]at e;injection e with e1 e2;subst e1;rw[T.oK,gu.o]at gB;omega))
        have gB:c<=0:=(by omega);clear hc;go_wp2_with fail;go_meet;exact⟨_,E,G,rfl,M.o,B.o,aH.o,Z⟩
     case rest=>
      obtain⟨p,E,G,rfl,hp,bS,gD,Z⟩:=hcut;obtain⟨B,M,aH⟩:=ZR bS hp gD;have dK:p<=j:=(by have:=bY List.length B.o.1;rw[r.o]at this;simp at this;omega);clear hp bS gD;go_upto_region 9 with fail;generalize wc=wt at Z⊢;have H:=aa Z;have eB:Below V.heap.size V wt:=aN.o.t (Z.m aN.o.size);have gF:=dE.o.ag eB;obtain⟨xs,dL,dM⟩:=gF.cells;rw[aP.o,r.o]at dL dM;have eD:∀n c,(Value.slice m n c).ownBlock=m.map (·.block):=λn c=>(by cases m<;>rfl);have gG:∀b,m.map (·.block)=some b->w.heap.size+3<=b/\b<V.heap.size:=λb e=>dE.o.block b (by rw[aP.o,eD];exact e);obtain⟨z0,z1,z⟩:=(bR.o.ag Z).cells;rw[aP.o,r.o]at z;have gI:=ae (af wt (.cells #[] 29)) z;have gJ:=jJ (size:=3) (e:=29) wt #[] 0 (base:=wt.heap.size) (ak _) (aL _) rfl;have eH:j<=C5:=(by have:=ib.o;rw[r.o]at this;exact this);have gK:j<=262144:=(by have:=bH.o;omega);have bO:=((Src.uD dL).ag (af wt (.cells #[] 29))).cut dK eH;have c4:(p:Int)<=(C5:Int):=(by omega);have c1:(p:Int)<=(j:Int):=(by omega);have c2:(j:Int)<=(C5:Int):=(by omega);have c3:(0:Int)<=(p:Int):=(by omega);obtain⟨HOWN,gL,gM,bP,aM,dO,dQ,I,J⟩:=ZY dL dM gJ eD gG eB ((λu (hu:u∈xs.drop (p*3))=>dM.one' u (gU hu))) gK dK;obtain⟨gN,iK⟩:=ZQ fO eH;clear fO dL dM gJ eD gG gF Z eB gK dK eH;by_cases dR:p=C5
      ·subst dR;rw[aI rfl]at bO;have eO:=aa bO;clear bO;go_wp2_with (at_builtin;refine bT _ rfl _ _ 23 rfl wt.heap.size 29 i0 _ 3 48 bM bu bv bA bB rfl (by omega) _ 0 [] rfl gM.o _ (j-p) _ _ rfl eO.o dQ.o (by have:=I.o;unfold maxLen;omega) (by have:=I.o;omega) (by rw[aK];omega) ?_;intro A7 c7 f aS C bV);simp only[dJ,gH]at aS;have aT:∀b,b<wt.heap.size->(wt.alloc (.cells #[] 29)).heap[b]?=wt.heap[b]?:=λb hb=>fF _ _ b hb;have aU:∀b,b<wt.heap.size->f.heap[b]?=wt.heap[b]?:=λb hb=>(by rw[C.block b (by rw[aK];omega) (λe=>by have e':b=wt.heap.size:=aA e;omega),aT b hb]);have bW:wt.heap.size+1<=f.heap.size:=(by have:=C.size;rw[aK]at this;exact this);have bX:=dO.o.size;have aX:∀{g:Nat} {a b c:Value},jM wt g a b c->jM f g a b c:=λh=>(aU _ h.lt).t h;have ai:=bR.o.ag H.o;rw[aP.o,r.o]at ai;have aZ:=aX ai;have bZ:=aX (dY.o.ag H.o);obtain⟨y0,y1,y2⟩:=aZ.cells;obtain⟨t0,t1,t2⟩:=bZ.cells;have cu:∀b,A7.map (·.block)=some b->wt.heap.size<=b:=λb e=>by
        rcases bV with h|h;·rw[h]at e;have e':wt.heap.size=b:=aA e;omega
        ·rw[h,aK]at e;have e':wt.heap.size+1=b:=aA e;omega
       have cz:=JP (dz HOWN.o (w':=f) ⟨C.os,C.tape,C.output,by omega,aU⟩) J.o;obtain⟨eP,eQ,eT,eU,cB,av,eX⟩:=ZW (Src.uD aS) aZ cu bW bX C (show ∀u∈[Value.int .i64 x.aC,.string x.aJ,.slice l x.ay.length C3],u.oneCell'=true from bJ.o.one);have d1:=ae (af f (.cells #[.int .i64 x.aC,.string x.aJ,.slice l x.ay.length C3] 29)) y2;have o:=aa (show Below f.heap.size f (f.alloc (.cells #[.int .i64 x.aC,.string x.aJ,.slice l x.ay.length C3] 29)).drew from(af f _).drew);obtain⟨eY,eZ⟩:=ZQ (dz cz o.o) ((show Src (f.alloc (.cells #[.int .i64 x.aC,.string x.aJ,.slice l x.ay.length C3] 29)).drew 3 (some ⟨f.heap.size,0,none⟩) 1 [.int .i64 x.aC,.string x.aJ,.slice l x.ay.length C3]from Src.boxed f _ _ _));have bf:=aa (show ∀(A:Option Addr) (n c:Nat),(Value.slice A n c).ownBlock=A.map (·.block)from λA n c=>by cases A<;>rfl);have cK:=aa (show m.map (·.block)≠some (w.heap.size+1+1)from λe=>by have:=(aM.o _ e).1;omega);have fe:=aa (show p+1<=maxLen by have:=I.o;have:=J.o;unfold maxLen;omega);have fo:=aa (show(p+1)*48<=140737488355328 by have:=I.o;have:=J.o;omega);have bg:=aa (show w.heap.size+3<=((f.alloc (.cells #[.int .i64 x.aC,.string x.aJ,.slice l x.ay.length C3] 29)).drew).heap.size by have:=o.o.size;have:=eU.o;have:=cB.o;have:=dF.o;omega);have fq:=aa (show ∀(A8:Option Addr) (n c:Nat),(A8.map (·.block)=(Value.slice m n c).ownBlock\/A8.map (·.block)=some ((f.alloc (.cells #[.int .i64 x.aC,.string x.aJ,.slice l x.ay.length C3] 29)).drew).heap.size)->A8.map (·.block)≠some (w.heap.size+1+1)from λA8 n c h e=>by
        rcases h with h|h;·rw[h,bP.o]at e;exact cK.o e
        ·rw[h]at e;have e':=aA e;have:=bg.o;omega)
       have fu:=aa (show p+1+(j-p)<=maxLen by have:=I.o;have:=J.o;unfold maxLen;omega);have fw:=aa (show(p+1+(j-p))*48<=140737488355328 by have:=I.o;have:=J.o;omega);have fA:=aa (show A7.map (·.block)≠m.map (·.block)\/m.map (·.block)=none by
        rcases h:m.map (·.block)with _|b;·exact .inr h
        ·left;intro e;have:=(aM.o b h).2;have:=eT.o b (e.t h);have:=cB.o;omega)
       have cO:p+1+(j-p)=(E.reverse++x::G.reverse).length:=by
        have K:=bY List.length B.o.1;rw[r.o]at K;have:=M.o;have:=J.o;simp at K⊢;omega
       have fB:=aa (show ∀(A8 D:Option Addr) (c c8 aF:Nat) (w9 kP:World),(f.alloc (.cells #[.int .i64 x.aC,.string x.aJ,.slice l x.ay.length C3] 29)).drew.grownBy w9 (Value.slice m p c).ownBlock->(A8.map (·.block)=(Value.slice m p c).ownBlock\/A8.map (·.block)=some ((f.alloc (.cells #[.int .i64 x.aC,.string x.aJ,.slice l x.ay.length C3] 29)).drew).heap.size)->
        w9.grownBy kP (Value.slice A8 (p+1) c8).ownBlock->(D.map (·.block)=(Value.slice A8 (p+1) c8).ownBlock\/D.map (·.block)=some w9.heap.size)->
        kP.ownsRow (w.heap.size+3) 29 3 (.slice D (p+1+(j-p)) aF) (p+1+(j-p)) (xs.take (p*3)++[.int .i64 x.aC,.string x.aJ,.slice l x.ay.length C3]++xs.drop (p*3))->
        K9 w k s (.slice (some ⟨b,off,none⟩) d.length cap) (T.uU k (KS.take (j+1))) (kP.setCell ⟨w.heap.size+1+1,2,none⟩ (.slice D (p+1+(j-p)) aF))from λA8 D c c8 aF w9 kP O a9 P cZ ho=>by
        rw[bf.o]at O a9 P cZ;rw[gN.o,aH.o];exact IB (a5:=m.map (·.block)) (kv:=.slice m j _) rfl (d9.o.ag H.o) ((dD.o.ag aN.o).ag H.o) ai (bI.o.t (dO.o.m bI.o.size))
         (P.os.t (O.os.t (o.o.os.t av.o.os))) (P.tape.t (O.tape.t (o.o.tape.t av.o.tape))) (P.output.t (O.output.t (o.o.output.t av.o.output)))
         (λb hb=>(aM.o b hb).1) (Fy (by rw[aK]) aT av.o o.o O a9 P cZ) (by rw[iq];exact M.o)
         (by have h:=gL.o;rw[bf.o,B.o.1]at h;exact h)
         (bJ.o.aR λb hb hl=>⟨ja.2 ⟨by have:=ax hb;have:=dF.o;omega,λe=>by have:=ax hb;have:=(aM.o b e).2;omega⟩,H.o.block b hl⟩) cO ho)
       clear cO aS aT aU bW bX aX ai aZ bZ cu cz C bV z0 z1 z gI y0 y1;go_region_law (first|(refine qd _ (by rfl) (.tmp 58) (.tmp 60) _ (by rfl) (w.heap.size+3) 29 i0 _ 3 48 bM bu bv bA bB rfl (by omega) _ p _ (by rfl) eY.o _ 1 1 _ (by rfl) eZ.o eX.o fe.o fo.o bg.o ?_;intro A8 c8 w9 dh Q bi)|(refine qd _ (by rfl) (.tmp 61) (.tmp 62) _ (by rfl) (w.heap.size+3) 29 i0 _ 3 48 bM bu bv bA bB rfl (by omega) _ (p+1) _ (by rfl) dh _ (j-p) c7 _ (by rfl) ((eP.o.ag o.o).grown Q (by rw[bP.o];exact fA.o)) dQ.o fu.o fw.o (aD bg.o Q.size) ?_;intro D aF kP di bn dw;have bq:=((eQ.o.ag o.o).grown Q (by rw[bP.o];exact cK.o)).grown bn (by rw[bf.o A8];exact fq.o A8 _ _ bi);have fC:=bq.cells.2.2;have f10:=bq.free.2.2));all_goals
        have dx:=fB.o A8 D _ _ _ w9 kP Q bi bn dw di;have HF:=aa dx;clear dx Q bi bn dw di dh bq fC f10 y2 t0 t1 t2 d1;go_wp2_with fail;go_roundw;case rel=>exact⟨j+1,bH.o,by go_num,HF.o⟩
        case measure=>have:=bH.o;simp[intOf];omega
      ·replace dR:¬C5=p:=λe=>dR e.symm;rw[aG dR]at bO;have eO:=aa bO;clear bO;go_wp2_with (at_builtin;refine bT _ rfl _ _ 23 rfl wt.heap.size 29 i0 _ 3 48 bM bu bv bA bB rfl (by omega) _ 0 [] rfl gM.o _ (j-p) _ _ rfl eO.o dQ.o (by have:=I.o;unfold maxLen;omega) (by have:=I.o;omega) (by rw[aK];omega) ?_;intro A7 c7 f aS C bV);simp only[dJ,gH]at aS;have aT:∀b,b<wt.heap.size->(wt.alloc (.cells #[] 29)).heap[b]?=wt.heap[b]?:=λb hb=>fF _ _ b hb;have aU:∀b,b<wt.heap.size->f.heap[b]?=wt.heap[b]?:=λb hb=>(by rw[C.block b (by rw[aK];omega) (λe=>by have e':b=wt.heap.size:=aA e;omega),aT b hb]);have bW:wt.heap.size+1<=f.heap.size:=(by have:=C.size;rw[aK]at this;exact this);have bX:=dO.o.size;have aX:∀{g:Nat} {a b c:Value},jM wt g a b c->jM f g a b c:=λh=>(aU _ h.lt).t h;have ai:=bR.o.ag H.o;rw[aP.o,r.o]at ai;have aZ:=aX ai;have bZ:=aX (dY.o.ag H.o);obtain⟨y0,y1,y2⟩:=aZ.cells;obtain⟨t0,t1,t2⟩:=bZ.cells;have cu:∀b,A7.map (·.block)=some b->wt.heap.size<=b:=λb e=>by
        rcases bV with h|h;·rw[h]at e;have e':wt.heap.size=b:=aA e;omega
        ·rw[h,aK]at e;have e':wt.heap.size+1=b:=aA e;omega
       have cz:=JP (dz HOWN.o (w':=f) ⟨C.os,C.tape,C.output,by omega,aU⟩) J.o;obtain⟨eP,eQ,eT,eU,cB,av,eX⟩:=ZW (Src.uD aS) aZ cu bW bX C (show ∀u∈[Value.int .i64 x.aC,.string x.aJ,.slice l x.ay.length C3],u.oneCell'=true from bJ.o.one);have d1:=ae (af f (.cells #[.int .i64 x.aC,.string x.aJ,.slice l x.ay.length C3] 29)) y2;have o:=aa (show Below f.heap.size f (f.alloc (.cells #[.int .i64 x.aC,.string x.aJ,.slice l x.ay.length C3] 29)).drew from(af f _).drew);obtain⟨eY,eZ⟩:=ZQ (dz cz o.o) ((show Src (f.alloc (.cells #[.int .i64 x.aC,.string x.aJ,.slice l x.ay.length C3] 29)).drew 3 (some ⟨f.heap.size,0,none⟩) 1 [.int .i64 x.aC,.string x.aJ,.slice l x.ay.length C3]from Src.boxed f _ _ _));have bf:=aa (show ∀(A:Option Addr) (n c:Nat),(Value.slice A n c).ownBlock=A.map (·.block)from λA n c=>by cases A<;>rfl);have cK:=aa (show m.map (·.block)≠some (w.heap.size+1+1)from λe=>by have:=(aM.o _ e).1;omega);have fe:=aa (show p+1<=maxLen by have:=I.o;have:=J.o;unfold maxLen;omega);have fo:=aa (show(p+1)*48<=140737488355328 by have:=I.o;have:=J.o;omega);have bg:=aa (show w.heap.size+3<=((f.alloc (.cells #[.int .i64 x.aC,.string x.aJ,.slice l x.ay.length C3] 29)).drew).heap.size by have:=o.o.size;have:=eU.o;have:=cB.o;have:=dF.o;omega);have fq:=aa (show ∀(A8:Option Addr) (n c:Nat),(A8.map (·.block)=(Value.slice m n c).ownBlock\/A8.map (·.block)=some ((f.alloc (.cells #[.int .i64 x.aC,.string x.aJ,.slice l x.ay.length C3] 29)).drew).heap.size)->A8.map (·.block)≠some (w.heap.size+1+1)from λA8 n c h e=>by
        rcases h with h|h;·rw[h,bP.o]at e;exact cK.o e
        ·rw[h]at e;have e':=aA e;have:=bg.o;omega)
       have fu:=aa (show p+1+(j-p)<=maxLen by have:=I.o;have:=J.o;unfold maxLen;omega);have fw:=aa (show(p+1+(j-p))*48<=140737488355328 by have:=I.o;have:=J.o;omega);have fA:=aa (show A7.map (·.block)≠m.map (·.block)\/m.map (·.block)=none by
        rcases h:m.map (·.block)with _|b;·exact .inr h
        ·left;intro e;have:=(aM.o b h).2;have:=eT.o b (e.t h);have:=cB.o;omega)
       have cO:p+1+(j-p)=(E.reverse++x::G.reverse).length:=by
        have K:=bY List.length B.o.1;rw[r.o]at K;have:=M.o;have:=J.o;simp at K⊢;omega
       have fB:=aa (show ∀(A8 D:Option Addr) (c c8 aF:Nat) (w9 kP:World),(f.alloc (.cells #[.int .i64 x.aC,.string x.aJ,.slice l x.ay.length C3] 29)).drew.grownBy w9 (Value.slice m p c).ownBlock->(A8.map (·.block)=(Value.slice m p c).ownBlock\/A8.map (·.block)=some ((f.alloc (.cells #[.int .i64 x.aC,.string x.aJ,.slice l x.ay.length C3] 29)).drew).heap.size)->
        w9.grownBy kP (Value.slice A8 (p+1) c8).ownBlock->(D.map (·.block)=(Value.slice A8 (p+1) c8).ownBlock\/D.map (·.block)=some w9.heap.size)->
        kP.ownsRow (w.heap.size+3) 29 3 (.slice D (p+1+(j-p)) aF) (p+1+(j-p)) (xs.take (p*3)++[.int .i64 x.aC,.string x.aJ,.slice l x.ay.length C3]++xs.drop (p*3))->
        K9 w k s (.slice (some ⟨b,off,none⟩) d.length cap) (T.uU k (KS.take (j+1))) (kP.setCell ⟨w.heap.size+1+1,2,none⟩ (.slice D (p+1+(j-p)) aF))from λA8 D c c8 aF w9 kP O a9 P cZ ho=>by
        rw[bf.o]at O a9 P cZ;rw[gN.o,aH.o];exact IB (a5:=m.map (·.block)) (kv:=.slice m j _) rfl (d9.o.ag H.o) ((dD.o.ag aN.o).ag H.o) ai (bI.o.t (dO.o.m bI.o.size))
         (P.os.t (O.os.t (o.o.os.t av.o.os))) (P.tape.t (O.tape.t (o.o.tape.t av.o.tape))) (P.output.t (O.output.t (o.o.output.t av.o.output)))
         (λb hb=>(aM.o b hb).1) (Fy (by rw[aK]) aT av.o o.o O a9 P cZ) (by rw[iq];exact M.o)
         (by have h:=gL.o;rw[bf.o,B.o.1]at h;exact h)
         (bJ.o.aR λb hb hl=>⟨ja.2 ⟨by have:=ax hb;have:=dF.o;omega,λe=>by have:=ax hb;have:=(aM.o b e).2;omega⟩,H.o.block b hl⟩) cO ho)
       clear cO aS aT aU bW bX aX ai aZ bZ cu cz C bV z0 z1 z gI y0 y1;go_region_law (first|(refine qd _ (by rfl) (.tmp 58) (.tmp 60) _ (by rfl) (w.heap.size+3) 29 i0 _ 3 48 bM bu bv bA bB rfl (by omega) _ p _ (by rfl) eY.o _ 1 1 _ (by rfl) eZ.o eX.o fe.o fo.o bg.o ?_;intro A8 c8 w9 dh Q bi)|(refine qd _ (by rfl) (.tmp 61) (.tmp 62) _ (by rfl) (w.heap.size+3) 29 i0 _ 3 48 bM bu bv bA bB rfl (by omega) _ (p+1) _ (by rfl) dh _ (j-p) c7 _ (by rfl) ((eP.o.ag o.o).grown Q (by rw[bP.o];exact fA.o)) dQ.o fu.o fw.o (aD bg.o Q.size) ?_;intro D aF kP di bn dw;have bq:=((eQ.o.ag o.o).grown Q (by rw[bP.o];exact cK.o)).grown bn (by rw[bf.o A8];exact fq.o A8 _ _ bi);have fC:=bq.cells.2.2;have f10:=bq.free.2.2));all_goals
        have dx:=fB.o A8 D _ _ _ w9 kP Q bi bn dw di;have HF:=aa dx;clear dx Q bi bn dw di dh bq fC f10 y2 t0 t1 t2 d1;go_wp2_with fail;go_roundw;case rel=>exact⟨j+1,bH.o,by go_num,HF.o⟩
        case measure=>have:=bH.o;simp[intOf];omega
    ·obtain rfl:j=d.length:=(by omega);rw[aY (by rw[dC.o];omega)]at dU;obtain⟨kv,R,L,S,bF,X,bD⟩:=dU;have fD:(T.uU k KS).length=d.length:=(by unfold T.uU;split<;>(try rw[T.rE])<;>exact dC.o);obtain⟨x0,x1,x2⟩:=R.cells;obtain⟨y0,y1,y2⟩:=L.cells;obtain⟨f0,f1,f2⟩:=L.free;obtain⟨z0,z1,z⟩:=S.cells;obtain⟨A4,C4,bL,_,_⟩:=bF.shape;have HN:=aa (show(T.mk k s d).fK=.mk k s (T.uU k KS) by rw[T.RD,fH.o]);have fE:=aa ((bF.term k s K h2).aR (w':=V) (S':=eG (w.heap.size+1+1)) λb hb _=>⟨by have:=ax hb;exact aQ (by omega),rfl⟩);obtain⟨bI,dD,r⟩:=ZR X L fD;rw[bL]at z fE;rw[fD]at z fE;clear bL bF X R L S fD bQ;go_wp2_with fail;obtain⟨d0,d1,d2⟩:=(fJ dD.o (.int .i64 k) (.string s) (.slice A4 d.length C4)).cells;refine bG (v:=.agg #[.int .i64 k,.string s,.slice A4 d.length C4]) (by simp[results,Tryz.results89,go_sem,d0,d1,d2]) rfl ?_;rw[HN.o];exact wy (t:=.mk k s (T.uU k KS)) _ _ _ bI.o (by omega) rfl rfl (by show _=Value.slice _ (T.uU k KS).length _;rw[r.o]) fE.o
end
section
open Go.RowKit
theorem V5(t:T)(v:Value)(w:World)(M:aO w v t)(l:t.bC<=1048576):
 Calls Tryz.prog 151 #[v] w (Qu (if t.fe=true then t.fK else .mk 0 ⟨#[]⟩ []) w):=by
 have m:=aa (λW n r c N O=>zX t v W n l r c N O);have P:=aa (λW n (Q:t.shape=true)=>YV (t.bC+1) t v W (by omega) n l Q);obtain⟨q,o⟩:∃q,t.fe=q:=⟨_,rfl⟩;have R:=aa (λ(h:q=true)=>show t.shape=true by rw[<-o]at h;exact(aP.1 h).2);rw[o]at m⊢;clear l o;generalize t.fK=f at*;cases M with
 |mk k s A cap p U S V X Y hA hU=>
  have Z:=aa (aO.mk k s A cap p U S V X Y hA hU);obtain⟨D,u,g,E⟩:=rz w (.int .i64 k) (.string s) (.slice A p.length cap) (.int .i64 0) (.string ⟨#[]⟩) (.slice none 0 0);clear hA hU;go_enter Tryz.func151,Tryz.ntmps151;go_upto_region 1 with fail;generalize(w.alloc (.cells #[.int .i64 k,.string s,.slice A p.length cap] 29)).alloc (.cells #[.int .i64 0,.string ⟨#[]⟩,.slice none 0 0] 29)=w1 at D u g E⊢;have x:=aa (Z.o.ag g);obtain⟨x0,y,z⟩:=D.cells;cases q
  ·go_wp2_with fail;refine(m.o _ x.o false 76 rfl (.inr ⟨rfl,rfl⟩)).m ?_;rintro e F ⟨rfl,a⟩;have d:=u.ag a;obtain⟨G,H,I⟩:=d.cells;obtain⟨f0,f1,f2⟩:=d.free;obtain⟨j,B⟩:=ZQ (g.t (a.m g.size)) d;clear x0 y z a d;go_wp2_with fail;obtain⟨d0,d1,d2⟩:=(fJ B.o (.int .i64 0) (.string ⟨#[]⟩) (.slice none 0 0)).cells;refine bG (v:=.agg #[.int .i64 0,.string ⟨#[]⟩,.slice none 0 0]) (by simp[results,Tryz.results151,go_sem,d0,d1,d2]) rfl ?_;exact wy (t:=.mk 0 ⟨#[]⟩ []) (A:=none) (cap:=0) _ _ _ j.o (by omega) rfl rfl rfl (aO.mk 0 ⟨#[]⟩ none 0 [] (λ_=>(undef,undef,undef)) (by decide) (by decide) (ak _) (aL _) (.inl rfl) (λi h=>by simp at h))
  ·go_wp2_with fail;refine(m.o _ x.o true 0 rfl (.inl ⟨rfl,rfl⟩)).m ?_;rintro e F ⟨rfl,a⟩;obtain⟨G,H,I⟩:=Z0 a x0 y z;obtain⟨j,af,ai⟩:=ZR (g.t (a.m g.size)) (u.ag a) (x.o.ag a);have J:w.heap.size+2<=F.heap.size:=(by have:=a.size;omega);have av:=aa J;clear x0 y z a J E;go_wp2_with fail;refine(P.o _ ai.o (R.o (by trivial))).m ?_;rintro e w3 ⟨K,C3,rfl,L,C⟩;have d:=af.o.ag C;obtain⟨G,H,I⟩:=d.cells;obtain⟨f0,f1,f2⟩:=d.free;obtain⟨B,az⟩:=ZQ d (j.o.t (C.m j.o.size));have aA:=aa (L.aR (w':=w3) (S':=eG (w.heap.size+1+1)) λb hb _=>⟨by have:=ax hb;have:=av.o;exact aQ (by omega),rfl⟩);clear L C d;go_wp2_with fail;obtain⟨d0,d1,d2⟩:=(fJ B.o (.int .i64 f.aC) (.string f.aJ) (.slice K f.ay.length C3)).cells;refine bG (v:=.agg #[.int .i64 f.aC,.string f.aJ,.slice K f.ay.length C3]) (by simp[results,Tryz.results151,go_sem,d0,d1,d2]) rfl ?_;exact wy _ _ _ az.o (by omega) rfl rfl rfl aA.o
end
section
namespace T
theorem JC(x:T)(l:List T):(o8 x l).Perm (x::l):=by
 induction l with
 |nil=>exact mQ _
 |cons y r a=>
  simp only[o8];split;·exact(a.cons y).t (List.Perm.swap _ _ _)
  ·exact mQ _
theorem Q3(l:List T):∀a,(l.foldl (λa x=>o8 x a) a).Perm (a++l):=by
 induction l with
 |nil=>intro a;simp
 |cons x r b=>
  intro a;rw[kT];refine(b _).t ?_;refine((JC x a).append_right r).t ?_;exact xM.symm
theorem kX(l:List T):(nT l).Perm l:=by
 unfold nT;exact(om _).t (by simpa using Q3 l [])
theorem JE{a b:T}(h:¬cmp a b<0):cmp b a<=0:=by rw[oK a b];omega
theorem Rh{a b c:T}(h:cmp a b<=0)(g:cmp b c<=0):cmp a c<=0:=by
 rcases mg a b with d|d|d
 ·rcases mg b c with e|e|e;·rw[sU a b c d e];decide
  ·rw[<-cmp_eq b c e];exact h
  ·omega
 ·rw[cmp_eq a b d];exact g
 ·omega
theorem Q8(x:T)(l:List T)(h:l.Pairwise λa b=>cmp b a<=0):(o8 x l).Pairwise λa b=>cmp b a<=0:=by
 induction l with
 |nil=>simp[o8]
 |cons y r e=>
  simp only[o8];rw[fq]at h;split
  ·rename_i f;rw[fq];refine⟨λz c=>?_,e h.2⟩;rcases bL.1 ((JC x r).mem_iff.1 c)with rfl|c;·omega
   ·exact h.1 z c
  ·rename_i d;rw[fq,fq];refine⟨λz c=>?_,h⟩;rcases bL.1 c with rfl|c;·exact JE d
   ·exact Rh (h.1 z c) (JE d)
theorem Q0(l:List T):∀c:List T,(c.Pairwise λa b=>cmp b a<=0)->(l.foldl (λc x=>o8 x c) c).Pairwise λa b=>cmp b a<=0:=by
 induction l with
 |nil=>intro c h;exact h
 |cons x r d=>intro c h;rw[kT];exact d _ (Q8 x c h)
theorem G7(l:List T):(nT l).Pairwise λa b=>cmp a b<=0:=by
 unfold nT;rw[List.pairwise_reverse];exact Q0 l [] List.Pairwise.nil
theorem D5:∀(l m:List T),l.Perm m->(l.Pairwise λa b=>cmp a b<=0)->(m.Pairwise λa b=>cmp a b<=0)->l=m
 |[],m,h,_,_=>by rw[List.nil_perm.1 h]
 |a::r,[],h,_,_=>by have:=h.length_eq;simp at this
 |a::r,b::f,h,c,d=>by
  rw[fq]at c d;have e:a=b:=by
   rcases bL.1 (h.mem_iff.1 (eD))with e|g;·exact e
   ·rcases bL.1 (h.mem_iff.2 (eD))with e|hb;·exact e.symm
    ·have j:=c.1 b hb;have i:=d.1 a g;rw[oK a b]at i;exact cmp_eq a b (by omega)
  subst e;rw[D5 r f (mR a |>.1 h) c.2 d.2]
theorem xy{l m:List T}(h:l.Perm m):nT l=nT m:=
 D5 _ _ ((kX l).t (h.t (kX m).symm)) (G7 l) (G7 m)
mutual
def turn:T->T
 |.mk k s a=>.mk k s (if k=7 then a.reverse else qf a)
def qf:List T->List T
 |[]=>[]
 |t::r=>turn t::qf r
end
mutual
theorem Rq:∀t:T,t.turn.fK=t.fK
 |.mk k s a=>by
  simp only[turn,fK];split;·rw[iF,iF,List.map_reverse,xy (om _)]
  ·rw[Dn a]
theorem Dn:∀l:List T,gJ (qf l)=gJ l
 |[]=>rfl
 |t::r=>by simp only[qf,gJ,Rq t,Dn r]
end
mutual
theorem Bf:∀t:T,t.fK.fK=t.fK
 |.mk k s a=>by
  simp only[fK];split
  ·have h:(gJ (nT (gJ a))).Perm (gJ a):=by
    have b:=(kX (gJ a)).map fK;rw[<-iF,<-iF,yK a]at b;exact b
   rw[xy h]
  ·rw[yK a]
theorem yK:∀l:List T,gJ (gJ l)=gJ l
 |[]=>rfl
 |t::r=>by simp only[gJ,Bf t,yK r]
end
end T
end
section
open Go.RowKit
theorem Qo(t i:T)(v n:Value)(w:World)(f:aO w v t)(g:aO w n i)(hb:t.bC<=1048576)(x:i.bC<=1048576):
 Calls Tryz.prog 57 #[v,n] w λe w'=>e=.returned (.bool (decide (t.cmp i=0)))/\Below w.heap.size w w':=by
 cases f with
 |mk k s A cap a U y z B C hA hU=>
 cases g with
 |mk k' b j l d D E F G H o p=>
  have q:=λW I J=>Yc ((T.mk k s a).bC+1) (.mk k s a) (.mk k' b d) (.agg #[.int .i64 k,.string s,.slice A a.length cap]) (.agg #[.int .i64 k',.string b,.slice j d.length l]) W (by omega) I J hb x;have f:=aO.mk k s A cap a U y z B C hA hU;have g:=aO.mk k' b j l d D E F G H o p;obtain⟨K,L,M⟩:=ZR q f g;obtain⟨c,r⟩:∃c,(T.mk k s a).cmp (.mk k' b d)=c:=⟨_,rfl⟩;have u:=aa r;clear q f g hA o hU p r;go_enter Tryz.func57,Tryz.ntmps57;go_wp2_with fail;have h:=(uY w (.int .i64 k) (.string s) (.slice A a.length cap) (.int .i64 k') (.string b) (.slice j d.length l) 29).2.2;refine(K.o _ (L.o.ag h) (M.o.ag h)).m ?_;rintro e N ⟨rfl,m⟩;replace m:=h.t (m.m h.size);rw[u.o];go_wp2_with fail;go_ret;exact⟨cZ (by rw[u.o,jY,eY,bW]),m⟩
namespace T
def FX(t:T):Bool:=t.fe&&decide (cmp t t.fK=0)
theorem AY(t:T):t.FX=true<->t.fe=true/\t.fK=t:=by
 unfold FX;rw[ai,bW];constructor;·rintro⟨a,b⟩;exact⟨a,(cmp_eq _ _ b).symm⟩
 ·rintro⟨a,b⟩;exact⟨a,by rw[b];exact nS t⟩
end T
theorem qC{w1 W b:World}{c d e:Addr}{v0 f v2:Value}{a:Value}{g:T}(h:W.cell? c=some v0/\W.cell? d=some f/\W.cell? e=some v2/\aO W a g/\Below w1.heap.size w1 W)
 (hb:Below W.heap.size W b):b.cell? c=some v0/\b.cell? d=some f/\b.cell? e=some v2/\aO b a g/\Below w1.heap.size w1 b:=by
 obtain⟨h0,j,k,l,i⟩:=h;exact⟨ae hb h0,ae hb j,ae hb k,l.ag hb,i.t (hb.m i.size)⟩
theorem Ui(t:T)(v:Value)(w:World)(E:aO w v t)(f:t.bC<=1048576):
 Calls Tryz.prog 35 #[v] w λe w'=>e=.returned (.bool t.FX)/\Below w.heap.size w w':=by
 have p:=aa (λW g r c F i=>zX t v W g f r c F i);have z:=aa (λW g (G:t.shape=true)=>YV (t.bC+1) t v W (by omega) g f G);have u:=aa (λH W g I=>Ru (t.bC+1) t t.fK v H W (by omega) g I f (by rw[T.xV];exact f));have B:t.FX=(t.fe&&decide (T.cmp t t.fK=0)):=rfl;obtain⟨q,x⟩:∃q,t.fe=q:=⟨_,rfl⟩;obtain⟨c,i⟩:∃c,T.cmp t t.fK=c:=⟨_,rfl⟩;have J:=aa (λ(h:q=true)=>show t.shape=true by rw[<-x]at h;exact(aP.1 h).2);rw[B];rw[i]at u⊢;rw[x]at p⊢;clear B f x i;generalize t.fK=V at z u;cases E with
 |mk k s A cap b U L M N O hA hU=>
 have P:=aa (aO.mk k s A cap b U L M N O hA hU);have C:=iB w (.int .i64 k) (.string s) (.slice A b.length cap) 29;have j:=af w (.cells #[.int .i64 k,.string s,.slice A b.length cap] 29);clear hA hU;go_enter Tryz.func35,Tryz.ntmps35;go_upto_region 1 with fail;generalize w.alloc (.cells #[.int .i64 k,.string s,.slice A b.length cap] 29)=l at C j⊢;obtain⟨x0,m,n⟩:=C;obtain⟨D,o⟩:=ZQ (P.o.ag j) j;clear j;cases q
 ·(refine bX (S:=(λW=>W.cell? ⟨w.heap.size,0,none⟩=some (.int .i64 k)/\W.cell? ⟨w.heap.size,1,none⟩=some (.string s)/\W.cell? ⟨w.heap.size,2,none⟩=some (.slice A b.length cap)/\aO W (.agg #[.int .i64 k,.string s,.slice A b.length cap]) (.mk k s b)/\Below l.heap.size l W)) (by kernel_rfl) (show _/\_/\_/\_/\_ from⟨x0,m,n,D.o.drew,(az _ _).drew⟩) (λhHeld=>?_));(first|refine cB 0 _ ?_|refine gF 0 ?_);(refine ve 1 λK a=>?_;go_simp;go_at_call 77;refine(p.o _ hHeld.2.2.2.1 false 76 rfl (.inr ⟨rfl,rfl⟩)).m ?_;rintro e w' ⟨rfl,d⟩;refine mH a (qC hHeld d) λhHeld=>?_;clear a K);(first|refine cB 2 _ ?_|refine gF 2 ?_);(first|refine cB 3 _ ?_|refine gF 3 ?_);(first|refine cB 4 _ ?_|refine gF 4 ?_);(first|refine cB 5 _ ?_|refine gF 5 ?_);(first|refine cB 6 _ ?_|refine gF 6 ?_);(first|refine cB 7 _ ?_|refine gF 7 ?_);(first|refine cB 8 _ ?_|refine gF 8 ?_);(first|refine cB 9 _ ?_|refine gF 9 ?_);(first|refine cB 10 _ ?_|refine gF 10 ?_);refine dR (by kernel_rfl) ?_ _;have y:=aa (o.o.t (hHeld.2.2.2.2.m o.o.size));clear hHeld x0 m n;go_wp2_with fail;go_ret;exact⟨rfl,y.o⟩
 ·(refine bX (S:=(λW=>W.cell? ⟨w.heap.size,0,none⟩=some (.int .i64 k)/\W.cell? ⟨w.heap.size,1,none⟩=some (.string s)/\W.cell? ⟨w.heap.size,2,none⟩=some (.slice A b.length cap)/\aO W (.agg #[.int .i64 k,.string s,.slice A b.length cap]) (.mk k s b)/\Below l.heap.size l W)) (by kernel_rfl) (show _/\_/\_/\_/\_ from⟨x0,m,n,D.o.drew,(az _ _).drew⟩) (λhHeld=>?_));(first|refine cB 0 _ ?_|refine gF 0 ?_);(refine ve 1 λK a=>?_;go_simp;go_at_call 77;refine(p.o _ hHeld.2.2.2.1 true 0 rfl (.inl ⟨rfl,rfl⟩)).m ?_;rintro e w' ⟨rfl,d⟩;refine mH a (qC hHeld d) λhHeld=>?_;clear a K);(first|refine cB 2 _ ?_|refine gF 2 ?_);(first|refine cB 3 _ ?_|refine gF 3 ?_);(first|refine cB 4 _ ?_|refine gF 4 ?_);(first|refine cB 5 _ ?_|refine gF 5 ?_);(refine ve 6 λK a=>?_;go_simp;go_at_call 79;refine(z.o _ hHeld.2.2.2.1 (J.o rfl)).m ?_;rintro e w' ⟨X,C3,rfl,Q,d⟩;have R:=aa Q.at;refine mH a (qC hHeld d) λhHeld=>?_;clear a K);(refine ve 7 λK a=>?_;go_simp;go_at_call 63;refine(u.o _ _ hHeld.2.2.2.1 R.o).m ?_;rintro e w' ⟨rfl,d⟩;refine mH a (qC hHeld d) λhHeld=>?_;clear a K);(first|refine cB 8 _ ?_|refine gF 8 ?_);(first|refine cB 9 _ ?_|refine gF 9 ?_);(first|refine cB 10 _ ?_|refine gF 10 ?_);refine dR (by kernel_rfl) ?_ _;have y:=aa (o.o.t (hHeld.2.2.2.2.m o.o.size));clear hHeld x0 m n;go_wp2_with fail;go_ret;exact⟨cZ (by first|rfl|simp),y.o⟩
theorem Qn(t:T)(v:Value)(w:World)(D:aO w v t)(f:t.bC<=1048576):
 Calls Tryz.prog 40 #[v] w λe w'=>e=.returned (.bool t.FX)/\Below w.heap.size w w':=by
 have o:=aa (λW g r c E h=>KM t v W g f r c E h);have x:=aa (λW g=>Zw (t.bC+1) t v W (by omega) g f);have p:=aa (λF W g G=>Qo t t.fK v F W g G f (by rw[T.xV];exact f));have y:t.FX=(t.fe&&decide (T.cmp t t.fK=0)):=rfl;obtain⟨q,z⟩:∃q,t.fe=q:=⟨_,rfl⟩;obtain⟨c,h⟩:∃c,T.cmp t t.fK=c:=⟨_,rfl⟩;rw[y];rw[h]at p⊢;rw[z]at o⊢;clear y f z h;generalize t.fK=P at x p;cases D with
 |mk k s A cap b U H I J L hA hU=>
 have M:=aa (aO.mk k s A cap b U H I J L hA hU);have B:=iB w (.int .i64 k) (.string s) (.slice A b.length cap) 29;have i:=af w (.cells #[.int .i64 k,.string s,.slice A b.length cap] 29);clear hA hU;go_enter Tryz.func40,Tryz.ntmps40;go_upto_region 1 with fail;generalize w.alloc (.cells #[.int .i64 k,.string s,.slice A b.length cap] 29)=j at B i⊢;obtain⟨x0,l,m⟩:=B;obtain⟨C,n⟩:=ZQ (M.o.ag i) i;clear i;cases q
 ·(refine bX (S:=(λW=>W.cell? ⟨w.heap.size,0,none⟩=some (.int .i64 k)/\W.cell? ⟨w.heap.size,1,none⟩=some (.string s)/\W.cell? ⟨w.heap.size,2,none⟩=some (.slice A b.length cap)/\aO W (.agg #[.int .i64 k,.string s,.slice A b.length cap]) (.mk k s b)/\Below j.heap.size j W)) (by kernel_rfl) (show _/\_/\_/\_/\_ from⟨x0,l,m,C.o.drew,(az _ _).drew⟩) (λhHeld=>?_));(first|refine cB 0 _ ?_|refine gF 0 ?_);(refine ve 1 λK a=>?_;go_simp;go_at_call 87;refine(o.o _ hHeld.2.2.2.1 false 76 rfl (.inr ⟨rfl,rfl⟩)).m ?_;rintro e w' ⟨rfl,d⟩;refine mH a (qC hHeld d) λhHeld=>?_;clear a K);(first|refine cB 2 _ ?_|refine gF 2 ?_);(first|refine cB 3 _ ?_|refine gF 3 ?_);(first|refine cB 4 _ ?_|refine gF 4 ?_);(first|refine cB 5 _ ?_|refine gF 5 ?_);(first|refine cB 6 _ ?_|refine gF 6 ?_);(first|refine cB 7 _ ?_|refine gF 7 ?_);(first|refine cB 8 _ ?_|refine gF 8 ?_);(first|refine cB 9 _ ?_|refine gF 9 ?_);refine dR (by kernel_rfl) ?_ _;have u:=aa (n.o.t (hHeld.2.2.2.2.m n.o.size));clear hHeld x0 l m;go_wp2_with fail;go_ret;exact⟨rfl,u.o⟩
 ·(refine bX (S:=(λW=>W.cell? ⟨w.heap.size,0,none⟩=some (.int .i64 k)/\W.cell? ⟨w.heap.size,1,none⟩=some (.string s)/\W.cell? ⟨w.heap.size,2,none⟩=some (.slice A b.length cap)/\aO W (.agg #[.int .i64 k,.string s,.slice A b.length cap]) (.mk k s b)/\Below j.heap.size j W)) (by kernel_rfl) (show _/\_/\_/\_/\_ from⟨x0,l,m,C.o.drew,(az _ _).drew⟩) (λhHeld=>?_));(first|refine cB 0 _ ?_|refine gF 0 ?_);(refine ve 1 λK a=>?_;go_simp;go_at_call 87;refine(o.o _ hHeld.2.2.2.1 true 0 rfl (.inl ⟨rfl,rfl⟩)).m ?_;rintro e w' ⟨rfl,d⟩;refine mH a (qC hHeld d) λhHeld=>?_;clear a K);(first|refine cB 2 _ ?_|refine gF 2 ?_);(first|refine cB 3 _ ?_|refine gF 3 ?_);(first|refine cB 4 _ ?_|refine gF 4 ?_);(first|refine cB 5 _ ?_|refine gF 5 ?_);(refine ve 6 λK a=>?_;go_simp;go_at_call 89;refine(x.o _ hHeld.2.2.2.1).m ?_;rintro e w' ⟨Q,C3,rfl,N,d⟩;have O:=aa N.at;refine mH a (qC hHeld d) λhHeld=>?_;clear a K);(refine ve 7 λK a=>?_;go_simp;go_at_call 57;refine(p.o _ _ hHeld.2.2.2.1 O.o).m ?_;rintro e w' ⟨rfl,d⟩;refine mH a (qC hHeld d) λhHeld=>?_;clear a K);(first|refine cB 8 _ ?_|refine gF 8 ?_);(first|refine cB 9 _ ?_|refine gF 9 ?_);refine dR (by kernel_rfl) ?_ _;have u:=aa (n.o.t (hHeld.2.2.2.2.m n.o.size));clear hHeld x0 l m;go_wp2_with fail;go_ret;exact⟨cZ (by first|rfl|simp),u.o⟩
def strOf(l:List UInt8):ByteArray:=⟨l.toArray⟩
theorem yU(l:List UInt8):(strOf l).size=l.length:=IG l
theorem tH(l:List UInt8):(strOf l).data.toList=l:=by simp[strOf]
namespace T
def ko(k:Int):List UInt8:=if k=4 then [104,97,115,104] else if k=5 then [115,101,97,108] else if k=6 then [115,105,103,110] else [112,111,119,101,114]
mutual
def gL:T->List UInt8
 |.mk k s a=>if k=1 then s.data.toList else if k=2 then 63::s.data.toList else if k=3 then [60]++eX a++[62] else ko k++[40]++eX a++[41]
def eX:List T->List UInt8
 |[]=>[]
 |t::r=>gL t++jf r
def jf:List T->List UInt8
 |[]=>[]
 |t::r=>[44,32]++gL t++jf r
end
theorem BZ:∀l:List T,jf l=Lib.joinTail [44,32] (l.map gL)
 |[]=>rfl
 |t::r=>by simp[jf,Lib.joinTail,BZ r]
theorem KX:∀l:List T,eX l=Lib.join (l.map gL) [44,32]
 |[]=>rfl
 |t::r=>by rw[gP,Lib.join_cons,<-BZ];rfl
theorem Jy(k:Int):(ko k).length<=5:=by
 unfold ko;repeat' split
 all_goals simp
mutual
theorem Au:∀t:T,t.gL.length+2<=3*t.bC
 |.mk k s a=>by
  have h:=FB a;have h':=Jy k;simp only[gL,bC]
  repeat' split
  all_goals simp<;>omega
theorem FB:∀l:List T,(eX l).length<=3*bE l
 |[]=>by simp[eX]
 |t::r=>by
  have h:=Au t;have h':=DX r;simp only[eX,bE,aF];omega
theorem DX:∀l:List T,(jf l).length<=3*bE l
 |[]=>by simp[jf]
 |t::r=>by
  have h:=Au t;have h':=DX r;simp only[jf,bE,aF,bu,fA];omega
end
end T
theorem Y0(k:Int)(w:World):Calls Tryz.prog 175 #[.int .i64 k] w λe w'=>e=.returned (.string ⟨(T.ko k).toArray⟩)/\w=w':=by
 have d:(k=4/\T.ko k=[104,97,115,104])\/(k=5/\T.ko k=[115,101,97,108])\/(k=6/\T.ko k=[115,105,103,110])\/(((k==4)=false/\(k==5)=false/\(k==6)=false)/\T.ko k=[112,111,119,101,114]):=by
  unfold T.ko;by_cases a:k=4;·left;exact⟨a,by rw[aI a]⟩
  by_cases b:k=5;·right;left;exact⟨b,by rw[aG a,aI b]⟩
  by_cases c:k=6;·right;right;left;exact⟨c,by rw[aG a,aG b,aI c]⟩
  ·right;right;right;refine⟨⟨?_,?_,?_⟩,by rw[aG a,aG b,aG c]⟩<;>(rw[aB];assumption)
 rcases d with⟨rfl,e⟩|⟨rfl,e⟩|⟨rfl,e⟩|⟨⟨f,g,h⟩,e⟩;all_goals
  have E:=aa e;clear e;go_enter Tryz.func175,Tryz.ntmps175;go_wp2;go_ret;exact⟨nO (by rw[E.o]),rfl⟩
end
section
namespace T
def key(t:T):ByteArray:=if t.fe=true then strOf t.gL else ⟨#[]⟩
def uC:T:=.mk 0 ⟨#[]⟩ []
def eQ(t:T)(i:Nat):T:=t.ay.getD i uC
def iI(t:T)(i:Nat):T:=.mk 7 ⟨#[]⟩ (t.ay.eraseIdx i)
end T
structure fC where
 t:T
 how:Nat
 jv:List Nat
 part:Bool
namespace Wb
def find(W:List fC)(t:T):Option Nat:=W.findIdx? λs=>decide (s.t.key=t.key)
def add(W:List fC)(t:T)(how:Nat)(jv:List Nat):List fC×Nat:=
 match find W t with
 |some i=>(W,i)
 |none=>(W++[⟨t,how,jv,false⟩],W.length)
def partAt(W:List fC)(i:Nat):Bool:=(W[i]?.map fC.part).getD false
def mark(W:List fC)(i:Nat):List fC:=W.modify i λs=>{ s with part:=true }
def take(W:List fC)(t:T)(how:Nat)(jv:List Nat):List fC×Bool:=
 if partAt (add W t how jv).1 (add W t how jv).2=true then ((add W t how jv).1,false) else (mark (add W t how jv).1 (add W t how jv).2,true)
def both(rec:List fC->T->List fC×Option Nat)(W:List fC)(t:T)(how:Nat):List fC×Option Nat:=
 match (rec W (t.eQ 0)).2 with
 |none=>((rec W (t.eQ 0)).1,none)
 |some a=>
  match (rec (rec W (t.eQ 0)).1 (t.eQ 1)).2 with
  |none=>((rec (rec W (t.eQ 0)).1 (t.eQ 1)).1,none)
  |some b=>((add (rec (rec W (t.eQ 0)).1 (t.eQ 1)).1 t how [a,b]).1,some (add (rec (rec W (t.eQ 0)).1 (t.eQ 1)).1 t how [a,b]).2)
def pow(rec:List fC->T->List fC×Option Nat)(t:T):Nat->Nat->List fC->List fC×Option Nat
 |0,_,W=>(W,none)
 |f+1,i,W=>
  match find W (t.eQ i)with
  |none=>pow rec t f (i+1) W
  |some nm=>
   if t.ay.length=1 then ((add W t 11 [nm]).1,some (add W t 11 [nm]).2)
   else match (rec W (t.iI i)).2 with
    |none=>pow rec t f (i+1) (rec W (t.iI i)).1
    |some p=>((add (rec W (t.iI i)).1 t 10 [p,nm]).1,some (add (rec W (t.iI i)).1 t 10 [p,nm]).2)
def build:Nat->List fC->T->List fC×Option Nat
 |0,W,_=>(W,none)
 |n+1,W,t=>
  match find W t with
  |some i=>(W,some i)
  |none=>
   if t.aC=4 then
    match (build n W (t.eQ 0)).2 with
    |none=>((build n W (t.eQ 0)).1,none)
    |some m=>((add (build n W (t.eQ 0)).1 t 7 [m]).1,some (add (build n W (t.eQ 0)).1 t 7 [m]).2)
   else if t.aC=3 then both (build n) W t 6
   else if t.aC=5 then both (build n) W t 8
   else if t.aC=6 then both (build n) W t 9
   else if t.aC=7 then pow (build n) t t.ay.length 0 W
   else (W,none)
def BI(W:List fC)(t:T):List fC×Option Nat:=build (t.bC+1) W t
def rT(W:List fC)(i:Nat):T:=(W[i]?.map fC.t).getD T.uC
def apart(W:List fC)(i:Nat):List fC×Bool:=
 let t:=rT W i
 if t.aC=3 then ((take (take W (t.eQ 0) 2 [i]).1 (t.eQ 1) 3 [i]).1,(take (take W (t.eQ 0) 2 [i]).1 (t.eQ 1) 3 [i]).2||(take W (t.eQ 0) 2 [i]).2)
 else if t.aC=6 then take W (t.eQ 1) 5 [i]
 else if t.aC=5 then
  if (find W (t.eQ 1)).any (λm=>partAt W m)=true then (W,false)
  else match (BI W (t.eQ 0)).2 with
   |none=>((BI W (t.eQ 0)).1,false)
   |some k=>take (BI W (t.eQ 0)).1 (t.eQ 1) 4 [i,k]
 else (W,false)
def yf:Nat->Nat->Bool->List fC->List fC×Bool
 |0,_,m,W=>(W,m)
 |f+1,i,m,W=>
  if i<W.length then
   if partAt W i=true then yf f (i+1) (m||(apart W i).2) (apart W i).1 else yf f (i+1) m W
  else (W,m)
def run(U:Nat):Nat->List fC->List fC
 |0,W=>W
 |f+1,W=>if (yf U 0 false W).2=true then run U f (yf U 0 false W).1 else (yf U 0 false W).1
def start(a:List T):List fC:=a.foldl (λW t=>(take W t 1 []).1) []
end Wb
end
end Go.Proofs.YtaciciokmpbkkaaGreatDoor
