import Derived.Test.YtaciciokmpbkkaaGreatDoorWebG24
set_option maxRecDepth 100000
set_option maxHeartbeats 16000000
namespace Go.Proofs.YtaciciokmpbkkaaGreatDoor
section
open Go.RowKit T
attribute [local go_sem ↓] Go.wp_at_zero Go.wp_at_succ
theorem jU.bind{S:Nat->Bool}{w:World}{A:Option Addr}{n cap:Nat}{L:List Bd}(h:jU LK S w (.slice A n cap) L){i:Nat}(hi:i<L.length):
 ∃b o B c,A=some ⟨b,o,none⟩/\w.cell? ⟨b,o+i*4,none⟩=some (.string L[i].var)/\w.cell? ⟨b,o+i*4+1,none⟩=some (.int .i64 L[i].t.aA)/\w.cell? ⟨b,o+i*4+2,none⟩=some (.string L[i].t.aI)/\
  w.cell? ⟨b,o+i*4+3,none⟩=some (.slice B L[i].t.ay.length c)/\bI S w (.agg #[.int .i64 L[i].t.aA,.string L[i].t.aI,.slice B L[i].t.ay.length c]) L[i].t:=by
 obtain⟨b,o,cs,e,⟨B,c,rfl,d,_⟩,a⟩:=h.get hi;exact⟨b,o,B,c,e,a 0 _ rfl,a 1 _ rfl,a 2 _ rfl,a 3 _ rfl,d⟩
def ZC(S:Nat->Bool)(r:Option T)(a w:World)(e:Ending)(w':World):Prop:=Below w.heap.size w w'/\match r with
 |none=>e=.returned (.tuple #[.agg #[.int .i64 0,.string ⟨#[]⟩,.slice none 0 0],.bool false])
 |some t=>∃A c,e=.returned (.tuple #[.agg #[.int .i64 t.aA,.string t.aI,.slice A t.ay.length c],.bool true])/\bI S a (.agg #[.int .i64 t.aA,.string t.aI,.slice A t.ay.length c]) t
theorem Yn(S:Nat->Bool)(s:ByteArray)(L:List Bd)(v:Value)(h w:World)(F:Bf S h v L)(G:Below h.heap.size h w):
 Calls Tryz.prog 154 #[v,.string s] w (ZC S (T.look L s) h w):=by
 have a:=F.Gh;obtain⟨A,cap,rfl,O,P⟩:=a.shape;have m:=jy.new w (.int .i64 0) (.string ⟨#[]⟩) (.slice none 0 0);have o:=ae w (.cells #[.int .i64 0,.string ⟨#[]⟩,.slice none 0 0] 29);obtain⟨n,q⟩:=aay L.length;obtain⟨R,r⟩:=aay (T.look L s);obtain⟨H,Q⟩:=aab q r;rw[q]at a O⊢;rw[r];obtain⟨U,I⟩:=aab a G;have ak:n<=9223372036854775807:=(by unfold maxLen at P;omega);clear F a q r G;go_enter Tryz.func154,Tryz.ntmps154;go_upto_region 1 with fail;generalize w.alloc _=w1 at m o⊢;obtain⟨V,W⟩:=aab m o;clear m o;go_wp2_with fail;go_loopw [6] (λi wr=>∃j:Nat,j<=n/\i=.int .i64 j/\T.look (L.drop j) s=R/\jy wr w.heap.size (.int .i64 0) (.string ⟨#[]⟩) (.slice none 0 0)/\Below w.heap.size w wr) (λi _=>n-(intOf i).toNat);case atStart=>exact⟨0,aT _,rfl,by rw[oF];exact Q.o,V.o,W.o⟩
 case round=>
  obtain⟨j,hj,rfl,a,d,f⟩:=hrel;by_cases J:j<n
  ·have u:j<L.length:=(by rw[H.o];exact J);obtain⟨b,off,B,c,rfl,y,z,C,D,E⟩:=U.o.bind u;rw[J5 u]at a;obtain⟨x,K⟩:=aay (L[j]);rw[K]at y z C D E a;have g:=I.o.t (f.m I.o.size);obtain⟨d0,d1,d2,d3⟩:=aal g y z C D;have av:(0:Int)<=(j:Int):=aar;have hi:(j:Int)<(n:Int):=aar;obtain⟨e,k,X,M,N⟩:=aae d f E a J;clear g d f E a K u hj y z C D;by_cases l:x.var=s
   ·have a:=M.o;rw[aJ l]at a;subst a;subst l;obtain⟨Y,Z,q2⟩:=e.o.cells;obtain⟨f0,f1,f2⟩:=e.o.free;go_wp2_with fail;obtain⟨d0,d1,d2⟩:=(dX e.o (.int .i64 x.t.aA) (.string x.t.aI) (.slice B x.t.ay.length c)).cells;refine aV (v:=.tuple #[.agg #[.int .i64 x.t.aA,.string x.t.aI,.slice B x.t.ay.length c],.bool true]) (by simp[results,Tryz.results154,go_sem,d0,d1,d2]) rfl ?_;have ag:=((k.o.setCell (p:=⟨w.heap.size,0,none⟩) (ax _) (.int .i64 x.t.aA)).setCell (p:=⟨w.heap.size,1,none⟩) (ax _) (.string x.t.aI)).setCell (p:=⟨w.heap.size,2,none⟩) (ax _) (.slice B x.t.ay.length c);exact⟨ag,B,c,rfl,X.o⟩
   ·have a:=M.o;rw[aH l]at a;have az:=PO l;go_wp2_with fail;go_roundw;case rel=>exact⟨j+1,N.o,aaw,a,e.o,k.o⟩
    case measure=>exact aax N.o
  ·obtain rfl:j=n:=aar;have ah:R=none:=by
    rw[<-a,lh (by rw[H.o];exact ax _)];rfl
   subst ah;have hi:¬(j:Int)<(j:Int):=aar;obtain⟨e,k⟩:=aab d f;obtain⟨Y,Z,q2⟩:=d.cells;obtain⟨f0,f1,f2⟩:=d.free;clear d f;go_wp2_with fail;obtain⟨d0,d1,d2⟩:=(dX e.o (.int .i64 0) (.string ⟨#[]⟩) (.slice none 0 0)).cells;refine aV (v:=.tuple #[.agg #[.int .i64 0,.string ⟨#[]⟩,.slice none 0 0],.bool false]) (by simp[results,Tryz.results154,go_sem,d0,d1,d2]) rfl ?_;exact⟨((k.o.setCell (p:=⟨w.heap.size,0,none⟩) (ax _) _).setCell (p:=⟨w.heap.size,1,none⟩) (ax _) _).setCell (p:=⟨w.heap.size,2,none⟩) (ax _) _,rfl⟩
def gap(S:Nat->Bool)(h:Nat):Nat->Bool:=λb=>S b&&(decide (b<h)||decide (h+3<=b))
theorem Dy{S:Nat->Bool}{h b:Nat}:gap S h b=true<->S b=true/\(b<h\/h+3<=b):=by
 unfold gap;rw[ah,eH,bO,bO]
def yu(S:Nat->Bool)(w:World)(k:Int)(s:ByteArray)(L:List T)(wr:World):Prop:=
 ∃kv,jy wr (w.heap.size+2) (.int .i64 k) (.string s) kv/\jy wr (w.heap.size+1) (.int .i64 0) (.string ⟨#[]⟩) (.slice none 0 0)/\fZ oC (gap S w.heap.size) (w.heap.size+3) wr kv L/\Below w.heap.size w wr/\w.heap.size+3<=wr.heap.size
theorem yu.ag{S:Nat->Bool}{w:World}{k:Int}{s:ByteArray}{L:List T}{wr w':World}(h:yu S w k s L wr)(hb:Below wr.heap.size wr w'):yu S w k s L w':=by
 obtain⟨kv,b,c,d,a,e⟩:=h;exact⟨kv,b.ag hb,c.ag hb,d.ag hb,a.t (hb.m a.size),aG e hb.size⟩
theorem yu.step{S:Nat->Bool}{w:World}{k:Int}{s:ByteArray}{L:List T}{t:T}{n c c8:Nat}{w5 w6 w8:World}{A A8:Option Addr}{dE:List (List Value)}{cs:List Value}
 (x:jy w6 (w.heap.size+2) (.int .i64 k) (.string s) (.slice A n c)) (y:jy w6 (w.heap.size+1) (.int .i64 0) (.string ⟨#[]⟩) (.slice none 0 0)) (j:oC.all (off (gap S w.heap.size) (Value.slice A n c).ownBlock) w5 dE L) (l:L.length=n) (m:∀b,b<w5.heap.size->w6.heap[b]?=w5.heap[b]?)
 (o:oC.fF (off (gap S w.heap.size) (Value.slice A n c).ownBlock) w6 cs t) (g:∀q,(Value.slice A n c).ownBlock=some q->w.heap.size+3<=q) (hb:Below w.heap.size w w6) (v:w.heap.size+3<=w6.heap.size)
 (p:w8.ownsRow (w.heap.size+3) 29 3 (.slice A8 (n+1) c8) (n+1) (dE.flatten++cs)) (d:w6.grownBy w8 (Value.slice A n c).ownBlock) (r:A8.map (·.block)=(Value.slice A n c).ownBlock\/A8.map (·.block)=some w6.heap.size):
 yu S w k s (L++[t]) (w8.setCell ⟨w.heap.size+2,2,none⟩ (.slice A8 (n+1) c8)):=by
 have h:∀b,b<w.heap.size+3->(Value.slice A n c).ownBlock≠some b:=λb z e=>(aaz (g b e));have i:=fZ.push (E:=oC) (base:=w.heap.size+3) (A':=A8) (cap:=c8) (w4:=w8) (a:=t) j l m o p d r;refine⟨_,(x.grown d (h _ aar)).AQ _,(y.grown d (h _ aar)).setOther aau _,?_,((hb.grown d hb.size (λq u=>aaz (g q u))).setCell (show w.heap.size<=w.heap.size+2 by omega) _),by have:=d.size;simp[World.setCell];omega⟩;refine i.aR λb f _=>aL _ _ _ _ ?_;show b≠w.heap.size+2;rcases f with f|f;·have:=(Dy.1 f).2;omega
 ·have:=(i.block b f).1;omega
def YK(S:Nat->Bool)(r:Option T)(w:World)(e:Ending)(w':World):Prop:=Below w.heap.size w w'/\match r with
 |none=>e=.returned (.tuple #[.agg #[.int .i64 0,.string ⟨#[]⟩,.slice none 0 0],.bool false])
 |some u=>∃A c,e=.returned (.tuple #[.agg #[.int .i64 u.aA,.string u.aI,.slice A u.ay.length c],.bool true])/\bI S w' (.agg #[.int .i64 u.aA,.string u.aI,.slice A u.ay.length c]) u
theorem Zi(L:List Bd):∀(N:Nat) (p:T) (S:Nat->Bool) (pv bv:Value) (w:World),p.bE<N->aS w pv p->(∀b,w.heap.size<=b->S b=true)->Bf S w bv L->p.bE<=1048576->
 Calls Tryz.prog 119 #[pv,bv] w (YK S (put p L) w):=by
 intro N;induction N with
 |zero=>intro p S pv bv w h;omega
 |succ N ih=>
  intro p S pv bv w hN hp hS hb O;cases hp with
  |mk k s A cap a U h1 h2 h3 h4 hA hU=>
   simp only[T.bE]at hN O;have dm:a.length<=262144:=(aaz (T.lq a));obtain⟨i0,dn,dw,dx,dz⟩:=dU Tryz.uN;have aM:put (.mk k s a) L=if k=2 then T.look L s else (match eU a L with
    |none=>none
    |some l=>some (.mk k s l)):=by
    simp only[put];rfl
   obtain⟨R,hR⟩:=aay (put (.mk k s a) L);rw[hR]at aM⊢;have bD:=aa aM;obtain⟨bx,aN,aO,f⟩:=oq w (.int .i64 k) (.string s) (.slice A a.length cap) (.int .i64 0) (.string ⟨#[]⟩) (.slice none 0 0);obtain⟨HB,IH,bF,dA,dB,bH⟩:=aaf hb ih hS hA hU (show s.size+4+bJ a<=1048576/\s.size+4+bJ a<N+1 from⟨O,hN⟩);clear hA hU hb ih aM hR O hN hS;go_enter Tryz.func119,Tryz.ntmps119;go_upto_region 1 with fail;generalize(w.alloc (.cells #[.int .i64 k,.string s,.slice A a.length cap] 29)).alloc (.cells #[.int .i64 0,.string ⟨#[]⟩,.slice none 0 0] 29)=Y at bx aN aO f⊢;obtain⟨x0,P,F⟩:=bx.cells;obtain⟨BX,BY,G,dC⟩:=aad bx aN aO f;clear bx aN aO f;by_cases bK:k=2
   ·subst bK;obtain⟨ak,bL⟩:=aab (Yn S s L bv w Y HB.o G.o) (show R=T.look L s from bD.o.t (aJ rfl));cases d:T.look L s with
    |none=>
     rw[d]at ak;obtain rfl:R=none:=bL.o.t d;clear d;go_wp2_with fail;refine ak.o.m ?_;rintro e w2 ⟨H,i⟩;have Z:e=.returned (.tuple #[.agg #[.int .i64 0,.string ⟨#[]⟩,.slice none 0 0],.bool false]):=i;subst Z;obtain⟨aP,I⟩:=aab (G.o.t (H.m G.o.size)) (BY.o.ag H);obtain⟨z0,z1,z2⟩:=I.o.cells;obtain⟨f0,f1,f2⟩:=I.o.free;clear i H x0 P F;go_wp2_with fail;obtain⟨d0,d1,d2⟩:=(dX I.o (.int .i64 0) (.string ⟨#[]⟩) (.slice none 0 0)).cells;refine aV (v:=.tuple #[.agg #[.int .i64 0,.string ⟨#[]⟩,.slice none 0 0],.bool false]) (by simp[results,Tryz.results119,go_sem,d0,d1,d2]) rfl ?_;exact⟨jC aP.o aar _ _ _,rfl⟩
    |some v=>
     rw[d]at ak;obtain rfl:R=some v:=bL.o.t d;clear d;go_wp2_with fail;refine ak.o.m ?_;rintro e w2 ⟨H,i⟩;have Z:∃A c,e=.returned (.tuple #[.agg #[.int .i64 v.aA,.string v.aI,.slice A v.ay.length c],.bool true])/\bI S w (.agg #[.int .i64 v.aA,.string v.aI,.slice A v.ay.length c]) v:=i;obtain⟨A5,c5,rfl,bM⟩:=Z;obtain⟨aP,I,dD⟩:=aac (G.o.t (H.m G.o.size)) (BY.o.ag H) bM;obtain⟨z0,z1,z2⟩:=I.o.cells;obtain⟨f0,f1,f2⟩:=I.o.free;clear i H x0 P F bM;go_wp2_with fail;obtain⟨d0,d1,d2⟩:=(dX I.o (.int .i64 v.aA) (.string v.aI) (.slice A5 v.ay.length c5)).cells;refine aV (v:=.tuple #[.agg #[.int .i64 v.aA,.string v.aI,.slice A5 v.ay.length c5],.bool true]) (by simp[results,Tryz.results119,go_sem,d0,d1,d2]) rfl ?_;have bN:=jC aP.o (show w.heap.size<=w.heap.size+1 by omega) (.int .i64 v.aA) (.string v.aI) (.slice A5 v.ay.length c5);exact⟨bN,A5,c5,rfl,dD.o.aR λb hb d=>⟨hb,bN.block b d⟩⟩
   ·have aQ:=bD.o;rw[aH bK]at aQ;have bO:=dC.o;have av:=ae Y (.cells #[.int .i64 k,.string s,.slice none 0 0] 29);have Q:=jy.new Y (.int .i64 k) (.string s) (.slice none 0 0);have bP:yu S w k s [] (Y.alloc (.cells #[.int .i64 k,.string s,.slice none 0 0] 29)):=by
     rw[bO]at Q;exact⟨_,Q,BY.o.ag av,fZ.nil _ _ _ _,G.o.t (av.m G.o.size),by rw[aK];omega⟩
    obtain⟨bQ,bR,aU⟩:=aac bP aQ (BX.o.ag av);obtain⟨n,hn⟩:=aay a.length;have bS:=aa hn;rw[hn]at F aU dm⊢;clear bP av Q aQ hn;go_upto_region 4 with fail;clear bO;generalize Y.alloc _=w2 at bQ aU⊢;clear x0 P F;go_wp2_with fail;go_loopw [7] (λiv wr=>∃(j:Nat) (y:List T),j<=n/\iv=.int .i64 j/\eU (a.take j) L=some y/\y.length=j/\yu S w k s y wr/\jy wr w.heap.size (.int .i64 k) (.string s) (.slice A n cap)) (λiv _=>n-(intOf iv).toNat);case atStart=>exact⟨0,[],aT _,rfl,by rw[iM];rfl,rfl,bQ.o,aU.o⟩
    case round=>
     obtain⟨j,y,hj,rfl,ah,V,bT,az⟩:=hrel;obtain⟨x0,P,F⟩:=az.cells;by_cases aW:j<n
     ·have aB:j<a.length:=(by rw[bS.o];exact aW);obtain⟨b,o9,B1,C1,rfl,aX,aY,aZ,hu⟩:=aS.cells aB dA.o dB.o;have bf:=AL a j aB y ah;have O:=T.jq a j aB;obtain⟨J,bU⟩:=aay (a[j]);rw[bU]at aX aY aZ hu bf O;obtain⟨kv,bg,bi,B,m,f⟩:=bT;obtain⟨d0,d1,d2⟩:=aak m aX aY aZ;have d9:(0:Int)<=(j:Int):=aar;have hi:(j:Int)<(n:Int):=aar;have C:=B.block;have bn:=aa (IH.o J (off (gap S w.heap.size) kv.ownBlock) (.agg #[.int .i64 J.aA,.string J.aI,.slice B1 J.ay.length C1]) bv wr (aaz bH.o) (hu.ag m)
       (λb hb=>dL.2 ⟨Dy.2 ⟨bF.o b aar,.inr aar⟩,λe=>aaz ((C b e).2)⟩)
       (HB.o.aR λb hb d=>⟨dL.2 ⟨Dy.2 ⟨hb,.inl d⟩,λe=>aaz ((C b e).1)⟩,m.block b d⟩) (aaz bH.o))
      obtain⟨ed,dF,bV,bW,D,dH,dI,bq,bu⟩:=aai (show yu S w k s y wr from⟨kv,bg,bi,B,m,f⟩) bg bi B m f az aW bf;have W:=aa V;clear hu ah bf O bU aX aY aZ aB hj aW V bg bi B m f C az;obtain⟨r,hr⟩:=aay (put J L);rw[hr]at bn bu;clear hr;cases r with
      |none=>
       obtain rfl:R=none:=by
        rw[bR.o,AJ a (j+1) bu.o]
       go_wp2_with fail;refine bn.o.m ?_;rintro e w3 ⟨t,i⟩;have Z:e=.returned (.tuple #[.agg #[.int .i64 0,.string ⟨#[]⟩,.slice none 0 0],.bool false]):=i;subst Z;have K:=ae w3 (.cells #[.int .i64 0,.string ⟨#[]⟩,.slice none 0 0] 29);have o:=bV.o.ag (t.t (K.m t.size));obtain⟨bX,bY⟩:=aab o ((D.o.t ((t.t (K.m t.size)).m D.o.size)));clear i t K x0 P F d0 d1 d2;go_upto_region 8 with fail;generalize w3.alloc _=w4 at o bX bY⊢;obtain⟨z0,z1,z2⟩:=o.cells;obtain⟨f0,f1,f2⟩:=o.free;clear o;go_wp2_with fail;obtain⟨d0,d1,d2⟩:=(dX bX.o (.int .i64 0) (.string ⟨#[]⟩) (.slice none 0 0)).cells;refine aV (v:=.tuple #[.agg #[.int .i64 0,.string ⟨#[]⟩,.slice none 0 0],.bool false]) (by simp[results,Tryz.results119,go_sem,d0,d1,d2]) rfl ?_;exact⟨jC bY.o aar _ _ _,rfl⟩
      |some u=>
       go_wp2_with fail;refine bn.o.m ?_;rintro e w3 ⟨t,i⟩;obtain⟨g,C3,rfl,bZ⟩:=(show ∃A c,e=.returned (.tuple #[.agg #[.int .i64 u.aA,.string u.aI,.slice A u.ay.length c],.bool true])/\bI (off (gap S w.heap.size) kv.ownBlock) w3 (.agg #[.int .i64 u.aA,.string u.aI,.slice A u.ay.length c]) u from i);have K:=ae w3 (.cells #[.int .i64 u.aA,.string u.aI,.slice g u.ay.length C3] 29);have aC:=jy.new w3 (.int .i64 u.aA) (.string u.aI) (.slice g u.ay.length C3);have cu:=t.t (K.m t.size);obtain⟨bz,E⟩:=aab ((show bI (off (gap S w.heap.size) kv.ownBlock) (w3.alloc (.cells #[.int .i64 u.aA,.string u.aI,.slice g u.ay.length C3] 29)) _ u from bZ.aR λb hb d=>⟨hb,K.block b d⟩)) cu;clear i t K bZ cu x0 P F d0 d1 d2;go_upto_region 8 with fail;generalize w3.alloc _=w5 at aC bz E⊢;generalize w3.heap.size=ek at aC⊢;obtain⟨A6,c6,dE,M,bA,bB⟩:=(bW.o.ag E.o).cells;have C:=bW.o.block;rw[W.o]at M bA bB;obtain⟨bC,dJ,dK⟩:=aac (dF.o.ag E.o) (bV.o.ag E.o) (dI.o.ag E.o);rw[M]at C bz bC;have x:=ae w5 (.cells #[.int .i64 u.aA,.string u.aI,.slice g u.ay.length C3] 29);have dM:=aa (dG bB x);have dN:=aa (show ∀z∈([.int .i64 u.aA,.string u.aI,.slice g u.ay.length C3]:List Value),z.oneCell'=true from λz hz=>by simp at hz;rcases hz with rfl|rfl|rfl<;>rfl);have dO:=aa ((D.o.t (E.o.m D.o.size)).t (x.m (D.o.t (E.o.m D.o.size)).size));have f:w.heap.size+3<=(w5.alloc (.cells #[.int .i64 u.aA,.string u.aI,.slice g u.ay.length C3] 29)).heap.size:=aG dH.o (aG E.o.size x.size);have cz:oC.fF (off (gap S w.heap.size) (Value.slice A6 j c6).ownBlock) (w5.alloc (.cells #[.int .i64 u.aA,.string u.aI,.slice g u.ay.length C3] 29)) ([.int .i64 u.aA,.string u.aI,.slice g u.ay.length C3]:List Value) u:=⟨g,C3,rfl,bz.o.aR λb hb d=>⟨hb,x.block b d⟩⟩;obtain⟨cK,dP,dR⟩:=aac (bC.o.ag x) (dJ.o.ag x) (dK.o.ag x);have dS:=aa (λ(A8:Option Addr) (c8:Nat) (w8:World) (aD:w8.ownsRow (w.heap.size+3) 29 3 (.slice A8 (j+1) c8) (j+1) (dE.flatten++([.int .i64 u.aA,.string u.aI,.slice g u.ay.length C3]:List Value))) X aL=>yu.step (S:=S) (A8:=A8) (c8:=c8) (w8:=w8) cK.o dP.o bA W.o (λb hb=>x.block b hb) cz (λq hq=>(C q hq).1) dO.o f aD X aL);have cO:=aa (λb (hb:b<w.heap.size+3) (e:(Value.slice A6 j c6).ownBlock=some b)=>(show False from aaz ((C b e).1)));have eu:=aa f;have eB:j<=262144:=(aaz bq.o);obtain⟨y0,y1,y2⟩:=aC.cells;obtain⟨_,_,c2⟩:=bC.o.cells;clear bA bB x cz aC C M;go_wp2_with (at_builtin;refine fq _ rfl _ _ 23 rfl (w.heap.size+3) 29 i0 _ 3 48 cB dn dw dx dz rfl aar _ _ _ rfl dM.o _ 1 1 [.int .i64 u.aA,.string u.aI,.slice g u.ay.length C3] rfl (Src.Cn _ _ _ 3 rfl) dN.o aaS aar f ?_;intro A8 c8 w8 aD X aL;have dV:=aa (dS.o _ _ _ aD X aL);have cZ:=aa (cK.o.grown X (λe=>cO.o _ aar e));have dW:=aa ((dR.o.grown X (λe=>cO.o _ aar e)).setOther (p:=⟨w.heap.size+2,2,none⟩) aau (.slice A8 (j+1) c8));have c4:=cZ.o.cells.2.2;have f4:=cZ.o.free.2.2;clear aD X aL);go_roundw;case rel=>exact⟨j+1,bq.o,aaw,y++[u],bu.o,by rw[aF,W.o];rfl,dV.o,dW.o⟩
       case measure=>exact aax bq.o
     ·obtain rfl:j=n:=aar;rw[bG (by rw[bS.o];exact ax _)]at ah;obtain rfl:R=some (.mk k s y):=(by rw[bR.o,ah]);obtain⟨kv,Q,o,B,m,f⟩:=bT;have df:=B.Gh (S':=gap S w.heap.size) (λ_ h=>h) (λb hb=>Dy.2 ⟨bF.o b aar,.inr hb⟩);obtain⟨A4,C4,M⟩:=B.shape;have dh:=aa (df.term k s h1 h2);rw[M,V]at dh;rw[V]at M;subst M;obtain⟨y0,y1,y2⟩:=Q.cells;obtain⟨q0,q1,q2⟩:=o.cells;obtain⟨f0,f1,f2⟩:=o.free;have hi:¬(j:Int)<(j:Int):=aar;obtain⟨D,dY,W⟩:=aac m o V;clear B m Q o ah V az df;go_wp2_with fail;obtain⟨d0,d1,d2⟩:=(dX dY.o (.int .i64 k) (.string s) (.slice A4 j C4)).cells;refine aV (v:=.tuple #[.agg #[.int .i64 k,.string s,.slice A4 j C4],.bool true]) (by simp[results,Tryz.results119,go_sem,d0,d1,d2]) rfl ?_;refine⟨jC D.o aar _ _ _,A4,C4,by simp only[T.aA,T.aI,T.ay];rw[W.o],?_⟩;simp only[T.aA,T.aI,T.ay];rw[W.o];refine dh.o.aR λb hb _=>?_;have dZ:=Dy.1 hb;exact⟨dZ.1,lJ _ _ _ _ _ _ aar⟩
theorem Xy(p:T)(L:List Bd)(pv bv:Value)(w:World)(X:aS w pv p)(hb:Bf ku w bv L)(av:∀x∈L,x.t.bE<=20000)(Y:p.bE<=1048576):
 Calls Tryz.prog 68 #[pv,bv] w (VD (jP p L) w):=by
 obtain⟨ax,az⟩:=aab (λv W h=>EU p v W h Y) (λv1 v2 W h1 h2=>Zi L (p.bE+1) p ku v1 v2 W (dF _) h1 (λ_ _=>rfl) h2 Y);have aB:=aa (λu (a:p.eZ=true) (h:put p L=some u)=>show u.bE<=1048576 from by
  have h1:=IJ (M:=20000) p L u (λn v e=>by obtain⟨x,hx,_,rfl⟩:=pU e;exact av x hx) h;have h2:=Gb a;have h3:p.size<=40:=ak (aN.1 a).1;have h4:p.size*20000<=40*20000:=iq _ h3;omega)
 have Z:=JP (p:=p) (L:=L);have I:=JQ (p:=p) (L:=L);have J:=λu=>JR (p:=p) (u:=u) (L:=L);have hy:=λu=>Mr (p:=p) (u:=u) (b:=L);obtain⟨R,hR⟩:=aay (jP p L);rw[hR]at Z I J hy⊢;obtain⟨r,hr⟩:=aay (put p L);rw[hr]at I J hy az aB;obtain⟨aG,aH,aK,HY⟩:=aad Z I J hy;clear hR Z I J hy hr;obtain⟨A,c,rfl⟩:=bI.view X.uM;obtain⟨K,af,z,ah⟩:=oq w (.int .i64 p.aA) (.string p.aI) (.slice A p.ay.length c) (.int .i64 0) (.string ⟨#[]⟩) (.slice none 0 0);obtain⟨N,HB⟩:=aab (X.ag z) (hb.aR (S':=ku) λb _ hl=>⟨rfl,z.block b hl⟩);clear X hb Y av;go_enter Tryz.func68,Tryz.ntmps68;go_upto_region 1 with fail;generalize(w.alloc (.cells #[.int .i64 p.aA,.string p.aI,.slice A p.ay.length c] 29)).alloc (.cells #[.int .i64 0,.string ⟨#[]⟩,.slice none 0 0] 29)=w1 at K af z ah N HB⊢;obtain⟨x0,x1,x2⟩:=K.cells;obtain⟨BX,BY,O,aX⟩:=aad K af z ah;clear K af z ah;cases a:p.eZ with
 |false=>
  obtain rfl:R=none:=aG.o a;have g:=aa (ax.o _ w1 N.o false 76 a (.inr ⟨rfl,rfl⟩));clear a;go_wp2_with fail;refine g.o.m ?_;rintro e w2 ⟨rfl,d⟩;have o:=aa (O.o.t (d.m O.o.size));have q:=aa (BY.o.ag d);obtain⟨P,Q,S⟩:=q.o.cells;obtain⟨f0,f1,f2⟩:=q.o.free;clear d x0 x1 x2;go_wp2_with fail;obtain⟨d0,d1,d2⟩:=(dX q.o (.int .i64 0) (.string ⟨#[]⟩) (.slice none 0 0)).cells;refine aV (v:=.tuple #[.agg #[.int .i64 0,.string ⟨#[]⟩,.slice none 0 0],.bool false]) (by simp[results,Tryz.results68,go_sem,d0,d1,d2]) rfl ?_;exact⟨jC o.o aar _ _ _,none,0,rfl⟩
 |true=>
  obtain⟨aC,g⟩:=aab a (ax.o _ w1 N.o true 0 a (.inl ⟨rfl,rfl⟩));clear a;go_wp2_with fail;refine g.o.m ?_;rintro e w2 ⟨rfl,d⟩;have o:=aa (O.o.t (d.m O.o.size));have q:=aa (BY.o.ag d);obtain⟨B,C,D⟩:=(BX.o.ag d).cells;have aD:=aa (az.o _ bv w2 (N.o.ag d) (HB.o.aR (S':=ku) λb _ hl=>⟨rfl,d.block b hl⟩));clear d x0 x1 x2 g;cases r with
  |none=>
   obtain rfl:R=none:=aH.o rfl;go_wp2_with fail;refine aD.o.m ?_;rintro e w3 ⟨l,E⟩;have aL:e=.returned (.tuple #[.agg #[.int .i64 0,.string ⟨#[]⟩,.slice none 0 0],.bool false]):=E;subst aL;have s:=ae w3 (.cells #[.int .i64 0,.string ⟨#[]⟩,.slice none 0 0] 29);have m:=l.t (s.m l.size);obtain⟨i,j⟩:=aab (o.o.t (m.m o.o.size)) (q.o.ag m);clear E l s m B C D;go_upto_region 4 with fail;generalize w3.alloc _=w4 at i j⊢;obtain⟨P,Q,S⟩:=j.o.cells;obtain⟨f0,f1,f2⟩:=j.o.free;go_wp2_with fail;obtain⟨d0,d1,d2⟩:=(dX j.o (.int .i64 0) (.string ⟨#[]⟩) (.slice none 0 0)).cells;refine aV (v:=.tuple #[.agg #[.int .i64 0,.string ⟨#[]⟩,.slice none 0 0],.bool false]) (by simp[results,Tryz.results68,go_sem,d0,d1,d2]) rfl ?_;exact⟨jC i.o aar _ _ _,none,0,rfl⟩
  |some u=>
   go_wp2_with fail;refine aD.o.m ?_;rintro e w3 ⟨l,E⟩;obtain⟨A3,C3,rfl,y⟩:=(show ∃A c,e=.returned (.tuple #[.agg #[.int .i64 u.aA,.string u.aI,.slice A u.ay.length c],.bool true])/\bI ku w3 (.agg #[.int .i64 u.aA,.string u.aI,.slice A u.ay.length c]) u from E);have s:=ae w3 (.cells #[.int .i64 u.aA,.string u.aI,.slice A3 u.ay.length C3] 29);have F:=jy.new w3 (.int .i64 u.aA) (.string u.aI) (.slice A3 u.ay.length C3);have m:=l.t (s.m l.size);obtain⟨i,j,U⟩:=aac (o.o.t (m.m o.o.size)) (q.o.ag m) (y.at.ag s);clear E l s m y B C D;go_upto_region 4 with fail;generalize w3.alloc _=w4 at i j U F⊢;generalize w3.heap.size=g6 at F⊢;obtain⟨B,C,D⟩:=F.cells;have aO:=aa F;clear F;have G:=aB.o u aC.o rfl;cases a:u.eZ with
   |false=>
    obtain rfl:R=none:=aK.o u rfl a;have g:=aa (EU u _ w4 U.o G false 76 a (.inr ⟨rfl,rfl⟩));clear a G;go_wp2_with fail;refine g.o.m ?_;rintro e w5 ⟨rfl,f⟩;obtain⟨V,k⟩:=aab (i.o.t (f.m i.o.size)) (j.o.ag f);obtain⟨P,Q,S⟩:=k.o.cells;obtain⟨f0,f1,f2⟩:=k.o.free;clear f B C D;go_wp2_with fail;obtain⟨d0,d1,d2⟩:=(dX k.o (.int .i64 0) (.string ⟨#[]⟩) (.slice none 0 0)).cells;refine aV (v:=.tuple #[.agg #[.int .i64 0,.string ⟨#[]⟩,.slice none 0 0],.bool false]) (by simp[results,Tryz.results68,go_sem,d0,d1,d2]) rfl ?_;exact⟨jC V.o aar _ _ _,none,0,rfl⟩
   |true=>
    obtain rfl:R=some u.fM:=HY.o u aC.o rfl a;obtain⟨g,aP,aQ⟩:=aac (EU u _ w4 U.o G true 0 a (.inl ⟨rfl,rfl⟩)) (λv W h=>WL u v W h G) a;clear a G;go_wp2_with fail;refine g.o.m ?_;rintro e w5 ⟨rfl,f⟩;obtain⟨V,k,aT⟩:=aac (i.o.t (f.m i.o.size)) (j.o.ag f) (U.o.ag f);obtain⟨P,Q,S⟩:=(aO.o.ag f).cells;clear f B C D;go_wp2_with fail;refine(aP.o _ _ aT.o).m ?_;rintro e w7 ⟨A7,C7,rfl,y,H⟩;rw[aJ aQ.o]at y⊢;obtain⟨P,Q,S⟩:=(k.o.ag H).cells;obtain⟨f0,f1,f2⟩:=(k.o.ag H).free;obtain⟨aU,aW,aF⟩:=aac (V.o.t (H.m V.o.size)) (k.o.ag H) y;have aY:w.heap.size+1<w5.heap.size:=k.o.lt;obtain⟨v,a⟩:=aay u.fM;rw[a]at aF⊢;have HV:=aa a;clear H y a;go_wp2_with fail;obtain⟨d0,d1,d2⟩:=(dX aW.o (.int .i64 v.aA) (.string v.aI) (.slice A7 v.ay.length C7)).cells;refine aV (v:=.tuple #[.agg #[.int .i64 v.aA,.string v.aI,.slice A7 v.ay.length C7],.bool true]) (by simp[results,Tryz.results68,go_sem,d0,d1,d2]) rfl ?_;refine⟨jC aU.o aar _ _ _,?_⟩;rw[HV.o];refine⟨A7,C7,rfl,aF.o.aR λb hb _=>?_⟩;have aZ:=ak hb;exact⟨aM aar,lJ _ _ _ _ _ _ aar⟩
namespace aQ
def Di(s:List iN)(x:jf)(i:Nat):Bool:=match next s x i with
 |none=>false
 |some m=>if m.1=3 then mW s x i m.2 else false
end aQ
theorem TY(s:List iN)(x:jf)(i j:Nat):aQ.BZ s x i none j=false:=by
 unfold aQ.BZ;rw[Bool.and_eq_false_iff];right;rw[fH];intro m _;simp[aQ.uG]
theorem acD{p:Prop}(h:p:=by
 refine uO 20 λK g=>?_;(have z0:=f.o.cell 0 rfl;have f0:=f.o.free 0;have M:=f.o.cell 1 rfl;have f1:=f.o.free 1;have z2:=f.o.cell 2 rfl;have f2:=f.o.free 2;go_simp;refine NY g f.o (zo v.o (qD hHeld.2.2.2.2.2.2 Q.o _ _ _)) λz B=>?_;replace hHeld:=B;replace f:=aa z;clear g K z B z0 f0 M f1 z2 f2);refine fA 21 _ ?_;refine dD aas ?_ _;go_wp2_with fail;go_meet;refine⟨⟨_,_,_,_,_,_,_,rfl,rfl,Q.o,f.o,aN.o.aR aU.o ?_⟩,hHeld.2.2.2.2.2.2⟩;first|(have hh:=aW.o;exact λb _ h2=>(jY _ _ _ _ _ _ aar).t ((ae w9 _).block b h2))|(have hh:=aV.o;exact λb h1 _=>jY _ _ _ _ _ _ aar)):p:=h
theorem acE{p:Prop}(h:p:=by
 refine uO 13 λK g=>?_;(have z0:=f.o.cell 0 rfl;have f0:=f.o.free 0;have M:=f.o.cell 1 rfl;have f1:=f.o.free 1;have z2:=f.o.cell 2 rfl;have f2:=f.o.free 2;go_simp;refine NY g f.o (pJ v.o (qD hHeld.2.2.2.2.2 Q.o _ _ _)) λz B=>?_;replace hHeld:=B;replace f:=aa z;clear g K z B z0 f0 M f1 z2 f2);refine fA 14 _ ?_;refine dD aas ?_ _;go_wp2_with fail;go_meet;refine⟨⟨_,_,_,_,_,_,_,rfl,rfl,Q.o,f.o,aN.o.aR aU.o ?_⟩,hHeld.2.2.2.2.2⟩;first|(have hh:=aW.o;exact λb _ h2=>(jY _ _ _ _ _ _ aar).t ((ae w9 _).block b h2))|(have hh:=aV.o;exact λb h1 _=>jY _ _ _ _ _ _ aar)):p:=h
theorem acF{p:Prop}(h:p:=by
 go_wp2_with fail;go_ret;exact⟨rfl,by rw[V.o];exact ah.o⟩):p:=h
theorem acG{p:Prop}(h:p:=by
 clear bC C;go_wp2_with fail;go_roundw;case rel=>exact⟨j+1,bB.o,aaw,HH.o,bM.o⟩
 case measure=>exact aax bB.o):p:=h
theorem WJ(s:List iN)(x:jf)(i:Nat)(vs vx:Value)(w:World)(hs:sw w vs s)(hx:mV ku w vx x)(hi:i<s.length)(bU:x.aO.length=s.length)
 (dL:∀(j:Nat) (q:oD) (st:iN),x.aO[j]?=some q->s[j]?=some st->q.fF<=st.2.length) (aF:∀st∈s,st.2.length<=1048576/\∀m∈st.2,m.2.bE<=1048576) (fu:s.length<=1048576) (hb:∀q∈x.aO,∀y∈q.b,y.t.bE<=20000):
 Calls Tryz.prog 29 #[vs,vx,.int .i64 i] w λe w'=>e=.returned (.bool (aQ.Di s x i))/\Below w.heap.size w w':=by
 have dN:=hs;have dO:=hs.strs;obtain⟨As,cs,rfl,fw,ig,-⟩:=hs;have dP:=hx;obtain⟨Ax,cx,Bx,dx,rfl,bf,fB⟩:=hx;clear fB;have bg:i<x.aO.length:=aar;obtain⟨H,I,vB,hA,-,dR,Y,-⟩:=bf.stand bg;subst hA;obtain⟨q,hq⟩:=aay (x.aO[i]'bg);have dS:x.aO[i]?=some q:=(by rw[az bg,hq]);have aL:=hb _ (aP bg);rw[hq]at aL Y;have N:=ae w (.cells #[.slice (some ⟨H,I,none⟩) x.aO.length cx,.slice Bx x.bF.length dx] 35);have ak:=gU.new w [.slice (some ⟨H,I,none⟩) x.aO.length cx,.slice Bx x.bF.length dx] 35;have bG:=aK w (.cells #[.slice (some ⟨H,I,none⟩) x.aO.length cx,.slice Bx x.bF.length dx] 35);change gU (w.alloc (.cells #[.slice (some ⟨H,I,none⟩) x.aO.length cx,.slice Bx x.bF.length dx] 35)) w.heap.size _ _ at ak;have bi:=aa (λW (hW:Below w.heap.size w W)=>Zj s x i _ _ W (dO.ag hW) (dP.ag hW) (λst bf=>(aF st bf).1) bU aar);obtain⟨n,hn⟩:=aay x.aO.length;obtain⟨kn,dU⟩:=aay x.bF.length;obtain⟨av,HS⟩:=aab (bf.ag N) (dN.ag N);have bV:s.length=n:=(by rw[<-bU,hn]);obtain⟨rr,E⟩:=aay (aQ.Di s x i);rw[E];unfold aQ.Di at E;obtain⟨HN,fC,fD,dV,HB,fE⟩:=aaf hn bV dL aF hb dS;have D:=af N dR;rw[bV]at fw fu bi hi⊢;rw[hn]at ak N bG av bi D;rw[dU]at ak N bG av HS bi D⊢;rw[hn]at HS⊢;have ik:(i:Int)<(n:Int):=aar;obtain⟨fG,aM⟩:=aab aL ((Y.aR (S':=ku) (w':=w.alloc (.cells #[.slice (some ⟨H,I,none⟩) n cx,.slice Bx kn dx] 35)) λb _ Z=>⟨rfl,N.block b Z⟩));clear bf dN dL aF hb bU bV hn dU aL Y dS hq dR dO dP hi bg;go_enter Tryz.func29,Tryz.ntmps29;go_upto_region 1 with fail;generalize w.alloc _=w1 at ak N bG av HS aM D⊢;have bW:=aa (bi.o w1 N);obtain⟨q0,bH⟩:=aay w.heap.size;have e2:w1.heap.size=q0+1:=aar;rw[bH]at ak N;simp only[bH];obtain⟨dW,V,bX⟩:=aac N bH e2;obtain⟨Ab,cb,rfl,-,-⟩:=aM.o.Gh.shape;obtain⟨lb,dX⟩:=aay q.b.length;rw[dX]at D aM;obtain⟨RN,bY⟩:=aay (aQ.next s x i)
 rw[bY]at bW E;obtain⟨z0,M,_,_⟩:=ak.two;obtain⟨HZ,bI,fI⟩:=aac ak D bY;clear ak N bG bH e2 dX D bi bY;go_wp2_with fail;refine bW.o.m ?_;rintro e w2 ⟨aY,hm⟩;cases RN with
 |none=>
  obtain rfl:=(show e=.returned (.tuple #[.agg #[.int .i64 0,.int .i64 0,.string ⟨#[]⟩,.slice none 0 0],.bool false])from hm);obtain rfl:false=rr:=E;have bn:=ae w2 (.cells #[.int .i64 0,.int .i64 0,.string ⟨#[]⟩,.slice none 0 0] 31);have bJ:=aa ((dW.o.t (aY.m (aaz bX.o))).t (bn.m (aaA aY.size bX.o)));clear hm aY bn z0 M;go_upto_region 2 with fail;generalize w2.alloc _=w3 at bJ⊢;go_wp2_with fail;go_ret;exact⟨rfl,by rw[V.o];exact bJ.o⟩
 |some m=>
  obtain⟨Am,cm,rfl,bZ⟩:=(show ∃A c,e=.returned (.tuple #[.agg #[.int .i64 m.1,.int .i64 m.2.aA,.string m.2.aI,.slice A m.2.ay.length c],.bool true])/\aS w1 (.agg #[.int .i64 m.2.aA,.string m.2.aI,.slice A m.2.ay.length c]) m.2 from hm);obtain⟨mk,mt⟩:=m;dsimp only at bZ E;have bn:=ae w2 (.cells #[.int .i64 mk,.int .i64 mt.aA,.string mt.aI,.slice Am mt.ay.length cm] 31);have bm:=gU.new w2 [.int .i64 mk,.int .i64 mt.aA,.string mt.aI,.slice Am mt.ay.length cm] 31;change gU (w2.alloc (.cells #[.int .i64 mk,.int .i64 mt.aA,.string mt.aI,.slice Am mt.ay.length cm] 31)) w2.heap.size _ _ at bm;have ax:=aY.t (bn.m aY.size);obtain⟨dY,HZ,av,HS,aM⟩:=aae (bZ.ag ax) (HZ.o.ag ax) (av.o.ag ax) (HS.o.ag ax) (aM.o.aR (S':=ku) λb _ Z=>⟨rfl,ax.block b Z⟩);have D:=af ax bI.o;have bK:=aa (dW.o.t (ax.m (aaz bX.o)));go_upto_region 2 with fail;generalize w2.alloc _=w3 at bm dY HZ av HS aM bK D⊢;generalize w2.heap.size=g7 at bm⊢;clear hm bZ aY bn ax z0 M bW bI;have k0:=bm.cell 0 (u:=.int .i64 mk) rfl;have k1:=bm.cell 1 (u:=.int .i64 mt.aA) rfl;have k2:=bm.cell 2 (u:=.string mt.aI) rfl;have k3:=bm.cell 3 (u:=.slice Am mt.ay.length cm) rfl;clear bm;by_cases h3:mk=3
  ·subst h3;rw[aJ rfl,JH,fE.o,HN.o]at E;change(!(List.range n).any (aQ.BZ s x i (jP mt q.b)))=rr at E;have dZ:mt.bE<=1048576:=by
    obtain⟨st,q',h1,_,h2⟩:=kS fI.o;exact(dV.o st (dA h1)).2 (3,mt) (dA h2)
   obtain⟨R,hR⟩:=aay (jP mt q.b);rw[hR]at E;have fJ:=aa (λu (e:R=some u)=>show u.bE<=1048576 from aG (jD (um (hR.t e))) aat);obtain⟨cu,bL⟩:=aab E ((λW (hW:Below w3.heap.size w3 W)=>Xy mt q.b (.agg #[.int .i64 mt.aA,.string mt.aI,.slice Am mt.ay.length cm]) (.slice Ab lb cb) W (dY.o.ag hW) (aM.o.aR (S':=ku) λy _ Z=>⟨rfl,hW.block y Z⟩) fG.o dZ));rw[hR]at bL;obtain⟨z0,M,_,_⟩:=HZ.o.two;clear E hR dZ;go_upto_region 4 with fail;clear k0 M;go_cut [9,8]from 28 to 39 (λp cz wc=>GL R w3.heap.size wc p cz/\Below w3.heap.size w3 wc)
   case first=>
    have v:=aa (show w3.cell? ⟨g7,1,none⟩=some (.int .i64 mt.aA)/\w3.cell? ⟨g7,2,none⟩=some (.string mt.aI)/\w3.cell? ⟨g7,3,none⟩=some (.slice Am mt.ay.length cm)/\w3.cell? ⟨q0,0,none⟩=some (.slice (some ⟨H,I,none⟩) n cx)/\w3.cell? ⟨H,I+i*2+1,none⟩=some (.slice Ab lb cb)/\Below w3.heap.size w3 w3 from⟨k1,k2,k3,z0,D,aC _ _⟩);clear k1 k2 k3 z0 D;refine fT (S:=(λJ=>J.cell? ⟨g7,1,none⟩=some (.int .i64 mt.aA)/\J.cell? ⟨g7,2,none⟩=some (.string mt.aI)/\J.cell? ⟨g7,3,none⟩=some (.slice Am mt.ay.length cm)/\J.cell? ⟨q0,0,none⟩=some (.slice (some ⟨H,I,none⟩) n cx)/\J.cell? ⟨H,I+i*2+1,none⟩=some (.slice Ab lb cb)/\Below w3.heap.size w3 J)) (λ_=>0) aas (show _/\_/\_/\_/\_/\_ from⟨v.o.1,v.o.2.1,v.o.2.2.1,v.o.2.2.2.1,v.o.2.2.2.2.1,(aC _ w3).drew⟩) (λhHeld=>?_);refine fA 0 _ ?_;refine fA 1 _ ?_;refine fA 2 _ ?_;refine fA 3 _ ?_;refine fA 4 _ ?_;refine fA 5 _ ?_;refine fA 6 _ ?_;refine fA 7 _ ?_;refine iB (rs:=[8,12]) aas aau (QQ 8 (λK g=>?_) ((QQ 12 (λK g=>?_) (gq.nil))))
    ·
     (go_simp;go_at_call 68;refine(bL.o _ hHeld.2.2.2.2.2).m ?_;rintro e w9 O;obtain⟨k9,d9,A7,l7,c7,cB,rfl,P,L⟩:=rM O;obtain⟨aN,aU⟩:=aab L hHeld.2.2.2.2.2.size;(try have aV:=aa f.o.lt);clear O L;(try replace f:=aa (f.o.ag P));refine mZ g (pJ v.o (hHeld.2.2.2.2.2.t (P.m hHeld.2.2.2.2.2.size))) λhHeld=>?_;clear g K);refine fA 9 _ ?_;refine fA 10 _ ?_;refine fA 11 _ ?_;refine uO 12 λK g=>?_;(go_simp;(first|refine wH g (pJ v.o (iZ hHeld.2.2.2.2.2 _)) λF o z B=>?_|refine oW g (pJ v.o (iD hHeld.2.2.2.2.2 _)) λF o z B=>?_);have Q:=aa (show w3.heap.size<=F by rw[<-o];exact hHeld.2.2.2.2.2.size);replace hHeld:=B;have f:=aa z;(first|rw[o]|(change w3.heap.size=F at o;subst o));(try have aW:=aa o);(try clear o);clear g K z B);exact acE
    ·
     (go_simp;(first|refine wH g (pJ v.o (iZ hHeld.2.2.2.2.2 _)) λF o z B=>?_|refine oW g (pJ v.o (iD hHeld.2.2.2.2.2 _)) λF o z B=>?_);have Q:=aa (show w3.heap.size<=F by rw[<-o];exact hHeld.2.2.2.2.2.size);replace hHeld:=B;have f:=aa z;(first|rw[o]|(change w3.heap.size=F at o;subst o));(try have aW:=aa o);(try clear o);clear g K z B);refine uO 8 λK g=>?_;(go_simp;go_at_call 68;refine(bL.o _ hHeld.2.2.2.2.2).m ?_;rintro e w9 O;obtain⟨k9,d9,A7,l7,c7,cB,rfl,P,L⟩:=rM O;obtain⟨aN,aU⟩:=aab L hHeld.2.2.2.2.2.size;(try have aV:=aa f.o.lt);clear O L;(try replace f:=aa (f.o.ag P));refine mZ g (pJ v.o (hHeld.2.2.2.2.2.t (P.m hHeld.2.2.2.2.2.size))) λhHeld=>?_;clear g K);refine fA 9 _ ?_;refine fA 10 _ ?_;refine fA 11 _ ?_;exact acE
   case rest=>
    obtain⟨⟨F,k9,d9,A7,l7,c7,cB,rfl,rfl,o,ek,L⟩,C⟩:=hcut;obtain⟨fK,fM,fO⟩:=aac (HZ.o.ag C) (av.o.ag C) (HS.o.ag C);have aZ:=aa (bK.o.t (C.m (aaA bK.o.size V.o)));obtain⟨cK,fP⟩:=aab L ek;clear L ek o C k1 k2 k3 D z0 bL av HS HZ;go_upto_region 6 with fail;go_loopw [10] (λiv wr=>∃j:Nat,j<=n/\iv=.int .i64 j/\(List.range j).any (aQ.BZ s x i R)=false/\Below wc.heap.size wc wr) (λiv _=>n-(intOf iv).toNat);case atStart=>exact⟨0,aT _,rfl,rfl,aC _ _⟩
    case round=>
     obtain⟨j,hj,rfl,bq,C⟩:=hrel;cases cB with
     |false=>
      obtain rfl:=cK.o.none_;have E:=cu.o;have h0:(List.range n).any (aQ.BZ s x i none)=false:=(by rw[fH];intro j _;rw[TY];decide);rw[h0]at E;obtain rfl:true=rr:=E;have ah:=aa (aZ.o.t (C.m (show q0<=wc.heap.size from aaA aZ.o.size V.o)));clear bq C h0;by_cases aD:j<n
      ·have cO:(j:Int)<(n:Int):=aar;exact acF
      ·have cO:(n:Int)<=(j:Int):=aar;exact acF
     |true=>
      obtain⟨u,rfl,rfl,rfl,rfl,iq⟩:=cK.o.some_;by_cases aD:j<n
      ·have bu:j<x.aO.length:=(by rw[HN.o];exact aD);have bv:j<s.length:=(by rw[fC.o];exact aD);obtain⟨b2,o2,v2,hA,e0,D,Y,eu⟩:=(fM.o.ag C).stand bu;injection hA with hA;injection hA with fQ fU;subst fQ;subst fU;obtain⟨bs,os,Al,cl,fV,f0,f1,cZ,eB⟩:=(fO.o.ag C).get bv;subst fV;have bz:=fD.o j _ _ (az bu) (az bv);obtain⟨eF,df⟩:=dV.o _ (aP bv);have aL:=HB.o _ (aP bu);have bA:aQ.BZ s x i (some u) j=(j != i&&(((s[j]).2.take (x.aO[j]).fF).any (aQ.uG (some u) (x.aO[j]).b))):=by
        unfold aQ.BZ;rw[az bu,az bv];rfl
       obtain⟨U,eG⟩:=aay (x.aO[j]);obtain⟨X,eH⟩:=aay ((s[j]).2);rw[eG]at e0 Y eu bz aL bA;rw[eH]at f1 cZ bz eF df bA eB;obtain⟨A2,c2,rfl,-,-⟩:=Y.Gh.shape;obtain⟨l2,eO⟩:=aay U.b.length;rw[eO]at D Y;obtain⟨ml,aF⟩:=aay X.length;rw[aF]at f1 bz eF eB;obtain⟨fF,eP⟩:=aay U.fF;rw[eP]at e0 bz eu bA;obtain⟨fZ,gm,ah,gp,bI,gu,gy,bB,gz⟩:=aai cZ Y C e0 D f1 (fK.o.ag C) aD bq;obtain⟨eQ,gB,gD,gF,eT⟩:=aae bA aL df aF bz;have cO:(j:Int)<(n:Int):=aar;clear Y cZ bA aL df aF eO eP eG eH bu bv aD hj bq f0 C e0 D f1;go_upto_region 9 with fail;obtain⟨w6,gG⟩:=aay wr;subst gG;go_loopw [11] (λiv gH=>∃k:Nat,k<=fF/\iv=.int .i64 k/\(j=i\/(X.take k).any (aQ.uG (some u) U.b)=false)/\Below wr.heap.size wr gH) (λiv _=>fF-(intOf iv).toNat);case atStart=>exact⟨0,aT _,rfl,.inr rfl,aC _ _⟩
       case round=>
        obtain⟨k,hk,rfl,bC,C⟩:=hrel;rename World=>w7;have e0:=af C gp.o;obtain⟨z0,_,_,_⟩:=(gy.o.ag C).two;have eU:=aa (λ(h:j=i\/(X.take fF).any (aQ.uG (some u) U.b)=false)=>show(List.range (j+1)).any (aQ.BZ s x i (some u))=false from by
         rw[Kk,gz.o,eQ.o];rcases h with h|h;·simp[h]
         ·rw[h];simp)
        have bM:=aa (ah.o.t (C.m ah.o.size));by_cases aD:k<fF
        ·have gI:(k:Int)<(fF:Int):=aar;by_cases dh:j=i
         ·subst dh;have HH:=aa (eU.o (.inl rfl));exact acG
         ·have iw:((j:Int) != (i:Int))=true:=aaN;have eX:=aa dh;have bD:k<X.length:=(by rw[gF.o];have:=eT.o;omega);obtain⟨b3,o3,A3,c3,gJ,m0,m1,m2,m3,bN⟩:=(fZ.o.ag C).get bD;subst gJ;have bO:=gD.o _ (aP bD);have dm:=Oc (aQ.uG (some u) U.b) X bD;obtain⟨mm,dn⟩:=aay (X[k]);rw[dn]at m0 m1 m2 m3 bN bO dm;obtain⟨mk,G⟩:=mm;dsimp only at m0 m1 m2 m3 bN bO;have gK:=aa (show X[k]?=some (mk,G) by rw[az bD,dn]);obtain⟨f1,D⟩:=aaj C gu.o bI.o;obtain⟨gL,bP,gM,gN,aX,gP⟩:=aaf bN C dm bC aD bO;have iy:(k:Int)<(ml:Int):=(aaz eT.o);clear bN dm bC aD bO dn bD C hk dh;have dw:=aa (λ(h:aQ.uG (some u) U.b (mk,G)=false)=>show(X.take (k+1)).any (aQ.uG (some u) U.b)=false from by rw[gM.o,h,gN.o.resolve_left eX.o];rfl);by_cases h4:mk=4
          ·subst h4;obtain⟨R2,dz⟩:=aay (jP G U.b);obtain⟨dB,bQ⟩:=aab dz ((λW (hW:Below w7.heap.size w7 W)=>Xy G U.b (.agg #[.int .i64 G.aA,.string G.aI,.slice A3 G.ay.length c3]) (.slice A2 l2 c2) W (gL.o.ag hW) (((gm.o.aR (S':=ku) λy _ Z=>⟨rfl,bP.o.block y Z⟩).aR (S':=ku) λy _ Z=>⟨rfl,hW.block y Z⟩)) gB.o gP.o));rw[dz]at bQ;clear dz;go_upto_region 12 with fail;clear m0 e0;go_cut [12,13]from 74 to 92 (λp cz wc=>GL R2 w7.heap.size wc p cz/\Below w7.heap.size w7 wc)
           case first=>
            have v:=aa (show w7.cell? ⟨bs,os+j*2+1,none⟩=some (.slice (some ⟨b3,o3,none⟩) ml cl)/\w7.cell? ⟨b3,o3+k*4+1,none⟩=some (.int .i64 G.aA)/\w7.cell? ⟨b3,o3+k*4+2,none⟩=some (.string G.aI)/\w7.cell? ⟨b3,o3+k*4+3,none⟩=some (.slice A3 G.ay.length c3)/\w7.cell? ⟨q0,0,none⟩=some (.slice (some ⟨H,I,none⟩) n cx)/\w7.cell? ⟨H,I+j*2+1,none⟩=some (.slice A2 l2 c2)/\Below w7.heap.size w7 w7 from⟨f1,m1,m2,m3,z0,D,aC _ _⟩);clear f1 m1 m2 m3 z0 D;refine fT (S:=(λJ=>J.cell? ⟨bs,os+j*2+1,none⟩=some (.slice (some ⟨b3,o3,none⟩) ml cl)/\J.cell? ⟨b3,o3+k*4+1,none⟩=some (.int .i64 G.aA)/\J.cell? ⟨b3,o3+k*4+2,none⟩=some (.string G.aI)/\J.cell? ⟨b3,o3+k*4+3,none⟩=some (.slice A3 G.ay.length c3)/\J.cell? ⟨q0,0,none⟩=some (.slice (some ⟨H,I,none⟩) n cx)/\J.cell? ⟨H,I+j*2+1,none⟩=some (.slice A2 l2 c2)/\Below w7.heap.size w7 J)) (λ_=>0) aas (show _/\_/\_/\_/\_/\_/\_ from⟨v.o.1,v.o.2.1,v.o.2.2.1,v.o.2.2.2.1,v.o.2.2.2.2.1,v.o.2.2.2.2.2.1,(aC _ w7).drew⟩) (λhHeld=>?_);refine fA 0 _ ?_;refine fA 1 _ ?_;refine fA 2 _ ?_;refine fA 3 _ ?_;refine fA 4 _ ?_;refine fA 5 _ ?_;refine fA 6 _ ?_;refine fA 7 _ ?_;refine fA 8 _ ?_;refine fA 9 _ ?_;refine fA 10 _ ?_;refine fA 11 _ ?_;refine fA 12 _ ?_;refine fA 13 _ ?_;refine fA 14 _ ?_;refine iB (rs:=[15,19]) aas aau (QQ 15 (λK g=>?_) ((QQ 19 (λK g=>?_) (gq.nil))))
            ·
             (go_simp;go_at_call 68;refine(bQ.o _ hHeld.2.2.2.2.2.2).m ?_;rintro e w9 O;obtain⟨k2,dC,A4,l4,c4,dE,rfl,P,L⟩:=rM O;obtain⟨aN,aU⟩:=aab L hHeld.2.2.2.2.2.2.size;(try have aV:=aa f.o.lt);clear O L;(try replace f:=aa (f.o.ag P));refine mZ g (zo v.o (hHeld.2.2.2.2.2.2.t (P.m hHeld.2.2.2.2.2.2.size))) λhHeld=>?_;clear g K);refine fA 16 _ ?_;refine fA 17 _ ?_;refine fA 18 _ ?_;refine uO 19 λK g=>?_;(go_simp;(first|refine wH g (zo v.o (iZ hHeld.2.2.2.2.2.2 _)) λF o z B=>?_|refine oW g (zo v.o (iD hHeld.2.2.2.2.2.2 _)) λF o z B=>?_);have Q:=aa (show w7.heap.size<=F by rw[<-o];exact hHeld.2.2.2.2.2.2.size);replace hHeld:=B;have f:=aa z;(first|rw[o]|(change w7.heap.size=F at o;subst o));(try have aW:=aa o);(try clear o);clear g K z B);exact acD
            ·
             (go_simp;(first|refine wH g (zo v.o (iZ hHeld.2.2.2.2.2.2 _)) λF o z B=>?_|refine oW g (zo v.o (iD hHeld.2.2.2.2.2.2 _)) λF o z B=>?_);have Q:=aa (show w7.heap.size<=F by rw[<-o];exact hHeld.2.2.2.2.2.2.size);replace hHeld:=B;have f:=aa z;(first|rw[o]|(change w7.heap.size=F at o;subst o));(try have aW:=aa o);(try clear o);clear g K z B);refine uO 15 λK g=>?_;(go_simp;go_at_call 68;refine(bQ.o _ hHeld.2.2.2.2.2.2).m ?_;rintro e w9 O;obtain⟨k2,dC,A4,l4,c4,dE,rfl,P,L⟩:=rM O;obtain⟨aN,aU⟩:=aab L hHeld.2.2.2.2.2.2.size;(try have aV:=aa f.o.lt);clear O L;(try replace f:=aa (f.o.ag P));refine mZ g (zo v.o (hHeld.2.2.2.2.2.2.t (P.m hHeld.2.2.2.2.2.2.size))) λhHeld=>?_;clear g K);refine fA 16 _ ?_;refine fA 17 _ ?_;refine fA 18 _ ?_;exact acD
           case rest=>
            obtain⟨⟨iA,k2,dC,A4,l4,c4,dE,rfl,rfl,gQ,bR,eY⟩,dF⟩:=hcut;rename World=>kJ;obtain⟨bS,iC⟩:=aab (bP.o.t (dF.m bP.o.size)) (bM.o.t (dF.m bM.o.size));have bT:=ah.o.t (bS.o.m ah.o.size);obtain⟨u',gT,_,_,_,gV⟩:=(cK.o.ag bT).some_;obtain rfl:=aB gT;obtain⟨dG,gW,eZ,fe⟩:=aad (fP.o.ag bT) gV bT eY;have r0:=bR.cell 0 (u:=.int .i64 k2) rfl;have r1:=bR.cell 1 (u:=.string dC) rfl;have r2:=bR.cell 2 (u:=.slice A4 l4 c4) rfl;have p0:=dG.o.cell 0 (u:=.int .i64 u.aA) rfl;have p1:=dG.o.cell 1 (u:=.string u.aI) rfl;have p2:=dG.o.cell 2 (u:=.slice A7 u.ay.length c7) rfl;clear gQ bR eY dF bT f1 m1 m2 m3 z0 D bQ;cases dE with
            |false=>
             have HH:=aa (dw.o (by simp[aQ.uG,dB.o,fe.o.none_]));clear r0 r1 r2 p0 p1 p2;go_wp2_with fail;go_roundw;case rel=>exact⟨k+1,aX.o,aaw,.inr HH.o,bS.o⟩
             case measure=>exact aax aX.o
            |true=>
             obtain⟨d,dH,rfl,rfl,rfl,fo⟩:=fe.o.some_;have dI:=aa (Zk u d (.agg #[.int .i64 u.aA,.string u.aI,.slice A7 u.ay.length c7]) (.agg #[.int .i64 d.aA,.string d.aI,.slice A4 d.ay.length c4]) kJ gW.o.at fo.at (fJ.o u rfl) (aG (jD (um (dB.o.t dH))) aat));have dJ:=aa (show aQ.uG (some u) U.b (4,G)=decide (T.cmp u d=0)from by simp[aQ.uG,dB.o,dH]);obtain⟨cv,fq⟩:=aay (decide (T.cmp u d=0));rw[fq]at dI dJ;clear fo dH fq;go_wp2_with fail;refine dI.o.m ?_;rintro e iE ⟨rfl,dK⟩;obtain⟨gX,gZ⟩:=aab (bS.o.t (dK.m bS.o.size)) (eZ.o.t (dK.m eZ.o.size));clear dK r0 r1 r2 p0 p1 p2 dI;cases cv with
             |true=>
              have ib:=aa (show false=rr from by
               rw[<-cu.o,eq_comm,Bool.not_eq_false',dM];refine⟨j,ed.2 bB.o,?_⟩;rw[eQ.o];have h1:(j != i)=true:=(by simpa using eX.o);rw[h1,lu,dM];refine⟨(4,G),dA (i:=k) ?_,by rw[dJ.o]⟩;rw[gY,aJ aX.o];exact gK.o)
              have bJ:=aa (aZ.o.t (gZ.o.m (show q0<=wc.heap.size from aaA aZ.o.size V.o)));go_wp2_with fail;go_ret;exact⟨by rw[<-ib.o];rfl,by rw[V.o];exact bJ.o⟩
             |false=>
              have HH:=aa (dw.o dJ.o);go_wp2_with fail;go_roundw;case rel=>exact⟨k+1,aX.o,aaw,.inr HH.o,gX.o⟩
              case measure=>exact aax aX.o
          ·have iF:(mk != 4)=true:=(by simpa using h4);have ic:=aa (show aQ.uG (some u) U.b (mk,G)=false from by unfold aQ.uG;simp[h4]);clear h4 m1 m2 m3;go_wp2_with fail;go_roundw;case rel=>exact⟨k+1,aX.o,aaw,.inr (dw.o ic.o),bP.o⟩
           case measure=>exact aax aX.o
        ·obtain rfl:k=fF:=aar;have HH:=aa (eU.o bC);have gI:(k:Int)<=(k:Int):=il _;exact acG
      ·obtain rfl:j=n:=aar;have cO:(j:Int)<=(j:Int):=il _;have E:=cu.o;rw[bq]at E;obtain rfl:true=rr:=E;have ah:=aa (aZ.o.t (C.m (show q0<=wc.heap.size from aaA aZ.o.size V.o)));clear bq C;exact acF
  ·have iG:(mk != 3)=true:=(by simpa using h3);rw[aH h3]at E;subst E;clear h3 k1 k2 k3 D;go_wp2_with fail;go_ret;exact⟨rfl,by rw[V.o];exact bK.o⟩
end
section
open Go.RowKit Go.Maps Go.WideMaps
theorem YO:ArrKey Tryz.prog 99 3 2:=⟨Tryz.underlying99,aas,aas,aas⟩
theorem Ae:Keyed Tryz.prog 99:=Keyed.of_law YO.law
def VB(i k:Nat):Lit:=.string (keyBytes [.int .i64 i,.int .i64 k])
theorem J3{n:Nat}(h:n<=1048576):(Lit.int .i64 (n:Int)).wf=true:=WalkArith.wf_i64 aar
theorem XZ(i k:Nat):WideAt.IsKeyLit (VB i k):=trivial
theorem MS{i k:Nat}(hi:i<=1048576)(a:k<=1048576):keyOf Tryz.prog 99 (.agg #[.int .i64 i,.int .i64 k])=some (VB i k):=
 keyOf_pair YO gy ⟨Tryz.prog.types.size-1,aas⟩ (J3 hi) (J3 a)
theorem XY{i k j l:Nat}(hi:i<=1048576)(e:k<=1048576)(hj:j<=1048576)(f:l<=1048576)(h:VB i k=VB j l):i=j/\k=l:=by
 unfold VB at h;injection h with h;have:=Go.keyBytes_inj (l:=[.int .i64 i,.int .i64 k]) (l':=[.int .i64 j,.int .i64 l]) (show _/\_/\True from⟨rfl,rfl,trivial⟩) (λa b=>by simp at b;rcases b with rfl|rfl;exact J3 hi;exact J3 e) (λa b=>by simp at b;rcases b with rfl|rfl;exact J3 hj;exact J3 f) h;injection this with d c;injection c with c _;injection d with _ d;injection c with _ c;exact⟨by exact_mod_cast d,by exact_mod_cast c⟩
end
section
open Go.RowKit Go.Maps T
def Xe:El aQ.LU where
 ty:=88
 size:=7
 fF S w xs v:=v.before<=1048576/\v.turn.df<=1048576/\∃A c B d C e,xs=[.slice A v.x.aO.length c,.slice B v.x.bF.length d,.int .i64 (v.before:Int),.int .i64 (v.turn.df:Int),.int .i64 v.turn.bC.aA,.string v.turn.bC.aI,.slice C v.turn.bC.ay.length e]/\
  jU Da S w (.slice A v.x.aO.length c) v.x.aO/\jU oC S w (.slice B v.x.bF.length d) v.x.bF/\bI S w (.agg #[.int .i64 v.turn.bC.aA,.string v.turn.bC.aI,.slice C v.turn.bC.ay.length e]) v.turn.bC
 len:=λ⟨_,_,_,_,_,_,_,_,e,_⟩=>by rw[e];rfl
 one:=λ⟨_,_,_,_,_,_,_,_,e,_⟩ u hu=>by rw[e]at hu;simp at hu;rcases hu with rfl|rfl|rfl|rfl|rfl|rfl|rfl<;>rfl
 aR:=λ⟨b,f,A,c,B,d,C,e,g,h,i,j⟩ a=>⟨b,f,A,c,B,d,C,e,g,h.aR a,i.aR a,j.aR a⟩
 pos:=by decide
def sx(X:Nat->Bool)(g Mn Ma Mg:Nat)(fv:Value):Nat->Bool:=λb=>X b&&!(b==g)&&!(b==Mn)&&!(b==Ma)&&!(b==Mg)&&!(fv.ownBlock==some b)
theorem nN{X:Nat->Bool}{g Mn Ma Mg:Nat}{fv:Value}{b:Nat}:sx X g Mn Ma Mg fv b=true<->X b=true/\b≠g/\b≠Mn/\b≠Ma/\b≠Mg/\fv.ownBlock≠some b:=by
 unfold sx;rw[ah,ah,ah,ah,ah,bT,bT,bT,bT,bT,aD,aD,aD,aD,aD,lF,lF,lF,lF]
abbrev uw(g Mn Ma Mg:Nat)(fv:Value):Nat->Bool:=sx mM g Mn Ma Mg fv
theorem EY{X:Nat->Bool}{g Mn Ma Mg:Nat}{fv:Value}{b:Nat}(h:sx X g Mn Ma Mg fv b=true):uw g Mn Ma Mg fv b=true:=nN.2 ⟨rfl,(nN.1 h).2⟩
def svC(sv fv:Value)(Mn:Nat)(all:Bool)(Ma Mg:Nat):List Value:=[sv,fv,.map (some Mn),.bool all,.map (some Ma),.map (some Mg)]
def Ez(w:World)(M:Nat)(KS:List (List UInt8)):Prop:=∃n F,qK Tryz.prog 9 w M n F/\n<=KS.length/\∀k:ByteArray,(F (zZ k)).isSome=KS.any λq=>decide (q=k.data.toList)
def Bi(s:List iN)(S:Nat->Bool)(w:World)(M N:Nat):Prop:=∃n F,qK Tryz.prog 9 w M n F/\n<=N/\∀(k:ByteArray) (u:Value),F (zZ k)=some u->∃l,Tg s k.data.toList l/\jU oC S w u l
def Jy(S:Nat->Bool)(w:World)(M N:Nat)(oo:List ((Nat×Nat)×List mg)):Prop:=∃n F,qK Tryz.prog 99 w M n F/\n<=N/\∀i k:Nat,i<=1048576->k<=1048576->match oo.lookup (i,k)with
 |none=>F (VB i k)=none
 |some l=>∃u,F (VB i k)=some u/\jU zG S w u l
section
variable {S S':Nat->Bool} {w w':World} {M N:Nat}
theorem Ez.aR{KS:List (List UInt8)}(h:Ez w M KS)(a:w'.heap[M]?=w.heap[M]?):Ez w' M KS:=by
 obtain⟨n,F,b,c⟩:=h;exact⟨n,F,b.aR a,c⟩
theorem Ez.lt{KS:List (List UInt8)}(h:Ez w M KS):M<w.heap.size:=by
 obtain⟨n,F,a,b⟩:=h;exact a.lt
theorem Bi.aR{s:List iN}(h:Bi s S w M N)(hM:w'.heap[M]?=w.heap[M]?)(a:∀b,S b=true->b<w.heap.size->S' b=true/\w'.heap[b]?=w.heap[b]?):Bi s S' w' M N:=by
 obtain⟨n,F,c,d,e⟩:=h;exact⟨n,F,c.aR hM,d,λk u hu=>by
  obtain⟨l,f,g⟩:=e k u hu;exact⟨l,f,g.aR a⟩⟩
theorem Bi.lt{s:List iN}(h:Bi s S w M N):M<w.heap.size:=by
 obtain⟨n,F,a,b⟩:=h;exact a.lt
theorem Jy.aR{oo:List ((Nat×Nat)×List mg)}(h:Jy S w M N oo)(hM:w'.heap[M]?=w.heap[M]?)(c:∀b,S b=true->b<w.heap.size->S' b=true/\w'.heap[b]?=w.heap[b]?):Jy S' w' M N oo:=by
 obtain⟨n,F,d,e,f⟩:=h;refine⟨n,F,d.aR hM,e,λi k hi g=>?_⟩;have:=f i k hi g;cases a:oo.lookup (i,k)with
 |none=>rw[a]at this;exact this
 |some l=>
  rw[a]at this;obtain⟨u,j,m⟩:=this;exact⟨u,j,m.aR c⟩
theorem Jy.lt{oo:List ((Nat×Nat)×List mg)}(h:Jy S w M N oo):M<w.heap.size:=by
 obtain⟨n,F,a,b⟩:=h;exact a.lt
end
structure kN (X:Nat->Bool) (s:List iN) (sv:Value) (B g Mn Ma Mg N NA:Nat) (w:World) (fv:Value) (v:aQ.xH) (KS:List (List UInt8)):Prop where
 box:gU w g 95 (svC sv fv Mn v.all Ma Mg)
 jc:fZ Xe (sx X g Mn Ma Mg fv) B w fv v.jc
 nums:Ez w Mn KS
 bC:Bi s (sx X g Mn Ma Mg fv) w Mg N
 oo:Jy (sx X g Mn Ma Mg fv) w Ma NA v.oo
 low:B<=g/\B<=Mn/\B<=Ma/\B<=Mg
 sep:g≠Mn/\g≠Ma/\g≠Mg/\Mn≠Ma/\Mn≠Mg/\Ma≠Mg
 qy:∀k,fv.ownBlock=some k->k≠g/\k≠Mn/\k≠Ma/\k≠Mg
 fresh:∀b,w.heap.size<=b->X b=true
 Pq:∀b,b<B->X b=true
structure xG (B g Mn Ma Mg:Nat) (w:World) (fv:Value) (w':World) (Dx:Value):Prop where
 below:Below B w w'
 aR:∀b,uw g Mn Ma Mg fv b=true->b<w.heap.size->uw g Mn Ma Mg Dx b=true/\w'.heap[b]?=w.heap[b]?
section
variable {X:Nat->Bool} {s:List iN} {sv:Value} {B g Mn Ma Mg N NA:Nat} {w w' w'':World} {fv Dx Rw:Value} {v:aQ.xH} {KS:List (List UInt8)}
theorem xG.refl(B g Mn Ma Mg:Nat)(w:World)(fv:Value):xG B g Mn Ma Mg w fv w fv:=⟨aC _ _,λ_ hb _=>⟨hb,rfl⟩⟩
theorem xG.t(k:xG B g Mn Ma Mg w fv w' Dx)(k':xG B g Mn Ma Mg w' Dx w'' Rw):xG B g Mn Ma Mg w fv w'' Rw:=
 ⟨k.below.t k'.below,λb hb a=>by
   obtain⟨c,d⟩:=k.aR b hb a;obtain⟨e,f⟩:=k'.aR b c (dw a k.below.size);exact⟨e,f.t d⟩⟩
theorem xG.of(a:B<=w.heap.size)(hb:Below w.heap.size w w'):xG B g Mn Ma Mg w fv w' fv:=⟨hb.m a,λb c d=>⟨c,hb.block b d⟩⟩
theorem xG.ag(k:xG B g Mn Ma Mg w fv w' Dx)(a:B<=w.heap.size)(hb:Below w'.heap.size w' w''):xG B g Mn Ma Mg w fv w'' Dx:=k.t (xG.of (aG a k.below.size) hb)
theorem kN.lt(h:kN X s sv B g Mn Ma Mg N NA w fv v KS):B<=w.heap.size:=by have:=h.box.lt;have:=h.low.1;omega
theorem kN.ag(h:kN X s sv B g Mn Ma Mg N NA w fv v KS)(hb:Below w.heap.size w w'):kN X s sv B g Mn Ma Mg N NA w' fv v KS:=
 ⟨h.box.ag hb,h.jc.ag hb,h.nums.aR (hb.block _ h.nums.lt),h.bC.aR (hb.block _ h.bC.lt) (λb a c=>⟨a,hb.block b c⟩),h.oo.aR (hb.block _ h.oo.lt) (λb a c=>⟨a,hb.block b c⟩),h.low,h.sep,h.qy,λb a=>h.fresh b (aG hb.size a),h.Pq⟩
theorem kN.more(h:kN X s sv B g Mn Ma Mg N NA w fv v KS){a b:Nat}(c:N<=a)(hA:NA<=b):kN X s sv B g Mn Ma Mg a b w fv v KS:=by
 obtain⟨n,F,d,e,f⟩:=h.bC;obtain⟨i,j,k,l,b3⟩:=h.oo;exact⟨h.box,h.jc,h.nums,⟨n,F,d,aG e c,f⟩,⟨i,j,k,aG l hA,b3⟩,h.low,h.sep,h.qy,h.fresh,h.Pq⟩
theorem kN.new(h:kN X s sv B g Mn Ma Mg N NA w fv v KS){b:Nat}(hb:w.heap.size<=b):sx X g Mn Ma Mg fv b=true:=
 nN.2 ⟨h.fresh b hb,aaz h.box.lt,aaz h.nums.lt,aaz h.oo.lt,aaz h.bC.lt,λe=>aaz ((h.jc.block b e).2)⟩
open Classical in
theorem kN.UY(h:kN X s sv B g Mn Ma Mg N NA w fv v KS)(k:ByteArray)(m:k.size<=maxLen)(H:N<maxLen){u:Value}{l:List T}(o:Tg s k.data.toList l)(hu:jU oC (sx X g Mn Ma Mg fv) w u l):
 ∃w',(Instr.mapUpdate 93 (.map (some Mg)) (.string k) u).run Tryz.prog w=.ok () w'/\kN X s sv B g Mn Ma Mg (N+1) NA w' fv v KS/\xG B g Mn Ma Mg w fv w' fv:=by
 obtain⟨n,F,p,I,r⟩:=h.bC;obtain⟨w',t,x,a⟩:=p.put vX Tryz.underlying93 aar (Ih k m) (K7 k) u;obtain⟨J,K,z,L,A,C⟩:=h.sep;have j:∀b,uw g Mn Ma Mg fv b=true->b<w.heap.size->uw g Mn Ma Mg fv b=true/\w'.heap[b]?=w.heap[b]?:=λb hb c=>⟨hb,a.block b c (λe=>(nN.1 hb).2.2.2.2.1 (aB e))⟩;have d:∀b,sx X g Mn Ma Mg fv b=true->b<w.heap.size->sx X g Mn Ma Mg fv b=true/\w'.heap[b]?=w.heap[b]?:=λb hb c=>⟨hb,(j b (EY hb) c).2⟩;refine⟨w',t,⟨h.box.grown a (λe=>z (aB e).symm),h.jc.aR λb hb c=>?_,h.nums.aR (a.block _ h.nums.lt (λe=>A (aB e))),⟨n+1,λq=>if q=zZ k then some u else F q,x _ (aJ rfl) (λq i=>aH i),aar,λq y hy=>?_⟩,h.oo.aR (a.block _ h.oo.lt (λe=>C (aB e))) d,h.low,h.sep,h.qy,λb hb=>h.fresh b (aG a.size hb),h.Pq⟩,⟨(aC B w).grown a h.lt (λq i=>by rw[<-aB i];exact h.low.2.2.2),j⟩⟩
 ·rcases hb with hb|hb;·exact(d b hb c).2
  ·exact a.block b c (λe=>(h.qy b hb).2.2.2 (aB e))
 ·have f:(if zZ q=zZ k then some u else F (zZ q))=some y:=hy;by_cases e:zZ q=zZ k
  ·rw[aJ e]at f;obtain rfl:=Gv e;obtain rfl:u=y:=(by injection f);exact⟨l,o,hu.aR d⟩
  ·rw[aH e]at f;obtain⟨D,E,G⟩:=r q y f;exact⟨D,E,G.aR d⟩
open Classical in
theorem kN.Yk(h:kN X s sv B g Mn Ma Mg N NA w fv v KS){i k:Nat}(hi:i<=1048576)(o:k<=1048576)(O:NA<maxLen){u:Value}{l:List mg}(hu:jU zG (sx X g Mn Ma Mg fv) w u l):
 ∃w',(Instr.mapUpdate 92 (.map (some Ma)) (.agg #[.int .i64 i,.int .i64 k]) u).run Tryz.prog w=.ok () w'/\kN X s sv B g Mn Ma Mg N (NA+1) w' fv ⟨v.jc,v.all,((i,k),l)::v.oo⟩ KS/\xG B g Mn Ma Mg w fv w' fv:=by
 obtain⟨n,F,y,P,z⟩:=h.oo;obtain⟨w',A,C,c⟩:=y.put Ae om aar (MS hi o) (XZ i k) u;obtain⟨Q,D,R,E,S,G⟩:=h.sep;have p:∀b,uw g Mn Ma Mg fv b=true->b<w.heap.size->uw g Mn Ma Mg fv b=true/\w'.heap[b]?=w.heap[b]?:=λb hb a=>⟨hb,c.block b a (λe=>(nN.1 hb).2.2.2.1 (aB e))⟩;have f:∀b,sx X g Mn Ma Mg fv b=true->b<w.heap.size->sx X g Mn Ma Mg fv b=true/\w'.heap[b]?=w.heap[b]?:=λb hb a=>⟨hb,(p b (EY hb) a).2⟩;refine⟨w',A,⟨h.box.grown c (λe=>D (aB e).symm),h.jc.aR λb hb a=>?_,h.nums.aR (c.block _ h.nums.lt (λe=>E (aB e))),h.bC.aR (c.block _ h.bC.lt (λe=>G (aB e).symm)) f,⟨n+1,λq=>if q=VB i k then some u else F q,C _ (aJ rfl) (λq m=>aH m),aar,λd k' r t=>?_⟩,h.low,h.sep,h.qy,λb hb=>h.fresh b (aG c.size hb),h.Pq⟩,⟨(aC B w).grown c h.lt (λq m=>by rw[<-aB m];exact h.low.2.2.1),p⟩⟩
 ·rcases hb with hb|hb;·exact(f b hb a).2
  ·exact c.block b a (λe=>(h.qy b hb).2.2.1 (aB e))
 ·by_cases e:(d,k')=(i,k)
  ·obtain⟨rfl,rfl⟩:=Prod.mk.inj e;simp only[xN,xW];exact⟨u,aJ trivial,hu.aR f⟩
  ·have H:((d,k')==(i,k))=false:=aD.2 e;have x:¬VB d k'=VB i k:=λh'=>e (by obtain⟨I,J⟩:=XY r t hi o h';rw[I,J]);have j:=z d k' r t;simp only[xN,H];cases a:v.oo.lookup (d,k')with
   |none=>rw[a]at j;exact(aH x).t j
   |some T=>
    rw[a]at j;obtain⟨K,L,M⟩:=j;exact⟨K,(aH x).t L,M.aR f⟩
open Classical in
theorem kN.Ym(h:kN X s sv B g Mn Ma Mg N NA w fv v KS)(k:ByteArray)(j:k.size<=maxLen)(z:KS.length<maxLen)(u:Value):
 ∃w',(Instr.mapUpdate 91 (.map (some Mn)) (.string k) u).run Tryz.prog w=.ok () w'/\kN X s sv B g Mn Ma Mg N NA w' fv v (KS++[k.data.toList])/\xG B g Mn Ma Mg w fv w' fv:=by
 obtain⟨n,F,l,m,o⟩:=h.nums;obtain⟨w',p,r,a⟩:=l.put vX oh aar (Ih k j) (K7 k) u;obtain⟨t,A,C,x,y,D⟩:=h.sep;have i:∀b,uw g Mn Ma Mg fv b=true->b<w.heap.size->uw g Mn Ma Mg fv b=true/\w'.heap[b]?=w.heap[b]?:=λb hb c=>⟨hb,a.block b c (λe=>(nN.1 hb).2.2.1 (aB e))⟩;have d:∀b,sx X g Mn Ma Mg fv b=true->b<w.heap.size->sx X g Mn Ma Mg fv b=true/\w'.heap[b]?=w.heap[b]?:=λb hb c=>⟨hb,(i b (EY hb) c).2⟩;refine⟨w',p,⟨h.box.grown a (λe=>t (aB e).symm),h.jc.aR λb hb c=>?_,⟨n+1,λq=>if q=zZ k then some u else F q,r _ (aJ rfl) (λq f=>aH f),by rw[aF];exact Nat.succ_le_succ m,λq=>?_⟩,h.bC.aR (a.block _ h.bC.lt (λe=>y (aB e).symm)) d,h.oo.aR (a.block _ h.oo.lt (λe=>x (aB e).symm)) d,h.low,h.sep,h.qy,λb hb=>h.fresh b (aG a.size hb),h.Pq⟩,⟨(aC B w).grown a h.lt (λq f=>by rw[<-aB f];exact h.low.2.1),i⟩⟩
 ·rcases hb with hb|hb;·exact(d b hb c).2
  ·exact a.block b c (λe=>(h.qy b hb).2.1 (aB e))
 ·show(if zZ q=zZ k then some u else F (zZ q)).isSome=_;rw[zf,<-o q];by_cases e:zZ q=zZ k
  ·rw[aJ e];obtain rfl:=Gv e;simp
  ·rw[aH e];have:¬k.data.toList=q.data.toList:=λh'=>e (by unfold zZ;rw[h']);simp[this]
theorem kN.cut(h:kN X s sv B g Mn Ma Mg N NA w fv v KS):kN X s sv B g Mn Ma Mg N NA (w.setCell ⟨g,3,none⟩ (.bool false)) fv ⟨v.jc,false,v.oo⟩ KS/\xG B g Mn Ma Mg w fv (w.setCell ⟨g,3,none⟩ (.bool false)) fv:=by
 obtain⟨f,i,j,k,l,m⟩:=h.sep;have a:∀b,b≠g->(w.setCell ⟨g,3,none⟩ (.bool false)).heap[b]?=w.heap[b]?:=λb hb=>aL _ _ _ _ hb;have e:∀b,uw g Mn Ma Mg fv b=true->b<w.heap.size->uw g Mn Ma Mg fv b=true/\(w.setCell ⟨g,3,none⟩ (.bool false)).heap[b]?=w.heap[b]?:=λb hb _=>⟨hb,a b (nN.1 hb).2.1⟩;have c:∀b,sx X g Mn Ma Mg fv b=true->b<w.heap.size->sx X g Mn Ma Mg fv b=true/\(w.setCell ⟨g,3,none⟩ (.bool false)).heap[b]?=w.heap[b]?:=λb hb d=>⟨hb,(e b (EY hb) d).2⟩;refine⟨⟨h.box.set 3 _,h.jc.aR λb hb d=>?_,h.nums.aR (a _ (jR f)),h.bC.aR (a _ (jR j)) c,h.oo.aR (a _ (jR i)) c,h.low,h.sep,h.qy,λb hb=>h.fresh b abu,h.Pq⟩,⟨(aC B w).setCell (show B<=(⟨g,3,none⟩:Addr).block from h.low.1) _,e⟩⟩;rcases hb with hb|hb;·exact(c b hb d).2
 ·exact a b (h.qy b hb).1
theorem kN.push{m cap a:Nat}{y:aQ.LU}{cs:List Value}{dE:List (List Value)}(h:kN X s sv B g Mn Ma Mg N NA w fv v KS)(u:Xe.all (off (sx X g Mn Ma Mg fv) fv.ownBlock) w dE v.jc)(x:v.jc.length=m)(z:Xe.fF (sx X g Mn Ma Mg fv) w cs y)
 (l:w'.ownsRow B 88 7 (.slice (some ⟨a,0,none⟩) (m+1) cap) (m+1) (dE.flatten++cs)) (f:w.grownBy w' fv.ownBlock) (n:fv.ownBlock=some a\/w.heap.size<=a):
 kN X s sv B g Mn Ma Mg N NA (w'.setCell ⟨g,1,none⟩ (.slice (some ⟨a,0,none⟩) (m+1) cap)) (.slice (some ⟨a,0,none⟩) (m+1) cap) ⟨v.jc++[y],v.all,v.oo⟩ KS/\
  xG B g Mn Ma Mg w fv (w'.setCell ⟨g,1,none⟩ (.slice (some ⟨a,0,none⟩) (m+1) cap)) (.slice (some ⟨a,0,none⟩) (m+1) cap):=by
 obtain⟨A,C,D,K,L,M⟩:=h.sep;have o:a≠g/\a≠Mn/\a≠Ma/\a≠Mg:=by
  rcases n with c|c;·exact h.qy a c
  ·exact⟨aaz h.box.lt,aaz h.nums.lt,aaz h.oo.lt,aaz h.bC.lt⟩
 have i:∀q,q<w.heap.size->q≠g->fv.ownBlock≠some q->(w'.setCell ⟨g,1,none⟩ (.slice (some ⟨a,0,none⟩) (m+1) cap)).heap[q]?=w.heap[q]?:=λq d c E=>(aL _ _ _ _ c).t (f.block q d (λe=>E e.symm));have j:∀Y:Nat->Bool,∀b,sx Y g Mn Ma Mg fv b=true->b<w.heap.size->sx Y g Mn Ma Mg (.slice (some ⟨a,0,none⟩) (m+1) cap) b=true/\(w'.setCell ⟨g,1,none⟩ (.slice (some ⟨a,0,none⟩) (m+1) cap)).heap[b]?=w.heap[b]?:=λY b hb d=>by
  obtain⟨a0,p,F,G,H,r⟩:=nN.1 hb;refine⟨nN.2 ⟨a0,p,F,G,H,λe=>?_⟩,i b d p r⟩;have I:a=b:=aB e;rcases n with c|c;·exact r (by rw[c,I])
  ·omega
 have O:=l.lt a rfl;refine⟨⟨(h.box.grown f (λe=>(h.qy g e).1 rfl)).set 1 _,?_,h.nums.aR (i _ h.nums.lt (jR A) (λe=>(h.qy _ e).2.1 rfl)),h.bC.aR (i _ h.bC.lt (jR D) (λe=>(h.qy _ e).2.2.2 rfl)) (j X),h.oo.aR (i _ h.oo.lt (jR C) (λe=>(h.qy _ e).2.2.1 rfl)) (j X),h.low,h.sep,λq k=>by rw[<-aB k];exact o,λb hb=>h.fresh b (aG f.size abu),h.Pq⟩,⟨((aC B w).grown f h.lt (λq k=>(h.jc.block q k).1)).setCell (show B<=(⟨g,1,none⟩:Addr).block from h.low.1) _,j mM⟩⟩;refine⟨dE++[cs],?_,?_⟩
 ·have t:∀b,sx X g Mn Ma Mg fv b=true->b<w.heap.size->off (sx X g Mn Ma Mg (.slice (some ⟨a,0,none⟩) (m+1) cap)) (some a) b=true/\(w'.setCell ⟨g,1,none⟩ (.slice (some ⟨a,0,none⟩) (m+1) cap)).heap[b]?=w.heap[b]?:=λb hb d=>by
   obtain⟨c1,c2⟩:=j X b hb d;exact⟨dL.2 ⟨c1,λe=>(nN.1 c1).2.2.2.2.2 e⟩,c2⟩
  exact(u.aR λb hb d=>t b (dL.1 hb).1 d).push (Xe.aR z t)
 ·have J:(v.jc++[y]).length=m+1:=(by simp[x]);rw[J,pM];have:=pE l (w':=w'.setCell ⟨g,1,none⟩ (.slice (some ⟨a,0,none⟩) (m+1) cap)) λb hb _=>aL _ _ _ _ (by
   show b≠g;rw[<-(show a=b from aB hb)];exact o.1)
  have e:([cs]:List (List Value)).flatten=cs:=aau;rw[e];exact this
theorem kN.turn{Y:Nat->Bool}(h:kN X s sv B g Mn Ma Mg N NA w fv v KS)(d:∀b,sx X g Mn Ma Mg fv b=true->b<w.heap.size->Y b=true/\w'.heap[b]?=w.heap[b]?)(a:∀b,(b=g\/b=Mn\/b=Ma\/b=Mg\/fv.ownBlock=some b)->w'.heap[b]?=w.heap[b]?)(e:∀b,w'.heap.size<=b->Y b=true)(hd:∀b,b<B->Y b=true):kN Y s sv B g Mn Ma Mg N NA w' fv v KS:=by
 have kk:∀b,sx X g Mn Ma Mg fv b=true->b<w.heap.size->sx Y g Mn Ma Mg fv b=true/\w'.heap[b]?=w.heap[b]?:=λb hb c=>⟨nN.2 ⟨(d b hb c).1,(nN.1 hb).2⟩,(d b hb c).2⟩;refine⟨(a g (.inl rfl)).t h.box,?_,h.nums.aR (a _ (.inr (.inl rfl))),h.bC.aR (a _ (.inr (.inr (.inr (.inl rfl))))) kk,h.oo.aR (a _ (.inr (.inr (.inl rfl)))) kk,h.low,h.sep,h.qy,e,hd⟩;obtain⟨dE,f,i⟩:=h.jc;exact⟨dE,f.aR λb hb c=>⟨dL.2 ⟨(kk b (dL.1 hb).1 c).1,(dL.1 hb).2⟩,(kk b (dL.1 hb).1 c).2⟩,pE i λb hb _=>a b (.inr (.inr (.inr (.inr hb))))⟩
end
end
end Go.Proofs.YtaciciokmpbkkaaGreatDoor
