import Derived.Test.YtaciciokmpbkkaaGreatDoorWebG16
set_option maxRecDepth 100000
set_option maxHeartbeats 16000000
namespace Go.Proofs.YtaciciokmpbkkaaGreatDoor
section
open Go.RowKit T
attribute [local go_sem ↓] Go.wp_at_zero Go.wp_at_succ
theorem Ug{p t:T}{L:List Bd}(h:p.eZ=false):oz p t L=none:=by unfold oz;rw[h];rfl
theorem Uh{p t:T}{L:List Bd}(h:t.ground=false):oz p t L=none:=by
 unfold oz T.use;rw[h];simp
theorem Ui{p t:T}{L:List Bd}(h:t.K5=false):oz p t L=none:=by
 unfold oz T.use;rw[h];simp
theorem Uj{p t:T}{L:List Bd}(h:jO L=false):oz p t L=none:=by
 unfold oz;rw[h];simp
theorem Uk{p t:T}{L:List Bd}(a:p.eZ=true)(b:t.ground=true)(c:t.K5=true)(d:jO L=true):oz p t L=FE p t L:=by
 unfold oz T.use;rw[a,b,c,d];rfl
theorem acd{p:Prop}(h:p:=by
 (first|(refine a _ _ ?_;clear a K)|skip);(refine eG (i:=6) (v:=?_) aa4 aas aas aas aa3 (Or.inl ⟨aav,?_⟩) ?_;rotate_left 1;· (intro w;go_simp;(try with_reducible rfl)));refine bY (rs:=[7]) aas aau ?_;refine bH aa4 (λK a=>?_) ?_
 ·go_simp;(first|(refine a _ _ ?_;clear a K)|skip);refine bY (rs:=[8]) aas aau ?_;refine bH aa4 (λK a=>?_) ?_
  ·(refine dW _ aav _ _ _ aav w.heap.size 132 i0 _ 4 64 fQ ah ak av az rfl aar _ j _ aav R.o ⟨_,0,none⟩ 1 1 _ aav aav (cZ (bP _ _)) S.o aar aaS aar u.o _ rfl ?_;intro g bi w4 y p z T;go_simp);(first|(refine a _ _ ?_;clear a K)|skip);(refine eG (i:=9) (v:=?_) aa4 aas aas aas aa3 (Or.inl ⟨aav,?_⟩) ?_;rotate_left 1;· (intro w;go_simp;(try with_reducible rfl)));refine kX aas ?_ _;have q:=yl.push (base:=w.heap.size) HOWN.o aY.o.symm Z.o aW.o (λb _ F=>d.block b F) d.size f.o.size r y p z;have C:=d.t ((ae w3 (.cells #[.string x.var,.int .i64 x.t.aA,.string x.t.aI,.slice l x.t.ay.length C3] 132)).m d.size);have D:=(f.o.t (C.m f.o.size)).grown p u.o (λk U=>(HOWN.o.lt k U).1);rw[<-aV.o]at q;obtain⟨V,W⟩:=aab q D;clear q D C y p z T r s d z0 Q z2 z3 I J M N;go_wp2_with fail;go_roundw;case rel=>exact⟨j+1,G.o,aaw,V.o,W.o⟩
   case measure=>exact aax G.o
  exact bS
 exact bS):p:=h
theorem ace{p:Prop}(h:p:=by
 go_simp;(first|(refine a _ _ ?_;clear a K)|skip);refine bY (rs:=[5]) aas aau ?_;refine bH aa4 (λK a=>?_) ?_
 ·(go_simp;go_at_call 36;refine(wW (x.t.bE+1) x.t _ _ aar Y.o.drew aU.o).m ?_;rintro e w3 ⟨l,C3,rfl,r,s⟩;have d:=jN s;obtain⟨z0,Q,z2,z3⟩:=aal d I J M N;obtain⟨R,S⟩:=aab ((dG HOWN.o d).alloc (.cells #[.string x.var,.int .i64 x.t.aA,.string x.t.aI,.slice l x.t.ay.length C3] 132)) (Dj x.var x.t l C3);have u:=aa (show w.heap.size<=(w3.alloc (.cells #[.string x.var,.int .i64 x.t.aA,.string x.t.aI,.slice l x.t.ay.length C3] 132)).heap.size by rw[aK];have:=d.size;have:=f.o.size;omega));exact acd
 exact bS):p:=h
theorem QE(L:List Bd)(v:Value)(w:World)(hv:gH w v L)(hb:∀x∈L,x.t.bE<=1048576)(hn:L.length<=1000000):
 Calls Tryz.prog 104 #[v] w λe w'=>∃v',e=.returned v'/\yl w.heap.size w' v' L/\Below w.heap.size w w':=by
 obtain⟨A,cap,rfl,bn,bq⟩:=hv.shape;obtain⟨i0,ah,ak,av,az⟩:=dU Tryz.Fu;obtain⟨n,aB⟩:=aay L.length;obtain⟨HN,HB,HV⟩:=aac aB hb hv;rw[aB]at hn bn⊢;clear hv hb aB;go_enter Tryz.func104,Tryz.ntmps104;go_wp2_with fail;go_loopw [8,3] (λi o wr=>∃j:Nat,j<=n/\i=.int .i64 j/\yl w.heap.size wr o (L.take j)/\Below w.heap.size w wr) (λi _ _=>n-(intOf i).toNat);case atStart=>exact⟨0,aT _,rfl,by rw[iM];exact yl.nil _ _,aC _ _⟩
 case round=>
  obtain⟨j,hj,rfl,O,m⟩:=hrel;by_cases aD:j<n
  ·have X:j<L.length:=(by rw[HN.o];exact aD);obtain⟨b,off,B,c,rfl,aF,aG,aH,aJ,ht,aL⟩:=HV.o.get X;have aM:=HB.o _ (aP X);have aN:L.take (j+1)=L.take j++[⟨L[j].var,L[j].t⟩]:=aZ X;obtain⟨x,hx⟩:=aay (L[j]);rw[hx]at aF aG aH aJ ht aM aL aN;obtain⟨d0,d1,d2,d3⟩:=aal m aF aG aH aJ;obtain⟨Ao,co,xs,rfl,aO,aQ⟩:=O.cells;have aS:(L.take j).length=j:=aaR;rw[aS]at aO aQ⊢;have hi:(j:Int)<(n:Int):=aar;have P:=ae wr (.cells #[.string x.var,.int .i64 x.t.aA,.string x.t.aI,.slice B x.t.ay.length c] 132);have E:=bP wr (.cells #[.string x.var,.int .i64 x.t.aA,.string x.t.aI,.slice B x.t.ay.length c] 132);have bf:=aK wr (.cells #[.string x.var,.int .i64 x.t.aA,.string x.t.aI,.slice B x.t.ay.length c] 132);obtain⟨f,Y,G,aU,aV,aW,HOWN,Z,aY⟩:=aai (m.t (P.m m.size)) ((ht.ag (m.t (P.m m.size)))) aD aM aN aL (dG aO P) ((show Ku (but w.heap.size (Value.slice Ao j co).ownBlock) _ xs (L.take j)from aQ.aR λb hb F=>⟨hb,P.block b F⟩)) aS;clear m ht hx P X hj aF aG aH aJ aM aN aL aO aQ O aS aD;go_upto_region 5 with fail;generalize wr.alloc _=w2 at E bf f Y HOWN Z⊢;obtain⟨H,bg⟩:=aay wr.heap.size;rw[bg]at E⊢;have I:w2.cell? ⟨H,0,none⟩=some (.string x.var):=abh;have J:w2.cell? ⟨H,1,none⟩=some (.int .i64 x.t.aA):=abh;have M:w2.cell? ⟨H,2,none⟩=some (.string x.t.aI):=abh;have N:w2.cell? ⟨H,3,none⟩=some (.slice B x.t.ay.length c):=abh;clear E bg d0 d1 d2 d3 bf;refine pY aas ?_;(try(change wpAny _ _ _ _ _ _ _ (World.drew _)));(refine eG (i:=0) (v:=?_) aa2 aas aas aas aa3 (Or.inl ⟨aav,?_⟩) ?_;rotate_left 1;· (intro w;go_simp;(try with_reducible rfl)));(refine eG (i:=1) (v:=?_) aa4 aas aas aas aa3 (Or.inl ⟨aav,?_⟩) ?_;rotate_left 1;· (intro w;go_simp;(try with_reducible rfl)));(refine eG (i:=3) (v:=?_) aa4 aas aas aas aa3 (Or.inl ⟨aav,?_⟩) ?_;rotate_left 1;· (intro w;go_simp;(try with_reducible rfl)));refine bY (rs:=[2,4]) aas aau ?_;refine bH aa4 (λK a=>?_) ?_
   ·go_simp;(first|(refine a _ _ ?_;clear a K)|skip);refine bY (rs:=[4]) aas aau ?_;refine bH aa4 (λK a=>?_) ?_
    ·exact ace
    exact bS
   refine bH aa4 (λK a=>?_) ?_
   ·go_simp;(first|(refine a _ _ ?_;clear a K)|skip);refine bY (rs:=[2,5]) aas aau ?_;refine bH aa4 (λK a=>?_) ?_
    ·exact ace
    refine bH aa4 (λK a=>?_) ?_
    ·(go_simp;go_at_call 36;refine(wW (x.t.bE+1) x.t _ _ aar Y.o.drew aU.o).m ?_;rintro e w3 ⟨l,C3,rfl,r,s⟩;have d:=jN s;obtain⟨z0,Q,z2,z3⟩:=aal d I J M N;obtain⟨R,S⟩:=aab ((dG HOWN.o d).alloc (.cells #[.string x.var,.int .i64 x.t.aA,.string x.t.aI,.slice l x.t.ay.length C3] 132)) (Dj x.var x.t l C3);have u:=aa (show w.heap.size<=(w3.alloc (.cells #[.string x.var,.int .i64 x.t.aA,.string x.t.aI,.slice l x.t.ay.length C3] 132)).heap.size by rw[aK];have:=d.size;have:=f.o.size;omega));(first|(refine a _ _ ?_;clear a K)|skip);refine bY (rs:=[2]) aas aau ?_;refine bH aa4 (λK a=>?_) ?_
     ·go_simp;exact acd
     exact bS
    exact bS
   exact bS
  ·obtain rfl:j=n:=aar;rw[bG abg]at O;have hi:¬(j:Int)<(j:Int):=aar;obtain⟨HR,f⟩:=aab O m;clear O m;go_wp2_with fail;go_ret;exact⟨_,rfl,HR.o,f.o⟩
def Tf(r:Option (List Bd))(w:World)(e:Ending)(w':World):Prop:=Below w.heap.size w w'/\match r with
 |none=>∃v,e=.returned (.tuple #[v,.bool false])
 |some x=>∃v,e=.returned (.tuple #[v,.bool true])/\Bf (dP w.heap.size) w' v x
theorem QB(p t:T)(L:List Bd)(pv tv bv:Value)(w:World)(P:aS w pv p)(Q:aS w tv t)(hb:gH w bv L)(hL:L.length<=900000)(H:∀x∈L,x.t.bE<=1048576)(S:p.bE<=1048576)(C:t.bE<=1048576):
 Calls Tryz.prog 118 #[pv,tv,bv] w (Tf (oz p t L) w):=by
 obtain⟨av,aO,aP,aQ⟩:=aad (λv W h=>Az p v W h S) (λv W h=>GA t v W h C) (λv W h=>UG t v W h C) (λW h=>Ww L bv W h H);have aT:=aa (λv1 v2 v3 W h1 h2 h3 (i:p.eZ=true) (U:jO L=true)=>Yb (p.bE+1) p t L v1 v2 v3 W aar h1 h2 h3 ⟨LP.of U,H⟩ (by have h5:p.size<=40:=ak (aN.1 i).1;omega) S C (mr i));have aU:=aa (λx (i:p.eZ=true) (U:jO L=true) (h:FE p t L=some x)=>show(∀y∈x,y.t.bE<=1048576)/\x.length<=1000000 from by
  have h5:p.size<=40:=ak (aN.1 i).1;have h6:=BH (M:=1048576) p t L x ⟨LP.of U,H⟩ C h;exact⟨h6.1.2,aar⟩)
 have V:=Ug (p:=p) (t:=t) (L:=L);have X:=Uh (p:=p) (t:=t) (L:=L);have Y:=Ui (p:=p) (t:=t) (L:=L);have Z:=Uj (p:=p) (t:=t) (L:=L);have hy:=Uk (p:=p) (t:=t) (L:=L);obtain⟨R,hR⟩:=aay (oz p t L);rw[hR]at V X Y Z hy⊢;obtain⟨aV,aW,aX,aY,HY⟩:=aae V X Y Z hy;clear hR V X Y Z hy;obtain⟨A,c,rfl⟩:=bI.view P.uM;obtain⟨B,d,rfl⟩:=bI.view Q.uM;obtain⟨I,J,z,ax⟩:=oq w (.int .i64 p.aA) (.string p.aI) (.slice A p.ay.length c) (.int .i64 t.aA) (.string t.aI) (.slice B t.ay.length d);obtain⟨K,HT,HB⟩:=aac (P.ag z) (Q.ag z) (hb.ag z);clear P Q hb S C H;go_enter Tryz.func118,Tryz.ntmps118;go_upto_region 1 with fail;generalize(w.alloc (.cells #[.int .i64 p.aA,.string p.aI,.slice A p.ay.length c] 29)).alloc (.cells #[.int .i64 t.aA,.string t.aI,.slice B t.ay.length d] 29)=w1 at I J z ax K HT HB⊢;obtain⟨x0,j,k⟩:=I.cells;obtain⟨l,m,n⟩:=J.cells;obtain⟨BX,BY,N⟩:=aac I J z;clear I J z ax;cases i:p.eZ with
 |false=>
  obtain rfl:R=none:=aV.o i;have f:=aa (av.o _ w1 K.o false 76 i (.inr ⟨rfl,rfl⟩));clear i;go_wp2_with fail;refine f.o.m ?_;rintro e w2 ⟨rfl,g⟩;have O:=aa (N.o.t (g.m N.o.size));clear g x0 j k l m n;go_wp2_with fail;go_ret2;exact⟨O.o,_,rfl⟩
 |true=>
  obtain⟨ae,f⟩:=aab i (av.o _ w1 K.o true 0 i (.inl ⟨rfl,rfl⟩));clear i;go_wp2_with fail;refine f.o.m ?_;rintro e w2 ⟨rfl,g⟩;have O:=aa (N.o.t (g.m N.o.size));obtain⟨u0,u1,u2⟩:=(BX.o.ag g).cells;obtain⟨z0,z1,z2⟩:=(BY.o.ag g).cells;obtain⟨aZ,bf,bg,az,bi⟩:=aae (BX.o.ag g) (BY.o.ag g) (K.o.ag g) (HT.o.ag g) (HB.o.ag g);clear g x0 j k l m n f;have f:=aa (aO.o _ w2 az.o);obtain⟨q,a⟩:=aay t.ground;rw[a]at f;go_wp2_with fail;refine f.o.m ?_;rintro e w3 ⟨rfl,o⟩;obtain⟨af,aB,aC,bn,aD,bq⟩:=aaf (O.o.t (o.m O.o.size)) (aZ.o.ag o) (bf.o.ag o) (bg.o.ag o) (az.o.ag o) (bi.o.ag o);clear o u0 u1 u2 z0 z1 z2 f;obtain⟨x0,j,k⟩:=aB.o.cells;obtain⟨l,m,n⟩:=aC.o.cells;cases q with
  |false=>
   obtain rfl:R=none:=aW.o a;clear a;go_wp2_with fail;go_ret2;exact⟨af.o,_,rfl⟩
  |true=>
   have bu:=aa a;clear a;have f:=aa (aP.o _ w3 aD.o);obtain⟨q,a⟩:=aay t.K5;rw[a]at f;go_wp2_with fail;refine f.o.m ?_;rintro e w4 ⟨rfl,s⟩;obtain⟨ah,bz,bA,bB,bC,aF⟩:=aaf (af.o.t (s.m af.o.size)) (aB.o.ag s) (aC.o.ag s) (bn.o.ag s) (aD.o.ag s) (bq.o.ag s);clear s x0 j k l m n f;cases q with
   |false=>
    obtain rfl:R=none:=aX.o a;clear a;go_wp2_with fail;go_ret2;exact⟨ah.o,_,rfl⟩
   |true=>
    have bD:=aa a;clear a;have f:=aa (aQ.o w4 aF.o);obtain⟨q,a⟩:=aay (jO L);rw[a]at f;go_wp2_with fail;refine f.o.m ?_;rintro e w5 ⟨rfl,u⟩;have D:=aa (ah.o.t (u.m ah.o.size));obtain⟨x0,j,k⟩:=(bz.o.ag u).cells;obtain⟨l,m,n⟩:=(bA.o.ag u).cells;obtain⟨bF,bG,bH⟩:=aac (bB.o.ag u) (bC.o.ag u) (aF.o.ag u);clear u f;cases q with
    |false=>
     obtain rfl:R=none:=aY.o a;clear a;go_wp2_with fail;go_ret2;exact⟨D.o,_,rfl⟩
    |true=>
     obtain⟨aH,HM,HK⟩:=aac (HY.o ae.o bu.o bD.o a) (aT.o _ _ _ w5 bF.o bG.o bH.o ae.o a) (λx=>aU.o x ae.o a);clear a;obtain⟨r,hr⟩:=aay (FE p t L);rw[hr]at HM aH HK;obtain rfl:R=r:=aH.o;clear hr;cases R with
     |none=>
      go_wp2_with fail;refine HM.o.m ?_;rintro e w6 ⟨E,F⟩;obtain⟨v6,rfl⟩:=(show ∃v,e=.returned (.tuple #[v,.bool false])from F);have G:=aa (D.o.t (E.m D.o.size));clear F E x0 j k l m n;go_wp2_with fail;go_ret2;exact⟨G.o,_,rfl⟩
     |some x=>
      go_wp2_with fail;refine HM.o.m ?_;rintro e w6 ⟨E,F⟩;obtain⟨v6,rfl,aJ⟩:=(show ∃v,e=.returned (.tuple #[v,.bool true])/\gH w6 v x from F);obtain⟨G,bJ⟩:=aab (D.o.t (E.m D.o.size)) aJ;clear F E x0 j k l m n aJ;go_wp2_with fail;refine(QE x _ _ bJ.o (HK.o x rfl).1 (HK.o x rfl).2).m ?_;rintro e w7 ⟨v7,rfl,aK,aL⟩;obtain⟨bK,bL⟩:=aab (G.o.t (aL.m G.o.size)) aK;clear aK aL;go_wp2_with fail;go_ret2;exact⟨bK.o,_,rfl,bL.o.bin.aR λb hb _=>⟨aM (aG G.o.size (ak hb)),rfl⟩⟩
end
section
open T
theorem jG(l:List T):CY (aQ.Gr l)/\∀x,x∈aQ.Gr l<->x∈l:=by
 have h:∀(r m:List T),CY m->CY (r.foldl zF m)/\∀x,x∈r.foldl zF m<->x∈m\/x∈r:=by
  intro r;induction r with
  |nil=>exact λm a=>⟨a,λx=>aau⟩
  |cons t r b=>
   intro m a;obtain⟨c,d⟩:=vC a t;obtain⟨e,f⟩:=b _ c;refine⟨e,λx=>?_⟩;show x∈r.foldl zF (zF m t)<->_;rw[f,d,bM,DW]
 obtain⟨g,i⟩:=h l [] List.Pairwise.nil;exact⟨g,λx=>(i x).t aau⟩
theorem WT{l m:List T}(h:∀x,x∈l<->x∈m):aQ.Gr l=aQ.Gr m:=Df (jG l).1 (jG m).1 λx=>((jG l).2 x).t ((h x).t ((jG m).2 x).symm)
theorem Vg{l m:List T}(a:CY l)(h:∀x,x∈l<->x∈m):l=aQ.Gr m:=Df a (jG m).1 λx=>(h x).t ((jG m).2 x).symm
theorem kP{l:List ByteArray}{v:ByteArray}:aQ.oM l v=true<->v∈l:=by
 unfold aQ.oM;rw[dM];constructor;·rintro⟨x,a,e⟩;rw[<-ak e];exact a
 ·exact λh=>⟨v,h,aM rfl⟩
theorem Um{l:List ByteArray}{v:ByteArray}:v∈aQ.once l<->v∈l:=by
 induction l with
 |nil=>exact tQ
 |cons x r a=>
  show v∈(if aQ.oM (aQ.once r) x=true then aQ.once r else x::aQ.once r)<->_;by_cases h:aQ.oM (aQ.once r) x=true
  ·rw[aJ h,a,bM];refine⟨.inr,?_⟩;rintro(rfl|h');·exact a.1 (kP.1 h)
   ·exact h'
  ·rw[aH h,bM,bM,a]
structure LG where
 met:List ByteArray
 gP:List T
namespace aQ
def offer(pat:T)(b:List Bd)(P:List T)(h:LG)(t:T):LG:=
 if oM h.met t.key=true then h else ⟨t.key::h.met,if accept pat b P t=true then h.gP++[t] else h.gP⟩
end aQ
theorem Au {pat:T} {b:List Bd} {P:List T}:∀(i seen:List T) (h:LG),(∀t∈seen++i,t.eZ=true)->(∀k,k∈h.met<->∃t∈seen,t.key=k)->(∀t,t∈h.gP<->t∈seen/\aQ.accept pat b P t=true)->h.gP.Nodup->
  (∀k,k∈(i.foldl (aQ.offer pat b P) h).met<->∃t∈seen++i,t.key=k)/\(∀t,t∈(i.foldl (aQ.offer pat b P) h).gP<->t∈seen++i/\aQ.accept pat b P t=true)/\(i.foldl (aQ.offer pat b P) h).gP.Nodup
 |[],seen,h,_,j,l,m=>by rw[dK];exact⟨j,l,m⟩
 |t::r,seen,h,p,j,l,m=>by
  have u:∀x∈(seen++[t])++r,x.eZ=true:=(by rw[dC];exact p);have w:t.eZ=true:=p t aau;have z:∀x∈seen,x.eZ=true:=λx n=>p x (by simp[n]);have A:seen++t::r=(seen++[t])++r:=(by rw[dC];rfl);show(∀k,k∈(r.foldl (aQ.offer pat b P) (aQ.offer pat b P h t)).met<->_)/\_;rw[A];by_cases o:aQ.oM h.met t.key=true
  ·obtain⟨x,n,B⟩:=(j _).1 (kP.1 o);have C:x=t:=key_inj (z x n) w B;subst C;have q:aQ.offer pat b P h x=h:=(by unfold aQ.offer;rw[aJ o]);show(∀k,k∈(r.foldl (aQ.offer pat b P) (aQ.offer pat b P h x)).met<->_)/\(∀t,t∈(r.foldl (aQ.offer pat b P) (aQ.offer pat b P h x)).gP<->_)/\(r.foldl (aQ.offer pat b P) (aQ.offer pat b P h x)).gP.Nodup;rw[q];refine Au r (seen++[x]) h u (λk=>(j k).t ?_) (λy=>(l y).t ?_) m
   ·constructor;·rintro⟨y,hy,e⟩;exact⟨y,by simp[hy],e⟩
    ·rintro⟨y,hy,e⟩;rcases bu.1 hy with hy|hy;·exact⟨y,hy,e⟩
     ·rw[bD]at hy;subst hy;exact⟨y,n,e⟩
   ·constructor;·rintro⟨hy,e⟩;exact⟨by simp[hy],e⟩
    ·rintro⟨hy,e⟩;rcases bu.1 hy with hy|hy;·exact⟨hy,e⟩
     ·rw[bD]at hy;subst hy;exact⟨n,e⟩
  ·have s:t∉seen:=λs=>o (kP.2 ((j _).2 ⟨t,s,rfl⟩));have q:aQ.offer pat b P h t=⟨t.key::h.met,if aQ.accept pat b P t=true then h.gP++[t] else h.gP⟩:=(by unfold aQ.offer;rw[aH o]);show(∀k,k∈(r.foldl (aQ.offer pat b P) (aQ.offer pat b P h t)).met<->_)/\(∀D,D∈(r.foldl (aQ.offer pat b P) (aQ.offer pat b P h t)).gP<->_)/\(r.foldl (aQ.offer pat b P) (aQ.offer pat b P h t)).gP.Nodup;rw[q];refine Au r (seen++[t]) _ u (λk=>?_) (λy=>?_) ?_
   ·rw[bM,j];constructor
    ·rintro(rfl|⟨y,hy,e⟩);·exact⟨t,aau,rfl⟩
     ·exact⟨y,by simp[hy],e⟩
    ·rintro⟨y,hy,e⟩;rcases bu.1 hy with hy|hy;·exact .inr ⟨y,hy,e⟩
     ·rw[bD]at hy;subst hy;exact .inl e.symm
   ·show y∈(if aQ.accept pat b P t=true then h.gP++[t] else h.gP)<->_;by_cases f:aQ.accept pat b P t=true
    ·rw[aJ f,bu,l,bu,bD];constructor
     ·rintro(⟨g,d⟩|rfl);·exact⟨.inl g,d⟩
      ·exact⟨.inr rfl,f⟩
     ·rintro⟨g|rfl,d⟩;·exact .inl ⟨g,d⟩
      ·exact .inr rfl
    ·rw[aH f,l,bu,bD];constructor;·rintro⟨g,d⟩;exact⟨.inl g,d⟩
     ·rintro⟨g|rfl,d⟩;·exact⟨g,d⟩
      ·exact absurd d f
   ·show List.Nodup (if aQ.accept pat b P t=true then h.gP++[t] else h.gP);by_cases f:aQ.accept pat b P t=true
    ·rw[aJ f];exact List.nodup_append.2 ⟨m,aau,λa E c v=>by
      rw[bD]at v;intro e;subst e;subst v;exact s ((l _).1 E).1⟩
    ·rw[aH f];exact m
def bf(f:ByteArray->T)(vs:List ByteArray):List Bd:=vs.map λv=>⟨v,f v⟩
theorem rF(b c:List Bd)(n:ByteArray):T.look (b++c) n=(T.look b n).or (T.look c n):=by
 induction b with
 |nil=>rfl
 |cons x r a=>
  show(if x.var=n then some x.t else T.look (r++c) n)=((if x.var=n then some x.t else T.look r n).or (T.look c n));by_cases h:x.var=n;·rw[aJ h,aJ h];rfl
  ·rw[aH h,aH h,a]
theorem Gw(f:ByteArray->T)(vs:List ByteArray)(n:ByteArray):T.look (bf f vs) n=if aQ.oM vs n=true then some (f n) else none:=by
 induction vs with
 |nil=>rfl
 |cons v r a=>
  show(if v=n then some (f v) else T.look (bf f r) n)=_;by_cases h:v=n;·subst h;rw[aJ rfl,aJ (kP.2 aau)]
  ·rw[aH h,a];by_cases h':aQ.oM r n=true;·rw[aJ h',aJ (kP.2 (aY _ (kP.1 h')))]
   ·rw[aH h',aH (λk=>h' (kP.2 ((bM.1 (kP.1 k)).resolve_left (jR h))))]
mutual
theorem NL:∀(p:T) (b c:List Bd),(∀n,T.look b n=T.look c n)->put p b=put p c
 |.mk k s a,b,c,h=>by
  simp only[put];rw[h,FM a b c h]
theorem FM:∀(ps:List T) (b c:List Bd),(∀n,T.look b n=T.look c n)->eU ps b=eU ps c
 |[],_,_,_=>rfl
 |p::r,b,c,h=>by
  simp only[eU];rw[NL p b c h,FM r b c h]
end
theorem Hq{p:T}{b c:List Bd}(h:∀n,T.look b n=T.look c n):jP p b=jP p c:=by unfold jP;rw[NL p b c h]
theorem xZ {pat:T} {names:List ByteArray} {P:List T} {t:T}:∀(vs:List ByteArray) (b:List Bd),
  t∈aQ.fills pat names P vs b<->∃f:ByteArray->T,(∀v∈vs,f v∈P/\(v∈names->(f v).aA=1))/\jP pat (b++bf f vs)=some t
 |[],b=>by
  simp only[aQ.fills,bf,qP,dK,Option.mem_toList];exact⟨λh=>⟨λ_=>qz,λv g=>(by cases g),h⟩,λ⟨_,_,h⟩=>h⟩
 |v::r,b=>by
  simp only[aQ.fills,o6];constructor
  ·rintro⟨p,i,h⟩;by_cases a:aQ.oM names v=true/\p.aA≠1;·rw[aJ a]at h;cases h
   ·rw[aH a]at h;obtain⟨f,c,d⟩:=(xZ r (b++[⟨v,p⟩])).1 h;refine⟨λn=>if n=v then p else f n,λu hu=>?_,?_⟩
    ·by_cases e:u=v
     ·subst e;simp only[aJ];refine⟨i,λj=>?_⟩;exact Classical.byContradiction λk=>a ⟨kP.2 j,k⟩
     ·simp only[aH e];exact c u ((bM.1 hu).resolve_left e)
    ·rw[<-d];refine Hq λn=>?_;rw[rF,rF,rF,Gw,Gw];show(T.look b n).or _=((T.look b n).or (if v=n then some p else none)).or _;cases T.look b n with
     |some y=>rfl
     |none=>
      by_cases e:v=n
      ·subst e;rw[aJ rfl,aJ (kP.2 aau)];simp
      ·rw[aH e];have l:aQ.oM (v::r) n=aQ.oM r n:=jK.2 (kP.t ((bM.t (or_iff_right (jR e))).t kP.symm));rw[l];by_cases h':aQ.oM r n=true;·rw[aJ h',aJ h',aH (jR e)];rfl
       ·rw[aH h',aH h'];rfl
  ·rintro⟨f,c,d⟩;refine⟨f v,(c v aau).1,?_⟩;rw[aH (λa=>a.2 ((c v aau).2 (kP.1 a.1)))];refine(xZ r _).2 ⟨f,λu hu=>c u (aY _ hu),?_⟩;rw[dC];exact d
theorem Ht{pat:T}{names names':List ByteArray}{P:List T}{vs e:List ByteArray}{b:List Bd}(a:∀v,v∈vs<->v∈e)(g:∀v,v∈names<->v∈names')(t:T):t∈aQ.fills pat names P vs b<->t∈aQ.fills pat names' P e b:=by
 rw[xZ,xZ];refine exists_congr λf=>and_congr ⟨λh v d=>?_,λh v d=>?_⟩ ?_;·exact⟨(h v ((a v).2 d)).1,λh'=>(h v ((a v).2 d)).2 ((g v).2 h')⟩
 ·exact⟨(h v ((a v).1 d)).1,λh'=>(h v ((a v).1 d)).2 ((g v).1 h')⟩
 ·rw[Hq (c:=b++bf f e) λn=>by
   rw[rF,rF,Gw,Gw];have i:aQ.oM vs n=aQ.oM e n:=jK.2 (kP.t ((a n).t kP.symm));rw[i]]
theorem WI{t:T}{b:List Bd}(h:t.aA=2):put t b=T.look b t.aI:=by
 cases t with
 |mk k s a=>
  have h':k=2:=h;simp only[put];rw[aJ h'];rfl
mutual
theorem Rk:∀(p:T) (b:List Bd) (u:T),p.shape=true->put p b=some u->u.shape=true->∀v∈aQ.zT p,∀x,T.look b v=some x->x.atom=true
 |.mk k s a,b,u,c,h,e,v,d,x,j=>by
  rw[show aQ.zT (.mk k s a)=aQ.lT k a by unfold aQ.zT;rfl]at d;by_cases f:k=1\/k=2
  ·simp only[T.shape,aJ f,ah,fD]at c;have m:=dS.1 c.2;subst m;rw[show aQ.lT k []=[] by unfold aQ.lT;rfl]at d;cases d
  ·simp only[put]at h;rw[aH aaF]at h;simp only[T.shape,aH f,ah]at c;cases g:eU a b with
   |none=>rw[g]at h;cases h
   |some l=>
    rw[g]at h;injection h with h;subst h;simp only[T.shape,aH f,ah]at e;refine Du k a b l c.2 g e.2 (λn=>?_) v d x j;have i:=e.1.1;unfold gZ at i;rw[aH aar,aH aar,aH aar,aJ n,ah,bT]at i;intro t o;have:=fH.1 i.2 t o;simpa using this
theorem Du:∀(k:Int) (ps:List T) (b:List Bd) (l:List T),dV ps=true->eU ps b=some l->dV l=true->(k=7->∀t∈l,t.atom=true)->∀v∈aQ.lT k ps,∀x,T.look b v=some x->x.atom=true
 |k,[],_,_,_,_,_,_,v,a,_,_=>by
  rw[show aQ.lT k []=[] by unfold aQ.lT;rfl]at a;cases a
 |k,t::r,b,l,f,h,g,m,v,a,x,i=>by
  simp only[eU]at h;simp only[T.dV,ah]at f;cases c:put t b with
  |none=>rw[c]at h;cases h
  |some y=>
   rw[c]at h;cases j:eU r b with
   |none=>rw[j]at h;cases h
   |some z=>
    rw[j]at h;injection h with h;subst h;simp only[T.dV,ah]at g;rw[show aQ.lT k (t::r)=(if k=7/\t.aA=2 then [t.aI] else [])++(aQ.zT t++aQ.lT k r) by conv=>lhs;unfold aQ.lT]at a;rw[bu,bu]at a;rcases a with a|a|a
    ·by_cases d:k=7/\t.aA=2
     ·rw[aJ d,bD]at a;subst a;rw[WI d.2,i]at c;injection c with c;subst c;exact m d.1 _ aau
     ·rw[aH d]at a;cases a
    ·exact Rk t b y f.1 c g.1 v a x i
    ·exact Du k r b z f.2 j g.2 (λe t n=>m e t (by simp[n])) v a x i
end
theorem QX{t:T}(h:t.atom=true):t.aA=1\/t.aA=2:=by
 cases t with
 |mk k s a=>
  show k=1\/k=2;simpa[atom]using h
def Ou(c:UInt8):Bool:=c != 10&&(c != 61&&c != 43)
theorem V3{c:UInt8}(h:low c=true):Ou c=true:=by
 unfold low at h;unfold Ou;simp only[ah,bO]at h;simp only[ah,jg,ne_eq];refine⟨?_,?_,?_⟩<;>(rintro rfl;revert h;decide)
theorem VR{c:UInt8}(h:OT c=true):Ou c=true:=by
 unfold OT at h;unfold Ou;simp only[ah,bO]at h;simp only[ah,jg,ne_eq];refine⟨?_,?_,?_⟩<;>(rintro rfl;revert h;decide)
theorem DK{s:ByteArray}(h:isName s=true):∀c∈s.data.toList,Ou c=true:=by
 unfold isName at h;simp only[ah]at h;intro c a;obtain⟨i,hi,rfl⟩:=bL a;have:=bQ.1 h.1 i (ed.2 hi);unfold zD at this;rw[show s.data.toList.getD i 0=s.data.toList[i] by rw[dn,az hi];rfl]at this;simp only[eH,ah]at this;rcases this with g|⟨_,g⟩;·exact V3 g
 ·exact VR g
theorem TW(k:Int):∀c∈kr k,Ou c=true:=by
 unfold kr
 repeat' split
 all_goals decide
mutual
theorem Er:∀t:T,t.shape=true->∀c∈t.gK,Ou c=true
 |.mk k s g,h,c,a=>by
  by_cases b:k=1\/k=2
  ·simp only[T.shape,aJ b,ah]at h;simp only[gK]at a;by_cases d:k=1;·rw[aJ d]at a;exact DK h.1 c a
   ·rw[aH d,aJ aaF]at a;rcases bM.1 a with rfl|a;·decide
    ·exact DK h.1 c a
  ·simp only[T.shape,aH b,ah]at h;simp only[gK]at a;rw[aH aar,aH aaF]at a;have e:=Oe g h.2;by_cases f:k=3
   ·rw[aJ f]at a;simp only[bu,bD]at a;rcases a with(rfl|a)|rfl;·decide
    ·exact e c a
    ·decide
   ·rw[aH f]at a;simp only[bu,bD]at a;rcases a with((a|rfl)|a)|rfl;·exact TW k c a
    ·decide
    ·exact e c a
    ·decide
theorem Oe:∀l:List T,T.dV l=true->∀c∈eY l,Ou c=true
 |[],_,c,a=>by simp[eY]at a
 |t::r,h,c,a=>by
  simp only[T.dV,ah]at h;simp only[eY,bu]at a;rcases a with a|a;·exact Er t h.1 c a
  ·exact Ep r h.2 c a
theorem Ep:∀l:List T,T.dV l=true->∀c∈jh l,Ou c=true
 |[],_,c,a=>by simp[jh]at a
 |t::r,h,c,a=>by
  simp only[T.dV,ah]at h;simp only[jh,bu,bM,eX,Iu]at a;rcases a with((rfl|rfl)|a)|a;·decide
  ·decide
  ·exact Er t h.1 c a
  ·exact Ep r h.2 c a
end
inductive mD where
 |num (n:Nat)
 |wL (y:Bd)
 |kn (t:T)
def mD.txt:mD->List UInt8
 |.num n=>aQ.itoa n
 |.wL y=>y.var.data.toList++61::y.t.gK
 |.kn t=>43::t.gK
def mD.ok:mD->Prop
 |.num n=>n<100
 |.wL y=>isName y.var=true/\y.t.eZ=true
 |.kn t=>t.eZ=true
def wM(l:List oD):List mD:=l.flatMap λq=>.num q.fF::q.b.map .wL
def X3(x:jf):List mD:=wM x.aO++x.bF.map .kn
def rX(l:List mD):List UInt8:=l.flatMap λy=>y.txt++[10]
theorem M5(l m:List mD):rX (l++m)=rX l++rX m:=jA ..
theorem SE(b:List Bd):aQ.pK b=rX (b.map .wL):=by
 unfold aQ.pK rX;rw[List.flatMap_map];congr 1;funext y;show _=(y.var.data.toList++61::y.t.gK)++[10];simp
theorem SH(l:List oD):aQ.uP l=rX (wM l):=by
 induction l with
 |nil=>rfl
 |cons q r a=>
  show(aQ.itoa q.fF++10::aQ.pK q.b)++aQ.uP r=rX ((.num q.fF::q.b.map .wL)++wM r);rw[M5,a,SE];show _=((aQ.itoa q.fF++[10])++rX (q.b.map .wL))++rX (wM r);simp
theorem SF(l:List T):aQ.rV l=rX (l.map .kn):=by
 unfold aQ.rV rX;rw[List.flatMap_map];rfl
theorem Kt(x:jf):aQ.iT x=rX (X3 x):=by
 unfold aQ.iT X3;rw[M5,SH,SF]
theorem Ie:((List.range 100).all λn=>(aQ.itoa n).all (λc=>Ou c&&c != 45)&&(List.range 100).all λm=>!decide (aQ.itoa n=aQ.itoa m)||decide (n=m))=true:=by kernel_rfl
theorem MO{n:Nat}(h:n<100):∀c∈aQ.itoa n,Ou c=true:=λc a=>by
 have:=bQ.1 Ie n (ed.2 h);rw[ah]at this;exact(aN.1 (bQ.1 this.1 c a)).1
theorem MN{n m:Nat}(h:n<100)(h':m<100)(e:aQ.itoa n=aQ.itoa m):n=m:=by
 have:=bQ.1 Ie n (ed.2 h);rw[ah]at this;have:=bQ.1 this.2 m (ed.2 h');rw[aM e]at this;simpa using this
theorem Lu:Ou 10=false:=by decide
theorem Lx:Ou 61=false:=by decide
theorem Lv:Ou 43=false:=by decide
theorem Qs{y:mD}(h:y.ok):∀c∈y.txt,c≠10:=by
 intro c a e;subst e;cases y with
 |num n=>have:=MO h _ a;simp[Lu]at this
 |wL y=>
  rcases bu.1 a with a|a;·have:=DK h.1 _ a;simp[Lu]at this
  ·rcases bM.1 a with a|a;·exact absurd a aat
   ·have:=Er _ (mr h.2) _ a;simp[Lu]at this
 |kn t=>
  rcases bM.1 a with a|a;·exact absurd a aat
  ·have:=Er _ (mr h) _ a;simp[Lu]at this
theorem KM{c:UInt8}:∀{a b a' b':List UInt8},(∀x∈a,x≠c)->(∀x∈a',x≠c)->a++c::b=a'++c::b'->a=a'/\b=b'
 |[],_,[],_,_,_,h=>⟨rfl,by simpa using h⟩
 |[],_,x::r,_,_,h',h=>by
  injection h with h _;exact absurd h.symm (h' x aau)
 |x::r,_,[],_,d,_,h=>by
  injection h with h _;exact absurd h (d x aau)
 |x::r,b,k::l,b',d,e,h=>by
  injection h with f g;obtain⟨i,j⟩:=KM (λy hy=>d y (aY _ hy)) (λy hy=>e y (aY _ hy)) g;exact⟨by rw[f,i],j⟩
theorem Og{t u:T}(h:t.eZ=true)(h':u.eZ=true)(e:t.gK=u.gK):t=u:=key_inj h h' (by unfold key;rw[aJ h,aJ h',e])
theorem X0{y z:mD}(h:y.ok)(h':z.ok)(e:y.txt=z.txt):y=z:=by
 have g:∀{n:Nat} {c:UInt8},n<100->Ou c=false->c∉aQ.itoa n:=λk i l=>(by have:=MO k _ l;rw[i]at this;cases this);have nm:∀{s:ByteArray} {c:UInt8},isName s=true->Ou c=false->∀x∈s.data.toList,x≠c:=λo i x p e=>(by subst e;have:=DK o _ p;rw[i]at this;cases this);cases y with
 |num n=>
  cases z with
  |num m=>rw[MN h h' e]
  |wL b=>exact absurd (by rw[show aQ.itoa n=_ from e];show(61:UInt8)∈b.var.data.toList++61::b.t.gK;simp) (g h Lx)
  |kn t=>exact absurd (by rw[show aQ.itoa n=_ from e];show(43:UInt8)∈43::t.gK;simp) (g h Lv)
 |wL a=>
  cases z with
  |num m=>exact absurd (by rw[show aQ.itoa m=_ from e.symm];show(61:UInt8)∈a.var.data.toList++61::a.t.gK;simp) (g h' Lx)
  |wL b=>
   obtain⟨q,v⟩:=KM (nm h.1 Lx) (nm h'.1 Lx) (show a.var.data.toList++61::a.t.gK=b.var.data.toList++61::b.t.gK from e);obtain⟨j,w⟩:=a;obtain⟨bv,A⟩:=b;obtain rfl:w=A:=Og h.2 h'.2 v;obtain rfl:j=bv:=by
    cases j with
    |mk x=>
     cases bv with
     |mk y=>exact bV ByteArray.mk (Array.toList_inj.1 q)
   rfl
  |kn t=>
   have d:a.var.data.toList++61::a.t.gK=43::t.gK:=e;cases f:a.var.data.toList with
   |nil=>rw[f]at d;injection d with d _;exact absurd d aat
   |cons x r=>rw[f]at d;injection d with d _;exact absurd d (nm h.1 Lv x abj)
 |kn t=>
  cases z with
  |num m=>exact absurd (by rw[show aQ.itoa m=_ from e.symm];show(43:UInt8)∈43::t.gK;simp) (g h' Lv)
  |wL b=>
   have d:b.var.data.toList++61::b.t.gK=43::t.gK:=e.symm;cases f:b.var.data.toList with
   |nil=>rw[f]at d;injection d with d _;exact absurd d aat
   |cons x r=>rw[f]at d;injection d with d _;exact absurd d (nm h'.1 Lv x abj)
  |kn u=>
   injection (show 43::t.gK=43::u.gK from e)with _ e;rw[Og h h' e]
theorem Qu:∀{l m:List mD},(∀y∈l,y.ok)->(∀y∈m,y.ok)->rX l=rX m->l=m
 |[],[],_,_,_=>rfl
 |[],y::r,_,_,e=>by
  have:rX (y::r)=(y.txt++[10])++rX r:=rfl;rw[this]at e;have:=bV List.length e;simp[rX]at this
 |y::r,[],_,_,e=>by
  have:rX (y::r)=(y.txt++[10])++rX r:=rfl;rw[this]at e;have:=bV List.length e;simp[rX]at this
 |y::r,z::q,h,h',e=>by
  have d:y.txt++10::rX r=z.txt++10::rX q:=by
   have a:rX (y::r)=y.txt++10::rX r:=(by show(y.txt++[10])++rX r=_;simp);have b:rX (z::q)=z.txt++10::rX q:=(by show(z.txt++[10])++rX q=_;simp);rw[<-a,<-b];exact e
  obtain⟨a,b⟩:=KM (Qs (h y aau)) (Qs (h' z aau)) d;rw[X0 (h y aau) (h' z aau) a,Qu (λx c=>h x (aY _ c)) (λx c=>h' x (aY _ c)) b]
theorem Qe:∀{b c:List Bd} {l m:List mD},(∀x∈l.head?,∀y,x≠.wL y)->(∀x∈m.head?,∀y,x≠.wL y)->b.map mD.wL++l=c.map mD.wL++m->b=c/\l=m
 |[],[],_,_,_,_,e=>⟨rfl,by simpa using e⟩
 |[],z::r,l,m,h,_,e=>by
  have a:l=.wL z::(r.map mD.wL++m):=e;exact absurd rfl (h (.wL z) aa5 z)
 |z::r,[],l,m,_,h,e=>by
  have a:m=.wL z::(r.map mD.wL++l):=e.symm;exact absurd rfl (h (.wL z) aa5 z)
 |y::b,z::c,l,m,h,h',e=>by
  have a:mD.wL y::(b.map mD.wL++l)=.wL z::(c.map mD.wL++m):=e;injection a with d f;injection d with d;obtain⟨g,i⟩:=Qe h h' f;exact⟨by rw[d,g],i⟩
theorem VT(K:List T):∀x∈(K.map mD.kn).head?,∀y,x≠.wL y:=λx a y e=>by
 subst e;cases K with
 |nil=>cases a
 |cons t r=>simp at a
theorem MH(l:List oD)(K:List T):∀x∈(wM l++K.map mD.kn).head?,∀y,x≠.wL y:=by
 cases l with
 |nil=>exact VT K
 |cons q r=>
  intro x a y e;subst e;have:(wM (q::r)++K.map mD.kn).head?=some (.num q.fF):=rfl;rw[this]at a;simp at a
theorem Uc:∀{K L:List T},K.map mD.kn=L.map mD.kn->K=L
 |[],[],_=>rfl
 |[],_::_,e=>by simp at e
 |_::_,[],e=>by simp at e
 |t::r,u::q,e=>by
  simp only[jH,zg,mD.kn.injEq]at e;rw[e.1,Uc e.2]
theorem M6:∀{l m:List oD} {K L:List T},wM l++K.map mD.kn=wM m++L.map mD.kn->l=m/\K=L
 |[],[],K,L,e=>⟨rfl,Uc e⟩
 |[],q::r,K,L,e=>by
  have a:K.map mD.kn=.num q.fF::(q.b.map mD.wL++wM r++L.map mD.kn):=by
   have:wM (q::r)=.num q.fF::(q.b.map mD.wL++wM r):=rfl;rw[this]at e;simpa[wM]using e
  cases K<;>simp at a
 |q::r,[],K,L,e=>by
  have a:L.map mD.kn=.num q.fF::(q.b.map mD.wL++wM r++K.map mD.kn):=by
   have:wM (q::r)=.num q.fF::(q.b.map mD.wL++wM r):=rfl;rw[this]at e;simpa[wM]using e.symm
  cases L<;>simp at a
 |q::l,p::m,K,L,e=>by
  have d:wM (q::l)++K.map mD.kn=.num q.fF::(q.b.map mD.wL++(wM l++K.map mD.kn)):=by
   show(.num q.fF::q.b.map mD.wL++wM l)++_=_;simp
  have f:wM (p::m)++L.map mD.kn=.num p.fF::(p.b.map mD.wL++(wM m++L.map mD.kn)):=by
   show(.num p.fF::p.b.map mD.wL++wM m)++_=_;simp
  rw[d,f]at e;injection e with c g;injection c with c;obtain⟨h,i⟩:=Qe (MH l K) (MH m L) g;obtain⟨j,k⟩:=M6 i;refine⟨?_,k⟩;rw[j];obtain⟨n,o⟩:=q;obtain⟨s,t⟩:=p;obtain rfl:n=s:=c;obtain rfl:o=t:=h;rfl
def oD.ok(q:oD):Prop:=q.fF<100/\∀y∈q.b,isName y.var=true/\y.t.eZ=true
structure jf.Ok (x:jf):Prop where
 aO:∀q∈x.aO,q.ok
 bF:∀t∈x.bF,t.eZ=true
theorem Qt{x:jf}(h:x.Ok):∀y∈X3 x,y.ok:=by
 intro y hy;rcases bu.1 hy with hy|hy
 ·obtain⟨q,a,hy⟩:=o6.1 hy;rcases bM.1 hy with rfl|hy;·exact(h.aO q a).1
  ·obtain⟨z,b,rfl⟩:=ek.1 hy;exact(h.aO q a).2 z b
 ·obtain⟨t,c,rfl⟩:=ek.1 hy;exact h.bF t c
theorem SI{x y:jf}(h:x.Ok)(h':y.Ok)(e:aQ.iT x=aQ.iT y):x=y:=by
 rw[Kt,Kt]at e;obtain⟨f,g⟩:=M6 (Qu (Qt h) (Qt h') e);obtain⟨a,b⟩:=x;obtain⟨c,d⟩:=y;obtain rfl:a=c:=f;obtain rfl:b=d:=g;rfl
end
end Go.Proofs.YtaciciokmpbkkaaGreatDoor
