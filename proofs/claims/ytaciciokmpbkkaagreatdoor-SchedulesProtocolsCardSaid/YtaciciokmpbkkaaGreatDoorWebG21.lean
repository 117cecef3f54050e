import Derived.Test.YtaciciokmpbkkaaGreatDoorWebG20
set_option maxRecDepth 100000
set_option maxHeartbeats 16000000
namespace Go.Proofs.YtaciciokmpbkkaaGreatDoor
section
open Go.RowKit T
attribute [local go_sem ↓] Go.wp_at_zero Go.wp_at_succ
def Fa(w:World)(k:Int)(s:ByteArray)(L:List T)(wr:World):Prop:=
 ∃kv,jy wr (w.heap.size+2) (.int .i64 k) (.string s) kv/\jy wr (w.heap.size+1) (.int .i64 0) (.string ⟨#[]⟩) (.slice none 0 0)/\bK wr (w.heap.size+3) kv L/\Below w.heap.size w wr/\w.heap.size+3<=wr.heap.size
theorem Fa.step{w:World}{k:Int}{s:ByteArray}{L:List T}{t:T}{wr w3 w4:World}{kv u0 u1 u2:Value}{xs:List Value}{g cap:Nat}
 (x:jy wr (w.heap.size+2) (.int .i64 k) (.string s) kv) (y:jy wr (w.heap.size+1) (.int .i64 0) (.string ⟨#[]⟩) (.slice none 0 0)) (f:bK wr (w.heap.size+3) kv L) (hb:Below w.heap.size w wr) (E:w.heap.size+3<=wr.heap.size)
 (n:∀i (h:i<L.length),∃u0 u1 u2,xs[i*3]?=some u0/\xs[i*3+1]?=some u1/\xs[i*3+2]?=some u2/\bI (but (w.heap.size+3) kv.ownBlock) wr (.agg #[u0,u1,u2]) L[i]) (o:xs.length=L.length*3)
 (j:Below wr.heap.size wr w3) (p:bI (dP wr.heap.size) w3 (.agg #[u0,u1,u2]) t)
 (q:w4.ownsRow (w.heap.size+3) 29 3 (.slice (some ⟨g,0,none⟩) (L.length+1) cap) (L.length+1) (xs++[u0,u1,u2])) (a:(w3.alloc (.cells #[u0,u1,u2] 29)).grownBy w4 kv.ownBlock)
 (r:kv.ownBlock=some g\/g=w3.heap.size+1):Fa w k s (L++[t]) (w4.setCell ⟨w.heap.size+2,2,none⟩ (.slice (some ⟨g,0,none⟩) (L.length+1) cap)):=by
 have m:∀b,b<w.heap.size+3->kv.ownBlock≠some b:=λb d e=>(aaz ((f.block b e).1));have c:=j.t ((ae w3 (.cells #[u0,u1,u2] 29)).m j.size);have u:Below w.heap.size w w4:=(hb.t (c.m aar)).grown a (by rw[aK];have:=j.size;omega) (λk v=>aaz ((f.block k v).1));refine⟨_,(((x.ag c).grown a (m _ aar)).AQ _),?_,?_,u.setCell (show w.heap.size<=w.heap.size+2 by omega) _,?_⟩;·exact((y.ag c).grown a (m _ aar)).setOther aau _
 ·have z:=bK.snoc (w:=w3.alloc (.cells #[u0,u1,u2] 29)) (H:=w3.heap.size+1) (t:=t) (λi hi=>by
   obtain⟨a0,A,a2,B,C,D,b3⟩:=n i hi;exact⟨a0,A,a2,B,C,D,b3.aR λb hb d=>⟨hb,c.block b d⟩⟩) o
   (p.aR λb l d=>⟨jd.2 ⟨aaz (ak l),λe=>aaA ((f.block b e).2) (ak l)⟩,fK w3 _ b d⟩)
   q a r aba
  exact z.aR λb l _=>aL _ _ _ _ (by show b≠w.heap.size+2;omega)
 ·have:=a.size;have:=c.size;simp[World.setCell];omega
theorem Fa.ag{w:World}{k:Int}{s:ByteArray}{L:List T}{wr w':World}(h:Fa w k s L wr)(hb:Below wr.heap.size wr w'):Fa w k s L w':=by
 obtain⟨kv,b,c,d,a,e⟩:=h;exact⟨kv,b.ag hb,c.ag hb,d.ag hb,a.t (hb.m a.size),aG e hb.size⟩
def VD(r:Option T)(w:World)(e:Ending)(w':World):Prop:=Below w.heap.size w w'/\match r with
 |none=>∃A c,e=.returned (.tuple #[.agg #[.int .i64 0,.string ⟨#[]⟩,.slice A 0 c],.bool false])
 |some u=>∃A c,e=.returned (.tuple #[.agg #[.int .i64 u.aA,.string u.aI,.slice A u.ay.length c],.bool true])/\bI (dP w.heap.size) w' (.agg #[.int .i64 u.aA,.string u.aI,.slice A u.ay.length c]) u
theorem jC{B:Nat}{b w:World}{g:Nat}(hb:Below B b w)(a:B<=g)(x y z:Value):Below B b (((w.setCell ⟨g,0,none⟩ x).setCell ⟨g,1,none⟩ y).setCell ⟨g,2,none⟩ z):=
 ((hb.setCell (show B<=(⟨g,0,none⟩:Addr).block from a) x).setCell (show B<=(⟨g,1,none⟩:Addr).block from a) y).setCell (show B<=(⟨g,2,none⟩:Addr).block from a) z
theorem SX(w:World):aS w (.agg #[.int .i64 0,.string ⟨#[]⟩,.slice none 0 0]) (.mk 0 ⟨#[]⟩ []):=
 .mk 0 ⟨#[]⟩ none 0 [] (λ_=>(undef,undef,undef)) aat aat (ax _) (aT _) (.inl rfl) (λi h=>absurd h (ji _))
theorem AL {b:List Bd}:∀(ps:List T) (j:Nat) (h:j<ps.length) (a:List T),eU (ps.take j) b=some a->eU (ps.take (j+1)) b=match put ps[j] b with
  |none=>none
  |some u=>some (a++[u])
 |p::ps,0,_,a,h=>by
  obtain rfl:[]=a:=abp;simp only[gJ,iM,eU,dI];cases put p b<;>rfl
 |p::ps,j+1,hj,a,h=>by
  simp only[gJ,eU,fJ]at h⊢;cases d:put p b with
  |none=>rw[d]at h;cases h
  |some u=>
   rw[d]at h;cases c:eU (ps.take j) b with
   |none=>rw[c]at h;cases h
   |some l=>
    rw[c]at h;obtain rfl:u::l=a:=aaD;have e:=AL ps j abk l c;rw[e];cases put (ps[j]' abk) b<;>rfl
theorem AJ{b:List Bd}:∀(ps:List T) (j:Nat),eU (ps.take j) b=none->eU ps b=none
 |[],j,h=>by simpa using h
 |p::ps,0,h=>by simp[eU]at h
 |p::ps,j+1,h=>by
  simp only[gJ,eU]at h⊢;cases c:put p b with
  |none=>rfl
  |some u=>
   rw[c]at h;cases a:eU (ps.take j) b with
   |none=>rw[AJ ps j a]
   |some l=>rw[a]at h;cases h
theorem ZR(L:List Bd)(dx:∀x∈L,x.t.bE<=1048576):∀(N:Nat) (p:T) (pv bv:Value) (w:World),p.bE<N->aS w pv p->gH w bv L->p.bE<=1048576->
 Calls Tryz.prog 150 #[pv,bv] w (VD (put p L) w):=by
 intro N;induction N with
 |zero=>intro p pv bv w h;omega
 |succ N ih=>
  intro p pv bv w hN hp hb Q;cases hp with
  |mk k s A cap d U h1 h2 h3 h4 hA hU=>
   simp only[T.bE]at hN Q;have dz:d.length<=262144:=(aaz (T.lq d));obtain⟨i0,dA,dB,dC,dD⟩:=dU Tryz.uN;have aX:put (.mk k s d) L=if k=2 then T.look L s else (match eU d L with
    |none=>none
    |some l=>some (.mk k s l)):=by
    simp only[put];rfl
   obtain⟨R,hR⟩:=aay (put (.mk k s d) L);rw[hR]at aX⊢;have bM:=aa aX;obtain⟨bx,aY,aZ,H⟩:=oq w (.int .i64 k) (.string s) (.slice A d.length cap) (.int .i64 0) (.string ⟨#[]⟩) (.slice none 0 0);obtain⟨HB,IH,dE,dH,dI,bN⟩:=aaf hb ih dx hA hU (show s.size+4+bJ d<=1048576/\s.size+4+bJ d<N+1 from⟨Q,hN⟩);clear hA hU hb ih aX hR Q hN;go_enter Tryz.func150,Tryz.ntmps150;go_upto_region 1 with fail;generalize(w.alloc (.cells #[.int .i64 k,.string s,.slice A d.length cap] 29)).alloc (.cells #[.int .i64 0,.string ⟨#[]⟩,.slice none 0 0] 29)=w1 at bx aY aZ H⊢;obtain⟨x0,x1,x2⟩:=bx.cells;obtain⟨BX,BY,I,dJ⟩:=aad bx aY aZ H;clear bx aY aZ H;by_cases bO:k=2
   ·subst bO;obtain⟨aD,bQ⟩:=aab (Lh s L bv w w1 HB.o I.o) (show R=T.look L s from bM.o.t (aJ rfl));cases B:T.look L s with
    |none=>
     rw[B]at aD;obtain rfl:R=none:=bQ.o.t B;clear B;go_wp2_with fail;refine aD.o.m ?_;rintro e E ⟨J,q⟩;have bf:e=.returned (.tuple #[.agg #[.int .i64 0,.string ⟨#[]⟩,.slice none 0 0],.bool false]):=q;subst bf;have ah:=ae E (.cells #[.int .i64 0,.string ⟨#[]⟩,.slice none 0 0] 29);have K:=jy.new E (.int .i64 0) (.string ⟨#[]⟩) (.slice none 0 0);have f:=J.t (ah.m J.size);obtain⟨F,C⟩:=aab (I.o.t (f.m I.o.size)) (BY.o.ag f);clear q J ah f x0 x1 x2;go_upto_region 3 with fail;generalize E.alloc _=w3 at F C K⊢;obtain⟨S,V,M⟩:=K.cells;go_wp2_with fail;refine(wW ((T.mk 0 ⟨#[]⟩ []).bE+1) (.mk 0 ⟨#[]⟩ []) _ _ (dF _) (SX _) aat).m ?_;rintro e w4 ⟨y,C4,rfl,O,z⟩;obtain⟨f0,f1,f2⟩:=(C.o.ag z).free;obtain⟨z0,z1,z2⟩:=(C.o.ag z).cells;obtain⟨av,bg⟩:=aab (C.o.ag z) (F.o.t (z.m F.o.size));clear O z S V M K;go_wp2_with fail;obtain⟨d0,d1,d2⟩:=(dX av.o (.int .i64 (T.mk 0 ⟨#[]⟩ []).aA) (.string (T.mk 0 ⟨#[]⟩ []).aI) (.slice y (T.mk 0 ⟨#[]⟩ []).ay.length C4)).cells;refine aV (v:=.tuple #[.agg #[.int .i64 0,.string ⟨#[]⟩,.slice y 0 C4],.bool false]) (by simp[results,Tryz.results150,go_sem,d0,d1,d2];first|rfl|exact⟨rfl,rfl,rfl⟩) rfl ?_;exact⟨jC bg.o aar _ _ _,y,C4,rfl⟩
    |some v=>
     rw[B]at aD;obtain rfl:R=some v:=bQ.o.t B;have bi:=(dE.o _ (pU B).choose_spec.1);rw[(pU B).choose_spec.2.2]at bi;have dK:=aa bi;clear B bi;go_wp2_with fail;refine aD.o.m ?_;rintro e E ⟨J,q⟩;have bf:∃A c,e=.returned (.tuple #[.agg #[.int .i64 v.aA,.string v.aI,.slice A v.ay.length c],.bool true])/\aS w (.agg #[.int .i64 v.aA,.string v.aI,.slice A v.ay.length c]) v:=q;obtain⟨A5,c5,rfl,bR⟩:=bf;have ah:=ae E (.cells #[.int .i64 v.aA,.string v.aI,.slice A5 v.ay.length c5] 29);have K:=jy.new E (.int .i64 v.aA) (.string v.aI) (.slice A5 v.ay.length c5);have f:=J.t (ah.m J.size);obtain⟨F,C⟩:=aab (I.o.t (f.m I.o.size)) (BY.o.ag f);have bS:=aa (bR.ag F.o);clear q J ah f x0 x1 x2 bR;go_upto_region 3 with fail;generalize E.alloc _=w3 at F C K bS⊢;obtain⟨S,V,M⟩:=K.cells;go_wp2_with fail;refine(wW (v.bE+1) v _ _ (dF _) bS.o dK.o).m ?_;rintro e w4 ⟨y,C4,rfl,O,z⟩;obtain⟨f0,f1,f2⟩:=(C.o.ag z).free;obtain⟨z0,z1,z2⟩:=(C.o.ag z).cells;obtain⟨av,bg,az⟩:=aac (C.o.ag z) (F.o.t (z.m F.o.size)) O;have dY:w.heap.size+1<w3.heap.size:=C.o.lt;clear O z S V M K;go_wp2_with fail;obtain⟨d0,d1,d2⟩:=(dX av.o (.int .i64 v.aA) (.string v.aI) (.slice y v.ay.length C4)).cells;refine aV (v:=.tuple #[.agg #[.int .i64 v.aA,.string v.aI,.slice y v.ay.length C4],.bool true]) (by simp[results,Tryz.results150,go_sem,d0,d1,d2]) rfl ?_;refine⟨jC bg.o aar _ _ _,y,C4,rfl,az.o.aR λb hb _=>?_⟩;have dL:=ak hb;exact⟨aM aar,lJ _ _ _ _ _ _ aar⟩
   ·have bn:=bM.o;rw[aH bO]at bn;have bT:=dJ.o;have aG:=ae w1 (.cells #[.int .i64 k,.string s,.slice none 0 0] 29);have m:=jy.new w1 (.int .i64 k) (.string s) (.slice none 0 0);have bU:Fa w k s [] (w1.alloc (.cells #[.int .i64 k,.string s,.slice none 0 0] 29)):=by
     rw[bT]at m;exact⟨_,m,BY.o.ag aG,bK.nil _ _,I.o.t (aG.m I.o.size),by rw[aK];omega⟩
    obtain⟨bV,bW⟩:=aab bU bn;obtain⟨S,V,M⟩:=(BX.o.ag aG).cells;obtain⟨n,hn⟩:=aay d.length;have bX:=aa hn;rw[hn]at x2 M dz⊢;clear bU aG m bn hn;go_upto_region 5 with fail;clear bT;generalize w1.alloc _=E at bV S V M⊢;clear x0 x1 x2;go_wp2_with fail;clear S V M;go_loopw [34] (λiv wr=>∃(j:Nat) (P:List T),j<=n/\iv=.int .i64 j/\eU (d.take j) L=some P/\P.length=j/\Fa w k s P wr) (λiv _=>n-(intOf iv).toNat);case atStart=>exact⟨0,[],aT _,rfl,by rw[iM];rfl,rfl,bV.o⟩
    case round=>
     obtain⟨j,P,hj,rfl,aB,W,aL⟩:=hrel;by_cases bq:j<n
     ·have aN:j<d.length:=(by rw[bX.o];exact bq);obtain⟨b,off,B1,C1,rfl,bu,bz,bA,hu⟩:=aS.cells aN dH.o dI.o;have bB:=AL d j aN P aB;have Q:=T.jq d j aN;obtain⟨a,bY⟩:=aay (d[j]);rw[bY]at bu bz bA hu bB Q;have i:Below w.heap.size w wr:=(by obtain⟨_,_,_,_,h,_⟩:=aL;exact h);obtain⟨d0,d1,d2⟩:=aak i bu bz bA;have hi:(j:Int)<(n:Int):=aar;have hq:=ae wr (.cells #[.int .i64 a.aA,.string a.aI,.slice B1 a.ay.length C1] 29);have aO:=jy.new wr (.int .i64 a.aA) (.string a.aI) (.slice B1 a.ay.length C1);have bC:=aL.ag hq;have bD:=i.t (hq.m i.size);have aP:=aa (IH.o a (.agg #[.int .i64 a.aA,.string a.aI,.slice B1 a.ay.length C1]) bv (wr.alloc (.cells #[.int .i64 a.aA,.string a.aI,.slice B1 a.ay.length C1] 29)) (aaz bN.o) (hu.ag bD) (HB.o.ag bD) (aaz bN.o));obtain⟨bZ,bF,aC⟩:=aac bq bB W;clear hu aB bB Q bY i hq bD aL bu bz bA aN hj bq W;go_upto_region 8 with fail;generalize wr.alloc _=wq at aO bC aP⊢;generalize wr.heap.size=dZ at aO⊢;obtain⟨q0,q1,q2⟩:=aO.cells;have cu:=aa bC;obtain⟨r,hr⟩:=aay (put a L);rw[hr]at aP bF;clear bC aO hr d0 d1 d2;cases r with
      |none=>
       obtain rfl:R=none:=by
        rw[bW.o,AJ d (j+1) bF.o]
       go_wp2_with fail;refine aP.o.m ?_;rintro e w3 ⟨f,q⟩;obtain⟨G,C3,rfl⟩:=(show ∃A c,e=.returned (.tuple #[.agg #[.int .i64 0,.string ⟨#[]⟩,.slice A 0 c],.bool false])from q);have X:=ae w3 (.cells #[.int .i64 0,.string ⟨#[]⟩,.slice G 0 C3] 29);obtain⟨kv,m,o,_,i,_⟩:=cu.o.ag (f.t (X.m f.size));obtain⟨cz,aQ⟩:=aab o i;clear q f X q0 q1 q2 m i;go_upto_region 9 with fail;generalize w3.alloc _=w4 at o cz aQ⊢;obtain⟨z0,z1,z2⟩:=o.cells;obtain⟨f0,f1,f2⟩:=o.free;clear o;go_wp2_with fail;obtain⟨d0,d1,d2⟩:=(dX cz.o (.int .i64 0) (.string ⟨#[]⟩) (.slice none 0 0)).cells;refine aV (v:=.tuple #[.agg #[.int .i64 0,.string ⟨#[]⟩,.slice none 0 0],.bool false]) (by simp[results,Tryz.results150,go_sem,d0,d1,d2]) rfl ?_;exact⟨jC aQ.o aar _ _ _,none,0,rfl⟩
      |some u=>
       go_wp2_with fail;refine aP.o.m ?_;rintro e w3 ⟨f,q⟩;obtain⟨G,C3,rfl,O⟩:=(show ∃A c,e=.returned (.tuple #[.agg #[.int .i64 u.aA,.string u.aI,.slice A u.ay.length c],.bool true])/\bI (dP wq.heap.size) w3 (.agg #[.int .i64 u.aA,.string u.aI,.slice A u.ay.length c]) u from q);have X:=ae w3 (.cells #[.int .i64 u.aA,.string u.aI,.slice G u.ay.length C3] 29);have aU:=jy.new w3 (.int .i64 u.aA) (.string u.aI) (.slice G u.ay.length C3);have cK:=f.t (X.m f.size);obtain⟨az,Y⟩:=aab (show bI (dP wq.heap.size) _ _ u from O.aR λb hb B=>⟨hb,X.block b B⟩) cK;clear q f X q0 q1 q2 O cK;go_upto_region 9 with fail;generalize w3.alloc _=w5 at aU az Y⊢;generalize w3.heap.size=d9 at aU⊢;obtain⟨y0,y1,y2⟩:=aU.cells;obtain⟨kv,m,o,D,i,H⟩:=cu.o;obtain⟨xs,aW,hx⟩:=D.owns;obtain⟨cO,dM⟩:=aab (λw4 g cap=>Fa.step (k:=k) (s:=s) (t:=u) (w3:=w5) (w4:=w4) (g:=g) (cap:=cap) m o D i H hx aW.1 Y.o az.o) (m.ag Y.o);obtain⟨z0,z1,z2⟩:=(m.ag Y.o).cells;obtain⟨A6,c6,Z,_,_⟩:=D.shape;have df:=D.block;rw[aC.o]at aW Z cO;obtain⟨dN,dO⟩:=aab ((dG aW Y.o).alloc (.cells #[.int .i64 u.aA,.string u.aI,.slice G u.ay.length C3] 29)) az.o.one;have av:=aa (show w.heap.size+3<=(w5.alloc (.cells #[.int .i64 u.aA,.string u.aI,.slice G u.ay.length C3] 29)).heap.size by rw[aK];have:=Y.o.size;omega);have dR:=aa (show kv.ownBlock≠some (w.heap.size+2)from λe=>aaz ((df _ e).1));subst Z;clear m o D i H hx aW df aU;go_wp2_with (at_builtin;refine lK _ rfl _ _ 23 rfl (w.heap.size+3) 29 i0 _ 3 48 cB dA dB dC dD rfl aar _ j xs rfl dN.o ⟨_,0,none⟩ 1 1 _ rfl rfl (cZ (bP _ _)) dO.o aar aaS aar av.o _ rfl ?_;intro g cap w6 dh bH dm dS;have bL:=(dM.o.ag (ae w5 _)).grown bH dR.o;have c4:=bL.cells.2.2;have f4:=bL.free.2.2);have dn:=cO.o w6 g cap dh bH (dm.imp id (λh=>h.t (aK _ _)));have dV:=aa dn;clear dn dh bH dm dS bL c4 f4 y0 y1 y2 z0 z1 z2;go_roundw;case rel=>exact⟨_,_,_,_,_,⟨j+1,bZ.o,aaw,P++[u],bF.o,by rw[aF,aC.o];rfl,dV.o⟩,rfl,rfl,rfl,rfl,rfl⟩
       case measure=>exact aax bZ.o
     ·obtain rfl:j=n:=aar;rw[bG (by rw[bX.o];exact ax _)]at aB;obtain rfl:R=some (.mk k s P):=(by rw[bW.o,aB]);obtain⟨kv,m,o,D,i,H⟩:=aL;obtain⟨y,C4,Z,_,_⟩:=D.shape;have dw:=aa (D.term k s h1 h2);rw[Z,W]at dw;rw[W]at Z;subst Z;obtain⟨y0,y1,y2⟩:=m.cells;obtain⟨q0,q1,q2⟩:=o.cells;obtain⟨f0,f1,f2⟩:=o.free;have hi:¬(j:Int)<(j:Int):=aar;obtain⟨aQ,dW,aC⟩:=aac i o W;clear D i m o aB W;go_wp2_with fail;obtain⟨d0,d1,d2⟩:=(dX dW.o (.int .i64 k) (.string s) (.slice y j C4)).cells;refine aV (v:=.tuple #[.agg #[.int .i64 k,.string s,.slice y j C4],.bool true]) (by simp[results,Tryz.results150,go_sem,d0,d1,d2]) rfl ?_;refine⟨jC aQ.o aar _ _ _,y,C4,by simp only[T.aA,T.aI,T.ay];rw[aC.o],?_⟩;simp only[T.aA,T.aI,T.ay];rw[aC.o];refine dw.o.aR λb hb _=>?_;have dL:=ak hb;exact⟨aM aar,lJ _ _ _ _ _ _ aar⟩
mutual
theorem IZ:∀t:T,t.shape=true->t.bE<=20*t.size
 |.mk k s c=>λh=>by
  simp only[T.shape]at h;simp only[T.bE,T.size];by_cases b:k=1\/k=2
  ·rw[aJ b,ah,fD,dS]at h;obtain⟨a,rfl⟩:=h;unfold isName at a;simp only[ah,bO]at a;simp only[bJ,dJ];omega
  ·rw[aH b,ah,ah]at h;have a:=Cq c h.2;have d:s.size=0:=by
    have:=h.1.2;rw[List.isEmpty_iff,iR]at this;rw[<-mq,this];rfl
   omega
theorem Cq:∀l:List T,dV l=true->bJ l<=20*dJ l
 |[]=>λ_=>ax _
 |t::r=>λh=>by
  simp only[dV,ah]at h;have a:=IZ t h.1;have b:=Cq r h.2;simp only[bJ,dJ];omega
end
theorem Gb{t:T}(h:t.eZ=true):t.bE<=800:=by
 have a:=IZ t (mr h);have b:t.size<=40:=ak (aN.1 h).1;omega
mutual
theorem IJ{M:Nat}:∀(p:T) (b:List Bd) (u:T),(∀n v,T.look b n=some v->v.bE<=M)->put p b=some u->u.bE<=p.bE+p.size*M
 |.mk k s a,b,u,hb,h=>by
  simp only[put]at h;simp only[bE,size];by_cases d:k=2
  ·rw[aJ d]at h;have:=hb _ _ h;have f:M<=(1+dJ a)*M:=Nat.le_mul_of_pos_left M aar;omega
  ·rw[aH d]at h;cases c:eU a b with
   |none=>rw[c]at h;cases h
   |some e=>
    rw[c]at h;obtain rfl:T.mk k s e=u:=aaD;have g:=FL a b e hb c;have f:dJ a*M<=(1+dJ a)*M:=iq M aar;simp only[bE];omega
theorem FL{M:Nat}:∀(ps:List T) (b:List Bd) (a:List T),(∀n v,T.look b n=some v->v.bE<=M)->eU ps b=some a->bJ a<=bJ ps+dJ ps*M
 |[],b,a,_,h=>by
  obtain rfl:[]=a:=abp;simp[bJ]
 |p::ps,b,a,hb,h=>by
  simp only[eU]at h;cases c:put p b with
  |none=>rw[c]at h;cases h
  |some u=>
   rw[c]at h;cases d:eU ps b with
   |none=>rw[d]at h;cases h
   |some l=>
    rw[d]at h;obtain rfl:u::l=a:=aaD;have e:=IJ p b u hb c;have f:=FL ps b l hb d;simp only[bJ,dJ];rw[Nat.add_mul];omega
end
theorem JP{p:T}{L:List Bd}(h:p.eZ=false):jP p L=none:=by unfold jP;rw[h];rfl
theorem JQ{p:T}{L:List Bd}(h:put p L=none):jP p L=none:=by unfold jP;rw[h];simp
theorem JR{p u:T}{L:List Bd}(h:put p L=some u)(h':u.eZ=false):jP p L=none:=by unfold jP;rw[h];simp[h']
theorem QA(p:T)(L:List Bd)(pv bv:Value)(w:World)(Y:aS w pv p)(hb:gH w bv L)(Z:∀x∈L,x.t.bE<=20000)(af:p.bE<=1048576):
 Calls Tryz.prog 117 #[pv,bv] w (VD (jP p L) w):=by
 have az:=aa (λv W h=>Az p v W h af);have aB:=aa (λv1 v2 W h1 h2=>ZR L (λx hx=>aG (Z x hx) aat) (p.bE+1) p v1 v2 W (dF _) h1 h2 af);have aC:=aa (λu (a:p.eZ=true) (h:put p L=some u)=>show u.bE<=1048576 from by
  have h1:=IJ (M:=20000) p L u (λn v e=>by obtain⟨x,hx,_,rfl⟩:=pU e;exact Z x hx) h;have h2:=Gb a;have h3:p.size<=40:=ak (aN.1 a).1;have h4:p.size*20000<=40*20000:=iq _ h3;omega)
 have ah:=JP (p:=p) (L:=L);have J:=JQ (p:=p) (L:=L);have K:=λu=>JR (p:=p) (u:=u) (L:=L);have hy:=λu=>Mr (p:=p) (u:=u) (b:=L);obtain⟨R,hR⟩:=aay (jP p L);rw[hR]at ah J K hy⊢;obtain⟨r,hr⟩:=aay (put p L);rw[hr]at J K hy aB aC;obtain⟨aK,aL,aO,HY⟩:=aad ah J K hy;clear hR ah J K hy hr;obtain⟨A,c,rfl⟩:=bI.view Y.uM;obtain⟨N,av,B,ax⟩:=oq w (.int .i64 p.aA) (.string p.aI) (.slice A p.ay.length c) (.int .i64 0) (.string ⟨#[]⟩) (.slice none 0 0);obtain⟨O,HB⟩:=aab (Y.ag B) (hb.ag B);clear Y hb af Z;go_enter Tryz.func117,Tryz.ntmps117;go_upto_region 1 with fail;generalize(w.alloc (.cells #[.int .i64 p.aA,.string p.aI,.slice A p.ay.length c] 29)).alloc (.cells #[.int .i64 0,.string ⟨#[]⟩,.slice none 0 0] 29)=w1 at N av B ax O HB⊢;obtain⟨x0,x1,x2⟩:=N.cells;obtain⟨BX,BY,P,aY⟩:=aad N av B ax;clear N av B ax;cases a:p.eZ with
 |false=>
  obtain rfl:R=none:=aK.o a;have g:=aa (az.o _ w1 O.o false 76 a (.inr ⟨rfl,rfl⟩));clear a;go_wp2_with fail;refine g.o.m ?_;rintro e w2 ⟨rfl,d⟩;have o:=aa (P.o.t (d.m P.o.size));have q:=aa (BY.o.ag d);obtain⟨Q,S,U⟩:=q.o.cells;obtain⟨f0,f1,f2⟩:=q.o.free;clear d x0 x1 x2;go_wp2_with fail;obtain⟨d0,d1,d2⟩:=(dX q.o (.int .i64 0) (.string ⟨#[]⟩) (.slice none 0 0)).cells;refine aV (v:=.tuple #[.agg #[.int .i64 0,.string ⟨#[]⟩,.slice none 0 0],.bool false]) (by simp[results,Tryz.results117,go_sem,d0,d1,d2]) rfl ?_;exact⟨jC o.o aar _ _ _,none,0,rfl⟩
 |true=>
  obtain⟨aD,g⟩:=aab a (az.o _ w1 O.o true 0 a (.inl ⟨rfl,rfl⟩));clear a;go_wp2_with fail;refine g.o.m ?_;rintro e w2 ⟨rfl,d⟩;have o:=aa (P.o.t (d.m P.o.size));have q:=aa (BY.o.ag d);obtain⟨C,D,E⟩:=(BX.o.ag d).cells;have aF:=aa (aB.o _ bv w2 (O.o.ag d) (HB.o.ag d));clear d x0 x1 x2 g;cases r with
  |none=>
   obtain rfl:R=none:=aL.o rfl;go_wp2_with fail;refine aF.o.m ?_;rintro e w3 ⟨l,F⟩;obtain⟨s,C3,rfl⟩:=(show ∃A c,e=.returned (.tuple #[.agg #[.int .i64 0,.string ⟨#[]⟩,.slice A 0 c],.bool false])from F);have y:=ae w3 (.cells #[.int .i64 0,.string ⟨#[]⟩,.slice s 0 C3] 29);have m:=l.t (y.m l.size);obtain⟨i,j⟩:=aab (o.o.t (m.m o.o.size)) (q.o.ag m);clear F l y m C D E;go_upto_region 4 with fail;generalize w3.alloc _=w4 at i j⊢;obtain⟨Q,S,U⟩:=j.o.cells;obtain⟨f0,f1,f2⟩:=j.o.free;go_wp2_with fail;obtain⟨d0,d1,d2⟩:=(dX j.o (.int .i64 0) (.string ⟨#[]⟩) (.slice none 0 0)).cells;refine aV (v:=.tuple #[.agg #[.int .i64 0,.string ⟨#[]⟩,.slice none 0 0],.bool false]) (by simp[results,Tryz.results117,go_sem,d0,d1,d2]) rfl ?_;exact⟨jC i.o aar _ _ _,none,0,rfl⟩
  |some u=>
   go_wp2_with fail;refine aF.o.m ?_;rintro e w3 ⟨l,F⟩;obtain⟨s,C3,rfl,z⟩:=(show ∃A c,e=.returned (.tuple #[.agg #[.int .i64 u.aA,.string u.aI,.slice A u.ay.length c],.bool true])/\bI (dP w2.heap.size) w3 (.agg #[.int .i64 u.aA,.string u.aI,.slice A u.ay.length c]) u from F);have y:=ae w3 (.cells #[.int .i64 u.aA,.string u.aI,.slice s u.ay.length C3] 29);have G:=jy.new w3 (.int .i64 u.aA) (.string u.aI) (.slice s u.ay.length C3);have m:=l.t (y.m l.size);obtain⟨i,j,V⟩:=aac (o.o.t (m.m o.o.size)) (q.o.ag m) (z.at.ag y);clear F l y m z C D E;go_upto_region 4 with fail;generalize w3.alloc _=w4 at i j V G⊢;generalize w3.heap.size=g6 at G⊢;obtain⟨C,D,E⟩:=G.cells;have aP:=aa G;clear G;have H:=aC.o u aD.o rfl;cases a:u.eZ with
   |false=>
    obtain rfl:R=none:=aO.o u rfl a;have g:=aa (Az u _ w4 V.o H false 76 a (.inr ⟨rfl,rfl⟩));clear a H;go_wp2_with fail;refine g.o.m ?_;rintro e w5 ⟨rfl,f⟩;obtain⟨X,k⟩:=aab (i.o.t (f.m i.o.size)) (j.o.ag f);obtain⟨Q,S,U⟩:=k.o.cells;obtain⟨f0,f1,f2⟩:=k.o.free;clear f C D E;go_wp2_with fail;obtain⟨d0,d1,d2⟩:=(dX k.o (.int .i64 0) (.string ⟨#[]⟩) (.slice none 0 0)).cells;refine aV (v:=.tuple #[.agg #[.int .i64 0,.string ⟨#[]⟩,.slice none 0 0],.bool false]) (by simp[results,Tryz.results117,go_sem,d0,d1,d2]) rfl ?_;exact⟨jC X.o aar _ _ _,none,0,rfl⟩
   |true=>
    obtain rfl:R=some u.fM:=HY.o u aD.o rfl a;obtain⟨g,aQ,aT⟩:=aac (Az u _ w4 V.o H true 0 a (.inl ⟨rfl,rfl⟩)) (λv W h=>Wt u v W h H) a;clear a H;go_wp2_with fail;refine g.o.m ?_;rintro e w5 ⟨rfl,f⟩;obtain⟨X,k,aU⟩:=aac (i.o.t (f.m i.o.size)) (j.o.ag f) (V.o.ag f);obtain⟨Q,S,U⟩:=(aP.o.ag f).cells;clear f C D E;go_wp2_with fail;refine(aQ.o _ _ aU.o).m ?_;rintro e w7 ⟨A7,C7,rfl,z,I⟩;rw[aJ aT.o]at z⊢;obtain⟨Q,S,U⟩:=(k.o.ag I).cells;obtain⟨f0,f1,f2⟩:=(k.o.ag I).free;obtain⟨aW,aX,aH⟩:=aac (X.o.t (I.m X.o.size)) (k.o.ag I) z;have aZ:w.heap.size+1<w5.heap.size:=k.o.lt;obtain⟨v,a⟩:=aay u.fM;rw[a]at aH⊢;have HV:=aa a;clear I z a;go_wp2_with fail;obtain⟨d0,d1,d2⟩:=(dX aX.o (.int .i64 v.aA) (.string v.aI) (.slice A7 v.ay.length C7)).cells;refine aV (v:=.tuple #[.agg #[.int .i64 v.aA,.string v.aI,.slice A7 v.ay.length C7],.bool true]) (by simp[results,Tryz.results117,go_sem,d0,d1,d2]) rfl ?_;refine⟨jC aW.o aar _ _ _,?_⟩;rw[HV.o];refine⟨A7,C7,rfl,aH.o.aR λb hb _=>?_⟩;have bf:=ak hb;exact⟨aM aar,lJ _ _ _ _ _ _ aar⟩
theorem Nk(S:Nat->Bool)(L:List Bd)(v:Value)(w:World)(p:Bf S w v L)(q:L.length<=1000000):
 Calls Tryz.prog 149 #[v] w λe w'=>∃A2 c2,e=.returned (.slice A2 L.length c2)/\fZ LK S w.heap.size w' (.slice A2 L.length c2) L/\Below w.heap.size w w':=by
 obtain⟨r,s,t,x,y⟩:=dU Tryz.Fu;rcases p with⟨rfl,rfl⟩|⟨h0,A,cap,rfl,z,B,h⟩
 ·refine(JL w).m ?_;rintro e w' ⟨rfl,rfl⟩;exact⟨none,0,rfl,fZ.nil _ _ _ _,aC _ _⟩
 rcases h with h|⟨b,off,dE,rfl,hS,a,i⟩;·omega
 have c:=ae w (.cells #[] 132);obtain⟨C,D,l⟩:=aac a a.ones (show dE.flatten.length=L.length*4 from a.MB);have E:=aa (show ∀j u,dE.flatten[j]?=some u->(w.alloc (.cells #[] 132)).cell? ((⟨b,off,none⟩:Addr).add j)=some u from λj u hu=>by rw[cz];exact af c (i j u hu));obtain⟨HOWN,F⟩:=aab (vT (size:=4) (e:=132) w #[] 0 (base:=w.heap.size) (ax _) (aT _) rfl) c;have G:∀W,Sem.run Tryz.prog (binOp BinOp.eql 70 (Value.slice (some ⟨b,off,none⟩) L.length cap) (Value.slice none 0 0)) W=.ok (.bool false) W:=λW=>aav;obtain⟨n,d⟩:=aay L.length;have H:=aa d;rw[d]at l h0 q G⊢;clear i a c d z B hS;go_enter Tryz.func149,Tryz.ntmps149;go_wp2_with (at_builtin;refine lK _ rfl _ _ 70 rfl w.heap.size 132 r _ 4 64 fQ s t x y rfl aar _ 0 [] rfl HOWN.o ⟨b,off,none⟩ n cap dE.flatten rfl l.o E.o D.o h0 aaS aar aaW _ rfl ?_;intro m M I f J N O);have o:Below w.heap.size w I:=(F.o.m (ax _)).grown J (jo aaW) (λk g=>by injection g with g;subst g;exact ax _);go_ret;rw[eP,jZ]at f;refine⟨_,_,rfl,⟨dE,C.o.aR λb hb K=>⟨dL.2 ⟨hb,λe=>?_⟩,o.block b K⟩,?_⟩,o⟩
 ·have P:m=b:=aB e;have:=(f.lt m rfl).1;omega
 ·rw[H.o];exact f
def Te:El ByteArray where
 ty:=9
 size:=1
 fF _ _ xs s:=xs=[.string s]/\s.size<=maxLen
 len:=λh=>by rw[h.1];rfl
 one:=λh u hu=>by rw[h.1]at hu;simp at hu;rw[hu];rfl
 aR:=λh _=>h
 pos:=by decide
theorem jU.gK{S:Nat->Bool}{w:World}{A:Option Addr}{n cap:Nat}{L:List ByteArray}(h:jU Te S w (.slice A n cap) L){i:Nat}(hi:i<L.length):∃b o,A=some ⟨b,o,none⟩/\w.cell? ⟨b,o+i,none⟩=some (.string L[i])/\L[i].size<=maxLen:=by
 obtain⟨b,o,cs,e,⟨rfl,a⟩,c⟩:=h.get hi;have:=c 0 _ rfl;have d:i*Te.size+0=i:=(by show i*1+0=i;omega);rw[d]at this;exact⟨b,o,e,this,a⟩
theorem jU.Zo{S:Nat->Bool}{w:World}{b o n cap:Nat}{v:ByteArray}{L:List ByteArray}(h:jU Te S w (.slice (some ⟨b,o,none⟩) n cap) (v::L)):jU Te S w (.slice (some ⟨b,o+1,none⟩) (n-1) (cap-1)) L:=by
 obtain⟨z,A,e,k,B,l⟩:=h;injection e with d g m;subst m;subst d;rw[bg]at k g;refine⟨_,cap-1,by rw[g,jQ],aar,aar,?_⟩;rcases l with h0|⟨b',C,dE,d,hS,f,p⟩;·simp at h0
 ·injection d with d;injection d with q s;subst q;subst s;refine .inr ⟨b,o+1,dE.tail,rfl,hS,?_,λj u hu=>?_⟩
  ·exact f.sub (· +1) (by rw[List.length_tail,f.1,bg,jQ]) λi a c=>by
    rw[List.length_tail]at a;exact⟨by show i+1<_;omega,by show i+1<_;rw[bg];omega,List.getElem_tail ..,aau⟩
  ·have:=f.MB;cases dE with
   |nil=>simp at hu
   |cons c r=>
    have t:=f.len c eu;have x:c.length=1:=t;have y:=p (j+1) u (by rw[gu,bq aar,x,jQ];exact hu);rw[gN,Nat.add_comm 1 j];exact y
theorem jU.Zn{S:Nat->Bool}{w:World}{A:Option Addr}{n:Nat}{v:ByteArray}{L:List ByteArray}(h:jU Te S w (.slice A n 1) (v::L))(B:Option Addr):jU Te S w (.slice B (n-1) 0) L:=by
 obtain⟨c,d,e,b,_⟩:=h;injection e with f a g;rw[bg]at b a;obtain rfl:L=[]:=bR aar;exact⟨B,0,by rw[a];rfl,ax _,aT _,.inl rfl⟩
theorem Cy.new{pat:T}{b:List Bd}{P:List T}{NM:List ByteArray}{pA:Option Addr}{pc:Nat}{bv pv:Value}{B h Mn Mm g M:Nat}{w:World}{vs vp fv:Value}{W:List fG}{x:LG}(k:Cy pat b P NM pA pc bv pv B h Mn Mm g M w vs vp fv W x){q:Nat}(a:w.heap.size<=q):nh h Mn Mm g M vs vp fv q=true:=
 tu.2 ⟨kz.2 ⟨aaz k.Jg.lt,aaz k.Jg.apart.m,λe=>aaz ((k.Jg.apart.s _ e).2.1),λe=>aaz ((k.Jg.apart.p _ e).2.1),rfl⟩,aaz k.box.lt,aaz k.names.lt,aaz k.met.lt,λe=>aaz ((k.gP.block _ e).2)⟩
theorem BM{pat:T}{b:List Bd}{P:List T}:∀(a:List T) (x:LG),(a.foldl (aQ.offer pat b P) x).met.length<=x.met.length+a.length/\(a.foldl (aQ.offer pat b P) x).gP.length<=x.gP.length+a.length
 |[],x=>⟨ax _,ax _⟩
 |t::r,x=>by
  obtain⟨d,e⟩:=BM r (aQ.offer pat b P x t);have c:(aQ.offer pat b P x t).met.length<=x.met.length+1/\(aQ.offer pat b P x t).gP.length<=x.gP.length+1:=by
   unfold aQ.offer;split;·exact⟨ui _,ui _⟩
   ·refine⟨aau,?_⟩;show(if _ then _ else _:List T).length<=_;split;·simp
    ·exact ui _
  have f:=c.1;have g:=c.2;show(r.foldl (aQ.offer pat b P) (aQ.offer pat b P x t)).met.length<=_/\(r.foldl (aQ.offer pat b P) (aQ.offer pat b P x t)).gP.length<=_;rw[bg];exact⟨aG d (aG (zM f _) aar),aG e (aG (zM g _) aar)⟩
theorem YA.step{pat:T}{b:List Bd}{P:List T}{NM:List ByteArray}{pA:Option Addr}{pc:Nat}{bv pv:Value}{B h Mn Mm g M:Nat}{U K:List T}{w w1 a:World}{vs vp fv c d e:Value}{x:LG}(f:Gc B h Mn Mm g M w vs vp fv w1 c d e)(i:YA pat b P NM pA pc bv pv B h Mn Mm g M U K w1 c d e x a):YA pat b P NM pA pc bv pv B h Mn Mm g M U K w vs vp fv x a:=by
 obtain⟨vs',mK,Dx,W',j,k,l⟩:=i;exact⟨vs',mK,Dx,W',j,k,f.t l⟩
end
section
open Go.RowKit
theorem aS.LY{w w':World}{g:Nat}{v:Value}{t:T}(h:aS w v t)(j:∀i (n:Int),w.cell? ⟨g,i,none⟩≠some (.int .i64 n))(c:∀p:Addr,p.block≠g->(w.cell? p).isSome=true->w'.cell? p=w.cell? p):aS w' v t:=by
 induction h with
 |mk k s A cap d U l m o q hA hU r=>
  refine .mk k s A cap d U l m o q ?_ r;rcases hA with hA|⟨b,off,e,f⟩;·exact .inl hA
  ·rcases eF d.length with h0|h0;·exact .inl h0
   ·have hb:b≠g:=λe=>by
     obtain⟨a,_,_⟩:=f 0 h0;obtain⟨u,_,_⟩:=(hU 0 h0).view;rw[u,e,qV,fC]at a;exact j off _ a
    refine .inr ⟨b,off,e,λi hi=>?_⟩;obtain⟨a,c1,c2⟩:=f i hi;exact⟨(c ⟨b,off+i*3,none⟩ hb aa5).t a,(c ⟨b,off+i*3+1,none⟩ hb (by rw[c1];rfl)).t c1,(c ⟨b,off+i*3+2,none⟩ hb (by rw[c2];rfl)).t c2⟩
theorem bI.LY{S S':Nat->Bool}{w w':World}{g:Nat}{v:Value}{t:T}(h:bI S w v t)(c:∀i (n:Int),w.cell? ⟨g,i,none⟩≠some (.int .i64 n))(d:∀b,b≠g->S b=true->b<w.heap.size->S' b=true/\w'.heap[b]?=w.heap[b]?):bI S' w' v t:=
 aS.LY (g:=g) h (λi n=>by
  rw[fO];split;·exact c i n
  ·simp) λp e a=>by
  rw[fO]at a;rw[fO,fO];split at a
  ·rename_i hS;obtain⟨v,f⟩:=eO.1 a;obtain⟨j,k⟩:=d _ e hS (eQ w p f);rw[aJ hS,aJ j];exact dB k
  ·cases a
end
section
open Go.RowKit T
def YE(S S':Nat->Bool)(w w':World)(g:Nat):Prop:=(∀i s,w.cell? ⟨g,i,none⟩≠some (.string s))/\∀b,b≠g->S b=true->b<w.heap.size->S' b=true/\w'.heap[b]?=w.heap[b]?
theorem aS.XL{w w':World}{g:Nat}{v:Value}{t:T}(h:aS w v t)(j:∀i s,w.cell? ⟨g,i,none⟩≠some (.string s))(a:∀p:Addr,p.block≠g->(w.cell? p).isSome=true->w'.cell? p=w.cell? p):aS w' v t:=by
 induction h with
 |mk k s A cap c U l m n o hA hU q=>
  refine .mk k s A cap c U l m n o ?_ q;rcases hA with hA|⟨b,off,e,d⟩;·exact .inl hA
  ·rcases eF c.length with h0|h0;·exact .inl h0
   ·have hb:b≠g:=λe=>by
     obtain⟨_,c1,_⟩:=d 0 h0;obtain⟨_,r,_⟩:=(hU 0 h0).view;rw[r,e]at c1;exact j _ _ c1
    refine .inr ⟨b,off,e,λi hi=>?_⟩;obtain⟨f,c1,c2⟩:=d i hi;exact⟨(a ⟨b,off+i*3,none⟩ hb (by rw[f];rfl)).t f,(a ⟨b,off+i*3+1,none⟩ hb (by rw[c1];rfl)).t c1,(a ⟨b,off+i*3+2,none⟩ hb (by rw[c2];rfl)).t c2⟩
section
variable {S S':Nat->Bool} {w w':World} {g:Nat}
theorem bI.YB{v:Value}{t:T}(h:bI S w v t)(k:YE S S' w w' g):bI S' w' v t:=
 aS.XL (g:=g) h (λi s a=>by
  rw[fO]at a;split at a;·exact k.1 i s a
  ·cases a) λp c b=>by
  rw[fO]at b;rw[fO,fO];split at b
  ·rename_i hS;obtain⟨v,d⟩:=eO.1 b;obtain⟨a,e⟩:=k.2 _ c hS (eQ w p d);rw[aJ hS,aJ a];exact dB e
  ·cases b
theorem jU.YB{α:Type}{E:El α}(r:Nat)(m:∀{S w xs a},E.fF S w xs a->∃s,xs[r]?=some (.string s))(n:∀{xs a},E.fF S w xs a->E.fF S' w' xs a){v:Value}{L:List α}(h:jU E S w v L)(k:YE S S' w w' g):jU E S' w' v L:=by
 obtain⟨A,cap,rfl,p,q,t⟩:=h;refine⟨A,cap,rfl,p,q,?_⟩;rcases t with h0|⟨b,o,dE,rfl,hS,d,f⟩;·exact .inl h0
 ·rcases eF L.length with h0|h0;·exact .inl h0
  ·have hi:0<dE.length:=(by rw[d.1];exact h0);obtain⟨s,hs0⟩:=m (d.2 0 hi h0);have x:r<E.size:=(by rw[<-E.len (d.2 0 hi h0)];exact(aU.1 hs0).1);have f1:=d.flat (E:=E) hi (r:=r) x;rw[hs0]at f1;have c1:=f _ _ f1;have y:b≠g:=λe=>(by subst e;exact k.1 _ _ c1);have l:=k.2 b y hS (eQ w _ c1);exact .inr ⟨b,o,dE,rfl,l.1,⟨d.1,λi a c=>n (d.2 i a c)⟩,λj u hu=>(dB l.2).t (f j u hu)⟩
theorem jU.ZF{v:Value}{L:List Bd}(h:jU LK S w v L)(k:YE S S' w w' g):jU LK S' w' v L:=
 jU.YB (E:=LK) 0 (λ⟨_,_,e,_⟩=>by rw[e];exact⟨_,rfl⟩) (λ⟨A,c,e,h,h'⟩=>⟨A,c,e,h.YB k,h'⟩) h k
theorem jU.ZG{v:Value}{L:List mg}(h:jU zG S w v L)(k:YE S S' w w' g):jU zG S' w' v L:=
 jU.YB (E:=zG) 2 (λ⟨_,_,_,e,_⟩=>by rw[e];exact⟨_,rfl⟩) (λ⟨h',A,c,e,h⟩=>⟨h',A,c,e,h.YB k⟩) h k
theorem Bf.YB{v:Value}{L:List Bd}(h:Bf S w v L)(k:YE S S' w w' g):Bf S' w' v L:=by
 rcases h with h|⟨h0,h⟩;·exact .inl h
 ·exact .inr ⟨h0,h.ZF k⟩
theorem Bf.ag{v:Value}{L:List Bd}(h:Bf S w v L)(hb:Below w.heap.size w w'):Bf S w' v L:=h.aR λb hS a=>⟨hS,hb.block b a⟩
end
end
section
open Go.RowKit T
attribute [local go_sem ↓] Go.wp_at_zero Go.wp_at_succ
def Xk(pat:T)(NM:List ByteArray)(P:List T)(v:ByteArray)(vs:List ByteArray)(L:List Bd)(p:T):List T:=if aQ.oM NM v=true/\p.aA≠1 then [] else aQ.fills pat NM P vs (L++[⟨v,p⟩])
theorem OX(pat:T)(NM:List ByteArray)(P:List T)(v:ByteArray)(vs:List ByteArray)(L:List Bd):aQ.fills pat NM P (v::vs) L=P.flatMap (Xk pat NM P v vs L):=rfl
theorem Rt(f:T->List T)(P:List T)(j:Nat)(h:j<P.length):(P.take (j+1)).flatMap f=(P.take j).flatMap f++f P[j]:=by
 rw[aZ h,jA];simp
theorem KR(f:T->List T)(P:List T)(j:Nat):((P.take j).flatMap f).length<=(P.flatMap f).length:=by
 have:P.flatMap f=(P.take j).flatMap f++(P.drop j).flatMap f:=(by rw[<-jA,lN]);rw[this,aF];omega
theorem Xj{S:Nat->Bool}{w3 w':World}{v:ByteArray}{p:T}{A':Option Addr}{a:Nat}{r:Option Nat}(c:bI S w3 (.agg #[.int .i64 p.aA,.string p.aI,.slice A' p.ay.length a]) p)(d:v.size<=maxLen)(f:∀k,r=some k->w3.heap.size<=k)(g:∀b,b<w3.heap.size->w'.heap[b]?=w3.heap[b]?):
 LK.fF (off S r) w' [.string v,.int .i64 p.aA,.string p.aI,.slice A' p.ay.length a] ⟨v,p⟩:=
 ⟨A',a,rfl,c.aR λb hb h=>⟨dL.2 ⟨hb,λe=>aaz (f b e)⟩,g b h⟩,d⟩
theorem fZ.weak{α:Type}{E:El α}{S:Nat->Bool}{B a:Nat}{w:World}{v:Value}{L:List α}(h:fZ E S B w v L)(hb:a<=B):fZ E S a w v L:=by
 obtain⟨dE,b,c,d⟩:=h;exact⟨dE,b,c,d.imp id λ⟨g,cap,f,e,i,j⟩=>⟨g,cap,f,e,aG hb i,j⟩⟩
theorem acu{p:Prop}(h:p:=by
 refine yS 11 λK d=>?_;((refine dW _ aav _ _ _ aav w3.heap.size 132 i0 _ 4 64 fQ dO dR dS dV rfl aar _ L.length _ aav (by first|exact dG av.o (ae _ _)|exact av.o) ⟨_,0,none⟩ 1 1 [.string v,.int .i64 p.aA,.string p.aI,.slice Q p.ay.length c'] aav aav (cZ aM.o) fw.o aar aaS aar hHeld.2.2.2.2.size _ rfl ?_;intro g4 dF w5 bJ aS O dH;have bK:=fZ.push (E:=LK) (S:=nh h Mn Mm g M f l o) (w:=w4) (a:=⟨v,p⟩) dC.o rfl abq (Xj fq.o dh.o (λk e=>(av.o.lt k e).1) (λb hl=>hHeld.2.2.2.2.block b hl)) bJ aS (O.imp (λe=>e.symm) (λe=>by rw[e];rfl));have az:Below w3.heap.size w3 w5:=hHeld.2.2.2.2.grown aS hHeld.2.2.2.2.size (λk e=>(av.o.lt k e).1);have bL:Bf (nh h Mn Mm g M f l o) w5 (.slice (some ⟨g4,0,none⟩) (L.length+1) dF) (L++[⟨v,p⟩]):=.inr ⟨aau,bK.Gh (λ_ h=>h) (λq s=>bA.o.new s)⟩;clear bK bJ aS O dH;go_simp);refine rY d ?_;clear d K);refine yS 12 λK d=>?_;((go_simp;go_at_call 116;refine(d9.o (L++[⟨v,p⟩]) (.slice As m (cap-1)) _ w5 f l o Wj J (bA.o.ag az) HG.o (fe.o.ag az) bL (by have:=df.o;simp at this⊢;omega) (λy hy=>(bu.1 hy).elim (ek.o y) (λhy=>by rw[bD]at hy;rw[hy];exact eT.o)) (λt ht=>bR.o t (eQ.o t (by rw[z.o];exact ht))) (by have:=bV.o.1;rw[z.o]at this;exact this) (by have:=bV.o.2;rw[z.o]at this;exact this)).m ?_;rintro e w6 ⟨rfl,aX⟩);refine rY d ?_;clear d K);refine dD aas ?_ _;obtain⟨dJ,dK,dL,W6,bM,bN,bO⟩:=aX;have aU:=aa (And.intro bM (And.intro bN ((dB.o.ag H.o.lt az).t bO)));clear bM bN bO bL az hHeld;go_wp2_with fail;go_roundw;case rel=>exact⟨j+1,_,W6,dJ,dK,dL,bf.o,aaw,aU.o.1,aU.o.2.1,aU.o.2.2,by rw[<-dw.o,z.o]⟩
 case measure=>exact aax bf.o):p:=h
theorem X8{U K:List T}(hU:yB U)(bZ:∀t∈U,t.bE<=1048576)(d:∀t∈K,t.use=true)(cu:K.length<=1000){pat:T}{b:List Bd}{NM:List ByteArray}{pA:Option Addr}{pc:Nat}{bv pv:Value}{B h Mn Mm g M:Nat}
 (hL:b.length<=800000) (cz:∀y∈b,y.t.bE<=20000) (aB:pat.bE<=1048576) (bP:∀p∈aQ.parts K,p.bE<=20000):∀(vs:List ByteArray) (L:List Bd) (vv ah:Value) (w:World) (D vp fv:Value) (W:List fG) (x:LG),
 Cy pat b (aQ.parts K) NM pA pc bv pv B h Mn Mm g M w D vp fv W x->GM U K W->jU Te (nh h Mn Mm g M D vp fv) w vv vs->Bf (nh h Mn Mm g M D vp fv) w ah L->L.length+vs.length<=900000->(∀y∈L,y.t.bE<=20000)->
 (∀t∈aQ.fills pat NM (aQ.parts K) vs L,(t.use=true->t∈U)/\t.bE<=1048576)->x.met.length+(aQ.fills pat NM (aQ.parts K) vs L).length<=1000000->x.gP.length+(aQ.fills pat NM (aQ.parts K) vs L).length<=1000000->
 Calls Tryz.prog 116 #[.pointer (some ⟨h,0,none⟩),vv,ah] w λe w'=>e=.returned (.tuple #[])/\YA pat b (aQ.parts K) NM pA pc bv pv B h Mn Mm g M U K w D vp fv ((aQ.fills pat NM (aQ.parts K) vs L).foldl (aQ.offer pat b (aQ.parts K)) x) w':=by
 intro vs;induction vs with
 |nil=>
  intro L vv ah w D vp fv W x k hW hv bn bQ bq V X Y;obtain⟨A,cap,rfl,_,_⟩:=hv.shape;have dM:aQ.fills pat NM (aQ.parts K) [] L=(jP pat L).toList:=rfl;rw[dM]at V X Y⊢;have HF:=aa (QA pat L (.agg #[.int .i64 pat.aA,.string pat.aI,.slice pA pat.ay.length pc]) ah w k.Jl.at bn.at bq aB);have c0:=k.box.cell 0 (u:=.int .i64 pat.aA) rfl;have c1:=k.box.cell 1 (u:=.string pat.aI) rfl;have c2:=k.box.cell 2 (u:=.slice pA pat.ay.length pc) rfl;obtain⟨H,HW⟩:=aab k hW;have fB:=aa (λt v w x vs vp fv W (k:Cy pat b (aQ.parts K) NM pA pc bv pv B h Mn Mm g M w vs vp fv W x) hW ht h1 I h3 h4=>UI (vs:=vs) (vp:=vp) (fv:=fv) (W:=W) (x:=x) hU bZ d cu aar (λy hy=>aG (cz y hy) aat) aB t v w k hW ht h1 I h3 h4);obtain⟨fr,aK⟩:=aay (jP pat L);rw[aK]at V X Y HF⊢;obtain⟨bR,bS⟩:=aab V (And.intro X Y);clear hv bn bQ bq V X Y dM aK k hW hU bZ d cu cz aB bP;go_enter Tryz.func116,Tryz.ntmps116;go_wp2_with fail;cases fr with
  |none=>
   refine HF.o.m ?_;rintro e N ⟨aL,he⟩;obtain⟨A3,C3,rfl⟩:=(show ∃A c,e=.returned (.tuple #[.agg #[.int .i64 0,.string ⟨#[]⟩,.slice A 0 c],.bool false])from he);have s:=ae N (.cells #[.int .i64 0,.string ⟨#[]⟩,.slice A3 0 C3] 29);have HB:=aa (aL.t (s.m aL.size));clear he aL s c0 c1 c2;go_upto_region 2 with fail;generalize N.alloc _=w3 at HB⊢;go_wp2_with fail;refine aV (v:=.tuple #[]) (by simp[results,Tryz.results116,go_sem]) rfl ?_;exact⟨rfl,D,vp,fv,W,HW.o,H.o.ag HB.o,(Gc.refl _ _ _ _ _ _ _ _ _ _).ag H.o.lt HB.o⟩
  |some u=>
   refine HF.o.m ?_;rintro e N ⟨aL,he⟩;obtain⟨A3,C3,rfl,dN⟩:=(show ∃A c,e=.returned (.tuple #[.agg #[.int .i64 u.aA,.string u.aI,.slice A u.ay.length c],.bool true])/\bI (dP w.heap.size) N (.agg #[.int .i64 u.aA,.string u.aI,.slice A u.ay.length c]) u from he);have s:=ae N (.cells #[.int .i64 u.aA,.string u.aI,.slice A3 u.ay.length C3] 29);have bx:=jy.new N (.int .i64 u.aA) (.string u.aI) (.slice A3 u.ay.length C3);obtain⟨HB,HT⟩:=aab (aL.t (s.m aL.size)) (dN.aR (S':=nb B h Mn Mm g M D vp fv) λq aW hl=>⟨xB.2 ⟨H.o.new (ak aW),aG H.o.lt (ak aW)⟩,s.block q hl⟩);clear he aL s c0 c1 c2 dN;go_upto_region 2 with fail;generalize N.alloc _=w3 at HB HT bx⊢;obtain⟨y0,y1,y2⟩:=bx.cells;have hu:=bR.o u aau;have G:=aa (fB.o u _ w3 x D vp fv W (H.o.ag HB.o) HW.o HT.o hu.2 hu.1 (aaz bS.o.1) (aaz bS.o.2));clear bx hu;go_wp2_with fail;refine G.o.m ?_;rintro e w4 ⟨rfl,aX⟩;have fD:=aa (YA.step ((Gc.refl _ _ _ _ _ _ _ _ _ _).ag H.o.lt HB.o) aX);clear aX y0 y1 y2 G;go_wp2_with fail;refine aV (v:=.tuple #[]) (by simp[results,Tryz.results116,go_sem]) rfl ?_;exact⟨rfl,fD.o⟩
 |cons v vs ih=>
  intro L vv ah w D vp fv W x k hW hv bn bQ bq V X Y;obtain⟨i0,dO,dR,dS,dV⟩:=dU Tryz.Fu;obtain⟨A,cap,rfl,dX,gm⟩:=hv.shape;obtain⟨fE,fF,aY,dY⟩:∃c A,pv=.slice A (aQ.parts K).length c/\(aQ.parts K).length<=9223372036854775807:=(by obtain⟨A,c,e,h1,I⟩:=k.prt.shape;exact⟨c,A,e,by unfold maxLen at I;omega⟩);obtain⟨b1,o1,rfl,Z,cB⟩:=hv.gK (i:=0) aau;rw[fC]at Z;simp only[dI]at Z cB;rw[OX]at V X Y⊢;have cK:=λL vv ah w D vp fv W x=>ih L vv ah w D vp fv W x;obtain⟨F,hF⟩:=aay (Xk pat NM (aQ.parts K) v vs L);have cO:∀p,F p=if aQ.oM NM v=true/\p.aA≠1 then [] else aQ.fills pat NM (aQ.parts K) vs (L++[⟨v,p⟩]):=λp=>by rw[<-hF];rfl
  rw[hF]at V X Y⊢;have c5:=k.box.cell 5 (u:=pv) rfl;have dZ:=aa (λ(w':World) (f l o:Value) (Wj:List fG) (J:LG) (k:Cy pat b (aQ.parts K) NM pA pc bv pv B h Mn Mm g M w' f l o Wj J)=>(show jU oC (nh h Mn Mm g M f l o) w' (.slice fF (aQ.parts K).length fE) (aQ.parts K)from by have:=k.prt;rw[aY]at this;exact this.aR λq s _=>⟨(xB.1 s).1,rfl⟩));obtain⟨P,hP⟩:=aay (aQ.parts K);rw[hP]at k V X Y aY cO cK bP dZ dY⊢;obtain⟨n,hn⟩:=aay P.length;obtain⟨H,HW,HV,fH,d9,ed,bR,bS,HN⟩:=aai k hW hv bn cK cO V (And.intro X Y) hn;obtain⟨fI,ek,df,dh⟩:=aad bP bq bQ cB;rw[hn]at aY dY;rw[aY]at c5;have gp:=aa aY;rw[bg]at HV dX⊢;obtain⟨m,hm⟩:=aay vs.length;have HM:=aa hm;rw[hm]at HV dX⊢;have eu:¬(m:Int)+1=0:=aar;clear k hW hv bn cK cO V X Y hn bP ih hF hP bq bQ cB hU bZ d cu cz aB hL hm aY;go_enter Tryz.func116,Tryz.ntmps116;go_wp2_with fail;rw[show((m:Int)+1==0)=false from by rw[aD];exact eu];clear c5 Z eu;go_loopw [31] (λiv wr=>∃(j:Nat) (J:LG) (Wj:List fG) (f l o:Value),j<=n/\iv=.int .i64 j/\GM U K Wj/\Cy pat b P NM pA pc bv pv B h Mn Mm g M wr f l o Wj J/\Gc B h Mn Mm g M w D vp fv wr f l o/\J=((P.take j).flatMap F).foldl (aQ.offer pat b P) x) (λiv _=>n-(intOf iv).toNat);case atStart=>exact⟨0,x,W,D,vp,fv,aT _,rfl,HW.o,H.o,Gc.refl _ _ _ _ _ _ _ _ _ _,aau⟩
  case round=>
   obtain⟨j,J,Wj,f,l,o,hj,rfl,bT,O,aK,aZ⟩:=hrel;by_cases dm:j<n
   ·have bz:j<P.length:=(by rw[HN.o];exact dm);have eB:=dZ.o wr f l o Wj J O;obtain⟨b2,o2,cs,hA,⟨Q,c',rfl,hx⟩,hc⟩:=eB.get bz;subst hA;have d0:=hc 0 _ rfl;have d1:=hc 1 _ rfl;have d2:=hc 2 _ rfl;have eF:oC.size=3:=rfl;rw[eF]at d0 d1 d2;rw[fC]at d0;rw[<-gN]at d1 d2;have aB:=fI.o _ (aP bz);have bU:=Rt F P j bz;have eG:=KR F P (j+1);have dn:∀t∈F (P[j]),t∈P.flatMap F:=λt ht=>o6.2 ⟨_,aP bz,ht⟩;obtain⟨p,hp⟩:=aay (P[j]);rw[hp]at d0 d1 d2 hx aB bU dn;obtain⟨eH,eO⟩:=BM (pat:=pat) (b:=b) (P:=P) ((P.take j).flatMap F) x;rw[<-aZ]at eH eO;rw[bU,aF]at eG;have fJ:=bS.o;have bV:=aa (show J.met.length+(F p).length<=1000000/\J.gP.length+(F p).length<=1000000 from⟨aar,aar⟩);have dw:=aa (show(F p).foldl (aQ.offer pat b P) J=((P.take (j+1)).flatMap F).foldl (aQ.offer pat b P) x from by rw[bU,mf,aZ]);have s:=ae wr (.cells #[.int .i64 p.aA,.string p.aI,.slice Q p.ay.length c'] 29);have bx:=jy.new wr (.int .i64 p.aA) (.string p.aI) (.slice Q p.ay.length c');have hB:=H.o.lt;obtain⟨bW,bX,eP,HG,bf,eQ,eT⟩:=aag (O.ag s) (aK.ag hB s) (hx.aR (S':=nh h Mn Mm g M f l o) λq aW hl=>⟨aW,s.block q hl⟩) bT dm dn aB;have hi:(j:Int)<(n:Int):=aar;clear hx hc eB hp aB bU eG dn eH eO aZ fJ O aK bT s hB eF bz hj dm;go_upto_region 7 with fail;generalize wr.alloc _=N at bx bW bX eP⊢;generalize wr.heap.size=gT at bx⊢;clear d0 d1 d2;have BX:=aa bx;obtain⟨y0,y1,y2⟩:=bx.cells;have dx:=aa (HV.o.aR (S':=nh h Mn Mm g M f l o) bX.o.aR);obtain⟨_,_,e9,Z,_⟩:=dx.o.gK (i:=0) aau;injection e9 with e9;injection e9 with fK fM _;subst fK;subst fM;rw[fC]at Z;simp only[dI]at Z;have dz:=λnq=>(bW.o.ag (rz nq (aC _ _))).names.look v dh.o;have c6:=bW.o.box.cell 6 (u:=.map (some Mn)) rfl;clear bx;obtain⟨nv,dA⟩:=aay (aQ.oM NM v);rw[dA]at dz;have eU:=aa dA;clear dA;have gu:=aa Z;obtain⟨sk,bi⟩:∃sk:Bool,sk=decide (nv=true/\p.aA≠1):=⟨_,rfl⟩;go_cut [47]from 35 to 47 (λpv wc=>pv=.bool sk/\Below N.heap.size N wc)
    case first=>
     have eX:=aa bi;clear bi;cases nv with
     |false=>
      go_quiet (fail);go_wp2_with fail;go_meet;exact⟨by rw[eX.o];simp,rz nq (aC _ _)⟩
     |true=>
      obtain⟨kb,fO⟩:=aay (p.aA != 1);have fP:=aa (show sk=kb by rw[eX.o,<-fO];by_cases h:p.aA=1<;>simp[h]);go_quiet (fail);go_wp2_with fail;go_meet;exact⟨by rw[fP.o],rz nq (aC _ _)⟩
    case rest=>
     obtain⟨rfl,R⟩:=hcut;rename World=>w3;obtain⟨bA,dB⟩:=aab (bW.o.ag R) (bX.o.ag H.o.lt R);cases sk with
     |true=>
      obtain⟨h1,I⟩:=ak bi.symm;have z:=aa (show F p=[]from by rw[ed.o,aJ ⟨eU.o.t h1,I⟩]);clear h1 I bi y0 y1 y2 Z dz c6 R;go_wp2_with fail;go_roundw;case rel=>exact⟨j+1,J,Wj,f,l,o,bf.o,aaw,HG.o,bA.o,dB.o,by rw[<-dw.o,z.o];rfl⟩
      case measure=>exact aax bf.o
     |false=>
      have eY:=nL bi.symm;have z:=aa (show F p=aQ.fills pat NM P vs (L++[⟨v,p⟩])from by rw[ed.o,aH (by rw[eU.o];exact eY)]);obtain⟨As,gy,eZ⟩:∃Q:Option Addr,(if cap=1 then some (⟨b1,o1,none⟩:Addr) else some ⟨b1,o1+1,none⟩)=Q/\jU Te (nh h Mn Mm g M f l o) N (.slice Q m (cap-1)) vs:=by
       by_cases bY:cap=1
       ·refine⟨_,aJ bY,?_⟩;have:=dx.o;rw[bY]at this;have I:=this.Zn (some ⟨b1,o1,none⟩);rw[jQ]at I;rw[bY];exact I
       ·refine⟨_,aH bY,?_⟩;have I:=dx.o.Zo;rw[jQ]at I;exact I
      obtain⟨fe,fo,fq⟩:=aac (eZ.ag R) (((fH.o.aR (S':=nh h Mn Mm g M f l o) bX.o.aR).ag R)) (eP.o.aR (S':=nh h Mn Mm g M f l o) λq aW hl=>⟨aW,R.block q hl⟩);have gz:L.length<=900000:=(aaz df.o);have gB:1<=cap:=aar;obtain⟨u0,u1,u2,fu⟩:=aal R y0 y1 y2 Z;have fw:=aa (Dj v p Q c');have gD:(1:Int)<=(m:Int)+1:=aar;clear y0 y1 y2 Z R eZ dz c6 eY bi;go_wp2_with fail;go_upto_region 8 with fail;have G:=aa (show w3.cell? ⟨gT,0,none⟩=some (.int .i64 p.aA)/\w3.cell? ⟨gT,1,none⟩=some (.string p.aI)/\w3.cell? ⟨gT,2,none⟩=some (.slice Q p.ay.length c')/\w3.cell? ⟨b1,o1,none⟩=some (.string v)/\Below w3.heap.size w3 w3 from⟨u0,u1,u2,fu,aC _ _⟩);clear u0 u1 u2 fu;refine fT (S:=(λWq=>Wq.cell? ⟨gT,0,none⟩=some (.int .i64 p.aA)/\Wq.cell? ⟨gT,1,none⟩=some (.string p.aI)/\Wq.cell? ⟨gT,2,none⟩=some (.slice Q p.ay.length c')/\Wq.cell? ⟨b1,o1,none⟩=some (.string v)/\Below w3.heap.size w3 Wq)) (λi=>if [11,12].contains i then 2 else if [0,1,2].contains i then 1 else 0) aas (show _/\_/\_/\_/\_ from⟨G.o.1,G.o.2.1,G.o.2.2.1,G.o.2.2.2.1,(aC _ w3).drew⟩) (λhHeld=>?_);refine Zp 0 _ ?_;refine Zp 1 _ ?_;refine Zp 2 _ ?_;refine fA 3 _ ?_;refine fA 5 _ ?_;refine fA 6 _ ?_;refine fA 7 _ ?_;refine fA 8 _ ?_;refine fA 9 _ ?_;refine iB (rs:=[4,10]) aas aau (QQ 4 (λK d=>?_) ((QQ 10 (λK d=>?_) (gq.nil))))
      ·
       (go_simp;go_at_call 149;refine(Nk (nh h Mn Mm g M f l o) L ah _ (fo.o.ag hHeld.2.2.2.2) aar).m ?_;rintro e w4 ⟨A2,c2,rfl,bB,bC⟩;obtain⟨dE,bF,bH⟩:=bB.weak hHeld.2.2.2.2.size;obtain⟨dC,av⟩:=aab bF bH;clear bB bF bH;(try replace aM:=aa (aM.o.ag bC));refine mZ d (gW G.o (hHeld.2.2.2.2.t (bC.m hHeld.2.2.2.2.size))) λhHeld=>?_;clear d K);refine uO 10 λK d=>?_;(go_simp;(first|refine wH d (gW G.o (iZ hHeld.2.2.2.2 _)) λg9 C aN aO=>?_|refine oW d (gW G.o (iD hHeld.2.2.2.2 _)) λg9 C aN aO=>?_);have fU:=aa (show w3.heap.size<=g9 by rw[<-C];exact hHeld.2.2.2.2.size);replace hHeld:=aO;have aM:=aa aN;(first|rw[C]|(change w3.heap.size=g9 at C;subst C));(try have fV:=aa C);(try clear C);clear d K aN aO);exact acu
      ·
       (go_simp;(first|refine wH d (gW G.o (iZ hHeld.2.2.2.2 _)) λg9 C aN aO=>?_|refine oW d (gW G.o (iD hHeld.2.2.2.2 _)) λg9 C aN aO=>?_);have fU:=aa (show w3.heap.size<=g9 by rw[<-C];exact hHeld.2.2.2.2.size);replace hHeld:=aO;have aM:=aa aN;(first|rw[C]|(change w3.heap.size=g9 at C;subst C));(try have fV:=aa C);(try clear C);clear d K aN aO);refine uO 4 λK d=>?_;(go_simp;go_at_call 149;refine(Nk (nh h Mn Mm g M f l o) L ah _ (fo.o.ag hHeld.2.2.2.2) aar).m ?_;rintro e w4 ⟨A2,c2,rfl,bB,bC⟩;obtain⟨dE,bF,bH⟩:=bB.weak hHeld.2.2.2.2.size;obtain⟨dC,av⟩:=aab bF bH;clear bB bF bH;(try replace aM:=aa (aM.o.ag bC));refine mZ d (gW G.o (hHeld.2.2.2.2.t (bC.m hHeld.2.2.2.2.size))) λhHeld=>?_;clear d K);exact acu
   ·obtain rfl:j=n:=aar;rw[bG abg]at aZ;have hi:¬(j:Int)<(j:Int):=aar;have z:=aa (And.intro bT (And.intro O (And.intro aK aZ)));clear bT O aK aZ;go_wp2_with fail;go_end0;exact⟨rfl,f,l,o,Wj,z.o.1,by rw[<-z.o.2.2.2];exact z.o.2.1,z.o.2.2.1⟩
end
section
def Ot(a hi:Nat):Nat->Bool:=λb=>decide (a<=b/\b<hi)
theorem ja{a hi b:Nat}:Ot a hi b=true<->a<=b/\b<hi:=by unfold Ot;exact vU
end
section
open Go.RowKit T
attribute [local go_sem ↓] Go.wp_at_zero Go.wp_at_succ
theorem PR(x s:ByteArray):(x.toList==s.toList)=decide (x=s):=by
 by_cases h:x=s;·subst h;simp
 ·rw[cu h];exact aD.2 λe=>h (G6 e)
theorem Va(x s:ByteArray)(k:Int)(nm:ByteArray)(a:Value)(q:Nat)(w:World)(d:w.cell? ⟨q,0,none⟩=some (.string s)):
 Calls Tryz.prog 115 #[.agg #[.string x,.int .i64 k,.string nm,a],.pointer (some ⟨q,0,none⟩)] w λe w'=>e=.returned (.bool (decide (x=s)))/\Below w.heap.size w w':=by
 have b:=ae w (.cells #[.string x,.int .i64 k,.string nm,a] 132);have f:(w.alloc (.cells #[.string x,.int .i64 k,.string nm,a] 132)).cell? ⟨w.heap.size,0,none⟩=some (.string x):=by
  have g:=bP w (.cells #[.string x,.int .i64 k,.string nm,a] 132);unfold World.cell?;rw[g];rfl
 have h:=af b d;have c:=aa b;clear b;go_enter Tryz.func115,Tryz.ntmps115;go_upto_region 1 with fail;generalize w.alloc _=i at f h c⊢;go_wp2_with fail;go_ret;exact⟨cO (PR x s),c.o⟩
theorem Q0{L:List Bd}{s:ByteArray}(h:∀m (c:m<L.length),L[m].var≠s):(L.any λy=>decide (y.var=s))=false:=by
 rw[fH];intro x a;obtain⟨m,b,rfl⟩:=bL a;simpa using h m b
theorem MJ(L:List Bd)(v:Value)(q:Nat)(s:ByteArray)(w:World)(k:gH w v L)(H:w.cell? ⟨q,0,none⟩=some (.string s))(T:L.length<=1000000):
 Calls Tryz.prog 148 #[v,.func (.func 115) #[] #[.pointer (some ⟨q,0,none⟩)]] w λe w'=>∃z:Int,e=.returned (.int .i64 z)/\((0<=z/\(L.any λy=>decide (y.var=s))=true)\/(z<0/\(L.any λy=>decide (y.var=s))=false))/\Below w.heap.size w w':=by
 obtain⟨A,cap,rfl,U,ae⟩:=k.shape;obtain⟨n,l⟩:=aay L.length;obtain⟨d,V,W⟩:=aac l k H;rw[l]at T U⊢;clear k l H;go_enter Tryz.func148,Tryz.ntmps148;go_wp2_with fail;go_loopw [8] (λi wr=>∃j:Nat,j<=n/\i=.int .i64 j/\(∀m (h:m<j) (I:m<L.length),L[m].var≠s)/\Below w.heap.size w wr) (λi _=>n-(intOf i).toNat);case atStart=>exact⟨0,aT _,rfl,λm h=>absurd h aar,aC _ _⟩
 case round=>
  obtain⟨j,hj,rfl,J,a⟩:=hrel;obtain⟨K,o⟩:=aab J a;clear J;by_cases p:j<n
  ·have M:j<L.length:=(by rw[d.o];exact p);obtain⟨b,off,B,c,rfl,u,C,D,E,X,Y⟩:=V.o.get M;obtain⟨x,F⟩:=aay (L[j]);have N:=aa (show ∀h:j<L.length,L[j]'h=x from λ_=>F);rw[F]at u C D E;obtain⟨d0,d1,d2,d3⟩:=aal a u C D E;have hi:(j:Int)<(n:Int):=aar;obtain⟨f,O⟩:=aab p (Va x.var s x.t.aA x.t.aI (.slice B x.t.ay.length c) q wr (af a W.o));obtain⟨r,G⟩:=aay (decide (x.var=s));rw[G]at O;have P:=aa G;clear a X F M hj u C D E Y p G;go_wp2_with fail;refine O.o.m ?_;rintro e w2 ⟨rfl,Q⟩;have R:=aa (o.o.t (Q.m o.o.size));clear Q;cases r
   ·go_wp2_with fail;go_roundw
    case rel=>
     refine⟨j+1,f.o,aaw,λm h S=>?_,R.o⟩;rcases bX m j with g|g;·exact K.o m g S
     ·obtain rfl:m=j:=aar;rw[N.o S];exact nL P.o
    case measure=>exact aax f.o
   ·have Z:=aa (show(L.any λy=>decide (y.var=s))=true from dM.2 ⟨L[j]'(by rw[d.o];exact f.o),aP _,by rw[N.o (by rw[d.o];exact f.o)];exact P.o⟩);go_wp2_with fail;go_ret;exact⟨_,rfl,.inl ⟨aar,Z.o⟩,R.o⟩
  ·have hi:(n:Int)<=(j:Int):=aar;have HL:=aa (Q0 (L:=L) (s:=s) λm I=>K.o m (aaz d.o) I);clear a;go_wp2_with fail;go_ret;exact⟨_,rfl,.inr ⟨aar,HL.o⟩,o.o⟩
theorem Hg(L:List Bd)(v:Value)(q:Nat)(s:ByteArray)(w:World)(b:gH w v L)(c:w.cell? ⟨q,0,none⟩=some (.string s))(d:L.length<=1000000):
 Calls Tryz.prog 114 #[v,.func (.func 115) #[] #[.pointer (some ⟨q,0,none⟩)]] w λe w'=>e=.returned (.bool (L.any λy=>decide (y.var=s)))/\Below w.heap.size w w':=by
 have f:=aa (MJ L v q s w b c d);clear c b d;generalize(L.any λy=>decide (y.var=s))=r at f⊢;go_enter Tryz.func114,Tryz.ntmps114;go_wp2_with fail;refine f.o.m ?_;rintro e h ⟨z,rfl,a,hb⟩;have g:=aa hb;clear hb;rcases a with⟨a,rfl⟩|⟨a,rfl⟩
 ·go_wp2_with fail;go_ret;exact⟨rfl,g.o⟩
 ·go_wp2_with fail;go_ret;exact⟨cO (cu aar),g.o⟩
end
section
open Go.RowKit
variable {X:Nat->Bool}
theorem Wu{B g M:Nat}{vs vp:Value}{W:List fG}(w:World)(h:gz X B w g M vs vp W)(hb:∀s∈W,s.t.bE<=1048576):
 Calls Tryz.prog 111 #[.agg #[.pointer (some ⟨g,0,none⟩)]] w λe w'=>∃A cap L,e=.returned (.slice A L.length cap)/\L.Perm (xD W W.length)/\L.Pairwise (λa b=>¬T.cmp b a<0)/\jU oC (dP w.heap.size) w' (.slice A L.length cap) L/\Below w.heap.size w w':=by
 obtain⟨i0,bf,bg,bi,bn⟩:=dU Tryz.uN;have K:=ae w (.cells #[.pointer (some ⟨g,0,none⟩)] 162);have N:(w.alloc (.cells #[.pointer (some ⟨g,0,none⟩)] 162)).cell? ⟨w.heap.size,0,none⟩=some (.pointer (some ⟨g,0,none⟩)):=by
  have:=bP w (.cells #[.pointer (some ⟨g,0,none⟩)] 162);unfold World.cell?;rw[this];rfl
 obtain⟨v,O,aF⟩:=aac (h.ag K) K hb;have bR:=h.size;obtain⟨A7,c7,A8,c8,rfl,rfl⟩:=h.shapes;clear h hb K;go_enter Tryz.func111,Tryz.ntmps111;go_upto_region 1 with fail;generalize w.alloc _=c at N v O⊢;have bq:=aa N;obtain⟨d0,d1,d2,_,_⟩:=v.o.cells;have bu:=O.o.size;have aH:=aa (show bK c c.heap.size (.slice none 0 0) (xD W 0)/\Below c.heap.size c c from⟨bK.nil _ _,aC _ _⟩);go_upto_region 3 with fail;clear N d0 d1 d2;go_loopw [12,3] (λi l wr=>∃j:Nat,j<=W.length/\i=.int .i64 j/\bK wr c.heap.size l (xD W j)/\Below c.heap.size c wr) (λi _ _=>W.length-(intOf i).toNat);case atStart=>exact⟨0,aT _,rfl,aH.o.1,aH.o.2⟩
 case round=>
  obtain⟨j,hj,rfl,x,d⟩:=hrel;by_cases f:j<W.length
  ·have P:=v.o.ag d;obtain⟨bS,cp,Q,R,S,U,bv,V,Y,Z,s3,s4,hT,hN⟩:=P.Ob f;injection bv with ah _ av;subst ah;subst av;have aJ:(0:Int)<=(j:Int)/\(j:Int)<(W.length:Int):=aar;obtain⟨aJ,bT⟩:=aJ;have bU:(j:Int)<=1048576:=aar;have r:=aa (UX W j f);have y:=aF.o (W[j]'(f)) (aP f);have z:=aa hT.at
   have C:=aa f;obtain⟨gp,cq,bz,D,_,_⟩:=P.D5 f;injection bz with ah _ av;subst ah;subst av;generalize W[j]'(f)=st at V Y Z s3 s4 z r y D;obtain⟨t,how,jw,pt⟩:=st;dsimp only at V Y Z s3 s4 z r y D;have p:=ae wr (.cells #[.int .i64 t.aA,.string t.aI,.slice Q t.ay.length R,.int .i64 (how:Int),.slice S jw.length U] 197);have bk:=xI.new wr (.int .i64 t.aA) (.string t.aI) (.slice Q t.ay.length R) (.int .i64 (how:Int)) (.slice S jw.length U);have m:=aa (x.ag p);obtain⟨n,aL⟩:=aab (d.t (p.m d.size)) (z.o.ag p);have aN:=af p D;have aO:=v.o.ag (d.t (p.m d.size));obtain⟨d0,d1,d2,_,_⟩:=aO.cells;have aQ:=af (d.t (p.m d.size)) bq.o;have bA:=aa (λv' W' hW=>wW (t.bE+1) t v' W' aar hW y);clear hT hN x d P f y z;go_upto_region 5 with fail;clear V Y Z s3 s4 p D aO;generalize wr.alloc _=wa at bk m n aL aN d0 d1 d2 aQ⊢;obtain⟨k0,k1,k2,_,_⟩:=bk.cells;clear bk;cases pt with
   |false=>
    have E:=aa (show xD W (j+1)=xD W j by rw[r.o];rfl);go_wp2_with fail;go_roundw;case rel=>exact⟨j+1,C.o,aaw,by rw[E.o];exact m.o,n.o⟩
    case measure=>exact aax C.o
   |true=>
    have E:=aa (show xD W (j+1)=xD W j++[t] by rw[r.o];rfl);obtain⟨xs,aS,aU⟩:=m.o.cells;obtain⟨ax,HOWN,aV⟩:=aac m.o.block aS aU;have bB:=QO W j;generalize xD W j=L0 at HOWN aV ax bB E;obtain⟨A9,c9,rfl⟩:=oO HOWN.o;clear aS aU r m;go_wp2_with fail;refine(bA.o _ _ aL.o).m ?_;rintro e w3 ⟨F,C3,rfl,az,q⟩;have aB:=ae w3 (.cells #[.int .i64 t.aA,.string t.aI,.slice F t.ay.length C3] 29);obtain⟨bC,bD⟩:=aab (dG (dG HOWN.o q) aB) az.one;have bF:c.heap.size<=(w3.alloc (.cells #[.int .i64 t.aA,.string t.aI,.slice F t.ay.length C3] 29)).heap.size:=(by rw[aK];have:=q.size;have:=n.o.size;omega);obtain⟨bG,aW⟩:=aab ((λw8 A8 c8 G u H=>bK.push (base:=c.heap.size) (w3:=w8) (A8:=A8) (c8:=c8) (o:=.cells #[.int .i64 t.aA,.string t.aI,.slice F t.ay.length C3] 29 (0,0)) aV.o (λb e=>(ax.o b e).2) n.o.size q az G u H)) (((n.o.t (q.m n.o.size)).t (aB.m (aG n.o.size q.size))));clear q az aB k0 k1 k2 aN d0 d1 d2 aQ;go_wp2_with (at_builtin;refine fq _ rfl _ _ 23 rfl c.heap.size 29 i0 _ 3 48 cB bf bg bi bn rfl aar _ _ _ rfl bC.o _ 1 1 [.int .i64 t.aA,.string t.aI,.slice F t.ay.length C3] rfl (Src.Cn _ _ _ 3 rfl) bD.o aaS aar bF ?_;intro A8 c8 w8 G u H;obtain⟨bH,bI⟩:=aab (bG.o _ _ _ G u H) ((aW.o.grown u aW.o.size (λk hk=>(ax.o k hk).1)));clear G u H);go_roundw;case rel=>exact⟨j+1,C.o,aaw,by rw[E.o];exact bH.o,bI.o⟩
    case measure=>exact aax C.o
  ·obtain rfl:j=W.length:=aar;obtain⟨m,n⟩:=aab x d;have aX:=aa (show ∀t∈xD W W.length,t.bE<=1048576 from λt ht=>by
    unfold xD at ht;obtain⟨s,I,rfl⟩:=ek.1 ht;exact aF.o s (uf (fU.1 I).1))
   have bJ:=QO W W.length;obtain⟨L0,aD⟩:=aay (xD W W.length);rw[aD]at m aX bJ;have bL:=aa aD;clear aD;obtain⟨A9,c9,bM,_,_⟩:=m.o.shape;subst bM;clear x d f hj;go_upto_region 8 with fail;go_wp2_with fail;refine(Yf _ m.o aX.o aar).m ?_;rintro e w5 ⟨rfl,L',J,I,aY,aZ⟩;obtain⟨HP,HS⟩:=aab J I;have bN:=aa (show jU oC (dP w.heap.size) w5 (.slice A9 L'.length c9) L' from by
    have h1:=aY.Sd.list.aR (S':=dP w.heap.size) λb hb _=>⟨aM (aaz (ak hb)),rfl⟩;rw[J.length_eq];exact h1)
   obtain⟨bO,bQ⟩:=aab ((O.o.t ((n.o.t aZ).m bu))) J.length_eq;clear J I aY aZ;go_wp2_with fail;go_ret;exact⟨A9,c9,L',by rw[bQ.o];rfl,by rw[bL.o];exact HP.o,HS.o,bN.o,bO.o⟩
end
end Go.Proofs.YtaciciokmpbkkaaGreatDoor
