import Derived.Test.YtaciciokmpbkkaaGreatDoorWebG20
set_option maxRecDepth 100000
set_option maxHeartbeats 16000000
namespace Go.Proofs.YtaciciokmpbkkaaGreatDoor
section
open Go.RowKit T
attribute [local go_sem ↓] Go.wp_at_zero Go.wp_at_succ
def ED(w:World)(k:Int)(s:ByteArray)(L:List T)(wr:World):Prop:=
 ∃kv,jM wr (w.heap.size+2) (.int .i64 k) (.string s) kv/\jM wr (w.heap.size+1) (.int .i64 0) (.string ⟨#[]⟩) (.slice none 0 0)/\bK wr (w.heap.size+3) kv L/\Below w.heap.size w wr/\w.heap.size+3<=wr.heap.size
theorem ED.step{w:World}{k:Int}{s:ByteArray}{L:List T}{t:T}{wr w3 w4:World}{kv u0 u1 u2:Value}{xs:List Value}{g cap:Nat}
 (x:jM wr (w.heap.size+2) (.int .i64 k) (.string s) kv) (y:jM wr (w.heap.size+1) (.int .i64 0) (.string ⟨#[]⟩) (.slice none 0 0)) (f:bK wr (w.heap.size+3) kv L) (hb:Below w.heap.size w wr) (E:w.heap.size+3<=wr.heap.size)
 (n:∀i (h:i<L.length),∃u0 u1 u2,xs[i*3]?=some u0/\xs[i*3+1]?=some u1/\xs[i*3+2]?=some u2/\bN (but (w.heap.size+3) kv.ownBlock) wr (.agg #[u0,u1,u2]) L[i]) (o:xs.length=L.length*3)
 (j:Below wr.heap.size wr w3) (p:bN (eG wr.heap.size) w3 (.agg #[u0,u1,u2]) t)
 (q:w4.ownsRow (w.heap.size+3) 29 3 (.slice (some ⟨g,0,none⟩) (L.length+1) cap) (L.length+1) (xs++[u0,u1,u2])) (a:(w3.alloc (.cells #[u0,u1,u2] 29)).grownBy w4 kv.ownBlock)
 (r:kv.ownBlock=some g\/g=w3.heap.size+1):ED w k s (L++[t]) (w4.setCell ⟨w.heap.size+2,2,none⟩ (.slice (some ⟨g,0,none⟩) (L.length+1) cap)):=by
 have m:∀b,b<w.heap.size+3->kv.ownBlock≠some b:=λb d e=>(by have:=(f.block b e).1;omega);have c:=j.t ((af w3 (.cells #[u0,u1,u2] 29)).m j.size);have u:Below w.heap.size w w4:=(hb.t (c.m (by omega))).grown a (by rw[aK];have:=j.size;omega) (λk v=>by have:=(f.block k v).1;omega);refine⟨_,(((x.ag c).grown a (m _ (by omega))).Bv _),?_,?_,u.setCell (show w.heap.size<=w.heap.size+2 by omega) _,?_⟩;·exact((y.ag c).grown a (m _ (by omega))).setOther (by simp) _
 ·have z:=bK.snoc (w:=w3.alloc (.cells #[u0,u1,u2] 29)) (H:=w3.heap.size+1) (t:=t) (λi hi=>by
   obtain⟨a0,A,a2,B,C,D,b3⟩:=n i hi;exact⟨a0,A,a2,B,C,D,b3.aR λb hb d=>⟨hb,c.block b d⟩⟩) o
   (p.aR λb l d=>⟨ja.2 ⟨by have:=ax l;omega,λe=>by have:=(f.block b e).2;have:=ax l;omega⟩,fF w3 _ b d⟩)
   q a r (by rw[aK])
  exact z.aR λb l _=>aM _ _ _ _ (by show b≠w.heap.size+2;omega)
 ·have:=a.size;have:=c.size;simp[World.setCell];omega
theorem ED.ag{w:World}{k:Int}{s:ByteArray}{L:List T}{wr w':World}(h:ED w k s L wr)(hb:Below wr.heap.size wr w'):ED w k s L w':=by
 obtain⟨kv,b,c,d,a,e⟩:=h;exact⟨kv,b.ag hb,c.ag hb,d.ag hb,a.t (hb.m a.size),aD e hb.size⟩
def Xp(r:Option T)(w:World)(e:Ending)(w':World):Prop:=Below w.heap.size w w'/\match r with
 |none=>∃A c,e=.returned (.tuple #[.agg #[.int .i64 0,.string ⟨#[]⟩,.slice A 0 c],.bool false])
 |some u=>∃A c,e=.returned (.tuple #[.agg #[.int .i64 u.aC,.string u.aJ,.slice A u.ay.length c],.bool true])/\bN (eG w.heap.size) w' (.agg #[.int .i64 u.aC,.string u.aJ,.slice A u.ay.length c]) u
theorem oJ{B:Nat}{b w:World}{g:Nat}(hb:Below B b w)(a:B<=g)(x y z:Value):Below B b (((w.setCell ⟨g,0,none⟩ x).setCell ⟨g,1,none⟩ y).setCell ⟨g,2,none⟩ z):=
 ((hb.setCell (show B<=(⟨g,0,none⟩:Addr).block from a) x).setCell (show B<=(⟨g,1,none⟩:Addr).block from a) y).setCell (show B<=(⟨g,2,none⟩:Addr).block from a) z
theorem Sv(w:World):aO w (.agg #[.int .i64 0,.string ⟨#[]⟩,.slice none 0 0]) (.mk 0 ⟨#[]⟩ []):=
 .mk 0 ⟨#[]⟩ none 0 [] (λ_=>(undef,undef,undef)) (by decide) (by decide) (ak _) (aL _) (.inl rfl) (λi h=>absurd h (jg _))
theorem Fp {b:List Bd}:∀(ps:List T) (j:Nat) (h:j<ps.length) (a:List T),eZ (ps.take j) b=some a->eZ (ps.take (j+1)) b=match put ps[j] b with
  |none=>none
  |some u=>some (a++[u])
 |p::ps,0,_,a,h=>by
  obtain rfl:[]=a:=(by simpa[eZ]using h);simp only[gK,iH,eZ,dw];cases put p b<;>rfl
 |p::ps,j+1,hj,a,h=>by
  simp only[gK,eZ,fD]at h⊢;cases d:put p b with
  |none=>rw[d]at h;cases h
  |some u=>
   rw[d]at h;cases c:eZ (ps.take j) b with
   |none=>rw[c]at h;cases h
   |some l=>
    rw[c]at h;obtain rfl:u::l=a:=(by simpa using h);have e:=Fp ps j (by simpa using hj) l c;rw[e];cases put (ps[j]'(by simpa using hj)) b<;>rfl
theorem Fh{b:List Bd}:∀(ps:List T) (j:Nat),eZ (ps.take j) b=none->eZ ps b=none
 |[],j,h=>by simpa using h
 |p::ps,0,h=>by simp[eZ]at h
 |p::ps,j+1,h=>by
  simp only[gK,eZ]at h⊢;cases c:put p b with
  |none=>rfl
  |some u=>
   rw[c]at h;cases a:eZ (ps.take j) b with
   |none=>rw[Fh ps j a]
   |some l=>rw[a]at h;cases h
theorem Zt(L:List Bd)(dx:∀x∈L,x.t.bC<=1048576):∀(N:Nat) (p:T) (pv bv:Value) (w:World),p.bC<N->aO w pv p->gu w bv L->p.bC<=1048576->
 Calls Tryz.prog 150 #[pv,bv] w (Xp (put p L) w):=by
 intro N;induction N with
 |zero=>intro p pv bv w h;omega
 |succ N ih=>
  intro p pv bv w hN hp hb Q;cases hp with
  |mk k s A cap d U h1 h2 h3 h4 hA hU=>
   simp only[T.bC]at hN Q;have dA:d.length<=262144:=(by have:=T.kN d;omega);obtain⟨i0,dB,dC,dD,dE⟩:=dV Tryz.uI;have aW:put (.mk k s d) L=if k=2 then T.look L s else (match eZ d L with
    |none=>none
    |some l=>some (.mk k s l)):=by
    simp only[put];rfl
   obtain⟨R,hR⟩:∃R,put (.mk k s d) L=R:=⟨_,rfl⟩;rw[hR]at aW⊢;have bL:=aa aW;obtain⟨bx,aX,aZ,H⟩:=rz w (.int .i64 k) (.string s) (.slice A d.length cap) (.int .i64 0) (.string ⟨#[]⟩) (.slice none 0 0);obtain⟨HB,IH,dF,dG,dH,bP⟩:=ZV hb ih dx hA hU (show s.size+4+bE d<=1048576/\s.size+4+bE d<N+1 from⟨Q,hN⟩);clear hA hU hb ih aW hR Q hN;go_enter Tryz.func150,Tryz.ntmps150;go_upto_region 1 with fail;generalize(w.alloc (.cells #[.int .i64 k,.string s,.slice A d.length cap] 29)).alloc (.cells #[.int .i64 0,.string ⟨#[]⟩,.slice none 0 0] 29)=w1 at bx aX aZ H⊢;obtain⟨x0,x1,x2⟩:=bx.cells;obtain⟨BX,BY,I,dJ⟩:=ZT bx aX aZ H;clear bx aX aZ H;by_cases bQ:k=2
   ·subst bQ;obtain⟨aD,bR⟩:=ZQ (KG s L bv w w1 HB.o I.o) (show R=T.look L s from bL.o.t (aI rfl));cases B:T.look L s with
    |none=>
     rw[B]at aD;obtain rfl:R=none:=bR.o.t B;clear B;go_wp2_with fail;refine aD.o.m ?_;rintro e E ⟨J,q⟩;have bf:e=.returned (.tuple #[.agg #[.int .i64 0,.string ⟨#[]⟩,.slice none 0 0],.bool false]):=q;subst bf;have ai:=af E (.cells #[.int .i64 0,.string ⟨#[]⟩,.slice none 0 0] 29);have K:=jM.new E (.int .i64 0) (.string ⟨#[]⟩) (.slice none 0 0);have f:=J.t (ai.m J.size);obtain⟨F,C⟩:=ZQ (I.o.t (f.m I.o.size)) (BY.o.ag f);clear q J ai f x0 x1 x2;go_upto_region 3 with fail;generalize E.alloc (.cells #[.int .i64 0,.string ⟨#[]⟩,.slice none 0 0] 29)=w3 at F C K⊢;obtain⟨S,V,M⟩:=K.cells;go_wp2_with fail;refine(wU ((T.mk 0 ⟨#[]⟩ []).bC+1) (.mk 0 ⟨#[]⟩ []) _ _ (dI _) (Sv _) (by decide)).m ?_;rintro e w4 ⟨y,C4,rfl,O,z⟩;obtain⟨f0,f1,f2⟩:=(C.o.ag z).free;obtain⟨z0,z1,z2⟩:=(C.o.ag z).cells;obtain⟨av,bg⟩:=ZQ (C.o.ag z) (F.o.t (z.m F.o.size));clear O z S V M K;go_wp2_with fail;obtain⟨d0,d1,d2⟩:=(fJ av.o (.int .i64 (T.mk 0 ⟨#[]⟩ []).aC) (.string (T.mk 0 ⟨#[]⟩ []).aJ) (.slice y (T.mk 0 ⟨#[]⟩ []).ay.length C4)).cells;refine bG (v:=.tuple #[.agg #[.int .i64 0,.string ⟨#[]⟩,.slice y 0 C4],.bool false]) (by simp[results,Tryz.results150,go_sem,d0,d1,d2];first|rfl|exact⟨rfl,rfl,rfl⟩) rfl ?_;exact⟨oJ bg.o (by omega) _ _ _,y,C4,rfl⟩
    |some v=>
     rw[B]at aD;obtain rfl:R=some v:=bR.o.t B;have bi:=(dF.o _ (rG B).choose_spec.1);rw[(rG B).choose_spec.2.2]at bi;have dK:=aa bi;clear B bi;go_wp2_with fail;refine aD.o.m ?_;rintro e E ⟨J,q⟩;have bf:∃A c,e=.returned (.tuple #[.agg #[.int .i64 v.aC,.string v.aJ,.slice A v.ay.length c],.bool true])/\aO w (.agg #[.int .i64 v.aC,.string v.aJ,.slice A v.ay.length c]) v:=q;obtain⟨A5,c5,rfl,bS⟩:=bf;have ai:=af E (.cells #[.int .i64 v.aC,.string v.aJ,.slice A5 v.ay.length c5] 29);have K:=jM.new E (.int .i64 v.aC) (.string v.aJ) (.slice A5 v.ay.length c5);have f:=J.t (ai.m J.size);obtain⟨F,C⟩:=ZQ (I.o.t (f.m I.o.size)) (BY.o.ag f);have bT:=aa (bS.ag F.o);clear q J ai f x0 x1 x2 bS;go_upto_region 3 with fail;generalize E.alloc (.cells #[.int .i64 v.aC,.string v.aJ,.slice A5 v.ay.length c5] 29)=w3 at F C K bT⊢;obtain⟨S,V,M⟩:=K.cells;go_wp2_with fail;refine(wU (v.bC+1) v _ _ (dI _) bT.o dK.o).m ?_;rintro e w4 ⟨y,C4,rfl,O,z⟩;obtain⟨f0,f1,f2⟩:=(C.o.ag z).free;obtain⟨z0,z1,z2⟩:=(C.o.ag z).cells;obtain⟨av,bg,az⟩:=ZR (C.o.ag z) (F.o.t (z.m F.o.size)) O;have dW:w.heap.size+1<w3.heap.size:=C.o.lt;clear O z S V M K;go_wp2_with fail;obtain⟨d0,d1,d2⟩:=(fJ av.o (.int .i64 v.aC) (.string v.aJ) (.slice y v.ay.length C4)).cells;refine bG (v:=.tuple #[.agg #[.int .i64 v.aC,.string v.aJ,.slice y v.ay.length C4],.bool true]) (by simp[results,Tryz.results150,go_sem,d0,d1,d2]) rfl ?_;refine⟨oJ bg.o (by omega) _ _ _,y,C4,rfl,az.o.aR λb hb _=>?_⟩;have dL:=ax hb;exact⟨aQ (by omega),nP _ _ _ _ _ _ (by omega)⟩
   ·have bn:=bL.o;rw[aG bQ]at bn;have bU:=dJ.o;have aH:=af w1 (.cells #[.int .i64 k,.string s,.slice none 0 0] 29);have m:=jM.new w1 (.int .i64 k) (.string s) (.slice none 0 0);have bV:ED w k s [] (w1.alloc (.cells #[.int .i64 k,.string s,.slice none 0 0] 29)):=by
     rw[bU]at m;exact⟨_,m,BY.o.ag aH,bK.nil _ _,I.o.t (aH.m I.o.size),by rw[aK];omega⟩
    obtain⟨bW,bX⟩:=ZQ bV bn;obtain⟨S,V,M⟩:=(BX.o.ag aH).cells;obtain⟨n,hn⟩:∃n,d.length=n:=⟨_,rfl⟩;have bY:=aa hn;rw[hn]at x2 M dA⊢;clear bV aH m bn hn;go_upto_region 5 with fail;clear bU;generalize w1.alloc (.cells #[.int .i64 k,.string s,.slice none 0 0] 29)=E at bW S V M⊢;clear x0 x1 x2;go_wp2_with fail;clear S V M;go_loopw [34] (λiv wr=>∃(j:Nat) (P:List T),j<=n/\iv=.int .i64 j/\eZ (d.take j) L=some P/\P.length=j/\ED w k s P wr) (λiv _=>n-(intOf iv).toNat);case atStart=>exact⟨0,[],aL _,rfl,by rw[iH];rfl,rfl,bW.o⟩
    case round=>
     obtain⟨j,P,hj,rfl,aA,W,aM⟩:=hrel;by_cases bq:j<n
     ·have aN:j<d.length:=(by rw[bY.o];exact bq);obtain⟨b,off,B1,C1,rfl,bu,bz,bA,hu⟩:=aO.cells aN dG.o dH.o;have bB:=Fp d j aN P aA;have Q:=T.iQ d j aN;obtain⟨a,bZ⟩:∃a,d[j]=a:=⟨_,rfl⟩;rw[bZ]at bu bz bA hu bB Q;have i:Below w.heap.size w wr:=(by obtain⟨_,_,_,_,h,_⟩:=aM;exact h);obtain⟨d0,d1,d2⟩:=Z0 i bu bz bA;have hi:(j:Int)<(n:Int):=(by omega);have hq:=af wr (.cells #[.int .i64 a.aC,.string a.aJ,.slice B1 a.ay.length C1] 29);have aP:=jM.new wr (.int .i64 a.aC) (.string a.aJ) (.slice B1 a.ay.length C1);have bD:=aM.ag hq;have bF:=i.t (hq.m i.size);have aS:=aa (IH.o a (.agg #[.int .i64 a.aC,.string a.aJ,.slice B1 a.ay.length C1]) bv (wr.alloc (.cells #[.int .i64 a.aC,.string a.aJ,.slice B1 a.ay.length C1] 29)) (by have:=bP.o;omega) (hu.ag bF) (HB.o.ag bF) (by have:=bP.o;omega));obtain⟨cu,bH,aB⟩:=ZR bq bB W;clear hu aA bB Q bZ i hq bF aM bu bz bA aN hj bq W;go_upto_region 8 with fail;generalize wr.alloc (.cells #[.int .i64 a.aC,.string a.aJ,.slice B1 a.ay.length C1] 29)=wq at aP bD aS⊢;generalize wr.heap.size=dX at aP⊢;obtain⟨q0,q1,q2⟩:=aP.cells;have cz:=aa bD;obtain⟨r,hr⟩:∃r,put a L=r:=⟨_,rfl⟩;rw[hr]at aS bH;clear bD aP hr d0 d1 d2;cases r with
      |none=>
       obtain rfl:R=none:=by
        rw[bX.o,Fh d (j+1) bH.o]
       go_wp2_with fail;refine aS.o.m ?_;rintro e w3 ⟨f,q⟩;obtain⟨G,C3,rfl⟩:=(show ∃A c,e=.returned (.tuple #[.agg #[.int .i64 0,.string ⟨#[]⟩,.slice A 0 c],.bool false])from q);have X:=af w3 (.cells #[.int .i64 0,.string ⟨#[]⟩,.slice G 0 C3] 29);obtain⟨kv,m,o,_,i,_⟩:=cz.o.ag (f.t (X.m f.size));obtain⟨cB,aT⟩:=ZQ o i;clear q f X q0 q1 q2 m i;go_upto_region 9 with fail;generalize w3.alloc (.cells #[.int .i64 0,.string ⟨#[]⟩,.slice G 0 C3] 29)=w4 at o cB aT⊢;obtain⟨z0,z1,z2⟩:=o.cells;obtain⟨f0,f1,f2⟩:=o.free;clear o;go_wp2_with fail;obtain⟨d0,d1,d2⟩:=(fJ cB.o (.int .i64 0) (.string ⟨#[]⟩) (.slice none 0 0)).cells;refine bG (v:=.tuple #[.agg #[.int .i64 0,.string ⟨#[]⟩,.slice none 0 0],.bool false]) (by simp[results,Tryz.results150,go_sem,d0,d1,d2]) rfl ?_;exact⟨oJ aT.o (by omega) _ _ _,none,0,rfl⟩
      |some u=>
       go_wp2_with fail;refine aS.o.m ?_;rintro e w3 ⟨f,q⟩;obtain⟨G,C3,rfl,O⟩:=(show ∃A c,e=.returned (.tuple #[.agg #[.int .i64 u.aC,.string u.aJ,.slice A u.ay.length c],.bool true])/\bN (eG wq.heap.size) w3 (.agg #[.int .i64 u.aC,.string u.aJ,.slice A u.ay.length c]) u from q);have X:=af w3 (.cells #[.int .i64 u.aC,.string u.aJ,.slice G u.ay.length C3] 29);have aU:=jM.new w3 (.int .i64 u.aC) (.string u.aJ) (.slice G u.ay.length C3);have cK:=f.t (X.m f.size);obtain⟨az,Y⟩:=ZQ (show bN (eG wq.heap.size) _ _ u from O.aR λb hb B=>⟨hb,X.block b B⟩) cK;clear q f X q0 q1 q2 O cK;go_upto_region 9 with fail;generalize w3.alloc (.cells #[.int .i64 u.aC,.string u.aJ,.slice G u.ay.length C3] 29)=w5 at aU az Y⊢;generalize w3.heap.size=dY at aU⊢;obtain⟨y0,y1,y2⟩:=aU.cells;obtain⟨kv,m,o,D,i,H⟩:=cz.o;obtain⟨xs,aV,hx⟩:=D.owns;obtain⟨cO,dM⟩:=ZQ (λw4 g cap=>ED.step (k:=k) (s:=s) (t:=u) (w3:=w5) (w4:=w4) (g:=g) (cap:=cap) m o D i H hx aV.1 Y.o az.o) (m.ag Y.o);obtain⟨z0,z1,z2⟩:=(m.ag Y.o).cells;obtain⟨A6,c6,Z,_,_⟩:=D.shape;have cZ:=D.block;rw[aB.o]at aV Z cO;obtain⟨dN,dO⟩:=ZQ ((dz aV Y.o).alloc (.cells #[.int .i64 u.aC,.string u.aJ,.slice G u.ay.length C3] 29)) az.o.one;have av:=aa (show w.heap.size+3<=(w5.alloc (.cells #[.int .i64 u.aC,.string u.aJ,.slice G u.ay.length C3] 29)).heap.size by rw[aK];have:=Y.o.size;omega);have dQ:=aa (show kv.ownBlock≠some (w.heap.size+2)from λe=>by have:=(cZ _ e).1;omega);subst Z;clear m o D i H hx aV cZ aU;go_wp2_with (at_builtin;refine lI _ rfl _ _ 23 rfl (w.heap.size+3) 29 i0 _ 3 48 bM dB dC dD dE rfl (by omega) _ j xs rfl dN.o ⟨_,0,none⟩ 1 1 _ rfl rfl (di (bO _ _)) dO.o (by omega) (by unfold maxLen;omega) (by omega) av.o _ rfl ?_;intro g cap w6 df bI dh dR;have bJ:=(dM.o.ag (af w5 _)).grown bI dQ.o;have c4:=bJ.cells.2.2;have f4:=bJ.free.2.2);have dm:=cO.o w6 g cap df bI (dh.imp id (λh=>h.t (aK _ _)));have dS:=aa dm;clear dm df bI dh dR bJ c4 f4 y0 y1 y2 z0 z1 z2;go_roundw;case rel=>exact⟨_,_,_,_,_,⟨j+1,cu.o,by go_num,P++[u],bH.o,by rw[aF,aB.o];rfl,dS.o⟩,rfl,rfl,rfl,rfl,rfl⟩
       case measure=>have:=cu.o;simp[intOf];omega
     ·obtain rfl:j=n:=(by omega);rw[aY (by rw[bY.o];exact ak _)]at aA;obtain rfl:R=some (.mk k s P):=(by rw[bX.o,aA]);obtain⟨kv,m,o,D,i,H⟩:=aM;obtain⟨y,C4,Z,_,_⟩:=D.shape;have dw:=aa (D.term k s h1 h2);rw[Z,W]at dw;rw[W]at Z;subst Z;obtain⟨y0,y1,y2⟩:=m.cells;obtain⟨q0,q1,q2⟩:=o.cells;obtain⟨f0,f1,f2⟩:=o.free;have hi:¬(j:Int)<(j:Int):=(by omega);obtain⟨aT,dU,aB⟩:=ZR i o W;clear D i m o aA W;go_wp2_with fail;obtain⟨d0,d1,d2⟩:=(fJ dU.o (.int .i64 k) (.string s) (.slice y j C4)).cells;refine bG (v:=.tuple #[.agg #[.int .i64 k,.string s,.slice y j C4],.bool true]) (by simp[results,Tryz.results150,go_sem,d0,d1,d2]) rfl ?_;refine⟨oJ aT.o (by omega) _ _ _,y,C4,by simp only[T.aC,T.aJ,T.ay];rw[aB.o],?_⟩;simp only[T.aC,T.aJ,T.ay];rw[aB.o];refine dw.o.aR λb hb _=>?_;have dL:=ax hb;exact⟨aQ (by omega),nP _ _ _ _ _ _ (by omega)⟩
mutual
theorem Iy:∀t:T,t.shape=true->t.bC<=20*t.size
 |.mk k s c=>λh=>by
  simp only[T.shape]at h;simp only[T.bC,T.size];by_cases b:k=1\/k=2
  ·rw[aI b,ai,eY,dQ]at h;obtain⟨a,rfl⟩:=h;unfold isName at a;simp only[ai,bW]at a;simp only[bE,dK];omega
  ·rw[aG b,ai,ai]at h;have a:=BQ c h.2;have d:s.size=0:=by
    have:=h.1.2;rw[List.isEmpty_iff,fV]at this;rw[<-mo,this];rfl
   omega
theorem BQ:∀l:List T,dW l=true->bE l<=20*dK l
 |[]=>λ_=>ak _
 |t::r=>λh=>by
  simp only[dW,ai]at h;have a:=Iy t h.1;have b:=BQ r h.2;simp only[bE,dK];omega
end
theorem NJ{t:T}(h:t.fe=true):t.bC<=800:=by
 have a:=Iy t (mq h);have b:t.size<=40:=ax (aP.1 h).1;omega
mutual
theorem Nc{M:Nat}:∀(p:T) (b:List Bd) (u:T),(∀n v,T.look b n=some v->v.bC<=M)->put p b=some u->u.bC<=p.bC+p.size*M
 |.mk k s a,b,u,hb,h=>by
  simp only[put]at h;simp only[bC,size];by_cases d:k=2
  ·rw[aI d]at h;have:=hb _ _ h;have f:M<=(1+dK a)*M:=Nat.le_mul_of_pos_left M (by omega);omega
  ·rw[aG d]at h;cases c:eZ a b with
   |none=>rw[c]at h;cases h
   |some e=>
    rw[c]at h;obtain rfl:T.mk k s e=u:=(by simpa using h);have g:=Ff a b e hb c;have f:dK a*M<=(1+dK a)*M:=iC M (by omega);simp only[bC];omega
theorem Ff{M:Nat}:∀(ps:List T) (b:List Bd) (a:List T),(∀n v,T.look b n=some v->v.bC<=M)->eZ ps b=some a->bE a<=bE ps+dK ps*M
 |[],b,a,_,h=>by
  obtain rfl:[]=a:=(by simpa[eZ]using h);simp[bE]
 |p::ps,b,a,hb,h=>by
  simp only[eZ]at h;cases c:put p b with
  |none=>rw[c]at h;cases h
  |some u=>
   rw[c]at h;cases d:eZ ps b with
   |none=>rw[d]at h;cases h
   |some l=>
    rw[d]at h;obtain rfl:u::l=a:=(by simpa using h);have e:=Nc p b u hb c;have f:=Ff ps b l hb d;simp only[bE,dK];rw[Nat.add_mul];omega
end
theorem QQ{p:T}{L:List Bd}(h:p.fe=false):kz p L=none:=by unfold kz;rw[h];rfl
theorem QR{p:T}{L:List Bd}(h:put p L=none):kz p L=none:=by unfold kz;rw[h];simp
theorem QS{p u:T}{L:List Bd}(h:put p L=some u)(h':u.fe=false):kz p L=none:=by unfold kz;rw[h];simp[h']
theorem P7(p:T)(L:List Bd)(pv bv:Value)(w:World)(Y:aO w pv p)(hb:gu w bv L)(Z:∀x∈L,x.t.bC<=20000)(ae:p.bC<=1048576):
 Calls Tryz.prog 117 #[pv,bv] w (Xp (kz p L) w):=by
 have az:=aa (λv W h=>zX p v W h ae);have aA:=aa (λv1 v2 W h1 h2=>Zt L (λx hx=>aD (Z x hx) (by decide)) (p.bC+1) p v1 v2 W (dI _) h1 h2 ae);have aB:=aa (λu (a:p.fe=true) (h:put p L=some u)=>show u.bC<=1048576 from by
  have h1:=Nc (M:=20000) p L u (λn v e=>by obtain⟨x,hx,_,rfl⟩:=rG e;exact Z x hx) h;have h2:=NJ a;have h3:p.size<=40:=ax (aP.1 a).1;have h4:p.size*20000<=40*20000:=iC _ h3;omega)
 have ai:=QQ (p:=p) (L:=L);have J:=QR (p:=p) (L:=L);have K:=λu=>QS (p:=p) (u:=u) (L:=L);have hy:=λu=>Tz (p:=p) (u:=u) (b:=L);obtain⟨R,hR⟩:∃R,kz p L=R:=⟨_,rfl⟩;rw[hR]at ai J K hy⊢;obtain⟨r,hr⟩:∃r,put p L=r:=⟨_,rfl⟩;rw[hr]at J K hy aA aB;obtain⟨aK,aL,aM,HY⟩:=ZT ai J K hy;clear hR ai J K hy hr;obtain⟨A,c,rfl⟩:=bN.view Y.uf;obtain⟨N,ak,B,av⟩:=rz w (.int .i64 p.aC) (.string p.aJ) (.slice A p.ay.length c) (.int .i64 0) (.string ⟨#[]⟩) (.slice none 0 0);obtain⟨O,HB⟩:=ZQ (Y.ag B) (hb.ag B);clear Y hb ae Z;go_enter Tryz.func117,Tryz.ntmps117;go_upto_region 1 with fail;generalize(w.alloc (.cells #[.int .i64 p.aC,.string p.aJ,.slice A p.ay.length c] 29)).alloc (.cells #[.int .i64 0,.string ⟨#[]⟩,.slice none 0 0] 29)=w1 at N ak B av O HB⊢;obtain⟨x0,x1,x2⟩:=N.cells;obtain⟨BX,BY,P,aX⟩:=ZT N ak B av;clear N ak B av;cases a:p.fe with
 |false=>
  obtain rfl:R=none:=aK.o a;have g:=aa (az.o _ w1 O.o false 76 a (.inr ⟨rfl,rfl⟩));clear a;go_wp2_with fail;refine g.o.m ?_;rintro e w2 ⟨rfl,d⟩;have o:=aa (P.o.t (d.m P.o.size));have q:=aa (BY.o.ag d);obtain⟨Q,S,U⟩:=q.o.cells;obtain⟨f0,f1,f2⟩:=q.o.free;clear d x0 x1 x2;go_wp2_with fail;obtain⟨d0,d1,d2⟩:=(fJ q.o (.int .i64 0) (.string ⟨#[]⟩) (.slice none 0 0)).cells;refine bG (v:=.tuple #[.agg #[.int .i64 0,.string ⟨#[]⟩,.slice none 0 0],.bool false]) (by simp[results,Tryz.results117,go_sem,d0,d1,d2]) rfl ?_;exact⟨oJ o.o (by omega) _ _ _,none,0,rfl⟩
 |true=>
  obtain⟨aF,g⟩:=ZQ a (az.o _ w1 O.o true 0 a (.inl ⟨rfl,rfl⟩));clear a;go_wp2_with fail;refine g.o.m ?_;rintro e w2 ⟨rfl,d⟩;have o:=aa (P.o.t (d.m P.o.size));have q:=aa (BY.o.ag d);obtain⟨C,D,E⟩:=(BX.o.ag d).cells;have aG:=aa (aA.o _ bv w2 (O.o.ag d) (HB.o.ag d));clear d x0 x1 x2 g;cases r with
  |none=>
   obtain rfl:R=none:=aL.o rfl;go_wp2_with fail;refine aG.o.m ?_;rintro e w3 ⟨l,F⟩;obtain⟨s,C3,rfl⟩:=(show ∃A c,e=.returned (.tuple #[.agg #[.int .i64 0,.string ⟨#[]⟩,.slice A 0 c],.bool false])from F);have y:=af w3 (.cells #[.int .i64 0,.string ⟨#[]⟩,.slice s 0 C3] 29);have m:=l.t (y.m l.size);obtain⟨i,j⟩:=ZQ (o.o.t (m.m o.o.size)) (q.o.ag m);clear F l y m C D E;go_upto_region 4 with fail;generalize w3.alloc (.cells #[.int .i64 0,.string ⟨#[]⟩,.slice s 0 C3] 29)=w4 at i j⊢;obtain⟨Q,S,U⟩:=j.o.cells;obtain⟨f0,f1,f2⟩:=j.o.free;go_wp2_with fail;obtain⟨d0,d1,d2⟩:=(fJ j.o (.int .i64 0) (.string ⟨#[]⟩) (.slice none 0 0)).cells;refine bG (v:=.tuple #[.agg #[.int .i64 0,.string ⟨#[]⟩,.slice none 0 0],.bool false]) (by simp[results,Tryz.results117,go_sem,d0,d1,d2]) rfl ?_;exact⟨oJ i.o (by omega) _ _ _,none,0,rfl⟩
  |some u=>
   go_wp2_with fail;refine aG.o.m ?_;rintro e w3 ⟨l,F⟩;obtain⟨s,C3,rfl,z⟩:=(show ∃A c,e=.returned (.tuple #[.agg #[.int .i64 u.aC,.string u.aJ,.slice A u.ay.length c],.bool true])/\bN (eG w2.heap.size) w3 (.agg #[.int .i64 u.aC,.string u.aJ,.slice A u.ay.length c]) u from F);have y:=af w3 (.cells #[.int .i64 u.aC,.string u.aJ,.slice s u.ay.length C3] 29);have G:=jM.new w3 (.int .i64 u.aC) (.string u.aJ) (.slice s u.ay.length C3);have m:=l.t (y.m l.size);obtain⟨i,j,V⟩:=ZR (o.o.t (m.m o.o.size)) (q.o.ag m) (z.at.ag y);clear F l y m z C D E;go_upto_region 4 with fail;generalize w3.alloc (.cells #[.int .i64 u.aC,.string u.aJ,.slice s u.ay.length C3] 29)=w4 at i j V G⊢;generalize w3.heap.size=g6 at G⊢;obtain⟨C,D,E⟩:=G.cells;have aN:=aa G;clear G;have H:=aB.o u aF.o rfl;cases a:u.fe with
   |false=>
    obtain rfl:R=none:=aM.o u rfl a;have g:=aa (zX u _ w4 V.o H false 76 a (.inr ⟨rfl,rfl⟩));clear a H;go_wp2_with fail;refine g.o.m ?_;rintro e w5 ⟨rfl,f⟩;obtain⟨X,k⟩:=ZQ (i.o.t (f.m i.o.size)) (j.o.ag f);obtain⟨Q,S,U⟩:=k.o.cells;obtain⟨f0,f1,f2⟩:=k.o.free;clear f C D E;go_wp2_with fail;obtain⟨d0,d1,d2⟩:=(fJ k.o (.int .i64 0) (.string ⟨#[]⟩) (.slice none 0 0)).cells;refine bG (v:=.tuple #[.agg #[.int .i64 0,.string ⟨#[]⟩,.slice none 0 0],.bool false]) (by simp[results,Tryz.results117,go_sem,d0,d1,d2]) rfl ?_;exact⟨oJ X.o (by omega) _ _ _,none,0,rfl⟩
   |true=>
    obtain rfl:R=some u.fK:=HY.o u aF.o rfl a;obtain⟨g,aS,aT⟩:=ZR (zX u _ w4 V.o H true 0 a (.inl ⟨rfl,rfl⟩)) (λv W h=>V5 u v W h H) a;clear a H;go_wp2_with fail;refine g.o.m ?_;rintro e w5 ⟨rfl,f⟩;obtain⟨X,k,aU⟩:=ZR (i.o.t (f.m i.o.size)) (j.o.ag f) (V.o.ag f);obtain⟨Q,S,U⟩:=(aN.o.ag f).cells;clear f C D E;go_wp2_with fail;refine(aS.o _ _ aU.o).m ?_;rintro e w7 ⟨A7,C7,rfl,z,I⟩;rw[aI aT.o]at z⊢;obtain⟨Q,S,U⟩:=(k.o.ag I).cells;obtain⟨f0,f1,f2⟩:=(k.o.ag I).free;obtain⟨aV,aW,aH⟩:=ZR (X.o.t (I.m X.o.size)) (k.o.ag I) z;have aY:w.heap.size+1<w5.heap.size:=k.o.lt;obtain⟨v,a⟩:∃v,u.fK=v:=⟨_,rfl⟩;rw[a]at aH⊢;have HV:=aa a;clear I z a;go_wp2_with fail;obtain⟨d0,d1,d2⟩:=(fJ aW.o (.int .i64 v.aC) (.string v.aJ) (.slice A7 v.ay.length C7)).cells;refine bG (v:=.tuple #[.agg #[.int .i64 v.aC,.string v.aJ,.slice A7 v.ay.length C7],.bool true]) (by simp[results,Tryz.results117,go_sem,d0,d1,d2]) rfl ?_;refine⟨oJ aV.o (by omega) _ _ _,?_⟩;rw[HV.o];refine⟨A7,C7,rfl,aH.o.aR λb hb _=>?_⟩;have aZ:=ax hb;exact⟨aQ (by omega),nP _ _ _ _ _ _ (by omega)⟩
theorem MP(S:Nat->Bool)(L:List Bd)(v:Value)(w:World)(q:Cb S w v L)(r:L.length<=1000000):
 Calls Tryz.prog 149 #[v] w λe w'=>∃h c2,e=.returned (.slice h L.length c2)/\gV NN S w.heap.size w' (.slice h L.length c2) L/\Below w.heap.size w w':=by
 obtain⟨s,t,x,y,z⟩:=dV Tryz.ES;rcases q with⟨rfl,rfl⟩|⟨h0,A,cap,rfl,B,C,i⟩
 ·refine(Jp w).m ?_;rintro e w' ⟨rfl,rfl⟩;exact⟨none,0,rfl,gV.nil _ _ _ _,az _ _⟩
 rcases i with i|⟨b,off,dG,rfl,hS,a,l⟩;·omega
 have c:=af w (.cells #[] 132);obtain⟨D,E,m⟩:=ZR a a.ones (show dG.flatten.length=L.length*4 from a.LM);have F:=aa (show ∀j u,dG.flatten[j]?=some u->(w.alloc (.cells #[] 132)).cell? ((⟨b,off,none⟩:Addr).add j)=some u from λj u hu=>by rw[bS];exact ae c (l j u hu));obtain⟨HOWN,G⟩:=ZQ (jJ (size:=4) (e:=132) w #[] 0 (base:=w.heap.size) (ak _) (aL _) rfl) c;have H:∀W,Sem.run Tryz.prog (binOp BinOp.eql 70 (Value.slice (some ⟨b,off,none⟩) L.length cap) (Value.slice none 0 0)) W=.ok (.bool false) W:=λW=>(by rfl);obtain⟨n,d⟩:∃n,L.length=n:=⟨_,rfl⟩;have I:=aa d;rw[d]at m h0 r H⊢;clear l a c d B C hS;go_enter Tryz.func149,Tryz.ntmps149;go_wp2_with (at_builtin;refine lI _ rfl _ _ 70 rfl w.heap.size 132 s _ 4 64 fT t x y z rfl (by omega) _ 0 [] rfl HOWN.o ⟨b,off,none⟩ n cap dG.flatten rfl m.o F.o E.o h0 (by unfold maxLen;omega) (by omega) (by rw[aK];omega) _ rfl ?_;intro o N J f K O P);have p:Below w.heap.size w J:=(G.o.m (ak _)).grown K (jo (by rw[aK];omega)) (λk g=>by injection g with g;subst g;exact ak _);go_ret;rw[dJ,gH]at f;refine⟨_,_,rfl,⟨dG,D.o.aR λb hb M=>⟨dX.2 ⟨hb,λe=>?_⟩,p.block b M⟩,?_⟩,p⟩
 ·have Q:o=b:=aA e;have:=(f.lt o rfl).1;omega
 ·rw[I.o];exact f
def SB:El ByteArray where
 ty:=9
 size:=1
 gq _ _ xs s:=xs=[.string s]/\s.size<=maxLen
 len:=λh=>by rw[h.1];rfl
 one:=λh u hu=>by rw[h.1]at hu;simp at hu;rw[hu];rfl
 aR:=λh _=>h
 pos:=by decide
theorem jK.gL{S:Nat->Bool}{w:World}{A:Option Addr}{n cap:Nat}{L:List ByteArray}(h:jK SB S w (.slice A n cap) L){i:Nat}(hi:i<L.length):∃b o,A=some ⟨b,o,none⟩/\w.cell? ⟨b,o+i,none⟩=some (.string L[i])/\L[i].size<=maxLen:=by
 obtain⟨b,o,cs,e,⟨rfl,a⟩,c⟩:=h.get hi;have:=c 0 _ rfl;have d:i*SB.size+0=i:=(by show i*1+0=i;omega);rw[d]at this;exact⟨b,o,e,this,a⟩
theorem jK.Y9{S:Nat->Bool}{w:World}{b o n cap:Nat}{v:ByteArray}{L:List ByteArray}(h:jK SB S w (.slice (some ⟨b,o,none⟩) n cap) (v::L)):jK SB S w (.slice (some ⟨b,o+1,none⟩) (n-1) (cap-1)) L:=by
 obtain⟨z,A,e,k,B,l⟩:=h;injection e with d g m;subst m;subst d;rw[bu]at k g;refine⟨_,cap-1,by rw[g,jI],by omega,by omega,?_⟩;rcases l with h0|⟨b',C,dG,d,hS,f,p⟩;·simp at h0
 ·injection d with d;injection d with q s;subst q;subst s;refine .inr ⟨b,o+1,dG.tail,rfl,hS,?_,λj u hu=>?_⟩
  ·exact f.sub (· +1) (by rw[List.length_tail,f.1,bu,jI]) λi a c=>by
    rw[List.length_tail]at a;exact⟨by show i+1<_;omega,by show i+1<_;rw[bu];omega,List.getElem_tail ..,by simp⟩
  ·have:=f.LM;cases dG with
   |nil=>simp at hu
   |cons c r=>
    have t:=f.len c eD;have x:c.length=1:=t;have y:=p (j+1) u (by rw[gy,bD (by omega),x,jI];exact hu);rw[iw,Nat.add_comm 1 j];exact y
theorem jK.Y8{S:Nat->Bool}{w:World}{A:Option Addr}{n:Nat}{v:ByteArray}{L:List ByteArray}(h:jK SB S w (.slice A n 1) (v::L))(B:Option Addr):jK SB S w (.slice B (n-1) 0) L:=by
 obtain⟨c,d,e,b,_⟩:=h;injection e with f a g;rw[bu]at b a;obtain rfl:L=[]:=bQ (by omega);exact⟨B,0,by rw[a];rfl,ak _,aL _,.inl rfl⟩
theorem Ce.new{pat:T}{b:List Bd}{P:List T}{NM:List ByteArray}{pA:Option Addr}{pc:Nat}{bv pv:Value}{B h Mn Mm g M:Nat}{w:World}{vs vp fv:Value}{W:List fC}{x:K5}(k:Ce pat b P NM pA pc bv pv B h Mn Mm g M w vs vp fv W x){q:Nat}(a:w.heap.size<=q):nh h Mn Mm g M vs vp fv q=true:=
 tq.2 ⟨kr.2 ⟨by have:=k.IP.lt;omega,by have:=k.IP.apart.m;omega,λe=>by have:=(k.IP.apart.s _ e).2.1;omega,λe=>by have:=(k.IP.apart.p _ e).2.1;omega,rfl⟩,by have:=k.box.lt;omega,by have:=k.names.lt;omega,by have:=k.met.lt;omega,λe=>by have:=(k.gW.block _ e).2;omega⟩
theorem Bh{pat:T}{b:List Bd}{P:List T}:∀(a:List T) (x:K5),(a.foldl (aT.offer pat b P) x).met.length<=x.met.length+a.length/\(a.foldl (aT.offer pat b P) x).gW.length<=x.gW.length+a.length
 |[],x=>⟨ak _,ak _⟩
 |t::r,x=>by
  obtain⟨d,e⟩:=Bh r (aT.offer pat b P x t);have c:(aT.offer pat b P x t).met.length<=x.met.length+1/\(aT.offer pat b P x t).gW.length<=x.gW.length+1:=by
   unfold aT.offer;split;·exact⟨ng _,ng _⟩
   ·refine⟨by simp,?_⟩;show(if _ then _ else _:List T).length<=_;split;·simp
    ·exact ng _
  have f:=c.1;have g:=c.2;show(r.foldl (aT.offer pat b P) (aT.offer pat b P x t)).met.length<=_/\(r.foldl (aT.offer pat b P) (aT.offer pat b P x t)).gW.length<=_;rw[bu];exact⟨aD d (aD (zC f _) (by omega)),aD e (aD (zC g _) (by omega))⟩
theorem Yo.step{pat:T}{b:List Bd}{P:List T}{NM:List ByteArray}{pA:Option Addr}{pc:Nat}{bv pv:Value}{B h Mn Mm g M:Nat}{U K:List T}{w w1 a:World}{vs vp fv c d e:Value}{x:K5}(f:FE B h Mn Mm g M w vs vp fv w1 c d e)(i:Yo pat b P NM pA pc bv pv B h Mn Mm g M U K w1 c d e x a):Yo pat b P NM pA pc bv pv B h Mn Mm g M U K w vs vp fv x a:=by
 obtain⟨vs',mK,Da,W',j,k,l⟩:=i;exact⟨vs',mK,Da,W',j,k,f.t l⟩
end
section
open Go.RowKit
theorem aO.Lg{w w':World}{g:Nat}{v:Value}{t:T}(h:aO w v t)(j:∀i (n:Int),w.cell? ⟨g,i,none⟩≠some (.int .i64 n))(c:∀p:Addr,p.block≠g->(w.cell? p).isSome=true->w'.cell? p=w.cell? p):aO w' v t:=by
 induction h with
 |mk k s A cap d U l m o q hA hU r=>
  refine .mk k s A cap d U l m o q ?_ r;rcases hA with hA|⟨b,off,e,f⟩;·exact .inl hA
  ·rcases dE d.length with h0|h0;·exact .inl h0
   ·have hb:b≠g:=λe=>by
     obtain⟨a,_,_⟩:=f 0 h0;obtain⟨u,_,_⟩:=(hU 0 h0).view;rw[u,e,qU,fE]at a;exact j off _ a
    refine .inr ⟨b,off,e,λi hi=>?_⟩;obtain⟨a,c1,c2⟩:=f i hi;exact⟨(c ⟨b,off+i*3,none⟩ hb (by rw[a];rfl)).t a,(c ⟨b,off+i*3+1,none⟩ hb (by rw[c1];rfl)).t c1,(c ⟨b,off+i*3+2,none⟩ hb (by rw[c2];rfl)).t c2⟩
theorem bN.Lg{S S':Nat->Bool}{w w':World}{g:Nat}{v:Value}{t:T}(h:bN S w v t)(c:∀i (n:Int),w.cell? ⟨g,i,none⟩≠some (.int .i64 n))(d:∀b,b≠g->S b=true->b<w.heap.size->S' b=true/\w'.heap[b]?=w.heap[b]?):bN S' w' v t:=
 aO.Lg (g:=g) h (λi n=>by
  rw[fM];split;·exact c i n
  ·simp) λp e a=>by
  rw[fM]at a;rw[fM,fM];split at a
  ·rename_i hS;obtain⟨v,f⟩:=eO.1 a;obtain⟨j,k⟩:=d _ e hS (eP w p f);rw[aI hS,aI j];exact dD k
  ·cases a
end
section
open Go.RowKit T
def Yl(S S':Nat->Bool)(w w':World)(g:Nat):Prop:=(∀i s,w.cell? ⟨g,i,none⟩≠some (.string s))/\∀b,b≠g->S b=true->b<w.heap.size->S' b=true/\w'.heap[b]?=w.heap[b]?
theorem aO.Xx{w w':World}{g:Nat}{v:Value}{t:T}(h:aO w v t)(j:∀i s,w.cell? ⟨g,i,none⟩≠some (.string s))(a:∀p:Addr,p.block≠g->(w.cell? p).isSome=true->w'.cell? p=w.cell? p):aO w' v t:=by
 induction h with
 |mk k s A cap c U l m n o hA hU q=>
  refine .mk k s A cap c U l m n o ?_ q;rcases hA with hA|⟨b,off,e,d⟩;·exact .inl hA
  ·rcases dE c.length with h0|h0;·exact .inl h0
   ·have hb:b≠g:=λe=>by
     obtain⟨_,c1,_⟩:=d 0 h0;obtain⟨_,r,_⟩:=(hU 0 h0).view;rw[r,e]at c1;exact j _ _ c1
    refine .inr ⟨b,off,e,λi hi=>?_⟩;obtain⟨f,c1,c2⟩:=d i hi;exact⟨(a ⟨b,off+i*3,none⟩ hb (by rw[f];rfl)).t f,(a ⟨b,off+i*3+1,none⟩ hb (by rw[c1];rfl)).t c1,(a ⟨b,off+i*3+2,none⟩ hb (by rw[c2];rfl)).t c2⟩
section
variable {S S':Nat->Bool} {w w':World} {g:Nat}
theorem bN.WV{v:Value}{t:T}(h:bN S w v t)(k:Yl S S' w w' g):bN S' w' v t:=
 aO.Xx (g:=g) h (λi s a=>by
  rw[fM]at a;split at a;·exact k.1 i s a
  ·cases a) λp c b=>by
  rw[fM]at b;rw[fM,fM];split at b
  ·rename_i hS;obtain⟨v,d⟩:=eO.1 b;obtain⟨a,e⟩:=k.2 _ c hS (eP w p d);rw[aI hS,aI a];exact dD e
  ·cases b
theorem jK.WV{α:Type}{E:El α}(r:Nat)(m:∀{S w xs a},E.gq S w xs a->∃s,xs[r]?=some (.string s))(n:∀{xs a},E.gq S w xs a->E.gq S' w' xs a){v:Value}{L:List α}(h:jK E S w v L)(k:Yl S S' w w' g):jK E S' w' v L:=by
 obtain⟨A,cap,rfl,p,q,t⟩:=h;refine⟨A,cap,rfl,p,q,?_⟩;rcases t with h0|⟨b,o,dG,rfl,hS,d,f⟩;·exact .inl h0
 ·rcases dE L.length with h0|h0;·exact .inl h0
  ·have hi:0<dG.length:=(by rw[d.1];exact h0);obtain⟨s,hs0⟩:=m (d.2 0 hi h0);have x:r<E.size:=(by rw[<-E.len (d.2 0 hi h0)];exact(bg.1 hs0).1);have f1:=d.flat (E:=E) hi (r:=r) x;rw[hs0]at f1;have c1:=f _ _ f1;have y:b≠g:=λe=>(by subst e;exact k.1 _ _ c1);have l:=k.2 b y hS (eP w _ c1);exact .inr ⟨b,o,dG,rfl,l.1,⟨d.1,λi a c=>n (d.2 i a c)⟩,λj u hu=>(dD l.2).t (f j u hu)⟩
theorem jK.YD{v:Value}{L:List T}(h:jK oC S w v L)(k:Yl S S' w w' g):jK oC S' w' v L:=
 jK.WV (E:=oC) 1 (λ⟨_,_,e,_⟩=>by rw[e];exact⟨_,rfl⟩) (λ⟨A,c,e,h⟩=>⟨A,c,e,h.WV k⟩) h k
theorem jK.Zl{v:Value}{L:List Bd}(h:jK NN S w v L)(k:Yl S S' w w' g):jK NN S' w' v L:=
 jK.WV (E:=NN) 0 (λ⟨_,_,e,_⟩=>by rw[e];exact⟨_,rfl⟩) (λ⟨A,c,e,h,h'⟩=>⟨A,c,e,h.WV k,h'⟩) h k
theorem jK.Zm{v:Value}{L:List oF}(h:jK CG S w v L)(k:Yl S S' w w' g):jK CG S' w' v L:=
 jK.WV (E:=CG) 2 (λ⟨_,_,_,e,_⟩=>by rw[e];exact⟨_,rfl⟩) (λ⟨h',A,c,e,h⟩=>⟨h',A,c,e,h.WV k⟩) h k
theorem Cb.WV{v:Value}{L:List Bd}(h:Cb S w v L)(k:Yl S S' w w' g):Cb S' w' v L:=by
 rcases h with h|⟨h0,h⟩;·exact .inl h
 ·exact .inr ⟨h0,h.Zl k⟩
theorem Cb.ag{v:Value}{L:List Bd}(h:Cb S w v L)(hb:Below w.heap.size w w'):Cb S w' v L:=h.aR λb hS a=>⟨hS,hb.block b a⟩
end
end
section
open Go.RowKit T
attribute [local go_sem ↓] Go.wp_at_zero Go.wp_at_succ
def WX(pat:T)(NM:List ByteArray)(P:List T)(v:ByteArray)(vs:List ByteArray)(L:List Bd)(p:T):List T:=if aT.oL NM v=true/\p.aC≠1 then [] else aT.fills pat NM P vs (L++[⟨v,p⟩])
theorem Ot(pat:T)(NM:List ByteArray)(P:List T)(v:ByteArray)(vs:List ByteArray)(L:List Bd):aT.fills pat NM P (v::vs) L=P.flatMap (WX pat NM P v vs L):=rfl
theorem QZ(f:T->List T)(P:List T)(j:Nat)(h:j<P.length):(P.take (j+1)).flatMap f=(P.take j).flatMap f++f P[j]:=by
 rw[aV h,jw];simp
theorem Kj(f:T->List T)(P:List T)(j:Nat):((P.take j).flatMap f).length<=(P.flatMap f).length:=by
 have:P.flatMap f=(P.take j).flatMap f++(P.drop j).flatMap f:=(by rw[<-jw,ku]);rw[this,aF];omega
theorem WW{S:Nat->Bool}{w3 w':World}{v:ByteArray}{p:T}{A':Option Addr}{a:Nat}{r:Option Nat}(c:bN S w3 (.agg #[.int .i64 p.aC,.string p.aJ,.slice A' p.ay.length a]) p)(d:v.size<=maxLen)(f:∀k,r=some k->w3.heap.size<=k)(g:∀b,b<w3.heap.size->w'.heap[b]?=w3.heap[b]?):
 NN.gq (off S r) w' [.string v,.int .i64 p.aC,.string p.aJ,.slice A' p.ay.length a] ⟨v,p⟩:=
 ⟨A',a,rfl,c.aR λb hb h=>⟨dX.2 ⟨hb,λe=>by have:=f b e;omega⟩,g b h⟩,d⟩
theorem gV.weak{α:Type}{E:El α}{S:Nat->Bool}{B a:Nat}{w:World}{v:Value}{L:List α}(h:gV E S B w v L)(hb:a<=B):gV E S a w v L:=by
 obtain⟨dG,b,c,d⟩:=h;exact⟨dG,b,c,d.imp id λ⟨g,cap,f,e,i,j⟩=>⟨g,cap,f,e,aD hb i,j⟩⟩
theorem XU{U K:List T}(hU:yA U)(bZ:∀t∈U,t.bC<=1048576)(d:∀t∈K,t.use=true)(cu:K.length<=1000){pat:T}{b:List Bd}{NM:List ByteArray}{pA:Option Addr}{pc:Nat}{bv pv:Value}{B h Mn Mm g M:Nat}
 (hL:b.length<=800000) (cz:∀y∈b,y.t.bC<=20000) (aH:pat.bC<=1048576) (bP:∀p∈aT.parts K,p.bC<=20000):∀(vs:List ByteArray) (L:List Bd) (vv ai:Value) (w:World) (D vp fv:Value) (W:List fC) (x:K5),
 Ce pat b (aT.parts K) NM pA pc bv pv B h Mn Mm g M w D vp fv W x->Gl U K W->jK SB (nh h Mn Mm g M D vp fv) w vv vs->Cb (nh h Mn Mm g M D vp fv) w ai L->L.length+vs.length<=900000->(∀y∈L,y.t.bC<=20000)->
 (∀t∈aT.fills pat NM (aT.parts K) vs L,(t.use=true->t∈U)/\t.bC<=1048576)->x.met.length+(aT.fills pat NM (aT.parts K) vs L).length<=1000000->x.gW.length+(aT.fills pat NM (aT.parts K) vs L).length<=1000000->
 Calls Tryz.prog 116 #[.pointer (some ⟨h,0,none⟩),vv,ai] w λe w'=>e=.returned (.tuple #[])/\Yo pat b (aT.parts K) NM pA pc bv pv B h Mn Mm g M U K w D vp fv ((aT.fills pat NM (aT.parts K) vs L).foldl (aT.offer pat b (aT.parts K)) x) w':=by
 intro vs;induction vs with
 |nil=>
  intro L vv ai w D vp fv W x k hW hv bq bQ bz V X Y;obtain⟨A,cap,rfl,_,_⟩:=hv.shape;have dM:aT.fills pat NM (aT.parts K) [] L=(kz pat L).toList:=rfl;rw[dM]at V X Y⊢;have HF:=aa (P7 pat L (.agg #[.int .i64 pat.aC,.string pat.aJ,.slice pA pat.ay.length pc]) ai w k.IW.at bq.at bz aH);have c0:=k.box.cell 0 (u:=.int .i64 pat.aC) rfl;have c1:=k.box.cell 1 (u:=.string pat.aJ) rfl;have c2:=k.box.cell 2 (u:=.slice pA pat.ay.length pc) rfl;obtain⟨H,HW⟩:=ZQ k hW;have fA:=aa (λt v w x vs vp fv W (k:Ce pat b (aT.parts K) NM pA pc bv pv B h Mn Mm g M w vs vp fv W x) hW ht h1 I h3 h4=>Um (vs:=vs) (vp:=vp) (fv:=fv) (W:=W) (x:=x) hU bZ d cu (by omega) (λy hy=>aD (cz y hy) (by decide)) aH t v w k hW ht h1 I h3 h4);obtain⟨fr,aK⟩:∃r,kz pat L=r:=⟨_,rfl⟩;rw[aK]at V X Y HF⊢;obtain⟨bR,bS⟩:=ZQ V (And.intro X Y);clear hv bq bQ bz V X Y dM aK k hW hU bZ d cu cz aH bP;go_enter Tryz.func116,Tryz.ntmps116;go_wp2_with fail;cases fr with
  |none=>
   refine HF.o.m ?_;rintro e N ⟨aM,he⟩;obtain⟨A3,C3,rfl⟩:=(show ∃A c,e=.returned (.tuple #[.agg #[.int .i64 0,.string ⟨#[]⟩,.slice A 0 c],.bool false])from he);have s:=af N (.cells #[.int .i64 0,.string ⟨#[]⟩,.slice A3 0 C3] 29);have HB:=aa (aM.t (s.m aM.size));clear he aM s c0 c1 c2;go_upto_region 2 with fail;generalize N.alloc (.cells #[.int .i64 0,.string ⟨#[]⟩,.slice A3 0 C3] 29)=w3 at HB⊢;go_wp2_with fail;refine bG (v:=.tuple #[]) (by simp[results,Tryz.results116,go_sem]) rfl ?_;exact⟨rfl,D,vp,fv,W,HW.o,H.o.ag HB.o,(FE.refl _ _ _ _ _ _ _ _ _ _).ag H.o.lt HB.o⟩
  |some u=>
   refine HF.o.m ?_;rintro e N ⟨aM,he⟩;obtain⟨A3,C3,rfl,dN⟩:=(show ∃A c,e=.returned (.tuple #[.agg #[.int .i64 u.aC,.string u.aJ,.slice A u.ay.length c],.bool true])/\bN (eG w.heap.size) N (.agg #[.int .i64 u.aC,.string u.aJ,.slice A u.ay.length c]) u from he);have s:=af N (.cells #[.int .i64 u.aC,.string u.aJ,.slice A3 u.ay.length C3] 29);have bx:=jM.new N (.int .i64 u.aC) (.string u.aJ) (.slice A3 u.ay.length C3);obtain⟨HB,HT⟩:=ZQ (aM.t (s.m aM.size)) (dN.aR (S':=nb B h Mn Mm g M D vp fv) λq aW hl=>⟨xz.2 ⟨H.o.new (ax aW),aD H.o.lt (ax aW)⟩,s.block q hl⟩);clear he aM s c0 c1 c2 dN;go_upto_region 2 with fail;generalize N.alloc (.cells #[.int .i64 u.aC,.string u.aJ,.slice A3 u.ay.length C3] 29)=w3 at HB HT bx⊢;obtain⟨y0,y1,y2⟩:=bx.cells;have hu:=bR.o u (by simp);have G:=aa (fA.o u _ w3 x D vp fv W (H.o.ag HB.o) HW.o HT.o hu.2 hu.1 (by have:=bS.o.1;omega) (by have:=bS.o.2;omega));clear bx hu;go_wp2_with fail;refine G.o.m ?_;rintro e w4 ⟨rfl,aZ⟩;have fB:=aa (Yo.step ((FE.refl _ _ _ _ _ _ _ _ _ _).ag H.o.lt HB.o) aZ);clear aZ y0 y1 y2 G;go_wp2_with fail;refine bG (v:=.tuple #[]) (by simp[results,Tryz.results116,go_sem]) rfl ?_;exact⟨rfl,fB.o⟩
 |cons v vs ih=>
  intro L vv ai w D vp fv W x k hW hv bq bQ bz V X Y;obtain⟨i0,dO,dQ,dR,dS⟩:=dV Tryz.ES;obtain⟨A,cap,rfl,dU,fU⟩:=hv.shape;obtain⟨fD,fF,bf,dW⟩:∃c A,pv=.slice A (aT.parts K).length c/\(aT.parts K).length<=9223372036854775807:=(by obtain⟨A,c,e,h1,I⟩:=k.prt.shape;exact⟨c,A,e,by unfold maxLen at I;omega⟩);obtain⟨b1,o1,rfl,Z,cB⟩:=hv.gL (i:=0) (by simp);rw[fE]at Z;simp only[dw]at Z cB;rw[Ot]at V X Y⊢;have cK:=λL vv ai w D vp fv W x=>ih L vv ai w D vp fv W x;obtain⟨F,hF⟩:∃F,WX pat NM (aT.parts K) v vs L=F:=⟨_,rfl⟩;have cO:∀p,F p=if aT.oL NM v=true/\p.aC≠1 then [] else aT.fills pat NM (aT.parts K) vs (L++[⟨v,p⟩]):=λp=>by rw[<-hF];rfl
  rw[hF]at V X Y⊢;have c5:=k.box.cell 5 (u:=pv) rfl;have dX:=aa (λ(w':World) (f l o:Value) (Wj:List fC) (J:K5) (k:Ce pat b (aT.parts K) NM pA pc bv pv B h Mn Mm g M w' f l o Wj J)=>(show jK oC (nh h Mn Mm g M f l o) w' (.slice fF (aT.parts K).length fD) (aT.parts K)from by have:=k.prt;rw[bf]at this;exact this.aR λq s _=>⟨(xz.1 s).1,rfl⟩));obtain⟨P,hP⟩:∃P,aT.parts K=P:=⟨_,rfl⟩;rw[hP]at k V X Y bf cO cK bP dX dW⊢;obtain⟨n,hn⟩:∃n,P.length=n:=⟨_,rfl⟩;obtain⟨H,HW,HV,fG,dY,d9,bR,bS,HN⟩:=ZY k hW hv bq cK cO V (And.intro X Y) hn;obtain⟨fH,ed,cZ,df⟩:=ZT bP bz bQ cB;rw[hn]at bf dW;rw[bf]at c5;have fV:=aa bf;rw[bu]at HV dU⊢;obtain⟨m,hm⟩:∃m,vs.length=m:=⟨_,rfl⟩;have HM:=aa hm;rw[hm]at HV dU⊢;have ek:¬(m:Int)+1=0:=(by omega);clear k hW hv bq cK cO V X Y hn bP ih hF hP bz bQ cB hU bZ d cu cz aH hL hm bf;go_enter Tryz.func116,Tryz.ntmps116;go_wp2_with fail;rw[show((m:Int)+1==0)=false from by rw[aB];exact ek];clear c5 Z ek;go_loopw [31] (λiv wr=>∃(j:Nat) (J:K5) (Wj:List fC) (f l o:Value),j<=n/\iv=.int .i64 j/\Gl U K Wj/\Ce pat b P NM pA pc bv pv B h Mn Mm g M wr f l o Wj J/\FE B h Mn Mm g M w D vp fv wr f l o/\J=((P.take j).flatMap F).foldl (aT.offer pat b P) x) (λiv _=>n-(intOf iv).toNat);case atStart=>exact⟨0,x,W,D,vp,fv,aL _,rfl,HW.o,H.o,FE.refl _ _ _ _ _ _ _ _ _ _,by simp⟩
  case round=>
   obtain⟨j,J,Wj,f,l,o,hj,rfl,bT,O,aK,bg⟩:=hrel;by_cases dh:j<n
   ·have bA:j<P.length:=(by rw[HN.o];exact dh);have eu:=dX.o wr f l o Wj J O;obtain⟨b2,o2,cs,hA,⟨Q,c',rfl,hx⟩,hc⟩:=eu.get bA;subst hA;have d0:=hc 0 _ rfl;have d1:=hc 1 _ rfl;have d2:=hc 2 _ rfl;have eB:oC.size=3:=rfl;rw[eB]at d0 d1 d2;rw[fE]at d0;rw[<-iw]at d1 d2;have aH:=fH.o _ (aN bA);have bU:=QZ F P j bA;have eD:=Kj F P (j+1);have dm:∀t∈F (P[j]),t∈P.flatMap F:=λt ht=>oW.2 ⟨_,aN bA,ht⟩;obtain⟨p,hp⟩:∃p,P[j]=p:=⟨_,rfl⟩;rw[hp]at d0 d1 d2 hx aH bU dm;obtain⟨eH,eO⟩:=Bh (pat:=pat) (b:=b) (P:=P) ((P.take j).flatMap F) x;rw[<-bg]at eH eO;rw[bU,aF]at eD;have fI:=bS.o;have bV:=aa (show J.met.length+(F p).length<=1000000/\J.gW.length+(F p).length<=1000000 from⟨by omega,by omega⟩);have dx:=aa (show(F p).foldl (aT.offer pat b P) J=((P.take (j+1)).flatMap F).foldl (aT.offer pat b P) x from by rw[bU,kQ,bg]);have s:=af wr (.cells #[.int .i64 p.aC,.string p.aJ,.slice Q p.ay.length c'] 29);have bx:=jM.new wr (.int .i64 p.aC) (.string p.aJ) (.slice Q p.ay.length c');have hB:=H.o.lt;obtain⟨bW,bX,eP,HG,bi,eQ,eT⟩:=ZW (O.ag s) (aK.ag hB s) (hx.aR (S':=nh h Mn Mm g M f l o) λq aW hl=>⟨aW,s.block q hl⟩) bT dh dm aH;have hi:(j:Int)<(n:Int):=(by omega);clear hx hc eu hp aH bU eD dm eH eO bg fI O aK bT s hB eB bA hj dh;go_upto_region 7 with fail;generalize wr.alloc (.cells #[.int .i64 p.aC,.string p.aJ,.slice Q p.ay.length c'] 29)=N at bx bW bX eP⊢;generalize wr.heap.size=gT at bx⊢;clear d0 d1 d2;have BX:=aa bx;obtain⟨y0,y1,y2⟩:=bx.cells;have dA:=aa (HV.o.aR (S':=nh h Mn Mm g M f l o) bX.o.aR);obtain⟨_,_,e9,Z,_⟩:=dA.o.gL (i:=0) (by simp);injection e9 with e9;injection e9 with fJ fK _;subst fJ;subst fK;rw[fE]at Z;simp only[dw]at Z;have dB:=λnq=>(bW.o.ag (vL nq (az _ _))).names.look v df.o;have c6:=bW.o.box.cell 6 (u:=.map (some Mn)) rfl;clear bx;obtain⟨nv,dC⟩:∃q,aT.oL NM v=q:=⟨_,rfl⟩;rw[dC]at dB;have eU:=aa dC;clear dC;have fZ:=aa Z;obtain⟨sk,bn⟩:∃sk:Bool,sk=decide (nv=true/\p.aC≠1):=⟨_,rfl⟩;go_cut [47]from 35 to 47 (λpv wc=>pv=.bool sk/\Below N.heap.size N wc)
    case first=>
     have eX:=aa bn;clear bn;cases nv with
     |false=>
      go_quiet (fail);go_wp2_with fail;go_meet;exact⟨by rw[eX.o];simp,vL nq (az _ _)⟩
     |true=>
      obtain⟨kb,fM⟩:∃kb,(p.aC != 1)=kb:=⟨_,rfl⟩;have fO:=aa (show sk=kb by rw[eX.o,<-fM];by_cases h:p.aC=1<;>simp[h]);go_quiet (fail);go_wp2_with fail;go_meet;exact⟨by rw[fO.o],vL nq (az _ _)⟩
    case rest=>
     obtain⟨rfl,R⟩:=hcut;rename World=>w3;obtain⟨bB,dD⟩:=ZQ (bW.o.ag R) (bX.o.ag H.o.lt R);cases sk with
     |true=>
      obtain⟨h1,I⟩:=ax bn.symm;have z:=aa (show F p=[]from by rw[d9.o,aI ⟨eU.o.t h1,I⟩]);clear h1 I bn y0 y1 y2 Z dB c6 R;go_wp2_with fail;go_roundw;case rel=>exact⟨j+1,J,Wj,f,l,o,bi.o,by go_num,HG.o,bB.o,dD.o,by rw[<-dx.o,z.o];rfl⟩
      case measure=>have:=bi.o;simp[intOf];omega
     |false=>
      have eY:=nN bn.symm;have z:=aa (show F p=aT.fills pat NM P vs (L++[⟨v,p⟩])from by rw[d9.o,aG (by rw[eU.o];exact eY)]);obtain⟨As,gm,eZ⟩:∃Q:Option Addr,(if cap=1 then some (⟨b1,o1,none⟩:Addr) else some ⟨b1,o1+1,none⟩)=Q/\jK SB (nh h Mn Mm g M f l o) N (.slice Q m (cap-1)) vs:=by
       by_cases bY:cap=1
       ·refine⟨_,aI bY,?_⟩;have:=dA.o;rw[bY]at this;have I:=this.Y8 (some ⟨b1,o1,none⟩);rw[jI]at I;rw[bY];exact I
       ·refine⟨_,aG bY,?_⟩;have I:=dA.o.Y9;rw[jI]at I;exact I
      obtain⟨fe,fo,fq⟩:=ZR (eZ.ag R) (((fG.o.aR (S':=nh h Mn Mm g M f l o) bX.o.aR).ag R)) (eP.o.aR (S':=nh h Mn Mm g M f l o) λq aW hl=>⟨aW,R.block q hl⟩);have gp:L.length<=900000:=(by have:=cZ.o;omega);have gq:1<=cap:=(by omega);obtain⟨u0,u1,u2,fu⟩:=Z4 R y0 y1 y2 Z;have fw:=aa (CR v p Q c');have gu:(1:Int)<=(m:Int)+1:=(by omega);clear y0 y1 y2 Z R eZ dB c6 eY bn;go_wp2_with fail;go_upto_region 8 with fail;have G:=aa (show w3.cell? ⟨gT,0,none⟩=some (.int .i64 p.aC)/\w3.cell? ⟨gT,1,none⟩=some (.string p.aJ)/\w3.cell? ⟨gT,2,none⟩=some (.slice Q p.ay.length c')/\w3.cell? ⟨b1,o1,none⟩=some (.string v)/\Below w3.heap.size w3 w3 from⟨u0,u1,u2,fu,az _ _⟩);clear u0 u1 u2 fu;refine gI (S:=(λWq=>Wq.cell? ⟨gT,0,none⟩=some (.int .i64 p.aC)/\Wq.cell? ⟨gT,1,none⟩=some (.string p.aJ)/\Wq.cell? ⟨gT,2,none⟩=some (.slice Q p.ay.length c')/\Wq.cell? ⟨b1,o1,none⟩=some (.string v)/\Below w3.heap.size w3 Wq)) (λi=>if [11,12].contains i then 2 else if [0,1,2].contains i then 1 else 0) (by kernel_rfl) (show _/\_/\_/\_/\_ from⟨G.o.1,G.o.2.1,G.o.2.2.1,G.o.2.2.2.1,(az _ w3).drew⟩) (λhHeld=>?_);refine Za 0 _ ?_;refine Za 1 _ ?_;refine Za 2 _ ?_;refine gG 3 _ ?_;refine gG 5 _ ?_;refine gG 6 _ ?_;refine gG 7 _ ?_;refine gG 8 _ ?_;refine gG 9 _ ?_;refine iN (rs:=[4,10]) (by kernel_rfl) (by simp) (Vk 4 (λK d=>?_) ((Vk 10 (λK d=>?_) (gY.nil))))
      ·
       (go_simp;go_at_call 149;refine(MP (nh h Mn Mm g M f l o) L ai _ (fo.o.ag hHeld.2.2.2.2) (by omega)).m ?_;rintro e w4 ⟨A2,c2,rfl,bD,bE⟩;obtain⟨dG,bF,bH⟩:=bD.weak hHeld.2.2.2.2.size;obtain⟨dE,av⟩:=ZQ bF bH;clear bD bF bH;(try replace aO:=aa (aO.o.ag bE));refine mH d (gX G.o (hHeld.2.2.2.2.t (bE.m hHeld.2.2.2.2.size))) λhHeld=>?_;clear d K);refine x8 10 λK d=>?_;(go_simp;(first|refine yS d (gX G.o (jL hHeld.2.2.2.2 _)) λg9 C aP aQ=>?_|refine rP d (gX G.o (jq hHeld.2.2.2.2 _)) λg9 C aP aQ=>?_);have fP:=aa (show w3.heap.size<=g9 by rw[<-C];exact hHeld.2.2.2.2.size);replace hHeld:=aQ;have aO:=aa aP;(first|rw[C]|(change w3.heap.size=g9 at C;subst C));(try have fQ:=aa C);(try clear C);clear d K aP aQ);refine yh 11 λK d=>?_;((refine dZ _ (by rfl) _ _ _ (by rfl) w3.heap.size 132 i0 _ 4 64 fT dO dQ dR dS rfl (by omega) _ L.length _ (by rfl) (by first|exact dz av.o (af _ _)|exact av.o) ⟨_,0,none⟩ 1 1 [.string v,.int .i64 p.aC,.string p.aJ,.slice Q p.ay.length c'] (by rfl) (by rfl) (di aO.o) fw.o (by omega) (by unfold maxLen;omega) (by omega) hHeld.2.2.2.2.size _ rfl ?_;intro g4 dF w5 bI aS O dH;have bJ:=gV.push (E:=NN) (S:=nh h Mn Mm g M f l o) (w:=w4) (a:=⟨v,p⟩) dE.o rfl (by first|exact λb hb=>(af w4 _).block b hb|exact λ_ _=>rfl) (WW fq.o df.o (λk e=>(av.o.lt k e).1) (λb hl=>hHeld.2.2.2.2.block b hl)) bI aS (O.imp (λe=>e.symm) (λe=>by rw[e];rfl));have aA:Below w3.heap.size w3 w5:=hHeld.2.2.2.2.grown aS hHeld.2.2.2.2.size (λk e=>(av.o.lt k e).1);have bK:Cb (nh h Mn Mm g M f l o) w5 (.slice (some ⟨g4,0,none⟩) (L.length+1) dF) (L++[⟨v,p⟩]):=.inr ⟨by simp,bJ.Hg (λ_ h=>h) (λq s=>bB.o.new s)⟩;clear bJ bI aS O dH;go_simp);refine rW d ?_;clear d K);refine yh 12 λK d=>?_;((go_simp;go_at_call 116;refine(dY.o (L++[⟨v,p⟩]) (.slice As m (cap-1)) _ w5 f l o Wj J (bB.o.ag aA) HG.o (fe.o.ag aA) bK (by have:=cZ.o;simp at this⊢;omega) (λy hy=>(aU.1 hy).elim (ed.o y) (λhy=>by rw[aX]at hy;rw[hy];exact eT.o)) (λt ht=>bR.o t (eQ.o t (by rw[z.o];exact ht))) (by have:=bV.o.1;rw[z.o]at this;exact this) (by have:=bV.o.2;rw[z.o]at this;exact this)).m ?_;rintro e w6 ⟨rfl,aZ⟩);refine rW d ?_;clear d K);refine dL (by kernel_rfl) ?_ _;obtain⟨dI,dJ,dK,W6,bL,bM,bO⟩:=aZ;have aV:=aa (And.intro bL (And.intro bM ((dD.o.ag H.o.lt aA).t bO)));clear bL bM bO bK aA hHeld;go_wp2_with fail;go_roundw;case rel=>exact⟨j+1,_,W6,dI,dJ,dK,bi.o,by go_num,aV.o.1,aV.o.2.1,aV.o.2.2,by rw[<-dx.o,z.o]⟩
       case measure=>have:=bi.o;simp[intOf];omega
      ·
       (go_simp;(first|refine yS d (gX G.o (jL hHeld.2.2.2.2 _)) λg9 C aP aQ=>?_|refine rP d (gX G.o (jq hHeld.2.2.2.2 _)) λg9 C aP aQ=>?_);have fP:=aa (show w3.heap.size<=g9 by rw[<-C];exact hHeld.2.2.2.2.size);replace hHeld:=aQ;have aO:=aa aP;(first|rw[C]|(change w3.heap.size=g9 at C;subst C));(try have fQ:=aa C);(try clear C);clear d K aP aQ);refine x8 4 λK d=>?_;(go_simp;go_at_call 149;refine(MP (nh h Mn Mm g M f l o) L ai _ (fo.o.ag hHeld.2.2.2.2) (by omega)).m ?_;rintro e w4 ⟨A2,c2,rfl,bD,bE⟩;obtain⟨dG,bF,bH⟩:=bD.weak hHeld.2.2.2.2.size;obtain⟨dE,av⟩:=ZQ bF bH;clear bD bF bH;(try replace aO:=aa (aO.o.ag bE));refine mH d (gX G.o (hHeld.2.2.2.2.t (bE.m hHeld.2.2.2.2.size))) λhHeld=>?_;clear d K);refine yh 11 λK d=>?_;((refine dZ _ (by rfl) _ _ _ (by rfl) w3.heap.size 132 i0 _ 4 64 fT dO dQ dR dS rfl (by omega) _ L.length _ (by rfl) (by first|exact dz av.o (af _ _)|exact av.o) ⟨_,0,none⟩ 1 1 [.string v,.int .i64 p.aC,.string p.aJ,.slice Q p.ay.length c'] (by rfl) (by rfl) (di aO.o) fw.o (by omega) (by unfold maxLen;omega) (by omega) hHeld.2.2.2.2.size _ rfl ?_;intro g4 dF w5 bI aS O dH;have bJ:=gV.push (E:=NN) (S:=nh h Mn Mm g M f l o) (w:=w4) (a:=⟨v,p⟩) dE.o rfl (by first|exact λb hb=>(af w4 _).block b hb|exact λ_ _=>rfl) (WW fq.o df.o (λk e=>(av.o.lt k e).1) (λb hl=>hHeld.2.2.2.2.block b hl)) bI aS (O.imp (λe=>e.symm) (λe=>by rw[e];rfl));have aA:Below w3.heap.size w3 w5:=hHeld.2.2.2.2.grown aS hHeld.2.2.2.2.size (λk e=>(av.o.lt k e).1);have bK:Cb (nh h Mn Mm g M f l o) w5 (.slice (some ⟨g4,0,none⟩) (L.length+1) dF) (L++[⟨v,p⟩]):=.inr ⟨by simp,bJ.Hg (λ_ h=>h) (λq s=>bB.o.new s)⟩;clear bJ bI aS O dH;go_simp);refine rW d ?_;clear d K);refine yh 12 λK d=>?_;((go_simp;go_at_call 116;refine(dY.o (L++[⟨v,p⟩]) (.slice As m (cap-1)) _ w5 f l o Wj J (bB.o.ag aA) HG.o (fe.o.ag aA) bK (by have:=cZ.o;simp at this⊢;omega) (λy hy=>(aU.1 hy).elim (ed.o y) (λhy=>by rw[aX]at hy;rw[hy];exact eT.o)) (λt ht=>bR.o t (eQ.o t (by rw[z.o];exact ht))) (by have:=bV.o.1;rw[z.o]at this;exact this) (by have:=bV.o.2;rw[z.o]at this;exact this)).m ?_;rintro e w6 ⟨rfl,aZ⟩);refine rW d ?_;clear d K);refine dL (by kernel_rfl) ?_ _;obtain⟨dI,dJ,dK,W6,bL,bM,bO⟩:=aZ;have aV:=aa (And.intro bL (And.intro bM ((dD.o.ag H.o.lt aA).t bO)));clear bL bM bO bK aA hHeld;go_wp2_with fail;go_roundw;case rel=>exact⟨j+1,_,W6,dI,dJ,dK,bi.o,by go_num,aV.o.1,aV.o.2.1,aV.o.2.2,by rw[<-dx.o,z.o]⟩
       case measure=>have:=bi.o;simp[intOf];omega
   ·obtain rfl:j=n:=(by omega);rw[aY (by rw[HN.o];exact ak _)]at bg;have hi:¬(j:Int)<(j:Int):=(by omega);have z:=aa (And.intro bT (And.intro O (And.intro aK bg)));clear bT O aK bg;go_wp2_with fail;go_end0;exact⟨rfl,f,l,o,Wj,z.o.1,by rw[<-z.o.2.2.2];exact z.o.2.1,z.o.2.2.1⟩
end
section
def RU(a hi:Nat):Nat->Bool:=λb=>decide (a<=b/\b<hi)
theorem jX{a hi b:Nat}:RU a hi b=true<->a<=b/\b<hi:=by unfold RU;exact vN
end
section
open Go.RowKit T
attribute [local go_sem ↓] Go.wp_at_zero Go.wp_at_succ
theorem Pg(x s:ByteArray):(x.toList==s.toList)=decide (x=s):=by
 by_cases h:x=s;·subst h;simp
 ·rw[dh h];exact aB.2 λe=>h (Gw e)
theorem UQ(x s:ByteArray)(k:Int)(nm:ByteArray)(a:Value)(q:Nat)(w:World)(d:w.cell? ⟨q,0,none⟩=some (.string s)):
 Calls Tryz.prog 115 #[.agg #[.string x,.int .i64 k,.string nm,a],.pointer (some ⟨q,0,none⟩)] w λe w'=>e=.returned (.bool (decide (x=s)))/\Below w.heap.size w w':=by
 have b:=af w (.cells #[.string x,.int .i64 k,.string nm,a] 132);have f:(w.alloc (.cells #[.string x,.int .i64 k,.string nm,a] 132)).cell? ⟨w.heap.size,0,none⟩=some (.string x):=by
  have g:=bO w (.cells #[.string x,.int .i64 k,.string nm,a] 132);unfold World.cell?;rw[g];rfl
 have h:=ae b d;have c:=aa b;clear b;go_enter Tryz.func115,Tryz.ntmps115;go_upto_region 1 with fail;generalize w.alloc (.cells #[.string x,.int .i64 k,.string nm,a] 132)=i at f h c⊢;go_wp2_with fail;go_ret;exact⟨cZ (Pg x s),c.o⟩
theorem QA{L:List Bd}{s:ByteArray}(h:∀m (c:m<L.length),L[m].var≠s):(L.any λy=>decide (y.var=s))=false:=by
 rw[fQ];intro x a;obtain⟨m,b,rfl⟩:=bI a;simpa using h m b
theorem L6(L:List Bd)(v:Value)(q:Nat)(s:ByteArray)(w:World)(k:gu w v L)(H:w.cell? ⟨q,0,none⟩=some (.string s))(T:L.length<=1000000):
 Calls Tryz.prog 148 #[v,.func (.func 115) #[] #[.pointer (some ⟨q,0,none⟩)]] w λe w'=>∃z:Int,e=.returned (.int .i64 z)/\((0<=z/\(L.any λy=>decide (y.var=s))=true)\/(z<0/\(L.any λy=>decide (y.var=s))=false))/\Below w.heap.size w w':=by
 obtain⟨A,cap,rfl,U,af⟩:=k.shape;obtain⟨n,l⟩:∃n,L.length=n:=⟨_,rfl⟩;obtain⟨d,V,W⟩:=ZR l k H;rw[l]at T U⊢;clear k l H;go_enter Tryz.func148,Tryz.ntmps148;go_wp2_with fail;go_loopw [8] (λi wr=>∃j:Nat,j<=n/\i=.int .i64 j/\(∀m (h:m<j) (I:m<L.length),L[m].var≠s)/\Below w.heap.size w wr) (λi _=>n-(intOf i).toNat);case atStart=>exact⟨0,aL _,rfl,λm h=>absurd h (by omega),az _ _⟩
 case round=>
  obtain⟨j,hj,rfl,J,a⟩:=hrel;obtain⟨K,o⟩:=ZQ J a;clear J;by_cases p:j<n
  ·have M:j<L.length:=(by rw[d.o];exact p);obtain⟨b,off,B,c,rfl,u,C,D,E,X,Y⟩:=V.o.get M;obtain⟨x,F⟩:∃x,L[j]=x:=⟨_,rfl⟩;have N:=aa (show ∀h:j<L.length,L[j]'h=x from λ_=>F);rw[F]at u C D E;obtain⟨d0,d1,d2,d3⟩:=Z4 a u C D E;have hi:(j:Int)<(n:Int):=(by omega);obtain⟨f,O⟩:=ZQ p (UQ x.var s x.t.aC x.t.aJ (.slice B x.t.ay.length c) q wr (ae a W.o));obtain⟨r,G⟩:∃r,decide (x.var=s)=r:=⟨_,rfl⟩;rw[G]at O;have P:=aa G;clear a X F M hj u C D E Y p G;go_wp2_with fail;refine O.o.m ?_;rintro e w2 ⟨rfl,Q⟩;have R:=aa (o.o.t (Q.m o.o.size));clear Q;cases r
   ·go_wp2_with fail;go_roundw
    case rel=>
     refine⟨j+1,f.o,by go_num,λm h S=>?_,R.o⟩;rcases cu m j with g|g;·exact K.o m g S
     ·obtain rfl:m=j:=(by omega);rw[N.o S];exact nN P.o
    case measure=>have:=f.o;simp[intOf];omega
   ·have Z:=aa (show(L.any λy=>decide (y.var=s))=true from eU.2 ⟨L[j]'(by rw[d.o];exact f.o),aN _,by rw[N.o (by rw[d.o];exact f.o)];exact P.o⟩);go_wp2_with fail;go_ret;exact⟨_,rfl,.inl ⟨by omega,Z.o⟩,R.o⟩
  ·have hi:(n:Int)<=(j:Int):=(by omega);have HL:=aa (QA (L:=L) (s:=s) λm I=>K.o m (by have:=d.o;omega) I);clear a;go_wp2_with fail;go_ret;exact⟨_,rfl,.inr ⟨by omega,HL.o⟩,o.o⟩
theorem GD(L:List Bd)(v:Value)(q:Nat)(s:ByteArray)(w:World)(b:gu w v L)(c:w.cell? ⟨q,0,none⟩=some (.string s))(d:L.length<=1000000):
 Calls Tryz.prog 114 #[v,.func (.func 115) #[] #[.pointer (some ⟨q,0,none⟩)]] w λe w'=>e=.returned (.bool (L.any λy=>decide (y.var=s)))/\Below w.heap.size w w':=by
 have f:=aa (L6 L v q s w b c d);clear c b d;generalize(L.any λy=>decide (y.var=s))=r at f⊢;go_enter Tryz.func114,Tryz.ntmps114;go_wp2_with fail;refine f.o.m ?_;rintro e h ⟨z,rfl,a,hb⟩;have g:=aa hb;clear hb;rcases a with⟨a,rfl⟩|⟨a,rfl⟩
 ·go_wp2_with fail;go_ret;exact⟨rfl,g.o⟩
 ·go_wp2_with fail;go_ret;exact⟨cZ (dh (by omega)),g.o⟩
end
section
open Go.RowKit
variable {X:Nat->Bool}
theorem V6{B g M:Nat}{vs vp:Value}{W:List fC}(w:World)(h:gD X B w g M vs vp W)(hb:∀s∈W,s.t.bC<=1048576):
 Calls Tryz.prog 111 #[.agg #[.pointer (some ⟨g,0,none⟩)]] w λe w'=>∃A cap L,e=.returned (.slice A L.length cap)/\L.Perm (xA W W.length)/\L.Pairwise (λa b=>¬T.cmp b a<0)/\jK oC (eG w.heap.size) w' (.slice A L.length cap) L/\Below w.heap.size w w':=by
 obtain⟨i0,bf,bg,bi,bn⟩:=dV Tryz.uI;have K:=af w (.cells #[.pointer (some ⟨g,0,none⟩)] 162);have N:(w.alloc (.cells #[.pointer (some ⟨g,0,none⟩)] 162)).cell? ⟨w.heap.size,0,none⟩=some (.pointer (some ⟨g,0,none⟩)):=by
  have:=bO w (.cells #[.pointer (some ⟨g,0,none⟩)] 162);unfold World.cell?;rw[this];rfl
 obtain⟨v,O,aG⟩:=ZR (h.ag K) K hb;have bS:=h.size;obtain⟨A7,c7,A8,c8,rfl,rfl⟩:=h.shapes;clear h hb K;go_enter Tryz.func111,Tryz.ntmps111;go_upto_region 1 with fail;generalize w.alloc (.cells #[.pointer (some ⟨g,0,none⟩)] 162)=c at N v O⊢;have bq:=aa N;obtain⟨d0,d1,d2,_,_⟩:=v.o.cells;have bu:=O.o.size;have aH:=aa (show bK c c.heap.size (.slice none 0 0) (xA W 0)/\Below c.heap.size c c from⟨bK.nil _ _,az _ _⟩);go_upto_region 3 with fail;clear N d0 d1 d2;go_loopw [12,3] (λi l wr=>∃j:Nat,j<=W.length/\i=.int .i64 j/\bK wr c.heap.size l (xA W j)/\Below c.heap.size c wr) (λi _ _=>W.length-(intOf i).toNat);case atStart=>exact⟨0,aL _,rfl,aH.o.1,aH.o.2⟩
 case round=>
  obtain⟨j,hj,rfl,x,d⟩:=hrel;by_cases f:j<W.length
  ·have P:=v.o.ag d;obtain⟨bU,cp,Q,R,S,U,bv,V,Y,Z,s3,s4,hT,hN⟩:=P.Nw f;injection bv with ai _ ak;subst ai;subst ak;have aI:(0:Int)<=(j:Int)/\(j:Int)<(W.length:Int):=(by omega);obtain⟨aI,bV⟩:=aI;have bW:(j:Int)<=1048576:=(by omega);have r:=aa (UA W j f);have y:=aG.o (W[j]'(f)) (aN f);have z:=aa hT.at
   have C:=aa f;obtain⟨gp,cq,bz,D,_,_⟩:=P.Dy f;injection bz with ai _ ak;subst ai;subst ak;generalize W[j]'(f)=st at V Y Z s3 s4 z r y D;obtain⟨t,how,jv,pt⟩:=st;dsimp only at V Y Z s3 s4 z r y D;have p:=af wr (.cells #[.int .i64 t.aC,.string t.aJ,.slice Q t.ay.length R,.int .i64 (how:Int),.slice S jv.length U] 197);have bk:=xE.new wr (.int .i64 t.aC) (.string t.aJ) (.slice Q t.ay.length R) (.int .i64 (how:Int)) (.slice S jv.length U);have m:=aa (x.ag p);obtain⟨n,aM⟩:=ZQ (d.t (p.m d.size)) (z.o.ag p);have aO:=ae p D;have aP:=v.o.ag (d.t (p.m d.size));obtain⟨d0,d1,d2,_,_⟩:=aP.cells;have aS:=ae (d.t (p.m d.size)) bq.o;have bA:=aa (λv' W' hW=>wU (t.bC+1) t v' W' (by omega) hW y);clear hT hN x d P f y z;go_upto_region 5 with fail;clear V Y Z s3 s4 p D aP;generalize wr.alloc (.cells #[.int .i64 t.aC,.string t.aJ,.slice Q t.ay.length R,.int .i64 (how:Int),.slice S jv.length U] 197)=wa at bk m n aM aO d0 d1 d2 aS⊢;obtain⟨k0,k1,k2,_,_⟩:=bk.cells;clear bk;cases pt with
   |false=>
    have E:=aa (show xA W (j+1)=xA W j by rw[r.o];rfl);go_wp2_with fail;go_roundw;case rel=>exact⟨j+1,C.o,by go_num,by rw[E.o];exact m.o,n.o⟩
    case measure=>have:=C.o;simp[intOf];omega
   |true=>
    have E:=aa (show xA W (j+1)=xA W j++[t] by rw[r.o];rfl);obtain⟨xs,aT,aU⟩:=m.o.cells;obtain⟨av,HOWN,aV⟩:=ZR m.o.block aT aU;have bB:=Qk W j;generalize xA W j=L0 at HOWN aV av bB E;obtain⟨A9,c9,rfl⟩:=oO HOWN.o;clear aT aU r m;go_wp2_with fail;refine(bA.o _ _ aM.o).m ?_;rintro e w3 ⟨F,C3,rfl,aA,q⟩;have aB:=af w3 (.cells #[.int .i64 t.aC,.string t.aJ,.slice F t.ay.length C3] 29);obtain⟨bD,bE⟩:=ZQ (dz (dz HOWN.o q) aB) aA.one;have bF:c.heap.size<=(w3.alloc (.cells #[.int .i64 t.aC,.string t.aJ,.slice F t.ay.length C3] 29)).heap.size:=(by rw[aK];have:=q.size;have:=n.o.size;omega);obtain⟨bG,aW⟩:=ZQ ((λw8 A8 c8 G u H=>bK.push (base:=c.heap.size) (w3:=w8) (A8:=A8) (c8:=c8) (o:=.cells #[.int .i64 t.aC,.string t.aJ,.slice F t.ay.length C3] 29 (0,0)) aV.o (λb e=>(av.o b e).2) n.o.size q aA G u H)) (((n.o.t (q.m n.o.size)).t (aB.m (aD n.o.size q.size))));clear q aA aB k0 k1 k2 aO d0 d1 d2 aS;go_wp2_with (at_builtin;refine bT _ rfl _ _ 23 rfl c.heap.size 29 i0 _ 3 48 bM bf bg bi bn rfl (by omega) _ _ _ rfl bD.o _ 1 1 [.int .i64 t.aC,.string t.aJ,.slice F t.ay.length C3] rfl (Src.BO _ _ _ 3 rfl) bE.o (by unfold maxLen;omega) (by omega) bF ?_;intro A8 c8 w8 G u H;obtain⟨bH,bI⟩:=ZQ (bG.o _ _ _ G u H) ((aW.o.grown u aW.o.size (λk hk=>(av.o k hk).1)));clear G u H);go_roundw;case rel=>exact⟨j+1,C.o,by go_num,by rw[E.o];exact bH.o,bI.o⟩
    case measure=>have:=C.o;simp[intOf];omega
  ·obtain rfl:j=W.length:=(by omega);obtain⟨m,n⟩:=ZQ x d;have aX:=aa (show ∀t∈xA W W.length,t.bC<=1048576 from λt ht=>by
    unfold xA at ht;obtain⟨s,I,rfl⟩:=dB.1 ht;exact aG.o s (iL (fB.1 I).1))
   have bJ:=Qk W W.length;obtain⟨L0,aF⟩:∃L0,xA W W.length=L0:=⟨_,rfl⟩;rw[aF]at m aX bJ;have bL:=aa aF;clear aF;obtain⟨A9,c9,bN,_,_⟩:=m.o.shape;subst bN;clear x d f hj;go_upto_region 8 with fail;go_wp2_with fail;refine(X3 _ m.o aX.o (by omega)).m ?_;rintro e w5 ⟨rfl,L',J,I,aY,aZ⟩;obtain⟨HP,HS⟩:=ZQ J I;have bP:=aa (show jK oC (eG w.heap.size) w5 (.slice A9 L'.length c9) L' from by
    have h1:=aY.RF.list.aR (S':=eG w.heap.size) λb hb _=>⟨aQ (by have:=ax hb;omega),rfl⟩;rw[J.length_eq];exact h1)
   obtain⟨bQ,bR⟩:=ZQ ((O.o.t ((n.o.t aZ).m bu))) J.length_eq;clear J I aY aZ;go_wp2_with fail;go_ret;exact⟨A9,c9,L',by rw[bR.o];rfl,by rw[bL.o];exact HP.o,HS.o,bP.o,bQ.o⟩
end
end Go.Proofs.YtaciciokmpbkkaaGreatDoor
