import Derived.Test.YtaciciokmpbkkaaGreatDoorWebG29
import Derived.Test.YtaciciokmpbkkaaGreatDoorWebG28
set_option maxRecDepth 100000
set_option maxHeartbeats 16000000
namespace Go.Proofs.YtaciciokmpbkkaaGreatDoor
section
open Go.RowKit T
attribute [local go_sem ↓] Go.wp_at_zero Go.wp_at_succ
def xO(l:List iZ)(K:List T)(w:World)(e:Ending)(w':World):Prop:=∃v,e=.returned (.tuple #[v,.int .i64 (aT.lU l K)])/\qi mf w' v (FI l K)/\Below w.heap.size w w'
theorem xO.fail{l:List iZ}{K:List T}{w w':World}{E:Int}(a:E≠0)(h:aT.lU l K=E)(hb:Below w.heap.size w w'):xO l K w (.returned (.tuple #[.agg #[.slice none 0 0,.slice none 0 0],.int .i64 E])) w':=
 ⟨_,by rw[h],by unfold FI;rw[aG (by rw[h];exact a)];exact Qq _ _,hb⟩
theorem iy.P5{w:World}{g:Nat}{ty:TypeId}{A B:Option Addr}{n c m d:Nat}(h:iy w g ty [.slice A n c,.slice B m d]):∀i s,w.cell? ⟨g,i,none⟩≠some (.string s):=λi s e=>by
 have h':=h;unfold iy at h';unfold World.cell? at e;rw[h']at e
 match i,e with
 |0,e=>cases e
 |1,e=>cases e
 |i+2,e=>simp at e
theorem UE{w5 w8 w9:World}{g5 n3 c3 m g a c:Nat}{A3 h d:Option Addr}{L:List T}(e:iy w8 g5 35 [.slice A3 n3 c3,.slice h m g])(hb:Below w8.heap.size w8 w9)(i:gM w9 d c L)(j:L.length=a)(k:Below g5 w5 w8):
 iy (w9.setCell ⟨g5,1,none⟩ (.slice d a c)) g5 35 [.slice A3 n3 c3,.slice d a c]/\jK oC mf (w9.setCell ⟨g5,1,none⟩ (.slice d a c)) (.slice d a c) L/\Below g5 w5 (w9.setCell ⟨g5,1,none⟩ (.slice d a c)):=by
 have f:=e.ag hb;subst j;refine⟨f.set 1 _,i.Hg.YD ⟨f.P5,λb l _ _=>⟨rfl,aM _ _ _ _ l⟩⟩,(k.t (hb.m ?_)).setCell (ak _) _⟩;have:=e.lt;omega
theorem Wt{l:List iZ}{K:List T}{w w4 wr:World}{g3 g5 i z c:Nat}{A:Option Addr}(a:l.length=i)(f:(mG (K.filter T.use)).length=z)(d:aT.lU l K=0)(g:jK Cz (eG g3) w4 (.slice (some ⟨g3,0,none⟩) i i) (List.replicate i ⟨0,[]⟩))(p:w4.heap.size=g5)(q:w.heap.size<g3)
 (h:Below g5 w4 wr) (j:jK oC mf wr (.slice A z c) (mG (K.filter T.use))) (k:iy wr w.heap.size 35 [.slice none 0 0,.slice none 0 0]) (hb:Below w.heap.size w wr):
 xO l K w (.returned (.tuple #[.agg #[.slice (some ⟨g3,0,none⟩) i i,.slice A z c],.int .i64 0])) ((wr.setCell ⟨w.heap.size,0,none⟩ (.slice (some ⟨g3,0,none⟩) i i)).setCell ⟨w.heap.size,1,none⟩ (.slice A z c)):=by
 refine⟨_,by rw[d],?_,qm hb (ak _) _ _⟩;unfold FI;rw[aI d];have m:(aT.jV l K).aS.length=i:=(by unfold aT.jV;rw[df];exact a);have e:(aT.jV l K).bH.length=z:=f;have n:(aT.jV l K).aS=List.replicate i ⟨0,[]⟩:=(by unfold aT.jV;simp only[];rw[List.map_const',a]);refine⟨_,_,_,_,by rw[m,e],?_,?_⟩
 ·rw[n,r9];refine g.aR λb hb r=>?_;have s:=ax hb;exact⟨rfl,(oQ _ _ _ _ _ (by omega)).t (h.block b (by omega))⟩
 ·rw[e];exact j.YD ⟨k.P5,λb o _ _=>⟨rfl,oQ _ _ _ _ _ o⟩⟩
theorem Yb(l:List iZ)(K:List T)(vs:Value)(A:Option Addr)(cap:Nat)(w:World)(hs:yu w vs l)(H:gM w A cap K)(bY:∀x∈l,x.1.size<=maxLen/\x.2.length<=maxLen/\∀m∈x.2,m.2.bC<=1048576)
 (dY:aT.moves l<=1048576) (dZ:l.length<=1048576) (bZ:∀t∈K,t.bC<=1048576) (d9:K.length<=1048576):
 Calls Tryz.prog 12 #[vs,.slice A K.length cap] w (xO l K w):=by
 obtain⟨As,cs,rfl,cu,ed,fJ⟩:=hs;obtain⟨ek,eu,eB⟩:=ZR (Ji (l:=l) (K:=K)) (Jh (l:=l) (K:=K)) (λ(E:Int) (w':World) (hE:E≠0) (h:aT.lU l K=E) (hb:Below w.heap.size w w')=>xO.fail (w:=w) (w':=w') hE h hb);obtain⟨n,hn⟩:∃n,l.length=n:=⟨_,rfl⟩;obtain⟨kn,bz⟩:∃kn,K.length=kn:=⟨_,rfl⟩;obtain⟨mv,bA⟩:∃mv,aT.moves l=mv:=⟨_,rfl⟩;obtain⟨HS,HK,eD,cz,P,aA,aQ⟩:=ZW cu H bY bZ hn bz bA;rw[hn]at ed dZ⊢;rw[bz]at d9⊢;rw[bA]at dY;clear cu H bY bZ hn bz bA;go_enter Tryz.func12,Tryz.ntmps12;go_upto_region 1 with fail;have bB:=af w (.cells #[.slice none 0 0,.slice none 0 0] 35);have hz:=iy.new w [.slice none 0 0,.slice none 0 0] 35;have bD:=aK w (.cells #[.slice none 0 0,.slice none 0 0] 35);change iy (w.alloc (.cells #[.slice none 0 0,.slice none 0 0] 35)) w.heap.size _ _ at hz;generalize w.alloc (.cells #[.slice none 0 0,.slice none 0 0] 35)=w1 at bB hz bD⊢;obtain⟨aR,HZ,fK⟩:=ZR bB hz bD;clear bB hz bD;go_wp2_with fail;go_loopw [6,7] (λeG s wr=>∃j:Nat,j<=n/\s=.int .i64 j/\eG=.int .i64 (aT.moves (l.take j):Int)/\Below w1.heap.size w1 wr) (λ_ s _=>n-(intOf s).toNat);case atStart=>exact⟨0,aL _,rfl,by rw[iH];rfl,az _ _⟩
 case round=>
  obtain⟨j,hj,rfl,rfl,a⟩:=hrel;by_cases z:j<n
  ·have bE:j<l.length:=(by rw[P.o];exact z);obtain⟨b,o,y,I,rfl,Q,J,aB⟩:=HS.o.get bE;clear aB;have R:=aR.o.t (a.m aR.o.size);have d1:=ae R J;have c:=Hr l j bE;have cB:=MJ l (j+1);rw[aQ.o]at cB;obtain⟨x,M⟩:∃x,l[j]=x:=⟨_,rfl⟩;rw[M]at d1 c;obtain⟨k,H⟩:∃k,x.2.length=k:=⟨_,rfl⟩;obtain⟨q,hq⟩:∃q,aT.moves (l.take j)=q:=⟨_,rfl⟩;rw[H]at d1 c;rw[hq]at c⊢;rw[c]at cB;obtain⟨aS,d⟩:=ZQ c z;have cK:(0:Int)<=(j:Int):=(by omega);have hi:(j:Int)<(n:Int):=(by omega);have B:=aa a;clear M H hq c a R bE Q J hj;go_wp2_with fail;go_roundw;case rel=>exact⟨j+1,d.o,by go_num,by rw[aS.o];simp,B.o⟩
   case measure=>have:=d.o;simp[intOf];omega
  ·obtain rfl:j=n:=(by omega);rw[aY (by rw[P.o];exact ak _),aQ.o];have hi:¬(j:Int)<(j:Int):=(by omega);obtain⟨B,bF⟩:=ZQ (aR.o.t (a.m aR.o.size)) (HZ.o.ag a);obtain⟨z0,z1,f0,f1⟩:=(HZ.o.ag a).two;clear a hj;have aU:=aa (λ(W:World) (E:Int) (hE:E≠0) (h:aT.lU l K=E) (hb:Below w.heap.size w W)=>eB.o E ((W.setCell ⟨w.heap.size,0,none⟩ (.slice none 0 0)).setCell ⟨w.heap.size,1,none⟩ (.slice none 0 0)) hE h (qm hb (ak _) _ _));by_cases ai:j=0\/16<mv\/32<kn
   ·have bI:=aa (ek.o (by rw[P.o,aQ.o,aA.o];exact ai));obtain⟨U,V⟩:=xU bF.o (.slice none 0 0) (.slice none 0 0);rcases(show j=0\/(¬j=0/\16<mv)\/(¬j=0/\¬16<mv/\32<kn) by omega)with h0|⟨h0,h1⟩|⟨h0,h1,h2⟩
    ·subst h0;clear ai;go_wp2_with fail;exact bG (v:=.tuple #[.agg #[.slice none 0 0,.slice none 0 0],.int .i64 72]) (by simp[results,Tryz.results12,go_sem,U,V]) rfl (aU.o _ 72 (by decide) bI.o B.o)
    ·have cO:¬(j:Int)=0:=(by omega);have cZ:(16:Int)<(mv:Int):=(by omega);clear ai;go_wp2_with fail;exact bG (v:=.tuple #[.agg #[.slice none 0 0,.slice none 0 0],.int .i64 72]) (by simp[results,Tryz.results12,go_sem,U,V]) rfl (aU.o _ 72 (by decide) bI.o B.o)
    ·have cO:¬(j:Int)=0:=(by omega);have cZ:¬(16:Int)<(mv:Int):=(by omega);have eH:(32:Int)<(kn:Int):=(by omega);clear ai;go_wp2_with fail;exact bG (v:=.tuple #[.agg #[.slice none 0 0,.slice none 0 0],.int .i64 72]) (by simp[results,Tryz.results12,go_sem,U,V]) rfl (aU.o _ 72 (by decide) bI.o B.o)
   ·have df:=aa (eu.o (by rw[P.o,aQ.o,aA.o];exact ai));have cO:¬(j:Int)=0:=(by omega);have cZ:¬(16:Int)<(mv:Int):=(by omega);have eH:¬(32:Int)<(kn:Int):=(by omega);have fM:¬j=0:=(by omega);clear ai z0 z1 f0 f1;obtain⟨C,rfl⟩:∃C:World,C=wr:=⟨_,rfl⟩;obtain⟨X,eO,Y,c⟩:=E5 C j (by omega);obtain⟨dh,eP⟩:=ZQ (B.o.t (Y.m B.o.size)) (bF.o.ag Y);have eQ:w.heap.size+1<=C.heap.size:=(by have:=bF.o.lt;omega);go_upto_region 9 with fail;have Z:=af X (.cells #[.slice (some ⟨C.heap.size,0,none⟩) j j,.slice none 0 0] 35);have av:=iy.new X [.slice (some ⟨C.heap.size,0,none⟩) j j,.slice none 0 0] 35;have aF:=aK X (.cells #[.slice (some ⟨C.heap.size,0,none⟩) j j,.slice none 0 0] 35);change iy (X.alloc (.cells #[.slice (some ⟨C.heap.size,0,none⟩) j j,.slice none 0 0] 35)) X.heap.size _ _ at av;obtain⟨g3,di⟩:∃g,C.heap.size=g:=⟨_,rfl⟩;obtain⟨g5,bJ⟩:∃g,X.heap.size=g:=⟨_,rfl⟩;have dm:w.heap.size<g3:=(by omega);rw[di]at Z av aF c⊢;have dw:g3<=g5:=(by have:=Y.size;omega);rw[bJ]at Z av aF⊢;generalize X.alloc (.cells #[.slice (some ⟨g3,0,none⟩) j j,.slice none 0 0] 35)=w5 at Z av aF⊢;have eT:=aa Z;have N:=aa (dh.o.t (Z.m (by have:=dh.o.size;omega)));have aV:=aa (eP.o.ag (Z.m (by omega)));obtain⟨eU,aX,eX,bK,eY,eZ⟩:=ZV c dm bJ dw aF av;clear Z av aF eO c Y di bJ dm dw eQ;go_wp2_with fail;go_loopw [9] (λs wr=>∃i:Nat,i<=j/\s=.int .i64 i/\aT.err (l.drop i)=aT.err l/\Below w5.heap.size w5 wr) (λs _=>j-(intOf s).toNat);case atStart=>exact⟨0,aL _,rfl,rfl,az _ _⟩
    case round=>
     obtain⟨i,dx,rfl,aH,a⟩:=hrel;by_cases z:i<j
     ·have aZ:i<l.length:=(by rw[P.o];exact z);obtain⟨b,o,y,I,rfl,Q,J,aB⟩:=HS.o.get aZ;have R:=N.o.t (a.m N.o.size);obtain⟨d0,d1⟩:=ZZ R Q J;have c:=LD l i aZ;obtain⟨q1,q2,q3⟩:=eD.o _ (aN aZ);obtain⟨x,M⟩:∃x,l[i]=x:=⟨_,rfl⟩;rw[M]at d0 d1 c q1 q2 q3 aB;obtain⟨dz,fe,HV,d⟩:=ZT a (aB.ag R) (λW h=>Wz x.1 x.2 y I W q1 h q3 q2) z;have cK:(0:Int)<=(i:Int):=(by omega);have hi:(i:Int)<(j:Int):=(by omega);obtain⟨k,H⟩:∃k,x.2.length=k:=⟨_,rfl⟩;obtain⟨E,hE⟩:∃E,mh x.1 x.2=E:=⟨_,rfl⟩;rw[hE]at c HV;rw[aH]at c;rw[H]at d1 HV;have aS:=aa c;clear M H c aH a R aZ Q J dx aB q1 q2 q3 hE;go_wp2_with fail;refine(HV.o wr fe.o).m ?_;rintro e w3 ⟨rfl,dA⟩;have aM:=aa (dz.o.t (dA.m dz.o.size));clear dA d0 d1;by_cases dB:E=0
      ·subst dB;go_wp2_with fail;go_roundw;case rel=>exact⟨i+1,d.o,by go_num,by rw[aS.o];simp,aM.o⟩
       case measure=>have:=d.o;simp[intOf];omega
      ·obtain⟨z0,z1,f0,f1⟩:=(aV.o.ag aM.o).two;obtain⟨U,V⟩:=xU (aV.o.ag aM.o) (.slice none 0 0) (.slice none 0 0);have dC:=aa dB;go_wp2_with fail;exact bG (v:=.tuple #[.agg #[.slice none 0 0,.slice none 0 0],.int .i64 E]) (by simp[results,Tryz.results12,go_sem,U,V]) rfl (aU.o _ E dC.o (by rw[df.o,aS.o,aG dC.o]) (N.o.t (aM.o.m N.o.size)))
     ·obtain rfl:i=j:=(by omega);have hi:¬(i:Int)<(i:Int):=(by omega);obtain⟨aM,fO,fo⟩:=ZR (N.o.t (a.m N.o.size)) (aV.o.ag a) (eZ.o.ag a);rw[jT (by rw[P.o];exact ak _)]at aH;have fq:=aa (show aT.lU l K=0 from by rw[df.o,<-aH];rfl);have fu:=aa (a.m (show g5<=w5.heap.size by have:=eY.o;omega));obtain⟨wq,rfl⟩:∃wq:World,wq=wr:=⟨_,rfl⟩;clear a aH dx;go_wp2_with fail;go_loopw [11] (λs wr=>∃(q:Nat) (f:Option Addr) (m p:Nat),q<=kn/\s=.int .i64 q/\iy wr g5 35 [.slice (some ⟨g3,0,none⟩) i i,.slice f m p]/\(mG ((K.take q).filter T.use)).length=m/\jK oC mf wr (.slice f m p) (mG ((K.take q).filter T.use))/\Below g5 w5 wr/\wq.heap.size<=wr.heap.size) (λs _=>kn-(intOf s).toNat);case atStart=>exact⟨0,none,0,0,aL _,rfl,fo.o,by rw[iH];rfl,by rw[iH];exact jK.nil _ _ _,fu.o,ak _⟩
      case round=>
       obtain⟨q,f,m,p,hq,rfl,bf,hm,ax,a,bL⟩:=hrel;by_cases z:q<kn
       ·have bg:q<K.length:=(by rw[aA.o];exact z);obtain⟨b,o,y,I,rfl,Q,J,dD,ht⟩:=gM.get (cap:=cap) (by exact HK.o) bg;have aO:Below w.heap.size w wr:=N.o.t (a.m (by have:=aX.o;have:=bK.o;omega));obtain⟨d0,d1,d2⟩:=Z0 aO Q J dD;have bM:=cz.o _ (aN bg);have bi:=NI K q bg;have bN:∀t∈mG ((K.take q).filter T.use),t.bC<=1048576:=λt ht=>cz.o t (iL (fB.1 (Im.1 ht)).1);have bO:(mG ((K.take q).filter T.use)).length<=1048576:=aD (O5 _) (aD (fP _ _) (by rw[aW,aA.o];omega));obtain⟨x,M⟩:∃x,K[q]=x:=⟨_,rfl⟩;rw[M]at d0 d1 d2 ht bM bi;obtain⟨F,hF⟩:∃F,(K.take q).filter T.use=F:=⟨_,rfl⟩;rw[hF]at bi ax bN bO hm;obtain⟨HT,B,fw,dE,HM,fA,bP,bQ,d⟩:=ZY (ht.ag aO) a ax bf hm bL bi bM z;obtain⟨fC,fD⟩:=ZQ bO bN;have cK:(0:Int)<=(q:Int):=(by omega);have hi:(q:Int)<(kn:Int):=(by omega);have HG:=aa (Wv x (.agg #[.int .i64 x.aC,.string x.aJ,.slice y x.ay.length I]) wr HT.o bQ.o);obtain⟨gr,bR⟩:∃g,x.ground=g:=⟨_,rfl⟩;rw[bR]at HG;have dF:=aa bR;clear M hF bi bM aO a ax bf ht bg Q J dD hq bL bO bN hm bR;go_wp2_with fail;refine HG.o.m ?_;rintro e w7 ⟨rfl,D⟩;have dG:=aa (B.o.t (D.m (by have:=dE.o.lt;omega)));obtain⟨bn,bS,dH,dI⟩:=ZT (fw.o.ag D) (dE.o.ag D) (HT.o.ag D) (aD fA.o D.size);obtain⟨y0,y1,y2⟩:=Z0 D d0 d1 d2;clear D d0 d1 d2 HG;cases gr with
        |false=>
         have aP:¬x.use=true:=(by unfold T.use;rw[dF.o];simp);have O:=aa (bP.o.t (aG aP));clear aP;go_wp2_with fail;go_roundw;case rel=>exact⟨q+1,f,m,p,d.o,by go_num,bS.o,by rw[O.o];exact HM.o,by rw[O.o];exact bn.o,dG.o,dI.o⟩
         case measure=>have:=d.o;simp[intOf];omega
        |true=>
         have HI:=aa (Qn x (.agg #[.int .i64 x.aC,.string x.aJ,.slice y x.ay.length I]) w7 dH.o bQ.o);obtain⟨nr,bT⟩:∃g,x.FX=g:=⟨_,rfl⟩;rw[bT]at HI;have dJ:=aa bT;clear bT;go_wp2_with fail;refine HI.o.m ?_;rintro e r ⟨rfl,G⟩;have dK:=aa (dG.o.t (G.m (by have:=bS.o.lt;omega)));obtain⟨dM,bq,fE,dN⟩:=ZT (bn.o.ag G) (bS.o.ag G) (dH.o.ag G) (aD dI.o G.size);obtain⟨u0,u1,u2⟩:=Z0 G y0 y1 y2;clear G y0 y1 y2 HI;cases nr with
         |false=>
          have aP:¬x.use=true:=(by unfold T.use;rw[dJ.o];simp);have O:=aa (bP.o.t (aG aP));clear aP;go_wp2_with fail;go_roundw;case rel=>exact⟨q+1,f,m,p,d.o,by go_num,bq.o,by rw[O.o];exact HM.o,by rw[O.o];exact dM.o,dK.o,dN.o⟩
          case measure=>have:=d.o;simp[intOf];omega
         |true=>
          have dO:x.use=true:=(by unfold T.use;rw[dF.o,dJ.o];rfl);have O:=aa ((bP.o.t (aI dO)));have bu:=aa (λW (hW:Below r.heap.size r W)=>(show Calls Tryz.prog 41 #[.slice f m p,.agg #[.int .i64 x.aC,.string x.aJ,.slice y x.ay.length I]] W (Vn (qw (mG F) x) W)from by
           have h1:=dM.o.ag hW;rw[<-HM.o]at h1⊢;exact Y5 W h1.bH (fE.o.ag hW) fD.o bQ.o (by have:=fC.o;omega)))
          obtain⟨LP,bU⟩:∃L,qw (mG F) x=L:=⟨_,rfl⟩;rw[bU]at bu;obtain⟨mp,bV⟩:∃n,LP.length=n:=⟨_,rfl⟩;have dQ:=aa (show mG (F++[x])=LP by rw[Ng];exact bU);have dR:=aa bV;have bu:=aa (λW hW=>(bu.o W hW).m (λe w' (h:Vn LP W e w')=>show ∃y dS,e=.returned (.slice y mp dS)/\gM w' y dS LP/\Below W.heap.size W w' by rw[<-bV];exact h));have dU:=bq.o.cell 1 (u:=.slice f m p) rfl;clear dO bU bV;go_upto_region 19 with fail;have HC:=aa (show r.cell? ⟨g5,1,none⟩=some (.slice f m p)/\r.cell? ⟨b,o+q*3,none⟩=some (.int .i64 x.aC)/\r.cell? ⟨b,o+q*3+1,none⟩=some (.string x.aJ)/\r.cell? ⟨b,o+q*3+2,none⟩=some (.slice y x.ay.length I)/\Below r.heap.size r r from⟨dU,u0,u1,u2,az _ _⟩);clear dU u0 u1 u2;refine gI (S:=(λWq=>Wq.cell? ⟨g5,1,none⟩=some (.slice f m p)/\Wq.cell? ⟨b,o+q*3,none⟩=some (.int .i64 x.aC)/\Wq.cell? ⟨b,o+q*3+1,none⟩=some (.string x.aJ)/\Wq.cell? ⟨b,o+q*3+2,none⟩=some (.slice y x.ay.length I)/\Below r.heap.size r Wq)) (λi=>if [8].contains i then 2 else 0) (by kernel_rfl) (show _/\_/\_/\_/\_ from⟨HC.o.1,HC.o.2.1,HC.o.2.2.1,HC.o.2.2.2.1,(az _ r).drew⟩) (λhHeld=>?_);refine gG 0 _ ?_;refine gG 1 _ ?_;refine gG 2 _ ?_;refine gG 3 _ ?_;refine gG 4 _ ?_;refine gG 5 _ ?_;refine x8 6 λK hK=>?_;(go_simp;go_at_call 41;refine(bu.o _ hHeld.2.2.2.2).m ?_;rintro e w9 ⟨A7,c7,rfl,dV,Y⟩;have bn:=aa dV;clear dV;(try replace fF:=aa (fF.o.ag Y));refine mH hK (gX HC.o (hHeld.2.2.2.2.t (Y.m hHeld.2.2.2.2.size))) λhHeld=>?_;clear hK K);refine gG 7 _ ?_;refine yh 8 λK hK=>?_;((have bW:=bq.o.ag hHeld.2.2.2.2;have fG:=bW.cell 1 (u:=.slice f m p) rfl;have fH:=bW.free 1;go_simp);refine rW hK ?_;clear hK K);refine dL (by kernel_rfl) ?_ _;have dW:=aa hHeld.2.2.2.2;clear hHeld fG fH bW;have bX:=aa (UE bq.o dW.o bn.o dR.o dK.o);go_wp2_with fail;go_roundw;case rel=>exact⟨q+1,_,_,_,d.o,by go_num,bX.o.1,by rw[O.o,dQ.o];exact dR.o,by rw[O.o,dQ.o];exact bX.o.2.1,bX.o.2.2,aD dN.o (aD dW.o.size (by simp[World.setCell]))⟩
          case measure=>have:=d.o;simp[intOf];omega
       ·obtain rfl:q=kn:=(by omega);rw[aY (by rw[aA.o];exact ak _)]at ax hm;have hi:¬(q:Int)<(q:Int):=(by omega);have bv:iy wr w.heap.size 35 [.slice none 0 0,.slice none 0 0]:=(a.block w.heap.size (by have:=aX.o;have:=bK.o;omega)).t aV.o;have dX:=Wt P.o hm fq.o eU.o eX.o aX.o ((eT.o).t a) ax bv (N.o.t (a.m (by have:=aX.o;have:=bK.o;omega)));have fI:=aa dX;obtain⟨b0,b1,b2,b3⟩:=bf.two;obtain⟨y2,y3,y4,y5⟩:=bv.two;obtain⟨U,V⟩:=xU bv (.slice (some ⟨g3,0,none⟩) i i) (.slice f m p);clear bv dX bf hm ax a bL z hq;go_wp2_with fail;exact bG (v:=.tuple #[.agg #[.slice (some ⟨g3,0,none⟩) i i,.slice f m p],.int .i64 0]) (by simp[results,Tryz.results12,go_sem,U,V]) rfl fI.o
theorem R4{y:T}(hb:y.bC<=1048576):∀v a W',aO W' v y->aO W' a y->Calls Tryz.prog 57 #[v,a] W' λe w'=>e=.returned (.bool true)/\Below W'.heap.size W' w':=λv a W' b c=>by
 have:=Qo y y v a W' b c hb hb;rw[T.nS]at this;exact this
theorem UY(a:ByteArray):(a.toList==a.toList)=true:=by simp
theorem O6{L:List Bd}(v m:Value)(w:World)(h:gu w v L)(h':gu w m L)(hb:∀x∈L,x.t.bC<=1048576):
 Calls Tryz.prog 43 #[v,m] w λe w'=>e=.returned (.bool true)/\Below w.heap.size w w':=by
 obtain⟨A,cap,rfl,M,u⟩:=h.shape;obtain⟨N,O,rfl,P,Q⟩:=h'.shape;obtain⟨z,B,C⟩:=ZR h h' hb;unfold maxLen at u;clear h h' hb;go_enter Tryz.func43,Tryz.ntmps43;go_upto_region 4 with fail;go_loopw [5] (λg wr=>∃j:Nat,j<=L.length/\g=.int .i64 j/\Below w.heap.size w wr) (λg _=>L.length-(intOf g).toNat);case atStart=>exact⟨0,aL _,rfl,az _ _⟩
 case round=>
  obtain⟨j,hj,rfl,d⟩:=hrel;have i:=aa d;by_cases c:j<L.length
  ·have n:(0:Int)<=(j:Int)/\(j:Int)<(L.length:Int):=(by omega);obtain⟨n,R⟩:=n;obtain⟨b,off,D,c1,rfl,d0,d1,d2,d3,hu,-⟩:=(z.o.ag d).get c;obtain⟨b',f,E,c2,rfl,x0,o,p,q,k,-⟩:=(B.o.ag d).get c;have r:=aa c;have l:=C.o (L[j]'(c)) (aN c);generalize L[j]'(c)=y at d0 d1 d2 d3 x0 o p q hu k l;obtain⟨F,G,H⟩:=ZR hu k (R4 l);have T:=UY y.var;clear hu k d l;go_upto_region 6 with fail;refine bX (S:=(λa=>a.cell? ⟨b,off+j*4,none⟩=some (.string y.var)/\a.cell? ⟨b,off+j*4+1,none⟩=some (.int .i64 y.t.aC)/\a.cell? ⟨b,off+j*4+2,none⟩=some (.string y.t.aJ)/\a.cell? ⟨b,off+j*4+3,none⟩=some (.slice D y.t.ay.length c1)/\a.cell? ⟨b',f+j*4,none⟩=some (.string y.var)/\a.cell? ⟨b',f+j*4+1,none⟩=some (.int .i64 y.t.aC)/\a.cell? ⟨b',f+j*4+2,none⟩=some (.string y.t.aJ)/\a.cell? ⟨b',f+j*4+3,none⟩=some (.slice E y.t.ay.length c2)/\Below wr.heap.size wr a)) (by kernel_rfl) (show _/\_/\_/\_/\_/\_/\_/\_/\_ from⟨d0,d1,d2,d3,x0,o,p,q,(az _ wr).drew⟩) (λhHeld=>?_);refine cB 0 _ ?_;refine cB 1 _ ?_;refine cB 2 _ ?_;refine cB 3 _ ?_;refine cB 4 _ ?_;refine cB 5 _ ?_;refine cB 6 _ ?_;refine cB 7 _ ?_;refine cB 8 _ ?_;refine cB 9 _ ?_;refine cB 10 _ ?_;refine cB 11 _ ?_;(first|refine cB 12 _ ?_|refine gF 12 ?_);(first|refine cB 13 _ ?_|refine gF 13 ?_);(first|refine cB 14 _ ?_|refine gF 14 ?_);(first|refine cB 15 _ ?_|refine gF 15 ?_);(first|refine cB 16 _ ?_|refine gF 16 ?_);(first|refine cB 17 _ ?_|refine gF 17 ?_);(first|refine cB 18 _ ?_|refine gF 18 ?_);(first|refine cB 19 _ ?_|refine gF 19 ?_);(first|refine cB 20 _ ?_|refine gF 20 ?_);(first|refine cB 21 _ ?_|refine gF 21 ?_);(refine ve 22 λK s=>?_;go_simp;go_at_call 57;refine(H.o _ _ _ (F.o.ag hHeld.2.2.2.2.2.2.2.2) (G.o.ag hHeld.2.2.2.2.2.2.2.2)).m ?_;rintro e U ⟨rfl,I⟩;refine mH s (Xa hHeld I) λhHeld=>?_;clear s K);(first|refine cB 23 _ ?_|refine gF 23 ?_);refine cB 24 _ ?_;refine dR (by kernel_rfl) ?_ _;have J:=aa hHeld.2.2.2.2.2.2.2.2;clear hHeld;go_wp2_with fail;go_roundw;case rel=>exact⟨j+1,r.o,by go_num,i.o.t (J.o.m i.o.size)⟩
   case measure=>have:=r.o;simp[intOf];omega
  ·go_wp2_with fail;go_ret;exact⟨rfl,i.o⟩
theorem O7{x:jZ}(v V:Value)(w:World)(h:qi mf w v x)(h':qi mf w V x)(hb:∀q∈x.aS,∀y∈q.b,y.t.bC<=1048576)(X:∀t∈x.bH,t.bC<=1048576):
 Calls Tryz.prog 13 #[v,V] w λe w'=>e=.returned (.bool true)/\Below w.heap.size w w':=by
 obtain⟨A,cap,B,a,rfl,M,Y⟩:=h;obtain⟨g,d,i,k,rfl,Z,ae⟩:=h';obtain⟨_,_,e,aC,aD⟩:=M.shape;injection e with z e2 e3;subst z;subst e3;clear e2;obtain⟨n,D⟩:∃n,x.aS.length=n:=⟨_,rfl⟩;obtain⟨kn,E⟩:∃n,x.bH.length=n:=⟨_,rfl⟩;have bx:=iy.new w [.slice A x.aS.length cap,.slice B x.bH.length a] 35;have N:=af w (.cells #[.slice A x.aS.length cap,.slice B x.bH.length a] 35);have ai:=aK w (.cells #[.slice A x.aS.length cap,.slice B x.bH.length a] 35);have c:=iy.new (w.alloc (.cells #[.slice A x.aS.length cap,.slice B x.bH.length a] 35)) [.slice g x.aS.length d,.slice i x.bH.length k] 35;rw[ai]at c;have O:=af (w.alloc (.cells #[.slice A x.aS.length cap,.slice B x.bH.length a] 35)) (.cells #[.slice g x.aS.length d,.slice i x.bH.length k] 35);have o:=N.t (O.m N.size);have f:=iy.ag bx O;change iy ((w.alloc (.cells #[.slice A x.aS.length cap,.slice B x.bH.length a] 35)).alloc (.cells #[.slice g x.aS.length d,.slice i x.bH.length k] 35)) _ _ _ at c;change iy ((w.alloc (.cells #[.slice A x.aS.length cap,.slice B x.bH.length a] 35)).alloc (.cells #[.slice g x.aS.length d,.slice i x.bH.length k] 35)) _ _ _ at f;obtain⟨F,G,H,I,HB,HN,J,aF,aG⟩:=ZY (M.ag o) (Z.ag o) (Y.ag o) (ae.ag o) hb D o X E;rw[D]at f c aC F G H I⊢;rw[E]at f c F G H I⊢;rw[D,E]at J;unfold maxLen at aD;clear M Y Z ae hb X bx N O o ai D E;go_enter Tryz.func13,Tryz.ntmps13;go_upto_region 1 with fail;generalize(w.alloc (.cells #[.slice A n cap,.slice B kn a] 35)).alloc (.cells #[.slice g n d,.slice i kn k] 35)=L at f c F G H I J⊢;obtain⟨BX,BY⟩:=ZQ f c;have x0:=f.cell 0 (u:=.slice A n cap) rfl;have x1:=f.cell 1 (u:=.slice B kn a) rfl;have P:=c.cell 0 (u:=.slice g n d) rfl;have y1:=c.cell 1 (u:=.slice i kn k) rfl;have ak:=aa (show Calls Tryz.prog 42 #[.slice B kn a,.slice i kn k] L λe w'=>e=.returned (.bool true)/\Below L.heap.size L w' from by
  have h1:=H.o;have h2:=I.o;rw[<-aG.o]at h1 h2⊢;exact UO L h1.bH h2.bH aF.o)
 clear f c;go_wp2_with fail;refine ak.o.m ?_;rintro e w3 ⟨rfl,p⟩;obtain⟨av,aH,aI,aJ,aM⟩:=ZU (J.o.t (p.m J.o.size)) (BX.o.ag p) (BY.o.ag p) (F.o.ag p) (G.o.ag p);clear p x0 x1 P y1 ak;go_upto_region 4 with fail;go_loopw [5] (λQ wr=>∃j:Nat,j<=n/\Q=.int .i64 j/\Below w3.heap.size w3 wr) (λQ _=>n-(intOf Q).toNat);case atStart=>exact⟨0,aL _,rfl,az _ _⟩
 case round=>
  obtain⟨j,hj,rfl,r⟩:=hrel;have R:=aa r;have x0:=(aH.o.ag r).cell 0 (u:=.slice A n cap) rfl;have P:=(aI.o.ag r).cell 0 (u:=.slice g n d) rfl;by_cases ax:j<n
  ·have s:j<x.aS.length:=(by rw[HN.o];exact ax);have ay:(0:Int)<=(j:Int)/\(j:Int)<(n:Int):=(by omega);obtain⟨ay,aQ⟩:=ay;obtain⟨b,off,v1,rfl,d0,d1,hu,-⟩:=(aJ.o.ag r).stand s;obtain⟨b',T,v2,rfl,e0,z,C,-⟩:=(aM.o.ag r).stand s;obtain⟨A1,c1,rfl,-,-⟩:=hu.Hg.shape;obtain⟨A2,c2,rfl,-,-⟩:=C.Hg.shape;have aA:=aa ax;have U:=HB.o (x.aS[j]'(s)) (aN s);generalize x.aS[j]'(s)=y at d0 d1 e0 z hu C U;obtain⟨yl,aB⟩:∃l,y.b.length=l:=⟨_,rfl⟩;rw[aB]at d1 z hu C;have HS:=aa (λW (hW:Below wr.heap.size wr W)=>O6 _ _ W (hu.ag hW).at (C.ag hW).at U);clear hu C r U aB s;go_upto_region 6 with fail;refine bX (S:=(λm=>m.cell? ⟨w.heap.size,0,none⟩=some (.slice (some ⟨b,off,none⟩) n cap)/\m.cell? ⟨w.heap.size+1,0,none⟩=some (.slice (some ⟨b',T,none⟩) n d)/\m.cell? ⟨b,off+j*2,none⟩=some (.int .i64 (y.gq:Int))/\m.cell? ⟨b,off+j*2+1,none⟩=some (.slice A1 yl c1)/\m.cell? ⟨b',T+j*2,none⟩=some (.int .i64 (y.gq:Int))/\m.cell? ⟨b',T+j*2+1,none⟩=some (.slice A2 yl c2)/\Below wr.heap.size wr m)) (by kernel_rfl) (show _/\_/\_/\_/\_/\_/\_ from⟨x0,P,d0,d1,e0,z,(az _ wr).drew⟩) (λhHeld=>?_);refine cB 0 _ ?_;refine cB 1 _ ?_;refine cB 2 _ ?_;refine cB 3 _ ?_;refine cB 4 _ ?_;refine cB 5 _ ?_;refine cB 6 _ ?_;refine cB 7 _ ?_;refine cB 8 _ ?_;refine cB 9 _ ?_;refine cB 10 _ ?_;refine cB 11 _ ?_;refine cB 12 _ ?_;refine cB 13 _ ?_;(first|refine cB 14 _ ?_|refine gF 14 ?_);(first|refine cB 15 _ ?_|refine gF 15 ?_);(first|refine cB 16 _ ?_|refine gF 16 ?_);(first|refine cB 17 _ ?_|refine gF 17 ?_);(first|refine cB 18 _ ?_|refine gF 18 ?_);(first|refine cB 19 _ ?_|refine gF 19 ?_);(first|refine cB 20 _ ?_|refine gF 20 ?_);(first|refine cB 21 _ ?_|refine gF 21 ?_);(first|refine cB 22 _ ?_|refine gF 22 ?_);(first|refine cB 23 _ ?_|refine gF 23 ?_);(first|refine cB 24 _ ?_|refine gF 24 ?_);(first|refine cB 25 _ ?_|refine gF 25 ?_);(refine ve 26 λK hK=>?_;go_simp;go_at_call 43;refine(HS.o _ hHeld.2.2.2.2.2.2).m ?_;rintro e wz ⟨rfl,aO⟩;refine mH hK (GY hHeld aO) λhHeld=>?_;clear hK K);(first|refine cB 27 _ ?_|refine gF 27 ?_);refine cB 28 _ ?_;refine dR (by kernel_rfl) ?_ _;have aP:=aa hHeld.2.2.2.2.2.2;clear hHeld;go_wp2_with fail;go_roundw;case rel=>exact⟨j+1,aA.o,by go_num,R.o.t (aP.o.m R.o.size)⟩
   case measure=>have:=aA.o;simp[intOf];omega
  ·have aR:¬(j:Int)<(n:Int):=(by omega);go_wp2_with fail;go_ret;exact⟨rfl,av.o.t (R.o.m av.o.size)⟩
end
section
open Go.RowKit Go.ChangeShapes Go.WideShapes Go.Deep
theorem Jo:Tryz.prog.cellsOf 31=4:=by kernel_rfl
theorem Ol:Tryz.prog.cellsOf 24=1:=by kernel_rfl
theorem EG:Tryz.prog.cellsOf 26=2:=by kernel_rfl
def vM:List (Int×T)->Nat
 |[]=>0
 |m::r=>m.2.bC+vM r
theorem Jl:∀(l:List (Int×T)) {m:Int×T},m∈l->m.2.bC<=vM l
 |[],_,h=>by simp at h
 |x::r,m,h=>by
  simp only[vM];rcases bL.1 h with rfl|h;·omega
  ·have:=Jl r h;omega
theorem Lp{H:Type}(D:Nat->DataW H)(a:List (Int×T)):∀n:Nat,a.length=n->(∀i (h:i<a.length),a[i].2.bC<=Rows.uptoBulk (D i))->vM a<=Rows.uptoBulkAll ((List.range n).map D):=by
 induction a generalizing D with
 |nil=>intro n b _;simp[vM]
 |cons t r c=>
  intro n b h;obtain⟨m,rfl⟩:∃m,n=m+1:=⟨n-1,by simp at b;omega⟩;rw[qN,gP,l6];have h0:=h 0 (by simp);have d:=c (D∘Nat.succ) m (by simpa using b) (λi hi=>h (i+1) (by simpa using hi));simp only[vM,Rows.uptoBulkAll];simp only[dw]at h0;exact zB h0 d
theorem Rz{H:Type}{enc:TypeId×Value->H}{w:World}{fuel:Nat}{cs:List Value}{d:DataW H}{p:List MemPlace}
 (h:DataW.trod enc Tryz.prog w 0 (λ_=>true) true fuel 31 cs=some (d,p)):
 ∃(k:Int) (t:T) (u0 u1 u2:Value),cs=[.int .i64 k,u0,u1,u2]/\aO w (.agg #[u0,u1,u2]) t/\t.bC<=Rows.uptoBulk d/\ -9223372036854775808<=k/\k<=9223372036854775807:=by
 obtain⟨xs,n,rfl,a,b,i,c⟩:=wI Tryz.underlying31 h;rw[Jo]at b
 match cs,b with
 |[q,c1,c2,c3],_=>
  match xs,i with
  |[r,j],_=>
   have e:=c 0 _ rfl;have f:=c 1 _ rfl;simp[Tj,FV]at e f;obtain⟨k,g,s,l⟩:=DataW.trod_int fU e;simp at g;subst g;have bk:=bounds_i64 l;rw[jS]at a;obtain⟨rfl,-⟩:=a;obtain⟨d1,m⟩:=j;obtain⟨t,o,hb⟩:=H7 _ n [c1,c2,c3] d1 m (dI _) f;refine⟨k,t,c1,c2,c3,rfl,o,?_,bk.1,bk.2⟩;simp only[Rows.uptoBulk,Rows.uptoBulkAll,gP,nA];omega
def zf:List iZ->Nat
 |[]=>0
 |x::r=>vM x.2+1+zf r
theorem Eh:∀(l:List iZ) {x:iZ},x∈l->vM x.2<=zf l
 |[],_,h=>by simp at h
 |y::r,x,h=>by
  simp only[zf];rcases bL.1 h with rfl|h;·omega
  ·have:=Eh r h;omega
theorem Jm:∀l:List iZ,l.length<=zf l
 |[]=>ak _
 |x::r=>by have:=Jm r;simp only[zf,bu];omega
theorem Cf:∀a:List (Int×T),4*a.length<=vM a
 |[]=>by simp[vM]
 |m::r=>by
  have b:=Cf r;have c:4<=m.2.bC:=(by cases m.2;simp only[T.bC];omega);simp only[vM,bu];omega
theorem EF:∀l:List iZ,4*aT.moves l<=zf l
 |[]=>by simp[aT.moves]
 |x::r=>by
  have a:=EF r;have b:=Cf x.2;have e:aT.moves (x::r)=x.2.length+aT.moves r:=(by simp[aT.moves]);rw[e];simp only[zf];omega
theorem Lr{H:Type}(D:Nat->DataW H)(a:List iZ):∀n:Nat,a.length=n->(∀i (h:i<a.length),vM a[i].2+1<=Rows.uptoBulk (D i))->zf a<=Rows.uptoBulkAll ((List.range n).map D):=by
 induction a generalizing D with
 |nil=>intro n b _;simp[zf]
 |cons t r c=>
  intro n b h;obtain⟨m,rfl⟩:∃m,n=m+1:=⟨n-1,by simp at b;omega⟩;rw[qN,gP,l6];have h0:=h 0 (by simp);have d:=c (D∘Nat.succ) m (by simpa using b) (λi hi=>h (i+1) (by simpa using hi));simp only[zf,Rows.uptoBulkAll];simp only[dw]at h0;exact zB h0 d
theorem Du{H:Type}{enc:TypeId×Value->H}{w:World}{fuel:Nat}{cs:List Value}{d:DataW H}{p:List MemPlace}
 (K:DataW.trod enc Tryz.prog w 0 (λ_=>true) true fuel 26 cs=some (d,p)):
 ∃(role:ByteArray) (A:Option Addr) (cap:Nat) (l:List (Int×T)),cs=[.string role,.slice A l.length cap]/\jm w A l/\role.size<=maxLen/\l.length<=cap/\cap<=maxLen/\vM l+1<=Rows.uptoBulk d:=by
 obtain⟨xs,n,rfl,q,r,L,u⟩:=wI Tryz.underlying26 K;rw[EG]at r
 match cs,r with
 |[f,c1],_=>
  match xs,L with
  |[y0,y1],_=>
   have v:=u 0 _ rfl;have y:=u 1 _ rfl;simp[Tm,Ol]at v y;obtain⟨s,g,ae,z⟩:=DataW.trod_string gB v;simp at g;subst g;rw[jS]at q;obtain⟨rfl,-⟩:=q;rcases open_slice Tryz.underlying24 y with⟨c,B⟩|⟨a,len,cap,m,n',D,Pl,c,hb,M,N,C,B,hi⟩
   ·simp at c;subst c;exact⟨s,none,0,[],rfl,.inl rfl,z,ak _,aL _,by simp only[vM,Rows.uptoBulk];omega⟩
   ·simp at c;subst c;simp only[nL]at C;subst C;have O:∀i,i<len->∃x:(Int×T)×Value×Value×Value,aO w (.agg #[x.2.1,x.2.2.1,x.2.2.2]) x.1.2/\x.1.2.bC<=Rows.uptoBulk (D i)/\(-9223372036854775808<=x.1.1/\x.1.1<=9223372036854775807)/\
     w.cell? (a.add (i*4))=some (.int .i64 x.1.1)/\w.cell? ((a.add (i*4)).add 1)=some x.2.1/\w.cell? ((a.add (i*4)).add 2)=some x.2.2.1/\w.cell? ((a.add (i*4)).add 3)=some x.2.2.2:=λi h=>by
     obtain⟨af,E,j⟩:=hi i (by omega);rw[Jo]at E;obtain⟨_,ag,o⟩:=rf E;obtain⟨k,t,P,Q,R,rfl,S,U,V,W⟩:=Rz j;have G:=o 0 (by omega);have X:=o 1 (by omega);have Y:=o 2 (by omega);have Z:=o 3 (by omega);rw[uo]at G;exact⟨((k,t),P,Q,R),S,U,⟨V,W⟩,by simpa using G,by simpa using X,by simpa using Y,by simpa using Z⟩
    have:Inhabited ((Int×T)×Value×Value×Value):=⟨((0,.mk 0 ⟨#[]⟩ []),undef,undef,undef)⟩;obtain⟨F,hF⟩:=choose_lt O;have e:((List.range len).map λi=>(F i).1).length=len:=(by simp);refine⟨s,some a,_,(List.range len).map λi=>(F i).1,by rw[e],?_,z,by rw[e];exact M,N,?_⟩
    ·rcases dE len with h0|h0;·exact .inl (by rw[e];exact h0)
     ·have hA:∃b off,a=⟨b,off,none⟩:=by
       obtain⟨_,_,_,f,_⟩:=hF 0 h0;obtain⟨b,off,spot⟩:=a;have aa:spot=none:=(by simpa[Addr.add]using sM f);subst aa;exact⟨b,off,rfl⟩
      obtain⟨b,off,rfl⟩:=hA;refine .inr ⟨b,off,rfl,λi I=>?_⟩;rw[e]at I;obtain⟨j,_,hk,f,c1,c2,c3⟩:=hF i I;simp only[bS]at f c1 c2 c3;obtain⟨g,J,A',c',c⟩:=aO.view j;rw[g]at c1;rw[J]at c2;rw[c]at c3;rw[g,J,c]at j;simp only[gz,vz];exact⟨A',c',f,c1,c2,c3,j,hk⟩
    ·have hb:=Lp D ((List.range len).map λi=>(F i).1) len e (λi h=>by rw[e]at h;simpa using(hF i h).2.1);rw[B];simp only[Rows.uptoBulk,Rows.uptoBulkAll,gP,nA];simp;omega
theorem KF{H:Type}{enc:TypeId×Value->H}{w:World}{B:Nat}{v:Value}{d:DataW H}{p:List MemPlace}{r:Go.Reach}
 (C:Value.okWide Tryz.prog w r B 22 v) (h:DataW.Trod enc Tryz.prog w 0 (λ_=>true) true 22 v d p):
 ∃(A:Option Addr) (cap:Nat) (l:List iZ),v=.slice A l.length cap/\sJ w A l/\l.length<=cap/\cap<=maxLen/\(∀x∈l,x.1.size<=maxLen/\x.2.length<=maxLen)/\zf l<=Rows.uptoBulk d:=by
 obtain⟨a0,e,S,rfl⟩:=okWide_slice Tryz.underlying22 C;obtain⟨fuel,E⟩:=h;rcases open_slice Tryz.underlying22 E with⟨g,q⟩|⟨a,len,cap,m,T,D,U,g,hb,G,I,t,q,hi⟩
 ·simp[Value.cells]at g;obtain⟨rfl,rfl,rfl⟩:=g;exact⟨none,0,[],rfl,.inl rfl,ak _,aL _,λx n=>absurd n dY,aL _⟩
 ·simp[Value.cells]at g;obtain⟨rfl,rfl,rfl⟩:=g;simp only[nL]at t;subst t;have J:∀i,i<e->∃x:iZ×Option Addr×Nat,jm w x.2.1 x.1.2/\(x.1.1.size<=maxLen/\x.1.2.length<=maxLen)/\vM x.1.2+1<=Rows.uptoBulk (D i)/\
   w.cell? (a.add (i*2))=some (.string x.1.1)/\w.cell? ((a.add (i*2)).add 1)=some (.slice x.2.1 x.1.2.length x.2.2):=λi h=>by
   obtain⟨V,u,K⟩:=hi i (by omega);rw[EG]at u;obtain⟨_,W,y⟩:=rf u;obtain⟨s,A,c,L,rfl,o,M,N,O,P⟩:=Du K;have z:=y 0 (by omega);have Q:=y 1 (by omega);rw[uo]at z;exact⟨((s,L),A,c),o,⟨M,aD N O⟩,P,by simpa using z,by simpa using Q⟩
  have:Inhabited (iZ×Option Addr×Nat):=⟨((⟨#[]⟩,[]),none,0)⟩;obtain⟨F,hF⟩:=choose_lt J;have f:((List.range e).map λi=>(F i).1).length=e:=(by simp);refine⟨some a,_,(List.range e).map λi=>(F i).1,by rw[f],?_,by rw[f];exact G,I,λx n=>?_,?_⟩
  ·rcases dE e with h0|h0;·exact .inl (by rw[f];exact h0)
   ·have hA:∃b off,a=⟨b,off,none⟩:=by
     obtain⟨_,_,_,j,_⟩:=hF 0 h0;obtain⟨b,off,spot⟩:=a;have R:spot=none:=(by simpa[Addr.add]using sM j);subst R;exact⟨b,off,rfl⟩
    obtain⟨b,off,rfl⟩:=hA;refine .inr ⟨b,off,rfl,λi k=>?_⟩;rw[f]at k;obtain⟨o,_,_,j,c1⟩:=hF i k;simp only[bS]at j c1;simp only[gz,vz];exact⟨_,_,j,c1,o⟩
  ·obtain⟨i,k,rfl⟩:=dB.1 n;exact(hF i (dU.1 k)).2.1
  ·have hb:=Lr D ((List.range e).map λi=>(F i).1) e f (λi h=>by rw[f]at h;simpa using(hF i h).2.2.1);rw[(zF q).1];simp only[Rows.uptoBulk];omega
theorem Lm:∀{L:List T} {x:T},x∈L->x.bC<=T.bE L:=λ{L x} a=>by
 obtain⟨i,hi,rfl⟩:=bI a;have:=T.iQ L i hi;omega
theorem OT{H:Type}{enc:TypeId×Value->H}{w:World}{s:Nat}{v:Value}{d:DataW H}{p:List MemPlace}{r:Go.Reach}
 (u:Value.okWide Tryz.prog w r s 23 v) (h:DataW.Trod enc Tryz.prog w 0 (λ_=>true) true 23 v d p):
 ∃(A:Option Addr) (cap:Nat) (L:List T),v=.slice A L.length cap/\gM w A cap L/\T.bE L<=Rows.uptoBulk d:=by
 obtain⟨a0,c,U,rfl⟩:=okWide_slice bM u;obtain⟨fuel,y⟩:=h;rcases open_slice bM y with⟨f,k⟩|⟨a,len,cap,m,z,D,B,f,hb,C,E,l,k,hi⟩
 ·simp[Value.cells]at f;obtain⟨rfl,rfl,rfl⟩:=f;exact⟨none,0,[],rfl,aO.mk 0 ⟨#[]⟩ none 0 [] (λ_=>(undef,undef,undef)) (by decide) (by decide) (ak _) (aL _) (.inl rfl) (λi h=>by simp at h),aL _⟩
 ·simp[Value.cells]at f;obtain⟨rfl,rfl,rfl⟩:=f;simp only[nL]at l;subst l;have G:∀i,i<c->∃x:T×Value×Value×Value,aO w (.agg #[x.2.1,x.2.2.1,x.2.2.2]) x.1/\x.1.bC<=Rows.uptoBulk (D i)/\
   w.cell? (a.add (i*3))=some x.2.1/\w.cell? ((a.add (i*3)).add 1)=some x.2.2.1/\w.cell? ((a.add (i*3)).add 2)=some x.2.2.2:=λi h=>by
   obtain⟨n,o,I⟩:=hi i (by omega);rw[FV]at o;obtain⟨_,J,j⟩:=rf o;obtain⟨t,K,M⟩:=H7 _ z n (D i) (B i) (dI _) I
   match n,J with
   |[N,O,P],_=>
    have q:=j 0 (by omega);have Q:=j 1 (by omega);have R:=j 2 (by omega);rw[uo]at q;exact⟨(t,N,O,P),K,M,by simpa using q,by simpa using Q,by simpa using R⟩
  have:Inhabited (T×Value×Value×Value):=⟨(.mk 0 ⟨#[]⟩ [],undef,undef,undef)⟩;obtain⟨F,hF⟩:=choose_lt G;have e:((List.range c).map λi=>(F i).1).length=c:=(by simp);refine⟨some a,_,(List.range c).map λi=>(F i).1,by rw[e],?_,?_⟩
  ·have hA:c=0\/∃b off,a=⟨b,off,none⟩:=by
    rcases dE c with h0|h0;·exact .inl h0
    ·obtain⟨_,_,g,_⟩:=hF 0 h0;obtain⟨b,off,spot⟩:=a;have S:spot=none:=(by simpa[Addr.add]using sM g);subst S;exact .inr ⟨b,off,rfl⟩
   exact aO.mk (w:=w) 0 ⟨#[]⟩ (some a) _ ((List.range c).map λi=>(F i).1) (λi=>(F i).2) (by decide) (by decide) (by rw[e];exact C) E
    (by
      rcases hA with h0|⟨b,off,rfl⟩;·left;rw[e];exact h0
      ·refine .inr ⟨b,off,rfl,λi h=>?_⟩;rw[e]at h;obtain⟨_,_,g,c1,c2⟩:=hF i h;simp only[bS]at g c1 c2;exact⟨g,c1,c2⟩)
    (λi h=>by
      rw[e]at h;have:=(hF i h).1;simpa using this)
  ·have hb:=BM D ((List.range c).map λi=>(F i).1) c e (λi h=>by rw[e]at h;simpa using(hF i h).2.1);rw[(zF k).1];simp only[Rows.uptoBulk];first|omega|(simp;omega)
end
section
open Go.RowKit Go.ChangeShapes Go.WideShapes T
attribute [local go_sem ↓] Go.wp_at_zero Go.wp_at_succ
theorem N9{l:List iZ}{K:List T}(d:∀t∈K,t.bC<=1048576):(∀q∈(FI l K).aS,∀y∈q.b,y.t.bC<=1048576)/\∀t∈(FI l K).bH,t.bC<=1048576:=by
 unfold FI;split
 ·unfold aT.jV;refine⟨λq a y hy=>?_,λt c=>d t (fB.1 (Im.1 c)).1⟩;obtain⟨x,_,rfl⟩:=dB.1 a;cases hy
 ·exact⟨λq a=>absurd a dY,λt c=>absurd c dY⟩
theorem U3(n:Nat):(n:Int).tdiv 10=((n / 10:Nat):Int):=by
 rw[Int.tdiv_eq_ediv_of_nonneg (by omega)];omega
theorem R5(l:List iZ)(K:List T)(vs:Value)(A:Option Addr)(cap:Nat)(w:World)(hs:yu w vs l)(F:gM w A cap K)(ay:∀x∈l,x.1.size<=maxLen/\x.2.length<=maxLen)(aA:zf l<=1048576)(O:∀t∈K,t.bC<=1048576)(aB:K.length<=1048576):
 Calls Tryz.prog 3 #[vs,.slice A K.length cap] w λe w'=>e=.returned (.bool true)/\Below w.heap.size w w':=by
 have aC:l.length<=1048576:=aD (Jm l) aA;have aF:aT.moves l<=1048576:=(by have:=EF l;omega);have P:∀x∈l,x.1.size<=maxLen/\x.2.length<=maxLen/\∀m∈x.2,m.2.bC<=1048576:=λx c=>⟨(ay x c).1,(ay x c).2,λm hm=>aD (Jl x.2 hm) (aD (Eh l c) aA)⟩;have G:∀x∈l,x.2.length<=262144:=λx c=>(by have h1:=Cf x.2;have h2:=Eh l c;omega);obtain⟨H,I⟩:=ZQ (λW (h:Below w.heap.size w W)=>T9 l K vs A cap W (hs.ag h) (F.ag h) P aF aC O aB) (λW (h:Below w.heap.size w W)=>Yb l K vs A cap W (hs.ag h) (F.ag h) P aF aC O aB);obtain⟨E,hE⟩:∃E,aT.lU l K=E:=⟨_,rfl⟩;obtain⟨X,hX⟩:∃X,FI l K=X:=⟨_,rfl⟩;have aG:=N9 (l:=l) O;rw[hX]at aG;unfold AJ at H;unfold xO at I;rw[hE,hX]at H I;obtain⟨As,cs,rfl,aV,bL,dh⟩:=hs;obtain⟨n,hn⟩:∃n,l.length=n:=⟨_,rfl⟩;obtain⟨kn,aW⟩:∃kn,K.length=kn:=⟨_,rfl⟩;obtain⟨HS,HN,aX,bM,bN⟩:=ZU aV hn aG G P;rw[hn]at H I bL aC⊢;rw[aW]at H I aB⊢;clear aV F ay O hn aW hE hX aG G P aF aA;go_enter Tryz.func3,Tryz.ntmps3;go_wp2_with fail;go_loopw [5,6] (λnv iv wr=>∃(j:Nat) (z:Int),j<=n/\iv=.int .i64 j/\nv=.int .i64 z/\0<=z/\z<=1048576+j*300000000000/\Below w.heap.size w wr) (λ_ iv _=>n-(intOf iv).toNat);case atStart=>exact⟨0,kn,aL _,rfl,rfl,by omega,by omega,az _ _⟩
 case round=>
  obtain⟨j,z,hj,rfl,rfl,di,aH,Q⟩:=hrel;by_cases aY:j<n
  ·have R:j<l.length:=(by rw[HN.o];exact aY);obtain⟨b,o,A',c',rfl,bO,aZ,aI⟩:=HS.o.get R;have d1:=ae Q aZ;have G:=bM.o _ (aN R);have aJ:=(bN.o _ (aN R)).2.2;obtain⟨x,c⟩:∃x,l[j]=x:=⟨_,rfl⟩;rw[c]at d1 aI G aJ;obtain⟨ml,aK⟩:∃k,x.2.length=k:=⟨_,rfl⟩;rw[aK]at d1 G;obtain⟨bP,bQ,bR⟩:=ZR aI aJ aK;have dm:(0:Int)<=(j:Int):=(by omega);have hi:(j:Int)<(n:Int):=(by omega);have dw:z<=1000000000000000000:=(by omega);obtain⟨bS,bf,bT,a⟩:=ZT d1 aY aH Q;have dz:(ml:Int)<=262144:=(by omega);clear c aK aI aJ R bO aZ hj aH;go_wp2_with fail;clear d1;obtain⟨S,rfl⟩:∃S:World,S=wr:=⟨_,rfl⟩;go_loopw [5,7] (λnv kv bU=>∃(k:Nat) (i:Int),k<=ml/\kv=.int .i64 k/\nv=.int .i64 i/\0<=i/\i<=z+1+ml+k*104858/\Below S.heap.size S bU) (λ_ kv _=>ml-(intOf kv).toNat);case atStart=>exact⟨0,z+1+ml,aL _,rfl,rfl,by omega,by omega,az _ _⟩
   case round=>
    obtain⟨k,i,F,rfl,rfl,bV,U,B⟩:=hrel;have d1:=ae B bS.o;by_cases bg:k<ml
    ·have V:k<x.2.length:=(by rw[bR.o];exact bg);obtain⟨b2,o2,A2,c2,rfl,bW,bi,bn,bq,bu⟩:=bP.o.get V;have J:=a.o.t (B.m a.o.size);obtain⟨e1,e2,e3⟩:=Z0 J bi bn bq;have aM:=bQ.o _ (aN V);have HT:=aa (bu.ag J);obtain⟨t,ht⟩:∃t,(x.2[k]'V).2=t:=⟨_,rfl⟩;rw[ht]at e1 e2 e3 HT aM;have bv:=T.size_le t;have HZ:=aa (λv W h=>Xk (t.bC+1) t v W (by omega) h aM);obtain⟨Y,bz⟩:∃Y,t.size=Y:=⟨_,rfl⟩;rw[bz]at HZ bv;have bX:=U3 Y;obtain⟨q,hq⟩:∃q,Y / 10=q:=⟨_,rfl⟩;have dA:(q:Int)<=104858:=(by omega);rw[hq]at bX;have bY:(0:Int)<=(k:Int):=(by omega);have bZ:(k:Int)<(ml:Int):=(by omega);obtain⟨bA,Z,aO⟩:=ZR bg B U;have dB:i<=2000000000000000000:=(by omega);clear bW bi bn bq bu J V ht bv bz hq aM B U F;go_wp2_with fail;refine(HZ.o _ _ HT.o).m ?_;rintro e d ⟨rfl,C⟩;have cu:=aa (Z.o.t (C.m Z.o.size));clear C e1 e2 e3 d1;go_wp2_with fail;go_roundw;case rel=>exact⟨k+1,i+(q:Int),bA.o,by go_num,by go_num,by omega,by have:=aO.o;push_cast;omega,cu.o⟩
     case measure=>have:=bA.o;simp[intOf];omega
    ·obtain rfl:k=ml:=(by omega);have bY:(0:Int)<=(k:Int):=(by omega);have bZ:¬(k:Int)<(k:Int):=(by omega);obtain⟨Z,aO⟩:=ZQ (a.o.t (B.m a.o.size)) U;clear B U;go_wp2_with fail;go_roundw;case rel=>exact⟨j+1,i,bf.o,by go_num,rfl,bV,by have:=aO.o;have:=bT.o;push_cast;omega,Z.o⟩
     case measure=>have:=bf.o;simp[intOf];omega
  ·obtain rfl:j=n:=(by omega);have hi:¬(j:Int)<(j:Int):=(by omega);have a:=aa Q;clear aH Q hj;by_cases dC:80<z
   ·have aP:=aa (Py wr);go_wp2_with fail;refine aP.o.m ?_;rintro e f ⟨rfl,D⟩;have cz:=aa (a.o.t (D.m a.o.size));clear D;go_wp2_with fail;go_ret;exact⟨rfl,cz.o⟩
   ·have cB:=aa (H.o wr a.o);go_wp2_with fail;refine cB.o.m ?_;rintro e f ⟨v2,rfl,aQ,D⟩;obtain⟨Ax,cx,Bx,dx,rfl,L,bB⟩:=aQ;have ai:=af f (.cells #[.slice Ax X.aS.length cx,.slice Bx X.bH.length dx] 35);have M:=iy.new f [.slice Ax X.aS.length cx,.slice Bx X.bH.length dx] 35;change iy (f.alloc (.cells #[.slice Ax X.aS.length cx,.slice Bx X.bH.length dx] 35)) f.heap.size _ _ at M;obtain⟨bD,ak⟩:=ZQ ((show qi mf (f.alloc (.cells #[.slice Ax X.aS.length cx,.slice Bx X.bH.length dx] 35)) (.agg #[.slice Ax X.aS.length cx,.slice Bx X.bH.length dx]) X from⟨_,_,_,_,rfl,L.any.ag ai,bB.any.ag ai⟩)) ((a.o.t ((D.t (ai.m D.size)).m a.o.size)));clear L bB D ai;go_upto_region 13 with fail;generalize f.alloc (.cells #[.slice Ax X.aS.length cx,.slice Bx X.bH.length dx] 35)=w3 at M bD ak⊢;generalize f.heap.size=g3 at M⊢;have cK:=aa M;clear M;have cO:=aa (I.o w3 ak.o);go_wp2_with fail;refine cO.o.m ?_;rintro e d ⟨v4,rfl,aQ,C⟩;obtain⟨p,r,s,y,rfl,L,bE⟩:=aQ;have av:=af d (.cells #[.slice p X.aS.length r,.slice s X.bH.length y] 35);have N:=iy.new d [.slice p X.aS.length r,.slice s X.bH.length y] 35;change iy (d.alloc (.cells #[.slice p X.aS.length r,.slice s X.bH.length y] 35)) d.heap.size _ _ at N;have bF:=aa (show qi mf (d.alloc (.cells #[.slice p X.aS.length r,.slice s X.bH.length y] 35)) (.agg #[.slice p X.aS.length r,.slice s X.bH.length y]) X from⟨_,_,_,_,rfl,L.ag av,bE.ag av⟩);have ax:=C.t (av.m C.size);obtain⟨bG,aR,aU⟩:=ZR (bD.o.ag ax) (cK.o.ag ax) (ak.o.t (ax.m ak.o.size));clear L bE C av ax;go_upto_region 14 with fail;generalize d.alloc (.cells #[.slice p X.aS.length r,.slice s X.bH.length y] 35)=w5 at N bF bG aR aU⊢;generalize d.heap.size=g5 at N⊢;have bI:=aa N;clear N;have aP:=aa (Py w5);go_wp2_with fail;refine aP.o.m ?_;rintro e w6 ⟨rfl,g⟩;have bJ:=aa (aU.o.t (g.m aU.o.size));have x0:=(aR.o.ag g).cell 0 (u:=.slice Ax X.aS.length cx) rfl;have x1:=(aR.o.ag g).cell 1 (u:=.slice Bx X.bH.length dx) rfl;have y0:=(bI.o.ag g).cell 0 (u:=.slice p X.aS.length r) rfl;have y1:=(bI.o.ag g).cell 1 (u:=.slice s X.bH.length y) rfl;have cZ:=aa (O7 _ _ w6 (bG.o.ag g) (bF.o.ag g) aX.o.1 aX.o.2);clear g;go_wp2_with fail;refine cZ.o.m ?_;rintro e w7 ⟨rfl,bK⟩;have df:=aa (bJ.o.t (bK.m bJ.o.size));clear bK x0 x1 y0 y1;go_wp2_with fail;go_ret;exact⟨rfl,df.o⟩
theorem QH{H:Type}{d0 d1:DataW H}(h:Rows.uptoSmall H ([d0,d1]++[])=true):Rows.uptoBulk d0<=1048576/\Rows.uptoBulk d1<=1048576:=by
 have:=ax h;simp only[dS,Rows.uptoBulkAll]at this;omega
theorem walkSchedulesRaw{H:Type}{enc:TypeId×Value->H}{X Y Z:Prop}(w:World)(v0:Value)(d0:DataW H){b:Nat}{c:List MemPlace}{d:Go.Reach}(f:Value.okWide Tryz.prog w d b 22 v0)(g:DataW.Trod enc Tryz.prog w 0 (λ_=>true) true 22 v0 d0 c)
 (a:Value) (d1:DataW H) {h:Nat} {i:List MemPlace} {j:Go.Reach} (k:Value.okWide Tryz.prog w j h 23 a) (m:DataW.Trod enc Tryz.prog w 0 (λ_=>true) true 23 a d1 i) (_:X) (n:Rows.uptoSmall H ([d0,d1]++[])=true) (_:Y) (_:Z):
 Calls Tryz.prog 3 #[v0,a] w λe w'=>e=.returned (.bool true)/\Below w.heap.size w w':=by
 obtain⟨As,cs,l,rfl,o,p,q,r,s⟩:=KF f g;obtain⟨A,cap,L,rfl,t,u⟩:=OT k m;obtain⟨c1,c2⟩:=QH n;refine R5 l L _ A cap w ⟨As,cs,rfl,o,p,q⟩ t r (aD s c1) (λx v=>aD (Lm v) (aD u c2)) ?_;have:=T.kN L;omega
end
end Go.Proofs.YtaciciokmpbkkaaGreatDoor
