import Derived.Test.YtaciciokmpbkkaaGreatDoorShelfG
import Derived.Test.YtaciciokmpbkkaaGreatDoorWebG5
set_option maxRecDepth 100000
set_option maxHeartbeats 16000000
namespace Go.Proofs.YtaciciokmpbkkaaGreatDoor
section
open Go.RowKit
theorem CT.Qb{S:Nat->Bool}{w:World}{k:Int}{s:ByteArray}{b off n cap:Nat}{t:T}(h:bN S w (.agg #[.int .i64 k,.string s,.slice (some ⟨b,off,none⟩) n cap]) t):∃xs,CT S w xs t.ay/\∀j u,xs[j]?=some u->w.cell? ⟨b,off+j,none⟩=some u:=by
 cases h with
 |mk k s A cap f U B C D E hA hU=>
 have key:∀{q:Addr} {v:Value},(only w S).cell? q=some v->w.cell? q=some v:=λ{q v} l=>by
  rw[fM]at l;split at l;·exact l
  ·cases l
 show ∃xs,CT S w xs f/\_;have o:∀i,i<f.length->w.cell? ⟨b,off+i*3,none⟩=some (U i).1/\w.cell? ⟨b,off+i*3+1,none⟩=some (U i).2.1/\w.cell? ⟨b,off+i*3+2,none⟩=some (U i).2.2:=λi hi=>by
  rcases hA with h0|⟨b',F,e,o⟩;·omega
  ·injection e with e;injection e with r x;subst r;subst x;obtain⟨a,b,c⟩:=o i hi;exact⟨key a,key b,key c⟩
 clear hA;have main:∀(m:Nat),m<=f.length->∃xs,CT S w xs (f.take m)/\∀j u,xs[j]?=some u->w.cell? ⟨b,off+j,none⟩=some u:=by
  intro m;induction m with
  |zero=>exact λ_=>⟨[],by rw[iH];exact CT.nil S w,λj u hu=>by simp at hu⟩
  |succ m y=>
   intro G;obtain⟨xs,g,p⟩:=y (by omega);have z:xs.length=m*3:=(by rw[g.1,aW,iP (by omega)]);obtain⟨c0,c1,c2⟩:=o m (by omega);refine⟨xs++[(U m).1,(U m).2.1,(U m).2.2],?_,λj u hu=>?_⟩
   ·rw[aV (by omega)];exact g.append (CT.one (hU m (by omega)))
   ·by_cases hj:j<m*3
    ·rw[bP (by omega)]at hu;exact p j u hu
    ·rw[bD (by omega),z]at hu;obtain⟨d,rfl⟩:∃d,j=m*3+d:=⟨j-m*3,by omega⟩;rw[mV]at hu
     match d,hu with
     |0,hu=>injection hu with hu;subst hu;exact c0
     |1,hu=>injection hu with hu;subst hu;exact c1
     |2,hu=>injection hu with hu;subst hu;exact c2
     |d+3,hu=>simp at hu
 obtain⟨xs,g,p⟩:=main f.length (ak _);rw[aY (ak _)]at g;exact⟨xs,g,p⟩
theorem CT.term{S:Nat->Bool}{w:World}{xs:List Value}{L:List T}{b cap:Nat}(h:CT S w xs L)(e:∀j u,xs[j]?=some u->w.cell? ⟨b,j,none⟩=some u)(hS:S b=true)(k:Int)(s:ByteArray)(g: -9223372036854775808<=k/\k<=9223372036854775807)(l:s.size<=maxLen)(m:L.length<=cap)(n:cap<=maxLen):
 bN S w (.agg #[.int .i64 k,.string s,.slice (some ⟨b,0,none⟩) L.length cap]) (.mk k s L):=by
 have f:∀i (hi:i<L.length),∃x:Value×Value×Value,xs[i*3]?=some x.1/\xs[i*3+1]?=some x.2.1/\xs[i*3+2]?=some x.2.2/\bN S w (.agg #[x.1,x.2.1,x.2.2]) L[i]:=λi hi=>by
  obtain⟨u0,u1,u2,a,b,c,d⟩:=h.2 i hi;exact⟨(u0,u1,u2),a,b,c,d⟩
 refine .mk k s _ cap L (λi=>if hi:i<L.length then (f i hi).choose else (undef,undef,undef)) g l m n (.inr ⟨b,0,rfl,λi hi=>?_⟩) (λi hi=>?_)
 ·rw[dif_pos hi];obtain⟨a,b',c,_⟩:=(f i hi).choose_spec;rw[fM,fM,fM,aI hS,aI hS,aI hS,dJ];exact⟨e _ _ a,e _ _ b',e _ _ c⟩
 ·rw[dif_pos hi];exact(f i hi).choose_spec.2.2.2
theorem CT.erase{S:Nat->Bool}{w:World}{xs:List Value}{L:List T}(h:CT S w xs L)(i:Nat):CT S w (xs.take (i*3)++xs.drop ((i+1)*3)) (L.eraseIdx i):=by
 rw[List.eraseIdx_eq_take_drop_succ];exact(h.take i).append (h.drop (i+1))
theorem Ub{S:Nat->Bool}{k:Int}{s:ByteArray}{b off n cap:Nat}{t:T}(w:World)(h:bN S w (.agg #[.int .i64 k,.string s,.slice (some ⟨b,off,none⟩) n cap]) t)(g:n=t.ay.length)(h0:0<n)(q:n<=1048576):
 Calls Tryz.prog 218 #[.slice (some ⟨b,off,none⟩) n cap] w λe w'=>∃a c2 xs,e=.returned (.slice (some ⟨a,0,none⟩) n c2)/\w'.ownsRow w.heap.size 29 3 (.slice (some ⟨a,0,none⟩) n c2) n xs/\CT S w xs t.ay/\Below w.heap.size w w':=by
 obtain⟨i,j,l,m,o⟩:=dV Tryz.uI;obtain⟨xs,c,p⟩:=CT.Qb h;have d:=AnyE.slices_Clone (P:=Tryz.prog) Tryz.YP i _ 3 48 j l m o rfl (by omega) (λw=>Tryz.sizeOf29 w) b off n cap xs w (by rw[c.1,g]) (by unfold maxLen;omega) (by omega) p c.one';change Calls Tryz.prog 218 _ _ _ at d;refine d.m ?_;rintro e w' ⟨r,rfl,f,_,hb⟩;obtain⟨a,c2,rfl,_⟩:=f.form h0;exact⟨a,c2,xs,rfl,f,c,hb⟩
end
section
open Go.RowKit
variable {X:Nat->Bool}
theorem Rj{B g M:Nat}{vs vp:Value}{w w1 a:World}{W:List fC}{t:T}{i c c2:Nat}{xs:List Value}(h:gD X B w g M vs vp W)(l:CT (nr X g M vs vp) w xs t.ay)(d:w1.ownsRow w.heap.size 29 3 (.slice (some ⟨c,0,none⟩) t.ay.length c2) t.ay.length xs)
 (hb:Below w.heap.size w w1) (hi:i<t.ay.length) (hd:∀k u,(xs.take (i*3)++xs.drop ((i+1)*3))[k]?=some u->a.cell? ⟨c,k,none⟩=some u) (m:Below c w1 a):
 bN (nr X g M vs vp) a (.agg #[.int .i64 7,.string ⟨#[]⟩,.slice (some ⟨c,0,none⟩) (t.ay.length-1) c2]) (t.iI i)/\Below w.heap.size w a:=by
 obtain⟨f,a2,y,a3⟩:=vV d (b:=c) rfl;have j:Below w.heap.size w a:=hb.t (m.m f);have n:=(l.aR (S':=nr X g M vs vp) λb o p=>⟨o,j.block b p⟩).erase i;have e:(t.ay.eraseIdx i).length=t.ay.length-1:=jU hi;have q:t.ay.length<=c2/\c2<=maxLen:=by
  rcases d.2 with⟨h0,_⟩|⟨_,cap,_,r,_,_,s,v,_⟩;·cases h0
  ·injection r with z A x;subst x;exact⟨s,v⟩
 have:=CT.term n hd (qp h f) 7 ⟨#[]⟩ (by omega) (aL _) (by rw[e];omega) q.2;rw[e]at this;exact⟨this,j⟩
namespace Wb
variable {rec:List fC->T->List fC×Option Nat} {t:T} {W:List fC} {f j i:Nat}
theorem Uy(a:jk W (t.eQ j).key=none):pow rec t (f+1) j W=pow rec t f (j+1) W:=by
 have:find W (t.eQ j)=none:=a;simp only[pow,this]
theorem pow_one(a:jk W (t.eQ j).key=some i)(b:t.ay.length=1):pow rec t (f+1) j W=((add W t 11 [i]).1,some (add W t 11 [i]).2):=by
 have:find W (t.eQ j)=some i:=a;simp only[pow,this,aI b]
theorem Uv(a:jk W (t.eQ j).key=some i)(b:t.ay.length≠1)(c:(rec W (t.iI j)).2=none):pow rec t (f+1) j W=pow rec t f (j+1) (rec W (t.iI j)).1:=by
 have:find W (t.eQ j)=some i:=a;simp only[pow,this,aG b,c]
theorem Uw{p:Nat}(a:jk W (t.eQ j).key=some i)(b:t.ay.length≠1)(c:(rec W (t.iI j)).2=some p):pow rec t (f+1) j W=((add (rec W (t.iI j)).1 t 10 [p,i]).1,some (add (rec W (t.iI j)).1 t 10 [p,i]).2):=by
 have:find W (t.eQ j)=some i:=a;simp only[pow,this,aG b,c]
end Wb
theorem XY{B g M:Nat}{vs vp:Value}{W:List fC}{U:List T}{rec:List fC->T->List fC×Option Nat}(hU:yA U)(t:T)(v:Value)(w:World)(aF:0<t.ay.length)(bQ:t∈U)(hI:Inv U W)
 (h:gD X B w g M vs vp W) (hT:bN (nr X g M vs vp) w v t) (bR:t.bC<=1048576) (J:∀i,i<t.ay.length->1<t.ay.length->Wb.Bt U rec (t.iI i)) (hb:∀i,i<t.ay.length->1<t.ay.length->FR X B U rec (t.iI i)):
 Calls Tryz.prog 213 #[.pointer (some ⟨g,0,none⟩),v] w (Ym X B g M w vs vp (Wb.pow rec t t.ay.length 0 W)):=by
 obtain⟨A0,C,rfl⟩:=hT.view;obtain⟨b,off,_,_,rfl,hS,_⟩:=hT.OD aF;have D:=h.lt.2;have hw:=af w (.cells #[.int .i64 t.aC,.string t.aJ,.slice (some ⟨b,off,none⟩) t.ay.length C] 29);have K:=jM.new w (.int .i64 t.aC) (.string t.aJ) (.slice (some ⟨b,off,none⟩) t.ay.length C);have bT:t.ay.length<=262144:=(by have:=T.kN t.ay;have:=t.CV;omega);have y:=aa (show Inv U W/\gD X B _ g M vs vp W/\Fr X B g M vs vp w vs vp _/\bN (nr X g M vs vp) _ (.agg #[.int .i64 t.aC,.string t.aJ,.slice (some ⟨b,off,none⟩) t.ay.length C]) t/\nr X g M vs vp w.heap.size=true from
  ⟨hI,h.ag hw,(Fr.refl (X:=X) B g M vs vp w).ag D hw,hT.aR (λb hb l=>⟨hb,hw.block b l⟩),qp h (ak _)⟩)
 obtain⟨R,hR⟩:∃R,Wb.pow rec t t.ay.length 0 W=R:=⟨_,rfl⟩;rw[hR];obtain⟨HR,HP,HB⟩:=ZR hR J hb;have bU:=aa (λ(j:Nat) (hj:j<t.ay.length) v' W' a c d (hW:gD X B W' g M c d a) (aG:aO W' v' (t.eQ j))=>Qc (X:=X) (t.eQ j) v' W' hW aG (by have:=T.Dh hj;omega));have bv:=aa (λv' W' how F fc jv a vs' mK (bV:Inv U a) hW aG hF=>VW (X:=X) (W:=a) (g:=g) (M:=M) (B:=B) (vs:=vs') (vp:=mK) t v' W' how jv F fc hW aG bR hF (bV.room hU bQ));obtain⟨n,hn⟩:∃n,t.ay.length=n:=⟨_,rfl⟩;obtain⟨k,hk⟩:∃k,t.aC=k:=⟨_,rfl⟩;obtain⟨nm,bz⟩:∃nm,t.aJ=nm:=⟨_,rfl⟩;rw[hk,bz,hn]at K y⊢;rw[hn]at aF bT HR;have o:=aa hn;clear hR J hb h hT hI hw hk bz hn;go_enter Tryz.func213,Tryz.ntmps213;go_upto_region 1 with fail;generalize w.alloc (.cells #[.int .i64 k,.string nm,.slice (some ⟨b,off,none⟩) n C] 29)=w1 at K y⊢;obtain⟨x0,x1,x2⟩:=K.cells;have BX:=aa K;clear K;go_wp2_with fail;clear x0 x1 x2;go_loopw [13] (λi wr=>∃(j:Nat) (a:List fC) (c d:Value),j<=n/\i=.int .i64 j/\Wb.pow rec t (n-j) j a=R/\Inv U a/\gD X B wr g M c d a/\Fr X B g M vs vp w c d wr/\bN (nr X g M c d) wr (.agg #[.int .i64 k,.string nm,.slice (some ⟨b,off,none⟩) n C]) t/\jM wr w.heap.size (.int .i64 k) (.string nm) (.slice (some ⟨b,off,none⟩) n C)/\nr X g M c d w.heap.size=true) (λi _=>n-(intOf i).toNat);case atStart=>exact⟨0,W,vs,vp,aL _,rfl,HR.o,y.o.1,y.o.2.1,y.o.2.2.1,y.o.2.2.2.1,BX.o,y.o.2.2.2.2⟩
 case round=>
  obtain⟨j,a,c,d,hj,rfl,aH,aI,ae,aK,ai,aM,aN⟩:=hrel;obtain⟨L,av,bA,aP,bW⟩:=ZU aH aI aK aN aM;by_cases bB:j<n
  ·obtain⟨b',dO,A1,c1,N,dQ,d0,d1,d2,bD⟩:=ai.eQ (i:=j) (by rw[o.o];exact bB);injection N with N;injection N with N e2;subst N;subst e2;have hi:(j:Int)<(n:Int):=(by omega);have E:=af wr (.cells #[.int .i64 (t.eQ j).aC,.string (t.eQ j).aJ,.slice A1 (t.eQ j).ay.length c1] 29);obtain⟨ax,bX,bY,bZ,cu,r⟩:=ZV (ae.ag E) (ai.aR (S':=nr X g M c d) (λb hb l=>⟨hb,E.block b l⟩)) (bD.aR (S':=nr X g M c d) (λb hb l=>⟨hb,E.block b l⟩)) (bA.o.ag D E) (bW.o.ag E) bB;clear aH aI ae aK ai aM aN bD E;have bk:=jM.new wr (.int .i64 (t.eQ j).aC) (.string (t.eQ j).aJ) (.slice A1 (t.eQ j).ay.length c1);go_upto_region 4 with fail;generalize wr.alloc (.cells #[.int .i64 (t.eQ j).aC,.string (t.eQ j).aJ,.slice A1 (t.eQ j).ay.length c1] 29)=wa at*;obtain⟨cz,cB,cK⟩:=bk.cells;clear bk d0 d1 d2;go_wp2_with fail;refine(bU.o j (by rw[o.o];exact r.o) _ _ _ _ _ ax.o bY.o.at).m ?_;rintro e w2 ⟨s,O⟩;obtain⟨P,az,aQ,aS⟩:=ZT (ax.o.ag O) (bX.o.aR (S':=nr X g M c d) (λb hb l=>⟨hb,O.block b l⟩)) (bZ.o.ag D O) (cu.o.ag O);obtain⟨f,bE⟩:∃f,n-j=f+1:=⟨n-j-1,by have:=r.o;omega⟩;have G:=aa bE;clear O cz cB cK bE;cases H:jk a (t.eQ j).key with
   |none=>
    have z:e=.returned (.int .i64 (-1)):=(by rw[s,H];rfl);clear s;subst z;have x:=aa (show Wb.pow rec t (n-(j+1)) (j+1) a=R by
     rw[show n-(j+1)=f by have:=G.o;omega,<-L.o,G.o];exact(Wb.Uy H).symm)
    clear H;go_wp2_with fail;go_roundw;case rel=>exact⟨j+1,a,c,d,r.o,by go_num,x.o,av.o,P.o,aQ.o,az.o,aS.o,aP.o⟩
    case measure=>have:=r.o;simp[intOf];omega
   |some m=>
    have z:e=.returned (.int .i64 (m:Int)):=(by rw[s,H];rfl);clear s;subst z;have dR:¬((m:Int)<0):=(by omega);have aT:=aa H;clear H;obtain⟨y0,y1,y2⟩:=aS.o.cells;by_cases h1:n=1
    ·subst h1;have x:=aa (show R=((Wb.add a t 11 [m]).1,some (Wb.add a t 11 [m]).2) by
      rw[<-L.o,G.o];exact Wb.pow_one aT.o o.o)
     have A:=af w2 (.cells #[.int .i64 (m:Int)] 3);obtain⟨cO,cZ,df,dh⟩:=ZT ((lG.one (S:=nr X g M c d) w2 m 3 (qp P.o (ak _)))) (P.o.ag A) (az.o.aR (S':=nr X g M c d) (λb hb l=>⟨hb,A.block b l⟩)) (aQ.o.ag D A);clear A;go_wp2_with fail;refine(bv.o _ _ 11 _ _ [m] _ _ _ av.o cZ.o df.o cO.o).m ?_;rintro e w5 ⟨rfl,bF⟩;have aU:=aa (mJ.after dh.o bF);clear bF y0 y1 y2;go_wp2_with fail;go_ret;rw[x.o];exact⟨rfl,aU.o⟩
    ·have dS:((n:Int)==1)=false:=(by rw[aB];omega);have dU:¬((n:Int)=1):=(by omega);have H1:=aa (show 1<n by have:=r.o;omega);clear h1;go_wp2_with fail;refine(Ub w2 az.o o.o.symm aF (by omega)).m ?_;rintro e w3 ⟨Q,c2,xs,rfl,V,aA,bG⟩;have di:n<=c2:=by
      rcases V.2 with⟨h0,_⟩|⟨_,cap,_,hv,_,_,h5,_⟩;·cases h0
      ·injection hv with dV dW dm;subst dm;exact h5
     have dw:=aa (VZ Q n c2 j (j+1) xs w3 (by rw[aA.1,o.o]) rfl r.o di (λk u hu=>by have:=V.cells (g:=Q) rfl k u hu;rw[bS,dJ]at this;exact this) (λk _=>V.frozenAt k) aA.one');obtain⟨dx,dz,dA⟩:=ZR V aA bG;clear V aA bG y0 y1 y2;go_wp2_with fail;refine dw.o.m ?_;rintro e w4 ⟨rfl,hd,A⟩;obtain⟨aV,aW⟩:=Rj (t:=t) P.o dz.o (by rw[o.o];exact dx.o) dA.o (by rw[o.o];exact r.o) hd A;rw[o.o]at aV;have aX:=af w4 (.cells #[.int .i64 7,.string ⟨#[]⟩,.slice (some ⟨Q,0,none⟩) (n-1) c2] 29);have bl:=jM.new w4 (.int .i64 7) (.string ⟨#[]⟩) (.slice (some ⟨Q,0,none⟩) (n-1) c2);have Y:=aW.t (aX.m aW.size);obtain⟨dB,aU,dC,dD,bH⟩:=ZU (aV.aR (S':=nr X g M c d) (λb hb l=>⟨hb,aX.block b l⟩)) (P.o.ag Y) (az.o.aR (S':=nr X g M c d) (λb hb l=>⟨hb,Y.block b l⟩)) (aQ.o.ag D Y) (aS.o.ag Y);clear hd A aV aW aX Y;go_upto_region 9 with fail;generalize w4.alloc (.cells #[.int .i64 7,.string ⟨#[]⟩,.slice (some ⟨Q,0,none⟩) (n-1) c2] 29)=w5 at*;obtain⟨z0,z1,z2⟩:=bl.cells;have aY:j<t.ay.length:=(by rw[o.o];exact r.o);have aZ:1<t.ay.length:=(by rw[o.o];exact H1.o);have J:=HP.o j aY aZ a av.o;have bf:=HB.o j aY aZ _ w5 g M c d a av.o aU.o dB.o;have bg:(rec a (t.iI j)).2=none->Wb.pow rec t f (j+1) (rec a (t.iI j)).1=R:=λe=>by
      rw[<-L.o,G.o];exact(Wb.Uv aT.o (by omega) e).symm
     have bi:∀p,(rec a (t.iI j)).2=some p->R=((Wb.add (rec a (t.iI j)).1 t 10 [p,m]).1,some (Wb.add (rec a (t.iI j)).1 t 10 [p,m]).2):=λp e=>by
      rw[<-L.o,G.o];exact Wb.Uw aT.o (by omega) e
     generalize rec a (t.iI j)=q at J bf bg bi;obtain⟨bI,_,_⟩:=J;obtain⟨bJ,dE,dF,dG⟩:=ZT bI bf bg bi;clear bl aY aZ bI bf bg bi;go_wp2_with fail;refine dE.o.m ?_;rintro e w6 ⟨s,bn,bq,bK,Z⟩;obtain⟨bu,bL,bM,bO,dH⟩:=ZU bK (dC.o.fr Z) (dD.o.t Z) (bH.o.fr Z aP.o) ((Z.aR _ aP.o bH.o.lt).1);clear bK Z z0 z1 z2;cases I:q.2 with
     |none=>
      have z:e=.returned (.int .i64 (-1)):=(by rw[s,I];rfl);clear s;subst z;have x:=aa (show Wb.pow rec t (n-(j+1)) (j+1) q.1=R by
       rw[show n-(j+1)=f by have:=G.o;omega];exact dF.o I)
      clear I;go_wp2_with fail;go_roundw;case rel=>exact⟨j+1,q.1,bn,bq,r.o,by go_num,x.o,bJ.o,bu.o,bM.o,bL.o,bO.o,dH.o⟩
      case measure=>have:=r.o;simp[intOf];omega
     |some p=>
      have z:e=.returned (.int .i64 (p:Int)):=(by rw[s,I];rfl);clear s;subst z;have dX:(0:Int)<=(p:Int):=(by omega);have x:=aa (dG.o p I);clear I;obtain⟨y0,y1,y2⟩:=bO.o.cells;have aD:=af w6 (.cells #[.int .i64 (p:Int),.int .i64 (m:Int)] 3);obtain⟨dI,dK,dL,dM⟩:=ZT ((lG.two (S:=nr X g M bn bq) w6 p m 3 (qp bu.o (ak _)))) (bu.o.ag aD) (bL.o.aR (S':=nr X g M bn bq) (λb hb l=>⟨hb,aD.block b l⟩)) (bM.o.ag D aD);clear aD;go_wp2_with fail;refine(bv.o _ _ 10 _ _ [p,m] _ _ _ bJ.o dK.o dL.o dI.o).m ?_;rintro e w8 ⟨rfl,bP⟩;have dN:=aa (mJ.after dM.o bP);clear bP y0 y1 y2;go_wp2_with fail;go_ret;rw[x.o];exact⟨rfl,dN.o⟩
  ·obtain rfl:j=n:=(by omega);have x:=aa (show R=(a,none) by have:=L.o;rw[qQ]at this;exact this.symm);have ax:=aa ae;clear aH aI ae aK ai aM aN;go_wp2_with fail;go_ret;rw[x.o];exact⟨rfl,_,_,ax.o,bA.o⟩
end
section
open Go.RowKit
variable {X:Nat->Bool}
namespace Wb
variable {t:T} {W:List fC} {n i:Nat}
theorem Ll(a:jk W t.key=some i):build (n+1) W t=(W,some i):=by
 have:find W t=some i:=a;simp only[build,this]
theorem Oe(a:jk W t.key=none)(b:t.aC=3):build (n+1) W t=both (build n) W t 6:=by
 have:find W t=none:=a;simp only[build,this];rw[aG (by omega),aI b]
theorem Og(a:jk W t.key=none)(b:t.aC=5):build (n+1) W t=both (build n) W t 8:=by
 have:find W t=none:=a;simp only[build,this];rw[aG (by omega),aG (by omega),aI b]
theorem Oh(a:jk W t.key=none)(b:t.aC=6):build (n+1) W t=both (build n) W t 9:=by
 have:find W t=none:=a;simp only[build,this];rw[aG (by omega),aG (by omega),aG (by omega),aI b]
theorem QD(a:jk W t.key=none)(b:t.aC=7):build (n+1) W t=pow (build n) t t.ay.length 0 W:=by
 have:find W t=none:=a;simp only[build,this];rw[aG (by omega),aG (by omega),aG (by omega),aG (by omega),aI b]
theorem Oc(a:jk W t.key=none)(b:t.aC=1\/t.aC=2):build (n+1) W t=(W,none):=by
 have:find W t=none:=a;simp only[build,this];rw[aG (by omega),aG (by omega),aG (by omega),aG (by omega),aG (by omega)]
theorem Od(a:jk W t.key=none)(b:t.aC=4)(h:(build n W (t.eQ 0)).2=none):build (n+1) W t=((build n W (t.eQ 0)).1,none):=by
 have:find W t=none:=a;simp only[build,this];rw[aI b,h]
theorem J9(a:jk W t.key=none)(b:t.aC=4)(h:(build n W (t.eQ 0)).2=some i):build (n+1) W t=((add (build n W (t.eQ 0)).1 t 7 [i]).1,some (add (build n W (t.eQ 0)).1 t 7 [i]).2):=by
 have:find W t=none:=a;simp only[build,this];rw[aI b,h]
end Wb
theorem Ua{B:Nat}{U:List T}(hU:yA U)(aY:∀t∈U,t.bC<=1048576):∀(n:Nat) (t:T),t.bC<n->t∈U->FR X B U (Wb.build n) t:=by
 intro n;induction n with
 |zero=>intro t h;omega
 |succ n ih=>
  intro t hn d v w g M vs vp W P h hT;obtain⟨A0,ax,rfl⟩:=hT.view;have Q:=aY t d;have hz:=h.lt.2;have az:=T.oU (aP.1 (hU.ok t d)).2;have V:=af w (.cells #[.int .i64 t.aC,.string t.aJ,.slice A0 t.ay.length ax] 29);have L:=jM.new w (.int .i64 t.aC) (.string t.aJ) (.slice A0 t.ay.length ax);obtain⟨HN,aA,Y,Z,aZ⟩:=ZU (qp h (ak _)) (((Fr.refl (X:=X) B g M vs vp w).ag hz V)) (h.ag V) (hT.aR (S':=nr X g M vs vp) (λb hb N=>⟨hb,V.block b N⟩)) (λj W' (u:gD X B W' g M vs vp W) (x:aO W' j t)=>Qc (X:=X) t j W' u x Q);have aB:=aa (λi (hi:i<t.ay.length)=>ih (t.eQ i) (by have:=T.Dh hi;omega) (hU.eQ t d i hi));have aD:=aa (λi (hi:i<t.ay.length)=>Wb.lH hU n (t.eQ i) (hU.eQ t d i hi));have bf:=aa (λ(l:t.aC=7) i (hi:i<t.ay.length) (y:1<t.ay.length)=>ih (t.iI i) (by have:=T.Ba hi;omega) (hU.less t d l y i hi));obtain⟨bg,bi⟩:=ZQ (λ(l:t.aC=7) i (hi:i<t.ay.length) (y:1<t.ay.length)=>Wb.lH hU n (t.iI i) (hU.less t d l y i hi)) (λj W' how F fc jv Wj vs' mK (bn:Inv U Wj) u x hF=>VW (X:=X) (W:=Wj) (g:=g) (M:=M) (B:=B) (vs:=vs') (vp:=mK) t j W' how jv F fc u x Q hF (bn.room hU d));have aF:=aa (λj W' how (h2:t.ay.length=2) u x=>YW (X:=X) (rec:=Wb.build n) (vs:=vs) (vp:=vp) (g:=g) (M:=M) (B:=B) hU t j W' how h2 d P u x Q (aD.o 0 (by omega)) (aD.o 1 (by omega)) (aB.o 0 (by omega)) (aB.o 1 (by omega)));have bq:=aa (λj W' (l:t.aC=7) (h0:0<t.ay.length) u x=>XY (X:=X) (rec:=Wb.build n) (vs:=vs) (vp:=vp) (g:=g) (M:=M) (B:=B) hU t j W' h0 d P u x Q (bg.o l) (bf.o l));obtain⟨R,hR⟩:∃R,Wb.build (n+1) W t=R:=⟨_,rfl⟩;rw[hR];obtain⟨m,HI⟩:=ZQ hR P;clear hR P h hT V ih hn;obtain⟨k,hk⟩:∃k,t.aC=k:=⟨_,rfl⟩;obtain⟨nm,aL⟩:∃nm,t.aJ=nm:=⟨_,rfl⟩;obtain⟨kn,ae⟩:∃kn,t.ay.length=kn:=⟨_,rfl⟩;rw[hk,aL,ae]at L aA Y Z⊢;rw[hk,ae]at az;obtain⟨o,z,bu⟩:=ZR hk ae az;clear hk aL ae az;go_enter Tryz.func185,Tryz.ntmps185;go_upto_region 1 with fail;generalize w.alloc (.cells #[.int .i64 k,.string nm,.slice A0 kn ax] 29)=w1 at L aA Y Z⊢;obtain⟨bv,bz,bA⟩:=L.cells;have BX:=aa L;clear L;go_wp2_with fail;refine(aZ.o _ _ Y.o Z.o.at).m ?_;rintro e w2 ⟨f,O⟩;obtain⟨r,I,s,aM⟩:=ZT (Y.o.ag O) (Z.o.aR (S':=nr X g M vs vp) (λb hb N=>⟨hb,O.block b N⟩)) (aA.o.ag hz O) (BX.o.ag O);clear O bv bz bA;cases J:jk W t.key with
  |some i=>
   have A:e=.returned (.int .i64 (i:Int)):=(by rw[f,J];rfl);clear f;subst A;have bB:(0:Int)<=(i:Int):=(by omega);have a:=aa (show R=(W,some i) by rw[<-m.o];exact Wb.Ll J);clear J;go_wp2_with fail;go_ret;rw[a.o];exact⟨rfl,_,_,r.o,s.o⟩
  |none=>
   have A:e=.returned (.int .i64 (-1)):=(by rw[f,J];rfl);clear f;subst A;have C:=aa J;clear J;obtain⟨D,E,G⟩:=aM.o.cells;rcases bu.o with⟨aN,h0⟩|⟨bD,h2⟩|⟨h4,y⟩|⟨l,y,bQ⟩
   ·have a:=aa (show R=(W,none) by rw[<-m.o];exact Wb.Oc C.o (by rw[o.o];exact aN));rcases aN with rfl|rfl
    ·clear h0;go_wp2_with fail;go_ret;rw[a.o];exact⟨rfl,_,_,r.o,s.o⟩
    ·clear h0;go_wp2_with fail;go_ret;rw[a.o];exact⟨rfl,_,_,r.o,s.o⟩
   ·subst h2;rcases bD with rfl|rfl|rfl
    ·have a:=aa (m.o.symm.t (Wb.Oe (n:=n) C.o o.o));go_wp2_with fail;refine(aF.o _ _ 6 z.o r.o I.o).m ?_;rintro e w5 ⟨rfl,c⟩;rw[<-a.o]at c⊢;have H:=aa (mJ.after s.o c);clear c D E G;go_wp2_with fail;go_ret;exact⟨rfl,H.o⟩
    ·have a:=aa (m.o.symm.t (Wb.Og (n:=n) C.o o.o));go_wp2_with fail;refine(aF.o _ _ 8 z.o r.o I.o).m ?_;rintro e w5 ⟨rfl,c⟩;rw[<-a.o]at c⊢;have H:=aa (mJ.after s.o c);clear c D E G;go_wp2_with fail;go_ret;exact⟨rfl,H.o⟩
    ·have a:=aa (m.o.symm.t (Wb.Oh (n:=n) C.o o.o));go_wp2_with fail;refine(aF.o _ _ 9 z.o r.o I.o).m ?_;rintro e w5 ⟨rfl,c⟩;rw[<-a.o]at c⊢;have H:=aa (mJ.after s.o c);clear c D E G;go_wp2_with fail;go_ret;exact⟨rfl,H.o⟩
   ·subst h4;subst y;obtain⟨b,off,A1,c1,rfl,_,d0,d1,d2,aQ⟩:=I.o.OD (by rw[z.o];decide);have bE:=aa aQ;have hp:=aD.o 0 (by rw[z.o];decide) W HI.o;have aG:=aB.o 0 (by rw[z.o];decide) _ _ g M vs vp W HI.o r.o bE.o;have aH:=λe=>m.o.symm.t (Wb.Od (n:=n) C.o o.o e);have aI:=λp e=>m.o.symm.t (Wb.J9 (n:=n) (i:=p) C.o o.o e);generalize Wb.build n W (t.eQ 0)=q at hp aG aH aI;obtain⟨aS,_,_⟩:=hp;obtain⟨bF,bG,bH,bI⟩:=ZT aS aG aH aI;clear aQ aS aG aH aI;go_wp2_with fail;refine bG.o.m ?_;rintro e w6 ⟨f,aT,aU,aV,ai⟩;obtain⟨aK,bJ,aW,bK⟩:=ZT aV (I.o.fr ai) (s.o.t ai) (aM.o.fr ai HN.o);clear aV ai D E G d0 d1 d2;cases K:q.2 with
    |none=>
     have A:e=.returned (.int .i64 (-1)):=(by rw[f,K];rfl);clear f;subst A;have a:=aa (bH.o K);clear K;go_wp2_with fail;go_ret;rw[a.o];exact⟨rfl,_,_,aK.o,aW.o⟩
    |some p=>
     have A:e=.returned (.int .i64 (p:Int)):=(by rw[f,K];rfl);clear f;subst A;have bB:(0:Int)<=(p:Int):=(by omega);have a:=aa (bI.o p K);clear K;obtain⟨D,E,G⟩:=bK.o.cells;have av:=af w6 (.cells #[.int .i64 (p:Int)] 3);obtain⟨bL,bM,bN,bO⟩:=ZT ((lG.one (S:=nr X g M aT aU) w6 p 3 (qp aK.o (ak _)))) (aK.o.ag av) (bJ.o.aR (S':=nr X g M aT aU) (λb hb N=>⟨hb,av.block b N⟩)) (aW.o.ag hz av);clear av;go_wp2_with fail;refine(bi.o _ _ 7 _ _ [p] _ _ _ bF.o bM.o bN.o bL.o).m ?_;rintro e w8 ⟨rfl,aX⟩;have bP:=aa (mJ.after bO.o aX);clear aX D E G;go_wp2_with fail;go_ret;rw[a.o];exact⟨rfl,bP.o⟩
   ·subst l;have a:=aa (m.o.symm.t (Wb.QD (n:=n) C.o o.o));go_wp2_with fail;refine(bq.o _ _ o.o (by rw[z.o];exact y) r.o I.o).m ?_;rintro e w5 ⟨rfl,c⟩;rw[<-a.o]at c⊢;have H:=aa (mJ.after s.o c);clear c D E G;go_wp2_with fail;go_ret;exact⟨rfl,H.o⟩
end
section
open Go.RowKit Go.ChangeShapes Go.WideShapes Go.Deep
def zA(w:World)(A:Option Addr)(n:Nat):Prop:=n=0\/∃b off,A=some ⟨b,off,none⟩/\∀j,j<n->∃z:Int,w.cell? ⟨b,off+j,none⟩=some (.int .i64 z)/\ -9223372036854775808<=z/\z<=9223372036854775807
theorem zA.aR{w w':World}{A:Option Addr}{n:Nat}(h:zA w A n)(c:∀p:Addr,(w.cell? p).isSome=true->w'.cell? p=w.cell? p):zA w' A n:=by
 rcases h with h|⟨b,off,e,d⟩;·exact .inl h
 ·refine .inr ⟨b,off,e,λj hj=>?_⟩;obtain⟨z,a,f⟩:=d j hj;exact⟨z,(c _ (by rw[a];rfl)).t a,f⟩
theorem zA.below{w w':World}{A:Option Addr}{n:Nat}(h:zA w A n)(hb:Below w.heap.size w w'):zA w' A n:=by
 refine h.aR λp b=>?_;obtain⟨v,a⟩:=eO.1 b;rw[a];exact ae hb a
def ny(B g:Nat)(w:World):Prop:=B<=g/\∃(A:Option Addr) (n c k:Nat),w.heap[g]?=some (.cells #[.slice A n c,.int .i64 (k:Int)] 116 (0,0))/\k<=n/\n<=80/\n<=c/\
 (n=0\/∃b off,b<B/\A=some ⟨b,off,none⟩/\∀j,j<n->∃z:Int,w.cell? ⟨b,off+j,none⟩=some (.int .i64 z)/\ -9223372036854775808<=z/\z<=9223372036854775807)
theorem ny.below{B a g:Nat}{w w':World}(h:ny B g w)(hb:Below a w w')(f:g<a):ny B g w':=by
 obtain⟨h0,A,n,c,k,i,l,m,o,d⟩:=h;refine⟨h0,A,n,c,k,(hb.block g f).t i,l,m,o,?_⟩;rcases d with d|⟨b,off,q,e,r⟩;·exact .inl d
 ·refine .inr ⟨b,off,q,e,λj hj=>?_⟩;obtain⟨z,s,t⟩:=r j hj;exact⟨z,(hb.cell (p:=⟨b,off+j,none⟩) (by show b<a;omega)).t s,t⟩
theorem ny.lt{B g:Nat}{w:World}(h:ny B g w):g<w.heap.size:=by
 obtain⟨_,A,n,c,k,a,_⟩:=h;rcases cu g w.heap.size with b|d;·exact b
 ·rw[nk d]at a;cases a
theorem zA.src{w:World}{A:Option Addr}{n:Nat}(h:zA w A n):∃a:List Int,a.length=n/\(∀z∈a,-9223372036854775808<=z/\z<=9223372036854775807)/\Src w 1 A n (a.map λz=>.int .i64 z):=by
 rcases h with h|⟨b,off,rfl,c⟩;·subst h;exact⟨[],rfl,(λz h=>by cases h),Src.none_ _ _ _⟩
 ·obtain⟨F,hF⟩:=choose_lt c;refine⟨(List.range n).map F,by simp,(λz d=>?_),by simp,.inr ⟨b,off,rfl,λj u hu=>?_⟩⟩
  ·obtain⟨j,hj,rfl⟩:=dB.1 d;exact(hF j (dU.1 hj)).2
  ·rw[l6,kR]at hu;rcases cu j n with hj|hj
   ·rw[List.getElem?_range hj]at hu;have:=aA hu;subst this;exact(hF j hj).1
   ·rw[ig (by simpa using hj)]at hu;cases hu
end
section
open Go.RowKit
def kC(ty:TypeId)(w:World)(g:Nat)(s:ByteArray)(i:Nat)(b:Bool):Prop:=w.heap[g]?=some (.cells #[.string s,.int .i64 i,.bool b] ty (0,0))
section
variable {ty:TypeId} {w w':World} {g i:Nat} {s:ByteArray} {b:Bool}
theorem kC.cells(h:kC ty w g s i b):w.cell? ⟨g,0,none⟩=some (.string s)/\w.cell? ⟨g,1,none⟩=some (.int .i64 i)/\w.cell? ⟨g,2,none⟩=some (.bool b):=by
 unfold kC at h;refine⟨?_,?_,?_⟩<;>simp[World.cell?,h]
theorem kC.free(h:kC ty w g s i b):w.frozen? ⟨g,0,none⟩=false/\w.frozen? ⟨g,1,none⟩=false/\w.frozen? ⟨g,2,none⟩=false:=by
 unfold kC at h;refine⟨?_,?_,?_⟩<;>simp[World.frozen?,h]
theorem kC.lt(h:kC ty w g s i b):g<w.heap.size:=(aZ.1 h).1
theorem kC.IZ(h:kC ty w g s i b)(j:Nat)(v:Int)(a:v=j):kC ty (w.setCell ⟨g,1,none⟩ (.int .i64 v)) g s j b:=by
 subst a;unfold kC at*;simp[World.setCell,Array.getElem?_modify,h]
theorem kC.Bv(h:kC ty w g s i b)(c:Bool):kC ty (w.setCell ⟨g,2,none⟩ (.bool c)) g s i c:=by
 unfold kC at*;simp[World.setCell,Array.getElem?_modify,h]
theorem kC.ag(h:kC ty w g s i b)(hb:Below w.heap.size w w'):kC ty w' g s i b:=(hb.block g h.lt).t h
theorem kC.grown{row:Option Nat}(h:kC ty w g s i b)(a:w.grownBy w' row)(c:row≠some g):kC ty w' g s i b:=(a.block g h.lt (λe=>c e.symm)).t h
theorem kC.drewN(h:kC ty w g s i b)(n:Nat):kC ty (w.drewN n) g s i b:=h
end
theorem sW(w:World)(row:Option Nat):w.grownBy w row:=⟨rfl,rfl,rfl,ak _,λ_ _ _=>rfl⟩
theorem iM{w w':World}{row:Option Nat}(h:w.grownBy w' row)(n:Nat):w.grownBy (w'.drewN n) row:=⟨h.os,h.tape,h.output,h.size,h.block⟩
theorem lF{w w':World}{g:Nat}(h:w.grownBy w' (some g))(i:Nat)(v:Value):w.grownBy (w'.setCell ⟨g,i,none⟩ v) (some g):=
 ⟨h.os,h.tape,h.output,by rw[show(w'.setCell ⟨g,i,none⟩ v).heap.size=w'.heap.size by simp[World.setCell]];exact h.size,λk b a=>by rw[aM _ _ _ _ (λe=>a (by rw[e]))];exact h.block k b a⟩
def Xq(ty:TypeId)(w:World)(g:Nat)(s:ByteArray):Except Nat Nat->Prop
 |.ok j=>kC ty w g s j false
 |.error j=>kC ty w g s j true
theorem T.Cq(s:ByteArray)(i:Nat)(h:i<s.size)(c:UInt8):T.now s.data.toList i c=(s[i]==c):=by
 unfold T.now;have a:i<s.data.toList.length:=(by simpa using h);rw[aH a];show(some s[i]==some c)=_;rfl
theorem T.Dq(s:ByteArray)(i:Nat)(h:s.size<=i)(c:UInt8):T.now s.data.toList i c=false:=by
 unfold T.now;rw[ig (by simpa using h)];rfl
theorem NG{a b:UInt8}(h:(a==b)=false):((a.toNat:Int)==(b.toNat:Int))=false/\((a.toNat:Int) != (b.toNat:Int))=true:=by
 have c:a≠b:=(by rw[aB]at h;exact h);have:(a.toNat:Int)≠(b.toNat:Int):=λe=>c (qc.1 (by omega));exact⟨by rw[aB];exact this,by rw[jd];exact this⟩
theorem Qs{a b:UInt8}(h:(a==b)=true):((a.toNat:Int)==(b.toNat:Int))=true/\((a.toNat:Int) != (b.toNat:Int))=false:=by
 have:=eY.1 h;subst this;exact⟨xS _,by simp⟩
theorem Nh(g i:Nat)(s q:ByteArray)(w:World)(h:kC 188 w g s i false)(_:i<=4096)(E:s.size<=4096)(F:q.size<=16):
 Calls Tryz.prog 209 #[.pointer (some ⟨g,0,none⟩),.string q] w λe w'=>e=.returned (.tuple #[])/\w.grownBy w' (some g)/\Xq 188 w' g s (T.sZ s.data.toList q.data.toList i):=by
 have x:=aa h;clear h;go_enter Tryz.func209,Tryz.ntmps209;go_wp2_with fail;go_loopw [4] (λl wr=>∃k m:Nat,k<=q.size/\m<=i+k/\l=.int .i64 k/\T.sZ s.data.toList q.data.toList i=T.sZ s.data.toList (q.data.toList.drop k) m/\kC 188 wr g s m false/\w.grownBy wr (some g)) (λl _=>q.size-(intOf l).toNat);case atStart=>exact⟨0,i,aL _,by omega,rfl,rfl,x.o,sW _ _⟩
 case round=>
  obtain⟨k,m,G,H,rfl,o,b,p⟩:=hrel;obtain⟨x0,I,J⟩:=b.cells;obtain⟨f0,f1,f2⟩:=b.free;obtain⟨r,c,d⟩:=ZR o b p;clear o b p;by_cases f:k<q.size
  ·have y:(k:Int)<(q.size:Int):=(by omega);have K:decide ((k:Int)<(q.size:Int))=true:=aQ y;have L:decide (k<q.size)=true:=aQ f;have M:(0:Int)<=(k:Int):=(by omega);have N:(0:Int)<=(m:Int):=(by omega);have t:q.data.toList.drop k=q[k]::q.data.toList.drop (k+1):=by
    rw[dN (by simpa using f)];rfl
   have u:T.sZ s.data.toList q.data.toList i=if T.now s.data.toList m q[k]=true then T.sZ s.data.toList (q.data.toList.drop (k+1)) (m+1) else .error m:=by rw[r.o,t];rfl
   have n:=aa u;clear u t;rcases cu m s.size with j|j
   ·have z:(m:Int)<(s.size:Int):=(by omega);have A:decide ((s.size:Int)<=(m:Int))=false:=dh (by omega);have B:decide (s.size<=m)=false:=dh (by omega);rcases bR (s[m]==q[k])with e|e
    ·have a:=aa (show T.sZ s.data.toList q.data.toList i=T.sZ s.data.toList (q.data.toList.drop (k+1)) (m+1) by rw[n.o,T.Cq s m j,aI e]);obtain⟨C,D⟩:=Qs e;have v:=aa f;clear e;go_upto_region 3 with fail;go_quiet (fail);go_wp2_with fail;go_roundw;case rel=>exact⟨k+1,m+1,v.o,by omega,by go_num,a.o,(c.o.drewN nq).IZ (m+1) _ (by push_cast;rfl),lF (iM d.o nq) _ _⟩
     case measure=>have:=v.o;simp[intOf];omega
    ·have a:=aa (show T.sZ s.data.toList q.data.toList i=.error m by rw[n.o,T.Cq s m j,aG (by rw[e];decide)]);obtain⟨C,D⟩:=NG e;clear e;go_upto_region 3 with fail;go_quiet (fail);go_wp2_with fail;refine bG (results_none rfl _ _ _) rfl ?_;exact⟨rfl,lF (iM d.o nq) _ _,by rw[a.o];exact(c.o.drewN nq).Bv true⟩
   ·have z:(s.size:Int)<=(m:Int):=(by omega);have A:decide ((s.size:Int)<=(m:Int))=true:=aQ (by omega);have B:decide (s.size<=m)=true:=aQ (by omega);have a:=aa (show T.sZ s.data.toList q.data.toList i=.error m by rw[n.o,T.Dq s m j,aG (by decide)]);go_upto_region 3 with fail;go_quiet (fail);go_wp2_with fail;refine bG (results_none rfl _ _ _) rfl ?_;exact⟨rfl,lF (iM d.o nq) _ _,by rw[a.o];exact(c.o.drewN nq).Bv true⟩
  ·obtain rfl:k=q.size:=(by omega);have a:=aa (show T.sZ s.data.toList q.data.toList i=.ok m by rw[r.o,jT (by simp)];rfl);clear f;go_wp2_with fail;go_end0;exact⟨rfl,d.o,by rw[a.o];exact c.o⟩
theorem Ni(g i:Nat)(s:ByteArray)(b:UInt8)(a:List UInt8)(w:World)(h:kC 188 w g s i true):
 Calls Tryz.prog 209 #[.pointer (some ⟨g,0,none⟩),.string ⟨(b::a).toArray⟩] w λe w'=>e=.returned (.tuple #[])/\w=w':=by
 obtain⟨x0,f,j⟩:=h.cells;have c:(⟨(b::a).toArray⟩:ByteArray).size=a.length+1:=(by rw[IG];rfl);generalize(⟨(b::a).toArray⟩:ByteArray)=q at c⊢;have d:(0:Int)<(q.size:Int):=(by omega);have k:decide ((0:Int)<(q.size:Int))=true:=aQ d;have l:decide (0<q.size)=true:=aQ (by omega);clear c;go_enter Tryz.func209,Tryz.ntmps209;go_wp2_with fail;refine AB 1 ?_;rw[rounds_succ];go_wp2_with fail;go_end0;exact⟨rfl,rfl⟩
end
section
open Go.RowKit
theorem T.rD(s:ByteArray)(i j:Nat):s.extract i j=T.lN s.data.toList i j:=by
 apply tJ;rw[mP,T.lN,tH]
theorem T.JK(s:ByteArray)(i m:Nat)(h:m<s.size):T.zU s.data.toList i m=(T.low s[m]||(decide (i<m)&&T.Oo s[m])):=by
 unfold T.zU;rw[T.getD_at s m h]
theorem T.PL(c:UInt8):(decide (48<=(c.toNat:Int))&&decide ((c.toNat:Int)<=57))=T.Oo c:=rfl
def SG(ty:TypeId)(g i:Nat)(s:ByteArray)(w:World)(e:Ending)(w':World):Prop:=
 w.grownBy w' (some g)/\((T.gN s.data.toList i=i/\e=.returned (.string ⟨#[]⟩)/\kC ty w' g s i true)\/
   (T.gN s.data.toList i≠i/\e=.returned (.string (T.lN s.data.toList i (T.gN s.data.toList i)))/\kC ty w' g s (T.gN s.data.toList i) false))
namespace T
def pre(a:List T):Option (Except Nat (List T×Nat))->Option (Except Nat (List T×Nat))
 |none=>none
 |some (.error e)=>some (.error e)
 |some (.ok (b,j))=>some (.ok (a++b,j))
theorem M9(a:List T)(t:T)(r:Option (Except Nat (List T×Nat))):pre a (more t r)=pre (a++[t]) r:=by
 rcases r with _|_|⟨b,j⟩;·rfl
 ·rfl
 ·simp[pre,more]
end T
def vF(ty:TypeId)(g:Nat)(s:ByteArray)(w:World)(r:Except Nat (T×Nat))(e:Ending)(w':World):Prop:=
 w.grownBy w' (some g)/\(match r with
   |.ok (t,j)=>kC ty w' g s j false/\∃A cap,e=.returned (.agg #[.int .i64 t.aC,.string t.aJ,.slice A t.ay.length cap])/\bN (eG w.heap.size) w' (.agg #[.int .i64 t.aC,.string t.aJ,.slice A t.ay.length cap]) t
   |.error j=>kC ty w' g s j true/\∃(k:Int) (nm:ByteArray) (A:Option Addr) (n cap:Nat),e=.returned (.agg #[.int .i64 k,.string nm,.slice A n cap]))
theorem Kl{w w1 a:World}{g:Nat}{row:Option Nat}(h:w.grownBy w1 (some g))(k:w1.grownBy a row)(c:∀b,row=some b->w.heap.size<=b):w.grownBy a (some g):=
 ⟨k.os.t h.os,k.tape.t h.tape,k.output.t h.output,aD h.size k.size,λi hi d=>by
   rw[k.block i (dF hi h.size) (λe=>by have:=c i e.symm;omega)];exact h.block i hi d⟩
theorem Dc{w w1 a:World}{g:Nat}(h:w.grownBy w1 (some g))(k:Below w1.heap.size w1 a):w.grownBy a (some g):=
 pO h (jr _ k)
theorem bK.step{w w1 a:World}{g:Nat}{v:Value}{L:List T}(h:bK w1 w.heap.size v L)(d:g<w.heap.size)(k:w1.grownBy a (some g)):bK a w.heap.size v L:=
 h.aR λb hb c=>k.block b c (λe=>by injection e with e;omega)
theorem yV{s:ByteArray}{l:List UInt8}(h:s≠⟨l.toArray⟩):(s.toList==l)=false:=by
 rw[aB];intro e;apply h;apply tJ;rw[<-fV,e]
theorem ZF(s:ByteArray)(w:World):Calls Tryz.prog 180 #[.string s] w λe w'=>e=.returned (.tuple #[.int .i64 (T.vO s),.int .i64 (T.yD s)])/\w=w':=by
 by_cases a:s=⟨#[104,97,115,104]⟩
 ·subst a;go_enter uM,tN;go_wp2;go_ret2;exact⟨rfl,rfl⟩
 by_cases b:s=⟨#[115,101,97,108]⟩
 ·subst b;go_enter uM,tN;go_wp2;go_ret2;exact⟨rfl,rfl⟩
 by_cases c:s=⟨#[115,105,103,110]⟩
 ·subst c;go_enter uM,tN;go_wp2;go_ret2;exact⟨rfl,rfl⟩
 by_cases d:s=⟨#[112,111,119,101,114]⟩
 ·subst d;go_enter uM,tN;go_wp2;go_ret2;exact⟨rfl,rfl⟩
 have E:=aa (show T.vO s=0/\T.yD s=0 by unfold T.vO T.yD;simp[a,b,c,d]);have f:(s.toList==[104,97,115,104])=false:=yV a;have g:(s.toList==[115,101,97,108])=false:=yV b;have h:(s.toList==[115,105,103,110])=false:=yV c;have i:(s.toList==[112,111,119,101,114])=false:=yV d;clear a b c d;go_enter uM,tN;go_wp2;go_ret2;exact⟨by rw[E.o.1,E.o.2];rfl,rfl⟩
end
section
open Go.RowKit
theorem Gx(W:World)(g:Nat)(x y z:Value):Below g W (((W.setCell ⟨g,0,none⟩ x).setCell ⟨g,1,none⟩ y).setCell ⟨g,2,none⟩ z):=
 (((az g W).setCell (p:=⟨g,0,none⟩) (ak _) _).setCell (p:=⟨g,1,none⟩) (ak _) _).setCell (p:=⟨g,2,none⟩) (ak _) _
def CB(ty:TypeId)(w:World)(g:Nat)(s:ByteArray)(W:World)(j:Nat)(b:Bool):Prop:=
 kC ty W g s j b/\jM W w.heap.size (.int .i64 0) (.string ⟨#[]⟩) (.slice none 0 0)/\w.grownBy W (some g)/\w.heap.size+1<=W.heap.size
section
variable {ty:TypeId} {w W W':World} {g j j':Nat} {s:ByteArray} {b b':Bool}
theorem CB.step(h:CB ty w g s W j b)(c:g<w.heap.size)(k:W.grownBy W' (some g))(a:kC ty W' g s j' b'):CB ty w g s W' j' b':=
 ⟨a,h.2.1.grown k (λe=>by injection e;omega),pO h.2.2.1 k,aD h.2.2.2 k.size⟩
theorem CB.ag(h:CB ty w g s W j b)(k:Below W.heap.size W W'):CB ty w g s W' j b:=
 ⟨h.1.ag k,h.2.1.ag k,Dc h.2.2.1 k,aD h.2.2.2 k.size⟩
theorem CB.drewN(h:CB ty w g s W j b)(n:Nat):CB ty w g s (W.drewN n) j b:=⟨h.1.drewN n,h.2.1,iM h.2.2.1 n,h.2.2.2⟩
theorem CB.start(h:kC ty w g s j b):CB ty w g s (w.alloc (.cells #[.int .i64 0,.string ⟨#[]⟩,.slice none 0 0] 29)) j b:=
 ⟨h.ag (af _ _),jM.new _ _ _ _,Dc (sW _ _) (af _ _),by rw[aK];omega⟩
def CL(ty:TypeId)(w:World)(g:Nat)(s:ByteArray)(W:World)(x y z:Value):Except Nat (T×Nat)->Prop
 |.ok (t,j)=>kC ty W g s j false/\∃A cap,x=.int .i64 t.aC/\y=.string t.aJ/\z=.slice A t.ay.length cap/\bN (eG (w.heap.size+1)) W (.agg #[x,y,z]) t
 |.error j=>kC ty W g s j true/\∃(k:Int) (nm:ByteArray) (A:Option Addr) (n cap:Nat),x=.int .i64 k/\y=.string nm/\z=.slice A n cap
theorem CB.ends{x y z:Value}{r:Except Nat (T×Nat)}(h:CB ty w g s W j b)(m:g<w.heap.size)(d:CL ty w g s W x y z r):
 vF ty g s w r (.returned (.agg #[x,y,z])) (((W.setCell ⟨w.heap.size,0,none⟩ x).setCell ⟨w.heap.size,1,none⟩ y).setCell ⟨w.heap.size,2,none⟩ z):=by
 have a:∀{j b},kC ty W g s j b->kC ty (((W.setCell ⟨w.heap.size,0,none⟩ x).setCell ⟨w.heap.size,1,none⟩ y).setCell ⟨w.heap.size,2,none⟩ z) g s j b:=λa=>(nP _ _ _ _ _ _ (by omega)).t a;have hb:=Gx W w.heap.size x y z;refine⟨⟨hb.os.t h.2.2.1.os,hb.tape.t h.2.2.1.tape,hb.output.t h.2.2.1.output,aD h.2.2.1.size hb.size,λk f i=>(hb.block k f).t (h.2.2.1.block k f i)⟩,?_⟩;rcases r with e|⟨t,j'⟩
 ·obtain⟨c,k,nm,A,n,cap,rfl,rfl,rfl⟩:=d;exact⟨a c,k,nm,A,n,cap,rfl⟩
 ·obtain⟨c,A,cap,rfl,rfl,rfl,l⟩:=d;refine⟨a c,A,cap,rfl,l.aR λb hb _=>?_⟩;have:=ax hb;exact⟨aQ (by omega),nP _ _ _ _ _ _ (by omega)⟩
end
theorem wR(S:Nat->Bool)(W:World)(k:Int)(nm:ByteArray)(a: -9223372036854775808<=k/\k<=9223372036854775807)(b:nm.size<=maxLen):bN S W (.agg #[.int .i64 k,.string nm,.slice none 0 0]) (.mk k nm []):=
 aO.mk k nm none 0 [] (λ_=>(undef,undef,undef)) a b (ak _) (aL _) (.inl rfl) (λi h=>by simp at h)
theorem T.Hu(l:List UInt8)(i:Nat):(T.lN l i (T.gN l i)).size<=16:=by
 have:=(T.vS l i).2.1;unfold T.lN;rw[yU,aW];omega
theorem T.Kk(s:ByteArray):0<=T.vO s/\T.vO s<=7:=by
 unfold T.vO;repeat' split
 all_goals omega
end
section
open Go.RowKit
def T.JF(vars k:Int)(s:ByteArray):Bool:=
 (decide (0<vars)&&decide (k=2)&&(decide (s=⟨#[120]⟩)||decide (s=⟨#[121]⟩)||decide (s=⟨#[122]⟩)))||
 (decide (k=1)&&(decide (s=⟨#[97]⟩)||decide (s=⟨#[98]⟩)||decide (s=⟨#[99]⟩)||decide (s=⟨#[107]⟩)||decide (s=⟨#[110,49]⟩)))
theorem ny.other{B g h:Nat}{w:World}(hd:ny B g w)(f:h≠g)(v:B<=h)(v0 d v2:Value):
 ny B g (((w.setCell ⟨h,0,none⟩ v0).setCell ⟨h,1,none⟩ d).setCell ⟨h,2,none⟩ v2):=by
 obtain⟨h0,A,n,c,k,i,l,m,o,a⟩:=hd;refine⟨h0,A,n,c,k,(nP _ _ _ _ _ _ (λe=>f e.symm)).t i,l,m,o,?_⟩;rcases a with a|⟨b,off,p,e,q⟩;·exact .inl a
 ·refine .inr ⟨b,off,p,e,λj hj=>?_⟩;obtain⟨z,r,s⟩:=q j hj;have t:b≠h:=(by omega);have u:=nP w h v0 d v2 b t;refine⟨z,?_,s⟩;rw[<-r];exact dD u
end
section
namespace T
mutual
def lw:T->Bool
 |.mk _ s a=>decide (s.size<=2)&&uB a
def uB:List T->Bool
 |[]=>true
 |t::r=>lw t&&uB r
end
theorem Ck:∀l:List T,uB l=true<->∀t∈l,t.lw=true
 |[]=>by simp[uB]
 |t::r=>by simp only[uB,ai,Ck r,bL,forall_eq_or_imp]
mutual
theorem MF:∀t:T,t.lw=true->t.fK.lw=true
 |.mk k s c=>λh=>by
  simp only[lw,ai]at h;simp only[fK,lw,ai];have a:=EZ c h.2;refine⟨h.1,?_⟩;by_cases b:k=7
  ·rw[aI b];rw[Ck]at a⊢;exact λt d=>a t ((kX _).mem_iff.1 d)
  ·rw[aG b];exact a
theorem EZ:∀l:List T,uB l=true->uB (gJ l)=true
 |[]=>λ_=>rfl
 |t::r=>λh=>by
  simp only[uB,gJ,ai]at h⊢;exact⟨MF t h.1,EZ r h.2⟩
end
mutual
theorem zM:∀t:T,t.fK.hasVar=t.hasVar
 |.mk k s b=>by
  have h:=zN b;simp only[fK,hasVar];congr 1;by_cases a:k=7
  ·rw[aI a,<-h,mF,mF];exact(kX _).any_eq
  ·rw[aG a];exact h
theorem zN:∀l:List T,nW (gJ l)=nW l
 |[]=>rfl
 |t::r=>by simp only[gJ,nW,zM t,zN r]
end
def Made(vars:Int)(D:Nat)(t:T):Prop:=t.shape=true/\t.size+1<=5*2 ^ (D-1)/\t.bC<=6*t.size/\t.lw=true/\(t.hasVar=true->0<vars)
variable {vars:Int}
theorem Rm{k:Int}{s:ByteArray}(h:JF vars k s=true):k=2->0<vars:=by
 unfold JF at h;simp only[fH,ai,bW]at h;rcases h with h|h;·exact λ_=>h.1.1
 ·omega
theorem MG{k:Int}{s:ByteArray}(h:JF vars k s=true):(k=1\/k=2)/\isName s=true/\s.size<=2:=by
 unfold JF at h;simp only[fH,ai,bW]at h;rcases h with⟨⟨-,rfl⟩,(rfl|rfl)|rfl⟩|⟨rfl,(((rfl|rfl)|rfl)|rfl)|rfl⟩;all_goals exact⟨by decide,by kernel_rfl,by decide⟩
theorem Ux(n:Nat):1<=2 ^ n:=Nat.one_le_two_pow
theorem Kw{k:Int}{s:ByteArray}(h:JF vars k s=true)(D:Nat):Made vars D (.mk k s []):=by
 obtain⟨a,b,c⟩:=MG h;have:=Ux (D-1);have d:=Rm h;refine⟨?_,?_,?_,?_,λe=>d (by simpa[hasVar,nW]using e)⟩;·simp only[shape];rw[aI a,b];rfl
 ·simp only[size,dK];omega
 ·simp only[T.bC,bE,size,dK];omega
 ·simp[lw,uB,c]
def Yw(vars:Int)(D:Nat)(t:T):Prop:=Made vars D t/\t.fK=t
theorem Made.fK{D:Nat}{t:T}(h:Made vars D t):Yw vars D t.fK:=
 ⟨⟨Cw t h.1,by rw[Bl];exact h.2.1,by rw[xV,Bl];exact h.2.2.1,MF t h.2.2.2.1,by rw[zM];exact h.2.2.2.2⟩,Bf t⟩
theorem Made.fe{D:Nat}{t:T}(h:Made vars D t)(a:D<=4):t.fe=true:=by
 have b:2 ^ (D-1)<=2 ^ 3:=oD (by decide) (by omega);have c:=h.2.1;unfold T.fe;rw[ai];exact⟨aQ (by omega),h.1⟩
theorem Made.bC{D:Nat}{t:T}(h:Made vars D t)(a:D<=4):t.bC<=240:=by
 have b:2 ^ (D-1)<=2 ^ 3:=oD (by decide) (by omega);have c:=h.2.1;have d:=h.2.2.1;omega
theorem Made.gL{D:Nat}{t:T}(h:Made vars D t)(a:D<=4):t.gL.length<=1024:=by
 have b:=h.bC a;have c:=Au t;omega
theorem Tw:(⟨#[]⟩:ByteArray).size=0:=rfl
def WM(vars:Int)(l:List T):Prop:=∀t∈l,∃k s,JF vars k s=true/\t=.mk k s []
theorem WM.lw{l:List T}(h:WM vars l):uB l=true:=by
 rw[Ck];intro t a;obtain⟨k,s,b,rfl⟩:=h t a;exact(Kw b 1).2.2.2.1
end T
end
end Go.Proofs.YtaciciokmpbkkaaGreatDoor
