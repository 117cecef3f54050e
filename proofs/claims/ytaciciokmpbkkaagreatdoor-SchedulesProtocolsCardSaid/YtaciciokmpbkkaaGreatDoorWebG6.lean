import Derived.Test.YtaciciokmpbkkaaGreatDoorShelfG
import Derived.Test.YtaciciokmpbkkaaGreatDoorWebG5
set_option maxRecDepth 100000
set_option maxHeartbeats 16000000
namespace Go.Proofs.YtaciciokmpbkkaaGreatDoor
section
open Go.RowKit
theorem CT.Wp{S:Nat->Bool}{w:World}{k:Int}{s:ByteArray}{b off n cap:Nat}{t:T}(h:bI S w (.agg #[.int .i64 k,.string s,.slice (some ⟨b,off,none⟩) n cap]) t):∃xs,CT S w xs t.ay/\∀j u,xs[j]?=some u->w.cell? ⟨b,off+j,none⟩=some u:=by
 cases h with
 |mk k s A cap f U B C D E hA hU=>
 have key:∀{q:Addr} {v:Value},(only w S).cell? q=some v->w.cell? q=some v:=λ{q v} l=>by
  rw[fO]at l;split at l;·exact l
  ·cases l
 show ∃xs,CT S w xs f/\_;have o:∀i,i<f.length->w.cell? ⟨b,off+i*3,none⟩=some (U i).1/\w.cell? ⟨b,off+i*3+1,none⟩=some (U i).2.1/\w.cell? ⟨b,off+i*3+2,none⟩=some (U i).2.2:=λi hi=>by
  rcases hA with h0|⟨b',F,e,o⟩;·omega
  ·injection e with e;injection e with r x;subst r;subst x;obtain⟨a,b,c⟩:=o i hi;exact⟨key a,key b,key c⟩
 clear hA;have main:∀(m:Nat),m<=f.length->∃xs,CT S w xs (f.take m)/\∀j u,xs[j]?=some u->w.cell? ⟨b,off+j,none⟩=some u:=by
  intro m;induction m with
  |zero=>exact λ_=>⟨[],by rw[iM];exact CT.nil S w,λj u hu=>by simp at hu⟩
  |succ m y=>
   intro G;obtain⟨xs,g,p⟩:=y aar;have z:xs.length=m*3:=(by rw[g.1,aX,kg aaF]);obtain⟨c0,c1,c2⟩:=o m aar;refine⟨xs++[(U m).1,(U m).2.1,(U m).2.2],?_,λj u hu=>?_⟩
   ·rw[aZ aaF];exact g.append (CT.one (hU m aar))
   ·by_cases hj:j<m*3
    ·rw[bN aaF]at hu;exact p j u hu
    ·rw[bq aar,z]at hu;obtain⟨d,rfl⟩:∃d,j=m*3+d:=⟨j-m*3,aar⟩;rw[mU]at hu
     match d,hu with
     |0,hu=>injection hu with hu;subst hu;exact c0
     |1,hu=>injection hu with hu;subst hu;exact c1
     |2,hu=>injection hu with hu;subst hu;exact c2
     |d+3,hu=>simp at hu
 obtain⟨xs,g,p⟩:=main f.length (ax _);rw[bG (ax _)]at g;exact⟨xs,g,p⟩
theorem CT.term{S:Nat->Bool}{w:World}{xs:List Value}{L:List T}{b cap:Nat}(h:CT S w xs L)(e:∀j u,xs[j]?=some u->w.cell? ⟨b,j,none⟩=some u)(hS:S b=true)(k:Int)(s:ByteArray)(g: -9223372036854775808<=k/\k<=9223372036854775807)(l:s.size<=maxLen)(m:L.length<=cap)(n:cap<=maxLen):
 bI S w (.agg #[.int .i64 k,.string s,.slice (some ⟨b,0,none⟩) L.length cap]) (.mk k s L):=by
 have f:∀i (hi:i<L.length),∃x:Value×Value×Value,xs[i*3]?=some x.1/\xs[i*3+1]?=some x.2.1/\xs[i*3+2]?=some x.2.2/\bI S w (.agg #[x.1,x.2.1,x.2.2]) L[i]:=λi hi=>by
  obtain⟨u0,u1,u2,a,b,c,d⟩:=h.2 i hi;exact⟨(u0,u1,u2),a,b,c,d⟩
 refine .mk k s _ cap L (λi=>if hi:i<L.length then (f i hi).choose else (undef,undef,undef)) g l m n (.inr ⟨b,0,rfl,λi hi=>?_⟩) (λi hi=>?_)
 ·rw[dif_pos hi];obtain⟨a,b',c,_⟩:=(f i hi).choose_spec;rw[fO,fO,fO,aJ hS,aJ hS,aJ hS,eP];exact⟨e _ _ a,e _ _ b',e _ _ c⟩
 ·rw[dif_pos hi];exact(f i hi).choose_spec.2.2.2
theorem CT.erase{S:Nat->Bool}{w:World}{xs:List Value}{L:List T}(h:CT S w xs L)(i:Nat):CT S w (xs.take (i*3)++xs.drop ((i+1)*3)) (L.eraseIdx i):=by
 rw[List.eraseIdx_eq_take_drop_succ];exact(h.take i).append (h.drop (i+1))
theorem UA{S:Nat->Bool}{k:Int}{s:ByteArray}{b off n cap:Nat}{t:T}(w:World)(h:bI S w (.agg #[.int .i64 k,.string s,.slice (some ⟨b,off,none⟩) n cap]) t)(g:n=t.ay.length)(h0:0<n)(q:n<=1048576):
 Calls Tryz.prog 218 #[.slice (some ⟨b,off,none⟩) n cap] w λe w'=>∃a c2 xs,e=.returned (.slice (some ⟨a,0,none⟩) n c2)/\w'.ownsRow w.heap.size 29 3 (.slice (some ⟨a,0,none⟩) n c2) n xs/\CT S w xs t.ay/\Below w.heap.size w w':=by
 obtain⟨i,j,l,m,o⟩:=dU Tryz.uN;obtain⟨xs,c,p⟩:=CT.Wp h;have d:=AnyE.slices_Clone (P:=Tryz.prog) Tryz.Y1 i _ 3 48 j l m o rfl aar (λw=>Tryz.sizeOf29 w) b off n cap xs w (by rw[c.1,g]) aaS aar p c.one';change Calls Tryz.prog 218 _ _ _ at d;refine d.m ?_;rintro e w' ⟨r,rfl,f,_,hb⟩;obtain⟨a,c2,rfl,_⟩:=f.form h0;exact⟨a,c2,xs,rfl,f,c,hb⟩
end
section
open Go.RowKit
variable {X:Nat->Bool}
theorem RP{B g M:Nat}{vs vp:Value}{w w1 a:World}{W:List fG}{t:T}{i c c2:Nat}{xs:List Value}(h:gz X B w g M vs vp W)(l:CT (nr X g M vs vp) w xs t.ay)(d:w1.ownsRow w.heap.size 29 3 (.slice (some ⟨c,0,none⟩) t.ay.length c2) t.ay.length xs)
 (hb:Below w.heap.size w w1) (hi:i<t.ay.length) (hd:∀k u,(xs.take (i*3)++xs.drop ((i+1)*3))[k]?=some u->a.cell? ⟨c,k,none⟩=some u) (m:Below c w1 a):
 bI (nr X g M vs vp) a (.agg #[.int .i64 7,.string ⟨#[]⟩,.slice (some ⟨c,0,none⟩) (t.ay.length-1) c2]) (t.iF i)/\Below w.heap.size w a:=by
 obtain⟨f,a2,y,a3⟩:=wh d (b:=c) rfl;have j:Below w.heap.size w a:=hb.t (m.m f);have n:=(l.aR (S':=nr X g M vs vp) λb o p=>⟨o,j.block b p⟩).erase i;have e:(t.ay.eraseIdx i).length=t.ay.length-1:=jW hi;have q:t.ay.length<=c2/\c2<=maxLen:=by
  rcases d.2 with⟨h0,_⟩|⟨_,cap,_,r,_,_,s,v,_⟩;·cases h0
  ·injection r with z A x;subst x;exact⟨s,v⟩
 have:=CT.term n hd (qA h f) 7 ⟨#[]⟩ aar (aT _) (by rw[e];omega) q.2;rw[e]at this;exact⟨this,j⟩
namespace Wb
variable {rec:List fG->T->List fG×Option Nat} {t:T} {W:List fG} {f j i:Nat}
theorem UW(a:jl W (t.eT j).key=none):pow rec t (f+1) j W=pow rec t f (j+1) W:=by
 have:find W (t.eT j)=none:=a;simp only[pow,this]
theorem pow_one(a:jl W (t.eT j).key=some i)(b:t.ay.length=1):pow rec t (f+1) j W=((add W t 11 [i]).1,some (add W t 11 [i]).2):=by
 have:find W (t.eT j)=some i:=a;simp only[pow,this,aJ b]
theorem UR(a:jl W (t.eT j).key=some i)(b:t.ay.length≠1)(c:(rec W (t.iF j)).2=none):pow rec t (f+1) j W=pow rec t f (j+1) (rec W (t.iF j)).1:=by
 have:find W (t.eT j)=some i:=a;simp only[pow,this,aH b,c]
theorem UT{p:Nat}(a:jl W (t.eT j).key=some i)(b:t.ay.length≠1)(c:(rec W (t.iF j)).2=some p):pow rec t (f+1) j W=((add (rec W (t.iF j)).1 t 10 [p,i]).1,some (add (rec W (t.iF j)).1 t 10 [p,i]).2):=by
 have:find W (t.eT j)=some i:=a;simp only[pow,this,aH b,c]
end Wb
theorem Yc{B g M:Nat}{vs vp:Value}{W:List fG}{U:List T}{rec:List fG->T->List fG×Option Nat}(hU:yB U)(t:T)(v:Value)(w:World)(aF:0<t.ay.length)(bQ:t∈U)(hI:Inv U W)
 (h:gz X B w g M vs vp W) (hT:bI (nr X g M vs vp) w v t) (bR:t.bE<=1048576) (J:∀i,i<t.ay.length->1<t.ay.length->Wb.BS U rec (t.iF i)) (hb:∀i,i<t.ay.length->1<t.ay.length->Gs X B U rec (t.iF i)):
 Calls Tryz.prog 213 #[.pointer (some ⟨g,0,none⟩),v] w (Yz X B g M w vs vp (Wb.pow rec t t.ay.length 0 W)):=by
 obtain⟨A0,C,rfl⟩:=hT.view;obtain⟨b,off,_,_,rfl,hS,_⟩:=hT.O8 aF;have D:=h.lt.2;have hw:=ae w (.cells #[.int .i64 t.aA,.string t.aI,.slice (some ⟨b,off,none⟩) t.ay.length C] 29);have K:=jy.new w (.int .i64 t.aA) (.string t.aI) (.slice (some ⟨b,off,none⟩) t.ay.length C);have bS:t.ay.length<=262144:=(aaA (T.lq t.ay) t.Dp);have y:=aa (show Inv U W/\gz X B _ g M vs vp W/\Fr X B g M vs vp w vs vp _/\bI (nr X g M vs vp) _ (.agg #[.int .i64 t.aA,.string t.aI,.slice (some ⟨b,off,none⟩) t.ay.length C]) t/\nr X g M vs vp w.heap.size=true from
  ⟨hI,h.ag hw,(Fr.refl (X:=X) B g M vs vp w).ag D hw,hT.aR (λb hb l=>⟨hb,hw.block b l⟩),qA h (ax _)⟩)
 obtain⟨R,hR⟩:=aay (Wb.pow rec t t.ay.length 0 W);rw[hR];obtain⟨HR,HP,HB⟩:=aac hR J hb;have bT:=aa (λ(j:Nat) (hj:j<t.ay.length) v' W' a c d (hW:gz X B W' g M c d a) (aG:aS W' v' (t.eT j))=>QF (X:=X) (t.eT j) v' W' hW aG (aaz (T.DF hj)));have bv:=aa (λv' W' how F fc jw a vs' mK (bU:Inv U a) hW aG hF=>Wm (X:=X) (W:=a) (g:=g) (M:=M) (B:=B) (vs:=vs') (vp:=mK) t v' W' how jw F fc hW aG bR hF (bU.room hU bQ));obtain⟨n,hn⟩:=aay t.ay.length;obtain⟨k,hk⟩:=aay t.aA;obtain⟨nm,bz⟩:=aay t.aI;rw[hk,bz,hn]at K y⊢;rw[hn]at aF bS HR;have o:=aa hn;clear hR J hb h hT hI hw hk bz hn;go_enter Tryz.func213,Tryz.ntmps213;go_upto_region 1 with fail;generalize w.alloc _=w1 at K y⊢;obtain⟨x0,x1,x2⟩:=K.cells;have BX:=aa K;clear K;go_wp2_with fail;clear x0 x1 x2;go_loopw [13] (λi wr=>∃(j:Nat) (a:List fG) (c d:Value),j<=n/\i=.int .i64 j/\Wb.pow rec t (n-j) j a=R/\Inv U a/\gz X B wr g M c d a/\Fr X B g M vs vp w c d wr/\bI (nr X g M c d) wr (.agg #[.int .i64 k,.string nm,.slice (some ⟨b,off,none⟩) n C]) t/\jy wr w.heap.size (.int .i64 k) (.string nm) (.slice (some ⟨b,off,none⟩) n C)/\nr X g M c d w.heap.size=true) (λi _=>n-(intOf i).toNat);case atStart=>exact⟨0,W,vs,vp,aT _,rfl,HR.o,y.o.1,y.o.2.1,y.o.2.2.1,y.o.2.2.2.1,BX.o,y.o.2.2.2.2⟩
 case round=>
  obtain⟨j,a,c,d,hj,rfl,aH,aJ,af,aK,ah,aL,aM⟩:=hrel;obtain⟨L,ak,bA,aN,bV⟩:=aae aH aJ aK aM aL;by_cases bB:j<n
  ·obtain⟨b',dN,A1,c1,N,dO,d0,d1,d2,bC⟩:=ah.eT (i:=j) (by rw[o.o];exact bB);injection N with N;injection N with N e2;subst N;subst e2;have hi:(j:Int)<(n:Int):=aar;have E:=ae wr (.cells #[.int .i64 (t.eT j).aA,.string (t.eT j).aI,.slice A1 (t.eT j).ay.length c1] 29);obtain⟨av,bW,bX,bY,bZ,r⟩:=aaf (af.ag E) (ah.aR (S':=nr X g M c d) (λb hb l=>⟨hb,E.block b l⟩)) (bC.aR (S':=nr X g M c d) (λb hb l=>⟨hb,E.block b l⟩)) (bA.o.ag D E) (bV.o.ag E) bB;clear aH aJ af aK ah aL aM bC E;have bk:=jy.new wr (.int .i64 (t.eT j).aA) (.string (t.eT j).aI) (.slice A1 (t.eT j).ay.length c1);go_upto_region 4 with fail;generalize wr.alloc _=wa at*;obtain⟨cu,cB,cK⟩:=bk.cells;clear bk d0 d1 d2;go_wp2_with fail;refine(bT.o j (by rw[o.o];exact r.o) _ _ _ _ _ av.o bX.o.at).m ?_;rintro e w2 ⟨s,O⟩;obtain⟨P,az,aO,aP⟩:=aad (av.o.ag O) (bW.o.aR (S':=nr X g M c d) (λb hb l=>⟨hb,O.block b l⟩)) (bY.o.ag D O) (bZ.o.ag O);obtain⟨f,bD⟩:∃f,n-j=f+1:=⟨n-j-1,aaz r.o⟩;have G:=aa bD;clear O cu cB cK bD;cases H:jl a (t.eT j).key with
   |none=>
    have z:e=.returned (.int .i64 (-1)):=(by rw[s,H];rfl);clear s;subst z;have x:=aa (show Wb.pow rec t (n-(j+1)) (j+1) a=R by
     rw[show n-(j+1)=f from aaz G.o,<-L.o,G.o];exact(Wb.UW H).symm)
    clear H;go_wp2_with fail;go_roundw;case rel=>exact⟨j+1,a,c,d,r.o,aaw,x.o,ak.o,P.o,aO.o,az.o,aP.o,aN.o⟩
    case measure=>exact aax r.o
   |some m=>
    have z:e=.returned (.int .i64 (m:Int)):=(by rw[s,H];rfl);clear s;subst z;have dP:¬((m:Int)<0):=aar;have aQ:=aa H;clear H;obtain⟨y0,y1,y2⟩:=aP.o.cells;by_cases h1:n=1
    ·subst h1;have x:=aa (show R=((Wb.add a t 11 [m]).1,some (Wb.add a t 11 [m]).2) by
      rw[<-L.o,G.o];exact Wb.pow_one aQ.o o.o)
     have A:=ae w2 (.cells #[.int .i64 (m:Int)] 3);obtain⟨cO,cZ,df,dh⟩:=aad ((lH.one (S:=nr X g M c d) w2 m 3 (qA P.o (ax _)))) (P.o.ag A) (az.o.aR (S':=nr X g M c d) (λb hb l=>⟨hb,A.block b l⟩)) (aO.o.ag D A);clear A;go_wp2_with fail;refine(bv.o _ _ 11 _ _ [m] _ _ _ ak.o cZ.o df.o cO.o).m ?_;rintro e w5 ⟨rfl,bF⟩;have aU:=aa (mI.after dh.o bF);clear bF y0 y1 y2;go_wp2_with fail;go_ret;rw[x.o];exact⟨rfl,aU.o⟩
    ·have dR:((n:Int)==1)=false:=aaI;have dS:¬((n:Int)=1):=aar;have H1:=aa (show 1<n from aaz r.o);clear h1;go_wp2_with fail;refine(UA w2 az.o o.o.symm aF aar).m ?_;rintro e w3 ⟨Q,c2,xs,rfl,V,aB,bG⟩;have dm:n<=c2:=by
      rcases V.2 with⟨h0,_⟩|⟨_,cap,_,hv,_,_,h5,_⟩;·cases h0
      ·injection hv with dU dV dn;subst dn;exact h5
     have dw:=aa (Wo Q n c2 j (j+1) xs w3 (by rw[aB.1,o.o]) rfl r.o dm (λk u hu=>by have:=V.cells (g:=Q) rfl k u hu;rw[cz,eP]at this;exact this) (λk _=>V.frozenAt k) aB.one');obtain⟨dx,dz,dA⟩:=aac V aB bG;clear V aB bG y0 y1 y2;go_wp2_with fail;refine dw.o.m ?_;rintro e w4 ⟨rfl,hd,A⟩;obtain⟨aV,aW⟩:=RP (t:=t) P.o dz.o (by rw[o.o];exact dx.o) dA.o (by rw[o.o];exact r.o) hd A;rw[o.o]at aV;have aX:=ae w4 (.cells #[.int .i64 7,.string ⟨#[]⟩,.slice (some ⟨Q,0,none⟩) (n-1) c2] 29);have bl:=jy.new w4 (.int .i64 7) (.string ⟨#[]⟩) (.slice (some ⟨Q,0,none⟩) (n-1) c2);have Y:=aW.t (aX.m aW.size);obtain⟨dB,aU,dC,dD,bH⟩:=aae (aV.aR (S':=nr X g M c d) (λb hb l=>⟨hb,aX.block b l⟩)) (P.o.ag Y) (az.o.aR (S':=nr X g M c d) (λb hb l=>⟨hb,Y.block b l⟩)) (aO.o.ag D Y) (aP.o.ag Y);clear hd A aV aW aX Y;go_upto_region 9 with fail;generalize w4.alloc _=w5 at*;obtain⟨z0,z1,z2⟩:=bl.cells;have aY:j<t.ay.length:=(by rw[o.o];exact r.o);have aZ:1<t.ay.length:=(by rw[o.o];exact H1.o);have J:=HP.o j aY aZ a ak.o;have bf:=HB.o j aY aZ _ w5 g M c d a ak.o aU.o dB.o;have bg:(rec a (t.iF j)).2=none->Wb.pow rec t f (j+1) (rec a (t.iF j)).1=R:=λe=>by
      rw[<-L.o,G.o];exact(Wb.UR aQ.o aar e).symm
     have bi:∀p,(rec a (t.iF j)).2=some p->R=((Wb.add (rec a (t.iF j)).1 t 10 [p,m]).1,some (Wb.add (rec a (t.iF j)).1 t 10 [p,m]).2):=λp e=>by
      rw[<-L.o,G.o];exact Wb.UT aQ.o aar e
     generalize rec a (t.iF j)=q at J bf bg bi;obtain⟨bJ,_,_⟩:=J;obtain⟨bK,dE,dF,dG⟩:=aad bJ bf bg bi;clear bl aY aZ bJ bf bg bi;go_wp2_with fail;refine dE.o.m ?_;rintro e w6 ⟨s,bn,bq,bL,Z⟩;obtain⟨bu,bM,bN,bO,dH⟩:=aae bL (dC.o.fr Z) (dD.o.t Z) (bH.o.fr Z aN.o) ((Z.aR _ aN.o bH.o.lt).1);clear bL Z z0 z1 z2;cases I:q.2 with
     |none=>
      have z:e=.returned (.int .i64 (-1)):=(by rw[s,I];rfl);clear s;subst z;have x:=aa (show Wb.pow rec t (n-(j+1)) (j+1) q.1=R by
       rw[show n-(j+1)=f by have:=G.o;omega];exact dF.o I)
      clear I;go_wp2_with fail;go_roundw;case rel=>exact⟨j+1,q.1,bn,bq,r.o,aaw,x.o,bK.o,bu.o,bN.o,bM.o,bO.o,dH.o⟩
      case measure=>exact aax r.o
     |some p=>
      have z:e=.returned (.int .i64 (p:Int)):=(by rw[s,I];rfl);clear s;subst z;have dW:(0:Int)<=(p:Int):=aar;have x:=aa (dG.o p I);clear I;obtain⟨y0,y1,y2⟩:=bO.o.cells;have aC:=ae w6 (.cells #[.int .i64 (p:Int),.int .i64 (m:Int)] 3);obtain⟨dI,dJ,dK,dL⟩:=aad ((lH.two (S:=nr X g M bn bq) w6 p m 3 (qA bu.o (ax _)))) (bu.o.ag aC) (bM.o.aR (S':=nr X g M bn bq) (λb hb l=>⟨hb,aC.block b l⟩)) (bN.o.ag D aC);clear aC;go_wp2_with fail;refine(bv.o _ _ 10 _ _ [p,m] _ _ _ bK.o dJ.o dK.o dI.o).m ?_;rintro e w8 ⟨rfl,bP⟩;have dM:=aa (mI.after dL.o bP);clear bP y0 y1 y2;go_wp2_with fail;go_ret;rw[x.o];exact⟨rfl,dM.o⟩
  ·obtain rfl:j=n:=aar;have x:=aa (show R=(a,none) by have:=L.o;rw[qR]at this;exact this.symm);have av:=aa af;clear aH aJ af aK ah aL aM;go_wp2_with fail;go_ret;rw[x.o];exact⟨rfl,_,_,av.o,bA.o⟩
end
section
open Go.RowKit
variable {X:Nat->Bool}
namespace Wb
variable {t:T} {W:List fG} {n i:Nat}
theorem L8(a:jl W t.key=some i):build (n+1) W t=(W,some i):=by
 have:find W t=some i:=a;simp only[build,this]
theorem OL(a:jl W t.key=none)(b:t.aA=3):build (n+1) W t=both (build n) W t 6:=by
 have:find W t=none:=a;simp only[build,this];rw[aH aar,aJ b]
theorem OM(a:jl W t.key=none)(b:t.aA=5):build (n+1) W t=both (build n) W t 8:=by
 have:find W t=none:=a;simp only[build,this];rw[aH aar,aH aar,aJ b]
theorem OO(a:jl W t.key=none)(b:t.aA=6):build (n+1) W t=both (build n) W t 9:=by
 have:find W t=none:=a;simp only[build,this];rw[aH aar,aH aar,aH aar,aJ b]
theorem Q8(a:jl W t.key=none)(b:t.aA=7):build (n+1) W t=pow (build n) t t.ay.length 0 W:=by
 have:find W t=none:=a;simp only[build,this];rw[aH aar,aH aar,aH aar,aH aar,aJ b]
theorem OI(a:jl W t.key=none)(b:t.aA=1\/t.aA=2):build (n+1) W t=(W,none):=by
 have:find W t=none:=a;simp only[build,this];rw[aH aar,aH aar,aH aar,aH aar,aH aaF]
theorem OJ(a:jl W t.key=none)(b:t.aA=4)(h:(build n W (t.eT 0)).2=none):build (n+1) W t=((build n W (t.eT 0)).1,none):=by
 have:find W t=none:=a;simp only[build,this];rw[aJ b,h]
theorem KG(a:jl W t.key=none)(b:t.aA=4)(h:(build n W (t.eT 0)).2=some i):build (n+1) W t=((add (build n W (t.eT 0)).1 t 7 [i]).1,some (add (build n W (t.eT 0)).1 t 7 [i]).2):=by
 have:find W t=none:=a;simp only[build,this];rw[aJ b,h]
end Wb
theorem acX{p:Prop}(h:p:=by
 rintro e w5 ⟨rfl,c⟩;rw[<-a.o]at c⊢;have H:=aa (mI.after s.o c);clear c D E G;go_wp2_with fail;go_ret;exact⟨rfl,H.o⟩):p:=h
theorem ac0{p:Prop}(h:p:=by
 go_wp2_with fail;go_ret;rw[a.o];exact⟨rfl,_,_,r.o,s.o⟩):p:=h
theorem Uy{B:Nat}{U:List T}(hU:yB U)(aY:∀t∈U,t.bE<=1048576):∀(n:Nat) (t:T),t.bE<n->t∈U->Gs X B U (Wb.build n) t:=by
 intro n;induction n with
 |zero=>intro t h;omega
 |succ n ih=>
  intro t hn d v w g M vs vp W P h hT;obtain⟨A0,av,rfl⟩:=hT.view;have Q:=aY t d;have hz:=h.lt.2;have az:=T.oZ (aN.1 (hU.ok t d)).2;have V:=ae w (.cells #[.int .i64 t.aA,.string t.aI,.slice A0 t.ay.length av] 29);have L:=jy.new w (.int .i64 t.aA) (.string t.aI) (.slice A0 t.ay.length av);obtain⟨HN,aB,Y,Z,aZ⟩:=aae (qA h (ax _)) (((Fr.refl (X:=X) B g M vs vp w).ag hz V)) (h.ag V) (hT.aR (S':=nr X g M vs vp) (λb hb N=>⟨hb,V.block b N⟩)) (λj W' (u:gz X B W' g M vs vp W) (x:aS W' j t)=>QF (X:=X) t j W' u x Q);have aC:=aa (λi (hi:i<t.ay.length)=>ih (t.eT i) (aaz (T.DF hi)) (hU.eT t d i hi));have aD:=aa (λi (hi:i<t.ay.length)=>Wb.lI hU n (t.eT i) (hU.eT t d i hi));have bf:=aa (λ(l:t.aA=7) i (hi:i<t.ay.length) (y:1<t.ay.length)=>ih (t.iF i) (aaz (T.BF hi)) (hU.less t d l y i hi));obtain⟨bg,bi⟩:=aab (λ(l:t.aA=7) i (hi:i<t.ay.length) (y:1<t.ay.length)=>Wb.lI hU n (t.iF i) (hU.less t d l y i hi)) (λj W' how F fc jw Wj vs' mK (bn:Inv U Wj) u x hF=>Wm (X:=X) (W:=Wj) (g:=g) (M:=M) (B:=B) (vs:=vs') (vp:=mK) t j W' how jw F fc u x Q hF (bn.room hU d));have aF:=aa (λj W' how (h2:t.ay.length=2) u x=>Y7 (X:=X) (rec:=Wb.build n) (vs:=vs) (vp:=vp) (g:=g) (M:=M) (B:=B) hU t j W' how h2 d P u x Q (aD.o 0 aar) (aD.o 1 aar) (aC.o 0 aar) (aC.o 1 aar));have bq:=aa (λj W' (l:t.aA=7) (h0:0<t.ay.length) u x=>Yc (X:=X) (rec:=Wb.build n) (vs:=vs) (vp:=vp) (g:=g) (M:=M) (B:=B) hU t j W' h0 d P u x Q (bg.o l) (bf.o l));obtain⟨R,hR⟩:=aay (Wb.build (n+1) W t);rw[hR];obtain⟨m,HI⟩:=aab hR P;clear hR P h hT V ih hn;obtain⟨k,hk⟩:=aay t.aA;obtain⟨nm,aL⟩:=aay t.aI;obtain⟨kn,af⟩:=aay t.ay.length;rw[hk,aL,af]at L aB Y Z⊢;rw[hk,af]at az;obtain⟨o,z,bu⟩:=aac hk af az;clear hk aL af az;go_enter Tryz.func185,Tryz.ntmps185;go_upto_region 1 with fail;generalize w.alloc _=w1 at L aB Y Z⊢;obtain⟨bv,bz,bA⟩:=L.cells;have BX:=aa L;clear L;go_wp2_with fail;refine(aZ.o _ _ Y.o Z.o.at).m ?_;rintro e w2 ⟨f,O⟩;obtain⟨r,I,s,aM⟩:=aad (Y.o.ag O) (Z.o.aR (S':=nr X g M vs vp) (λb hb N=>⟨hb,O.block b N⟩)) (aB.o.ag hz O) (BX.o.ag O);clear O bv bz bA;cases J:jl W t.key with
  |some i=>
   have A:e=.returned (.int .i64 (i:Int)):=(by rw[f,J];rfl);clear f;subst A;have bB:(0:Int)<=(i:Int):=aar;have a:=aa (show R=(W,some i) by rw[<-m.o];exact Wb.L8 J);clear J;exact ac0
  |none=>
   have A:e=.returned (.int .i64 (-1)):=(by rw[f,J];rfl);clear f;subst A;have C:=aa J;clear J;obtain⟨D,E,G⟩:=aM.o.cells;rcases bu.o with⟨aO,h0⟩|⟨bC,h2⟩|⟨h4,y⟩|⟨l,y,bQ⟩
   ·have a:=aa (show R=(W,none) by rw[<-m.o];exact Wb.OI C.o (by rw[o.o];exact aO));rcases aO with rfl|rfl
    ·clear h0;exact ac0
    ·clear h0;exact ac0
   ·subst h2;rcases bC with rfl|rfl|rfl
    ·have a:=aa (m.o.symm.t (Wb.OL (n:=n) C.o o.o));go_wp2_with fail;refine(aF.o _ _ 6 z.o r.o I.o).m ?_;exact acX
    ·have a:=aa (m.o.symm.t (Wb.OM (n:=n) C.o o.o));go_wp2_with fail;refine(aF.o _ _ 8 z.o r.o I.o).m ?_;exact acX
    ·have a:=aa (m.o.symm.t (Wb.OO (n:=n) C.o o.o));go_wp2_with fail;refine(aF.o _ _ 9 z.o r.o I.o).m ?_;exact acX
   ·subst h4;subst y;obtain⟨b,off,A1,c1,rfl,_,d0,d1,d2,aP⟩:=I.o.O8 (by rw[z.o];decide);have bD:=aa aP;have hp:=aD.o 0 (by rw[z.o];decide) W HI.o;have aG:=aC.o 0 (by rw[z.o];decide) _ _ g M vs vp W HI.o r.o bD.o;have aH:=λe=>m.o.symm.t (Wb.OJ (n:=n) C.o o.o e);have aJ:=λp e=>m.o.symm.t (Wb.KG (n:=n) (i:=p) C.o o.o e);generalize Wb.build n W (t.eT 0)=q at hp aG aH aJ;obtain⟨aQ,_,_⟩:=hp;obtain⟨bF,bG,bH,bI⟩:=aad aQ aG aH aJ;clear aP aQ aG aH aJ;go_wp2_with fail;refine bG.o.m ?_;rintro e w6 ⟨f,aT,aU,aV,ah⟩;obtain⟨aK,bJ,aW,bK⟩:=aad aV (I.o.fr ah) (s.o.t ah) (aM.o.fr ah HN.o);clear aV ah D E G d0 d1 d2;cases K:q.2 with
    |none=>
     have A:e=.returned (.int .i64 (-1)):=(by rw[f,K];rfl);clear f;subst A;have a:=aa (bH.o K);clear K;go_wp2_with fail;go_ret;rw[a.o];exact⟨rfl,_,_,aK.o,aW.o⟩
    |some p=>
     have A:e=.returned (.int .i64 (p:Int)):=(by rw[f,K];rfl);clear f;subst A;have bB:(0:Int)<=(p:Int):=aar;have a:=aa (bI.o p K);clear K;obtain⟨D,E,G⟩:=bK.o.cells;have ak:=ae w6 (.cells #[.int .i64 (p:Int)] 3);obtain⟨bL,bM,bN,bO⟩:=aad ((lH.one (S:=nr X g M aT aU) w6 p 3 (qA aK.o (ax _)))) (aK.o.ag ak) (bJ.o.aR (S':=nr X g M aT aU) (λb hb N=>⟨hb,ak.block b N⟩)) (aW.o.ag hz ak);clear ak;go_wp2_with fail;refine(bi.o _ _ 7 _ _ [p] _ _ _ bF.o bM.o bN.o bL.o).m ?_;rintro e w8 ⟨rfl,aX⟩;have bP:=aa (mI.after bO.o aX);clear aX D E G;go_wp2_with fail;go_ret;rw[a.o];exact⟨rfl,bP.o⟩
   ·subst l;have a:=aa (m.o.symm.t (Wb.Q8 (n:=n) C.o o.o));go_wp2_with fail;refine(bq.o _ _ o.o (by rw[z.o];exact y) r.o I.o).m ?_;exact acX
end
section
open Go.RowKit Go.ChangeShapes Go.WideShapes Go.Deep
def xq(w:World)(A:Option Addr)(n:Nat):Prop:=n=0\/∃b off,A=some ⟨b,off,none⟩/\∀j,j<n->∃z:Int,w.cell? ⟨b,off+j,none⟩=some (.int .i64 z)/\ -9223372036854775808<=z/\z<=9223372036854775807
theorem xq.aR{w w':World}{A:Option Addr}{n:Nat}(h:xq w A n)(c:∀p:Addr,(w.cell? p).isSome=true->w'.cell? p=w.cell? p):xq w' A n:=by
 rcases h with h|⟨b,off,e,d⟩;·exact .inl h
 ·refine .inr ⟨b,off,e,λj hj=>?_⟩;obtain⟨z,a,f⟩:=d j hj;exact⟨z,(c _ aa5).t a,f⟩
theorem xq.below{w w':World}{A:Option Addr}{n:Nat}(h:xq w A n)(hb:Below w.heap.size w w'):xq w' A n:=by
 refine h.aR λp b=>?_;obtain⟨v,a⟩:=eO.1 b;rw[a];exact af hb a
theorem Sa{H:Type}{enc:TypeId×Value->H}{w:World}{g:Nat}{v:Value}{d:DataW H}{p:List MemPlace}{r:Reach}
 (i:Value.okWide Tryz.prog w r g 41 v) (h:DataW.Trod enc Tryz.prog w 0 (λ_=>true) true 41 v d p):
 ∃(A:Option Addr) (n c:Nat),v=.slice A n c/\n<=c/\c<=maxLen/\xq w A n:=by
 obtain⟨a0,len,cap,rfl⟩:=okWide_slice Tryz.underlying41 i;obtain⟨fuel,k⟩:=h;rcases open_ints Tryz.underlying41 gy aas k with⟨a,_⟩|⟨x,l,c,e,a,_,m,o,q,_,s,t⟩
 ·simp[Value.cells]at a;obtain⟨rfl,rfl,rfl⟩:=a;exact⟨none,0,0,rfl,ax _,aT _,.inl rfl⟩
 ·simp[Value.cells]at a;obtain⟨rfl,rfl,rfl⟩:=a;refine⟨_,_,_,rfl,m,o,?_⟩;have y:e.length=cap:=(by simpa using q);rcases eF len with h0|h0;·exact .inl h0
  ·obtain⟨b,off,rfl,u⟩:=ints_at s aar;refine .inr ⟨b,off,rfl,λj hj=>⟨_,u j aar,?_⟩⟩;have f:j<e.length:=aar;have:=bounds_i64 (t e[j] (aP f));simpa[List.getD,List.getElem?_eq_getElem f]using this
def nA(B g:Nat)(w:World):Prop:=B<=g/\∃(A:Option Addr) (n c k:Nat),w.heap[g]?=some (.cells #[.slice A n c,.int .i64 (k:Int)] 116 (0,0))/\k<=n/\n<=80/\n<=c/\
 (n=0\/∃b off,b<B/\A=some ⟨b,off,none⟩/\∀j,j<n->∃z:Int,w.cell? ⟨b,off+j,none⟩=some (.int .i64 z)/\ -9223372036854775808<=z/\z<=9223372036854775807)
theorem nA.below{B a g:Nat}{w w':World}(h:nA B g w)(hb:Below a w w')(f:g<a):nA B g w':=by
 obtain⟨h0,A,n,c,k,i,l,m,o,d⟩:=h;refine⟨h0,A,n,c,k,(hb.block g f).t i,l,m,o,?_⟩;rcases d with d|⟨b,off,q,e,r⟩;·exact .inl d
 ·refine .inr ⟨b,off,q,e,λj hj=>?_⟩;obtain⟨z,s,t⟩:=r j hj;exact⟨z,(hb.cell (p:=⟨b,off+j,none⟩) (by show b<a;omega)).t s,t⟩
theorem nA.lt{B g:Nat}{w:World}(h:nA B g w):g<w.heap.size:=by
 obtain⟨_,A,n,c,k,a,_⟩:=h;rcases bX g w.heap.size with b|d;·exact b
 ·rw[ny d]at a;cases a
theorem xq.src{w:World}{A:Option Addr}{n:Nat}(h:xq w A n):∃a:List Int,a.length=n/\(∀z∈a,-9223372036854775808<=z/\z<=9223372036854775807)/\Src w 1 A n (a.map λz=>.int .i64 z):=by
 rcases h with h|⟨b,off,rfl,c⟩;·subst h;exact⟨[],rfl,(λz h=>by cases h),Src.none_ _ _ _⟩
 ·obtain⟨F,hF⟩:=choose_lt c;refine⟨(List.range n).map F,aau,(λz d=>?_),aau,.inr ⟨b,off,rfl,λj u hu=>?_⟩⟩
  ·obtain⟨j,hj,rfl⟩:=ek.1 d;exact(hF j (ed.1 hj)).2
  ·rw[qO,kQ]at hu;rcases bX j n with hj|hj
   ·rw[List.getElem?_range hj]at hu;have:=aB hu;subst this;exact(hF j hj).1
   ·rw[gD abk]at hu;cases hu
theorem Uq(n m:Int)(d:1<=m):(n.tmod m+m).tmod m=n % m/\ -m<n.tmod m/\n.tmod m<m:=by
 have h:=Int.tmod_add_mul_tdiv n m;have a: -m<n.tmod m/\n.tmod m<m:=by
  have c:=Int.tmod_lt_of_pos n (b:=m) aar;have a2:=Int.tmod_lt_of_pos (-n) (b:=m) aar;rw[Int.neg_tmod]at a2;exact⟨aar,c⟩
 refine⟨?_,a⟩;rw[Int.tmod_eq_emod_of_nonneg aar,Int.add_emod_right]
 conv=>rhs;rw[<-h]
 rw[Int.add_mul_emod_self_left]
theorem Na(n m:Int)(w:World)(_: -9223372036854775808<=n)(_h2:n<=9223372036854775807)(f:1<=m)(h:m<=1000000):
 Calls Tryz.prog 20 #[.int .i64 n,.int .i64 m] w λe w'=>e=.returned (.int .i64 (n % m))/\w=w':=by
 obtain⟨a,c,d⟩:=Uq n m f;have i:=aa a;obtain⟨r,g⟩:=aay (n.tmod m);rw[g]at a c d;have j:IntKind.i64.wrap (r+m)=r+m:=iL _ aar;have k:IntKind.i64.wrap r=r:=iL _ aar;have l:IntKind.i64.wrap (n % m)=n % m:=iL _ (by have:=ze n (b:=m) aar;have:=Int.emod_lt_of_pos n (b:=m) aar;omega);have o:¬m=0:=aar;have p:¬m<1:=aar;have q:¬m= -1:=aar;clear c d;go_enter Tryz.func20,Tryz.ntmps20;go_wp2;go_ret;exact⟨rfl,rfl⟩
end
section
open Go.RowKit
def kD(ty:TypeId)(w:World)(g:Nat)(s:ByteArray)(i:Nat)(b:Bool):Prop:=w.heap[g]?=some (.cells #[.string s,.int .i64 i,.bool b] ty (0,0))
section
variable {ty:TypeId} {w w':World} {g i:Nat} {s:ByteArray} {b:Bool}
theorem kD.cells(h:kD ty w g s i b):w.cell? ⟨g,0,none⟩=some (.string s)/\w.cell? ⟨g,1,none⟩=some (.int .i64 i)/\w.cell? ⟨g,2,none⟩=some (.bool b):=by
 unfold kD at h;refine⟨?_,?_,?_⟩<;>simp[World.cell?,h]
theorem kD.free(h:kD ty w g s i b):w.frozen? ⟨g,0,none⟩=false/\w.frozen? ⟨g,1,none⟩=false/\w.frozen? ⟨g,2,none⟩=false:=by
 unfold kD at h;refine⟨?_,?_,?_⟩<;>simp[World.frozen?,h]
theorem kD.lt(h:kD ty w g s i b):g<w.heap.size:=(aW.1 h).1
theorem kD.Jp(h:kD ty w g s i b)(j:Nat)(v:Int)(a:v=j):kD ty (w.setCell ⟨g,1,none⟩ (.int .i64 v)) g s j b:=by
 subst a;unfold kD at*;simp[World.setCell,Array.getElem?_modify,h]
theorem kD.AQ(h:kD ty w g s i b)(c:Bool):kD ty (w.setCell ⟨g,2,none⟩ (.bool c)) g s i c:=by
 unfold kD at*;simp[World.setCell,Array.getElem?_modify,h]
theorem kD.ag(h:kD ty w g s i b)(hb:Below w.heap.size w w'):kD ty w' g s i b:=(hb.block g h.lt).t h
theorem kD.grown{row:Option Nat}(h:kD ty w g s i b)(a:w.grownBy w' row)(c:row≠some g):kD ty w' g s i b:=(a.block g h.lt (λe=>c e.symm)).t h
theorem kD.drewN(h:kD ty w g s i b)(n:Nat):kD ty (w.drewN n) g s i b:=h
end
theorem sZ(w:World)(row:Option Nat):w.grownBy w row:=⟨rfl,rfl,rfl,ax _,λ_ _ _=>rfl⟩
theorem iH{w w':World}{row:Option Nat}(h:w.grownBy w' row)(n:Nat):w.grownBy (w'.drewN n) row:=⟨h.os,h.tape,h.output,h.size,h.block⟩
theorem lG{w w':World}{g:Nat}(h:w.grownBy w' (some g))(i:Nat)(v:Value):w.grownBy (w'.setCell ⟨g,i,none⟩ v) (some g):=
 ⟨h.os,h.tape,h.output,by rw[show(w'.setCell ⟨g,i,none⟩ v).heap.size=w'.heap.size by simp[World.setCell]];exact h.size,λk b a=>by rw[aL _ _ _ _ (λe=>a abf)];exact h.block k b a⟩
def XF(ty:TypeId)(w:World)(g:Nat)(s:ByteArray):Except Nat Nat->Prop
 |.ok j=>kD ty w g s j false
 |.error j=>kD ty w g s j true
theorem T.CP(s:ByteArray)(i:Nat)(h:i<s.size)(c:UInt8):T.now s.data.toList i c=(s[i]==c):=by
 unfold T.now;have a:i<s.data.toList.length:=aaD;rw[az a];show(some s[i]==some c)=_;rfl
theorem T.DU(s:ByteArray)(i:Nat)(h:s.size<=i)(c:UInt8):T.now s.data.toList i c=false:=by
 unfold T.now;rw[gD aaD];rfl
theorem Ol{a b:UInt8}(h:(a==b)=false):((a.toNat:Int)==(b.toNat:Int))=false/\((a.toNat:Int) != (b.toNat:Int))=true:=by
 have c:a≠b:=(by rw[aD]at h;exact h);have:(a.toNat:Int)≠(b.toNat:Int):=λe=>c (qg.1 aar);exact⟨by rw[aD];exact this,by rw[jg];exact this⟩
theorem QU{a b:UInt8}(h:(a==b)=true):((a.toNat:Int)==(b.toNat:Int))=true/\((a.toNat:Int) != (b.toNat:Int))=false:=by
 have:=fD.1 h;subst this;exact⟨xW _,aau⟩
theorem acY{p:Prop}(h:p:=by
 go_upto_region 3 with fail;go_quiet (fail);go_wp2_with fail;refine aV (results_none rfl _ _ _) rfl ?_;exact⟨rfl,lG (iH d.o nq) _ _,by rw[a.o];exact(c.o.drewN nq).AQ true⟩):p:=h
theorem NN(g i:Nat)(s q:ByteArray)(w:World)(h:kD 188 w g s i false)(_:i<=4096)(E:s.size<=4096)(F:q.size<=16):
 Calls Tryz.prog 209 #[.pointer (some ⟨g,0,none⟩),.string q] w λe w'=>e=.returned (.tuple #[])/\w.grownBy w' (some g)/\XF 188 w' g s (T.tq s.data.toList q.data.toList i):=by
 have x:=aa h;clear h;go_enter Tryz.func209,Tryz.ntmps209;go_wp2_with fail;go_loopw [4] (λl wr=>∃k m:Nat,k<=q.size/\m<=i+k/\l=.int .i64 k/\T.tq s.data.toList q.data.toList i=T.tq s.data.toList (q.data.toList.drop k) m/\kD 188 wr g s m false/\w.grownBy wr (some g)) (λl _=>q.size-(intOf l).toNat);case atStart=>exact⟨0,i,aT _,aar,rfl,rfl,x.o,sZ _ _⟩
 case round=>
  obtain⟨k,m,G,H,rfl,o,b,p⟩:=hrel;obtain⟨x0,I,J⟩:=b.cells;obtain⟨f0,f1,f2⟩:=b.free;obtain⟨r,c,d⟩:=aac o b p;clear o b p;by_cases f:k<q.size
  ·have y:(k:Int)<(q.size:Int):=aar;have K:decide ((k:Int)<(q.size:Int))=true:=aM y;have L:decide (k<q.size)=true:=aM f;have M:(0:Int)<=(k:Int):=aar;have N:(0:Int)<=(m:Int):=aar;have t:q.data.toList.drop k=q[k]::q.data.toList.drop (k+1):=by
    rw[dN aaC];rfl
   have u:T.tq s.data.toList q.data.toList i=if T.now s.data.toList m q[k]=true then T.tq s.data.toList (q.data.toList.drop (k+1)) (m+1) else .error m:=by rw[r.o,t];rfl
   have n:=aa u;clear u t;rcases bX m s.size with j|j
   ·have z:(m:Int)<(s.size:Int):=aar;have A:decide ((s.size:Int)<=(m:Int))=false:=cu aar;have B:decide (s.size<=m)=false:=cu aar;rcases bW (s[m]==q[k])with e|e
    ·have a:=aa (show T.tq s.data.toList q.data.toList i=T.tq s.data.toList (q.data.toList.drop (k+1)) (m+1) by rw[n.o,T.CP s m j,aJ e]);obtain⟨C,D⟩:=QU e;have v:=aa f;clear e;go_upto_region 3 with fail;go_quiet (fail);go_wp2_with fail;go_roundw;case rel=>exact⟨k+1,m+1,v.o,aar,aaw,a.o,(c.o.drewN nq).Jp (m+1) _ abz,lG (iH d.o nq) _ _⟩
     case measure=>exact aax v.o
    ·have a:=aa (show T.tq s.data.toList q.data.toList i=.error m by rw[n.o,T.CP s m j,aH (by rw[e];decide)]);obtain⟨C,D⟩:=Ol e;clear e;exact acY
   ·have z:(s.size:Int)<=(m:Int):=aar;have A:decide ((s.size:Int)<=(m:Int))=true:=aM aar;have B:decide (s.size<=m)=true:=aM aar;have a:=aa (show T.tq s.data.toList q.data.toList i=.error m by rw[n.o,T.DU s m j,aH abe]);exact acY
  ·obtain rfl:k=q.size:=aar;have a:=aa (show T.tq s.data.toList q.data.toList i=.ok m by rw[r.o,ll (by simp)];rfl);clear f;go_wp2_with fail;go_end0;exact⟨rfl,d.o,by rw[a.o];exact c.o⟩
theorem NP(g i:Nat)(s:ByteArray)(b:UInt8)(a:List UInt8)(w:World)(h:kD 188 w g s i true):
 Calls Tryz.prog 209 #[.pointer (some ⟨g,0,none⟩),.string ⟨(b::a).toArray⟩] w λe w'=>e=.returned (.tuple #[])/\w=w':=by
 obtain⟨x0,f,j⟩:=h.cells;have c:(⟨(b::a).toArray⟩:ByteArray).size=a.length+1:=(by rw[I9];rfl);generalize(⟨(b::a).toArray⟩:ByteArray)=q at c⊢;have d:(0:Int)<(q.size:Int):=aar;have k:decide ((0:Int)<(q.size:Int))=true:=aM d;have l:decide (0<q.size)=true:=aM aar;clear c;go_enter Tryz.func209,Tryz.ntmps209;go_wp2_with fail;refine Be 1 ?_;rw[rounds_succ];go_wp2_with fail;go_end0;exact⟨rfl,rfl⟩
end
section
open Go.RowKit
theorem T.rC(s:ByteArray)(i j:Nat):s.extract i j=T.lU s.data.toList i j:=by
 apply wJ;rw[mP,T.lU,tK]
theorem T.Ka(s:ByteArray)(i m:Nat)(h:m<s.size):T.Ai s.data.toList i m=(T.low s[m]||(decide (i<m)&&T.OT s[m])):=by
 unfold T.Ai;rw[T.getD_at s m h]
theorem T.Qj(c:UInt8):(decide (48<=(c.toNat:Int))&&decide ((c.toNat:Int)<=57))=T.OT c:=rfl
def Ti(ty:TypeId)(g i:Nat)(s:ByteArray)(w:World)(e:Ending)(w':World):Prop:=
 w.grownBy w' (some g)/\((T.gL s.data.toList i=i/\e=.returned (.string ⟨#[]⟩)/\kD ty w' g s i true)\/
   (T.gL s.data.toList i≠i/\e=.returned (.string (T.lU s.data.toList i (T.gL s.data.toList i)))/\kD ty w' g s (T.gL s.data.toList i) false))
namespace T
def pre(a:List T):Option (Except Nat (List T×Nat))->Option (Except Nat (List T×Nat))
 |none=>none
 |some (.error e)=>some (.error e)
 |some (.ok (b,j))=>some (.ok (a++b,j))
theorem NI(a:List T)(t:T)(r:Option (Except Nat (List T×Nat))):pre a (more t r)=pre (a++[t]) r:=by
 rcases r with _|_|⟨b,j⟩;·rfl
 ·rfl
 ·simp[pre,more]
end T
def vK(ty:TypeId)(g:Nat)(s:ByteArray)(w:World)(r:Except Nat (T×Nat))(e:Ending)(w':World):Prop:=
 w.grownBy w' (some g)/\(match r with
   |.ok (t,j)=>kD ty w' g s j false/\∃A cap,e=.returned (.agg #[.int .i64 t.aA,.string t.aI,.slice A t.ay.length cap])/\bI (dP w.heap.size) w' (.agg #[.int .i64 t.aA,.string t.aI,.slice A t.ay.length cap]) t
   |.error j=>kD ty w' g s j true/\∃(k:Int) (nm:ByteArray) (A:Option Addr) (n cap:Nat),e=.returned (.agg #[.int .i64 k,.string nm,.slice A n cap]))
theorem KU{w w1 a:World}{g:Nat}{row:Option Nat}(h:w.grownBy w1 (some g))(k:w1.grownBy a row)(c:∀b,row=some b->w.heap.size<=b):w.grownBy a (some g):=
 ⟨k.os.t h.os,k.tape.t h.tape,k.output.t h.output,aG h.size k.size,λi hi d=>by
   rw[k.block i (dw hi h.size) (λe=>aaz (c i e.symm))];exact h.block i hi d⟩
theorem Dz{w w1 a:World}{g:Nat}(h:w.grownBy w1 (some g))(k:Below w1.heap.size w1 a):w.grownBy a (some g):=
 pR h (jr _ k)
theorem bK.step{w w1 a:World}{g:Nat}{v:Value}{L:List T}(h:bK w1 w.heap.size v L)(d:g<w.heap.size)(k:w1.grownBy a (some g)):bK a w.heap.size v L:=
 h.aR λb hb c=>k.block b c (λe=>by injection e with e;omega)
theorem y8{s:ByteArray}{l:List UInt8}(h:s≠⟨l.toArray⟩):(s.toList==l)=false:=by
 rw[aD];intro e;apply h;apply wJ;rw[<-iR,e]
theorem acZ{p:Prop}(h:p:=by
 go_enter uT,tV;go_wp2;go_ret2;exact⟨rfl,rfl⟩):p:=h
theorem ZZ(s:ByteArray)(w:World):Calls Tryz.prog 180 #[.string s] w λe w'=>e=.returned (.tuple #[.int .i64 (T.vV s),.int .i64 (T.yF s)])/\w=w':=by
 by_cases a:s=⟨#[104,97,115,104]⟩
 ·subst a;exact acZ
 by_cases b:s=⟨#[115,101,97,108]⟩
 ·subst b;exact acZ
 by_cases c:s=⟨#[115,105,103,110]⟩
 ·subst c;exact acZ
 by_cases d:s=⟨#[112,111,119,101,114]⟩
 ·subst d;exact acZ
 have E:=aa (show T.vV s=0/\T.yF s=0 by unfold T.vV T.yF;simp[a,b,c,d]);have f:(s.toList==[104,97,115,104])=false:=y8 a;have g:(s.toList==[115,101,97,108])=false:=y8 b;have h:(s.toList==[115,105,103,110])=false:=y8 c;have i:(s.toList==[112,111,119,101,114])=false:=y8 d;clear a b c d;go_enter uT,tV;go_wp2;go_ret2;exact⟨by rw[E.o.1,E.o.2];rfl,rfl⟩
end
section
open Go.RowKit
theorem G8(W:World)(g:Nat)(x y z:Value):Below g W (((W.setCell ⟨g,0,none⟩ x).setCell ⟨g,1,none⟩ y).setCell ⟨g,2,none⟩ z):=
 (((aC g W).setCell (p:=⟨g,0,none⟩) (ax _) _).setCell (p:=⟨g,1,none⟩) (ax _) _).setCell (p:=⟨g,2,none⟩) (ax _) _
def CZ(ty:TypeId)(w:World)(g:Nat)(s:ByteArray)(W:World)(j:Nat)(b:Bool):Prop:=
 kD ty W g s j b/\jy W w.heap.size (.int .i64 0) (.string ⟨#[]⟩) (.slice none 0 0)/\w.grownBy W (some g)/\w.heap.size+1<=W.heap.size
section
variable {ty:TypeId} {w W W':World} {g j j':Nat} {s:ByteArray} {b b':Bool}
theorem CZ.step(h:CZ ty w g s W j b)(c:g<w.heap.size)(k:W.grownBy W' (some g))(a:kD ty W' g s j' b'):CZ ty w g s W' j' b':=
 ⟨a,h.2.1.grown k (λe=>by injection e;omega),pR h.2.2.1 k,aG h.2.2.2 k.size⟩
theorem CZ.ag(h:CZ ty w g s W j b)(k:Below W.heap.size W W'):CZ ty w g s W' j b:=
 ⟨h.1.ag k,h.2.1.ag k,Dz h.2.2.1 k,aG h.2.2.2 k.size⟩
theorem CZ.drewN(h:CZ ty w g s W j b)(n:Nat):CZ ty w g s (W.drewN n) j b:=⟨h.1.drewN n,h.2.1,iH h.2.2.1 n,h.2.2.2⟩
theorem CZ.start(h:kD ty w g s j b):CZ ty w g s (w.alloc (.cells #[.int .i64 0,.string ⟨#[]⟩,.slice none 0 0] 29)) j b:=
 ⟨h.ag (ae _ _),jy.new _ _ _ _,Dz (sZ _ _) (ae _ _),by rw[aK];omega⟩
def Dc(ty:TypeId)(w:World)(g:Nat)(s:ByteArray)(W:World)(x y z:Value):Except Nat (T×Nat)->Prop
 |.ok (t,j)=>kD ty W g s j false/\∃A cap,x=.int .i64 t.aA/\y=.string t.aI/\z=.slice A t.ay.length cap/\bI (dP (w.heap.size+1)) W (.agg #[x,y,z]) t
 |.error j=>kD ty W g s j true/\∃(k:Int) (nm:ByteArray) (A:Option Addr) (n cap:Nat),x=.int .i64 k/\y=.string nm/\z=.slice A n cap
theorem CZ.ends{x y z:Value}{r:Except Nat (T×Nat)}(h:CZ ty w g s W j b)(m:g<w.heap.size)(d:Dc ty w g s W x y z r):
 vK ty g s w r (.returned (.agg #[x,y,z])) (((W.setCell ⟨w.heap.size,0,none⟩ x).setCell ⟨w.heap.size,1,none⟩ y).setCell ⟨w.heap.size,2,none⟩ z):=by
 have a:∀{j b},kD ty W g s j b->kD ty (((W.setCell ⟨w.heap.size,0,none⟩ x).setCell ⟨w.heap.size,1,none⟩ y).setCell ⟨w.heap.size,2,none⟩ z) g s j b:=λa=>(lJ _ _ _ _ _ _ aar).t a;have hb:=G8 W w.heap.size x y z;refine⟨⟨hb.os.t h.2.2.1.os,hb.tape.t h.2.2.1.tape,hb.output.t h.2.2.1.output,aG h.2.2.1.size hb.size,λk f i=>(hb.block k f).t (h.2.2.1.block k f i)⟩,?_⟩;rcases r with e|⟨t,j'⟩
 ·obtain⟨c,k,nm,A,n,cap,rfl,rfl,rfl⟩:=d;exact⟨a c,k,nm,A,n,cap,rfl⟩
 ·obtain⟨c,A,cap,rfl,rfl,rfl,l⟩:=d;refine⟨a c,A,cap,rfl,l.aR λb hb _=>?_⟩;have:=ak hb;exact⟨aM aar,lJ _ _ _ _ _ _ aar⟩
end
theorem tX(S:Nat->Bool)(W:World)(k:Int)(nm:ByteArray)(a: -9223372036854775808<=k/\k<=9223372036854775807)(b:nm.size<=maxLen):bI S W (.agg #[.int .i64 k,.string nm,.slice none 0 0]) (.mk k nm []):=
 aS.mk k nm none 0 [] (λ_=>(undef,undef,undef)) a b (ax _) (aT _) (.inl rfl) (λi h=>by simp at h)
theorem T.Ip(l:List UInt8)(i:Nat):(T.lU l i (T.gL l i)).size<=16:=by
 have:=(T.vZ l i).2.1;unfold T.lU;rw[y7,aX];omega
theorem T.KT(s:ByteArray):0<=T.vV s/\T.vV s<=7:=by
 unfold T.vV;repeat' split
 all_goals omega
end
section
open Go.RowKit
def T.FD(vars k:Int)(s:ByteArray):Bool:=
 (decide (0<vars)&&decide (k=2)&&(decide (s=⟨#[120]⟩)||decide (s=⟨#[121]⟩)||decide (s=⟨#[122]⟩)))||
 (decide (k=1)&&(decide (s=⟨#[97]⟩)||decide (s=⟨#[98]⟩)||decide (s=⟨#[99]⟩)||decide (s=⟨#[107]⟩)||decide (s=⟨#[110,49]⟩)))
theorem nA.other{B g h:Nat}{w:World}(hd:nA B g w)(f:h≠g)(v:B<=h)(v0 d v2:Value):
 nA B g (((w.setCell ⟨h,0,none⟩ v0).setCell ⟨h,1,none⟩ d).setCell ⟨h,2,none⟩ v2):=by
 obtain⟨h0,A,n,c,k,i,l,m,o,a⟩:=hd;refine⟨h0,A,n,c,k,(lJ _ _ _ _ _ _ (λe=>f e.symm)).t i,l,m,o,?_⟩;rcases a with a|⟨b,off,p,e,q⟩;·exact .inl a
 ·refine .inr ⟨b,off,p,e,λj hj=>?_⟩;obtain⟨z,r,s⟩:=q j hj;have t:b≠h:=aar;have u:=lJ w h v0 d v2 b t;refine⟨z,?_,s⟩;rw[<-r];exact dB u
end
section
namespace T
def Zv:List ByteArray:=[⟨#[97]⟩,⟨#[98]⟩,⟨#[99]⟩,⟨#[107]⟩,⟨#[110,49]⟩]
def ZN(s:ByteArray):Bool:=Zv.any λn=>decide (s=n)
theorem V9{s:ByteArray}:ZN s=true<->s∈Zv:=by
 unfold ZN;rw[dM];exact⟨λ⟨n,a,b⟩=>by rw[ak b];exact a,λh=>⟨s,h,aau⟩⟩
mutual
def dep:T->Nat
 |.mk _ _ a=>yE a
def yE:List T->Nat
 |[]=>0
 |t::r=>max (dep t+1) (yE r)
end
theorem CB(n:Nat):∀l:List T,yE l<=n<->∀t∈l,t.dep+1<=n
 |[]=>by simp[yE]
 |t::r=>by simp only[yE,Nat.max_le,CB n r,bM,forall_eq_or_imp]
mutual
theorem Mj:∀t:T,t.fM.dep<=t.dep
 |.mk k s b=>by
  have h:=Fp b;simp only[fM,dep];by_cases a:k=7
  ·rw[aJ a,CB];exact λt c=>(CB _ _).1 h t ((kG _).mem_iff.1 c)
  ·rw[aH a];exact h
theorem Fp:∀l:List T,yE (fV l)<=yE l
 |[]=>ax _
 |t::r=>by
  have a:=Mj t;have b:=Fp r;simp only[fV,yE];omega
end
mutual
def lw:T->Bool
 |.mk k s a=>(decide (s.size<=2)&&(decide (k≠1)||ZN s))&&uH a
def uH:List T->Bool
 |[]=>true
 |t::r=>lw t&&uH r
end
theorem CJ:∀l:List T,uH l=true<->∀t∈l,t.lw=true
 |[]=>by simp[uH]
 |t::r=>by simp only[uH,ah,CJ r,bM,forall_eq_or_imp]
mutual
theorem M8:∀t:T,t.lw=true->t.fM.lw=true
 |.mk k s c=>λh=>by
  simp only[lw,ah]at h;simp only[fM,lw,ah];have a:=FC c h.2;refine⟨h.1,?_⟩;by_cases b:k=7
  ·rw[aJ b];rw[CJ]at a⊢;exact λt d=>a t ((kG _).mem_iff.1 d)
  ·rw[aH b];exact a
theorem FC:∀l:List T,uH l=true->uH (fV l)=true
 |[]=>λ_=>rfl
 |t::r=>λh=>by
  simp only[uH,fV,ah]at h⊢;exact⟨M8 t h.1,FC r h.2⟩
end
mutual
theorem zU:∀t:T,t.fM.hasVar=t.hasVar
 |.mk k s b=>by
  have h:=zV b;simp only[fM,hasVar];congr 1;by_cases a:k=7
  ·rw[aJ a,<-h,nS,nS];exact(kG _).any_eq
  ·rw[aH a];exact h
theorem zV:∀l:List T,nR (fV l)=nR l
 |[]=>rfl
 |t::r=>by simp only[fV,nR,zU t,zV r]
end
def Made(vars:Int)(D:Nat)(t:T):Prop:=t.shape=true/\t.size+1<=5*2 ^ (D-1)/\t.bE<=6*t.size/\(t.lw=true/\t.dep<=D-1)/\(t.hasVar=true->0<vars)
variable {vars:Int}
theorem RS{k:Int}{s:ByteArray}(h:FD vars k s=true):k=2->0<vars:=by
 unfold FD at h;simp only[eH,ah,bO]at h;rcases h with h|h;·exact λ_=>h.1.1
 ·omega
theorem M9{k:Int}{s:ByteArray}(h:FD vars k s=true):(k=1\/k=2)/\isName s=true/\s.size<=2:=by
 unfold FD at h;simp only[eH,ah,bO]at h;rcases h with⟨⟨-,rfl⟩,(rfl|rfl)|rfl⟩|⟨rfl,(((rfl|rfl)|rfl)|rfl)|rfl⟩;all_goals exact⟨aat,aas,aat⟩
theorem Ue{k:Int}{s:ByteArray}(h:FD vars k s=true):k≠1\/s∈Zv:=by
 unfold FD at h;simp only[eH,ah,bO]at h;unfold Zv;rcases h with⟨⟨-,rfl⟩,_⟩|⟨rfl,(((rfl|rfl)|rfl)|rfl)|rfl⟩;·exact .inl aat
 all_goals exact .inr aau
theorem UU(n:Nat):1<=2 ^ n:=Nat.one_le_two_pow
theorem K8{k:Int}{s:ByteArray}(h:FD vars k s=true)(D:Nat):Made vars D (.mk k s []):=by
 obtain⟨a,b,c⟩:=M9 h;have d:=Ue h;have:=UU (D-1);have f:=RS h;refine⟨?_,?_,?_,?_,λe=>f (by simpa[hasVar,nR]using e)⟩;·simp only[shape];rw[aJ a,b];rfl
 ·simp only[size,dJ];omega
 ·simp only[T.bE,bJ,size,dJ];omega
 ·exact⟨by simp only[lw,uH,ah,eH,bO,V9];exact⟨⟨c,d⟩,trivial⟩,by simp[dep,yE]⟩
def YH(vars:Int)(D:Nat)(t:T):Prop:=Made vars D t/\t.fM=t
theorem Made.fM{D:Nat}{t:T}(h:Made vars D t):YH vars D t.fM:=
 ⟨⟨CV t h.1,by rw[BP];exact h.2.1,by rw[Bo,BP];exact h.2.2.1,⟨M8 t h.2.2.2.1.1,aG (Mj t) h.2.2.2.1.2⟩,by rw[zU];exact h.2.2.2.2⟩,BJ t⟩
theorem Made.eZ{D:Nat}{t:T}(h:Made vars D t)(a:D<=4):t.eZ=true:=by
 have b:2 ^ (D-1)<=2 ^ 3:=oG aat aar;have c:=h.2.1;unfold T.eZ;rw[ah];exact⟨aM aar,h.1⟩
theorem Made.bE{D:Nat}{t:T}(h:Made vars D t)(a:D<=4):t.bE<=240:=by
 have b:2 ^ (D-1)<=2 ^ 3:=oG aat aar;have c:=h.2.1;have d:=h.2.2.1;omega
theorem Made.gK{D:Nat}{t:T}(h:Made vars D t)(a:D<=4):t.gK.length<=1024:=by
 have b:=h.bE a;have c:=Ba t;omega
theorem TN:(⟨#[]⟩:ByteArray).size=0:=rfl
def Xc(vars:Int)(l:List T):Prop:=∀t∈l,∃k s,FD vars k s=true/\t=.mk k s []
theorem Xc.lw{l:List T}(h:Xc vars l):uH l=true:=by
 rw[CJ];intro t a;obtain⟨k,s,b,rfl⟩:=h t a;exact(K8 b 1).2.2.2.1.1
end T
end
end Go.Proofs.YtaciciokmpbkkaaGreatDoor
