import Derived.Test.YtaciciokmpbkkaaGreatDoorWebG24
set_option maxRecDepth 100000
set_option maxHeartbeats 16000000
namespace Go.Proofs.YtaciciokmpbkkaaGreatDoor
section
open Go.RowKit Go.Maps T
attribute [local go_sem ↓] Go.wp_at_zero Go.wp_at_succ
def Px(s:List iZ)(x:jZ)(sv fv:Value)(B g Mn Ma Mg N NA:Nat)(v:aT.xD)(KS:List (List UInt8))(w:World)(e:Ending)(w':World):Prop:=
 ∃A c,e=.returned (.slice A (aT.jG s x).length c)/\kK mM s sv B g Mn Ma Mg (N+s.length) NA w' fv v KS/\jK CG (uk g Mn Ma Mg fv) w' (.slice A (aT.jG s x).length c) (aT.jG s x)/\xC B g Mn Ma Mg w fv w' fv
theorem OU{s:List iZ}{sv fv:Value}{B g Mn Ma Mg N NA:Nat}{v:aT.xD}{KS:List (List UInt8)}(x:jZ)(vx:Value)(w:World)(hv:kK mM s sv B g Mn Ma Mg N NA w fv v KS)(bv:∀W,Below B w W->yu W sv s)(hx:qi (uk g Mn Ma Mg fv) w vx x)(hs:zb s)(ho:zH s x)(hN:N<=100000000):
 Calls Tryz.prog 47 #[.pointer (some ⟨g,0,none⟩),vx] w (Px s x sv fv B g Mn Ma Mg N NA v KS w):=by
 obtain⟨i0,gm,gp,gu,gy⟩:=dV Tryz.Md;obtain⟨Ax,cx,Bx,dx,rfl,bQ,gz⟩:=hx;have gB:=ho.ZB hs;have gD:=ho.txt hs;have aO:=af w (.cells #[.slice Ax x.aS.length cx,.slice Bx x.bH.length dx] 35);have aP:=iy.new w [.slice Ax x.aS.length cx,.slice Bx x.bH.length dx] 35;have bz:=aK w (.cells #[.slice Ax x.aS.length cx,.slice Bx x.bH.length dx] 35);change iy (w.alloc (.cells #[.slice Ax x.aS.length cx,.slice Bx x.bH.length dx] 35)) w.heap.size _ _ at aP;obtain⟨n,hn⟩:∃n,s.length=n:=⟨_,rfl⟩;obtain⟨As,cs,Y,-,jk,kL⟩:=bv w (az _ _);subst Y;have hB:=hv.lt;obtain⟨gF,HV,bR,bE⟩:=ZT (hv.new (ak w.heap.size)) (hv.ag aO) (bQ.ag aO) (gz.ag aO);have dH:x.aS.length=n:=(by rw[ho.fit.len,hn]);obtain⟨kn,dI⟩:∃k,x.bH.length=k:=⟨_,rfl⟩;obtain⟨bF,bS,gH,bU,bG,HN,dJ,HK,bV⟩:=ZY ((λW (hW:Below B (w.alloc (.cells #[.slice Ax x.aS.length cx,.slice Bx x.bH.length dx] 35)) W)=>bv W ((aO.m hB).t hW))) ho hs gB gD hn dH dI aO;have kM:(n:Int)<=16:=(by have:=hs.sl;omega);rw[hn]at HV bF jk⊢;rw[dH]at aP bz bR HV bF bE bV⊢;rw[dI]at aP bz bR HV bF bE bV⊢;clear bQ gz gB gD hn hv bv aO ho hs dH dI;go_enter Tryz.func47,Tryz.ntmps47;go_upto_region 1 with fail;generalize w.alloc (.cells #[.slice Ax n cx,.slice Bx kn dx] 35)=z at aP bz bR HV bF bE bV⊢;obtain⟨Z,dK⟩:∃q,w.heap.size=q:=⟨_,rfl⟩;rw[dK]at aP bz hB gF⊢;obtain⟨z0,D,_,_⟩:=aP.two;have dM:=aa (show Calls Tryz.prog 46 #[.agg #[.slice none 0 0,.slice Bx kn dx]] z λe w'=>e=.returned (.string ⟨(aT.iU ⟨[],x.bH⟩).toArray⟩)/\Below z.heap.size z w' from
  Gd ⟨[],x.bH⟩ (.agg #[.slice none 0 0,.slice Bx kn dx]) z bG.o.kn ⟨none,0,Bx,dx,by rw[<-HK.o];rfl,jK.nil _ _ _,by have:=bE.o.any;rw[<-HK.o]at this;exact this⟩)
 obtain⟨TK,dN⟩:∃TK:ByteArray,(⟨(aT.iU ⟨[],x.bH⟩).toArray⟩:ByteArray)=TK:=⟨_,rfl⟩;rw[dN]at dM;obtain⟨gJ,jl,jm,dO,dQ⟩:=ZU dN aP dK bz hB;clear aP dN dK bz hB;go_wp2_with fail;refine dM.o.m ?_;rintro e w2 ⟨rfl,bW⟩;obtain⟨gK,kN⟩:=ZQ (HV.o.ag bW) bW;have jo:=(gK.o.box.cell 0 (u:=.slice As n cs) rfl);have jr:=aa (show kK (xo (.slice none 0 0)) s (.slice As n cs) B g Mn Ma Mg (N+0) NA w2 fv v KS from gK.o.turn (λb _ _=>⟨yZ.2 (by intro e;cases e),rfl⟩) (λ_ _=>rfl) (λb _=>yZ.2 (by intro e;cases e)) (λb _=>yZ.2 (by intro e;cases e)));have aM:=aa (show B<=z.heap.size by have:=dQ.o;have:=dO.o;omega);have bX:=aa (λb (hb:z.heap.size<=b)=>HV.o.new hb);have jv:=aa (show xC B g Mn Ma Mg z fv w2 fv from xC.of (by have:=dQ.o;have:=dO.o;omega) bW);clear z0 D bW;go_upto_region 4 with fail;clear jo;go_loopw [24,6] (λiv ov wr=>∃j:Nat,j<=n/\iv=.int .i64 j/\kK (xo ov) s (.slice As n cs) B g Mn Ma Mg (N+j) NA wr fv v KS/\gV CG (uk g Mn Ma Mg fv) z.heap.size wr ov ((List.range j).flatMap (aT.turnsOf s x))/\xC B g Mn Ma Mg z fv wr fv) (λiv _ _=>n-(intOf iv).toNat);case atStart=>exact⟨0,aL _,rfl,jr.o,gV.nil _ _ _ _,jv.o⟩
 case round=>
  obtain⟨j,hj,rfl,Y,ai,O⟩:=hrel;by_cases aX:j<n
  ·have aZ:j<x.aS.length:=(by rw[dJ.o];exact aX);have bv:=bF.o wr O.below;have dR:=bR.o.aR (w':=wr) O.aR;have dU:=bE.o.aR (w':=wr) O.aR;have dW:iy wr Z 35 [.slice Ax n cx,.slice Bx kn dx]:=(O.aR Z gF.o (by have:=dO.o;omega)).2.t jl.o;obtain⟨z0,D,_,_⟩:=dW.two;have bY:=Y.box.cell 0 (u:=.slice As n cs) rfl;have bA:=aa (λW (hW:Below wr.heap.size wr W)=>Uk s x (j:Int) (.slice As n cs) (.agg #[.slice Ax n cx,.slice Bx kn dx]) wr W bv hW (by
    have h1:=dR.ag hW;have P:=dU.ag hW;rw[<-dJ.o]at h1⊢;rw[<-HK.o]at P⊢;exact⟨Ax,cx,Bx,dx,rfl,h1.any,P.any⟩) bU.o.ml (by omega))
   have bZ:¬(j:Int)<0:=(by omega);simp only[aG bZ,oh]at bA;have cu:=aa (Ph s x j);have bB:=aa (show aT.turnsOf s x j=match aT.next s x j with
    |none=>[]
    |some m=>if m.1=2 then (aT.rC m.2 ((x.aS[j]?).map pF.b |>.getD []) x.bH).map λt=>⟨j,t⟩ else [⟨j,uC⟩]from rfl)
   have dY:=aa (Ex bU.o j);obtain⟨R,hR⟩:∃R,aT.next s x j=R:=⟨_,rfl⟩
   rw[hR]at bA bB;obtain⟨bC,Q,gL,gM,gN,gP,gQ,gT⟩:=ZX hR aX Y ai O dR dU dW;have hi:(j:Int)<(n:Int):=(by omega);clear bv dR dU dW Y ai O hR aX hj aZ bZ;go_upto_region 6 with fail;go_cut [8,9]from 27 to 36 (λp jw wc=>Yy R wr.heap.size wc p jw/\Below wr.heap.size wr wc)
   case first=>
    have r:=aa (show wr.cell? ⟨g,0,none⟩=some (.slice As n cs)/\wr.cell? ⟨Z,0,none⟩=some (.slice Ax n cx)/\wr.cell? ⟨Z,1,none⟩=some (.slice Bx kn dx)/\Below wr.heap.size wr wr from⟨bY,z0,D,az _ _⟩);clear bY z0 D;refine gI (S:=(λH=>H.cell? ⟨g,0,none⟩=some (.slice As n cs)/\H.cell? ⟨Z,0,none⟩=some (.slice Ax n cx)/\H.cell? ⟨Z,1,none⟩=some (.slice Bx kn dx)/\Below wr.heap.size wr H)) (λ_=>0) (by kernel_rfl) (show _/\_/\_/\_ from⟨r.o.1,r.o.2.1,r.o.2.2.1,(az _ wr).drew⟩) (λhHeld=>?_);refine gG 0 _ ?_;refine gG 1 _ ?_;refine gG 2 _ ?_;refine gG 3 _ ?_;refine gG 4 _ ?_;refine gG 5 _ ?_;refine iN (rs:=[6,10]) (by kernel_rfl) (by simp) (Vk 6 (λK f=>?_) ((Vk 10 (λK f=>?_) (gY.nil))))
    ·
     (go_simp;go_at_call 61;refine(bA.o _ hHeld.2.2.2).m ?_;rintro e w9 bI;obtain⟨jy,k9,jA,A7,l7,c7,jB,rfl,M,aN⟩:=Ga bI;have bf:=aa aN;clear bI aN;(try replace d:=aa (d.o.ag M));refine mH f (wS r.o (hHeld.2.2.2.t (M.m hHeld.2.2.2.size))) λhHeld=>?_;clear f K);refine gG 7 _ ?_;refine gG 8 _ ?_;refine gG 9 _ ?_;refine x8 10 λK f=>?_;(go_simp;(first|refine yS f (wS r.o (jL hHeld.2.2.2 _)) λg9 J U V=>?_|refine rP f (wS r.o (jq hHeld.2.2.2 _)) λg9 J U V=>?_);have bJ:=aa (show wr.heap.size<=g9 by rw[<-J];exact hHeld.2.2.2.size);replace hHeld:=V;have d:=aa U;(first|rw[J]|(change wr.heap.size=g9 at J;subst J));(try have jC:=aa J);(try clear J);clear f K U V);refine x8 11 λK f=>?_;(have z0:=d.o.cell 0 rfl;have f0:=d.o.free 0;have D:=d.o.cell 1 rfl;have f1:=d.o.free 1;have z2:=d.o.cell 2 rfl;have f2:=d.o.free 2;have z3:=d.o.cell 3 rfl;have f3:=d.o.free 3;go_simp;refine WB f d.o (wS r.o (sN hHeld.2.2.2 bJ.o _ _ _ _)) λU V=>?_;replace hHeld:=V;replace d:=aa U;clear f K U V z0 f0 D f1 z2 f2 z3 f3);refine gG 12 _ ?_;refine dL (by kernel_rfl) ?_ _;have av:=aa hHeld.2.2.2;go_wp2_with fail;go_meet;exact⟨⟨_,_,_,_,_,_,_,_,rfl,rfl,bJ.o,d.o,bf.o.ag av.o⟩,av.o⟩
    ·
     (go_simp;(first|refine yS f (wS r.o (jL hHeld.2.2.2 _)) λg9 J U V=>?_|refine rP f (wS r.o (jq hHeld.2.2.2 _)) λg9 J U V=>?_);have bJ:=aa (show wr.heap.size<=g9 by rw[<-J];exact hHeld.2.2.2.size);replace hHeld:=V;have d:=aa U;(first|rw[J]|(change wr.heap.size=g9 at J;subst J));(try have jC:=aa J);(try clear J);clear f K U V);refine x8 6 λK f=>?_;(go_simp;go_at_call 61;refine(bA.o _ hHeld.2.2.2).m ?_;rintro e w9 bI;obtain⟨jy,k9,jA,A7,l7,c7,jB,rfl,M,aN⟩:=Ga bI;have bf:=aa aN;clear bI aN;(try replace d:=aa (d.o.ag M));refine mH f (wS r.o (hHeld.2.2.2.t (M.m hHeld.2.2.2.size))) λhHeld=>?_;clear f K);refine gG 7 _ ?_;refine gG 8 _ ?_;refine gG 9 _ ?_;refine x8 11 λK f=>?_;(have z0:=d.o.cell 0 rfl;have f0:=d.o.free 0;have D:=d.o.cell 1 rfl;have f1:=d.o.free 1;have z2:=d.o.cell 2 rfl;have f2:=d.o.free 2;have z3:=d.o.cell 3 rfl;have f3:=d.o.free 3;go_simp;refine WB f d.o (wS r.o (sN hHeld.2.2.2 bJ.o _ _ _ _)) λU V=>?_;replace hHeld:=V;replace d:=aa U;clear f K U V z0 f0 D f1 z2 f2 z3 f3);refine gG 12 _ ?_;refine dL (by kernel_rfl) ?_ _;have av:=aa hHeld.2.2.2;go_wp2_with fail;go_meet;exact⟨⟨_,_,_,_,_,_,_,_,rfl,rfl,bJ.o,d.o,bf.o.ag av.o⟩,av.o⟩
   case rest=>
    obtain⟨⟨g8,mk,k8,kQ,A8,l8,F,jD,rfl,rfl,G,cz,aN⟩,aQ⟩:=hcut;obtain⟨bK,bi,cB,bL,gU,dZ,bf⟩:=ZW (gL.o.ag aQ) (gM.o.aR λb _ y=>aQ.block b y) (gN.o.ag aM.o aQ) (gP.o.ag aQ) (gQ.o.ag aQ) (gT.o.ag aQ) aN;cases R with
    |none=>
     obtain rfl:jD=false:=bf.o;clear z0 D bY cz G aN aQ bA;go_wp2_with fail;go_roundw;case rel=>exact⟨j+1,Q.o,by go_num,bK.o.more (by omega) (ak _),by rw[cu.o,bB.o,dS];exact bi.o,cB.o⟩
     case measure=>have:=Q.o;simp[intOf];omega
    |some m=>
     obtain⟨jE,gW,gX,gZ,ib,d9⟩:=bf.o;obtain⟨kR,mt⟩:=m;dsimp only at gW gX gZ ib d9 bB;subst jE gW gX gZ ib;obtain⟨L,hL⟩:∃L,(List.range j).flatMap (aT.turnsOf s x)=L:=⟨_,rfl⟩;rw[hL]at bi cu dY;have ed:=aa d9;have k0:=cz.cell 0 (u:=.int .i64 mk) rfl;have ek:=aa cz;clear z0 D bY cz G aN aQ bA hL d9 gM gL gN gP gQ gT bf;by_cases P:mk=2
     ·subst P;obtain⟨st,q,_,o,_⟩:=nX bC.o;have aZ:j<x.aS.length:=(bg.1 o).1;have ic:x.aS[j]'aZ=q:=(bg.1 o).2;have eu:q∈x.aS:=eT o;have ig:=aa (show aT.turnsOf s x j=(aT.rC mt q.b x.bH).map λt=>⟨j,t⟩ by rw[bB.o,aI rfl,o];rfl);obtain⟨eB,eD⟩:=ZQ (show aT.Yn mt q.b x.bH from bS.o.few j _ q bC.o rfl o) (TT bS.o.fit o bC.o rfl);have eH:=aa (λ(l:List T) h=>TS (λst bQ=>by have:=gH.o.ml st bQ;omega) (by have:=gH.o.sl;omega) bS.o.fit o bC.o (l:=l) h);obtain⟨ik,il⟩:=bU.o.Xz q eu;obtain⟨iq,iA,iB⟩:=bU.o.pat j _ bC.o;obtain⟨eO,cK,cO⟩:=ZR (And.intro ik il) (And.intro iq (And.intro iA iB)) aZ;obtain⟨eP,eQ⟩:=ZQ (show x.aS[j]'cO.o=q from ic) eu;clear o ic eu aZ ik il iq iA iB bB bC;go_upto_region 10 with fail;clear k0;obtain⟨b1,o1,vB,jF,jH,iC,eU,-⟩:=bL.o.stand cO.o;subst jF;rw[eP.o]at eU;obtain⟨iD,iE⟩:=ZQ eU iC;have bM:n<=cx/\cx<=maxLen:=by
       obtain⟨A',kS,e,h1,P,_⟩:=bL.o;injection e with _ _ e3;subst e3;rw[dJ.o]at h1;exact⟨h1,P⟩
      have kT:cx<=9223372036854775807:=(by have:=bM.2;unfold maxLen at this;omega);have cZ:=jK.one bL.o cO.o (c:=cx-j) (by have:=Q.o;have:=bM.1;omega) (by have:=bM.2;omega);rw[eP.o]at cZ;have iF:Cz.size=2:=rfl;rw[iF]at cZ;obtain⟨T1,eX⟩:∃T:ByteArray,(⟨(aT.iU ⟨[q],[]⟩).toArray⟩:ByteArray)=T:=⟨_,rfl⟩;obtain⟨I,hI⟩:∃I:ByteArray,(⟨(Lib.decDigits j).toArray⟩:ByteArray)=I:=⟨_,rfl⟩;have eY:I.data.toList=aT.itoa j:=(by rw[<-hI];exact Ls _);have eZ:j<100:=(by have:=Q.o;omega);have jI:I.size<=2:=(by have P:=G8 eZ;rw[<-eY,lh]at P;exact P);have fe:T1.data.toList=aT.iU ⟨[q],[]⟩:=(by rw[<-eX]);have jJ:T1.size<=1099511627776:=(by rw[nZ,fe];exact(bG.o.one eQ.o).len);have fo:TK.data.toList=aT.iU ⟨[],x.bH⟩:=(by rw[<-gJ.o]);have jN:TK.size<=1099511627776:=(by rw[nZ,fo];exact bG.o.kn.len);have iG:=aa (show ∀W,Calls Tryz.prog 94 #[.int .i64 j] W (λe w'=>e=.returned (.string I)/\Below W.heap.size W w')from λW=>(Tryz.strconv_Itoa_small j eZ W).m λe w' h=>⟨by rw[h.1,hI],by rw[h.2];exact az _ _⟩);have dh:=aa (show ∀W,Below wc.heap.size wc W->Calls Tryz.prog 46 #[.agg #[.slice (some ⟨b1,o1+j*2,none⟩) 1 (cx-j),.slice none 0 0]] W (λe w'=>e=.returned (.string T1)/\Below W.heap.size W w')from λW hW=>by
       have:=Gd ⟨[q],[]⟩ (.agg #[.slice (some ⟨b1,o1+j*2,none⟩) 1 (cx-j),.slice none 0 0]) W (bG.o.one eQ.o) ⟨_,_,none,0,rfl,(cZ.ag hW).any,jK.nil _ _ _⟩;rw[eX]at this;exact this)
      have di:=aa (show(I++(⟨#[58]⟩:ByteArray)++T1++TK).data.toList=aT.Mj j q x.bH by rw[nV,nV,nV,eY,fe,fo];unfold aT.Mj;simp);have dm:=aa (show(I++(⟨#[58]⟩:ByteArray)++T1++TK).size<=maxLen by
       rw[iV,iV,iV];show I.size+1+T1.size+TK.size<=_;unfold maxLen;omega)
      have jO:¬9223372036854775807<I.size+1:=(by omega);have jP:¬9223372036854775807<I.size+1+T1.size:=(by omega);have jQ:¬9223372036854775807<I.size+1+T1.size+TK.size:=(by omega);have jR:(j:Int)+1<=(n:Int):=(by omega);have jS:(j:Int)+1<=(cx:Int):=(by have:=bM.1;omega);have jT:IntKind.i64.wrap ((j:Int)+1)=(j:Int)+1:=jc _ (by omega);have jU:((j:Int)+1).toNat=j+1:=(by omega);have bZ:(0:Int)<=(j:Int)+1:=(by omega);have aZ:¬cx=j:=(by omega);obtain⟨z0,D,_,_⟩:=dZ.o.two;have jV:=aa dZ.o;clear eU jH iC bM cZ iF eX hI eY jI fe jJ fo jN eZ;obtain⟨A9,c9,rfl⟩:=bi.o.shape;go_cut [10]from 47 to 60 (λkv wk=>kv=.string (I++(⟨#[58]⟩:ByteArray)++T1++TK)/\Below wc.heap.size wc wk)
      case first=>
       have r:=aa (show wc.cell? ⟨Z,0,none⟩=some (.slice (some ⟨b1,o1,none⟩) n cx)/\Below wc.heap.size wc wc from⟨z0,az _ _⟩);clear z0;refine gI (S:=(λH=>H.cell? ⟨Z,0,none⟩=some (.slice (some ⟨b1,o1,none⟩) n cx)/\Below wc.heap.size wc H)) (λ_=>0) (by kernel_rfl) (show _/\_ from⟨r.o.1,(az _ wc).drew⟩) (λhHeld=>?_);refine gG 0 _ ?_;refine gG 3 _ ?_;refine gG 4 _ ?_;refine gG 5 _ ?_;refine gG 6 _ ?_;refine gG 7 _ ?_;refine gG 8 _ ?_;refine gG 9 _ ?_;refine gG 12 _ ?_;refine x8 1 λK f=>?_;(go_simp;go_at_call 94;refine(iG.o _).m ?_;rintro e w9 ⟨rfl,M⟩;(try replace d:=aa (d.o.ag M));refine mH f (WZ r.o (hHeld.2.t (M.m hHeld.2.size))) λhHeld=>?_;clear f K);refine gG 2 _ ?_;refine x8 10 λK f=>?_;(go_simp;go_at_call 46;refine(dh.o _ hHeld.2).m ?_;rintro e w9 ⟨rfl,M⟩;(try replace d:=aa (d.o.ag M));refine mH f (WZ r.o (hHeld.2.t (M.m hHeld.2.size))) λhHeld=>?_;clear f K);refine gG 11 _ ?_;refine gG 13 _ ?_;refine gG 14 _ ?_;refine dL (by kernel_rfl) ?_ _;have av:=aa hHeld.2;clear hHeld;go_wp2_with fail;go_meet;exact⟨rfl,av.o⟩
      case rest=>
       obtain⟨rfl,aA⟩:=hcut;clear z0 D jO jP jQ jR jS jT jU bZ aZ dh iG dZ;obtain⟨bn,fq,fu,jW,iI,iJ,iL,dw,iM⟩:=ZY (bK.o.ag aA) (bi.o.aR λb _ y=>aA.block b y) (cB.o.ag aM.o aA) (bL.o.ag aA) (gU.o.ag aA) (jV.o.ag aA) (ed.o.ag aA) (ek.o.ag aA) (iD.o.aR (S':=uk g Mn Ma Mg fv) λb hb y=>⟨hb,aA.block b y⟩);have e1:=ae aA iE.o;obtain⟨iO,iP⟩:∃K,I++(⟨#[58]⟩:ByteArray)++T1++TK=K:=⟨_,rfl⟩;rw[iP]at di dm⊢;obtain⟨AG,nG,cG,jX,jY,fw⟩:=bn.o.look iO dm.o;rw[di.o]at fw;have iQ:=aa fw;clear iP aA fw bK bi cB bL gU ed ek iD iE;obtain⟨C,hC⟩:∃C,aT.rC mt q.b x.bH=C:=⟨_,rfl⟩;have iR:=aa (show C.length<=4000 by rw[<-hC];exact Jn eB.o);have iT:=aa hC;rw[hC]at ig eH eD;clear hC;have m5:=bn.o.box.cell 5 (u:=.map (some Mg)) rfl;obtain⟨z0,D,_,_⟩:=iJ.o.two;have k1:=dw.o.cell 1 (u:=.int .i64 mt.aC) rfl;have k2:=dw.o.cell 2 (u:=.string mt.aJ) rfl;have k3:=dw.o.cell 3 (u:=.slice A8 mt.ay.length F) rfl;go_upto_if 71 with fail;clear jY m5;go_cut [11]from 71 to 88 (λcv wm=>∃A c,cv=.slice A C.length c/\kK (xo (.slice A9 L.length c9)) s (.slice As n cs) B g Mn Ma Mg (N+(j+1)) NA wm fv v KS/\jK oC (sx (xo (.slice A9 L.length c9)) g Mn Ma Mg fv) wm (.slice A C.length c) C/\gV CG (uk g Mn Ma Mg fv) z.heap.size wm (.slice A9 L.length c9) L/\xC B g Mn Ma Mg z fv wm fv)
       case first=>
        cases jX with
        |true=>
         obtain⟨l9,iW,fA⟩:=iQ.o rfl;obtain rfl:=eH.o l9 iW;have j3:nG=l9.length:=by
          obtain⟨_,_,e,_⟩:=fA;injection e
         subst j3;have j4:=aa fA;clear fA iW e1 z0 D k1 k2 k3;go_wp2_with fail;go_meet;exact⟨AG,cG,rfl,bn.o.more (by omega) (ak _),j4.o,fq.o,fu.o⟩
        |false=>
         have j5:=aa (show ∀W,Below wc.heap.size wc W->Calls Tryz.prog 65 #[.agg #[.int .i64 mt.aC,.string mt.aJ,.slice A8 mt.ay.length F],vB,.slice Bx kn dx] W (λe w'=>∃A c,e=.returned (.slice A C.length c)/\jK oC (eG W.heap.size) w' (.slice A C.length c) C/\Below W.heap.size W w')from λW hW=>by
          have h7:=iI.o.ag hW;rw[<-HK.o]at h7⊢;rw[<-iT.o];exact MO mt q.b x.bH Bx dx (.agg #[.int .i64 mt.aC,.string mt.aJ,.slice A8 mt.ay.length F]) vB W bS.o.fit.bH eB.o h7.any.bH (iL.o.ag hW) (iM.o.aR (w':=W) (S':=mf) λb _ y=>⟨rfl,hW.block b y⟩).at eO.o.1 eO.o.2 cK.o.1 cK.o.2.1 cK.o.2.2)
         go_upto_region 13 with fail;have kU:(j:Int)<(n:Int):=(by omega);have r:=aa (show wc.cell? ⟨Z,0,none⟩=some (.slice (some ⟨b1,o1,none⟩) n cx)/\wc.cell? ⟨Z,1,none⟩=some (.slice Bx kn dx)/\wc.cell? ⟨g8,1,none⟩=some (.int .i64 mt.aC)/\wc.cell? ⟨g8,2,none⟩=some (.string mt.aJ)/\wc.cell? ⟨g8,3,none⟩=some (.slice A8 mt.ay.length F)/\wc.cell? ⟨b1,o1+j*2+1,none⟩=some (vB)/\Below wc.heap.size wc wc from⟨z0,D,k1,k2,k3,e1,az _ _⟩);clear z0 D k1 k2 k3 e1;refine gI (S:=(λH=>H.cell? ⟨Z,0,none⟩=some (.slice (some ⟨b1,o1,none⟩) n cx)/\H.cell? ⟨Z,1,none⟩=some (.slice Bx kn dx)/\H.cell? ⟨g8,1,none⟩=some (.int .i64 mt.aC)/\H.cell? ⟨g8,2,none⟩=some (.string mt.aJ)/\H.cell? ⟨g8,3,none⟩=some (.slice A8 mt.ay.length F)/\H.cell? ⟨b1,o1+j*2+1,none⟩=some (vB)/\Below wc.heap.size wc H)) (λ_=>0) (by kernel_rfl) (show _/\_/\_/\_/\_/\_/\_ from⟨r.o.1,r.o.2.1,r.o.2.2.1,r.o.2.2.2.1,r.o.2.2.2.2.1,r.o.2.2.2.2.2.1,(az _ wc).drew⟩) (λhHeld=>?_);refine gG 0 _ ?_;refine gG 1 _ ?_;refine gG 2 _ ?_;refine gG 3 _ ?_;refine gG 4 _ ?_;refine gG 5 _ ?_;refine gG 6 _ ?_;refine gG 7 _ ?_;refine gG 8 _ ?_;refine gG 9 _ ?_;refine x8 10 λK f=>?_;(go_simp;go_at_call 65;refine(j5.o _ hHeld.2.2.2.2.2.2).m ?_;rintro e w9 ⟨A4,c4,rfl,bD,M⟩;have j6:=hHeld.2.2.2.2.2.2.size;obtain⟨iX,dB⟩:=ZQ j6 bD;clear bD;(try replace d:=aa (d.o.ag M));refine mH f (GY r.o (hHeld.2.2.2.2.2.2.t (M.m hHeld.2.2.2.2.2.2.size))) λhHeld=>?_;clear f K);refine gG 11 _ ?_;refine dL (by kernel_rfl) ?_ _;have av:=aa hHeld.2.2.2.2.2.2;have iY:=aa (bn.o.ag av.o);have m9:=iY.o.box.cell 5 (u:=.map (some Mg)) rfl;obtain⟨kP,kV,ja,jb⟩:=iY.o.UB iO dm.o (by unfold maxLen;have:=Q.o;omega) (l:=C) (u:=.slice A4 C.length c4) (by rw[di.o];exact eD.o) (dB.o.aR λb hb y=>⟨bn.o.new (aD iX.o (ax hb)),rfl⟩);obtain⟨kg,fB,ko,kr⟩:=ZT ja jb (fq.o.aR λb _ y=>av.o.block b y) (fu.o.ag aM.o av.o);clear hHeld ja jb;go_wp2_with fail;go_meet;exact⟨A4,c4,rfl,by have:=kg.o;rw[iw]at this;exact this,dB.o.aR λb hb y=>(λh9=>⟨h9,(fB.o.aR b (Ew h9) y).2⟩) (bn.o.new (aD iX.o (ax hb))),V9 ko.o bX.o fB.o,kr.o.t fB.o⟩
       case rest=>
        obtain⟨A4,c4,rfl,jd,bD,je,jf⟩:=hcut;clear z0 D k1 k2 k3 e1 bn fq fu jW iI iJ iL dw iM iQ eH eD iT eB di dm eO cK eP eQ cO bG dM gJ;obtain⟨nc,fC⟩:∃q,C.length=q:=⟨_,rfl⟩;have jg:=aa fC;have kW:(nc:Int)<=4000:=(by have:=iR.o;omega);rw[fC]at bD⊢;obtain⟨dB,ku,kw,ky⟩:=ZT bD jd je jf;clear bD jd je jf fC;go_upto_region 16 with fail;go_loopw [91,6] (λiv lv dC=>∃i:Nat,i<=nc/\iv=.int .i64 i/\kK (xo lv) s (.slice As n cs) B g Mn Ma Mg (N+(j+1)) NA dC fv v KS/\jK oC (sx (xo lv) g Mn Ma Mg fv) dC (.slice A4 nc c4) C/\gV CG (uk g Mn Ma Mg fv) z.heap.size dC lv (L++(C.take i).map (λt=>(⟨j,t⟩:oF)))/\xC B g Mn Ma Mg z fv dC fv) (λiv _ _=>nc-(intOf iv).toNat);case atStart=>exact⟨0,aL _,rfl,ku.o,dB.o,by rw[iH,nA,dS];exact kw.o,ky.o⟩
        case round=>
         obtain⟨i,kz,rfl,Y,dD,ai,O⟩:=hrel;by_cases aX:i<nc
         ·have fD:i<C.length:=(by rw[jg.o];exact aX);obtain⟨b2,o2,kX,hA,⟨A',c',rfl,hx⟩,hc⟩:=jK.get dD fD;subst hA;have d0:=hc 0 _ rfl;have d1:=hc 1 _ rfl;have d2:=hc 2 _ rfl;have aU:oC.size=3:=rfl;rw[aU]at d0 d1 d2;rw[fE]at d0;rw[<-iw]at d1 d2;have fF:C.take (i+1)=C.take i++[C[i]]:=aV fD;obtain⟨t,ht⟩:∃t,C[i]=t:=⟨_,rfl⟩;rw[ht]at d0 d1 d2 hx fF;have o:=af wr (.cells #[.int .i64 t.aC,.string t.aJ,.slice A' t.ay.length c'] 29);have bx:=jM.new wr (.int .i64 t.aC) (.string t.aJ) (.slice A' t.ay.length c');obtain⟨dE,fG,jh,fH,HX⟩:=ZU (ai.aR λb _ y=>o.block b y) (Y.ag o) (O.ag aM.o o) (dD.aR (S':=_) λb hb y=>⟨hb,o.block b y⟩) (hx.aR (S':=_) λb hb y=>⟨hb,o.block b y⟩);have HE:=aa (show L++(C.take (i+1)).map (λt=>(⟨j,t⟩:oF))=(L++(C.take i).map (λt=>(⟨j,t⟩:oF)))++[⟨j,t⟩] by rw[fF,fZ,dA];rfl);have ji:(L++(C.take i).map (λt=>(⟨j,t⟩:oF))).length<=5000000:=by
           have:=dY.o;have:=iR.o;have:=Q.o;rw[aF,df,aW];omega
          have fI:j<=1048576:=(by have:=Q.o;omega);have HI:=aa aX;have kC:(i:Int)<(nc:Int):=(by omega);clear hx hc ht fF o ai Y dD O aU fD kz aX;go_upto_region 18 with fail;generalize wr.alloc (.cells #[.int .i64 t.aC,.string t.aJ,.slice A' t.ay.length c'] 29)=w5 at bx dE fG jh fH HX⊢;generalize wr.heap.size=kY at bx⊢;clear d0 d1 d2;obtain⟨y0,y1,y2⟩:=bx.cells;clear bx;generalize L++(C.take i).map (λt=>(⟨j,t⟩:oF))=L5 at dE HE ji;obtain⟨A7,c7,dG,fJ,bq,bu⟩:=dE.o.cells;subst fJ;obtain⟨k,hk⟩:∃k,L5.length=k:=⟨_,rfl⟩;have kD:=aa hk;rw[hk]at bu bq ji fG fH HX⊢;have X:=af w5 (.cells #[.int .i64 j,.int .i64 t.aC,.string t.aJ,.slice A' t.ay.length c'] 61);have fK:=aa (dz bu X);have fM:=aa (show ∀u∈([.int .i64 j,.int .i64 t.aC,.string t.aJ,.slice A' t.ay.length c']:List Value),u.oneCell'=true from λu hu=>by simp at hu;rcases hu with rfl|rfl|rfl|rfl<;>rfl);obtain⟨fO,bN,kE⟩:=ZR (fG.o.ag X) (jh.o.ag aM.o X) (fH.o.aR (S':=_) λb hb y=>⟨hb,X.block b y⟩);have aU:=bN.o.below.size;have bO:=aa (λq (o:(Value.slice A7 k c7).ownBlock=some q)=>(dE.o.block q (by rw[kD.o];exact o)).1);have bP:CG.gq (off (uk g Mn Ma Mg fv) (Value.slice A7 k c7).ownBlock) (w5.alloc (.cells #[.int .i64 j,.int .i64 t.aC,.string t.aJ,.slice A' t.ay.length c'] 61)) ([.int .i64 j,.int .i64 t.aC,.string t.aJ,.slice A' t.ay.length c']:List Value) (⟨j,t⟩:oF):=
           ⟨fI,A',c',rfl,HX.o.aR λb hb y=>⟨dX.2 ⟨Ew hb,yZ.1 (nQ.1 hb).1⟩,X.block b y⟩⟩
          have fP:=aa (λ(A8:Option Addr) (F:Nat) (w8:World) (aB:w8.ownsRow z.heap.size 61 4 (.slice A8 (k+1) F) (k+1) (dG.flatten++([.int .i64 j,.int .i64 t.aC,.string t.aJ,.slice A' t.ay.length c']:List Value))) G aH=>gV.push (E:=CG) (base:=z.heap.size) (A':=A8) (cap:=F) (w4:=w8) (a:=(⟨j,t⟩:oF)) bq hk (λb hb=>X.block b hb) bP aB G aH);clear bq bu hk X bP;go_wp2_with (at_builtin;refine bT _ rfl _ _ 57 rfl z.heap.size 61 i0 _ 4 56 qZ gm gp gu gy rfl (by omega) _ _ _ rfl fK.o _ 1 1 [.int .i64 j,.int .i64 t.aC,.string t.aJ,.slice A' t.ay.length c'] rfl (Src.BO _ _ _ 4 rfl) fM.o (by unfold maxLen;omega) (by omega) aU ?_;intro A8 F w8 aB G aH;have fQ:=aa (fP.o _ _ _ aB G aH);have dF:=aa (fO.o.app (Dv:=.slice A8 (k+1) F) bX.o aM.o bO.o G (by rw[KH];exact aH) aU (λq o=>(aB.lt q o).2));obtain⟨kF,fT⟩:=ZQ ((kE.o.aR (S':=sx (xo (.slice A8 (k+1) F)) g Mn Ma Mg fv) dF.o.2)) (bN.o.grown aM.o G bO.o);clear aB G aH);go_roundw;case rel=>exact⟨i+1,HI.o,by go_num,dF.o.1,kF.o,by rw[HE.o];exact fQ.o,fT.o⟩
          case measure=>have:=HI.o;simp[intOf];omega
         ·obtain rfl:i=nc:=(by omega);have kC:(i:Int)<=(i:Int):=iK _;rw[aY (by rw[jg.o];exact ak _)]at ai;obtain⟨fU,kG,fV⟩:=ZR ai O Y;clear ai O Y dD;go_wp2_with fail;go_roundw;case rel=>exact⟨j+1,Q.o,by go_num,fV.o,by rw[cu.o,ig.o];exact fU.o,kG.o⟩
          case measure=>have:=Q.o;simp[intOf];omega
     ·have dh:=aa (show aT.turnsOf s x j=[⟨j,uC⟩] by rw[bB.o,aG P]);have kH:(mk==2)=false:=(by simpa using P);have aO:(mk != 2)=true:=(by simpa using P);go_upto_region 9 with fail;clear k0 kH aO P ek ed;obtain⟨A9,c9,dG,fJ,bq,bu⟩:=bi.o.cells;subst fJ;obtain⟨k,hk⟩:∃k,L.length=k:=⟨_,rfl⟩;have kZ:k<=4000000:=(by have:=dY.o;have:=Q.o;omega);have HK:=aa hk;rw[hk]at bu bq bK⊢;have X:=af wc (.cells #[.int .i64 j,.int .i64 0,.string ⟨#[]⟩,.slice none 0 0] 61);have fK:=aa (dz bu X);have fM:=aa (show ∀u∈([.int .i64 j,.int .i64 0,.string ⟨#[]⟩,.slice none 0 0]:List Value),u.oneCell'=true from λu hu=>by simp at hu;rcases hu with rfl|rfl|rfl|rfl<;>rfl);obtain⟨fO,bN⟩:=ZQ (bK.o.ag X) (cB.o.ag aM.o X);have aU:=bN.o.below.size;have bO:=aa bi.o.block;have fI:j<=1048576:=(by have:=Q.o;omega);have bP:CG.gq (off (uk g Mn Ma Mg fv) (Value.slice A9 k c9).ownBlock) (wc.alloc (.cells #[.int .i64 j,.int .i64 0,.string ⟨#[]⟩,.slice none 0 0] 61)) ([.int .i64 j,.int .i64 0,.string ⟨#[]⟩,.slice none 0 0]:List Value) (⟨j,uC⟩:oF):=⟨fI,none,0,rfl,wR _ _ 0 ⟨#[]⟩ (by decide) (by decide)⟩;have fP:=aa (λ(A8:Option Addr) (F:Nat) (w8:World) (aB:w8.ownsRow z.heap.size 61 4 (.slice A8 (k+1) F) (k+1) (dG.flatten++([.int .i64 j,.int .i64 0,.string ⟨#[]⟩,.slice none 0 0]:List Value))) G aH=>gV.push (E:=CG) (base:=z.heap.size) (A':=A8) (cap:=F) (w4:=w8) (a:=(⟨j,uC⟩:oF)) bq hk (λb hb=>X.block b hb) bP aB G aH);clear bq bu hk X bP;go_wp2_with (at_builtin;refine bT _ rfl _ _ 57 rfl z.heap.size 61 i0 _ 4 56 qZ gm gp gu gy rfl (by omega) _ _ _ rfl fK.o _ 1 1 [.int .i64 j,.int .i64 0,.string ⟨#[]⟩,.slice none 0 0] rfl (Src.BO _ _ _ 4 rfl) fM.o (by unfold maxLen;omega) (by omega) aU ?_;intro A8 F w8 aB G aH;have fQ:=aa (fP.o _ _ _ aB G aH);have dF:=aa (fO.o.app (Dv:=.slice A8 (k+1) F) bX.o aM.o (λq o=>(bO.o q (by rw[HK.o];exact o)).1) G (by rw[KH];exact aH) aU (λq o=>(aB.lt q o).2));have fT:=aa (bN.o.grown aM.o G (λq o=>(bO.o q (by rw[HK.o];exact o)).1));clear aB G aH);go_roundw;case rel=>exact⟨j+1,Q.o,by go_num,dF.o.1.more (by omega) (ak _),by rw[cu.o,dh.o];exact fQ.o,fT.o⟩
      case measure=>have:=Q.o;simp[intOf];omega
  ·obtain rfl:j=n:=(by omega);have hi:(j:Int)<=(j:Int):=iK _;have kI:=aa (show(List.range j).flatMap (aT.turnsOf s x)=aT.jG s x by unfold aT.jG;rw[HN.o]);rw[kI.o]at ai;obtain⟨A9,c9,rfl⟩:=ai.shape;obtain⟨fU,kJ,fV⟩:=ZR ai O Y;clear ai O Y;go_wp2_with fail;go_ret;exact⟨A9,c9,rfl,by rw[HN.o];exact fV.o.turn (λ_ _ _=>⟨rfl,rfl⟩) (λ_ _=>rfl) (λ_ _=>rfl) (λ_ _=>rfl),fU.o.Hg (λ_ h=>h) bX.o,(xC.of (by have:=dQ.o;have:=jm.o;omega) bV.o).t kJ.o⟩
end
section
open T
theorem IC(l:List T):(aT.FQ l).length<=l.length:=Be (Ec (jC l).1) λt a=>((jC l).2 t).1 a
theorem Rb(x:jZ)(m:Int×T)(t:oF):(aT.move x m t).bH.length<=x.bH.length+1:=by
 unfold aT.move;dsimp only
 split
 ·split;·exact aD (IC _) (by rw[aF];exact ak _)
  ·exact ng _
 ·exact ng _
theorem Ic{s:List iZ}:∀(l:List oF) {x y:jZ},aT.ui s x l=some y->y.bH.length+ats x<=x.bH.length+ats y
 |[],x,y,h=>by
  obtain rfl:x=y:=(by injection h);exact ak _
 |t::r,x,y,h=>by
  simp only[aT.ui]at h;cases a:aT.wD s x t with
  |none=>rw[a]at h;cases h
  |some z=>
   rw[a]at h;obtain⟨m,b,rfl⟩:=DT a;have c:=Ic r h;have d:=Rb x m t;have e:=S9 b;omega
def Reach(s:List iZ)(K:List T)(x:jZ):Prop:=∃l,aT.ui s (aT.jV s K) l=some x
theorem Reach.begin(s:List iZ)(K:List T):Reach s K (aT.jV s K):=⟨[],rfl⟩
theorem Reach.step{s:List iZ}{K:List T}{x:jZ}(h:Reach s K x){t:oF}{m:Int×T}(a:t∈aT.jG s x)(b:aT.WR s x m t):Reach s K (aT.move x m t):=by
 obtain⟨l,c⟩:=h;obtain⟨d,e,f⟩:=uR a;obtain rfl:m=d:=(by have:=b.1.symm.t e.1;injection this);exact⟨l++[t],by rw[RN,c];exact f⟩
def Sy(s:List iZ)(K:List T):Prop:=∀x,Reach s K x->zH s x
theorem Xu{s:List iZ}{K:List T}(f:aT.moves s<=16)(g:K.length<=32)(d:∀x,Reach s K x->aT.Gi s x):Sy s K:=λx b=>by
 have e:=b;obtain⟨l,a⟩:=b;have c:=M4 l QX a;have h:=Ic l a;have i:=QB s K;have j:=VD c;have k:(aT.jV s K).bH.length<=K.length:=aD (IC _) (fP _ _);exact⟨c,d x e,M5 l (Su s K) a,by omega⟩
theorem EH{s:List iZ}{x:jZ}{t:oF}(h:t∈aT.jG s x):t.bJ.bC<=1048576:=by
 obtain⟨m,_,c,d⟩:=EJ h;by_cases a:m.1=2
 ·obtain⟨q,_,e⟩:=d a;have b:=(Ei e).2;unfold aT.can at b;have f:=kZ (T.iJ (aP.1 b).1);omega
 ·rw[c a];decide
structure aT.xD.Run (s:List iZ) (K:List T) (v:aT.xD):Prop where
 ok:v.Ok s (aT.jV s K)
 len:v.jb.length<=1000
 reach:∀p∈v.jb,Reach s K p.x
 bC:∀p∈v.jb,p.turn.bJ.bC<=1048576
theorem RV(s:List iZ)(K:List T):aT.xD.Run s K ⟨[⟨aT.jV s K,0,⟨0,uC⟩⟩],true,[]⟩ where
 ok:=⟨⟨_,rfl,rfl⟩,λi y h=>by
  have:=(bg.1 h).1;simp at this;exact .inl this,λa c=>absurd c dY⟩
 len:=by simp
 reach p b:=by rw[aX.1 b];exact Reach.begin s K
 bC p b:=by rw[aX.1 b];show uC.bC<=_;decide
theorem UN{s:List iZ}{K:List T}{v:aT.xD}(h:v.Run s K){i:Nat}{p:aT.Lc}(d:v.jb[i]?=some p){t:oF}(c:t∈aT.jG s p.x):(aT.turn s i v t).Run s K:=by
 have a:=Qr h.ok d c;obtain⟨m,g,_⟩:=uR c;have j:=(h.reach p (eT d)).step c g;have hb:=EH c;unfold aT.turn at a⊢;rw[d]at a⊢;dsimp only at a⊢;rw[g.1]at a⊢;dsimp only at a⊢;split
 ·rename_i e;rw[aI e]at a;exact⟨a,h.len,h.reach,h.bC⟩
 ·rename_i e;rw[aG e]at a;split
  ·rename_i f;rw[aI f]at a;exact⟨a,h.len,h.reach,h.bC⟩
  ·rename_i f;rw[aG f]at a;refine⟨a,by show(v.jb++[_]).length<=1000;rw[aF];simp;omega,λq b=>?_,λq b=>?_⟩
   ·rcases aU.1 b with b|b;·exact h.reach q b
    ·rw[aX.1 b];exact j
   ·rcases aU.1 b with b|b;·exact h.bC q b
    ·rw[aX.1 b];exact hb
theorem U6{s:List iZ}{v:aT.xD}{i j:Nat}{p:aT.Lc}(t:oF)(a:v.jb[j]?=some p):(aT.turn s i v t).jb[j]?=some p:=by
 have hj:=(bg.1 a).1;unfold aT.turn;split;·exact a
 ·split;·exact a
  ·dsimp only
   split;·exact a
   ·split;·exact a
    ·show(v.jb++[_])[j]?=some p;rw[bP hj];exact a
end
section
open Go.RowKit
def sD(listed:Array Bool):Nat->Bool:=λi=>listed.getD i false
theorem LB(listed:Array Bool)(i:Nat)(hi:i<listed.size):sD (listed.setIfInBounds i true)=λj=>sD listed j||j==i:=by
 funext j;unfold sD;simp only[ek,iO];by_cases h:i=j
 ·subst h;simp[hi]
 ·rw[aG h];have:(j==i)=false:=(by rw[aB];exact λe=>h e.symm);rw[this,pK]
def Hf(listed:Array Bool):Nat:=(listed.toList.filter (! ·)).length
theorem Mv(listed:Array Bool)(i:Nat)(hi:i<listed.size)(h:listed.getD i false=false):Hf (listed.setIfInBounds i true)+1=Hf listed:=by
 unfold Hf;rw[Array.toList_setIfInBounds];have h':listed.toList[i]?=some false:=by
  have:listed[i]?=some listed[i]:=fO hi;rw[ek,this]at h;rw[lJ,this];simpa using h
 revert h';generalize listed.toList=l;clear h hi;induction l generalizing i with
 |nil=>intro h;simp at h
 |cons b r a=>
  intro h;cases i with
  |zero=>simp at h;subst h;simp
  |succ n=>
   have:=a n (by simpa using h);rw[dP,xI,xI];cases b;·simp only[vk,nL,bu];omega
   ·simpa using this
theorem Ri{listed:Array Bool}(h:Hf listed=0)(i:Nat)(hi:i<listed.size):sD listed i=true:=by
 unfold Hf at h;have h0:=bQ h;have a:=List.filter_eq_nil_iff.1 h0 listed[i] (by simp);unfold sD;rw[ek,fO hi];cases b:listed[i];·rw[b]at a;exact absurd rfl a
 ·rfl
section
variable {P:Program} {ops:Array Oper} {Q:Exit->Act->World->Prop}
theorem JS{listed:Array Bool}{i:Nat}(h:i∈Region.ready .any ops listed):∃o,ops[i]?=some o/\listed.getD i true=false/\∀e∈o.after,Region.binds .any e=true->sD listed e.on=true:=by
 unfold Region.ready at h;rw[fB]at h;obtain⟨_,h⟩:=h;rw[ai]at h;obtain⟨c,a⟩:=h;cases b:ops[i]? with
 |none=>rw[b]at a;simp at a
 |some o=>
  refine⟨o,rfl,by simpa using c,λe d hb=>?_⟩;rw[b]at a;simp only[jh,iA]at a;have:=lX.1 a e d;rw[hb]at this;simpa[sD]using this
theorem UF{listed:Array Bool}{i:Nat}{o:Oper}(a:ops[i]?=some o)(b:listed.getD i true=false)(h:∀e∈o.after,sD listed e.on=true):i∈Region.ready .any ops listed:=by
 unfold Region.ready;rw[fB];refine⟨dU.2 (aZ.1 a).1,?_⟩;rw[ai];refine⟨by rw[b];rfl,?_⟩;rw[a];simp only[jh,iA];refine lX.2 λe c=>?_;have:=h e c;unfold sD at this;rw[this];simp
theorem I7{id:Nat}{a:Act}{w:World}(f:P.follows .mixedOrders=true)(I:(Nat->Bool)->Act->World->Prop)
 (m:∀(i:Nat) o,ops[i]?=some o->∀e∈o.after,e.on<i)
 (h0:I (λ_=>false) a w.drew)
 (p:∀(L:Nat->Bool) (a:Act) (w:World) (i:Nat) (o:Oper),I L a w->ops[i]?=some o->L i=false->(∀e∈o.after,Region.binds .any e=true->L e.on=true)->
   ∀K:Act->World->Prop,(∀a' w',I (λj=>L j||j==i) a' w'->K a' w')->if Region.wanted o (yielded ops a.tmps)=true then Oper.wp P o a w K Q else K (a.put o.dst undef) w)
 (q:∀(L:Nat->Bool) (a:Act) (w:World),(∀i,i<ops.size->L i=true)->I L a w->Q .normal a w):(Code.region id ops true).wp P Q a w:=by
 refine pV f ?_;have key:∀(fuel:Nat) (listed:Array Bool) (a:Act) (w:World),listed.size=ops.size->Hf listed<=fuel->I (sD listed) a w->wpAny P .any ops Q fuel listed a w:=by
  intro fuel;induction fuel with
  |zero=>
   intro listed a w k x d;have r:∀i,i<ops.size->sD listed i=true:=λi hi=>Ri (by omega) i (by omega);refine⟨?_,q _ a w r d⟩;rw[List.eq_nil_iff_forall_not_mem];intro i hi;obtain⟨o,b,c,_⟩:=JS hi;have s:=(aZ.1 b).1;have:=r i s;unfold sD at this;rw[ek,fO (by omega)]at this c;simp at this c;rw[this]at c;cases c
  |succ n t=>
   intro listed a w k x d;refine⟨λy=>q _ a w (λi hi=>?_) d,λi hi=>?_⟩
   ·
    induction i using Nat.strongRecOn with
    |ind i z=>
     by_cases hd:sD listed i=true;·exact hd
     ·exfalso;have b:ops[i]?=some ops[i]:=fO hi;have A:listed.getD i true=false:=by
       unfold sD at hd;rw[ek,fO (by omega)]at hd⊢;simpa using hd
      have f:=UF b A (λe u=>z e.on (m i _ b e u) (Nat.lt_trans (m i _ b e u) hi));rw[y]at f;cases f
   ·obtain⟨o,b,c,v⟩:=JS hi;have s:=(aZ.1 b).1;have g:listed.getD i false=false:=by
     rw[ek,fO (by omega)]at c⊢;simpa using c
    have C:=p (sD listed) a w i o d b g v (wpAny P .any ops Q n (listed.setIfInBounds i true)) (λa' w' l=>by
     refine t _ a' w' (by simpa using k) ?_ ?_;·have:=Mv listed i (by omega) g;omega
     ·rw[LB listed i (by omega)];exact l)
    exact Ey b (λK' B=>by
     have:=p (sD listed) a w i o d b g v K' (λa' w' l=>B a' w' (t _ a' w' (by simpa using k) (by have:=Mv listed i (by omega) g;omega) (by rw[LB listed i (by omega)];exact l)));exact this)
 refine key ops.size _ a _ (by simp) ?_ ?_
 ·unfold Hf;exact aD (fP _ _) (by simp)
 ·have:sD (Array.replicate ops.size false)=λ_=>false:=by
   funext i;unfold sD;rw[ek];rcases cu i ops.size with h|h;·simp[h]
   ·simp[h]
  rw[this];exact h0
end
def setMany(xs:Array Value)(u:Nat->Value)(s:Nat):Nat->Array Value
 |0=>xs
 |n+1=>(setMany xs u s n).setIfInBounds (s+n) (u (s+n))
theorem DJ(xs:Array Value)(u:Nat->Value)(s:Nat):∀n,(setMany xs u s n).size=xs.size
 |0=>rfl
 |n+1=>by rw[setMany,iR,DJ xs u s n]
theorem Fu(xs:Array Value)(u:Nat->Value)(s:Nat):∀n j,s+n<=xs.size->(setMany xs u s n)[j]?=if s<=j/\j<s+n then some (u j) else xs[j]?
 |0,j,_=>by rw[aG (by omega)];rfl
 |n+1,j,h=>by
  rw[setMany,iO,DJ];by_cases e:s+n=j;·rw[aI e,aI (by omega),aI (by omega),e]
  ·rw[aG e,Fu xs u s n j (by omega)];by_cases a:s<=j/\j<s+n;·rw[aI a,aI (by omega)]
   ·rw[aG a,aG (by omega)]
theorem LQ{a a0:Act}(s n:Nat)(b:a.tmps.size=a0.tmps.size)(c:s+n<=a0.tmps.size)(hd:a.defers=a0.defers)(h:∀j,j<s\/s+n<=j->a.tmps[j]?=a0.tmps[j]?):
 ∃u:Nat->Value,a={ tmps:=setMany a0.tmps u s n,defers:=a0.defers }/\∀j v,s<=j->j<s+n->a.tmps[j]?=some v->u j=v:=by
 refine⟨λj=>a.tmps.getD j undef,?_,λj v _ _ e=>by simp[e]⟩;obtain⟨t,d⟩:=a;simp only at b hd h;subst hd;congr 1;apply Array.ext_getElem?;intro j;rw[Fu _ _ _ _ _ c];by_cases hj:s<=j/\j<s+n
 ·rw[aI hj];have:j<t.size:=(by omega);simp[this]
 ·rw[aG hj];exact h j (by omega)
end
section
open Go.RowKit Go.Maps T
noncomputable def Il(n:Nat):Code->Option (Array Oper)
 |.region i ops _=>if i=n then some ops else none
 |.seq a b=>(Il n a).orElse λ_=>Il n b
 |.cond _ a b=>(Il n a).orElse λ_=>Il n b
 |.block _ c=>Il n c
 |.loop c=>Il n c
 |_=>none
noncomputable def opsE:Array Oper:=(Il 4 ((Tryz.f16.body).getD .skip)).getD #[]
theorem Bj:opsE.size=14:=by kernel_rfl
theorem RA:∀(i:Nat) o,opsE[i]?=some o->∀e∈o.after,e.on<i:=by
 have h:(opsE.toList.zipIdx.all λp=>p.1.after.all λe=>decide (e.on<p.2))=true:=(by kernel_rfl);intro i o a e b;have:=cz.1 h (o,i) (by rw[List.mem_zipIdx_iff_getElem?];simpa using a);have:=lX.1 this e b;simpa using this
structure EP where
 As:Option Addr
 n:Nat
 cs:Nat
 Ax:Option Addr
 lx:Nat
 cx:Nat
 Bx:Option Addr
 kx:Nat
 dx:Nat
 key:ByteArray
def EP.jb(p:EP):List Value:=[.slice p.Ax p.lx p.cx,.slice p.Bx p.kx p.dx,.int .i64 0,.int .i64 0,.int .i64 0,.string ⟨#[]⟩,.slice none 0 0]
def xW(i:Nat):Nat:=[28,29,30,31,32,33,34,0,35,36,37].getD i 0
def XD(i:Nat):Bool:=i==3||i==4||i==9||i==10
theorem QN:∀i j:Nat,i<11->j<11->i≠7->j≠7->xW i=xW j->i=j:=by
 have h:((List.range 11).all λi=>(List.range 11).all λj=>decide (i≠7->j≠7->xW i=xW j->i=j))=true:=(by kernel_rfl);intro i j hi hj a b c;have d:=cz.1 (cz.1 h i (dU.2 hi)) j (dU.2 hj);exact(ax d) a b c
theorem Ty:∀i:Nat,i<11->i≠7->28<=xW i/\xW i<38:=by
 have h:((List.range 11).all λi=>decide (i≠7->28<=xW i/\xW i<38))=true:=(by kernel_rfl);intro i hi a;exact(ax (cz.1 h i (dU.2 hi))) a
def Tv(i:Nat):List Nat:=match i with
 |2=>[1]
 |3=>[2]
 |6=>[5]
 |7=>[4,6]
 |8=>[4,5,6,7]
 |_=>[]
def EA(p:EP)(B:Nat)(bk:Nat->Nat)(ins:Bool)(i:Nat)(t:Array Value)(w:World):Prop:=match i with
 |0=>t[28]?=some (.slice p.As p.n p.cs)
 |1=>t[29]?=some (.agg #[.slice p.Ax p.lx p.cx,.slice p.Bx p.kx p.dx])
 |2=>t[30]?=some (.agg #[.slice p.Ax p.lx p.cx,.slice p.Bx p.kx p.dx,.int .i64 0,.int .i64 0,.int .i64 0,.string ⟨#[]⟩,.slice none 0 0])
 |3=>t[31]?=some (.slice (some ⟨bk 3,0,none⟩) 1 1)/\B<=bk 3/\iy w (bk 3) 88 p.jb
 |4=>t[32]?=some (.map (some (bk 4)))/\B<=bk 4/\∃n F,qI Tryz.prog 9 w (bk 4) n F/\n<=1/\(ins=false->n=0)/\∀k:ByteArray,(F (zQ k)).isSome=(ins&&decide (p.key=k))
 |5=>t[33]?=some (.agg #[.slice p.Ax p.lx p.cx,.slice p.Bx p.kx p.dx])
 |6=>t[34]?=some (.string p.key)
 |8=>t[35]?=some (.map (some (bk 4)))
 |9=>t[36]?=some (.map (some (bk 9)))/\B<=bk 9/\qI Tryz.prog 99 w (bk 9) 0 (λ_=>none)
 |10=>t[37]?=some (.map (some (bk 10)))/\B<=bk 10/\qI Tryz.prog 9 w (bk 10) 0 (λ_=>none)
 |_=>True
theorem EA.aR{p:EP}{B:Nat}{bk f:Nat->Nat}{ins:Bool}{t g:Array Value}{w w':World}(i:Nat)(hi:i<11)(h:EA p B bk ins i t w)(a:i≠7->g[xW i]?=t[xW i]?)(hb:f i=bk i)(j:i=8->f 4=bk 4)(e:XD i=true->w'.heap[bk i]?=w.heap[bk i]?):EA p B f ins i g w':=by
 have k:i=0\/i=1\/i=2\/i=3\/i=4\/i=5\/i=6\/i=7\/i=8\/i=9\/i=10:=(by omega);rcases k with rfl|rfl|rfl|rfl|rfl|rfl|rfl|rfl|rfl|rfl|rfl;·exact(a (by omega)).t h
 ·exact(a (by omega)).t h
 ·exact(a (by omega)).t h
 ·obtain⟨b,c,d⟩:=h;refine⟨?_,?_,?_⟩;·rw[hb];exact(a (by omega)).t b
  ·rw[hb];exact c
  ·rw[hb];exact(e rfl).t d
 ·obtain⟨b,c,n,F,d,l⟩:=h;refine⟨?_,?_,n,F,?_,l⟩;·rw[hb];exact(a (by omega)).t b
  ·rw[hb];exact c
  ·rw[hb];exact d.aR (e rfl)
 ·exact(a (by omega)).t h
 ·exact(a (by omega)).t h
 ·trivial
 ·show g[35]?=_;rw[j rfl];exact(a (by omega)).t h
 ·obtain⟨b,c,d⟩:=h;refine⟨?_,?_,?_⟩;·rw[hb];exact(a (by omega)).t b
  ·rw[hb];exact c
  ·rw[hb];exact d.aR (e rfl)
 ·obtain⟨b,c,d⟩:=h;refine⟨?_,?_,?_⟩;·rw[hb];exact(a (by omega)).t b
  ·rw[hb];exact c
  ·rw[hb];exact d.aR (e rfl)
structure Cc (p:EP) (a0:Act) (w0:World) (bk:Nat->Nat) (L:Nat->Bool) (a:Act) (w:World):Prop where
 size:a.tmps.size=a0.tmps.size
 defs:a.defers=a0.defers
 same:∀j,j<28\/39<j->a.tmps[j]?=a0.tmps[j]?
 below:Below w0.heap.size w0 w
 fact:∀i,i<11->L i=true->EA p w0.heap.size bk (L 7) i a.tmps w
 lt:∀i,XD i=true->L i=true->bk i<w.heap.size
 ne:∀i j,XD i=true->XD j=true->L i=true->L j=true->i≠j->bk i≠bk j
 cl:∀i,i<11->L i=true->∀j∈Tv i,L j=true
theorem Cc.d7{p:EP}{a0 a:Act}{b w:World}{bk:Nat->Nat}{L:Nat->Bool}(h:Cc p a0 b bk L a w)(c:L 7=true):L 4=true:=h.cl 7 (by omega) c 4 (by decide)
theorem Cc.d8{p:EP}{a0 a:Act}{b w:World}{bk:Nat->Nat}{L:Nat->Bool}(h:Cc p a0 b bk L a w)(c:L 8=true):L 7=true:=h.cl 8 (by omega) c 7 (by decide)
theorem tu{a:Act}{k:Nat}{v:Value}(h:k<a.tmps.size)(j:Nat):(a.put (some k) v).tmps[j]?=if k=j then some v else a.tmps[j]?:=by
 simp only[Act.put,iO];split;·rename_i e;subst e;first|rfl|rw[aI h]
 ·rfl
theorem Oq{i:Nat}(h:XD i=true):i<11/\i≠7/\i≠8:=by
 unfold XD at h;simp only[fH,eY]at h;omega
theorem Cc.start(p:EP)(a0:Act)(a:World):Cc p a0 a (λ_=>0) (λ_=>false) a0 a.drew:=
 ⟨rfl,rfl,λ_ _=>rfl,(az _ _).drew,(λ_ _ h=>absurd h (by simp)),(λ_ _ h=>absurd h (by simp)),(λ_ _ _ _ h=>absurd h (by simp)),(λ_ _ h=>absurd h (by simp))⟩
theorem Cc.step{p:EP}{a0 a:Act}{q w w':World}{bk:Nat->Nat}{L:Nat->Bool}(h:Cc p a0 q bk L a w)(hs0:40<=a0.tmps.size)(i:Nat)(hi:i<11)(s:i≠7)(z:L i=false)(d:Nat->Nat)(b:∀j,j≠i->d j=bk j)(v:Value)(hb:Below w.heap.size w w')
 (A:EA p q.heap.size d (L 7) i (a.put (some (xW i)) v).tmps w') (t:XD i=true->w.heap.size<=d i/\d i<w'.heap.size) (hd:∀j∈Tv i,L j=true):Cc p a0 q d (λj=>L j||j==i) (a.put (some (xW i)) v) w':=by
 have K:=Ty i hi s;have x:=λj=>tu (a:=a) (k:=xW i) (v:=v) (by rw[h.size];omega) j;have B:(L 7||7==i)=L 7:=by
  have:(7==i)=false:=aB.2 (jN s);rw[this,pK]
 have c:∀n,n≠i->(L n||n==i)=true->L n=true:=λn C l=>by
  rcases Bool.or_eq_true_iff.1 l with l|l;·exact l
  ·exact absurd (by simpa using l) C
 have D:i=4->L 8=false:=λe=>by
  subst e;cases E:L 8 with
  |false=>rfl
  |true=>have:=h.d7 (h.d8 E);rw[z]at this;cases this
 refine⟨by simp only[Act.put,iR];exact h.size,h.defs,λj hj=>?_,h.below.t (hb.m h.below.size),λj hj m=>?_,λj r m=>?_,λj k hj f g y u=>?_,λj hj m k f=>?_⟩;·rw[x,aG (by omega)];exact h.same j hj
 ·show EA p q.heap.size d (L 7||7==i) j _ _;rw[B];by_cases e:j=i;·subst e;exact A
  ·have g:=c j e m;refine(h.fact j hj g).aR j hj (λF=>?_) (b j e) (λG=>?_) (λr=>hb.block _ (h.lt j r g));·rw[x,aG (λo=>e (QN i j hi hj s F o).symm)]
   ·subst G;exact b 4 (λH=>by have:=D H.symm;rw[g]at this;cases this)
 ·by_cases e:j=i;·subst e;exact(t r).2
  ·rw[b j e];exact dF (h.lt j r (c j e m)) hb.size
 ·by_cases e:j=i
  ·subst e;rw[b k (jN u)];have I:=(t hj).1;have J:=h.lt k f (c k (jN u) y);omega
  ·by_cases o:k=i
   ·subst o;rw[b j e];have I:=(t f).1;have J:=h.lt j hj (c j e g);omega
   ·rw[b j e,b k o];exact h.ne j k hj f (c j e g) (c k o y) u
 ·show(L k||k==i)=true;by_cases e:j=i;·subst e;rw[hd k f];rfl
  ·rw[h.cl j hj (c j e m) k f];rfl
open Classical in
theorem Cc.ins{p:EP}{a0 a:Act}{l w:World}{bk:Nat->Nat}{L:Nat->Bool}(h:Cc p a0 l bk L a w)(m:L 4=true)(y:L 6=true)(o:L 7=false)(b:p.key.size<=maxLen):
 ∃w',(Instr.mapUpdate 91 (.map (some (bk 4))) (.string p.key) (.int .i64 0)).run Tryz.prog w=.ok () w'/\Cc p a0 l bk (λj=>L j||j==7) a w':=by
 obtain⟨t1,t2,n,F,z,M,r,u⟩:=h.fact 4 (by omega) m;rw[o]at r u;obtain⟨w',A,B,s⟩:=z.put vR oq (by have:=r rfl;unfold maxLen;omega) (He p.key b) (Kv p.key) (.int .i64 0);have c:∀n,n≠7->(L n||n==7)=true->L n=true:=λn C d=>by
  rcases Bool.or_eq_true_iff.1 d with d|d;·exact d
  ·exact absurd (by simpa using d) C
 have N:L 8=false:=by
  cases D:L 8 with
  |false=>rfl
  |true=>have:=h.d8 D;rw[o]at this;cases this
 have O:=h.lt 4 rfl m;refine⟨w',A,h.size,h.defs,h.same,h.below.grown s h.below.size (λq t=>by rw[<-aA t];exact t2),λj hj f=>?_,λj g f=>?_,λj k hj b i E G=>?_,λj hj f k b=>?_⟩
 ·show EA p l.heap.size bk (L 7||7==7) j _ _;by_cases v:j=7;·subst v;trivial
  ·have i:=c j v f;by_cases x:j=4
   ·subst x;refine⟨t1,t2,n+1,λq=>if q=zQ p.key then some (.int .i64 0) else F q,B _ (aI rfl) (λq t=>aG t),by have:=r rfl;omega,λe=>?_,λk=>?_⟩;·rw[o]at e;cases e
    ·rw[o];show(if zQ k=zQ p.key then some _ else F (zQ k)).isSome=(true&&decide (p.key=k));by_cases e:zQ k=zQ p.key
     ·rw[aI e];have:=FY e;subst this;simp
     ·rw[aG e,u k];have:¬p.key=k:=λH=>e (by rw[H]);simp[this]
   ·have I:EA p l.heap.size bk (L 7||7==7) j a.tmps w:=by
     have J:=h.fact j hj i;have K:j=0\/j=1\/j=2\/j=3\/j=5\/j=6\/j=8\/j=9\/j=10:=(by omega);rcases K with rfl|rfl|rfl|rfl|rfl|rfl|rfl|rfl|rfl<;>exact J
    refine I.aR j hj (λ_=>rfl) rfl (λ_=>rfl) (λg=>s.block _ (h.lt j g i) (λe=>?_));exact h.ne j 4 g rfl i m x (aA e)
 ·exact dF (h.lt j g (c j (Oq g).2.1 f)) s.size
 ·exact h.ne j k hj b (c j (Oq hj).2.1 i) (c k (Oq b).2.1 E) G
 ·show(L k||k==7)=true;by_cases e:j=7
  ·subst e;have:k=4\/k=6:=(by simpa[Tv]using b);rcases this with rfl|rfl;·rw[m];rfl
   ·rw[y];rfl
  ·rw[h.cl j hj (c j e f) k b];rfl
structure EB (p:EP) (w0:World) (bk:Nat->Nat) (w:World):Prop where
 below:Below w0.heap.size w0 w
 b3:w0.heap.size<=bk 3/\iy w (bk 3) 88 p.jb
 b4:w0.heap.size<=bk 4/\∃n F,qI Tryz.prog 9 w (bk 4) n F/\n<=1/\∀k:ByteArray,(F (zQ k)).isSome=decide (p.key=k)
 b9:w0.heap.size<=bk 9/\qI Tryz.prog 99 w (bk 9) 0 (λ_=>none)
 Pz:w0.heap.size<=bk 10/\qI Tryz.prog 9 w (bk 10) 0 (λ_=>none)
 ne:bk 3≠bk 4/\bk 3≠bk 9/\bk 3≠bk 10/\bk 4≠bk 9/\bk 4≠bk 10/\bk 9≠bk 10
theorem EB.ag{p:EP}{a w w':World}{bk:Nat->Nat}(h:EB p a bk w)(hb:Below w.heap.size w w'):EB p a bk w':=by
 obtain⟨n,F,b,c⟩:=h.b4.2;exact⟨h.below.t (hb.m h.below.size),⟨h.b3.1,h.b3.2.ag hb⟩,⟨h.b4.1,n,F,b.ag hb,c⟩,⟨h.b9.1,h.b9.2.ag hb⟩,⟨h.Pz.1,h.Pz.2.ag hb⟩,h.ne⟩
def ZJ(p:EP)(bk:Nat->Nat):Value:=.agg #[.slice p.As p.n p.cs,.slice (some ⟨bk 3,0,none⟩) 1 1,.map (some (bk 4)),.bool true,.map (some (bk 9)),.map (some (bk 10))]
def Yv(p:EP)(bk:Nat->Nat):List Value:=[.slice p.As p.n p.cs,.slice (some ⟨bk 3,0,none⟩) 1 1,.map (some (bk 4)),.bool true,.map (some (bk 9)),.map (some (bk 10))]
structure Xl (a0 a:Act):Prop where
 size:a.tmps.size=a0.tmps.size
 defs:a.defers=a0.defers
 same:∀j,j<28\/39<j->a.tmps[j]?=a0.tmps[j]?
def WN(p:EP)(a0:Act)(b:World)(a:Act)(w:World):Prop:=
 ∃(c:Act) (bk:Nat->Nat) (g:Nat),a=c.put (some 8) (.pointer (some ⟨g,0,none⟩))/\Xl a0 c/\EB p b bk w/\iy w g 95 (Yv p bk)/\b.heap.size<=g/\bk 3<g/\bk 4<g/\bk 9<g/\bk 10<g
def EI(p:EP)(a0:Act)(b:World)(L:Nat->Bool)(a:Act)(w:World):Prop:=
 (L 11=false/\L 12=false/\L 13=false/\∃bk,Cc p a0 b bk L a w)\/
 (L 12=false/\L 13=false/\(∀i,i<12->L i=true)/\∃bk,Xl a0 a/\EB p b bk w/\a.tmps[38]?=some (ZJ p bk))\/
 (L 13=false/\(∀i,i<13->L i=true)/\∃bk g,Xl a0 a/\EB p b bk w/\a.tmps[39]?=some (.pointer (some ⟨g,0,none⟩))/\iy w g 95 (Yv p bk)/\b.heap.size<=g/\bk 3<g/\bk 4<g/\bk 9<g/\bk 10<g)\/
 ((∀i,i<14->L i=true)/\WN p a0 b a w)
theorem J8(bk:Nat->Nat)(i q:Nat):∀j,j≠i->(λz=>if z=i then q else bk z) j=bk j:=λ_ hj=>aG hj
theorem U0{Q:Exit->Act->World->Prop}(p:EP)(B:Nat)(a0:Act)(q:World)(hs0:40<=a0.tmps.size)(h0:a0.tmps[0]?=some (.slice p.As p.n p.cs))(H:a0.tmps[6]?=some (.pointer (some ⟨B,0,none⟩)))(c0:q.cell? ⟨B,0,none⟩=some (.slice p.Ax p.lx p.cx))(c1:q.cell? ⟨B,1,none⟩=some (.slice p.Bx p.kx p.dx))
 (O:∀W,Below q.heap.size q W->Calls Tryz.prog 46 #[.agg #[.slice p.Ax p.lx p.cx,.slice p.Bx p.kx p.dx]] W λe w'=>e=.returned (.string p.key)/\Below W.heap.size W w') (P:p.key.size<=maxLen)
 (R:∀a w,WN p a0 q a w->Q .normal a w):(Code.region 4 opsE true).wp Tryz.prog Q a0 q:=by
 refine I7 (by kernel_rfl) (EI p a0 q) RA (.inl ⟨rfl,rfl,rfl,_,Cc.start p a0 q⟩) ?_ ?_
 ·intro L a w i o C c d f K l;have hi:i<14:=(by have:=(aZ.1 c).1;rw[Bj]at this;exact this);rcases C with⟨A,u,x,bk,hM⟩|⟨u,x,m,bk,y,t,I⟩|⟨x,m,bk,g,y,t,ay,S⟩|⟨m,_⟩
  ·have hw:∀j,10<j->j<14->L j=false:=λj h1 h2=>by
    have:j=11\/j=12\/j=13:=(by omega);rcases this with rfl|rfl|rfl<;>assumption
   have r:∀(k:Nat) (a':Act) (w':World) (D:Nat->Nat),k<11->Cc p a0 q D (λj=>L j||j==k) a' w'->EI p a0 q (λj=>L j||j==k) a' w':=λk a' w' D T h=>
    .inl ⟨by show(L 11||11==k)=false;rw[A,aB.2 (by omega)];rfl,by show(L 12||12==k)=false;rw[u,aB.2 (by omega)];rfl,by show(L 13||13==k)=false;rw[x,aB.2 (by omega)];rfl,D,h⟩
   have s:=aa (show ∀k,k<40->k<a.tmps.size from λk T=>by rw[hM.size];omega);have U:i=0\/i=1\/i=2\/i=3\/i=4\/i=5\/i=6\/i=7\/i=8\/i=9\/i=10\/i=11\/i=12\/i=13:=(by omega);rcases U with rfl|rfl|rfl|rfl|rfl|rfl|rfl|rfl|rfl|rfl|rfl|rfl|rfl|rfl
   ·have b:=aA (c.symm.t (show opsE[0]?=some ⟨_,_,_,_,_,_⟩from rfl));subst b;have t1:=(hM.same 0 (by omega)).t h0;go_simp;exact l _ _ (r 0 _ _ bk (by omega) (hM.step hs0 0 (by omega) (by omega) d bk (λ_ _=>rfl) _ (az _ _) ((tu (s.o 28 (by omega)) 28).t (aI rfl)) (λh=>by cases h) (λ_ h=>absurd h dY)))
   ·have b:=aA (c.symm.t (show opsE[1]?=some ⟨_,_,_,_,_,_⟩from rfl));subst b;have t1:=(hM.same 6 (by omega)).t H;obtain⟨x0,V⟩:=ZZ hM.below c0 c1;go_simp;exact l _ _ (r 1 _ _ bk (by omega) (hM.step hs0 1 (by omega) (by omega) d bk (λ_ _=>rfl) _ (az _ _) ((tu (s.o 29 (by omega)) 29).t (aI rfl)) (λh=>by cases h) (λ_ h=>absurd h dY)))
   ·have b:=aA (c.symm.t (show opsE[2]?=some ⟨_,_,_,_,_,_⟩from rfl));subst b;have d1:L 1=true:=f { on:=1,ground:=.data } (by simp) rfl;have t1:a.tmps[29]?=some _:=hM.fact 1 (by omega) d1;go_simp;exact l _ _ (r 2 _ _ bk (by omega) (hM.step hs0 2 (by omega) (by omega) d bk (λ_ _=>rfl) _ (az _ _) ((tu (s.o 30 (by omega)) 30).t (aI rfl)) (λh=>by cases h) (λj hj=>by rw[aX.1 hj];exact d1)))
   ·have b:=aA (c.symm.t (show opsE[3]?=some ⟨_,_,_,_,_,_⟩from rfl));subst b;have d2:L 2=true:=f { on:=2,ground:=.data } (by simp) rfl;have t1:a.tmps[30]?=some _:=hM.fact 2 (by omega) d2;go_simp;exact l _ _ (r 3 _ _ (λj=>if j=3 then w.heap.size else bk j) (by omega) (hM.step hs0 3 (by omega) (by omega) d _ (J8 bk 3 _) _ (af w _) ⟨(tu (s.o 31 (by omega)) 31).t (aI rfl),hM.below.size,iy.new w p.jb _⟩ (λ_=>⟨ak _,by rw[aK];exact dI _⟩) (λj hj=>by rw[aX.1 hj];exact d2)))
   ·have b:=aA (c.symm.t (show opsE[4]?=some ⟨_,_,_,_,_,_⟩from rfl));subst b;have X:L 7=false:=by
     cases Y:L 7 with
     |false=>rfl
     |true=>have:=hM.d7 Y;rw[d]at this;cases this
    have J:Sem.run Tryz.prog (Instr.makeMap 91 none) w=.ok (.map (some w.heap.size)) (w.alloc (.map #[] 0)):=rfl;go_simp;exact l _ _ (r 4 _ _ (λj=>if j=4 then w.heap.size else bk j) (by omega) (hM.step hs0 4 (by omega) (by omega) d _ (J8 bk 4 _) _ (af w _) ⟨(tu (s.o 32 (by omega)) 32).t (aI rfl),hM.below.size,0,_,qI.made w _ _,aL _,λ_=>rfl,λk=>by rw[X];rfl⟩ (λ_=>⟨ak _,by rw[aK];exact dI _⟩) (λ_ h=>absurd h dY)))
   ·have b:=aA (c.symm.t (show opsE[5]?=some ⟨_,_,_,_,_,_⟩from rfl));subst b;have t1:=(hM.same 6 (by omega)).t H;obtain⟨x0,V⟩:=ZZ hM.below c0 c1;go_simp;exact l _ _ (r 5 _ _ bk (by omega) (hM.step hs0 5 (by omega) (by omega) d bk (λ_ _=>rfl) _ (az _ _) ((tu (s.o 33 (by omega)) 33).t (aI rfl)) (λh=>by cases h) (λ_ h=>absurd h dY)))
   ·have b:=aA (c.symm.t (show opsE[6]?=some ⟨_,_,_,_,_,_⟩from rfl));subst b;have d5:L 5=true:=f { on:=5,ground:=.data } (by simp) rfl;have t1:a.tmps[33]?=some _:=hM.fact 5 (by omega) d5;go_simp;go_at_call 46;refine(O _ hM.below).m ?_;rintro e w' ⟨rfl,hb⟩;exact l _ _ (r 6 _ _ bk (by omega) (hM.step hs0 6 (by omega) (by omega) d bk (λ_ _=>rfl) _ hb ((tu (s.o 34 (by omega)) 34).t (aI rfl)) (λh=>by cases h) (λj hj=>by rw[aX.1 hj];exact d5)))
   ·have b:=aA (c.symm.t (show opsE[7]?=some ⟨_,_,_,_,_,_⟩from rfl));subst b;have d4:L 4=true:=f { on:=4,ground:=.data } (by simp) rfl;have d6:L 6=true:=f { on:=6,ground:=.data } (by simp) rfl;have t1:=(hM.fact 4 (by omega) d4).1;have t2:a.tmps[34]?=some _:=hM.fact 6 (by omega) d6;obtain⟨w',M,Z⟩:=hM.ins d4 d6 d P;have aC:(Instr.mapUpdate 91 (.map (some (bk 4))) (.string p.key) (.int .i64 0)).run Tryz.prog w=.ok () w':=M;clear M;go_simp;exact l _ _ (r 7 _ _ bk (by omega) Z)
   ·have b:=aA (c.symm.t (show opsE[8]?=some ⟨_,_,_,_,_,_⟩from rfl));subst b;have d4:L 4=true:=f { on:=4,ground:=.data } (by simp) rfl;have d5:L 5=true:=f { on:=5,ground:=.data } (by simp) rfl;have d6:L 6=true:=f { on:=6,ground:=.data } (by simp) rfl;have d7:L 7=true:=f { on:=7,ground:=.data } (by simp) rfl;have t1:=(hM.fact 4 (by omega) d4).1;have ai:∀j∈Tv 8,L j=true:=λj hj=>by
     have:j=4\/j=5\/j=6\/j=7:=(by simpa[Tv]using hj);rcases this with rfl|rfl|rfl|rfl<;>assumption
    go_simp;exact l _ _ (r 8 _ _ bk (by omega) (hM.step hs0 8 (by omega) (by omega) d bk (λ_ _=>rfl) _ (az _ _) ((tu (s.o 35 (by omega)) 35).t (aI rfl)) (λh=>by cases h) ai))
   ·have b:=aA (c.symm.t (show opsE[9]?=some ⟨_,_,_,_,_,_⟩from rfl));subst b;have J:Sem.run Tryz.prog (Instr.makeMap 92 none) w=.ok (.map (some w.heap.size)) (w.alloc (.map #[] 0)):=rfl;go_simp;exact l _ _ (r 9 _ _ (λj=>if j=9 then w.heap.size else bk j) (by omega) (hM.step hs0 9 (by omega) (by omega) d _ (J8 bk 9 _) _ (af w _) ⟨(tu (s.o 36 (by omega)) 36).t (aI rfl),hM.below.size,qI.made w _ _⟩ (λ_=>⟨ak _,by rw[aK];exact dI _⟩) (λ_ h=>absurd h dY)))
   ·have b:=aA (c.symm.t (show opsE[10]?=some ⟨_,_,_,_,_,_⟩from rfl));subst b;have J:Sem.run Tryz.prog (Instr.makeMap 93 none) w=.ok (.map (some w.heap.size)) (w.alloc (.map #[] 0)):=rfl;go_simp;exact l _ _ (r 10 _ _ (λj=>if j=10 then w.heap.size else bk j) (by omega) (hM.step hs0 10 (by omega) (by omega) d _ (J8 bk 10 _) _ (af w _) ⟨(tu (s.o 37 (by omega)) 37).t (aI rfl),hM.below.size,qI.made w _ _⟩ (λ_=>⟨ak _,by rw[aK];exact dI _⟩) (λ_ h=>absurd h dY)))
   ·have b:=aA (c.symm.t (show opsE[11]?=some ⟨_,_,_,_,_,_⟩from rfl));subst b;have d0:L 0=true:=f { on:=0,ground:=.data } (by simp) rfl;have d3:L 3=true:=f { on:=3,ground:=.data } (by simp) rfl;have d8:L 8=true:=f { on:=8,ground:=.data } (by simp) rfl;have d9:L 9=true:=f { on:=9,ground:=.data } (by simp) rfl;have d10:L 10=true:=f { on:=10,ground:=.data } (by simp) rfl;have d7:=hM.d8 d8;have d2:=hM.cl 3 (by omega) d3 2 (by decide);have m:∀j,j<12->(L j||j==11)=true:=λj hj=>by
     have:j=0\/j=1\/j=2\/j=3\/j=4\/j=5\/j=6\/j=7\/j=8\/j=9\/j=10\/j=11:=(by omega);rcases this with rfl|rfl|rfl|rfl|rfl|rfl|rfl|rfl|rfl|rfl|rfl|rfl;·rw[d0];rfl
     ·rw[hM.cl 2 (by omega) d2 1 (by decide)];rfl
     ·rw[d2];rfl
     ·rw[d3];rfl
     ·rw[hM.cl 8 (by omega) d8 4 (by decide)];rfl
     ·rw[hM.cl 8 (by omega) d8 5 (by decide)];rfl
     ·rw[hM.cl 8 (by omega) d8 6 (by decide)];rfl
     ·rw[d7];rfl
     ·rw[d8];rfl
     ·rw[d9];rfl
     ·rw[d10];rfl
     ·simp
    have d4:=hM.d7 d7;have f0:a.tmps[28]?=some _:=hM.fact 0 (by omega) d0;obtain⟨f3,g3,b3⟩:=hM.fact 3 (by omega) d3;obtain⟨f4,g4,nn,F,E,m2,m3,N⟩:=hM.fact 4 (by omega) d4;have f8:a.tmps[35]?=some _:=hM.fact 8 (by omega) d8;obtain⟨f9,g9,b9⟩:=hM.fact 9 (by omega) d9;obtain⟨f10,av,Pz⟩:=hM.fact 10 (by omega) d10;rw[d7]at N;have t:EB p q bk w:=⟨hM.below,⟨g3,b3⟩,⟨g4,nn,F,E,m2,λk=>by rw[N k,mr]⟩,⟨g9,b9⟩,⟨av,Pz⟩,hM.ne 3 4 rfl rfl d3 d4 (by omega),hM.ne 3 9 rfl rfl d3 d9 (by omega),hM.ne 3 10 rfl rfl d3 d10 (by omega),hM.ne 4 9 rfl rfl d4 d9 (by omega),hM.ne 4 10 rfl rfl d4 d10 (by omega),hM.ne 9 10 rfl rfl d9 d10 (by omega)⟩;have z:=aa (λv j=>tu (a:=a) (k:=38) (v:=v) (s.o 38 (by omega)) j);go_simp;exact l _ _ (.inr (.inl ⟨by show(L 12||12==11)=false;rw[u];rfl,by show(L 13||13==11)=false;rw[x];rfl,m,bk,⟨by simp only[iR];exact hM.size,hM.defs,λj hj=>(z.o _ j).t (by rw[aG (by omega)];exact hM.same j hj)⟩,t,(z.o _ 38).t (aI rfl)⟩))
   ·have b:=aA (c.symm.t (show opsE[12]?=some ⟨_,_,_,_,_,_⟩from rfl));subst b;have:=f { on:=11,ground:=.data } (by simp) rfl;rw[A]at this;cases this
   ·have b:=aA (c.symm.t (show opsE[13]?=some ⟨_,_,_,_,_,_⟩from rfl));subst b;have:=f { on:=12,ground:=.data } (by simp) rfl;rw[u]at this;cases this
  ·have G:i=12\/i=13:=by
    rcases cu i 12 with h|h;·rw[m i h]at d;cases d
    ·omega
   rcases G with rfl|rfl
   ·have b:=aA (c.symm.t (show opsE[12]?=some ⟨_,_,_,_,_,_⟩from rfl));subst b;have t38:a.tmps[38]?=some (.agg #[.slice p.As p.n p.cs,.slice (some ⟨bk 3,0,none⟩) 1 1,.map (some (bk 4)),.bool true,.map (some (bk 9)),.map (some (bk 10))]):=I;have z:=aa (λv j=>tu (a:=a) (k:=39) (v:=v) (by rw[y.size];omega) j);have hb:=af w (.cells (Yv p bk).toArray 95);obtain⟨_,F,E,_⟩:=t.b4.2;have ax:=t.ag hb;have l3:=t.b3.2.lt;have l4:=E.lt;have l9:=t.b9.2.lt;have l10:=t.Pz.2.lt;clear I;go_simp;exact l _ _ (.inr (.inr (.inl ⟨by show(L 13||13==12)=false;rw[x];rfl,λj hj=>by
     rcases cu j 12 with h|h
     ·show(L j||j==12)=true;rw[m j h];rfl
     ·obtain rfl:j=12:=(by omega);simp,bk,w.heap.size,⟨by simp only[iR];exact y.size,y.defs,λj hj=>(z.o _ j).t (by rw[aG (by omega)];exact y.same j hj)⟩,ax,(z.o _ 39).t (aI rfl),iy.new w (Yv p bk) _,t.below.size,l3,l4,l9,l10⟩)))
   ·have b:=aA (c.symm.t (show opsE[13]?=some ⟨_,_,_,_,_,_⟩from rfl));subst b;have:=f { on:=12,ground:=.data } (by simp) rfl;rw[u]at this;cases this
  ·have G:i=13:=by
    rcases cu i 13 with h|h;·rw[m i h]at d;cases d
    ·omega
   subst G;have b:=aA (c.symm.t (show opsE[13]?=some ⟨_,_,_,_,_,_⟩from rfl));subst b;go_simp;exact l _ _ (.inr (.inr (.inr ⟨λj hj=>by
    rcases cu j 13 with h|h
    ·show(L j||j==13)=true;rw[m j h];rfl
    ·obtain rfl:j=13:=(by omega);simp,a,bk,g,rfl,y,t,S⟩)))
  ·rw[m i hi]at d;cases d
 ·intro L a w m C;rcases C with⟨A,_⟩|⟨u,_⟩|⟨x,_⟩|⟨_,hd⟩
  ·have:=m 11 (by rw[Bj];omega);rw[A]at this;cases this
  ·have:=m 12 (by rw[Bj];omega);rw[u]at this;cases this
  ·have:=m 13 (by rw[Bj];omega);rw[x]at this;cases this
  ·exact R a w hd
theorem Yg{p:EP}{a w:World}{s:List iZ}{x0:jZ}{bk:Nat->Nat}{g:Nat}(h:EB p a bk w)(j:iy w g 95 (Yv p bk))(l:a.heap.size<=g/\bk 3<g/\bk 4<g/\bk 9<g/\bk 10<g)
 (c:x0.aS.length=p.lx) (d:x0.bH.length=p.kx) (m:jK Cz mf a (.slice p.Ax p.lx p.cx) x0.aS) (o:jK oC mf a (.slice p.Bx p.kx p.dx) x0.bH) (q:p.key.data.toList=aT.iU x0):
 kK mM s (.slice p.As p.n p.cs) a.heap.size g (bk 4) (bk 9) (bk 10) 0 0 w (.slice (some ⟨bk 3,0,none⟩) 1 1) ⟨[⟨x0,0,⟨0,uC⟩⟩],true,[]⟩ [aT.iU x0]:=by
 obtain⟨r,N,O,P,l10⟩:=l;obtain⟨t,v,n310,x,y,z⟩:=h.ne;obtain⟨A,F,B,C,D⟩:=h.b4.2;have Q:=h.b3.1;have E:=h.b4.1;have G:=h.b9.1;have H:=h.Pz.1;have f:∀b,jQ a.heap.size b=true->b<a.heap.size->off (uk g (bk 4) (bk 9) (bk 10) (.slice (some ⟨bk 3,0,none⟩) 1 1)) (some (bk 3)) b=true/\w.heap[b]?=a.heap[b]?:=λb _ I=>
  ⟨dX.2 ⟨nQ.2 ⟨rfl,by omega,by omega,by omega,by omega,λe=>by have J:bk 3=b:=aA e;omega⟩,λe=>by have J:bk 3=b:=aA e;omega⟩,h.below.block b I⟩
 have K:=m.low.aR f;have L:=o.low.aR f;refine⟨j,⟨[p.jb],El.all.push El.all.nil ⟨aL _,aL _,p.Ax,p.cx,p.Bx,p.dx,none,0,?_,?_,?_,?_⟩,H9 h.b3.2 rfl h.b3.1⟩,⟨A,F,B,C,λk=>?_⟩,⟨0,_,h.Pz.2,aL _,λk u e=>by cases e⟩,⟨0,_,h.b9.2,aL _,λi k _ _=>rfl⟩,⟨r,E,G,H⟩,⟨by omega,by omega,by omega,x,y,z⟩,λk M=>?_,λ_ _=>rfl,λ_ _=>rfl⟩
 ·show p.jb=_;rw[c,d];rfl
 ·rw[c];exact K
 ·rw[d];exact L
 ·exact(jK.nil oC _ _).term 0 ⟨#[]⟩ (by omega) (by decide)
 ·rw[D k,<-q];have:(p.key=k)<->(p.key.data.toList=k.data.toList):=⟨λe=>by rw[e],λe=>T.Gw (by rw[fV,fV];exact e)⟩;simp[this]
 ·have e:bk 3=k:=aA M;rw[<-e];exact⟨by omega,t,v,n310⟩
end
end Go.Proofs.YtaciciokmpbkkaaGreatDoor
