import Derived.Test.YtaciciokmpbkkaaGreatDoorWebG19
set_option maxRecDepth 100000
set_option maxHeartbeats 16000000
namespace Go.Proofs.YtaciciokmpbkkaaGreatDoor
section
open Go.RowKit T
attribute [local go_sem ↓] Go.wp_at_zero Go.wp_at_succ
theorem Pj(l:List iN)(j:Nat)(h:j<l.length):aQ.moves (l.take (j+1))=aQ.moves (l.take j)+l[j].2.length:=by
 unfold aQ.moves;rw[aZ h,gG,List.sum_append];simp
theorem Ut(l:List iN)(j:Nat):aQ.moves (l.take j)<=aQ.moves l:=by
 unfold aQ.moves;have e:(l.map λx=>x.2.length).sum=((l.take j).map λx=>x.2.length).sum+((l.drop j).map λx=>x.2.length).sum:=by
  rw[<-List.sum_append,<-gG,lN]
 omega
theorem TS(l:List iN)(j:Nat)(h:j<l.length):aQ.err (l.drop j)=if rG l[j].1 l[j].2=0 then aQ.err (l.drop (j+1)) else rG l[j].1 l[j].2:=by
 rw[dN h];rfl
theorem Vs(K:List T)(j:Nat)(h:j<K.length):(K.take (j+1)).filter T.use=if K[j].use=true then (K.take j).filter T.use++[K[j]] else (K.take j).filter T.use:=by
 rw[aZ h,ql];by_cases hu:K[j].use=true;·rw[aJ hu];simp[hu]
 ·rw[aH hu];simp[hu]
theorem G9{w:World}{g:Nat}{ty:TypeId}{a b:Value}(h:gU w g ty [a,b])(x y:Value):((w.setCell ⟨g,0,none⟩ x).setCell ⟨g,1,none⟩ y).cell? ⟨g,0,none⟩=some x/\((w.setCell ⟨g,0,none⟩ x).setCell ⟨g,1,none⟩ y).cell? ⟨g,1,none⟩=some y:=by
 have c:=(h.set 0 x).set 1 y;exact⟨c.cell 0 rfl,c.cell 1 rfl⟩
theorem De{w5 w8 w9 kJ:World}{g5 m C3 cap4 g a:Nat}{F:List T}{x:T}{A A3:Option Addr}{xs:List Value}{ty:TypeId}{s z:Value}{o:Obj}(f:F.length=m)(h:CT (but (g5+1) (Value.slice A m a).ownBlock) w8 xs F)
 (d:∀k,(Value.slice A m a).ownBlock=some k->g5+1<=k/\k<w8.heap.size) (i:g5+1<=w8.heap.size) (hb:Below w8.heap.size w8 w9) (j:bI (dP w8.heap.size) w9 (.agg #[.int .i64 x.aA,.string x.aI,.slice A3 x.ay.length C3]) x)
 (l:kJ.ownsRow (g5+1) 29 3 (.slice (some ⟨g,0,none⟩) (m+1) cap4) (m+1) (xs++[.int .i64 x.aA,.string x.aI,.slice A3 x.ay.length C3])) (c:(w9.alloc o).grownBy kJ (Value.slice A m a).ownBlock)
 (n:(Value.slice A m a).ownBlock=some g\/g=(w9.alloc o).heap.size) (p:gU kJ g5 ty [s,z]) (q:Below g5 w5 w8) (C:w5.heap.size<=w8.heap.size):
 gU (kJ.setCell ⟨g5,1,none⟩ (.slice (some ⟨g,0,none⟩) (m+1) cap4)) g5 ty [s,.slice (some ⟨g,0,none⟩) (m+1) cap4]/\bK (kJ.setCell ⟨g5,1,none⟩ (.slice (some ⟨g,0,none⟩) (m+1) cap4)) (g5+1) (.slice (some ⟨g,0,none⟩) (m+1) cap4) (F++[x])/\
  Below g5 w5 (kJ.setCell ⟨g5,1,none⟩ (.slice (some ⟨g,0,none⟩) (m+1) cap4))/\w5.heap.size<=(kJ.setCell ⟨g5,1,none⟩ (.slice (some ⟨g,0,none⟩) (m+1) cap4)).heap.size:=by
 subst f;have r:=bK.push (w:=w8) (w1:=w9) (w3:=kJ) (v:=.slice A F.length a) (t:=x) h (λb e=>(d b e).2) i hb j l c (n.imp (λe=>e.symm) (λe=>by rw[e];rfl));have D:=aK w9 o;have E:=hb.size;have G:=c.size;refine⟨p.set 1 _,r.aR λb H _=>aL _ _ _ _ (by show b≠g5;omega),?_,?_⟩
 ·have u:Below g5 w5 w9:=q.t (hb.m aar);have y:Below g5 w5 (w9.alloc o):=u.t ((ae w9 o).m aar);exact(y.grown c aar (λk B=>aaz ((d k B).1))).setCell (show g5<=(⟨g5,1,none⟩:Addr).block from ax _) _
 ·simp only[World.setCell,l6];omega
def Q3(l:List iN)(K:List T):jf:=if aQ.nW l K=0 then aQ.iJ l K else ⟨[],[]⟩
theorem WQ(S:Nat->Bool)(w:World):mV S w (.agg #[.slice none 0 0,.slice none 0 0]) ⟨[],[]⟩:=⟨none,0,none,0,rfl,jU.nil _ _ _,jU.nil _ _ _⟩
def Bg(l:List iN)(K:List T)(w:World)(e:Ending)(w':World):Prop:=∃v,e=.returned (.tuple #[v,.int .i64 (aQ.nW l K)])/\mV (dP w.heap.size) w' v (Q3 l K)/\Below w.heap.size w w'
theorem Bg.fail{l:List iN}{K:List T}{w w':World}{E:Int}(a:E≠0)(h:aQ.nW l K=E)(hb:Below w.heap.size w w'):Bg l K w (.returned (.tuple #[.agg #[.slice none 0 0,.slice none 0 0],.int .i64 E])) w':=
 ⟨_,by rw[h],by unfold Q3;rw[aH (by rw[h];exact a)];exact WQ _ _,hb⟩
theorem Q6{l:List iN}{K:List T}(h:l.length=0\/16<aQ.moves l\/32<K.length):aQ.nW l K=72:=by unfold aQ.nW;rw[aJ h]
theorem Q5{l:List iN}{K:List T}(h:¬(l.length=0\/16<aQ.moves l\/32<K.length)):aQ.nW l K=aQ.err l:=by unfold aQ.nW;rw[aH h]
theorem VL{l:List iN}{K:List T}{w w4 w5 wr w7:World}{g3 g5 i z c:Nat}{A:Option Addr}(f:l.length=i)(j:(aQ.Gr (K.filter T.use)).length=z)(g:aQ.nW l K=0)(k:jU Da (dP g3) w4 (.slice (some ⟨g3,0,none⟩) i i) (List.replicate i ⟨0,[]⟩))(s:w4.heap.size=g5)(t:g3<=g5)(u:w.heap.size<g3)
 (m:Below g5 w4 w5) (h:Below g5 w5 wr) (d:Below (g5+1) wr w7) (n:bK w7 (g5+1) (.slice A z c) (aQ.Gr (K.filter T.use))) (o:Below w.heap.size w w5) (v:w5.heap.size=g5+1):
 Bg l K w (.returned (.tuple #[.agg #[.slice (some ⟨g3,0,none⟩) i i,.slice A z c],.int .i64 0])) (((w7.setCell ⟨g5,1,none⟩ (.slice A z c)).setCell ⟨w.heap.size,0,none⟩ (.slice (some ⟨g3,0,none⟩) i i)).setCell ⟨w.heap.size,1,none⟩ (.slice A z c)):=by
 have x:=d.size;refine⟨_,by rw[g],?_,?_⟩
 ·unfold Q3;rw[aJ g];have p:(aQ.iJ l K).aO.length=i:=(by unfold aQ.iJ;rw[bZ];exact f);have e:(aQ.iJ l K).bF.length=z:=j;have q:(aQ.iJ l K).aO=List.replicate i ⟨0,[]⟩:=(by unfold aQ.iJ;simp only[];rw[List.map_const',f]);refine⟨_,_,_,_,by rw[p,e],?_,?_⟩
  ·rw[q,zy];refine k.aR λb hb y=>?_;have r:=ak hb;refine⟨aM aar,(oV _ _ _ _ _ aar).t ((aL _ _ _ _ (by show b≠g5;omega)).t ((d.block b aar).t ((h.block b aar).t (m.block b aar))))⟩
  ·have a:=n.Sd.list;rw[<-e]at a;rw[<-e];exact a.aR λb hb _=>by
    have r:=ak hb;exact⟨aM aar,(oV _ _ _ _ _ aar).t (aL _ _ _ _ (by show b≠g5;omega))⟩
 ·have a:Below w.heap.size w w7:=(o.t (h.m aar)).t (d.m aar);exact qw (a.setCell (show w.heap.size<=(⟨g5,1,none⟩:Addr).block from by show w.heap.size<=g5;omega) _) (ax _) _ _
theorem ack{p:Prop}(h:p:=by
 refine bH aa4 (λK a=>?_) ?_
 ·go_simp;(first|(refine a _ _ ?_;clear a K)|skip);refine bY (rs:=[5]) aas aau ?_;refine bH aa4 (λK a=>?_) ?_
  ·(refine dW _ aav _ _ _ aav (g5+1) 29 i0 _ 3 48 cB bF bI bJ bL rfl aar _ m _ aav bf.o ⟨_,0,none⟩ 1 1 _ aav aav (cZ (bP _ _)) bg.o aar aaS aar bi.o _ rfl ?_;intro g dM kJ P D Q aM;have G:=aa (ah.o.grown D (λe=>aaz ((aD.o _ e).1)));have z3:=G.o.cell 1 rfl;have z4:=G.o.free 1;go_simp);(first|(refine a _ _ ?_;clear a K)|skip);(refine eG (i:=6) (v:=?_) aa4 aas aas aas aa3 (Or.inl ⟨aav,?_⟩) ?_;rotate_left 1;· (intro w;go_simp;(try with_reducible rfl)));refine bY (rs:=[7]) aas aau ?_;refine bH aa4 (λK a=>?_) ?_
   ·go_simp;(first|(refine a _ _ ?_;clear a K)|skip);refine kX aas ?_ _;have R:=De HM.o cz.o aD.o (aaA L.o J.o) d I P D Q G.o bC.o L.o;have u:=aa R;clear R P D Q aM z3 z4 I Z d U z2 Y b3 u0 u1 u2;go_wp2_with fail;go_roundw;case rel=>exact⟨q+1,_,r.o,aaw,u.o.1,by rw[HU.o];exact u.o.2.1,u.o.2.2⟩
    case measure=>exact aax r.o
   exact bS
  exact bS
 exact bS):p:=h
theorem acs{p:Prop}(h:p:=by
 (first|(refine a _ _ ?_;clear a K)|skip);refine bY (rs:=[4]) aas aau ?_;exact ack):p:=h
theorem acn{p:Prop}(h:p:=by
 go_simp;(first|(refine a _ _ ?_;clear a K)|skip);refine bY (rs:=[3]) aas aau ?_;refine bH aa4 (λK a=>?_) ?_
 ·(go_simp;go_at_call 36;refine(wW (x.bE+1) x _ _ aar dL.o.drew bA.o).m ?_;rintro e w9 ⟨O,C3,rfl,I,Z⟩;have d:=jN Z;have U:=af d Y;obtain⟨bf,bg⟩:=aab ((dG HOWN.o d).alloc (.cells #[.int .i64 x.aA,.string x.aI,.slice O x.ay.length C3] 29)) I.one;have bi:=aa (show g5+1<=(w9.alloc (.cells #[.int .i64 x.aA,.string x.aI,.slice O x.ay.length C3] 29)).heap.size by rw[aK];have:=d.size;have:=L.o;have:=J.o;omega);have ah:=aa (bD.o.ag (d.t ((ae w9 (.cells #[.int .i64 x.aA,.string x.aI,.slice O x.ay.length C3] 29)).m d.size)));have z2:=ah.o.cell 1 rfl);exact acs
 exact bS):p:=h
theorem acp{p:Prop}(h:p:=by
 clear aR;go_wp2_with fail;exact aV (v:=.tuple #[.agg #[.slice none 0 0,.slice none 0 0],.int .i64 72]) (by simp[results,Tryz.results11,go_sem,V,N]) rfl (bQ.o _ 72 aat dw.o p.o)):p:=h
theorem Ux(l:List iN)(K:List T)(vs:Value)(A:Option Addr)(cap:Nat)(w:World)(hs:uA w vs l)(hk:iY w A cap K)(dR:∀x∈l,x.1.size<=maxLen/\x.2.length<=maxLen/\∀m∈x.2,m.2.bE<=1048576)
 (fG:aQ.moves l<=1048576) (fH:l.length<=1048576) (dS:∀t∈K,t.bE<=1048576) (dV:K.length<=1048576):
 Calls Tryz.prog 11 #[vs,.slice A K.length cap] w (Bg l K w):=by
 obtain⟨i0,bF,bI,bJ,bL⟩:=dU Tryz.uN;obtain⟨As,cs,rfl,dX,fI,gG⟩:=hs;obtain⟨fJ,fK,fM⟩:=aac (Q6 (l:=l) (K:=K)) (Q5 (l:=l) (K:=K)) (λ(E:Int) (w':World) (hE:E≠0) (h:aQ.nW l K=E) (hb:Below w.heap.size w w')=>Bg.fail (w:=w) (w':=w') hE h hb);obtain⟨n,hn⟩:=aay l.length;obtain⟨kn,cK⟩:=aay K.length;obtain⟨mv,cO⟩:=aay (aQ.moves l);obtain⟨HS,HK,fO,dY,HN,aN,bM⟩:=aag dX hk dR dS hn cK cO;rw[hn]at fI fH⊢;rw[cK]at dV⊢;rw[cO]at fG;clear dX hk dR dS hn cK cO;go_enter Tryz.func11,Tryz.ntmps11;go_upto_region 1 with fail;have df:=ae w (.cells #[.slice none 0 0,.slice none 0 0] 35);have hz:=gU.new w [.slice none 0 0,.slice none 0 0] 35;have dh:=aK w (.cells #[.slice none 0 0,.slice none 0 0] 35);change gU (w.alloc (.cells #[.slice none 0 0,.slice none 0 0] 35)) w.heap.size _ _ at hz;generalize w.alloc _=w1 at df hz dh⊢;obtain⟨bN,HZ,dm⟩:=aac df hz dh;clear df hz dh;go_wp2_with fail;go_loopw [6,17] (λfP M wr=>∃j:Nat,j<=n/\M=.int .i64 j/\fP=.int .i64 (aQ.moves (l.take j):Int)/\Below w1.heap.size w1 wr) (λ_ M _=>n-(intOf M).toNat);case atStart=>exact⟨0,aT _,rfl,by rw[iM];rfl,aC _ _⟩
 case round=>
  obtain⟨j,hj,rfl,rfl,f⟩:=hrel;by_cases ak:j<n
  ·have dn:j<l.length:=(by rw[HN.o];exact ak);obtain⟨b,o,y,B,rfl,av,az,bn⟩:=HS.o.get dn;clear bn;have S:=bN.o.t (f.m bN.o.size);obtain⟨d0,d1⟩:=aaj S av az;have C:=Pj l j dn;have dZ:=Ut l (j+1);rw[bM.o]at dZ;obtain⟨x,hx⟩:=aay (l[j]);rw[hx]at d0 d1 C;obtain⟨k,hk⟩:=aay x.2.length;obtain⟨q,hq⟩:=aay (aQ.moves (l.take j));rw[hk]at d1 C;rw[hq]at C⊢;rw[C]at dZ;obtain⟨bO,r⟩:=aab C ak;have hi:(j:Int)<(n:Int):=aar;have aO:=ae wr (.cells #[.string x.1,.slice y k B] 26);have s:=gU.new wr [.string x.1,.slice y k B] 26;change gU (wr.alloc (.cells #[.string x.1,.slice y k B] 26)) wr.heap.size _ _ at s;have p:=aa (f.t (aO.m f.size));clear hx hk hq C f S aO dn av az hj;go_upto_region 5 with fail;generalize wr.alloc _=w2 at s p⊢;have N:=s.cell 1 rfl;clear d0 d1 s;go_wp2_with fail;clear N;go_roundw;case rel=>exact⟨j+1,r.o,aaw,by rw[bO.o];simp,p.o⟩
   case measure=>exact aax r.o
  ·obtain rfl:j=n:=aar;rw[bG abg,bM.o];have hi:¬(j:Int)<(j:Int):=aar;obtain⟨p,bq⟩:=aab (bN.o.t (f.m bN.o.size)) (HZ.o.ag f);obtain⟨z0,U,f0,f1⟩:=(HZ.o.ag f).two;clear f hj;have bQ:=aa (λ(W:World) (E:Int) (hE:E≠0) (h:aQ.nW l K=E) (hb:Below w.heap.size w W)=>fM.o E ((W.setCell ⟨w.heap.size,0,none⟩ (.slice none 0 0)).setCell ⟨w.heap.size,1,none⟩ (.slice none 0 0)) hE h (qw hb (ax _) _ _));by_cases aR:j=0\/16<mv\/32<kn
   ·have dw:=aa (fJ.o (by rw[HN.o,bM.o,aN.o];exact aR));obtain⟨V,N⟩:=G9 bq.o (.slice none 0 0) (.slice none 0 0);rcases(show j=0\/(¬j=0/\16<mv)\/(¬j=0/\¬16<mv/\32<kn) by omega)with h0|⟨h0,h1⟩|⟨h0,h1,h2⟩
    ·subst h0;exact acp
    ·have d9:¬(j:Int)=0:=aar;have ed:(16:Int)<(mv:Int):=aar;exact acp
    ·have d9:¬(j:Int)=0:=aar;have ed:¬(16:Int)<(mv:Int):=aar;have fQ:(32:Int)<(kn:Int):=aar;exact acp
   ·have ek:=aa (fK.o (by rw[HN.o,bM.o,aN.o];exact aR));have d9:¬(j:Int)=0:=aar;have ed:¬(16:Int)<(mv:Int):=aar;have fQ:¬(32:Int)<(kn:Int):=aar;have gH:¬j=0:=aar;clear aR z0 U f0 f1;obtain⟨wo,rfl⟩:∃wo:World,wo=wr:=⟨_,rfl⟩;go_wp2_with fail;go_loopw [42] (λM wr=>∃i:Nat,i<=j/\M=.int .i64 i/\aQ.err (l.drop i)=aQ.err l/\Below wo.heap.size wo wr) (λM _=>j-(intOf M).toNat);case atStart=>exact⟨0,aT _,rfl,rfl,aC _ _⟩
    case round=>
     obtain⟨i,eu,rfl,bu,f⟩:=hrel;by_cases ak:i<j
     ·have bR:i<l.length:=(by rw[HN.o];exact ak);obtain⟨b,o,y,B,rfl,av,az,bn⟩:=HS.o.get bR;have S:=p.o.t (f.m p.o.size);obtain⟨d0,d1⟩:=aaj S av az;have C:=TS l i bR;obtain⟨q1,q2,q3⟩:=fO.o _ (aP bR);obtain⟨x,hx⟩:=aay (l[i]);rw[hx]at d0 d1 C q1 q2 q3 bn;have aO:=ae wr (.cells #[.string x.1,.slice y x.2.length B] 26);have s:=gU.new wr [.string x.1,.slice y x.2.length B] 26;change gU (wr.alloc (.cells #[.string x.1,.slice y x.2.length B] 26)) wr.heap.size _ _ at s;obtain⟨bT,dx,HV,r⟩:=aad (f.t (aO.m f.size)) ((bn.ag (S.t (aO.m S.size)))) (λW h=>WC x.1 x.2 y B W q1 h q3 q2) ak;have hi:(i:Int)<(j:Int):=aar;obtain⟨k,hk⟩:=aay x.2.length;obtain⟨E,hE⟩:=aay (rG x.1 x.2);rw[hE]at C HV;rw[bu]at C;rw[hk]at d1 s bT dx HV;have bO:=aa C;clear hx hk C bu f S aO bR av az eu bn q1 q2 q3 hE;go_upto_region 12 with fail;generalize wr.alloc _=w2 at s bT dx⊢;have V:=s.cell 0 rfl;have N:=s.cell 1 rfl;clear d0 d1 s;go_wp2_with fail;refine(HV.o w2 dx.o).m ?_;rintro e w3 ⟨rfl,eB⟩;have X:=aa (bT.o.t (eB.m bT.o.size));clear eB V N;by_cases eF:E=0
      ·subst eF;go_wp2_with fail;go_roundw;case rel=>exact⟨i+1,r.o,aaw,by rw[bO.o];simp,X.o⟩
       case measure=>exact aax r.o
      ·obtain⟨z0,U,f0,f1⟩:=(bq.o.ag X.o).two;obtain⟨V,N⟩:=G9 (bq.o.ag X.o) (.slice none 0 0) (.slice none 0 0);have eH:=aa eF;go_wp2_with fail;exact aV (v:=.tuple #[.agg #[.slice none 0 0,.slice none 0 0],.int .i64 E]) (by simp[results,Tryz.results11,go_sem,V,N]) rfl (bQ.o _ E eH.o (by rw[ek.o,bO.o,aH eH.o]) (p.o.t (X.o.m p.o.size)))
     ·obtain rfl:i=j:=aar;have hi:¬(i:Int)<(i:Int):=aar;obtain⟨X,fT⟩:=aab (p.o.t (f.m p.o.size)) (bq.o.ag f);rw[ll abg]at bu;have fV:=aa (show aQ.nW l K=0 from by rw[ek.o,<-bu];rfl);obtain⟨w4,fZ,bU,C⟩:=Nb wr i aar;obtain⟨dz,gm⟩:=aab (X.o.t (bU.m X.o.size)) (fT.o.ag bU);have eO:w.heap.size+1<=wr.heap.size:=(aaA f.size bq.o.lt);clear f bu eu;go_upto_region 17 with fail;have aF:=ae w4 (.cells #[.slice (some ⟨wr.heap.size,0,none⟩) i i,.slice none 0 0] 35);have aS:=gU.new w4 [.slice (some ⟨wr.heap.size,0,none⟩) i i,.slice none 0 0] 35;have bv:=aK w4 (.cells #[.slice (some ⟨wr.heap.size,0,none⟩) i i,.slice none 0 0] 35);change gU (w4.alloc (.cells #[.slice (some ⟨wr.heap.size,0,none⟩) i i,.slice none 0 0] 35)) w4.heap.size _ _ at aS;obtain⟨g3,dA⟩:=aay wr.heap.size;obtain⟨g5,dB⟩:=aay w4.heap.size;have eP:w.heap.size<=g3:=(aaz X.o.size);rw[dA]at aF aS bv C⊢;have eQ:g3<=g5:=(aaz bU.size);rw[dB]at aF aS bv⊢;generalize w4.alloc _=w5 at aF aS bv⊢;have gp:=aa aF;have eT:=aa (dz.o.t (aF.m (aaz dz.o.size)));have gq:=aa (gm.o.ag (aF.m aar));have gu:=aa C;have dC:=aa (show w.heap.size<g3 from by have:=X.o.size;have:=dm.o;have:=p.o.size;rw[<-dA];have:=eO;omega);obtain⟨J,gy⟩:=aab ((And.intro eP (And.intro eQ (And.intro bv dB)))) aS;clear aF aS bv fZ C bU dA dB eP eQ eO;go_wp2_with fail;go_loopw [59] (λM wr=>∃(q:Nat) (kv:Value),q<=kn/\M=.int .i64 q/\gU wr g5 35 [.slice (some ⟨g3,0,none⟩) i i,kv]/\bK wr (g5+1) kv ((K.take q).filter T.use)/\Below g5 w5 wr/\w5.heap.size<=wr.heap.size) (λM _=>kn-(intOf M).toNat);case atStart=>exact⟨0,_,aT _,rfl,gy.o,by rw[iM];exact bK.nil _ _,aC _ _,ax _⟩
      case round=>
       obtain⟨q,kv,hq,rfl,s,aB,f,aU⟩:=hrel;by_cases ak:q<kn
       ·have bV:q<K.length:=(by rw[aN.o];exact ak);obtain⟨b,o,y,B,rfl,av,az,eU,ht⟩:=iY.get (cap:=cap) (by exact HK.o) bV;obtain⟨s1,s2,s3,s4⟩:=J.o;have aW:=eT.o.t (f.m (show w.heap.size<=g5 by omega));obtain⟨d0,d1,d2⟩:=aak aW av az eU;have dD:=dY.o _ (aP bV);have bW:=Vs K q bV;have aY:((K.take q).filter T.use).length<=kn:=aG (gF _ _) (by rw[aX,aN.o];omega);obtain⟨x,hx⟩:=aay (K[q]);rw[hx]at d0 d1 d2 ht dD bW;obtain⟨F,hF⟩:=aay ((K.take q).filter T.use);rw[hF]at bW aB aY;have aZ:=ae wr (.cells #[.int .i64 x.aA,.string x.aI,.slice y x.ay.length B] 29);have bx:=jy.new wr (.int .i64 x.aA) (.string x.aI) (.slice y x.ay.length B);have HT:=aa (ht.ag (aW.t (aZ.m aW.size)));have p:=aa (f.t (aZ.m (show g5<=wr.heap.size by omega)));obtain⟨eX,bX,bz,dE,bA,r,gz⟩:=aag (aB.ag aZ) (s.ag aZ) (aG aU aZ.size) bW dD ak aY;have hi:(q:Int)<(kn:Int):=aar;clear hx hF bW dD aW f aB s ht bV av az eU hq aZ aU aY s1 s2 s3 s4;go_upto_region 20 with fail;generalize wr.alloc _=w6 at bx HT p eX bX bz⊢;obtain⟨x0,x1,x2⟩:=bx.cells;have BX:=aa bx;clear d0 d1 d2 bx;have HG:=aa (GA x (.agg #[.int .i64 x.aA,.string x.aI,.slice y x.ay.length B]) w6 HT.o bA.o);obtain⟨gr,dF⟩:=aay x.ground;rw[dF]at HG;have eY:=aa dF;clear dF;go_wp2_with fail;refine HG.o.m ?_;rintro e w7 ⟨rfl,H⟩;have dH:=aa (p.o.t (H.m (by have:=p.o.size;have:=J.o;have:=bz.o;omega)));obtain⟨eZ,fe,fo,dI⟩:=aad (eX.o.ag H) (bX.o.ag H) (HT.o.ag H) (aG bz.o H.size);obtain⟨y0,y1,y2⟩:=(BX.o.ag H).cells;have gB:=aa (BX.o.ag H);clear H x0 x1 x2 HG;cases gr with
        |false=>
         have bB:¬x.use=true:=(by unfold T.use;rw[eY.o];simp);have HU:=aa (dE.o.t (aH bB));clear bB;go_wp2_with fail;go_roundw;case rel=>exact⟨q+1,kv,r.o,aaw,fe.o,by rw[HU.o];exact eZ.o,dH.o,dI.o⟩
         case measure=>exact aax r.o
        |true=>
         have HI:=aa (UG x (.agg #[.int .i64 x.aA,.string x.aI,.slice y x.ay.length B]) w7 fo.o bA.o);obtain⟨nr,dJ⟩:=aay x.K5;rw[dJ]at HI;have fq:=aa dJ;clear dJ;go_wp2_with fail;refine HI.o.m ?_;rintro e w8 ⟨rfl,aL⟩;have bC:=aa (dH.o.t (aL.m (by have:=dH.o.size;have:=J.o;have:=dI.o;omega)));obtain⟨dK,bD,dL,L⟩:=aad (eZ.o.ag aL) (fe.o.ag aL) (fo.o.ag aL) (aG dI.o aL.size);obtain⟨u0,u1,u2⟩:=(gB.o.ag aL).cells;clear aL y0 y1 y2 HI;cases nr with
         |false=>
          have bB:¬x.use=true:=(by unfold T.use;rw[fq.o];simp);have HU:=aa (dE.o.t (aH bB));clear bB;go_wp2_with fail;go_roundw;case rel=>exact⟨q+1,kv,r.o,aaw,bD.o,by rw[HU.o];exact dK.o,bC.o,L.o⟩
          case measure=>exact aax r.o
         |true=>
          have fu:x.use=true:=(by unfold T.use;rw[eY.o,fq.o];rfl);have HU:=aa (dE.o.t (aJ fu));obtain⟨xs,bZ,fw⟩:=dK.o.cells;obtain⟨Ak,ck,cu⟩:=oO bZ;have fA:=dK.o.block;obtain⟨m,hm⟩:=aay F.length;have HM:=aa hm;have gI:m<=1048576:=(by rw[<-hm];have:=gz.o;omega);rw[hm]at cu bZ;subst cu;obtain⟨HOWN,cz,aD⟩:=aac bZ fw fA;obtain⟨b0,Y,b2,b3⟩:=bD.o.two;clear fu bZ fw fA hm b0 b2;go_wp2_with fail;refine pY aas ?_;(try(change wpAny _ _ _ _ _ _ _ (World.drew _)));(refine eG (i:=0) (v:=?_) aa2 aas aas aas aa3 (Or.inl ⟨aav,?_⟩) ?_;rotate_left 1;· (intro w;go_simp;(try with_reducible rfl)));refine bY (rs:=[1,2]) aas aau ?_;refine bH aa4 (λK a=>?_) ?_
          ·go_simp;(first|(refine a _ _ ?_;clear a K)|skip);refine bY (rs:=[2]) aas aau ?_;refine bH aa4 (λK a=>?_) ?_
           ·exact acn
           exact bS
          refine bH aa4 (λK a=>?_) ?_
          ·go_simp;(first|(refine a _ _ ?_;clear a K)|skip);refine bY (rs:=[1,3]) aas aau ?_;refine bH aa4 (λK a=>?_) ?_
           ·exact acn
           refine bH aa4 (λK a=>?_) ?_
           ·(go_simp;go_at_call 36;refine(wW (x.bE+1) x _ _ aar dL.o.drew bA.o).m ?_;rintro e w9 ⟨O,C3,rfl,I,Z⟩;have d:=jN Z;have U:=af d Y;obtain⟨bf,bg⟩:=aab ((dG HOWN.o d).alloc (.cells #[.int .i64 x.aA,.string x.aI,.slice O x.ay.length C3] 29)) I.one;have bi:=aa (show g5+1<=(w9.alloc (.cells #[.int .i64 x.aA,.string x.aI,.slice O x.ay.length C3] 29)).heap.size by rw[aK];have:=d.size;have:=L.o;have:=J.o;omega);have ah:=aa (bD.o.ag (d.t ((ae w9 (.cells #[.int .i64 x.aA,.string x.aI,.slice O x.ay.length C3] 29)).m d.size)));have z2:=ah.o.cell 1 rfl);(first|(refine a _ _ ?_;clear a K)|skip);refine bY (rs:=[1,4]) aas aau ?_;refine bH aa4 (λK a=>?_) ?_
            ·go_simp;exact acs
            refine bH aa4 (λK a=>?_) ?_
            ·go_simp;(first|(refine a _ _ ?_;clear a K)|skip);refine bY (rs:=[1]) aas aau ?_;exact ack
            exact bS
           exact bS
          exact bS
       ·obtain rfl:q=kn:=aar;rw[bG (by rw[aN.o];exact ax _)]at aB;obtain⟨s1,s2,s3,s4⟩:=J.o;have hi:¬(q:Int)<(q:Int):=aar;obtain⟨F,hF⟩:=aay (K.filter T.use);rw[hF]at aB;have HF:=aa hF;have fB:∀t∈F,t.bE<=1048576:=λt ht=>dY.o t (by rw[<-hF]at ht;exact(fU.1 ht).1);have aY:F.length<=1048576:=(by rw[<-hF];exact aG (gF _ _) (by rw[aN.o];exact dV));obtain⟨Ak,ck,cu,_⟩:=aB.shape;subst cu;have fC:=aa (QI wr aB fB aY (show g5+1<=wr.heap.size by omega));obtain⟨m,hm⟩:=aay F.length;rw[hm]at fC s;obtain⟨b0,Y,b2,b3⟩:=s.two;obtain⟨bX,p,bz⟩:=aac s f aU;clear hF aB fB aY s f b0 b2 b3 hm hq aU s1 s2 s3 s4;go_wp2_with fail;refine fC.o.m ?_;rintro e w7 ⟨rfl,dN,H⟩;obtain⟨s1,s2,s3,s4⟩:=J.o;have gJ:=H.size;have aU:=bz.o;have dO:gU w7 g5 35 [.slice (some ⟨g3,0,none⟩) i i,.slice Ak m ck]:=(H.block g5 aar).t bX.o;have fD:gU w7 w.heap.size 35 [.slice none 0 0,.slice none 0 0]:=(H.block w.heap.size (aaA dm.o dz.o.size)).t ((p.o.block w.heap.size (aaA dm.o dC.o)).t gq.o);obtain⟨z,hz⟩:=aay ((aQ.Gr F).length);have gD:=aa hz;rw[hz]at dN⊢;have fE:=VL (l:=l) (K:=K) (w:=w) (w4:=w4) (w5:=w5) (wr:=wr) (w7:=w7) (g3:=g3) (g5:=g5) (i:=i) (z:=z) (A:=Ak) (c:=ck) (HN.o) (by rw[HF.o];exact gD.o) fV.o gu.o s4 s2 dC.o gp.o p.o H (by rw[HF.o];exact dN) eT.o s3;have u:=aa fE;have fF:w.heap.size≠g5:=(aaz dC.o);have dP:gU (w7.setCell ⟨g5,1,none⟩ (.slice Ak z ck)) w.heap.size _ _:=fD.setOther (by exact fF) _;obtain⟨y0,y1,_,_⟩:=(dO.set 1 (.slice Ak z ck)).two;obtain⟨y2,y3,y4,y5⟩:=dP.two;obtain⟨x0,x1,x2,x3⟩:=dO.two;obtain⟨V,N⟩:=G9 dP (.slice (some ⟨g3,0,none⟩) i i) (.slice Ak z ck);clear hz dN fE dO fD dP H Y aU s1 s2 s3 s4 fF;go_wp2_with fail;exact aV (v:=.tuple #[.agg #[.slice (some ⟨g3,0,none⟩) i i,.slice Ak z ck],.int .i64 0]) (by simp[results,Tryz.results11,go_sem,V,N]) rfl u.o
end
section
open Go.RowKit T
attribute [local go_sem ↓] Go.wp_at_zero Go.wp_at_succ
def xh(h Mn Mm:Nat)(fv:Value):Nat->Bool:=λb=>!(b==h)&&!(b==Mn)&&!(b==Mm)&&!(fv.ownBlock==some b)
theorem LF{h Mn Mm:Nat}{fv:Value}{b:Nat}:xh h Mn Mm fv b=true<->b≠h/\b≠Mn/\b≠Mm/\fv.ownBlock≠some b:=by
 unfold xh;rw[ah,ah,ah,bT,bT,bT,bT,aD,aD,aD,aD,lF,lF]
abbrev nh(h Mn Mm g M:Nat)(vs vp fv:Value):Nat->Bool:=nr (xh h Mn Mm fv) g M vs vp
theorem tu{h Mn Mm g M:Nat}{vs vp fv:Value}{b:Nat}:nh h Mn Mm g M vs vp fv b=true<->nr mM g M vs vp b=true/\b≠h/\b≠Mn/\b≠Mm/\fv.ownBlock≠some b:=by
 unfold nh;rw[kz,kz,LF];constructor;·rintro⟨a,b,c,d,e⟩;exact⟨⟨a,b,c,d,rfl⟩,e⟩
 ·rintro⟨⟨a,b,c,d,_⟩,e⟩;exact⟨a,b,c,d,e⟩
def nb(B h Mn Mm g M:Nat)(vs vp fv:Value):Nat->Bool:=λb=>nh h Mn Mm g M vs vp fv b&&dP B b
theorem xB{B h Mn Mm g M:Nat}{vs vp fv:Value}{b:Nat}:nb B h Mn Mm g M vs vp fv b=true<->nh h Mn Mm g M vs vp fv b=true/\B<=b:=by
 unfold nb;rw[ah];exact zm λ_=>vU
theorem uZ{B h Mn Mm g M:Nat}{vs vp fv vs' mK Dx:Value}{w w':World}(a:∀b,nh h Mn Mm g M vs vp fv b=true->b<w.heap.size->nh h Mn Mm g M vs' mK Dx b=true/\w'.heap[b]?=w.heap[b]?)(b:Nat)(hb:nb B h Mn Mm g M vs vp fv b=true)(c:b<w.heap.size):nb B h Mn Mm g M vs' mK Dx b=true/\w'.heap[b]?=w.heap[b]?:=
 ⟨xB.2 ⟨(a b (xB.1 hb).1 c).1,(xB.1 hb).2⟩,(a b (xB.1 hb).1 c).2⟩
def sG(pat:T)(pA:Option Addr)(pc:Nat)(bv:Value)(g:Nat)(pv:Value)(Mn Mm:Nat)(fv:Value):List Value:=
 [.int .i64 pat.aA,.string pat.aI,.slice pA pat.ay.length pc,bv,.pointer (some ⟨g,0,none⟩),pv,.map (some Mn),.map (some Mm),fv]
structure Cy (pat:T) (b:List Bd) (P:List T) (NM:List ByteArray) (pA:Option Addr) (pc:Nat) (bv pv:Value) (B h Mn Mm g M:Nat) (w:World) (vs vp fv:Value) (W:List fG) (x:LG):Prop where
 Jg:gz (xh h Mn Mm fv) B w g M vs vp W
 box:gU w h 167 (sG pat pA pc bv g pv Mn Mm fv)
 names:ou w Mn NM
 met:ou w Mm x.met
 gP:fZ oC (nb B h Mn Mm g M vs vp fv) B w fv x.gP
 low:B<=h/\B<=Mn/\B<=Mm
 sep:nr mM g M vs vp h=true/\nr mM g M vs vp Mn=true/\nr mM g M vs vp Mm=true/\h≠Mn/\h≠Mm/\Mn≠Mm
 qy:∀k,fv.ownBlock=some k->nr mM g M vs vp k=true/\k≠h/\k≠Mn/\k≠Mm
 Jl:bI (nh h Mn Mm g M vs vp fv) w (.agg #[.int .i64 pat.aA,.string pat.aI,.slice pA pat.ay.length pc]) pat
 wL:Bf (nh h Mn Mm g M vs vp fv) w bv b
 prt:jU oC (nb B h Mn Mm g M vs vp fv) w pv P
structure Gc (B h Mn Mm g M:Nat) (w:World) (vs vp fv:Value) (w':World) (vs' mK Dx:Value):Prop where
 below:Below B w w'
 size:w.heap.size<=w'.heap.size
 aR:∀b,nh h Mn Mm g M vs vp fv b=true->b<w.heap.size->nh h Mn Mm g M vs' mK Dx b=true/\w'.heap[b]?=w.heap[b]?
section
variable {B h Mn Mm g M:Nat} {w w' w'':World} {vs vp fv vs' mK Dx Vv Vu Rw:Value}
theorem Gc.refl(B h Mn Mm g M:Nat)(w:World)(vs vp fv:Value):Gc B h Mn Mm g M w vs vp fv w vs vp fv:=⟨aC _ _,ax _,λ_ hb _=>⟨hb,rfl⟩⟩
theorem Gc.t(k:Gc B h Mn Mm g M w vs vp fv w' vs' mK Dx)(k':Gc B h Mn Mm g M w' vs' mK Dx w'' Vv Vu Rw):Gc B h Mn Mm g M w vs vp fv w'' Vv Vu Rw:=
 ⟨k.below.t k'.below,aG k.size k'.size,λb hb a=>by
   obtain⟨c,d⟩:=k.aR b hb a;obtain⟨e,f⟩:=k'.aR b c (dw a k.size);exact⟨e,f.t d⟩⟩
theorem Gc.Xo(k:Gc B h Mn Mm g M w vs vp fv w' vs' mK Dx):∀b,nb B h Mn Mm g M vs vp fv b=true->b<w.heap.size->nb B h Mn Mm g M vs' mK Dx b=true/\w'.heap[b]?=w.heap[b]?:=uZ k.aR
theorem Gc.ag(k:Gc B h Mn Mm g M w vs vp fv w' vs' mK Dx)(a:B<=w.heap.size)(hb:Below w'.heap.size w' w''):Gc B h Mn Mm g M w vs vp fv w'' vs' mK Dx:=
 k.t ⟨hb.m (aG a k.size),hb.size,λb c d=>⟨c,hb.block b d⟩⟩
variable {pat:T} {b:List Bd} {P:List T} {NM:List ByteArray} {pA:Option Addr} {pc:Nat} {bv pv:Value} {W:List fG} {x:LG}
theorem Cy.ag(k:Cy pat b P NM pA pc bv pv B h Mn Mm g M w vs vp fv W x)(hb:Below w.heap.size w w'):Cy pat b P NM pA pc bv pv B h Mn Mm g M w' vs vp fv W x:=
 ⟨k.Jg.ag hb,k.box.ag hb,k.names.ag hb,k.met.ag hb,k.gP.ag hb,k.low,k.sep,k.qy,k.Jl.aR λb a c=>⟨a,hb.block b c⟩,k.wL.aR λb a c=>⟨a,hb.block b c⟩,k.prt.ag hb⟩
theorem Cy.lt(k:Cy pat b P NM pA pc bv pv B h Mn Mm g M w vs vp fv W x):B<=w.heap.size:=k.Jg.lt.2
theorem Cy.Zu{W':List fG}(k:Cy pat b P NM pA pc bv pv B h Mn Mm g M w vs vp fv W x)(e:mI (xh h Mn Mm fv) B g M w vs vp W' w'):∃vs' mK,Cy pat b P NM pA pc bv pv B h Mn Mm g M w' vs' mK fv W' x/\Gc B h Mn Mm g M w vs vp fv w' vs' mK fv:=by
 obtain⟨vs',mK,e,a⟩:=e;obtain⟨m,n,o,p,r,s⟩:=k.sep;have i:=a.Fw h m k.box.lt;have kn:=a.Fw Mn n k.names.lt;have j:=a.Fw Mm o k.met.lt;have c:∀b,nh h Mn Mm g M vs vp fv b=true->b<w.heap.size->nh h Mn Mm g M vs' mK fv b=true/\w'.heap[b]?=w.heap[b]?:=λb hb f=>by
  obtain⟨t,u⟩:=tu.1 hb;obtain⟨c1,c2⟩:=a.Fw b t f;exact⟨tu.2 ⟨c1,u⟩,c2⟩
 have l:∀q,fv.ownBlock=some q->nr mM g M vs' mK q=true/\w'.heap[q]?=w.heap[q]?:=λq d=>a.Fw q (k.qy q d).1 (k.gP.block q d).2;refine⟨vs',mK,⟨e,i.2.t k.box,k.names.aR kn.2,k.met.aR j.2,?_,k.low,⟨i.1,kn.1,j.1,p,r,s⟩,λq d=>⟨(l q d).1,(k.qy q d).2⟩,k.Jl.aR c,k.wL.aR c,k.prt.aR (uZ c)⟩,⟨a.below,a.size,c⟩⟩;obtain⟨dE,v,y⟩:=k.gP;exact⟨dE,v.aR λb hb f=>by
  obtain⟨c1,c2⟩:=dL.1 hb;obtain⟨d1,d2⟩:=uZ c b c1 f;exact⟨dL.2 ⟨d1,c2⟩,d2⟩,pE y λb hb _=>(l b hb).2⟩
theorem Cy.Yl{key:ByteArray}(k:Cy pat b P NM pA pc bv pv B h Mn Mm g M w vs vp fv W x)(i:ou w' Mm (key::x.met))(a:w.grownBy w' (some Mm)):Cy pat b P NM pA pc bv pv B h Mn Mm g M w' vs vp fv W ⟨key::x.met,x.gP⟩/\Gc B h Mn Mm g M w vs vp fv w' vs vp fv:=by
 obtain⟨A,C,j,D,l,n⟩:=k.sep;have E:=k.met.lt;have d:∀b,nh h Mn Mm g M vs vp fv b=true->b<w.heap.size->nh h Mn Mm g M vs vp fv b=true/\w'.heap[b]?=w.heap[b]?:=λb hb c=>by
  obtain⟨F,G,H,o,I⟩:=tu.1 hb;exact⟨hb,a.block b c (λe=>o (aB e))⟩
 obtain⟨r,n2,t,u,_⟩:=kz.1 j;have c:=k.Jg.lt;have f:=k.Jg.apart;refine⟨⟨k.Jg.turn (λb hb c=>⟨(kz.1 hb).2.2.2.2,(d b hb c).2⟩) (λb hb=>?_) (λb hb=>k.Jg.fresh b (aG a.size hb)),k.box.grown a (λe=>l (aB e).symm),k.names.aR (a.block Mn k.names.lt (λe=>n (aB e))),i,?_,k.low,k.sep,k.qy,k.Jl.aR d,k.wL.aR d,k.prt.aR (uZ d)⟩,⟨(aC B w).grown a k.lt (λq v=>by have:=k.low.2.2;rw[<-aB v];exact this),a.size,d⟩⟩
 ·rcases hb with rfl|rfl|hb|hb;·exact a.block _ c.1 (λe=>r (aB e).symm)
  ·exact a.block _ f.m (λe=>n2 (aB e).symm)
  ·exact a.block _ (f.s b hb).2.1 (λe=>t abm)
  ·exact a.block _ (f.p b hb).2.1 (λe=>u abm)
 ·obtain⟨dE,y,z⟩:=k.gP;exact⟨dE,y.aR λb hb c=>⟨hb,(uZ d b (dL.1 hb).1 c).2⟩,pE z λb hb c=>a.block b c (λe=>(k.qy b hb).2.2.2 (aB e))⟩
theorem Cy.push{m cap c:Nat}{t:T}{u0 u1 u2:Value}{xs:List Value}(k:Cy pat b P NM pA pc bv pv B h Mn Mm g M w vs vp fv W x)(v:∃dE,oC.all (off (nb B h Mn Mm g M vs vp fv) fv.ownBlock) w dE x.gP/\xs=dE.flatten)(y:x.gP.length=m)(z:oC.fF (nb B h Mn Mm g M vs vp fv) w [u0,u1,u2] t)
 (l:w'.ownsRow B 29 3 (.slice (some ⟨c,0,none⟩) (m+1) cap) (m+1) (xs++[u0,u1,u2])) (n:gU w' h 167 (sG pat pA pc bv g pv Mn Mm (.slice (some ⟨c,0,none⟩) (m+1) cap)))
 (j:∀q,q<w.heap.size->q≠h->fv.ownBlock≠some q->w'.heap[q]?=w.heap[q]?) (A:Below B w w') (C:w.heap.size<=w'.heap.size) (o:fv.ownBlock=some c\/w.heap.size<=c):
 Cy pat b P NM pA pc bv pv B h Mn Mm g M w' vs vp (.slice (some ⟨c,0,none⟩) (m+1) cap) W ⟨x.met,x.gP++[t]⟩/\Gc B h Mn Mm g M w vs vp fv w' vs vp (.slice (some ⟨c,0,none⟩) (m+1) cap):=by
 obtain⟨s1,s2,X,D,E,Y⟩:=k.sep;have d:=k.Jg.lt;have i:=k.Jg.apart;have F:∀q,q<w.heap.size->fv.ownBlock≠some q->c≠q:=λq a G e=>by
  rcases o with f|f;·exact G (by rw[f,e])
  ·omega
 have kk:∀b,nh h Mn Mm g M vs vp fv b=true->b<w.heap.size->nh h Mn Mm g M vs vp (.slice (some ⟨c,0,none⟩) (m+1) cap) b=true/\w'.heap[b]?=w.heap[b]?:=λb hb d=>by
  obtain⟨H,a2,a3,a4,a5⟩:=tu.1 hb;exact⟨tu.2 ⟨H,a2,a3,a4,λe=>F b d a5 (aB e)⟩,j b d a2 a5⟩
 have r:∀q,(q=g\/q=M\/vs.ownBlock=some q\/vp.ownBlock=some q)->q≠h/\fv.ownBlock≠some q:=λq a=>by
  obtain⟨I,n2,n3,J,_⟩:=kz.1 s1;refine⟨λe=>?_,λe=>?_⟩
  ·subst e;rcases a with a|a|a|a;·exact I a
   ·exact n2 a
   ·exact n3 a
   ·exact J a
  ·obtain⟨K,L,N,O,_⟩:=kz.1 (k.qy q e).1;rcases a with a|a|a|a;·exact K a
   ·exact L a
   ·exact N a
   ·exact O a
 have Q:∀q,(q=g\/q=M\/vs.ownBlock=some q\/vp.ownBlock=some q)->q<w.heap.size:=λq a=>by
  rcases a with rfl|rfl|a|a;·exact d.1
  ·exact i.m
  ·exact(i.s q a).2.1
  ·exact(i.p q a).2.1
 have R:=l.lt c rfl;have S:nr mM g M vs vp c=true/\c≠h/\c≠Mn/\c≠Mm:=by
  rcases o with f|f;·exact k.qy c f
  ·refine⟨kz.2 ⟨aaz d.1,aaz i.m,λe=>aaz ((i.s c e).2.1),λe=>aaz ((i.p c e).2.1),rfl⟩,aaz k.box.lt,aaz k.names.lt,aaz k.met.lt⟩
 refine⟨⟨k.Jg.turn (λb hb d=>?_) (λq a=>j q (Q q a) (r q a).1 (r q a).2) (λq a=>?_),n,k.names.aR (j Mn k.names.lt (jR D) (λe=>(k.qy Mn e).2.2.1 rfl)),k.met.aR (j Mm k.met.lt (jR E) (λe=>(k.qy Mm e).2.2.2 rfl)),?_,k.low,k.sep,λq a=>by rw[<-aB a];exact S,k.Jl.aR kk,k.wL.aR kk,k.prt.aR (uZ kk)⟩,⟨A,C,kk⟩⟩
 ·obtain⟨U,V⟩:=kk b hb d;exact⟨(kz.1 U).2.2.2.2,V⟩
 ·refine LF.2 ⟨aaz n.lt,aaz k.names.lt,aaz k.met.lt,λe=>by have Z:c=q:=aB e;have:=R.2;omega⟩
 ·obtain⟨dE,f,rfl⟩:=v;refine⟨dE++[[u0,u1,u2]],?_,?_⟩
  ·have u:∀b,nb B h Mn Mm g M vs vp fv b=true->b<w.heap.size->off (nb B h Mn Mm g M vs vp (.slice (some ⟨c,0,none⟩) (m+1) cap)) (some c) b=true/\w'.heap[b]?=w.heap[b]?:=λb hb d=>by
    obtain⟨c1,c2⟩:=uZ kk b hb d;exact⟨dL.2 ⟨c1,λe=>(tu.1 (xB.1 c1).1).2.2.2.2 e⟩,c2⟩
   exact(f.aR λb hb d=>u b (dL.1 hb).1 d).push (oC.aR z u)
  ·have e:([[u0,u1,u2]]:List (List Value)).flatten=[u0,u1,u2]:=rfl;rw[aF,y,pM,e];exact l
def GM(U K:List T)(W:List fG):Prop:=Inv U W/\Wb.Sound (Wb.Part W) W/\∀x,Wb.Part W x<->An (· ∈K) x
def YA(pat:T)(b:List Bd)(P:List T)(NM:List ByteArray)(pA:Option Addr)(pc:Nat)(bv pv:Value)(B h Mn Mm g M:Nat)(U K:List T)(w:World)(vs vp fv:Value)(a:LG)(w':World):Prop:=
 ∃vs' mK Dx W',GM U K W'/\Cy pat b P NM pA pc bv pv B h Mn Mm g M w' vs' mK Dx W' a/\Gc B h Mn Mm g M w vs vp fv w' vs' mK Dx
end
end
section
open Go.RowKit T
attribute [local go_sem ↓] Go.wp_at_zero Go.wp_at_succ
theorem R5{pat:T}{b:List Bd}{P:List T}{x:LG}{t:T}(h:aQ.oM x.met t.key=true):aQ.offer pat b P x t=x:=by unfold aQ.offer;rw[aJ h]
theorem UF{pat:T}{b:List Bd}{P:List T}{x:LG}{t:T}(h:aQ.oM x.met t.key=false)(a:aQ.accept pat b P t=false):aQ.offer pat b P x t=⟨t.key::x.met,x.gP⟩:=by unfold aQ.offer;rw[aH (by rw[h];simp),aH (by rw[a];simp)]
theorem R7{pat:T}{b:List Bd}{P:List T}{x:LG}{t:T}(h:aQ.oM x.met t.key=false)(a:aQ.accept pat b P t=true):aQ.offer pat b P x t=⟨t.key::x.met,x.gP++[t]⟩:=by unfold aQ.offer;rw[aH (by rw[h];simp),aJ a]
theorem R4{B h m a cap cf g Mn Mm pc:Nat}{b pA:Option Addr}{pat:T}{bv pv:Value}{w w6:World}{xs:List Value}(c:w6.ownsRow B 29 3 (.slice (some ⟨a,0,none⟩) (m+1) cap) (m+1) (xs++[.int .i64 0,.string ⟨#[]⟩,.slice none 0 0]))(n:w.grownBy w6 (Value.slice b m cf).ownBlock)
 (o:(Value.slice b m cf).ownBlock=some a\/a=w.heap.size) (hb:gU w h 167 (sG pat pA pc bv g pv Mn Mm (.slice b m cf))) (i:(Value.slice b m cf).ownBlock≠some h):
 w6.cell? ⟨h,8,none⟩=some (.slice b m cf)/\w6.frozen? ⟨h,8,none⟩=false/\w6.cell? ⟨a,m*3,none⟩=some (.int .i64 0)/\w6.cell? ⟨a,m*3+1,none⟩=some (.string ⟨#[]⟩)/\w6.cell? ⟨a,m*3+2,none⟩=some (.slice none 0 0)/\
   w6.frozen? ⟨a,m*3,none⟩=false/\w6.frozen? ⟨a,m*3+1,none⟩=false/\w6.frozen? ⟨a,m*3+2,none⟩=false/\a≠h/\h≠a:=by
 have j:=hb.grown n i;have k:a≠h:=λe=>by
  rcases o with l|l;·exact i (by rw[l,e])
  ·have:=hb.lt;omega
 have d:xs.length=m*3:=(by have:=c.1;simp at this;omega);have f:=λr (p:r<3)=>c.cellAt (m*3+r) aar;refine⟨j.cell 8 rfl,j.free 8,?_,?_,?_,c.frozenAt _,c.frozenAt _,c.frozenAt _,k,jR k⟩
 ·have:=f 0 aar;rw[bq aar,d]at this;simpa using this
 ·have:=f 1 aar;rw[bq aar,d]at this;simpa using this
 ·have:=f 2 aar;rw[bq aar,d]at this;simpa using this
theorem Vd(xs:List Value)(a b c u0 u1 u2:Value):(((xs++[a,b,c]).set xs.length u0).set (xs.length+1) u1).set (xs.length+2) u2=xs++[u0,u1,u2]:=by
 rw[lM _ _ (ax _),qR,lM _ _ aar,lM _ _ aaF];simp
theorem Kg{w:World}{B d m n cap:Nat}{e:TypeId}{xs:List Value}{a b c:Value}(h:w.ownsRow B e 3 (.slice (some ⟨d,0,none⟩) n cap) n (xs++[a,b,c]))(f:xs.length=m*3)(u0 u1 u2:Value):
 (((w.setCell ⟨d,m*3,none⟩ u0).setCell ⟨d,m*3+1,none⟩ u1).setCell ⟨d,m*3+2,none⟩ u2).ownsRow B e 3 (.slice (some ⟨d,0,none⟩) n cap) n (xs++[u0,u1,u2]):=by
 have g:=(((h.stored (m*3) u0).1.stored (m*3+1) u1).1.stored (m*3+2) u2).1;rw[<-f,Vd]at g;rw[<-f];exact g
theorem pV{pat:T}{b:List Bd}{P:List T}{NM:List ByteArray}{pA c:Option Addr}{pc cf m cap a:Nat}{bv pv:Value}{B h Mn Mm g M:Nat}{w5 w6 Wd:World}{vs vp:Value}{W:List fG}{met:List ByteArray}{gP:List T}{dE:List (List Value)}{t:T}{u0 u1 u2 z0 I z2:Value}{o:Obj}
 (k:Cy pat b P NM pA pc bv pv B h Mn Mm g M w5 vs vp (.slice c m cf) W ⟨met,gP⟩) (z:gP.length=m) (A:oC.all (off (nb B h Mn Mm g M vs vp (.slice c m cf)) (Value.slice c m cf).ownBlock) w5 dE gP) (J:oC.fF (nb B h Mn Mm g M vs vp (.slice c m cf)) w5 [u0,u1,u2] t)
 (u:w6.ownsRow B 29 3 (.slice (some ⟨a,0,none⟩) (m+1) cap) (m+1) (dE.flatten++[z0,I,z2])) (r:(w5.alloc o).drew.grownBy w6 (Value.slice c m cf).ownBlock) (v:(Value.slice c m cf).ownBlock=some a\/a=(w5.alloc o).drew.heap.size) (i:a≠h)
 (K:Wd=((((w6.setCell ⟨a,m*3,none⟩ u0).setCell ⟨a,m*3+1,none⟩ u1).setCell ⟨a,m*3+2,none⟩ u2).setCell ⟨h,8,none⟩ (.slice (some ⟨a,0,none⟩) (m+1) cap))\/Wd=((((w6.setCell ⟨h,8,none⟩ (.slice (some ⟨a,0,none⟩) (m+1) cap)).setCell ⟨a,m*3,none⟩ u0).setCell ⟨a,m*3+1,none⟩ u1).setCell ⟨a,m*3+2,none⟩ u2)):
 Cy pat b P NM pA pc bv pv B h Mn Mm g M Wd vs vp (.slice (some ⟨a,0,none⟩) (m+1) cap) W ⟨met,gP++[t]⟩/\Gc B h Mn Mm g M w5 vs vp (.slice c m cf) Wd vs vp (.slice (some ⟨a,0,none⟩) (m+1) cap):=by
 have s:(w5.alloc o).grownBy w6 (Value.slice c m cf).ownBlock:=⟨r.os,r.tape,r.output,r.size,r.block⟩;change(Value.slice c m cf).ownBlock=some a\/a=(w5.alloc o).heap.size at v;have X:=aK w5 o;have w:Below w5.heap.size w5 (w5.alloc o):=ae w5 o;have L:(Value.slice c m cf).ownBlock≠some h:=λe=>(k.qy h e).2.1 rfl;have C:=(k.box.ag w).grown s L;have D:dE.flatten.length=m*3:=(by have:=A.MB;rw[z]at this;exact this);have E:=k.low.1;have N:=k.gP.block;have l:B<=a:=(u.lt a rfl).1;have F:Below B w5 w6:=((aC B w5).t (w.m k.lt)).grown s (aaz k.lt) (λq j=>(N q j).1);have G:w5.heap.size<=w6.heap.size:=(aaz s.size);have H:∀q,q<w5.heap.size->(Value.slice c m cf).ownBlock≠some q->w6.heap[q]?=w5.heap[q]?:=λq j x=>(s.block q aar (λe=>x e.symm)).t (w.block q j);have n:∀q,q<w5.heap.size->(Value.slice c m cf).ownBlock≠some q->q≠a:=λq j x e=>by
  rcases v with d|d;·exact x (by rw[d,e])
  ·omega
 have O:(Value.slice c m cf).ownBlock=some a\/w5.heap.size<=a:=v.imp id (λe=>aar);have key:Wd.ownsRow B 29 3 (.slice (some ⟨a,0,none⟩) (m+1) cap) (m+1) (dE.flatten++[u0,u1,u2])/\gU Wd h 167 (sG pat pA pc bv g pv Mn Mm (.slice (some ⟨a,0,none⟩) (m+1) cap))/\
  (∀q,q<w5.heap.size->q≠h->(Value.slice c m cf).ownBlock≠some q->Wd.heap[q]?=w5.heap[q]?)/\Below B w5 Wd/\w5.heap.size<=Wd.heap.size:=by
  rcases K with rfl|rfl
  ·refine⟨pE (Kg u D u0 u1 u2) λq j _=>aL _ _ _ _ (by rw[<-aB j];exact i),?_,λq d y f=>?_,?_,?_⟩;·exact(((C.setOther (p:=⟨a,m*3,none⟩) (jR i) u0).setOther (p:=⟨a,m*3+1,none⟩) (jR i) u1).setOther (p:=⟨a,m*3+2,none⟩) (jR i) u2).set 8 _
   ·rw[aL _ _ _ _ y,aL _ _ _ _ (n q d f),aL _ _ _ _ (n q d f),aL _ _ _ _ (n q d f)];exact H q d f
   ·exact(((F.setCell (p:=⟨a,m*3,none⟩) l u0).setCell (p:=⟨a,m*3+1,none⟩) l u1).setCell (p:=⟨a,m*3+2,none⟩) l u2).setCell (p:=⟨h,8,none⟩) E _
   ·simp only[World.setCell,l6];exact G
  ·refine⟨Kg (pE u λq j _=>aL _ _ _ _ (by rw[<-aB j];exact i)) D u0 u1 u2,?_,λq d y f=>?_,?_,?_⟩;·exact((((C.set 8 _).setOther (p:=⟨a,m*3,none⟩) (jR i) u0).setOther (p:=⟨a,m*3+1,none⟩) (jR i) u1).setOther (p:=⟨a,m*3+2,none⟩) (jR i) u2)
   ·rw[aL _ _ _ _ (n q d f),aL _ _ _ _ (n q d f),aL _ _ _ _ (n q d f),aL _ _ _ _ y];exact H q d f
   ·exact(((F.setCell (p:=⟨h,8,none⟩) E _).setCell (p:=⟨a,m*3,none⟩) l u0).setCell (p:=⟨a,m*3+1,none⟩) l u1).setCell (p:=⟨a,m*3+2,none⟩) l u2
   ·simp only[World.setCell,l6];exact G
 obtain⟨Q,R,S,U,V⟩:=key;exact k.push ⟨dE,A,rfl⟩ z J Q R S U V O
theorem acm{p:Prop}(h:p:=by
 (go_simp;refine rY a ?_;clear a K);refine dD aas ?_ _;have z:=aa (λWd c=>pV (Wd:=Wd) D.o Y.o Z.o ah.o j l n o c);clear hHeld j l n ak p8 av ax az aD aF aG aH o aJ;go_wp2_with fail;go_end0;rw[E.o];exact⟨rfl,F,G,_,_,I.o,uQ id (λf=>H.o.t f) (z.o _ abo)⟩):p:=h
theorem acr{p:Prop}(h:p:=by
 (go_simp;refine rY a ?_;clear a K);refine yS 12 λK a=>?_;exact acm):p:=h
theorem aco{p:Prop}(h:p:=by
 (go_simp;refine rY a ?_;clear a K);refine iB (rs:=[9,11]) aas aau (LH 9 (λK a=>?_) ((LH 11 (λK a=>?_) (gq.nil))))
 ·(go_simp;refine rY a ?_;clear a K);refine yS 11 λK a=>?_;exact acr
 ·(go_simp;refine rY a ?_;clear a K);refine iB (rs:=[9,12]) aas aau (LH 9 (λK a=>?_) ((LH 12 (λK a=>?_) (gq.nil))))
  ·exact acr
  ·(go_simp;refine rY a ?_;clear a K);refine yS 9 λK a=>?_;exact acm):p:=h
theorem UI{U K:List T}(hU:yB U)(bL:∀t∈U,t.bE<=1048576)(a:∀t∈K,t.use=true)(bM:K.length<=1000){pat:T}{b:List Bd}{NM:List ByteArray}{pA:Option Addr}{pc:Nat}{bv pv:Value}{B h Mn Mm g M:Nat}{vs vp fv:Value}{W:List fG}{x:LG}
 (hL:b.length<=900000) (bN:∀y∈b,y.t.bE<=1048576) (bO:pat.bE<=1048576) (t:T) (v:Value) (w:World) (k:Cy pat b (aQ.parts K) NM pA pc bv pv B h Mn Mm g M w vs vp fv W x) (c:GM U K W) (ht:bI (nb B h Mn Mm g M vs vp fv) w v t) (aN:t.bE<=1048576) (aX:t.use=true->t∈U)
 (bP:x.met.length<=1048576) (bQ:x.gP.length<=1048576):
 Calls Tryz.prog 113 #[.pointer (some ⟨h,0,none⟩),v] w λe w'=>e=.returned (.tuple #[])/\YA pat b (aQ.parts K) NM pA pc bv pv B h Mn Mm g M U K w vs vp fv (aQ.offer pat b (aQ.parts K) x t) w':=by
 obtain⟨A,cap,rfl⟩:=ht.view;have aY:=ae w (.cells #[.int .i64 t.aA,.string t.aI,.slice A t.ay.length cap] 29);have bx:=jy.new w (.int .i64 t.aA) (.string t.aI) (.slice A t.ay.length cap);have bR:nh h Mn Mm g M vs vp fv w.heap.size=true:=by
  refine tu.2 ⟨kz.2 ⟨aaz k.Jg.lt,aaz k.Jg.apart.m,λe=>aaz ((k.Jg.apart.s _ e).2.1),λe=>aaz ((k.Jg.apart.p _ e).2.1),rfl⟩,aaz k.box.lt,aaz k.names.lt,aaz k.met.lt,λe=>aaz ((k.gP.block _ e).2)⟩
 obtain⟨bS,bi,bT,bU,HM⟩:=aae (k.ag aY) (ht.aR (S':=nb B h Mn Mm g M vs vp fv) λb hb hl=>⟨hb,aY.block b hl⟩) ((Gc.refl B h Mn Mm g M w vs vp fv).ag k.lt aY) ((λW' h=>(show Calls Tryz.prog 95 #[.agg #[.int .i64 t.aA,.string t.aI,.slice A t.ay.length cap]] W' λe w'=>e=.returned (.string t.key)/\Below W'.heap.size W' w' from DV t _ W' h aN))) (λv1 v2 v3 W' h1 h2 h3=>QB pat t b v1 v2 v3 W' h1 h2 h3 hL bN bO aN);have dB:=t.Ig aN;obtain⟨aZ,aO,bf⟩:=aac (R5 (pat:=pat) (b:=b) (P:=aQ.parts K) (x:=x) (t:=t)) (UF (pat:=pat) (b:=b) (P:=aQ.parts K) (x:=x) (t:=t)) (R7 (pat:=pat) (b:=b) (P:=aQ.parts K) (x:=x) (t:=t));obtain⟨R,hR⟩:=aay (aQ.offer pat b (aQ.parts K) x t);rw[hR]at aZ aO bf⊢;obtain⟨bn,bV,bq,bu,dC⟩:=aae ((show aQ.accept pat b (aQ.parts K) t=((oz pat t b).isSome&&aQ.can (aQ.parts K) t)from rfl)) (TF a bM hU c.1 c.2.1 c.2.2 aX) (VM hU aX c.1 c.2.1) c ((λv1 W' vs' mK (hw:gz (xh h Mn Mm fv) B W' g M vs' mK W) (hT:bI (nr (xh h Mn Mm fv) g M vs' mK) W' v1 t)=>X9 (X:=xh h Mn Mm fv) hU bL (B:=B) (g:=g) (M:=M) t v1 W' c.1 hw hT aN aX));obtain⟨key,bW⟩:=aay t.key;rw[bW]at bU aZ aO bf dB;obtain⟨md,bz⟩:=aay (aQ.oM x.met key);rw[bz]at aZ aO bf;obtain⟨dF,bX,bA,aP⟩:=aad bz (And.intro bP bQ) bR k.lt;clear aY k ht hR bW c hL bN bO aN aX a bM bP bQ bz bR hU bL;go_enter Tryz.func113,Tryz.ntmps113;go_upto_region 1 with fail;generalize w.alloc _=w1 at bx bS bi bT⊢;obtain⟨C,bY⟩:=aay w.heap.size;rw[bY]at bx bA⊢;clear bY;obtain⟨x0,x1,x2⟩:=bx.cells;have BX:=aa bx;clear bx;go_wp2_with fail;refine(bU.o w1 bi.o.at).m ?_;rintro e w2 ⟨rfl,aS⟩;obtain⟨aT,dH,bZ,dI⟩:=aad (bS.o.ag aS) (bi.o.aR (S':=nb B h Mn Mm g M vs vp fv) λb hb hl=>⟨hb,aS.block b hl⟩) (bT.o.ag aP.o aS) (BX.o.ag aS);clear aS x0 x1 x2;have dJ:=aT.o.met.look key aaS;rw[dF.o]at dJ;have m7:=aT.o.box.cell 7 (u:=.map (some Mm)) rfl;cases md with
 |true=>
  have dK:=aa (aZ.o rfl);go_wp2_with fail;refine aV (v:=.tuple #[]) (by simp[results,Tryz.results113,go_sem]) rfl ?_;exact⟨rfl,by rw[dK.o];exact⟨vs,vp,fv,W,bu.o,aT.o,bZ.o⟩⟩
 |false=>
  obtain⟨w3,eu,cu,bB⟩:=aT.o.met.put (by have:=bX.o.1;unfold maxLen;omega) key aaS;obtain⟨k3,f3⟩:=aT.o.Yl cu bB;obtain⟨J,cz,bC⟩:=aac k3 (bZ.o.t f3) (dH.o.aR f3.Xo);have cK:=aa (dI.o.grown bB (λe=>by have:=(tu.1 bA.o).2.2.2.1;exact this (aB e).symm));clear cu bB k3 f3;go_upto_region 4 with fail;have c0:=J.o.box.cell 0 (u:=.int .i64 pat.aA) rfl;have c1:=J.o.box.cell 1 (u:=.string pat.aI) rfl;have c2:=J.o.box.cell 2 (u:=.slice pA pat.ay.length pc) rfl;have c3:=J.o.box.cell 3 (u:=bv) rfl;obtain⟨L,N,O⟩:=cK.o.cells;cases aU:oz pat t b with
  |none=>
   have E:=aa (aO.o abn (by rw[bn.o,aU];rfl));rw[aU]at HM;clear aU;refine dm (S:=(λd=>d.cell? ⟨h,0,none⟩=some (.int .i64 pat.aA)/\d.cell? ⟨h,1,none⟩=some (.string pat.aI)/\d.cell? ⟨h,2,none⟩=some (.slice pA pat.ay.length pc)/\d.cell? ⟨h,3,none⟩=some bv/\d.cell? ⟨C,0,none⟩=some (.int .i64 t.aA)/\d.cell? ⟨C,1,none⟩=some (.string t.aI)/\d.cell? ⟨C,2,none⟩=some (.slice A t.ay.length cap)/\Below w3.heap.size w3 d)) aas (show _/\_/\_/\_/\_/\_/\_/\_ from⟨c0,c1,c2,c3,L,N,O,(aC _ w3).drew⟩) (λhHeld=>?_);refine dz 0 _ ?_;refine dz 1 _ ?_;refine dz 2 _ ?_;refine dz 3 _ ?_;refine dz 4 _ ?_;refine dz 5 _ ?_;refine dz 6 _ ?_;refine dz 7 _ ?_;refine dz 8 _ ?_;(refine yR 9 λK a=>?_;go_simp;go_at_call 118;refine(HM.o _ _ _ _ (J.o.ag hHeld.2.2.2.2.2.2.2).Jl.at (bC.o.aR (S':=λ_=>true) λb hb hl=>⟨rfl,(hHeld.2.2.2.2.2.2.2).block b hl⟩).at (J.o.ag hHeld.2.2.2.2.2.2.2).wL.at).m ?_;rintro e wz ⟨bD,he⟩;obtain⟨v6,rfl⟩:=(show ∃v,e=.returned (.tuple #[v,.bool false])from he);refine mZ a (Cm hHeld bD) λhHeld=>?_;clear a K);refine dz 10 _ ?_;refine dz 11 _ ?_;refine dz 12 _ ?_;refine dz 13 _ ?_;refine dz 14 _ ?_;refine fB aas ?_ _;obtain⟨bg,bF⟩:=aab (J.o.ag hHeld.2.2.2.2.2.2.2) (cz.o.ag aP.o hHeld.2.2.2.2.2.2.2);clear hHeld c0 c1 c2 c3 L N O he;go_upto_region 5 with fail;go_quiet (fail);go_wp2_with fail;go_end0;exact⟨rfl,by rw[E.o];exact⟨vs,vp,fv,W,bu.o,bg.o.ag (rz nq (aC _ _)),bF.o.ag aP.o (rz nq (aC _ _))⟩⟩
  |some y=>
   rw[aU]at HM bn;clear aU;refine dm (S:=(λd=>d.cell? ⟨h,0,none⟩=some (.int .i64 pat.aA)/\d.cell? ⟨h,1,none⟩=some (.string pat.aI)/\d.cell? ⟨h,2,none⟩=some (.slice pA pat.ay.length pc)/\d.cell? ⟨h,3,none⟩=some bv/\d.cell? ⟨C,0,none⟩=some (.int .i64 t.aA)/\d.cell? ⟨C,1,none⟩=some (.string t.aI)/\d.cell? ⟨C,2,none⟩=some (.slice A t.ay.length cap)/\Below w3.heap.size w3 d)) aas (show _/\_/\_/\_/\_/\_/\_/\_ from⟨c0,c1,c2,c3,L,N,O,(aC _ w3).drew⟩) (λhHeld=>?_);refine dz 0 _ ?_;refine dz 1 _ ?_;refine dz 2 _ ?_;refine dz 3 _ ?_;refine dz 4 _ ?_;refine dz 5 _ ?_;refine dz 6 _ ?_;refine dz 7 _ ?_;refine dz 8 _ ?_;(refine yR 9 λK a=>?_;go_simp;go_at_call 118;refine(HM.o _ _ _ _ (J.o.ag hHeld.2.2.2.2.2.2.2).Jl.at (bC.o.aR (S':=λ_=>true) λb hb hl=>⟨rfl,(hHeld.2.2.2.2.2.2.2).block b hl⟩).at (J.o.ag hHeld.2.2.2.2.2.2.2).wL.at).m ?_;rintro e wz ⟨bD,he⟩;obtain⟨v6,rfl,_⟩:=(show ∃v,e=.returned (.tuple #[v,.bool true])/\Bf (dP _) wz v y from he);refine mZ a (Cm hHeld bD) λhHeld=>?_;clear a K);refine dz 10 _ ?_;refine dz 11 _ ?_;refine dz 12 _ ?_;refine dz 13 _ ?_;refine dz 14 _ ?_;refine fB aas ?_ _;obtain⟨bg,bF,dL,cO⟩:=aad (J.o.ag hHeld.2.2.2.2.2.2.2) (cz.o.ag aP.o hHeld.2.2.2.2.2.2.2) (bC.o.aR (S':=nb B h Mn Mm g M vs vp fv) λb hb hl=>⟨hb,hHeld.2.2.2.2.2.2.2.block b hl⟩) (cK.o.ag hHeld.2.2.2.2.2.2.2);clear hHeld c0 c1 c2 c3 L N O he;have c4:=bg.o.box.cell 4 (u:=.pointer (some ⟨g,0,none⟩)) rfl;obtain⟨L,N,O⟩:=cO.o.cells;go_upto_region 5 with fail;obtain⟨df,dh,dM,dn⟩:=aad (dL.o.aR (w':=wz.drew) (S':=nb B h Mn Mm g M vs vp fv) λb hb _=>⟨hb,rfl⟩) (bg.o.ag (aC _ _).drew) (bF.o.ag aP.o (aC _ _).drew) (cO.o.ag (aC _ _).drew);have Q:=aa (dC.o _ wz.drew vs vp dh.o.Jg (df.o.aR λq hq _=>⟨(xB.1 hq).1,rfl⟩));obtain⟨cb,dw⟩:=aay (Hd W t);rw[dw]at Q bV;have dx:=aa (show aQ.accept pat b (aQ.parts K) t=cb by rw[bn.o,<-bV.o];simp);clear dw;go_still_tail 7,aas;change wpList _ _ _ _ _ wz.drew;go_wp2_with fail;refine Q.o.m ?_;rintro e r ⟨rfl,dA⟩;obtain⟨F,G,k5,f5⟩:=dh.o.Zu dA;obtain⟨D,H,dN,dO,I⟩:=aae k5 (dM.o.t f5) (df.o.aR f5.Xo) ((f5.aR C bA.o dn.o.lt).2.t dn.o) (show GM U K (He W t)from⟨bq.o.1,bq.o.2.1,λx=>(bq.o.2.2 x).t (bu.o.2.2 x)⟩);clear dA k5 f5 c4 L N O Q;cases cb with
   |false=>
    have E:=aa (aO.o abn dx.o);go_wp2_with fail;go_end0;exact⟨rfl,by rw[E.o];exact⟨F,G,fv,_,I.o,D.o,H.o⟩⟩
   |true=>
    have E:=aa (bf.o abn dx.o);go_upto_region 6 with fail;obtain⟨i0,dR,dS,dV,dX⟩:=dU Tryz.uN;obtain⟨V,cf,dE,bG,bH,aW⟩:=D.o.gP.cells;obtain⟨m,hm⟩:=aay x.gP.length;replace bG:fv=.slice V m cf:=(by rw[bG];show Value.slice V x.gP.length cf=_;rw[hm]);subst bG;have aW:r.ownsRow B 29 3 (.slice V m cf) m dE.flatten:=by
     have h1:x.gP.length=m:=hm;simp only[h1]at aW;exact aW
    have c8:=D.o.box.cell 8 (u:=.slice V m cf) rfl;obtain⟨L,N,O⟩:=(show jy r C _ _ _ from dO.o).cells;have aL:=ae r (.cells #[.int .i64 0,.string ⟨#[]⟩,.slice none 0 0] 29);obtain⟨eB,HOWN⟩:=aab aL ((show(r.alloc (.cells #[.int .i64 0,.string ⟨#[]⟩,.slice none 0 0] 29)).ownsRow B 29 3 (.slice V m cf) m dE.flatten from dG aW aL));have dY:=aa (show ∀u∈([.int .i64 0,.string ⟨#[]⟩,.slice none 0 0]:List Value),u.oneCell'=true from λu hu=>by simp at hu;rcases hu with rfl|rfl|rfl<;>rfl);have dZ:=aa (show B<=(r.alloc (.cells #[.int .i64 0,.string ⟨#[]⟩,.slice none 0 0] 29)).heap.size by rw[aK];exact nZ D.o.lt);have eF:m<=1048576:=(by rw[<-hm];exact bX.o.2);have eG:(0:Int)<=(m:Int):=aar;have eH:(m:Int)<(m:Int)+1:=aar;have Y:=aa hm;have Z:=aa (show oC.all (off (nb B h Mn Mm g M F G (.slice V m cf)) (Value.slice V m cf).ownBlock) r dE x.gP from by have h1:x.gP.length=m:=hm;simp only[h1]at bH;exact bH);obtain⟨ah,d9⟩:=aab ((show oC.fF (nb B h Mn Mm g M F G (.slice V m cf)) r [.int .i64 t.aA,.string t.aI,.slice A t.ay.length cap] t from⟨A,cap,rfl,dN.o⟩)) (D.o.box.ag aL);obtain⟨q8,q0,q1,q2⟩:=aal aL c8 L N O;have ed:=aa (λe=>(D.o.qy h e).2.1 rfl);clear bH aW hm aL;have Q:=aa (show r.cell? ⟨h,8,none⟩=some (.slice V m cf)/\r.cell? ⟨C,0,none⟩=some (.int .i64 t.aA)/\r.cell? ⟨C,1,none⟩=some (.string t.aI)/\r.cell? ⟨C,2,none⟩=some (.slice A t.ay.length cap)/\Below r.heap.size r r from⟨c8,L,N,O,aC _ _⟩);clear c8 L N O;refine fT (S:=(λd=>d.cell? ⟨h,8,none⟩=some (.slice V m cf)/\d.cell? ⟨C,0,none⟩=some (.int .i64 t.aA)/\d.cell? ⟨C,1,none⟩=some (.string t.aI)/\d.cell? ⟨C,2,none⟩=some (.slice A t.ay.length cap)/\Below r.heap.size r d)) (λi=>if [7,8,9,10,11,12].contains i then 2 else 0) aas (show _/\_/\_/\_/\_ from⟨Q.o.1,Q.o.2.1,Q.o.2.2.1,Q.o.2.2.2.1,(aC _ r).drew⟩) (λhHeld=>?_);refine fA 0 _ ?_;refine fA 1 _ ?_;refine fA 2 _ ?_;refine fA 3 _ ?_;refine fA 4 _ ?_;refine fA 5 _ ?_;refine uO 6 λK a=>?_;(go_simp;(first|refine wH a (gW Q.o (iZ hHeld.2.2.2.2 _)) λg9 aM bJ bK=>?_|refine oW a (gW Q.o (iD hHeld.2.2.2.2 _)) λg9 aM bJ bK=>?_);have eO:=aa (show r.heap.size<=g9 by rw[<-aM];exact hHeld.2.2.2.2.size);replace hHeld:=bK;have ek:=aa bJ;(first|rw[aM]|(change r.heap.size=g9 at aM;subst aM));(try have eP:=aa aM);(try clear aM);clear a K bJ bK);refine yS 7 λK a=>?_;((refine dW _ aav _ _ _ aav B 29 i0 _ 3 48 cB dR dS dV dX rfl aar _ m _ aav HOWN.o ⟨_,0,none⟩ 1 1 [.int .i64 0,.string ⟨#[]⟩,.slice none 0 0] aav aav (cZ ek.o) dY.o aar aaS aar dZ.o _ rfl ?_;intro gf eQ w6 j l n ak;obtain⟨p8,av,ax,az,aD,aF,aG,aH,o,aJ⟩:=R4 j l n d9.o ed.o;go_simp);refine rY a ?_;clear a K);refine iB (rs:=[8,10]) aas aau (LH 8 (λK a=>?_) ((LH 10 (λK a=>?_) (gq.nil))))
    ·(go_simp;refine rY a ?_;clear a K);refine iB (rs:=[9,10]) aas aau (LH 9 (λK a=>?_) ((LH 10 (λK a=>?_) (gq.nil))))
     ·(go_simp;refine rY a ?_;clear a K);refine yS 10 λK a=>?_;(go_simp;refine rY a ?_;clear a K);refine yS 11 λK a=>?_;exact acr
     ·exact aco
    ·(go_simp;refine rY a ?_;clear a K);refine iB (rs:=[8,11]) aas aau (LH 8 (λK a=>?_) ((LH 11 (λK a=>?_) (gq.nil))))
     ·exact aco
     ·(go_simp;refine rY a ?_;clear a K);refine iB (rs:=[8,12]) aas aau (LH 8 (λK a=>?_) ((LH 12 (λK a=>?_) (gq.nil))))
      ·(go_simp;refine rY a ?_;clear a K);refine iB (rs:=[9,12]) aas aau (LH 9 (λK a=>?_) ((LH 12 (λK a=>?_) (gq.nil))))
       ·exact acr
       ·(go_simp;refine rY a ?_;clear a K);refine yS 9 λK a=>?_;exact acm
      ·(go_simp;refine rY a ?_;clear a K);refine yS 8 λK a=>?_;(go_simp;refine rY a ?_;clear a K);refine yS 9 λK a=>?_;exact acm
end
end Go.Proofs.YtaciciokmpbkkaaGreatDoor
