import Derived.Test.YtaciciokmpbkkaaGreatDoorWebG19
set_option maxRecDepth 100000
set_option maxHeartbeats 16000000
namespace Go.Proofs.YtaciciokmpbkkaaGreatDoor
section
open Go.RowKit T
attribute [local go_sem ↓] Go.wp_at_zero Go.wp_at_succ
theorem Hr(l:List iZ)(j:Nat)(h:j<l.length):aT.moves (l.take (j+1))=aT.moves (l.take j)+l[j].2.length:=by
 unfold aT.moves;rw[aV h,fZ,List.sum_append];simp
theorem MJ(l:List iZ)(j:Nat):aT.moves (l.take j)<=aT.moves l:=by
 unfold aT.moves;have e:(l.map λx=>x.2.length).sum=((l.take j).map λx=>x.2.length).sum+((l.drop j).map λx=>x.2.length).sum:=by
  rw[<-List.sum_append,<-fZ,ku]
 omega
theorem LD(l:List iZ)(j:Nat)(h:j<l.length):aT.err (l.drop j)=if mh l[j].1 l[j].2=0 then aT.err (l.drop (j+1)) else mh l[j].1 l[j].2:=by
 rw[dN h];rfl
theorem NI(K:List T)(j:Nat)(h:j<K.length):(K.take (j+1)).filter T.use=if K[j].use=true then (K.take j).filter T.use++[K[j]] else (K.take j).filter T.use:=by
 rw[aV h,qg];by_cases hu:K[j].use=true;·rw[aI hu];simp[hu]
 ·rw[aG hu];simp[hu]
theorem xU{w:World}{g:Nat}{ty:TypeId}{a b:Value}(h:iy w g ty [a,b])(x y:Value):((w.setCell ⟨g,0,none⟩ x).setCell ⟨g,1,none⟩ y).cell? ⟨g,0,none⟩=some x/\((w.setCell ⟨g,0,none⟩ x).setCell ⟨g,1,none⟩ y).cell? ⟨g,1,none⟩=some y:=by
 have c:=(h.set 0 x).set 1 y;exact⟨c.cell 0 rfl,c.cell 1 rfl⟩
theorem CO{w5 w8 w9 kP:World}{g5 m C3 cap4 g a:Nat}{F:List T}{x:T}{A A3:Option Addr}{xs:List Value}{ty:TypeId}{s z:Value}{o:Obj}(f:F.length=m)(h:CT (but (g5+1) (Value.slice A m a).ownBlock) w8 xs F)
 (d:∀k,(Value.slice A m a).ownBlock=some k->g5+1<=k/\k<w8.heap.size) (i:g5+1<=w8.heap.size) (hb:Below w8.heap.size w8 w9) (j:bN (eG w8.heap.size) w9 (.agg #[.int .i64 x.aC,.string x.aJ,.slice A3 x.ay.length C3]) x)
 (l:kP.ownsRow (g5+1) 29 3 (.slice (some ⟨g,0,none⟩) (m+1) cap4) (m+1) (xs++[.int .i64 x.aC,.string x.aJ,.slice A3 x.ay.length C3])) (c:(w9.alloc o).grownBy kP (Value.slice A m a).ownBlock)
 (n:(Value.slice A m a).ownBlock=some g\/g=(w9.alloc o).heap.size) (p:iy kP g5 ty [s,z]) (q:Below g5 w5 w8) (C:w5.heap.size<=w8.heap.size):
 iy (kP.setCell ⟨g5,1,none⟩ (.slice (some ⟨g,0,none⟩) (m+1) cap4)) g5 ty [s,.slice (some ⟨g,0,none⟩) (m+1) cap4]/\bK (kP.setCell ⟨g5,1,none⟩ (.slice (some ⟨g,0,none⟩) (m+1) cap4)) (g5+1) (.slice (some ⟨g,0,none⟩) (m+1) cap4) (F++[x])/\
  Below g5 w5 (kP.setCell ⟨g5,1,none⟩ (.slice (some ⟨g,0,none⟩) (m+1) cap4))/\w5.heap.size<=(kP.setCell ⟨g5,1,none⟩ (.slice (some ⟨g,0,none⟩) (m+1) cap4)).heap.size:=by
 subst f;have r:=bK.push (w:=w8) (w1:=w9) (w3:=kP) (v:=.slice A F.length a) (t:=x) h (λb e=>(d b e).2) i hb j l c (n.imp (λe=>e.symm) (λe=>by rw[e];rfl));have D:=aK w9 o;have E:=hb.size;have G:=c.size;refine⟨p.set 1 _,r.aR λb H _=>aM _ _ _ _ (by show b≠g5;omega),?_,?_⟩
 ·have u:Below g5 w5 w9:=q.t (hb.m (by omega));have y:Below g5 w5 (w9.alloc o):=u.t ((af w9 o).m (by omega));exact(y.grown c (by omega) (λk B=>by have:=(d k B).1;omega)).setCell (show g5<=(⟨g5,1,none⟩:Addr).block from ak _) _
 ·simp only[World.setCell,lY];omega
def FI(l:List iZ)(K:List T):jZ:=if aT.lU l K=0 then aT.jV l K else ⟨[],[]⟩
theorem Qq(S:Nat->Bool)(w:World):qi S w (.agg #[.slice none 0 0,.slice none 0 0]) ⟨[],[]⟩:=⟨none,0,none,0,rfl,jK.nil _ _ _,jK.nil _ _ _⟩
def AJ(l:List iZ)(K:List T)(w:World)(e:Ending)(w':World):Prop:=∃v,e=.returned (.tuple #[v,.int .i64 (aT.lU l K)])/\qi (eG w.heap.size) w' v (FI l K)/\Below w.heap.size w w'
theorem AJ.fail{l:List iZ}{K:List T}{w w':World}{E:Int}(a:E≠0)(h:aT.lU l K=E)(hb:Below w.heap.size w w'):AJ l K w (.returned (.tuple #[.agg #[.slice none 0 0,.slice none 0 0],.int .i64 E])) w':=
 ⟨_,by rw[h],by unfold FI;rw[aG (by rw[h];exact a)];exact Qq _ _,hb⟩
theorem Ji{l:List iZ}{K:List T}(h:l.length=0\/16<aT.moves l\/32<K.length):aT.lU l K=72:=by unfold aT.lU;rw[aI h]
theorem Jh{l:List iZ}{K:List T}(h:¬(l.length=0\/16<aT.moves l\/32<K.length)):aT.lU l K=aT.err l:=by unfold aT.lU;rw[aG h]
theorem Vu{l:List iZ}{K:List T}{w w4 w5 wr w7:World}{g3 g5 i z c:Nat}{A:Option Addr}(f:l.length=i)(j:(aT.FQ (K.filter T.use)).length=z)(g:aT.lU l K=0)(k:jK Cz (eG g3) w4 (.slice (some ⟨g3,0,none⟩) i i) (List.replicate i ⟨0,[]⟩))(s:w4.heap.size=g5)(t:g3<=g5)(u:w.heap.size<g3)
 (m:Below g5 w4 w5) (h:Below g5 w5 wr) (d:Below (g5+1) wr w7) (n:bK w7 (g5+1) (.slice A z c) (aT.FQ (K.filter T.use))) (o:Below w.heap.size w w5) (v:w5.heap.size=g5+1):
 AJ l K w (.returned (.tuple #[.agg #[.slice (some ⟨g3,0,none⟩) i i,.slice A z c],.int .i64 0])) (((w7.setCell ⟨g5,1,none⟩ (.slice A z c)).setCell ⟨w.heap.size,0,none⟩ (.slice (some ⟨g3,0,none⟩) i i)).setCell ⟨w.heap.size,1,none⟩ (.slice A z c)):=by
 have x:=d.size;refine⟨_,by rw[g],?_,?_⟩
 ·unfold FI;rw[aI g];have p:(aT.jV l K).aS.length=i:=(by unfold aT.jV;rw[df];exact f);have e:(aT.jV l K).bH.length=z:=j;have q:(aT.jV l K).aS=List.replicate i ⟨0,[]⟩:=(by unfold aT.jV;simp only[];rw[List.map_const',f]);refine⟨_,_,_,_,by rw[p,e],?_,?_⟩
  ·rw[q,r9];refine k.aR λb hb y=>?_;have r:=ax hb;refine⟨aQ (by omega),(oQ _ _ _ _ _ (by omega)).t ((aM _ _ _ _ (by show b≠g5;omega)).t ((d.block b (by omega)).t ((h.block b (by omega)).t (m.block b (by omega)))))⟩
  ·have a:=n.RF.list;rw[<-e]at a;rw[<-e];exact a.aR λb hb _=>by
    have r:=ax hb;exact⟨aQ (by omega),(oQ _ _ _ _ _ (by omega)).t (aM _ _ _ _ (by show b≠g5;omega))⟩
 ·have a:Below w.heap.size w w7:=(o.t (h.m (by omega))).t (d.m (by omega));exact qm (a.setCell (show w.heap.size<=(⟨g5,1,none⟩:Addr).block from by show w.heap.size<=g5;omega) _) (ak _) _ _
theorem T9(l:List iZ)(K:List T)(vs:Value)(A:Option Addr)(cap:Nat)(w:World)(hs:yu w vs l)(hk:gM w A cap K)(dR:∀x∈l,x.1.size<=maxLen/\x.2.length<=maxLen/\∀m∈x.2,m.2.bC<=1048576)
 (fH:aT.moves l<=1048576) (fI:l.length<=1048576) (dS:∀t∈K,t.bC<=1048576) (dU:K.length<=1048576):
 Calls Tryz.prog 11 #[vs,.slice A K.length cap] w (AJ l K w):=by
 obtain⟨i0,bH,bI,bJ,bL⟩:=dV Tryz.uI;obtain⟨As,cs,rfl,dW,fJ,gG⟩:=hs;obtain⟨fK,fM,fO⟩:=ZR (Ji (l:=l) (K:=K)) (Jh (l:=l) (K:=K)) (λ(E:Int) (w':World) (hE:E≠0) (h:aT.lU l K=E) (hb:Below w.heap.size w w')=>AJ.fail (w:=w) (w':=w') hE h hb);obtain⟨n,hn⟩:∃n,l.length=n:=⟨_,rfl⟩;obtain⟨kn,cB⟩:∃kn,K.length=kn:=⟨_,rfl⟩;obtain⟨mv,cK⟩:∃mv,aT.moves l=mv:=⟨_,rfl⟩;obtain⟨HS,HK,fQ,dX,HN,aP,bN⟩:=ZW dW hk dR dS hn cB cK;rw[hn]at fJ fI⊢;rw[cB]at dU⊢;rw[cK]at fH;clear dW hk dR dS hn cB cK;go_enter Tryz.func11,Tryz.ntmps11;go_upto_region 1 with fail;have cZ:=af w (.cells #[.slice none 0 0,.slice none 0 0] 35);have hz:=iy.new w [.slice none 0 0,.slice none 0 0] 35;have df:=aK w (.cells #[.slice none 0 0,.slice none 0 0] 35);change iy (w.alloc (.cells #[.slice none 0 0,.slice none 0 0] 35)) w.heap.size _ _ at hz;generalize w.alloc (.cells #[.slice none 0 0,.slice none 0 0] 35)=w1 at cZ hz df⊢;obtain⟨bP,HZ,dh⟩:=ZR cZ hz df;clear cZ hz df;go_wp2_with fail;go_loopw [6,17] (λfT M wr=>∃j:Nat,j<=n/\M=.int .i64 j/\fT=.int .i64 (aT.moves (l.take j):Int)/\Below w1.heap.size w1 wr) (λ_ M _=>n-(intOf M).toNat);case atStart=>exact⟨0,aL _,rfl,by rw[iH];rfl,az _ _⟩
 case round=>
  obtain⟨j,hj,rfl,rfl,f⟩:=hrel;by_cases av:j<n
  ·have dm:j<l.length:=(by rw[HN.o];exact av);obtain⟨b,o,y,B,rfl,ax,aA,bn⟩:=HS.o.get dm;clear bn;have S:=bP.o.t (f.m bP.o.size);obtain⟨d0,d1⟩:=ZZ S ax aA;have C:=Hr l j dm;have dY:=MJ l (j+1);rw[bN.o]at dY;obtain⟨x,hx⟩:∃x,l[j]=x:=⟨_,rfl⟩;rw[hx]at d0 d1 C;obtain⟨k,hk⟩:∃k,x.2.length=k:=⟨_,rfl⟩;obtain⟨q,hq⟩:∃q,aT.moves (l.take j)=q:=⟨_,rfl⟩;rw[hk]at d1 C;rw[hq]at C⊢;rw[C]at dY;obtain⟨bQ,r⟩:=ZQ C av;have hi:(j:Int)<(n:Int):=(by omega);have aQ:=af wr (.cells #[.string x.1,.slice y k B] 26);have s:=iy.new wr [.string x.1,.slice y k B] 26;change iy (wr.alloc (.cells #[.string x.1,.slice y k B] 26)) wr.heap.size _ _ at s;have p:=aa (f.t (aQ.m f.size));clear hx hk hq C f S aQ dm ax aA hj;go_upto_region 5 with fail;generalize wr.alloc (.cells #[.string x.1,.slice y k B] 26)=w2 at s p⊢;have N:=s.cell 1 rfl;clear d0 d1 s;go_wp2_with fail;clear N;go_roundw;case rel=>exact⟨j+1,r.o,by go_num,by rw[bQ.o];simp,p.o⟩
   case measure=>have:=r.o;simp[intOf];omega
  ·obtain rfl:j=n:=(by omega);rw[aY (by rw[HN.o];exact ak _),bN.o];have hi:¬(j:Int)<(j:Int):=(by omega);obtain⟨p,bq⟩:=ZQ (bP.o.t (f.m bP.o.size)) (HZ.o.ag f);obtain⟨z0,U,f0,f1⟩:=(HZ.o.ag f).two;clear f hj;have bR:=aa (λ(W:World) (E:Int) (hE:E≠0) (h:aT.lU l K=E) (hb:Below w.heap.size w W)=>fO.o E ((W.setCell ⟨w.heap.size,0,none⟩ (.slice none 0 0)).setCell ⟨w.heap.size,1,none⟩ (.slice none 0 0)) hE h (qm hb (ak _) _ _));by_cases aR:j=0\/16<mv\/32<kn
   ·have dw:=aa (fK.o (by rw[HN.o,bN.o,aP.o];exact aR));obtain⟨V,N⟩:=xU bq.o (.slice none 0 0) (.slice none 0 0);rcases(show j=0\/(¬j=0/\16<mv)\/(¬j=0/\¬16<mv/\32<kn) by omega)with h0|⟨h0,h1⟩|⟨h0,h1,h2⟩
    ·subst h0;clear aR;go_wp2_with fail;exact bG (v:=.tuple #[.agg #[.slice none 0 0,.slice none 0 0],.int .i64 72]) (by simp[results,Tryz.results11,go_sem,V,N]) rfl (bR.o _ 72 (by decide) dw.o p.o)
    ·have d9:¬(j:Int)=0:=(by omega);have ed:(16:Int)<(mv:Int):=(by omega);clear aR;go_wp2_with fail;exact bG (v:=.tuple #[.agg #[.slice none 0 0,.slice none 0 0],.int .i64 72]) (by simp[results,Tryz.results11,go_sem,V,N]) rfl (bR.o _ 72 (by decide) dw.o p.o)
    ·have d9:¬(j:Int)=0:=(by omega);have ed:¬(16:Int)<(mv:Int):=(by omega);have fU:(32:Int)<(kn:Int):=(by omega);clear aR;go_wp2_with fail;exact bG (v:=.tuple #[.agg #[.slice none 0 0,.slice none 0 0],.int .i64 72]) (by simp[results,Tryz.results11,go_sem,V,N]) rfl (bR.o _ 72 (by decide) dw.o p.o)
   ·have ek:=aa (fM.o (by rw[HN.o,bN.o,aP.o];exact aR));have d9:¬(j:Int)=0:=(by omega);have ed:¬(16:Int)<(mv:Int):=(by omega);have fU:¬(32:Int)<(kn:Int):=(by omega);have gH:¬j=0:=(by omega);clear aR z0 U f0 f1;obtain⟨wo,rfl⟩:∃wo:World,wo=wr:=⟨_,rfl⟩;go_wp2_with fail;go_loopw [42] (λM wr=>∃i:Nat,i<=j/\M=.int .i64 i/\aT.err (l.drop i)=aT.err l/\Below wo.heap.size wo wr) (λM _=>j-(intOf M).toNat);case atStart=>exact⟨0,aL _,rfl,rfl,az _ _⟩
    case round=>
     obtain⟨i,eu,rfl,bu,f⟩:=hrel;by_cases av:i<j
     ·have bS:i<l.length:=(by rw[HN.o];exact av);obtain⟨b,o,y,B,rfl,ax,aA,bn⟩:=HS.o.get bS;have S:=p.o.t (f.m p.o.size);obtain⟨d0,d1⟩:=ZZ S ax aA;have C:=LD l i bS;obtain⟨q1,q2,q3⟩:=fQ.o _ (aN bS);obtain⟨x,hx⟩:∃x,l[i]=x:=⟨_,rfl⟩;rw[hx]at d0 d1 C q1 q2 q3 bn;have aQ:=af wr (.cells #[.string x.1,.slice y x.2.length B] 26);have s:=iy.new wr [.string x.1,.slice y x.2.length B] 26;change iy (wr.alloc (.cells #[.string x.1,.slice y x.2.length B] 26)) wr.heap.size _ _ at s;obtain⟨bT,dx,HV,r⟩:=ZT (f.t (aQ.m f.size)) ((bn.ag (S.t (aQ.m S.size)))) (λW h=>Wm x.1 x.2 y B W q1 h q3 q2) av;have hi:(i:Int)<(j:Int):=(by omega);obtain⟨k,hk⟩:∃k,x.2.length=k:=⟨_,rfl⟩;obtain⟨E,hE⟩:∃E,mh x.1 x.2=E:=⟨_,rfl⟩;rw[hE]at C HV;rw[bu]at C;rw[hk]at d1 s bT dx HV;have bQ:=aa C;clear hx hk C bu f S aQ bS ax aA eu bn q1 q2 q3 hE;go_upto_region 12 with fail;generalize wr.alloc (.cells #[.string x.1,.slice y k B] 26)=w2 at s bT dx⊢;have V:=s.cell 0 rfl;have N:=s.cell 1 rfl;clear d0 d1 s;go_wp2_with fail;refine(HV.o w2 dx.o).m ?_;rintro e w3 ⟨rfl,eB⟩;have X:=aa (bT.o.t (eB.m bT.o.size));clear eB V N;by_cases eD:E=0
      ·subst eD;go_wp2_with fail;go_roundw;case rel=>exact⟨i+1,r.o,by go_num,by rw[bQ.o];simp,X.o⟩
       case measure=>have:=r.o;simp[intOf];omega
      ·obtain⟨z0,U,f0,f1⟩:=(bq.o.ag X.o).two;obtain⟨V,N⟩:=xU (bq.o.ag X.o) (.slice none 0 0) (.slice none 0 0);have eG:=aa eD;go_wp2_with fail;exact bG (v:=.tuple #[.agg #[.slice none 0 0,.slice none 0 0],.int .i64 E]) (by simp[results,Tryz.results11,go_sem,V,N]) rfl (bR.o _ E eG.o (by rw[ek.o,bQ.o,aG eG.o]) (p.o.t (X.o.m p.o.size)))
     ·obtain rfl:i=j:=(by omega);have hi:¬(i:Int)<(i:Int):=(by omega);obtain⟨X,fV⟩:=ZQ (p.o.t (f.m p.o.size)) (bq.o.ag f);rw[jT (by rw[HN.o];exact ak _)]at bu;have fZ:=aa (show aT.lU l K=0 from by rw[ek.o,<-bu];rfl);obtain⟨w4,gm,bU,C⟩:=E5 wr i (by omega);obtain⟨dA,gp⟩:=ZQ (X.o.t (bU.m X.o.size)) (fV.o.ag bU);have eO:w.heap.size+1<=wr.heap.size:=(by have:=f.size;have:=bq.o.lt;omega);clear f bu eu;go_upto_region 17 with fail;have aH:=af w4 (.cells #[.slice (some ⟨wr.heap.size,0,none⟩) i i,.slice none 0 0] 35);have aS:=iy.new w4 [.slice (some ⟨wr.heap.size,0,none⟩) i i,.slice none 0 0] 35;have bv:=aK w4 (.cells #[.slice (some ⟨wr.heap.size,0,none⟩) i i,.slice none 0 0] 35);change iy (w4.alloc (.cells #[.slice (some ⟨wr.heap.size,0,none⟩) i i,.slice none 0 0] 35)) w4.heap.size _ _ at aS;obtain⟨g3,dB⟩:∃g,wr.heap.size=g:=⟨_,rfl⟩;obtain⟨g5,dC⟩:∃g,w4.heap.size=g:=⟨_,rfl⟩;have eP:w.heap.size<=g3:=(by have:=X.o.size;omega);rw[dB]at aH aS bv C⊢;have eQ:g3<=g5:=(by have:=bU.size;omega);rw[dC]at aH aS bv⊢;generalize w4.alloc (.cells #[.slice (some ⟨g3,0,none⟩) i i,.slice none 0 0] 35)=w5 at aH aS bv⊢;have gq:=aa aH;have eT:=aa (dA.o.t (aH.m (by have:=dA.o.size;omega)));have gu:=aa (gp.o.ag (aH.m (by omega)));have gy:=aa C;have dD:=aa (show w.heap.size<g3 from by have:=X.o.size;have:=dh.o;have:=p.o.size;rw[<-dB];have:=eO;omega);obtain⟨J,gz⟩:=ZQ ((And.intro eP (And.intro eQ (And.intro bv dC)))) aS;clear aH aS bv gm C bU dB dC eP eQ eO;go_wp2_with fail;go_loopw [59] (λM wr=>∃(q:Nat) (kv:Value),q<=kn/\M=.int .i64 q/\iy wr g5 35 [.slice (some ⟨g3,0,none⟩) i i,kv]/\bK wr (g5+1) kv ((K.take q).filter T.use)/\Below g5 w5 wr/\w5.heap.size<=wr.heap.size) (λM _=>kn-(intOf M).toNat);case atStart=>exact⟨0,_,aL _,rfl,gz.o,by rw[iH];exact bK.nil _ _,az _ _,ak _⟩
      case round=>
       obtain⟨q,kv,hq,rfl,s,aB,f,aU⟩:=hrel;by_cases av:q<kn
       ·have bW:q<K.length:=(by rw[aP.o];exact av);obtain⟨b,o,y,B,rfl,ax,aA,eU,ht⟩:=gM.get (cap:=cap) (by exact HK.o) bW;obtain⟨s1,s2,s3,s4⟩:=J.o;have aV:=eT.o.t (f.m (show w.heap.size<=g5 by omega));obtain⟨d0,d1,d2⟩:=Z0 aV ax aA eU;have dE:=dX.o _ (aN bW);have bX:=NI K q bW;have aX:((K.take q).filter T.use).length<=kn:=aD (fP _ _) (by rw[aW,aP.o];omega);obtain⟨x,hx⟩:∃x,K[q]=x:=⟨_,rfl⟩;rw[hx]at d0 d1 d2 ht dE bX;obtain⟨F,hF⟩:∃F,(K.take q).filter T.use=F:=⟨_,rfl⟩;rw[hF]at bX aB aX;have aZ:=af wr (.cells #[.int .i64 x.aC,.string x.aJ,.slice y x.ay.length B] 29);have bx:=jM.new wr (.int .i64 x.aC) (.string x.aJ) (.slice y x.ay.length B);have HT:=aa (ht.ag (aV.t (aZ.m aV.size)));have p:=aa (f.t (aZ.m (show g5<=wr.heap.size by omega)));obtain⟨eX,bY,bz,dF,bA,r,gB⟩:=ZW (aB.ag aZ) (s.ag aZ) (aD aU aZ.size) bX dE av aX;have hi:(q:Int)<(kn:Int):=(by omega);clear hx hF bX dE aV f aB s ht bW ax aA eU hq aZ aU aX s1 s2 s3 s4;go_upto_region 20 with fail;generalize wr.alloc (.cells #[.int .i64 x.aC,.string x.aJ,.slice y x.ay.length B] 29)=w6 at bx HT p eX bY bz⊢;obtain⟨x0,x1,x2⟩:=bx.cells;have BX:=aa bx;clear d0 d1 d2 bx;have HG:=aa (Gb x (.agg #[.int .i64 x.aC,.string x.aJ,.slice y x.ay.length B]) w6 HT.o bA.o);obtain⟨gr,dG⟩:∃g,x.ground=g:=⟨_,rfl⟩;rw[dG]at HG;have eY:=aa dG;clear dG;go_wp2_with fail;refine HG.o.m ?_;rintro e w7 ⟨rfl,H⟩;have dH:=aa (p.o.t (H.m (by have:=p.o.size;have:=J.o;have:=bz.o;omega)));obtain⟨eZ,fe,fo,dI⟩:=ZT (eX.o.ag H) (bY.o.ag H) (HT.o.ag H) (aD bz.o H.size);obtain⟨y0,y1,y2⟩:=(BX.o.ag H).cells;have gD:=aa (BX.o.ag H);clear H x0 x1 x2 HG;cases gr with
        |false=>
         have bB:¬x.use=true:=(by unfold T.use;rw[eY.o];simp);have HU:=aa (dF.o.t (aG bB));clear bB;go_wp2_with fail;go_roundw;case rel=>exact⟨q+1,kv,r.o,by go_num,fe.o,by rw[HU.o];exact eZ.o,dH.o,dI.o⟩
         case measure=>have:=r.o;simp[intOf];omega
        |true=>
         have HI:=aa (Ui x (.agg #[.int .i64 x.aC,.string x.aJ,.slice y x.ay.length B]) w7 fo.o bA.o);obtain⟨nr,dJ⟩:∃g,x.FX=g:=⟨_,rfl⟩;rw[dJ]at HI;have fq:=aa dJ;clear dJ;go_wp2_with fail;refine HI.o.m ?_;rintro e w8 ⟨rfl,aM⟩;have bD:=aa (dH.o.t (aM.m (by have:=dH.o.size;have:=J.o;have:=dI.o;omega)));obtain⟨dK,bE,dL,L⟩:=ZT (eZ.o.ag aM) (fe.o.ag aM) (fo.o.ag aM) (aD dI.o aM.size);obtain⟨u0,u1,u2⟩:=(gD.o.ag aM).cells;clear aM y0 y1 y2 HI;cases nr with
         |false=>
          have bB:¬x.use=true:=(by unfold T.use;rw[fq.o];simp);have HU:=aa (dF.o.t (aG bB));clear bB;go_wp2_with fail;go_roundw;case rel=>exact⟨q+1,kv,r.o,by go_num,bE.o,by rw[HU.o];exact dK.o,bD.o,L.o⟩
          case measure=>have:=r.o;simp[intOf];omega
         |true=>
          have fu:x.use=true:=(by unfold T.use;rw[eY.o,fq.o];rfl);have HU:=aa (dF.o.t (aI fu));obtain⟨xs,bZ,fw⟩:=dK.o.cells;obtain⟨Ak,ck,cu⟩:=oO bZ;have fA:=dK.o.block;obtain⟨m,hm⟩:∃m,F.length=m:=⟨_,rfl⟩;have HM:=aa hm;have gI:m<=1048576:=(by rw[<-hm];have:=gB.o;omega);rw[hm]at cu bZ;subst cu;obtain⟨HOWN,cz,aF⟩:=ZR bZ fw fA;obtain⟨b0,Y,b2,b3⟩:=bE.o.two;clear fu bZ fw fA hm b0 b2;go_wp2_with fail;refine pV (by kernel_rfl) ?_;(try(change wpAny _ _ _ _ _ _ _ (World.drew _)));(refine eH (i:=0) (v:=?_) (by simp only[au,ah];rfl) (by kernel_rfl) (by kernel_rfl) (by kernel_rfl) (by exact λ_ _ _ h=>h) (Or.inl ⟨by rfl,?_⟩) ?_;rotate_left 1;· (intro w;go_simp;(try with_reducible rfl)));refine cO (rs:=[1,2]) (by kernel_rfl) (by simp) ?_;refine bF (by simp only[au,aj,ah];rfl) (λK a=>?_) ?_
          ·go_simp;(first|(refine a _ _ ?_;clear a K)|skip);refine cO (rs:=[2]) (by kernel_rfl) (by simp) ?_;refine bF (by simp only[au,aj,ah];rfl) (λK a=>?_) ?_
           ·go_simp;(first|(refine a _ _ ?_;clear a K)|skip);refine cO (rs:=[3]) (by kernel_rfl) (by simp) ?_;refine bF (by simp only[au,aj,ah];rfl) (λK a=>?_) ?_
            ·(go_simp;go_at_call 36;refine(wU (x.bC+1) x _ _ (by omega) dL.o.drew bA.o).m ?_;rintro e w9 ⟨O,C3,rfl,I,Z⟩;have d:=jW Z;have U:=ae d Y;obtain⟨bf,bg⟩:=ZQ ((dz HOWN.o d).alloc (.cells #[.int .i64 x.aC,.string x.aJ,.slice O x.ay.length C3] 29)) I.one;have bi:=aa (show g5+1<=(w9.alloc (.cells #[.int .i64 x.aC,.string x.aJ,.slice O x.ay.length C3] 29)).heap.size by rw[aK];have:=d.size;have:=L.o;have:=J.o;omega);have ai:=aa (bE.o.ag (d.t ((af w9 (.cells #[.int .i64 x.aC,.string x.aJ,.slice O x.ay.length C3] 29)).m d.size)));have z2:=ai.o.cell 1 rfl);(first|(refine a _ _ ?_;clear a K)|skip);refine cO (rs:=[4]) (by kernel_rfl) (by simp) ?_;refine bF (by simp only[au,aj,ah];rfl) (λK a=>?_) ?_
             ·go_simp;(first|(refine a _ _ ?_;clear a K)|skip);refine cO (rs:=[5]) (by kernel_rfl) (by simp) ?_;refine bF (by simp only[au,aj,ah];rfl) (λK a=>?_) ?_
              ·(refine dZ _ (by rfl) _ _ _ (by rfl) (g5+1) 29 i0 _ 3 48 bM bH bI bJ bL rfl (by omega) _ m _ (by rfl) bf.o ⟨_,0,none⟩ 1 1 _ (by rfl) (by rfl) (di (bO _ _)) bg.o (by omega) (by unfold maxLen;omega) (by omega) bi.o _ rfl ?_;intro g dM kP P D Q aO;have G:=aa (ai.o.grown D (λe=>by have:=(aF.o _ e).1;omega));have z3:=G.o.cell 1 rfl;have z4:=G.o.free 1;go_simp);(first|(refine a _ _ ?_;clear a K)|skip);(refine eH (i:=6) (v:=?_) (by simp only[au,aj,ah];rfl) (by kernel_rfl) (by kernel_rfl) (by kernel_rfl) (by exact λ_ _ _ h=>h) (Or.inl ⟨by rfl,?_⟩) ?_;rotate_left 1;· (intro w;go_simp;(try with_reducible rfl)));refine cO (rs:=[7]) (by kernel_rfl) (by simp) ?_;refine bF (by simp only[au,aj,ah];rfl) (λK a=>?_) ?_
               ·go_simp;(first|(refine a _ _ ?_;clear a K)|skip);refine lg (by kernel_rfl) ?_ _;have R:=CO HM.o cz.o aF.o (by have:=L.o;have:=J.o;omega) d I P D Q G.o bD.o L.o;have u:=aa R;clear R P D Q aO z3 z4 I Z d U z2 Y b3 u0 u1 u2;go_wp2_with fail;go_roundw;case rel=>exact⟨q+1,_,r.o,by go_num,u.o.1,by rw[HU.o];exact u.o.2.1,u.o.2.2⟩
                case measure=>have:=r.o;simp[intOf];omega
               exact bV
              exact bV
             exact bV
            exact bV
           exact bV
          refine bF (by simp only[au,aj,ah];rfl) (λK a=>?_) ?_
          ·go_simp;(first|(refine a _ _ ?_;clear a K)|skip);refine cO (rs:=[1,3]) (by kernel_rfl) (by simp) ?_;refine bF (by simp only[au,aj,ah];rfl) (λK a=>?_) ?_
           ·go_simp;(first|(refine a _ _ ?_;clear a K)|skip);refine cO (rs:=[3]) (by kernel_rfl) (by simp) ?_;refine bF (by simp only[au,aj,ah];rfl) (λK a=>?_) ?_
            ·(go_simp;go_at_call 36;refine(wU (x.bC+1) x _ _ (by omega) dL.o.drew bA.o).m ?_;rintro e w9 ⟨O,C3,rfl,I,Z⟩;have d:=jW Z;have U:=ae d Y;obtain⟨bf,bg⟩:=ZQ ((dz HOWN.o d).alloc (.cells #[.int .i64 x.aC,.string x.aJ,.slice O x.ay.length C3] 29)) I.one;have bi:=aa (show g5+1<=(w9.alloc (.cells #[.int .i64 x.aC,.string x.aJ,.slice O x.ay.length C3] 29)).heap.size by rw[aK];have:=d.size;have:=L.o;have:=J.o;omega);have ai:=aa (bE.o.ag (d.t ((af w9 (.cells #[.int .i64 x.aC,.string x.aJ,.slice O x.ay.length C3] 29)).m d.size)));have z2:=ai.o.cell 1 rfl);(first|(refine a _ _ ?_;clear a K)|skip);refine cO (rs:=[4]) (by kernel_rfl) (by simp) ?_;refine bF (by simp only[au,aj,ah];rfl) (λK a=>?_) ?_
             ·go_simp;(first|(refine a _ _ ?_;clear a K)|skip);refine cO (rs:=[5]) (by kernel_rfl) (by simp) ?_;refine bF (by simp only[au,aj,ah];rfl) (λK a=>?_) ?_
              ·(refine dZ _ (by rfl) _ _ _ (by rfl) (g5+1) 29 i0 _ 3 48 bM bH bI bJ bL rfl (by omega) _ m _ (by rfl) bf.o ⟨_,0,none⟩ 1 1 _ (by rfl) (by rfl) (di (bO _ _)) bg.o (by omega) (by unfold maxLen;omega) (by omega) bi.o _ rfl ?_;intro g dM kP P D Q aO;have G:=aa (ai.o.grown D (λe=>by have:=(aF.o _ e).1;omega));have z3:=G.o.cell 1 rfl;have z4:=G.o.free 1;go_simp);(first|(refine a _ _ ?_;clear a K)|skip);(refine eH (i:=6) (v:=?_) (by simp only[au,aj,ah];rfl) (by kernel_rfl) (by kernel_rfl) (by kernel_rfl) (by exact λ_ _ _ h=>h) (Or.inl ⟨by rfl,?_⟩) ?_;rotate_left 1;· (intro w;go_simp;(try with_reducible rfl)));refine cO (rs:=[7]) (by kernel_rfl) (by simp) ?_;refine bF (by simp only[au,aj,ah];rfl) (λK a=>?_) ?_
               ·go_simp;(first|(refine a _ _ ?_;clear a K)|skip);refine lg (by kernel_rfl) ?_ _;have R:=CO HM.o cz.o aF.o (by have:=L.o;have:=J.o;omega) d I P D Q G.o bD.o L.o;have u:=aa R;clear R P D Q aO z3 z4 I Z d U z2 Y b3 u0 u1 u2;go_wp2_with fail;go_roundw;case rel=>exact⟨q+1,_,r.o,by go_num,u.o.1,by rw[HU.o];exact u.o.2.1,u.o.2.2⟩
                case measure=>have:=r.o;simp[intOf];omega
               exact bV
              exact bV
             exact bV
            exact bV
           refine bF (by simp only[au,aj,ah];rfl) (λK a=>?_) ?_
           ·(go_simp;go_at_call 36;refine(wU (x.bC+1) x _ _ (by omega) dL.o.drew bA.o).m ?_;rintro e w9 ⟨O,C3,rfl,I,Z⟩;have d:=jW Z;have U:=ae d Y;obtain⟨bf,bg⟩:=ZQ ((dz HOWN.o d).alloc (.cells #[.int .i64 x.aC,.string x.aJ,.slice O x.ay.length C3] 29)) I.one;have bi:=aa (show g5+1<=(w9.alloc (.cells #[.int .i64 x.aC,.string x.aJ,.slice O x.ay.length C3] 29)).heap.size by rw[aK];have:=d.size;have:=L.o;have:=J.o;omega);have ai:=aa (bE.o.ag (d.t ((af w9 (.cells #[.int .i64 x.aC,.string x.aJ,.slice O x.ay.length C3] 29)).m d.size)));have z2:=ai.o.cell 1 rfl);(first|(refine a _ _ ?_;clear a K)|skip);refine cO (rs:=[1,4]) (by kernel_rfl) (by simp) ?_;refine bF (by simp only[au,aj,ah];rfl) (λK a=>?_) ?_
            ·go_simp;(first|(refine a _ _ ?_;clear a K)|skip);refine cO (rs:=[4]) (by kernel_rfl) (by simp) ?_;refine bF (by simp only[au,aj,ah];rfl) (λK a=>?_) ?_
             ·go_simp;(first|(refine a _ _ ?_;clear a K)|skip);refine cO (rs:=[5]) (by kernel_rfl) (by simp) ?_;refine bF (by simp only[au,aj,ah];rfl) (λK a=>?_) ?_
              ·(refine dZ _ (by rfl) _ _ _ (by rfl) (g5+1) 29 i0 _ 3 48 bM bH bI bJ bL rfl (by omega) _ m _ (by rfl) bf.o ⟨_,0,none⟩ 1 1 _ (by rfl) (by rfl) (di (bO _ _)) bg.o (by omega) (by unfold maxLen;omega) (by omega) bi.o _ rfl ?_;intro g dM kP P D Q aO;have G:=aa (ai.o.grown D (λe=>by have:=(aF.o _ e).1;omega));have z3:=G.o.cell 1 rfl;have z4:=G.o.free 1;go_simp);(first|(refine a _ _ ?_;clear a K)|skip);(refine eH (i:=6) (v:=?_) (by simp only[au,aj,ah];rfl) (by kernel_rfl) (by kernel_rfl) (by kernel_rfl) (by exact λ_ _ _ h=>h) (Or.inl ⟨by rfl,?_⟩) ?_;rotate_left 1;· (intro w;go_simp;(try with_reducible rfl)));refine cO (rs:=[7]) (by kernel_rfl) (by simp) ?_;refine bF (by simp only[au,aj,ah];rfl) (λK a=>?_) ?_
               ·go_simp;(first|(refine a _ _ ?_;clear a K)|skip);refine lg (by kernel_rfl) ?_ _;have R:=CO HM.o cz.o aF.o (by have:=L.o;have:=J.o;omega) d I P D Q G.o bD.o L.o;have u:=aa R;clear R P D Q aO z3 z4 I Z d U z2 Y b3 u0 u1 u2;go_wp2_with fail;go_roundw;case rel=>exact⟨q+1,_,r.o,by go_num,u.o.1,by rw[HU.o];exact u.o.2.1,u.o.2.2⟩
                case measure=>have:=r.o;simp[intOf];omega
               exact bV
              exact bV
             exact bV
            refine bF (by simp only[au,aj,ah];rfl) (λK a=>?_) ?_
            ·go_simp;(first|(refine a _ _ ?_;clear a K)|skip);refine cO (rs:=[1]) (by kernel_rfl) (by simp) ?_;refine bF (by simp only[au,aj,ah];rfl) (λK a=>?_) ?_
             ·go_simp;(first|(refine a _ _ ?_;clear a K)|skip);refine cO (rs:=[5]) (by kernel_rfl) (by simp) ?_;refine bF (by simp only[au,aj,ah];rfl) (λK a=>?_) ?_
              ·(refine dZ _ (by rfl) _ _ _ (by rfl) (g5+1) 29 i0 _ 3 48 bM bH bI bJ bL rfl (by omega) _ m _ (by rfl) bf.o ⟨_,0,none⟩ 1 1 _ (by rfl) (by rfl) (di (bO _ _)) bg.o (by omega) (by unfold maxLen;omega) (by omega) bi.o _ rfl ?_;intro g dM kP P D Q aO;have G:=aa (ai.o.grown D (λe=>by have:=(aF.o _ e).1;omega));have z3:=G.o.cell 1 rfl;have z4:=G.o.free 1;go_simp);(first|(refine a _ _ ?_;clear a K)|skip);(refine eH (i:=6) (v:=?_) (by simp only[au,aj,ah];rfl) (by kernel_rfl) (by kernel_rfl) (by kernel_rfl) (by exact λ_ _ _ h=>h) (Or.inl ⟨by rfl,?_⟩) ?_;rotate_left 1;· (intro w;go_simp;(try with_reducible rfl)));refine cO (rs:=[7]) (by kernel_rfl) (by simp) ?_;refine bF (by simp only[au,aj,ah];rfl) (λK a=>?_) ?_
               ·go_simp;(first|(refine a _ _ ?_;clear a K)|skip);refine lg (by kernel_rfl) ?_ _;have R:=CO HM.o cz.o aF.o (by have:=L.o;have:=J.o;omega) d I P D Q G.o bD.o L.o;have u:=aa R;clear R P D Q aO z3 z4 I Z d U z2 Y b3 u0 u1 u2;go_wp2_with fail;go_roundw;case rel=>exact⟨q+1,_,r.o,by go_num,u.o.1,by rw[HU.o];exact u.o.2.1,u.o.2.2⟩
                case measure=>have:=r.o;simp[intOf];omega
               exact bV
              exact bV
             exact bV
            exact bV
           exact bV
          exact bV
       ·obtain rfl:q=kn:=(by omega);rw[aY (by rw[aP.o];exact ak _)]at aB;obtain⟨s1,s2,s3,s4⟩:=J.o;have hi:¬(q:Int)<(q:Int):=(by omega);obtain⟨F,hF⟩:∃F,K.filter T.use=F:=⟨_,rfl⟩;rw[hF]at aB;have HF:=aa hF;have fC:∀t∈F,t.bC<=1048576:=λt ht=>dX.o t (by rw[<-hF]at ht;exact(fB.1 ht).1);have aX:F.length<=1048576:=(by rw[<-hF];exact aD (fP _ _) (by rw[aP.o];exact dU));obtain⟨Ak,ck,cu,_⟩:=aB.shape;subst cu;have fD:=aa (Qe wr aB fC aX (show g5+1<=wr.heap.size by omega));obtain⟨m,hm⟩:∃m,F.length=m:=⟨_,rfl⟩;rw[hm]at fD s;obtain⟨b0,Y,b2,b3⟩:=s.two;obtain⟨bY,p,bz⟩:=ZR s f aU;clear hF aB fC aX s f b0 b2 b3 hm hq aU s1 s2 s3 s4;go_wp2_with fail;refine fD.o.m ?_;rintro e w7 ⟨rfl,dN,H⟩;obtain⟨s1,s2,s3,s4⟩:=J.o;have gJ:=H.size;have aU:=bz.o;have dO:iy w7 g5 35 [.slice (some ⟨g3,0,none⟩) i i,.slice Ak m ck]:=(H.block g5 (by omega)).t bY.o;have fE:iy w7 w.heap.size 35 [.slice none 0 0,.slice none 0 0]:=(H.block w.heap.size (by have:=dh.o;have:=dA.o.size;omega)).t ((p.o.block w.heap.size (by have:=dh.o;have:=dD.o;omega)).t gu.o);obtain⟨z,hz⟩:∃z,(aT.FQ F).length=z:=⟨_,rfl⟩;have gF:=aa hz;rw[hz]at dN⊢;have fF:=Vu (l:=l) (K:=K) (w:=w) (w4:=w4) (w5:=w5) (wr:=wr) (w7:=w7) (g3:=g3) (g5:=g5) (i:=i) (z:=z) (A:=Ak) (c:=ck) (HN.o) (by rw[HF.o];exact gF.o) fZ.o gy.o s4 s2 dD.o gq.o p.o H (by rw[HF.o];exact dN) eT.o s3;have u:=aa fF;have fG:w.heap.size≠g5:=(by have:=dD.o;omega);have dQ:iy (w7.setCell ⟨g5,1,none⟩ (.slice Ak z ck)) w.heap.size _ _:=fE.setOther (by exact fG) _;obtain⟨y0,y1,_,_⟩:=(dO.set 1 (.slice Ak z ck)).two;obtain⟨y2,y3,y4,y5⟩:=dQ.two;obtain⟨x0,x1,x2,x3⟩:=dO.two;obtain⟨V,N⟩:=xU dQ (.slice (some ⟨g3,0,none⟩) i i) (.slice Ak z ck);clear hz dN fF dO fE dQ H Y aU s1 s2 s3 s4 fG;go_wp2_with fail;exact bG (v:=.tuple #[.agg #[.slice (some ⟨g3,0,none⟩) i i,.slice Ak z ck],.int .i64 0]) (by simp[results,Tryz.results11,go_sem,V,N]) rfl u.o
end
section
open Go.RowKit T
attribute [local go_sem ↓] Go.wp_at_zero Go.wp_at_succ
def xh(h Mn Mm:Nat)(fv:Value):Nat->Bool:=λb=>!(b==h)&&!(b==Mn)&&!(b==Mm)&&!(fv.ownBlock==some b)
theorem K4{h Mn Mm:Nat}{fv:Value}{b:Nat}:xh h Mn Mm fv b=true<->b≠h/\b≠Mn/\b≠Mm/\fv.ownBlock≠some b:=by
 unfold xh;rw[ai,ai,ai,bZ,bZ,bZ,bZ,aB,aB,aB,aB,lD,lD]
abbrev nh(h Mn Mm g M:Nat)(vs vp fv:Value):Nat->Bool:=nr (xh h Mn Mm fv) g M vs vp
theorem tq{h Mn Mm g M:Nat}{vs vp fv:Value}{b:Nat}:nh h Mn Mm g M vs vp fv b=true<->nr mM g M vs vp b=true/\b≠h/\b≠Mn/\b≠Mm/\fv.ownBlock≠some b:=by
 unfold nh;rw[kr,kr,K4];constructor;·rintro⟨a,b,c,d,e⟩;exact⟨⟨a,b,c,d,rfl⟩,e⟩
 ·rintro⟨⟨a,b,c,d,_⟩,e⟩;exact⟨a,b,c,d,e⟩
def nb(B h Mn Mm g M:Nat)(vs vp fv:Value):Nat->Bool:=λb=>nh h Mn Mm g M vs vp fv b&&eG B b
theorem xz{B h Mn Mm g M:Nat}{vs vp fv:Value}{b:Nat}:nb B h Mn Mm g M vs vp fv b=true<->nh h Mn Mm g M vs vp fv b=true/\B<=b:=by
 unfold nb;rw[ai];exact ze λ_=>vN
theorem uT{B h Mn Mm g M:Nat}{vs vp fv vs' mK Da:Value}{w w':World}(a:∀b,nh h Mn Mm g M vs vp fv b=true->b<w.heap.size->nh h Mn Mm g M vs' mK Da b=true/\w'.heap[b]?=w.heap[b]?)(b:Nat)(hb:nb B h Mn Mm g M vs vp fv b=true)(c:b<w.heap.size):nb B h Mn Mm g M vs' mK Da b=true/\w'.heap[b]?=w.heap[b]?:=
 ⟨xz.2 ⟨(a b (xz.1 hb).1 c).1,(xz.1 hb).2⟩,(a b (xz.1 hb).1 c).2⟩
def sF(pat:T)(pA:Option Addr)(pc:Nat)(bv:Value)(g:Nat)(pv:Value)(Mn Mm:Nat)(fv:Value):List Value:=
 [.int .i64 pat.aC,.string pat.aJ,.slice pA pat.ay.length pc,bv,.pointer (some ⟨g,0,none⟩),pv,.map (some Mn),.map (some Mm),fv]
structure Ce (pat:T) (b:List Bd) (P:List T) (NM:List ByteArray) (pA:Option Addr) (pc:Nat) (bv pv:Value) (B h Mn Mm g M:Nat) (w:World) (vs vp fv:Value) (W:List fC) (x:K5):Prop where
 IP:gD (xh h Mn Mm fv) B w g M vs vp W
 box:iy w h 167 (sF pat pA pc bv g pv Mn Mm fv)
 names:oz w Mn NM
 met:oz w Mm x.met
 gW:gV oC (nb B h Mn Mm g M vs vp fv) B w fv x.gW
 low:B<=h/\B<=Mn/\B<=Mm
 sep:nr mM g M vs vp h=true/\nr mM g M vs vp Mn=true/\nr mM g M vs vp Mm=true/\h≠Mn/\h≠Mm/\Mn≠Mm
 qo:∀k,fv.ownBlock=some k->nr mM g M vs vp k=true/\k≠h/\k≠Mn/\k≠Mm
 IW:bN (nh h Mn Mm g M vs vp fv) w (.agg #[.int .i64 pat.aC,.string pat.aJ,.slice pA pat.ay.length pc]) pat
 wF:Cb (nh h Mn Mm g M vs vp fv) w bv b
 prt:jK oC (nb B h Mn Mm g M vs vp fv) w pv P
structure FE (B h Mn Mm g M:Nat) (w:World) (vs vp fv:Value) (w':World) (vs' mK Da:Value):Prop where
 below:Below B w w'
 size:w.heap.size<=w'.heap.size
 aR:∀b,nh h Mn Mm g M vs vp fv b=true->b<w.heap.size->nh h Mn Mm g M vs' mK Da b=true/\w'.heap[b]?=w.heap[b]?
section
variable {B h Mn Mm g M:Nat} {w w' w'':World} {vs vp fv vs' mK Da Ve Vd Q4:Value}
theorem FE.refl(B h Mn Mm g M:Nat)(w:World)(vs vp fv:Value):FE B h Mn Mm g M w vs vp fv w vs vp fv:=⟨az _ _,ak _,λ_ hb _=>⟨hb,rfl⟩⟩
theorem FE.t(k:FE B h Mn Mm g M w vs vp fv w' vs' mK Da)(k':FE B h Mn Mm g M w' vs' mK Da w'' Ve Vd Q4):FE B h Mn Mm g M w vs vp fv w'' Ve Vd Q4:=
 ⟨k.below.t k'.below,aD k.size k'.size,λb hb a=>by
   obtain⟨c,d⟩:=k.aR b hb a;obtain⟨e,f⟩:=k'.aR b c (dF a k.size);exact⟨e,f.t d⟩⟩
theorem FE.Xb(k:FE B h Mn Mm g M w vs vp fv w' vs' mK Da):∀b,nb B h Mn Mm g M vs vp fv b=true->b<w.heap.size->nb B h Mn Mm g M vs' mK Da b=true/\w'.heap[b]?=w.heap[b]?:=uT k.aR
theorem FE.ag(k:FE B h Mn Mm g M w vs vp fv w' vs' mK Da)(a:B<=w.heap.size)(hb:Below w'.heap.size w' w''):FE B h Mn Mm g M w vs vp fv w'' vs' mK Da:=
 k.t ⟨hb.m (aD a k.size),hb.size,λb c d=>⟨c,hb.block b d⟩⟩
variable {pat:T} {b:List Bd} {P:List T} {NM:List ByteArray} {pA:Option Addr} {pc:Nat} {bv pv:Value} {W:List fC} {x:K5}
theorem Ce.ag(k:Ce pat b P NM pA pc bv pv B h Mn Mm g M w vs vp fv W x)(hb:Below w.heap.size w w'):Ce pat b P NM pA pc bv pv B h Mn Mm g M w' vs vp fv W x:=
 ⟨k.IP.ag hb,k.box.ag hb,k.names.ag hb,k.met.ag hb,k.gW.ag hb,k.low,k.sep,k.qo,k.IW.aR λb a c=>⟨a,hb.block b c⟩,k.wF.aR λb a c=>⟨a,hb.block b c⟩,k.prt.ag hb⟩
theorem Ce.lt(k:Ce pat b P NM pA pc bv pv B h Mn Mm g M w vs vp fv W x):B<=w.heap.size:=k.IP.lt.2
theorem Ce.Ze{W':List fC}(k:Ce pat b P NM pA pc bv pv B h Mn Mm g M w vs vp fv W x)(e:mJ (xh h Mn Mm fv) B g M w vs vp W' w'):∃vs' mK,Ce pat b P NM pA pc bv pv B h Mn Mm g M w' vs' mK fv W' x/\FE B h Mn Mm g M w vs vp fv w' vs' mK fv:=by
 obtain⟨vs',mK,e,a⟩:=e;obtain⟨m,n,o,p,r,s⟩:=k.sep;have i:=a.ET h m k.box.lt;have kn:=a.ET Mn n k.names.lt;have j:=a.ET Mm o k.met.lt;have c:∀b,nh h Mn Mm g M vs vp fv b=true->b<w.heap.size->nh h Mn Mm g M vs' mK fv b=true/\w'.heap[b]?=w.heap[b]?:=λb hb f=>by
  obtain⟨t,u⟩:=tq.1 hb;obtain⟨c1,c2⟩:=a.ET b t f;exact⟨tq.2 ⟨c1,u⟩,c2⟩
 have l:∀q,fv.ownBlock=some q->nr mM g M vs' mK q=true/\w'.heap[q]?=w.heap[q]?:=λq d=>a.ET q (k.qo q d).1 (k.gW.block q d).2;refine⟨vs',mK,⟨e,i.2.t k.box,k.names.aR kn.2,k.met.aR j.2,?_,k.low,⟨i.1,kn.1,j.1,p,r,s⟩,λq d=>⟨(l q d).1,(k.qo q d).2⟩,k.IW.aR c,k.wF.aR c,k.prt.aR (uT c)⟩,⟨a.below,a.size,c⟩⟩;obtain⟨dG,v,y⟩:=k.gW;exact⟨dG,v.aR λb hb f=>by
  obtain⟨c1,c2⟩:=dX.1 hb;obtain⟨d1,d2⟩:=uT c b c1 f;exact⟨dX.2 ⟨d1,c2⟩,d2⟩,pg y λb hb _=>(l b hb).2⟩
theorem Ce.X9{key:ByteArray}(k:Ce pat b P NM pA pc bv pv B h Mn Mm g M w vs vp fv W x)(i:oz w' Mm (key::x.met))(a:w.grownBy w' (some Mm)):Ce pat b P NM pA pc bv pv B h Mn Mm g M w' vs vp fv W ⟨key::x.met,x.gW⟩/\FE B h Mn Mm g M w vs vp fv w' vs vp fv:=by
 obtain⟨A,C,j,D,l,n⟩:=k.sep;have E:=k.met.lt;have d:∀b,nh h Mn Mm g M vs vp fv b=true->b<w.heap.size->nh h Mn Mm g M vs vp fv b=true/\w'.heap[b]?=w.heap[b]?:=λb hb c=>by
  obtain⟨F,G,H,o,I⟩:=tq.1 hb;exact⟨hb,a.block b c (λe=>o (aA e))⟩
 obtain⟨r,n2,t,u,_⟩:=kr.1 j;have c:=k.IP.lt;have f:=k.IP.apart;refine⟨⟨k.IP.turn (λb hb c=>⟨(kr.1 hb).2.2.2.2,(d b hb c).2⟩) (λb hb=>?_) (λb hb=>k.IP.fresh b (aD a.size hb)),k.box.grown a (λe=>l (aA e).symm),k.names.aR (a.block Mn k.names.lt (λe=>n (aA e))),i,?_,k.low,k.sep,k.qo,k.IW.aR d,k.wF.aR d,k.prt.aR (uT d)⟩,⟨(az B w).grown a k.lt (λq v=>by have:=k.low.2.2;rw[<-aA v];exact this),a.size,d⟩⟩
 ·rcases hb with rfl|rfl|hb|hb;·exact a.block _ c.1 (λe=>r (aA e).symm)
  ·exact a.block _ f.m (λe=>n2 (aA e).symm)
  ·exact a.block _ (f.s b hb).2.1 (λe=>t (by rw[hb];exact e))
  ·exact a.block _ (f.p b hb).2.1 (λe=>u (by rw[hb];exact e))
 ·obtain⟨dG,y,z⟩:=k.gW;exact⟨dG,y.aR λb hb c=>⟨hb,(uT d b (dX.1 hb).1 c).2⟩,pg z λb hb c=>a.block b c (λe=>(k.qo b hb).2.2.2 (aA e))⟩
theorem Ce.push{m cap c:Nat}{t:T}{u0 u1 u2:Value}{xs:List Value}(k:Ce pat b P NM pA pc bv pv B h Mn Mm g M w vs vp fv W x)(v:∃dG,oC.all (off (nb B h Mn Mm g M vs vp fv) fv.ownBlock) w dG x.gW/\xs=dG.flatten)(y:x.gW.length=m)(z:oC.gq (nb B h Mn Mm g M vs vp fv) w [u0,u1,u2] t)
 (l:w'.ownsRow B 29 3 (.slice (some ⟨c,0,none⟩) (m+1) cap) (m+1) (xs++[u0,u1,u2])) (n:iy w' h 167 (sF pat pA pc bv g pv Mn Mm (.slice (some ⟨c,0,none⟩) (m+1) cap)))
 (j:∀q,q<w.heap.size->q≠h->fv.ownBlock≠some q->w'.heap[q]?=w.heap[q]?) (A:Below B w w') (C:w.heap.size<=w'.heap.size) (o:fv.ownBlock=some c\/w.heap.size<=c):
 Ce pat b P NM pA pc bv pv B h Mn Mm g M w' vs vp (.slice (some ⟨c,0,none⟩) (m+1) cap) W ⟨x.met,x.gW++[t]⟩/\FE B h Mn Mm g M w vs vp fv w' vs vp (.slice (some ⟨c,0,none⟩) (m+1) cap):=by
 obtain⟨D,Y,Z,E,F,s6⟩:=k.sep;have d:=k.IP.lt;have i:=k.IP.apart;have G:∀q,q<w.heap.size->fv.ownBlock≠some q->c≠q:=λq a H e=>by
  rcases o with f|f;·exact H (by rw[f,e])
  ·omega
 have kk:∀b,nh h Mn Mm g M vs vp fv b=true->b<w.heap.size->nh h Mn Mm g M vs vp (.slice (some ⟨c,0,none⟩) (m+1) cap) b=true/\w'.heap[b]?=w.heap[b]?:=λb hb d=>by
  obtain⟨I,a2,a3,a4,a5⟩:=tq.1 hb;exact⟨tq.2 ⟨I,a2,a3,a4,λe=>G b d a5 (aA e)⟩,j b d a2 a5⟩
 have r:∀q,(q=g\/q=M\/vs.ownBlock=some q\/vp.ownBlock=some q)->q≠h/\fv.ownBlock≠some q:=λq a=>by
  obtain⟨J,n2,n3,K,_⟩:=kr.1 D;refine⟨λe=>?_,λe=>?_⟩
  ·subst e;rcases a with a|a|a|a;·exact J a
   ·exact n2 a
   ·exact n3 a
   ·exact K a
  ·obtain⟨L,N,O,Q,_⟩:=kr.1 (k.qo q e).1;rcases a with a|a|a|a;·exact L a
   ·exact N a
   ·exact O a
   ·exact Q a
 have R:∀q,(q=g\/q=M\/vs.ownBlock=some q\/vp.ownBlock=some q)->q<w.heap.size:=λq a=>by
  rcases a with rfl|rfl|a|a;·exact d.1
  ·exact i.m
  ·exact(i.s q a).2.1
  ·exact(i.p q a).2.1
 have S:=l.lt c rfl;have U:nr mM g M vs vp c=true/\c≠h/\c≠Mn/\c≠Mm:=by
  rcases o with f|f;·exact k.qo c f
  ·refine⟨kr.2 ⟨by have:=d.1;omega,by have:=i.m;omega,λe=>by have:=(i.s c e).2.1;omega,λe=>by have:=(i.p c e).2.1;omega,rfl⟩,by have:=k.box.lt;omega,by have:=k.names.lt;omega,by have:=k.met.lt;omega⟩
 refine⟨⟨k.IP.turn (λb hb d=>?_) (λq a=>j q (R q a) (r q a).1 (r q a).2) (λq a=>?_),n,k.names.aR (j Mn k.names.lt (jN E) (λe=>(k.qo Mn e).2.2.1 rfl)),k.met.aR (j Mm k.met.lt (jN F) (λe=>(k.qo Mm e).2.2.2 rfl)),?_,k.low,k.sep,λq a=>by rw[<-aA a];exact U,k.IW.aR kk,k.wF.aR kk,k.prt.aR (uT kk)⟩,⟨A,C,kk⟩⟩
 ·obtain⟨V,X⟩:=kk b hb d;exact⟨(kr.1 V).2.2.2.2,X⟩
 ·refine K4.2 ⟨by have:=n.lt;omega,by have:=k.names.lt;omega,by have:=k.met.lt;omega,λe=>by have e':c=q:=aA e;have:=S.2;omega⟩
 ·obtain⟨dG,f,rfl⟩:=v;refine⟨dG++[[u0,u1,u2]],?_,?_⟩
  ·have u:∀b,nb B h Mn Mm g M vs vp fv b=true->b<w.heap.size->off (nb B h Mn Mm g M vs vp (.slice (some ⟨c,0,none⟩) (m+1) cap)) (some c) b=true/\w'.heap[b]?=w.heap[b]?:=λb hb d=>by
    obtain⟨c1,c2⟩:=uT kk b hb d;exact⟨dX.2 ⟨c1,λe=>(tq.1 (xz.1 c1).1).2.2.2.2 e⟩,c2⟩
   exact(f.aR λb hb d=>u b (dX.1 hb).1 d).push (oC.aR z u)
  ·have e:([[u0,u1,u2]]:List (List Value)).flatten=[u0,u1,u2]:=rfl;rw[aF,y,pI,e];exact l
def Gl(U K:List T)(W:List fC):Prop:=Inv U W/\Wb.Sound (Wb.Part W) W/\∀x,Wb.Part W x<->An (· ∈K) x
def Yo(pat:T)(b:List Bd)(P:List T)(NM:List ByteArray)(pA:Option Addr)(pc:Nat)(bv pv:Value)(B h Mn Mm g M:Nat)(U K:List T)(w:World)(vs vp fv:Value)(a:K5)(w':World):Prop:=
 ∃vs' mK Da W',Gl U K W'/\Ce pat b P NM pA pc bv pv B h Mn Mm g M w' vs' mK Da W' a/\FE B h Mn Mm g M w vs vp fv w' vs' mK Da
end
end
section
open Go.RowKit T
attribute [local go_sem ↓] Go.wp_at_zero Go.wp_at_succ
theorem Rw{pat:T}{b:List Bd}{P:List T}{x:K5}{t:T}(h:aT.oL x.met t.key=true):aT.offer pat b P x t=x:=by unfold aT.offer;rw[aI h]
theorem Uh{pat:T}{b:List Bd}{P:List T}{x:K5}{t:T}(h:aT.oL x.met t.key=false)(a:aT.accept pat b P t=false):aT.offer pat b P x t=⟨t.key::x.met,x.gW⟩:=by unfold aT.offer;rw[aG (by rw[h];simp),aG (by rw[a];simp)]
theorem Rx{pat:T}{b:List Bd}{P:List T}{x:K5}{t:T}(h:aT.oL x.met t.key=false)(a:aT.accept pat b P t=true):aT.offer pat b P x t=⟨t.key::x.met,x.gW++[t]⟩:=by unfold aT.offer;rw[aG (by rw[h];simp),aI a]
theorem Rv{B h m a cap cf g Mn Mm pc:Nat}{b pA:Option Addr}{pat:T}{bv pv:Value}{w w6:World}{xs:List Value}(c:w6.ownsRow B 29 3 (.slice (some ⟨a,0,none⟩) (m+1) cap) (m+1) (xs++[.int .i64 0,.string ⟨#[]⟩,.slice none 0 0]))(n:w.grownBy w6 (Value.slice b m cf).ownBlock)
 (o:(Value.slice b m cf).ownBlock=some a\/a=w.heap.size) (hb:iy w h 167 (sF pat pA pc bv g pv Mn Mm (.slice b m cf))) (i:(Value.slice b m cf).ownBlock≠some h):
 w6.cell? ⟨h,8,none⟩=some (.slice b m cf)/\w6.frozen? ⟨h,8,none⟩=false/\w6.cell? ⟨a,m*3,none⟩=some (.int .i64 0)/\w6.cell? ⟨a,m*3+1,none⟩=some (.string ⟨#[]⟩)/\w6.cell? ⟨a,m*3+2,none⟩=some (.slice none 0 0)/\
   w6.frozen? ⟨a,m*3,none⟩=false/\w6.frozen? ⟨a,m*3+1,none⟩=false/\w6.frozen? ⟨a,m*3+2,none⟩=false/\a≠h/\h≠a:=by
 have j:=hb.grown n i;have k:a≠h:=λe=>by
  rcases o with l|l;·exact i (by rw[l,e])
  ·have:=hb.lt;omega
 have d:xs.length=m*3:=(by have:=c.1;simp at this;omega);have f:=λr (p:r<3)=>c.cellAt (m*3+r) (by omega);refine⟨j.cell 8 rfl,j.free 8,?_,?_,?_,c.frozenAt _,c.frozenAt _,c.frozenAt _,k,jN k⟩
 ·have:=f 0 (by omega);rw[bD (by omega),d]at this;simpa using this
 ·have:=f 1 (by omega);rw[bD (by omega),d]at this;simpa using this
 ·have:=f 2 (by omega);rw[bD (by omega),d]at this;simpa using this
theorem UR(xs:List Value)(a b c u0 u1 u2:Value):(((xs++[a,b,c]).set xs.length u0).set (xs.length+1) u1).set (xs.length+2) u2=xs++[u0,u1,u2]:=by
 rw[lK _ _ (ak _),qQ,lK _ _ (by omega),lK _ _ (by omega)];simp
theorem JO{w:World}{B d m n cap:Nat}{e:TypeId}{xs:List Value}{a b c:Value}(h:w.ownsRow B e 3 (.slice (some ⟨d,0,none⟩) n cap) n (xs++[a,b,c]))(f:xs.length=m*3)(u0 u1 u2:Value):
 (((w.setCell ⟨d,m*3,none⟩ u0).setCell ⟨d,m*3+1,none⟩ u1).setCell ⟨d,m*3+2,none⟩ u2).ownsRow B e 3 (.slice (some ⟨d,0,none⟩) n cap) n (xs++[u0,u1,u2]):=by
 have g:=(((h.stored (m*3) u0).1.stored (m*3+1) u1).1.stored (m*3+2) u2).1;rw[<-f,UR]at g;rw[<-f];exact g
theorem pQ{pat:T}{b:List Bd}{P:List T}{NM:List ByteArray}{pA c:Option Addr}{pc cf m cap a:Nat}{bv pv:Value}{B h Mn Mm g M:Nat}{w5 w6 Wd:World}{vs vp:Value}{W:List fC}{met:List ByteArray}{gW:List T}{dG:List (List Value)}{t:T}{u0 u1 u2 z0 I z2:Value}{o:Obj}
 (k:Ce pat b P NM pA pc bv pv B h Mn Mm g M w5 vs vp (.slice c m cf) W ⟨met,gW⟩) (z:gW.length=m) (A:oC.all (off (nb B h Mn Mm g M vs vp (.slice c m cf)) (Value.slice c m cf).ownBlock) w5 dG gW) (J:oC.gq (nb B h Mn Mm g M vs vp (.slice c m cf)) w5 [u0,u1,u2] t)
 (u:w6.ownsRow B 29 3 (.slice (some ⟨a,0,none⟩) (m+1) cap) (m+1) (dG.flatten++[z0,I,z2])) (r:(w5.alloc o).drew.grownBy w6 (Value.slice c m cf).ownBlock) (v:(Value.slice c m cf).ownBlock=some a\/a=(w5.alloc o).drew.heap.size) (i:a≠h)
 (K:Wd=((((w6.setCell ⟨a,m*3,none⟩ u0).setCell ⟨a,m*3+1,none⟩ u1).setCell ⟨a,m*3+2,none⟩ u2).setCell ⟨h,8,none⟩ (.slice (some ⟨a,0,none⟩) (m+1) cap))\/Wd=((((w6.setCell ⟨h,8,none⟩ (.slice (some ⟨a,0,none⟩) (m+1) cap)).setCell ⟨a,m*3,none⟩ u0).setCell ⟨a,m*3+1,none⟩ u1).setCell ⟨a,m*3+2,none⟩ u2)):
 Ce pat b P NM pA pc bv pv B h Mn Mm g M Wd vs vp (.slice (some ⟨a,0,none⟩) (m+1) cap) W ⟨met,gW++[t]⟩/\FE B h Mn Mm g M w5 vs vp (.slice c m cf) Wd vs vp (.slice (some ⟨a,0,none⟩) (m+1) cap):=by
 have s:(w5.alloc o).grownBy w6 (Value.slice c m cf).ownBlock:=⟨r.os,r.tape,r.output,r.size,r.block⟩;change(Value.slice c m cf).ownBlock=some a\/a=(w5.alloc o).heap.size at v;have X:=aK w5 o;have w:Below w5.heap.size w5 (w5.alloc o):=af w5 o;have L:(Value.slice c m cf).ownBlock≠some h:=λe=>(k.qo h e).2.1 rfl;have C:=(k.box.ag w).grown s L;have D:dG.flatten.length=m*3:=(by have:=A.LM;rw[z]at this;exact this);have E:=k.low.1;have N:=k.gW.block;have l:B<=a:=(u.lt a rfl).1;have F:Below B w5 w6:=((az B w5).t (w.m k.lt)).grown s (by have:=k.lt;omega) (λq j=>(N q j).1);have G:w5.heap.size<=w6.heap.size:=(by have:=s.size;omega);have H:∀q,q<w5.heap.size->(Value.slice c m cf).ownBlock≠some q->w6.heap[q]?=w5.heap[q]?:=λq j x=>(s.block q (by omega) (λe=>x e.symm)).t (w.block q j);have n:∀q,q<w5.heap.size->(Value.slice c m cf).ownBlock≠some q->q≠a:=λq j x e=>by
  rcases v with d|d;·exact x (by rw[d,e])
  ·omega
 have O:(Value.slice c m cf).ownBlock=some a\/w5.heap.size<=a:=v.imp id (λe=>by omega);have key:Wd.ownsRow B 29 3 (.slice (some ⟨a,0,none⟩) (m+1) cap) (m+1) (dG.flatten++[u0,u1,u2])/\iy Wd h 167 (sF pat pA pc bv g pv Mn Mm (.slice (some ⟨a,0,none⟩) (m+1) cap))/\
  (∀q,q<w5.heap.size->q≠h->(Value.slice c m cf).ownBlock≠some q->Wd.heap[q]?=w5.heap[q]?)/\Below B w5 Wd/\w5.heap.size<=Wd.heap.size:=by
  rcases K with rfl|rfl
  ·refine⟨pg (JO u D u0 u1 u2) λq j _=>aM _ _ _ _ (by rw[<-aA j];exact i),?_,λq d y f=>?_,?_,?_⟩;·exact(((C.setOther (p:=⟨a,m*3,none⟩) (jN i) u0).setOther (p:=⟨a,m*3+1,none⟩) (jN i) u1).setOther (p:=⟨a,m*3+2,none⟩) (jN i) u2).set 8 _
   ·rw[aM _ _ _ _ y,aM _ _ _ _ (n q d f),aM _ _ _ _ (n q d f),aM _ _ _ _ (n q d f)];exact H q d f
   ·exact(((F.setCell (p:=⟨a,m*3,none⟩) l u0).setCell (p:=⟨a,m*3+1,none⟩) l u1).setCell (p:=⟨a,m*3+2,none⟩) l u2).setCell (p:=⟨h,8,none⟩) E _
   ·simp only[World.setCell,lY];exact G
  ·refine⟨JO (pg u λq j _=>aM _ _ _ _ (by rw[<-aA j];exact i)) D u0 u1 u2,?_,λq d y f=>?_,?_,?_⟩;·exact((((C.set 8 _).setOther (p:=⟨a,m*3,none⟩) (jN i) u0).setOther (p:=⟨a,m*3+1,none⟩) (jN i) u1).setOther (p:=⟨a,m*3+2,none⟩) (jN i) u2)
   ·rw[aM _ _ _ _ (n q d f),aM _ _ _ _ (n q d f),aM _ _ _ _ (n q d f),aM _ _ _ _ y];exact H q d f
   ·exact(((F.setCell (p:=⟨h,8,none⟩) E _).setCell (p:=⟨a,m*3,none⟩) l u0).setCell (p:=⟨a,m*3+1,none⟩) l u1).setCell (p:=⟨a,m*3+2,none⟩) l u2
   ·simp only[World.setCell,lY];exact G
 obtain⟨Q,R,S,U,V⟩:=key;exact k.push ⟨dG,A,rfl⟩ z J Q R S U V O
theorem Um{U K:List T}(hU:yA U)(bK:∀t∈U,t.bC<=1048576)(a:∀t∈K,t.use=true)(bL:K.length<=1000){pat:T}{b:List Bd}{NM:List ByteArray}{pA:Option Addr}{pc:Nat}{bv pv:Value}{B h Mn Mm g M:Nat}{vs vp fv:Value}{W:List fC}{x:K5}
 (hL:b.length<=900000) (bO:∀y∈b,y.t.bC<=1048576) (bP:pat.bC<=1048576) (t:T) (v:Value) (w:World) (k:Ce pat b (aT.parts K) NM pA pc bv pv B h Mn Mm g M w vs vp fv W x) (c:Gl U K W) (ht:bN (nb B h Mn Mm g M vs vp fv) w v t) (aN:t.bC<=1048576) (aW:t.use=true->t∈U)
 (bQ:x.met.length<=1048576) (bR:x.gW.length<=1048576):
 Calls Tryz.prog 113 #[.pointer (some ⟨h,0,none⟩),v] w λe w'=>e=.returned (.tuple #[])/\Yo pat b (aT.parts K) NM pA pc bv pv B h Mn Mm g M U K w vs vp fv (aT.offer pat b (aT.parts K) x t) w':=by
 obtain⟨A,cap,rfl⟩:=ht.view;have aX:=af w (.cells #[.int .i64 t.aC,.string t.aJ,.slice A t.ay.length cap] 29);have bx:=jM.new w (.int .i64 t.aC) (.string t.aJ) (.slice A t.ay.length cap);have bS:nh h Mn Mm g M vs vp fv w.heap.size=true:=by
  refine tq.2 ⟨kr.2 ⟨by have:=k.IP.lt;omega,by have:=k.IP.apart.m;omega,λe=>by have:=(k.IP.apart.s _ e).2.1;omega,λe=>by have:=(k.IP.apart.p _ e).2.1;omega,rfl⟩,by have:=k.box.lt;omega,by have:=k.names.lt;omega,by have:=k.met.lt;omega,λe=>by have:=(k.gW.block _ e).2;omega⟩
 obtain⟨bT,bg,bU,bV,HM⟩:=ZU (k.ag aX) (ht.aR (S':=nb B h Mn Mm g M vs vp fv) λb hb hl=>⟨hb,aX.block b hl⟩) ((FE.refl B h Mn Mm g M w vs vp fv).ag k.lt aX) ((λW' h=>(show Calls Tryz.prog 95 #[.agg #[.int .i64 t.aC,.string t.aJ,.slice A t.ay.length cap]] W' λe w'=>e=.returned (.string t.key)/\Below W'.heap.size W' w' from Dr t _ W' h aN))) (λv1 v2 v3 W' h1 h2 h3=>P8 pat t b v1 v2 v3 W' h1 h2 h3 hL bO bP aN);have dC:=t.Ha aN;obtain⟨aY,aO,aZ⟩:=ZR (Rw (pat:=pat) (b:=b) (P:=aT.parts K) (x:=x) (t:=t)) (Uh (pat:=pat) (b:=b) (P:=aT.parts K) (x:=x) (t:=t)) (Rx (pat:=pat) (b:=b) (P:=aT.parts K) (x:=x) (t:=t));obtain⟨R,hR⟩:∃R,aT.offer pat b (aT.parts K) x t=R:=⟨_,rfl⟩;rw[hR]at aY aO aZ⊢;obtain⟨bi,bW,bn,bq,dD⟩:=ZU ((show aT.accept pat b (aT.parts K) t=((oM pat t b).isSome&&aT.can (aT.parts K) t)from rfl)) (Ti a bL hU c.1 c.2.1 c.2.2 aW) (Vv hU aW c.1 c.2.1) c ((λv1 W' vs' mK (hw:gD (xh h Mn Mm fv) B W' g M vs' mK W) (hT:bN (nr (xh h Mn Mm fv) g M vs' mK) W' v1 t)=>XV (X:=xh h Mn Mm fv) hU bK (B:=B) (g:=g) (M:=M) t v1 W' c.1 hw hT aN aW));obtain⟨key,bY⟩:∃key,t.key=key:=⟨_,rfl⟩;rw[bY]at bV aY aO aZ dC;obtain⟨md,bu⟩:∃q,aT.oL x.met key=q:=⟨_,rfl⟩;rw[bu]at aY aO aZ;obtain⟨dE,bZ,bz,aP⟩:=ZT bu (And.intro bQ bR) bS k.lt;clear aX k ht hR bY c hL bO bP aN aW a bL bQ bR bu bS hU bK;go_enter Tryz.func113,Tryz.ntmps113;go_upto_region 1 with fail;generalize w.alloc (.cells #[.int .i64 t.aC,.string t.aJ,.slice A t.ay.length cap] 29)=w1 at bx bT bg bU⊢;obtain⟨C,cu⟩:∃C,w.heap.size=C:=⟨_,rfl⟩;rw[cu]at bx bz⊢;clear cu;obtain⟨x0,x1,x2⟩:=bx.cells;have BX:=aa bx;clear bx;go_wp2_with fail;refine(bV.o w1 bg.o.at).m ?_;rintro e w2 ⟨rfl,aQ⟩;obtain⟨aS,dF,cz,dH⟩:=ZT (bT.o.ag aQ) (bg.o.aR (S':=nb B h Mn Mm g M vs vp fv) λb hb hl=>⟨hb,aQ.block b hl⟩) (bU.o.ag aP.o aQ) (BX.o.ag aQ);clear aQ x0 x1 x2;have dI:=aS.o.met.look key (by unfold maxLen;omega);rw[dE.o]at dI;have m7:=aS.o.box.cell 7 (u:=.map (some Mm)) rfl;cases md with
 |true=>
  have dJ:=aa (aY.o rfl);go_wp2_with fail;refine bG (v:=.tuple #[]) (by simp[results,Tryz.results113,go_sem]) rfl ?_;exact⟨rfl,by rw[dJ.o];exact⟨vs,vp,fv,W,bq.o,aS.o,cz.o⟩⟩
 |false=>
  obtain⟨w3,eu,cK,bA⟩:=aS.o.met.put (by have:=bZ.o.1;unfold maxLen;omega) key (by unfold maxLen;omega);obtain⟨k3,f3⟩:=aS.o.X9 cK bA;obtain⟨J,cO,bB⟩:=ZR k3 (cz.o.t f3) (dF.o.aR f3.Xb);have cZ:=aa (dH.o.grown bA (λe=>by have:=(tq.1 bz.o).2.2.2.1;exact this (aA e).symm));clear cK bA k3 f3;go_upto_region 4 with fail;have c0:=J.o.box.cell 0 (u:=.int .i64 pat.aC) rfl;have c1:=J.o.box.cell 1 (u:=.string pat.aJ) rfl;have c2:=J.o.box.cell 2 (u:=.slice pA pat.ay.length pc) rfl;have c3:=J.o.box.cell 3 (u:=bv) rfl;obtain⟨L,N,O⟩:=cZ.o.cells;cases aU:oM pat t b with
  |none=>
   have E:=aa (aO.o (by trivial) (by rw[bi.o,aU];rfl));rw[aU]at HM;clear aU;refine bX (S:=(λd=>d.cell? ⟨h,0,none⟩=some (.int .i64 pat.aC)/\d.cell? ⟨h,1,none⟩=some (.string pat.aJ)/\d.cell? ⟨h,2,none⟩=some (.slice pA pat.ay.length pc)/\d.cell? ⟨h,3,none⟩=some bv/\d.cell? ⟨C,0,none⟩=some (.int .i64 t.aC)/\d.cell? ⟨C,1,none⟩=some (.string t.aJ)/\d.cell? ⟨C,2,none⟩=some (.slice A t.ay.length cap)/\Below w3.heap.size w3 d)) (by kernel_rfl) (show _/\_/\_/\_/\_/\_/\_/\_ from⟨c0,c1,c2,c3,L,N,O,(az _ w3).drew⟩) (λhHeld=>?_);refine cB 0 _ ?_;refine cB 1 _ ?_;refine cB 2 _ ?_;refine cB 3 _ ?_;refine cB 4 _ ?_;refine cB 5 _ ?_;refine cB 6 _ ?_;refine cB 7 _ ?_;refine cB 8 _ ?_;(refine ve 9 λK a=>?_;go_simp;go_at_call 118;refine(HM.o _ _ _ _ (J.o.ag hHeld.2.2.2.2.2.2.2).IW.at (bB.o.aR (S':=λ_=>true) λb hb hl=>⟨rfl,(hHeld.2.2.2.2.2.2.2).block b hl⟩).at (J.o.ag hHeld.2.2.2.2.2.2.2).wF.at).m ?_;rintro e wz ⟨bD,he⟩;obtain⟨v6,rfl⟩:=(show ∃v,e=.returned (.tuple #[v,.bool false])from he);refine mH a (ER hHeld bD) λhHeld=>?_;clear a K);refine cB 10 _ ?_;refine cB 11 _ ?_;refine cB 12 _ ?_;refine cB 13 _ ?_;refine cB 14 _ ?_;refine dR (by kernel_rfl) ?_ _;obtain⟨bf,bE⟩:=ZQ (J.o.ag hHeld.2.2.2.2.2.2.2) (cO.o.ag aP.o hHeld.2.2.2.2.2.2.2);clear hHeld c0 c1 c2 c3 L N O he;go_upto_region 5 with fail;go_quiet (fail);go_wp2_with fail;go_end0;exact⟨rfl,by rw[E.o];exact⟨vs,vp,fv,W,bq.o,bf.o.ag (vL nq (az _ _)),bE.o.ag aP.o (vL nq (az _ _))⟩⟩
  |some y=>
   rw[aU]at HM bi;clear aU;refine bX (S:=(λd=>d.cell? ⟨h,0,none⟩=some (.int .i64 pat.aC)/\d.cell? ⟨h,1,none⟩=some (.string pat.aJ)/\d.cell? ⟨h,2,none⟩=some (.slice pA pat.ay.length pc)/\d.cell? ⟨h,3,none⟩=some bv/\d.cell? ⟨C,0,none⟩=some (.int .i64 t.aC)/\d.cell? ⟨C,1,none⟩=some (.string t.aJ)/\d.cell? ⟨C,2,none⟩=some (.slice A t.ay.length cap)/\Below w3.heap.size w3 d)) (by kernel_rfl) (show _/\_/\_/\_/\_/\_/\_/\_ from⟨c0,c1,c2,c3,L,N,O,(az _ w3).drew⟩) (λhHeld=>?_);refine cB 0 _ ?_;refine cB 1 _ ?_;refine cB 2 _ ?_;refine cB 3 _ ?_;refine cB 4 _ ?_;refine cB 5 _ ?_;refine cB 6 _ ?_;refine cB 7 _ ?_;refine cB 8 _ ?_;(refine ve 9 λK a=>?_;go_simp;go_at_call 118;refine(HM.o _ _ _ _ (J.o.ag hHeld.2.2.2.2.2.2.2).IW.at (bB.o.aR (S':=λ_=>true) λb hb hl=>⟨rfl,(hHeld.2.2.2.2.2.2.2).block b hl⟩).at (J.o.ag hHeld.2.2.2.2.2.2.2).wF.at).m ?_;rintro e wz ⟨bD,he⟩;obtain⟨v6,rfl,_⟩:=(show ∃v,e=.returned (.tuple #[v,.bool true])/\Cb (eG _) wz v y from he);refine mH a (ER hHeld bD) λhHeld=>?_;clear a K);refine cB 10 _ ?_;refine cB 11 _ ?_;refine cB 12 _ ?_;refine cB 13 _ ?_;refine cB 14 _ ?_;refine dR (by kernel_rfl) ?_ _;obtain⟨bf,bE,dK,df⟩:=ZT (J.o.ag hHeld.2.2.2.2.2.2.2) (cO.o.ag aP.o hHeld.2.2.2.2.2.2.2) (bB.o.aR (S':=nb B h Mn Mm g M vs vp fv) λb hb hl=>⟨hb,hHeld.2.2.2.2.2.2.2.block b hl⟩) (cZ.o.ag hHeld.2.2.2.2.2.2.2);clear hHeld c0 c1 c2 c3 L N O he;have c4:=bf.o.box.cell 4 (u:=.pointer (some ⟨g,0,none⟩)) rfl;obtain⟨L,N,O⟩:=df.o.cells;go_upto_region 5 with fail;obtain⟨dh,dm,dM,dw⟩:=ZT (dK.o.aR (w':=wz.drew) (S':=nb B h Mn Mm g M vs vp fv) λb hb _=>⟨hb,rfl⟩) (bf.o.ag (az _ _).drew) (bE.o.ag aP.o (az _ _).drew) (df.o.ag (az _ _).drew);have Q:=aa (dD.o _ wz.drew vs vp dm.o.IP (dh.o.aR λq hq _=>⟨(xz.1 hq).1,rfl⟩));obtain⟨cb,dx⟩:∃q,Gz W t=q:=⟨_,rfl⟩;rw[dx]at Q bW;have dA:=aa (show aT.accept pat b (aT.parts K) t=cb by rw[bi.o,<-bW.o];simp);clear dx;go_still_tail 7,(by kernel_rfl);change wpList _ _ _ _ _ wz.drew;go_wp2_with fail;refine Q.o.m ?_;rintro e r ⟨rfl,dB⟩;obtain⟨F,G,k5,f5⟩:=dm.o.Ze dB;obtain⟨D,H,dN,dO,I⟩:=ZU k5 (dM.o.t f5) (dh.o.aR f5.Xb) ((f5.aR C bz.o dw.o.lt).2.t dw.o) (show Gl U K (GA W t)from⟨bn.o.1,bn.o.2.1,λx=>(bn.o.2.2 x).t (bq.o.2.2 x)⟩);clear dB k5 f5 c4 L N O Q;cases cb with
   |false=>
    have E:=aa (aO.o (by trivial) dA.o);go_wp2_with fail;go_end0;exact⟨rfl,by rw[E.o];exact⟨F,G,fv,_,I.o,D.o,H.o⟩⟩
   |true=>
    have E:=aa (aZ.o (by trivial) dA.o);go_upto_region 6 with fail;obtain⟨i0,dQ,dS,dU,dW⟩:=dV Tryz.uI;obtain⟨V,cf,dG,bF,bH,aV⟩:=D.o.gW.cells;obtain⟨m,hm⟩:∃m,x.gW.length=m:=⟨_,rfl⟩;replace bF:fv=.slice V m cf:=(by rw[bF];show Value.slice V x.gW.length cf=_;rw[hm]);subst bF;have aV:r.ownsRow B 29 3 (.slice V m cf) m dG.flatten:=by
     have h1:x.gW.length=m:=hm;simp only[h1]at aV;exact aV
    have c8:=D.o.box.cell 8 (u:=.slice V m cf) rfl;obtain⟨L,N,O⟩:=(show jM r C _ _ _ from dO.o).cells;have aL:=af r (.cells #[.int .i64 0,.string ⟨#[]⟩,.slice none 0 0] 29);obtain⟨eB,HOWN⟩:=ZQ aL ((show(r.alloc (.cells #[.int .i64 0,.string ⟨#[]⟩,.slice none 0 0] 29)).ownsRow B 29 3 (.slice V m cf) m dG.flatten from dz aV aL));have dX:=aa (show ∀u∈([.int .i64 0,.string ⟨#[]⟩,.slice none 0 0]:List Value),u.oneCell'=true from λu hu=>by simp at hu;rcases hu with rfl|rfl|rfl<;>rfl);have dY:=aa (show B<=(r.alloc (.cells #[.int .i64 0,.string ⟨#[]⟩,.slice none 0 0] 29)).heap.size by rw[aK];exact oo D.o.lt);have eD:m<=1048576:=(by rw[<-hm];exact bZ.o.2);have eH:(0:Int)<=(m:Int):=(by omega);have eO:(m:Int)<(m:Int)+1:=(by omega);have Y:=aa hm;have Z:=aa (show oC.all (off (nb B h Mn Mm g M F G (.slice V m cf)) (Value.slice V m cf).ownBlock) r dG x.gW from by have h1:x.gW.length=m:=hm;simp only[h1]at bH;exact bH);obtain⟨ai,d9⟩:=ZQ ((show oC.gq (nb B h Mn Mm g M F G (.slice V m cf)) r [.int .i64 t.aC,.string t.aJ,.slice A t.ay.length cap] t from⟨A,cap,rfl,dN.o⟩)) (D.o.box.ag aL);obtain⟨q8,q0,q1,q2⟩:=Z4 aL c8 L N O;have ed:=aa (λe=>(D.o.qo h e).2.1 rfl);clear bH aV hm aL;have Q:=aa (show r.cell? ⟨h,8,none⟩=some (.slice V m cf)/\r.cell? ⟨C,0,none⟩=some (.int .i64 t.aC)/\r.cell? ⟨C,1,none⟩=some (.string t.aJ)/\r.cell? ⟨C,2,none⟩=some (.slice A t.ay.length cap)/\Below r.heap.size r r from⟨c8,L,N,O,az _ _⟩);clear c8 L N O;refine gI (S:=(λd=>d.cell? ⟨h,8,none⟩=some (.slice V m cf)/\d.cell? ⟨C,0,none⟩=some (.int .i64 t.aC)/\d.cell? ⟨C,1,none⟩=some (.string t.aJ)/\d.cell? ⟨C,2,none⟩=some (.slice A t.ay.length cap)/\Below r.heap.size r d)) (λi=>if [7,8,9,10,11,12].contains i then 2 else 0) (by kernel_rfl) (show _/\_/\_/\_/\_ from⟨Q.o.1,Q.o.2.1,Q.o.2.2.1,Q.o.2.2.2.1,(az _ r).drew⟩) (λhHeld=>?_);refine gG 0 _ ?_;refine gG 1 _ ?_;refine gG 2 _ ?_;refine gG 3 _ ?_;refine gG 4 _ ?_;refine gG 5 _ ?_;refine x8 6 λK a=>?_;(go_simp;(first|refine yS a (gX Q.o (jL hHeld.2.2.2.2 _)) λg9 aM bI bJ=>?_|refine rP a (gX Q.o (jq hHeld.2.2.2.2 _)) λg9 aM bI bJ=>?_);have eP:=aa (show r.heap.size<=g9 by rw[<-aM];exact hHeld.2.2.2.2.size);replace hHeld:=bJ;have ek:=aa bI;(first|rw[aM]|(change r.heap.size=g9 at aM;subst aM));(try have eQ:=aa aM);(try clear aM);clear a K bI bJ);refine yh 7 λK a=>?_;((refine dZ _ (by rfl) _ _ _ (by rfl) B 29 i0 _ 3 48 bM dQ dS dU dW rfl (by omega) _ m _ (by rfl) HOWN.o ⟨_,0,none⟩ 1 1 [.int .i64 0,.string ⟨#[]⟩,.slice none 0 0] (by rfl) (by rfl) (di ek.o) dX.o (by omega) (by unfold maxLen;omega) (by omega) dY.o _ rfl ?_;intro gf eT w6 j l n ak;obtain⟨p8,av,ax,aB,aD,aF,aG,aH,o,aI⟩:=Rv j l n d9.o ed.o;go_simp);refine rW a ?_;clear a K);refine iN (rs:=[8,10]) (by kernel_rfl) (by simp) (K6 8 (λK a=>?_) ((K6 10 (λK a=>?_) (gY.nil))))
    ·(go_simp;refine rW a ?_;clear a K);refine iN (rs:=[9,10]) (by kernel_rfl) (by simp) (K6 9 (λK a=>?_) ((K6 10 (λK a=>?_) (gY.nil))))
     ·(go_simp;refine rW a ?_;clear a K);refine yh 10 λK a=>?_;(go_simp;refine rW a ?_;clear a K);refine yh 11 λK a=>?_;(go_simp;refine rW a ?_;clear a K);refine yh 12 λK a=>?_;(go_simp;refine rW a ?_;clear a K);refine dL (by kernel_rfl) ?_ _;have z:=aa (λWd c=>pQ (Wd:=Wd) D.o Y.o Z.o ai.o j l n o c);clear hHeld j l n ak p8 av ax aB aD aF aG aH o aI;go_wp2_with fail;go_end0;rw[E.o];exact⟨rfl,F,G,_,_,I.o,uK id (λf=>H.o.t f) (z.o _ (by first|exact .inl rfl|exact .inr rfl))⟩
     ·(go_simp;refine rW a ?_;clear a K);refine iN (rs:=[9,11]) (by kernel_rfl) (by simp) (K6 9 (λK a=>?_) ((K6 11 (λK a=>?_) (gY.nil))))
      ·(go_simp;refine rW a ?_;clear a K);refine yh 11 λK a=>?_;(go_simp;refine rW a ?_;clear a K);refine yh 12 λK a=>?_;(go_simp;refine rW a ?_;clear a K);refine dL (by kernel_rfl) ?_ _;have z:=aa (λWd c=>pQ (Wd:=Wd) D.o Y.o Z.o ai.o j l n o c);clear hHeld j l n ak p8 av ax aB aD aF aG aH o aI;go_wp2_with fail;go_end0;rw[E.o];exact⟨rfl,F,G,_,_,I.o,uK id (λf=>H.o.t f) (z.o _ (by first|exact .inl rfl|exact .inr rfl))⟩
      ·(go_simp;refine rW a ?_;clear a K);refine iN (rs:=[9,12]) (by kernel_rfl) (by simp) (K6 9 (λK a=>?_) ((K6 12 (λK a=>?_) (gY.nil))))
       ·(go_simp;refine rW a ?_;clear a K);refine yh 12 λK a=>?_;(go_simp;refine rW a ?_;clear a K);refine dL (by kernel_rfl) ?_ _;have z:=aa (λWd c=>pQ (Wd:=Wd) D.o Y.o Z.o ai.o j l n o c);clear hHeld j l n ak p8 av ax aB aD aF aG aH o aI;go_wp2_with fail;go_end0;rw[E.o];exact⟨rfl,F,G,_,_,I.o,uK id (λf=>H.o.t f) (z.o _ (by first|exact .inl rfl|exact .inr rfl))⟩
       ·(go_simp;refine rW a ?_;clear a K);refine yh 9 λK a=>?_;(go_simp;refine rW a ?_;clear a K);refine dL (by kernel_rfl) ?_ _;have z:=aa (λWd c=>pQ (Wd:=Wd) D.o Y.o Z.o ai.o j l n o c);clear hHeld j l n ak p8 av ax aB aD aF aG aH o aI;go_wp2_with fail;go_end0;rw[E.o];exact⟨rfl,F,G,_,_,I.o,uK id (λf=>H.o.t f) (z.o _ (by first|exact .inl rfl|exact .inr rfl))⟩
    ·(go_simp;refine rW a ?_;clear a K);refine iN (rs:=[8,11]) (by kernel_rfl) (by simp) (K6 8 (λK a=>?_) ((K6 11 (λK a=>?_) (gY.nil))))
     ·(go_simp;refine rW a ?_;clear a K);refine iN (rs:=[9,11]) (by kernel_rfl) (by simp) (K6 9 (λK a=>?_) ((K6 11 (λK a=>?_) (gY.nil))))
      ·(go_simp;refine rW a ?_;clear a K);refine yh 11 λK a=>?_;(go_simp;refine rW a ?_;clear a K);refine yh 12 λK a=>?_;(go_simp;refine rW a ?_;clear a K);refine dL (by kernel_rfl) ?_ _;have z:=aa (λWd c=>pQ (Wd:=Wd) D.o Y.o Z.o ai.o j l n o c);clear hHeld j l n ak p8 av ax aB aD aF aG aH o aI;go_wp2_with fail;go_end0;rw[E.o];exact⟨rfl,F,G,_,_,I.o,uK id (λf=>H.o.t f) (z.o _ (by first|exact .inl rfl|exact .inr rfl))⟩
      ·(go_simp;refine rW a ?_;clear a K);refine iN (rs:=[9,12]) (by kernel_rfl) (by simp) (K6 9 (λK a=>?_) ((K6 12 (λK a=>?_) (gY.nil))))
       ·(go_simp;refine rW a ?_;clear a K);refine yh 12 λK a=>?_;(go_simp;refine rW a ?_;clear a K);refine dL (by kernel_rfl) ?_ _;have z:=aa (λWd c=>pQ (Wd:=Wd) D.o Y.o Z.o ai.o j l n o c);clear hHeld j l n ak p8 av ax aB aD aF aG aH o aI;go_wp2_with fail;go_end0;rw[E.o];exact⟨rfl,F,G,_,_,I.o,uK id (λf=>H.o.t f) (z.o _ (by first|exact .inl rfl|exact .inr rfl))⟩
       ·(go_simp;refine rW a ?_;clear a K);refine yh 9 λK a=>?_;(go_simp;refine rW a ?_;clear a K);refine dL (by kernel_rfl) ?_ _;have z:=aa (λWd c=>pQ (Wd:=Wd) D.o Y.o Z.o ai.o j l n o c);clear hHeld j l n ak p8 av ax aB aD aF aG aH o aI;go_wp2_with fail;go_end0;rw[E.o];exact⟨rfl,F,G,_,_,I.o,uK id (λf=>H.o.t f) (z.o _ (by first|exact .inl rfl|exact .inr rfl))⟩
     ·(go_simp;refine rW a ?_;clear a K);refine iN (rs:=[8,12]) (by kernel_rfl) (by simp) (K6 8 (λK a=>?_) ((K6 12 (λK a=>?_) (gY.nil))))
      ·(go_simp;refine rW a ?_;clear a K);refine iN (rs:=[9,12]) (by kernel_rfl) (by simp) (K6 9 (λK a=>?_) ((K6 12 (λK a=>?_) (gY.nil))))
       ·(go_simp;refine rW a ?_;clear a K);refine yh 12 λK a=>?_;(go_simp;refine rW a ?_;clear a K);refine dL (by kernel_rfl) ?_ _;have z:=aa (λWd c=>pQ (Wd:=Wd) D.o Y.o Z.o ai.o j l n o c);clear hHeld j l n ak p8 av ax aB aD aF aG aH o aI;go_wp2_with fail;go_end0;rw[E.o];exact⟨rfl,F,G,_,_,I.o,uK id (λf=>H.o.t f) (z.o _ (by first|exact .inl rfl|exact .inr rfl))⟩
       ·(go_simp;refine rW a ?_;clear a K);refine yh 9 λK a=>?_;(go_simp;refine rW a ?_;clear a K);refine dL (by kernel_rfl) ?_ _;have z:=aa (λWd c=>pQ (Wd:=Wd) D.o Y.o Z.o ai.o j l n o c);clear hHeld j l n ak p8 av ax aB aD aF aG aH o aI;go_wp2_with fail;go_end0;rw[E.o];exact⟨rfl,F,G,_,_,I.o,uK id (λf=>H.o.t f) (z.o _ (by first|exact .inl rfl|exact .inr rfl))⟩
      ·(go_simp;refine rW a ?_;clear a K);refine yh 8 λK a=>?_;(go_simp;refine rW a ?_;clear a K);refine yh 9 λK a=>?_;(go_simp;refine rW a ?_;clear a K);refine dL (by kernel_rfl) ?_ _;have z:=aa (λWd c=>pQ (Wd:=Wd) D.o Y.o Z.o ai.o j l n o c);clear hHeld j l n ak p8 av ax aB aD aF aG aH o aI;go_wp2_with fail;go_end0;rw[E.o];exact⟨rfl,F,G,_,_,I.o,uK id (λf=>H.o.t f) (z.o _ (by first|exact .inl rfl|exact .inr rfl))⟩
end
end Go.Proofs.YtaciciokmpbkkaaGreatDoor
