import Derived.Test.YtaciciokmpbkkaaGreatDoorWebG25
import Derived.Test.YtaciciokmpbkkaaGreatDoorWebG26
set_option maxRecDepth 100000
set_option maxHeartbeats 16000000
namespace Go.Proofs.YtaciciokmpbkkaaGreatDoor
section
open Go.RowKit Go.Maps T
attribute [local go_sem ↓] Go.wp_at_zero Go.wp_at_succ
theorem Np{s:List iZ}{f i:Nat}{v:aT.xD}{p:aT.Lc}(a:v.jb[i]?=some p):aT.search s (f+1) i v=aT.search s f (i+1) ((aT.jG s p.x).foldl (aT.turn s i) v):=by
 simp only[aT.search,a]
theorem Nq{s:List iZ}{f i:Nat}{v:aT.xD}(h:v.jb.length<=i):aT.search s f i v=v:=by
 cases f with
 |zero=>rfl
 |succ f=>simp only[aT.search,ig h]
theorem Lt{s:List iZ}{x:jZ}(h:Pn s x):(aT.jG s x).length<=4000*s.length:=Ex h s.length
abbrev Xc(v:aT.xD):List (List UInt8):=v.jb.map λq=>aT.iU q.x
def Vh:El (List oF) where
 ty:=57
 size:=1
 gq S w xs l:=∃A c,xs=[.slice A l.length c]/\jK CG S w (.slice A l.length c) l
 len:=λ⟨_,_,e,_⟩=>by rw[e];rfl
 one:=λ⟨_,_,e,_⟩ u hu=>by rw[e]at hu;simp at hu;rw[hu];rfl
 aR:=λ⟨A,c,a,b⟩ d=>⟨A,c,a,b.aR d⟩
 pos:=by decide
theorem Tryz.YL:(Tryz.prog.info? 57).map (λi=>(i.zero,i.size,i.bytes))=some (some (.slice none 0 0),1,24):=by kernel_rfl
theorem gV.Zo{S:Nat->Bool}{base g:Nat}{w w':World}{v:Value}{L:List (List oF)}(h:gV Vh S base w v L)(m:∀i s,w.cell? ⟨g,i,none⟩≠some (.string s))(t:g<base)(f:∀b,b≠g->w'.heap[b]?=w.heap[b]?):jK Vh mf w' v L:=by
 obtain⟨dG,k,d⟩:=h;have n:Vh.all mf w' dG L:=⟨k.1,λi a b=>by
  obtain⟨A,c,e,o⟩:=k.2 i a b;exact⟨A,c,e,o.Zm ⟨m,λb hb _ _=>⟨rfl,f b hb⟩⟩⟩⟩
 have x:=d.lt;rcases d.2 with⟨rfl,h0⟩|⟨q,cap,y,rfl,z,_,p,r,_⟩;·exact⟨none,0,by rw[h0],by omega,aL _,.inl h0⟩
 ·refine⟨_,cap,rfl,p,r,.inr ⟨q,0,dG,rfl,rfl,n,λj u hu=>?_⟩⟩;have l:=d.cells (g:=q) rfl j u hu;rw[bS]at l;exact(dD (f q (by omega))).t l
theorem iy.VT{w:World}{g:Nat}{ty:TypeId}{a:Int}{b:Bool}{A:Option Addr}{n c:Nat}(h:iy w g ty [.int .i64 a,.bool b,.slice A n c]):∀i s,w.cell? ⟨g,i,none⟩≠some (.string s):=λi s e=>by
 have h':=h;unfold iy at h';unfold World.cell? at e;rw[h']at e
 match i,e with
 |0,e=>cases e
 |1,e=>cases e
 |2,e=>cases e
 |i+3,e=>simp at e
theorem UT(w:World)(g:Nat)(x y z:Value)(b:Nat)(h:b≠g):(((w.setCell ⟨g,0,none⟩ x).setCell ⟨g,1,none⟩ y).setCell ⟨g,2,none⟩ z).heap[b]?=w.heap[b]?:=
 (aM _ _ _ _ h).t ((aM _ _ _ _ h).t (aM _ _ _ _ h))
theorem kK.XP{X:Nat->Bool}{s:List iZ}{sv:Value}{B g Mn Ma Mg N NA:Nat}{w:World}{fv:Value}{v:aT.xD}{KS:List (List UInt8)}(h:kK X s sv B g Mn Ma Mg N NA w fv v KS){i k:Nat}(hi:i<=1048576)(d:k<=1048576):∃(A:Option Addr) (n c:Nat),(∀W,Below w.heap.size w W->(Instr.lookup 92 (.map (some Ma)) (.agg #[.int .i64 i,.int .i64 k]) true).run Tryz.prog W=.ok (.tuple #[.slice A n c,.bool (v.ow.lookup (i,k)).isSome]) W)/\∀l,v.ow.lookup (i,k)=some l->jK CG (sx X g Mn Ma Mg fv) w (.slice A n c) l:=by
 obtain⟨n,F,j,r,m⟩:=h.ow;have b:=m i k hi d;cases a:v.ow.lookup (i,k)with
 |none=>
  rw[a]at b;refine⟨none,0,0,λW f=>?_,λl e=>by cases e⟩;have a:=(j.ag f).look_ok zS ou (z:=.slice none 0 0) (o6 W) (Ml hi d);rw[a,b];rfl
 |some l=>
  rw[a]at b;obtain⟨u,o,A,c,rfl,p⟩:=b;refine⟨A,l.length,c,λW f=>?_,λq e=>?_⟩
  ·have a:=(j.ag f).look_ok zS ou (z:=.slice none 0 0) (o6 W) (Ml hi d);rw[a,o];rfl
  ·obtain rfl:l=q:=(by injection e);exact⟨A,c,rfl,p⟩
def Bu(v:aT.xD)(a k:Nat):List (List oF):=(List.range k).filterMap λk=>v.ow.lookup (a,k)
theorem Jf(v:aT.xD)(a k:Nat):Bu v a (k+1)=Bu v a k++(v.ow.lookup (a,k)).toList:=by
 unfold Bu;rw[lV,List.filterMap_append];cases h:v.ow.lookup (a,k)<;>simp[h]
def zo(s:List iZ)(v:aT.xD)(a:Nat):List (List oF):=(List.range a).flatMap λi=>Bu v i (((s[i]?).map λx=>x.2.length).getD 0)
theorem Je(s:List iZ)(v:aT.xD)(a:Nat):zo s v (a+1)=zo s v a++Bu v a (((s[a]?).map λx=>x.2.length).getD 0):=by
 unfold zo;rw[lV,jw];simp
theorem Lf(v:aT.xD)(a k:Nat):(Bu v a k).length<=k:=aD (List.length_filterMap_le _ _) (by simp)
theorem Le{s:List iZ}(h:zb s)(v:aT.xD):∀a,(zo s v a).length<=16*a
 |0=>by simp[zo]
 |a+1=>by
  have b:=Le h v a;have c:=Lf v a (((s[a]?).map λx=>x.2.length).getD 0);have d:((s[a]?).map λx=>x.2.length).getD 0<=16:=by
   cases e:s[a]? with
   |none=>exact aL _
   |some x=>exact h.ml x (eT e)
  rw[Je,aF];omega
def CJ(s:List iZ)(K:List T)(w:World)(e:Ending)(w':World):Prop:=
 ∃A c,e=.returned (.tuple #[.agg #[.int .i64 (aT.qz s K).jb.length,.bool (aT.qz s K).all,.slice A (aT.AP s (aT.qz s K)).length c],.int .i64 0])/\jK Vh mf w' (.slice A (aT.AP s (aT.qz s K)).length c) (aT.AP s (aT.qz s K))/\Below w.heap.size w w'
theorem Uf(s:List iZ)(K:List T)(vs:Value)(A:Option Addr)(cap:Nat)(w:World)(hs:wL w vs s)(L:gM w A cap K)(bP:zb s)(aV:Sy s K)(U:∀x∈s,x.1.size<=maxLen/\x.2.length<=maxLen/\∀m∈x.2,m.2.bC<=1048576)
 (fu:∀t∈K,t.bC<=1048576) (av:K.length<=1048576) (bQ:aT.lU s K=0) (fA:aT.moves s<=1048576):
 Calls Tryz.prog 16 #[vs,.slice A K.length cap] w (CJ s K w):=by
 obtain⟨As,cs,rfl,ik,kg,-⟩:=id hs;obtain⟨n,hn⟩:∃n,s.length=n:=⟨_,rfl⟩;obtain⟨kn,O⟩:∃n,K.length=n:=⟨_,rfl⟩;have aW:=af w (.cells #[.int .i64 0,.bool false,.slice none 0 0] 47);obtain⟨dh,il,di,bR⟩:=ZT (hs.ag aW) (L.ag aW) aW (iy.new w [.int .i64 0,.bool false,.slice none 0 0] 47);obtain⟨x0,dm⟩:∃x,aT.jV s K=x:=⟨_,rfl⟩;have dw:=aa dm;have bA:=aa (show Calls Tryz.prog 11 #[.slice As s.length cs,.slice A K.length cap] (w.alloc (.cells #[.int .i64 0,.bool false,.slice none 0 0] 47)) (λe w'=>∃v,e=.returned (.tuple #[v,.int .i64 0])/\qi (eG (w.alloc (.cells #[.int .i64 0,.bool false,.slice none 0 0] 47)).heap.size) w' v x0/\Below (w.alloc (.cells #[.int .i64 0,.bool false,.slice none 0 0] 47)).heap.size (w.alloc (.cells #[.int .i64 0,.bool false,.slice none 0 0] 47)) w')from
  (T9 s K (.slice As s.length cs) A cap (w.alloc (.cells #[.int .i64 0,.bool false,.slice none 0 0] 47)) (hs.ag aW).strs (L.ag aW) U fA (by have:=bP.sl;omega) fu av).m λe w' h=>by
    obtain⟨u,V,h2,h3⟩:=h;have P:FI s K=x0:=(by unfold FI;rw[aI bQ];exact dm);rw[P]at h2;exact⟨u,by rw[V,bQ],h2,h3⟩)
 obtain⟨HN,ko,aB,dB,kr⟩:=ZU hn O bP aV bQ;have ku:n<=16:=(by have:=bP.sl;omega);rw[hn]at bA dh ik⊢;rw[O]at bA⊢;clear hs L U fu av bQ fA bP aV aW hn O dm;go_enter Tryz.func16,Tryz.ntmps16;go_upto_region 1 with fail;generalize w.alloc (.cells #[.int .i64 0,.bool false,.slice none 0 0] 47)=w1 at dh il di bA bR⊢;obtain⟨o,bS⟩:∃q,w.heap.size=q:=⟨_,rfl⟩;rw[bS]at bR⊢;have iq:=aa bS;clear bS;go_wp2_with fail;refine bA.o.m ?_;rintro e w2 ⟨u2,rfl,iA,bU⟩;obtain⟨Ax,cx,Bx,dx,rfl,aX,O⟩:=iA;obtain⟨lx,dC⟩:∃l,x0.aS.length=l:=⟨_,rfl⟩;obtain⟨kx,dD⟩:∃l,x0.bH.length=l:=⟨_,rfl⟩;obtain⟨aY,dE⟩:=ZQ dC dD;rw[dC]at aX⊢;rw[dD]at O⊢;have bB:=af w2 (.cells #[.slice Ax lx cx,.slice Bx kx dx] 35);have aD:=iy.new w2 [.slice Ax lx cx,.slice Bx kx dx] 35;change iy (w2.alloc (.cells #[.slice Ax lx cx,.slice Bx kx dx] 35)) w2.heap.size _ _ at aD;obtain⟨dF,dH,bD,bV⟩:=ZT (aX.any.ag bB) (O.any.ag bB) (bU.t (bB.m bU.size)) ((dh.o.ag bU).ag bB);clear aX O bU bB dC dD bA;go_upto_region 4 with fail;generalize w2.alloc (.cells #[.slice Ax lx cx,.slice Bx kx dx] 35)=w3 at aD dF dH bD bV⊢;generalize w2.heap.size=q1 at aD⊢;go_cut [8]from 28 to 39 (λpv wc=>∃g Mn Ma Mg fv,pv=.pointer (some ⟨g,0,none⟩)/\kK mM s (.slice As n cs) w3.heap.size g Mn Ma Mg 0 0 wc fv ⟨[⟨x0,0,⟨0,uC⟩⟩],true,[]⟩ [aT.iU x0]/\Below w3.heap.size w3 wc)
 case first=>
  have fB:=aa (show BF x0 from((dB.o x0 (by rw[<-dw.o];exact Reach.begin s K)).txt aB.o));show Code.wp Tryz.prog (Code.region 4 opsE true) _ _ _;refine U0 ⟨As,n,cs,Ax,lx,cx,Bx,kx,dx,⟨(aT.iU x0).toArray⟩⟩ q1 _ _ (lL rfl) rfl rfl (aD.cell 0 rfl) (aD.cell 1 rfl) ?tx ?ky ?fin
  case tx=>
   intro W hW;refine Gd x0 _ W fB.o ⟨Ax,cx,Bx,dx,by rw[aY.o,dE.o],?_,?_⟩;·rw[aY.o];exact dF.o.ag hW
   ·rw[dE.o];exact dH.o.ag hW
  case ky=>
   have V:=fB.o.len;show(aT.iU x0).toArray.size<=maxLen;rw[List.size_toArray];unfold maxLen;omega
  case fin=>
   intro a wm hd;obtain⟨a1,bk,g,rfl,bW,dI,F,V⟩:=hd;obtain⟨iB,dJ⟩:=ZQ (Yg (s:=s) dI F V aY.o dE.o dF.o dH.o rfl) dI.below;obtain⟨u,rfl,hu⟩:=LQ 28 12 bW.size (lL rfl) bW.defs (λj hj=>bW.same j (by omega));clear bW dI F V hu aD;simp only[setMany,Act.put,dn,dP,eF,fE,Nat.reduceAdd];go_wp2_with fail;go_meet;exact⟨g,_,_,_,_,rfl,iB.o,dJ.o⟩
 case rest=>
  obtain⟨g,Mn,Ma,Mg,fv,rfl,fC,fD⟩:=hcut;rename World=>w4;have iC:=aa (show aT.xD.Run s K ⟨[⟨x0,0,⟨0,uC⟩⟩],true,[]⟩ by have:=RV s K;rw[dw.o]at this;exact this);have fF:=aa (show aT.search s 1000 0 ⟨[⟨x0,0,⟨0,uC⟩⟩],true,[]⟩=aT.qz s K by unfold aT.qz;rw[dw.o]);obtain⟨SV,dK⟩:∃l,aT.qz s K=l:=⟨_,rfl⟩;rw[dK]at fF;obtain⟨iD,iE,iF⟩:=ZR dK fC fD;clear dK fC fD aD;go_upto_region 6 with fail;go_loopw [9] (λiv wr=>∃(i:Nat) (fw:Value) (v:aT.xD) (N NA:Nat),i<=v.jb.length/\iv=.int .i64 i/\kK mM s (.slice As n cs) w3.heap.size g Mn Ma Mg N NA wr fw v (Xc v)/\v.Run s K/\aT.search s (1000-i) i v=SV/\N<=16*i/\NA<=64000*i/\Below w3.heap.size w3 wr) (λiv _=>1000-(intOf iv).toNat);case atStart=>exact⟨0,fv,_,0,0,aL _,rfl,iE.o,iC.o,fF.o,aL _,aL _,iF.o⟩
  case round=>
   obtain⟨i,fw,v,N,NA,hi,rfl,z,r,bE,hN,dO,B⟩:=hrel;obtain⟨Af,cf,bF⟩:=z.jb.shape;obtain⟨nv,X⟩:∃l,v.jb.length=l:=⟨_,rfl⟩;have g1:=z.box.cell 1 (u:=fw) rfl;rw[X]at bF hi;rw[bF]at g1;have kw:nv<=1000:=(by rw[<-X];exact r.len);by_cases y:i<nv
   ·have bX:i<v.jb.length:=(by rw[X];exact y);obtain⟨p,dQ⟩:∃p,v.jb[i]'bX=p:=⟨_,rfl⟩;have H:v.jb[i]?=some p:=(by rw[<-dQ];exact aH bX);have dR:=z.jb;have bI:=bF;rw[<-X]at bI;rw[bI]at dR;obtain⟨bf,kz,iG,bK,dU⟩:=dR.get bX;subst iG;rw[dQ]at bK;obtain⟨iH,iI,Ap,cp,Bp,dp,_,_,rfl,aX,O,-⟩:=bK;have fG:WO.size=7:=rfl;have d0:=dU 0 _ rfl;have d1:=dU 1 _ rfl;rw[fG]at d0 d1;rw[fE]at d0;have fH:=aX.aR (S':=uk g Mn Ma Mg fw) (w':=wr) λb hb d=>⟨by rw[bI];exact(dX.1 hb).1,rfl⟩;have fI:=O.aR (S':=uk g Mn Ma Mg fw) (w':=wr) λb hb d=>⟨by rw[bI];exact(dX.1 hb).1,rfl⟩;have dW:=r.reach p (eT H);have bY:=dB.o p.x dW;have fJ:=bY.ZB aB.o;have bL:=aa (OU p.x (.agg #[.slice Ap p.x.aS.length cp,.slice Bp p.x.bH.length dp]) wr z (λW hW=>by have:=(bV.o.ag (B.t hW)).strs;rw[<-HN.o]at this;rw[<-HN.o];exact this) ⟨Ap,cp,Bp,dp,rfl,fH,fI⟩ aB.o bY (by omega));have aZ:=Lt fJ;obtain⟨iJ,iL,HP,iM,iN,fK,iO,fM,fO⟩:=ZY dW bY H r hN dO B X y;have fP:=aa (show aT.search s (1000-(i+1)) (i+1) ((aT.jG s p.x).foldl (aT.turn s i) v)=SV by
     have e:1000-i=(1000-(i+1))+1:=(by omega);rw[e,Np H]at bE;exact bE)
    have kC:=aa z.lt;obtain⟨C,hC⟩:∃l,aT.jG s p.x=l:=⟨_,rfl⟩;unfold Px at bL;rw[hC]at bL fP aZ;obtain⟨nc,dY⟩:∃l,C.length=l:=⟨_,rfl⟩;rw[dY]at bL aZ;obtain⟨HC,fQ⟩:=ZQ hC dY;have dZ:=aa (show nc<=64000 by rw[HN.o]at aZ;omega);have iP:(i:Int)<(nv:Int):=(by omega);clear bX dQ H dR bI dU iH iI aX O fG fH fI dW bY fJ r hN dO B X y bE z aZ hC dY bF hi;go_upto_region 8 with fail;go_wp2_with fail;refine bL.o.m ?_;rintro e w5 ⟨A5,c5,rfl,fT,fU,fV⟩;obtain⟨iQ,iR,iT⟩:=ZR fT fU (iO.o.t fV.below);clear fT fU fV g1 d0 d1 bL;have kD:nc<=64000:=dZ.o;go_upto_region 9 with fail;go_loopw [60] (λtv aG=>∃(k:Nat) (bZ:Value) (I:aT.xD) (M:Nat),k<=nc/\tv=.int .i64 k/\kK mM s (.slice As n cs) w3.heap.size g Mn Ma Mg (N+s.length) M aG bZ I (Xc I)/\I.Run s K/\I.jb[i]?=some p/\(C.drop k).foldl (aT.turn s i) I=C.foldl (aT.turn s i) v/\M<=NA+k/\jK CG (uk g Mn Ma Mg bZ) aG (.slice A5 nc c5) C/\Below w3.heap.size w3 aG) (λtv _=>nc-(intOf tv).toNat);case atStart=>exact⟨0,fw,v,NA,aL _,rfl,iQ.o,iM.o,HP.o,rfl,ak _,iR.o,iT.o⟩
    case round=>
     obtain⟨k,bZ,I,M,L,rfl,z,r,H,bi,hM,d,B⟩:=hrel;by_cases y:k<nc
     ·have av:k<C.length:=(by rw[fQ.o];exact y);obtain⟨b2,o2,kE,hA,⟨iV,A',Y,rfl,d9⟩,hc⟩:=jK.get d av;subst hA;have d0:=hc 0 _ rfl;have d1:=hc 1 _ rfl;have d2:=hc 2 _ rfl;have d3:=hc 3 _ rfl;have fZ:CG.size=4:=rfl;rw[fZ]at d0 d1 d2 d3;rw[fE]at d0;rw[<-iw]at d1 d2 d3;have bn:C[k]∈aT.jG s p.x:=(by rw[HC.o];exact aN av);have bq:C.drop k=C[k]::C.drop (k+1):=dN av;obtain⟨t,ht⟩:∃t,C[k]=t:=⟨_,rfl⟩;rw[ht]at d0 d1 d2 d3 d9 bn bq;obtain⟨m,hm,_⟩:=uR bn;have D:=af wr (.cells #[.int .i64 t.dM,.int .i64 t.bJ.aC,.string t.bJ.aJ,.slice A' t.bJ.ay.length Y] 61);have Z:=iy.new wr [.int .i64 t.dM,.int .i64 t.bJ.aC,.string t.bJ.aJ,.slice A' t.bJ.ay.length Y] 61;have gm:=aa (Wh i t p m A' Y (wr.alloc (.cells #[.int .i64 t.dM,.int .i64 t.bJ.aC,.string t.bJ.aJ,.slice A' t.bJ.ay.length Y] 61)) (z.ag D) w3 rfl (B.t (D.m B.size)) (by rw[HN.o]at *;exact bV.o) (d9.aR λb hb d=>⟨hb,D.block b d⟩) H hm aB.o iL.o r.ok r.len (EH bn) r.bC ((dB.o _ (iJ.o.step bn hm)).txt aB.o) (by have:=fK.o;have:=dZ.o;have:=fO.o;omega));obtain⟨iW,iX⟩:=ZQ (UN r H bn) (U6 (s:=s) (i:=i) t H);have iY:=aa (show(C.drop (k+1)).foldl (aT.turn s i) (aT.turn s i I t)=C.foldl (aT.turn s i) v by rw[bq]at bi;exact bi);obtain⟨aY,gp,gu,HM⟩:=ZT (d.ag D) (B.t (D.m B.size)) y hM;have ed:(k:Int)<(nc:Int):=(by omega);clear av d9 hc fZ bn bq ht hm D z r H bi hM d B y iV L;go_upto_region 11 with fail;generalize wr.alloc (.cells #[.int .i64 t.dM,.int .i64 t.bJ.aC,.string t.bJ.aJ,.slice A' t.bJ.ay.length Y] 61)=w6 at Z gm aY gp⊢;generalize wr.heap.size=q6 at Z⊢;clear d0 d1 d2 d3;have y0:=Z.cell 0 (u:=.int .i64 t.dM) rfl;have y1:=Z.cell 1 (u:=.int .i64 t.bJ.aC) rfl;have y2:=Z.cell 2 (u:=.string t.bJ.aJ) rfl;have y3:=Z.cell 3 (u:=.slice A' t.bJ.ay.length Y) rfl;clear Z;go_wp2_with fail;refine gm.o.m ?_;rintro e w7 ⟨gy,rfl,gz,ek⟩;obtain⟨ja,jc,jd⟩:=ZR gz (gp.o.t ek.below) (aY.o.aR (S':=uk g Mn Ma Mg gy) λb hb d=>ek.aR b hb d);clear gz ek y0 y1 y2 y3;go_wp2_with fail;go_roundw;case rel=>exact⟨k+1,gy,aT.turn s i I t,M+1,gu.o,by go_num,ja.o,iW.o,iX.o,iY.o,by have:=HM.o;omega,jd.o,jc.o⟩
      case measure=>have:=gu.o;simp[intOf];omega
     ·obtain rfl:k=nc:=(by omega);have ed:(k:Int)<=(k:Int):=iK _;have bq:C.drop k=[]:=nz (by rw[fQ.o];exact ak _);rw[bq]at bi;have gB:I=C.foldl (aT.turn s i) v:=bi;have je:=aa (show aT.search s (1000-(i+1)) (i+1) I=SV by rw[gB];exact fP.o);obtain⟨jf,jg,jh,ji,jk⟩:=ZU z r H hM B;clear bq bi gB z r H hM d B y L;go_wp2_with fail;go_roundw;case rel=>exact⟨i+1,bZ,I,N+s.length,M,(bg.1 jh.o).1,by go_num,jf.o,jg.o,je.o,by rw[HN.o];have:=iN.o;omega,by have:=ji.o;have:=fK.o;have:=dZ.o;omega,jk.o⟩
      case measure=>have:=fO.o;simp[intOf];omega
   ·obtain rfl:i=nv:=(by omega);have iP:(i:Int)<=(i:Int):=iK _;have jl:=aa (show v=SV by rw[<-bE,Nq (by rw[X];exact ak _)]);obtain⟨eu,kF,bu,fM⟩:=ZT z r B X;clear z r B bE hN dO bF X y hi;have m3:=eu.o.box.cell 3 (u:=.bool v.all) rfl;go_upto_region 13 with fail;go_cut [12]from 69 to 78 (λpv wc=>(∃J,pv=.pointer (some ⟨J,0,none⟩)/\wr.heap.size<=J/\iy wc J 47 [.int .i64 i,.bool v.all,.slice none 0 0])/\Below wr.heap.size wr wc)
    case first=>
     have HC:=aa (show wr.cell? ⟨g,1,none⟩=some (.slice Af i cf)/\wr.cell? ⟨g,3,none⟩=some (.bool v.all)/\Below wr.heap.size wr wr from⟨g1,m3,az _ _⟩);clear g1 m3;refine gI (S:=(λWq=>Wq.cell? ⟨g,1,none⟩=some (.slice Af i cf)/\Wq.cell? ⟨g,3,none⟩=some (.bool v.all)/\Below wr.heap.size wr Wq)) (λ_=>0) (by kernel_rfl) (show _/\_/\_ from⟨HC.o.1,HC.o.2.1,(az _ wr).drew⟩) (λhHeld=>?_);refine gG 0 _ ?_;refine gG 1 _ ?_;refine gG 2 _ ?_;refine gG 3 _ ?_;refine gG 4 _ ?_;refine gG 5 _ ?_;refine gG 6 _ ?_;refine gG 7 _ ?_;refine gG 8 _ ?_;refine gG 9 _ ?_;refine x8 10 λK hK=>?_;(go_simp;(first|refine yS hK (JA HC.o (jL hHeld.2.2 _)) λg9 aK eB eD=>?_|refine rP hK (JA HC.o (jq hHeld.2.2 _)) λg9 aK eB eD=>?_);have kG:=aa (show wr.heap.size<=g9 by rw[<-aK];exact hHeld.2.2.size);replace hHeld:=eD;have kH:=aa eB;(first|rw[aK]|(change wr.heap.size=g9 at aK;subst aK));(try have kI:=aa aK);(try clear aK);clear hK K eB eD);refine x8 11 λK hK=>?_;(go_simp;refine mH hK (JA HC.o ((af wr (.cells #[.int .i64 i,.bool v.all,.slice none 0 0] 47)).drew)) λhHeld=>?_;clear hK K);refine dL (by kernel_rfl) ?_ _;have dJ:=aa hHeld.2.2;clear hHeld;go_wp2_with fail;go_meet;exact⟨⟨_,rfl,ak _,iy.new wr [.int .i64 i,.bool v.all,.slice none 0 0] 47⟩,dJ.o⟩
    case rest=>
     obtain⟨⟨J,rfl,gD,c⟩,gF⟩:=hcut;rename World=>kJ;obtain⟨jm,jo,gH⟩:=ZR gF c gD;clear gF c gD g1 m3;go_upto_region 15 with fail;go_loopw [81] (λiv aG=>∃(a:Nat) (ov:Value),a<=n/\iv=.int .i64 a/\Below wr.heap.size wr aG/\iy aG J 47 [.int .i64 i,.bool v.all,ov]/\gV Vh (jQ wr.heap.size) wr.heap.size aG ov (zo s v a)/\ov.ownBlock≠some J) (λiv _=>n-(intOf iv).toNat);case atStart=>exact⟨0,_,aL _,rfl,jm.o,jo.o,gV.nil _ _ _ _,λe=>by cases e⟩
     case round=>
      rename World=>bM;obtain⟨a,ov,ha,rfl,aO,c,f,G⟩:=hrel;by_cases y:a<n
      ·have aP:a<s.length:=(by rw[HN.o];exact y);have gJ:=bV.o.ag (bu.o.t (aO.m bu.o.size));obtain⟨b5,o5,A',Y,hA,P,e1,-,aZ⟩:=gJ.get aP;subst hA;obtain⟨ml,cu⟩:∃l,(s[a]'aP).2.length=l:=⟨_,rfl⟩;obtain⟨nm,gK⟩:∃l,(s[a]'aP).1=l:=⟨_,rfl⟩;rw[cu]at e1;rw[gK]at P;have kL:ml<=16:=(by rw[<-cu];exact aB.o.ml _ (aN aP));have gL:=aa (show zo s v (a+1)=zo s v a++Bu v a ml by rw[Je,aH aP];show _++Bu v a (s[a]'aP).2.length=_;rw[cu]);have gN:=aa (λk=>(show(zo s v a++Bu v a k).length<=16*a+k by have V:=Le aB.o v a;have h2:=Lf v a k;rw[aF];omega));obtain⟨LA,gP⟩:∃l,zo s v a=l:=⟨_,rfl⟩;rw[gP]at f gL gN;have D:=af bM (.cells #[.string nm,.slice A' ml Y] 26);have Z:=iy.new bM [.string nm,.slice A' ml Y] 26;obtain⟨jr,jv,jw,jy,gQ⟩:=ZU (aO.t (D.m aO.size)) (c.ag D) (f.ag D) G y;have jA:(a:Int)<(n:Int):=(by omega);clear gJ aZ cu gK gP D aO c f G y aP ha;go_upto_region 18 with fail;clear P e1 Z;go_loopw [89] (λkv eH=>∃(k:Nat) (ae:Value),k<=ml/\kv=.int .i64 k/\Below wr.heap.size wr eH/\iy eH J 47 [.int .i64 i,.bool v.all,ae]/\gV Vh (jQ wr.heap.size) wr.heap.size eH ae (LA++Bu v a k)/\ae.ownBlock≠some J) (λkv _=>ml-(intOf kv).toNat);case atStart=>exact⟨0,_,aL _,rfl,jr.o,jv.o,by rw[show Bu v a 0=[]from rfl,dS];exact jw.o,jy.o⟩
       case round=>
        rename World=>cz;obtain⟨k,ae,L,rfl,ai,c,f,G⟩:=hrel;by_cases cB:k<ml
        ·obtain⟨AG,nG,cG,gT,eP⟩:=eu.o.XP (i:=a) (k:=k) (by omega) (by omega);have gU:=gT cz ai;obtain⟨lb,U⟩:∃b,(v.ow.lookup (a,k)).isSome=b:=⟨_,rfl⟩;rw[U]at gU;have m4:=(eu.o.ag ai).box.cell 4 (u:=.map (some Ma)) rfl;obtain⟨cK,kM⟩:=ZQ cB gU;have ed:(k:Int)<(ml:Int):=(by omega);clear gT;cases lb with
         |false=>
          have cO:=aa (show Bu v a (k+1)=Bu v a k by
           rw[Jf];cases e:v.ow.lookup (a,k)with
           |none=>simp
           |some l=>rw[e]at U;cases U)
          obtain⟨eQ,eU,eX,eY⟩:=ZT ai c f G;clear ai c f G cB L U eP;go_wp2_with fail;go_roundw;case rel=>exact⟨k+1,ae,cK.o,by go_num,eQ.o,eU.o,by rw[cO.o];exact eX.o,eY.o⟩
          case measure=>have:=cK.o;simp[intOf];omega
         |true=>
          obtain⟨l,d⟩:=eO.1 U;have hf:=eP l d;have jB:nG=l.length:=by
           obtain⟨_,_,e,_⟩:=hf;injection e
          subst jB;have cO:=aa (show LA++Bu v a (k+1)=(LA++Bu v a k)++[l] by rw[Jf,d,dA];rfl);have gW:=gN.o k;obtain⟨L9,gX⟩:∃l,LA++Bu v a k=l:=⟨_,rfl⟩;rw[gX]at f cO gW;obtain⟨Q,R,dG,bN,aV,eZ⟩:=f.cells;obtain⟨kk,fe⟩:∃k,L9.length=k:=⟨_,rfl⟩;have bO:=f.block;rw[bN]at bO G;rw[fe]at eZ aV G gW bO bN;have bv:=af cz (.cells #[.slice AG l.length cG] 57);have jC:=aa (show(cz.alloc (.cells #[.slice AG l.length cG] 57)).ownsRow wr.heap.size 57 1 ae kk dG.flatten from by rw[bN];exact dz eZ bv);have jD:=aa bN;have jE:=aa (show ∀u∈([.slice AG l.length cG]:List Value),u.oneCell'=true from λu hu=>by simp at hu;rw[hu];rfl);have fo:=aa (ai.t (bv.m ai.size));have gY:=fo.o.size;obtain⟨jF,gZ,jH,jI,jJ⟩:=ZU (λq D=>(bO q D).1) G (c.ag bv) c.lt bv.size;have bK:Vh.gq (off (jQ wr.heap.size) (Value.slice Q kk R).ownBlock) (cz.alloc (.cells #[.slice AG l.length cG] 57)) ([.slice AG l.length cG]:List Value) l:=⟨AG,cG,rfl,hf.aR λb hb d=>⟨dX.2 ⟨aQ d,λe=>by have:=(bO b e).1;omega⟩,fo.o.block b d⟩⟩;have jM:=aa (λ(A8:Option Addr) (c8:Nat) (w8:World) (cZ:w8.ownsRow wr.heap.size 57 1 (.slice A8 (kk+1) c8) (kk+1) (dG.flatten++([.slice AG l.length cG]:List Value))) aU bz=>gV.push (E:=Vh) (base:=wr.heap.size) (A':=A8) (cap:=c8) (w4:=w8) (a:=l) aV fe (λb hb=>bv.block b hb) bK cZ aU bz);have m2:=c.cell 2 (u:=ae) rfl;obtain⟨i2,jN,jO,jP,jR⟩:=dV Tryz.YL;clear bN eP U d hf gX aV eZ fe bO bv bK f G ai cB L c;go_upto_region 22 with fail;go_wp2_with (at_builtin;refine bT _ rfl _ _ 45 rfl wr.heap.size 57 i2 _ 1 24 Tryz.underlying45 jN jO jP jR rfl (by omega) _ _ _ rfl jC.o _ 1 1 [.slice AG l.length cG] rfl (Src.BO _ _ _ 1 rfl) jE.o (by unfold maxLen;omega) (by omega) gY ?_;intro A8 c8 w8 cZ aU bz;rw[jD.o]at aU bz;obtain⟨jS,jT,fq,jU⟩:=ZT (jM.o _ _ _ cZ aU bz) (fo.o.grown aU gY jF.o) (jH.o.grown aU (λe=>gZ.o e)) bz;have m9:=fq.o.cell 2 (u:=ae) rfl;have f9:=fq.o.free 2;clear cZ aU bz);go_roundw
          case rel=>
           have ib:(Value.slice A8 (kk+1) c8).ownBlock≠some J:=λe=>by
            rw[KH]at e;rcases jU.o with h3|h3;·exact gZ.o (h3.symm.t e)
            ·have h4:=aA (h3.symm.t e);have:=jI.o;have:=jJ.o;omega
           refine⟨k+1,_,cK.o,by go_num,jT.o.setCell (show wr.heap.size<=(⟨J,2,none⟩:Addr).block from gH.o) _,fq.o.set 2 _,?_,ib⟩;rw[cO.o];exact jS.o.aR λb hb _=>aM _ _ _ _ (λe=>by
            have e':b=J:=e;subst e';rcases hb with hb|hb;·have:=ax hb;have:=gH.o;omega
            ·exact ib hb)
          case measure=>have:=cK.o;simp[intOf];omega
        ·obtain rfl:k=ml:=(by omega);obtain⟨eQ,eU,eX,eY⟩:=ZT ai c f G;have ed:(k:Int)<=(k:Int):=iK _;clear ai c f G cB L;go_wp2_with fail;go_roundw;case rel=>exact⟨a+1,ae,gQ.o,by go_num,eQ.o,eU.o,by rw[gL.o];exact eX.o,eY.o⟩
         case measure=>have:=gQ.o;simp[intOf];omega
      ·obtain rfl:a=n:=(by omega);have jA:(a:Int)<=(a:Int):=iK _;have F:=((bR.o.ag bD.o).ag bu.o).ag aO;have r0:=F.cell 0 (u:=.int .i64 0) rfl;have r1:=F.cell 1 (u:=.bool false) rfl;have r2:=F.cell 2 (u:=.slice none 0 0) rfl;have s0:=F.free 0;have s1:=F.free 1;have s2:=F.free 2;obtain⟨Q,R,rfl⟩:=f.shape;have o0:=c.cell 0 (u:=.int .i64 i) rfl;have o1:=c.cell 1 (u:=.bool v.all) rfl;have o2:=c.cell 2 (u:=.slice Q (zo s v a).length R) rfl;obtain⟨jW,jX,jY⟩:=ZR f aO F;have df:=((F.set 0 (.int .i64 i)).set 1 (.bool v.all)).set 2 (.slice Q (zo s v a).length R);have P:=df.cell 0 (u:=.int .i64 i) rfl;have e1:=df.cell 1 (u:=.bool v.all) rfl;have e2:=df.cell 2 (u:=.slice Q (zo s v a).length R) rfl;obtain⟨jZ,j3,j4⟩:=ZR P e1 e2;clear F c f G y ha aO df P e1 e2;go_wp2_with fail;refine bG (v:=.tuple #[.agg #[.int .i64 i,.bool v.all,.slice Q (zo s v a).length R],.int .i64 0]) ?c1 rfl ?c2
       case c1=>
        have P:=jZ.o;have e1:=j3.o;have e2:=j4.o;generalize((bM.setCell ⟨o,0,none⟩ (.int .i64 i)).setCell ⟨o,1,none⟩ (.bool v.all)).setCell ⟨o,2,none⟩ (.slice Q (zo s v a).length R)=kN at P e1 e2⊢;simp[results,Tryz.results16,go_sem,P,e1,e2]
       case c2=>
        have j5:o<wr.heap.size:=(by have:=bR.o.lt;have:=bD.o.size;have:=bu.o.size;omega);have ic:=jW.o.Zo (g:=o) (w':=((bM.setCell ⟨o,0,none⟩ (.int .i64 i)).setCell ⟨o,1,none⟩ (.bool v.all)).setCell ⟨o,2,none⟩ (.slice Q (zo s v a).length R)) jY.o.VT j5 (UT _ _ _ _ _);have ig:zo s v a=aT.AP s v:=(by rw[<-HN.o];rfl);have hv:v=aT.qz s K:=jl.o.t iD.o.symm;have bS:=iq.o;have j6:Below w.heap.size w bM:=di.o.t ((bD.o.t ((bu.o.t (jX.o.m bu.o.size)).m bD.o.size)).m di.o.size);have V:=((j6.setCell (p:=⟨o,0,none⟩) (show w.heap.size<=o by omega) (.int .i64 i)).setCell (p:=⟨o,1,none⟩) (show w.heap.size<=o by omega) (.bool v.all)).setCell (p:=⟨o,2,none⟩) (show w.heap.size<=o by omega) (.slice Q (zo s v a).length R);rw[ig]at ic V;unfold CJ;rw[<-hv,fM.o,ig];exact⟨Q,R,rfl,ic,V⟩
end
section
open T
def aT.closed(s:List iZ)(V:List jZ):Bool:=V.all λx=>(aT.jG s x).all λt=>match aT.next s x t.dM with
 |none=>false
 |some m=>V.any λy=>aT.ZE y (aT.move x m t)
theorem QL{s:List iZ}{V:List jZ}(h:aT.closed s V=true){x:jZ}(b:x∈V){t:oF}(c:t∈aT.jG s x){m:Int×T}(d:aT.WR s x m t):aT.move x m t∈V:=by
 have a:=cz.1 (cz.1 h x b) t c;rw[d.1]at a;obtain⟨y,hy,e⟩:=eU.1 a;rw[<-XF e];exact hy
theorem EK{s:List iZ}{V:List jZ}(h:aT.closed s V=true):∀(l:List oF) {x y:jZ},x∈V->aT.ui s x l=some y->y∈V
 |[],x,y,c,a=>by
  obtain rfl:x=y:=(by injection a);exact c
 |t::r,x,y,c,a=>by
  simp only[aT.ui]at a;cases b:aT.wD s x t with
  |none=>rw[b]at a;cases a
  |some z=>
   rw[b]at a;obtain⟨m,d,rfl⟩:=DT b;exact EK h r (QL h c (Nv b) d) a
theorem Om{s:List iZ}(h:aT.closed s (aT.Cv s)=true)(a:aT.VC s (aT.Cv s)=true):∀x,Reach s jO x->aT.Gi s x:=λx ⟨l,b⟩=>by
 have h0:aT.jV s jO∈aT.Cv s:=by
  obtain⟨y,hy,e⟩:=(Sc s jO).zero;exact dB.2 ⟨y,eT hy,e⟩
 exact XG a x (EK h l h0 b)
theorem Kc:aT.closed [xB] (aT.Cv [xB])=true:=by kernel_rfl
def aT.KR(s:List iZ):Bool:=decide (s.length<=16)&&s.all λx=>decide (x.1.size<=64)&&decide (x.2.length<=16)&&x.2.all λm=>decide (m.2.bC<=1048576)&&decide ((vars m.2).length<=100000)&&(vars m.2).all λv=>decide (v.size<=64)
theorem UU{s:List iZ}(h:aT.KR s=true):zb s/\∀x∈s,x.1.size<=maxLen/\x.2.length<=maxLen/\∀m∈x.2,m.2.bC<=1048576:=by
 unfold aT.KR at h;simp only[ai,bW,cz]at h;refine⟨⟨h.1,λst a=>(h.2 st a).1.2,λst a m b=>?_⟩,λx f=>?_⟩
 ·obtain⟨⟨c,d⟩,e⟩:=(h.2 st a).2 m b;exact⟨c,d,e⟩
 ·obtain⟨⟨c,d⟩,e⟩:=h.2 x f;exact⟨aD c (by decide),aD d (by decide),λm b=>(e m b).1.1⟩
theorem Nt:aT.KR [xB]=true:=by kernel_rfl
theorem Hd:(∀t∈jO,t.bC<=1048576)/\jO.length<=32:=by
 have h:((jO.all λt=>decide (t.bC<=1048576))&&decide (jO.length<=32))=true:=(by kernel_rfl);simp only[ai,bW,cz]at h;exact h
structure J3 (s:List iZ):Prop where
 str:zb s
 lb:∀x∈s,x.1.size<=maxLen/\x.2.length<=maxLen/\∀m∈x.2,m.2.bC<=1048576
 all:Sy s jO
 ZK:aT.lU s jO=0
 mv:aT.moves s<=16
theorem Uz{s:List iZ}(d:aT.KR s=true)(e:aT.closed s (aT.Cv s)=true)(f:aT.VC s (aT.Cv s)=true)(g:aT.lU s jO=0)(c:aT.moves s<=16):J3 s:=by
 obtain⟨a,b⟩:=UU d;exact⟨a,b,Xu c Hd.2 (Om e f),g,c⟩
theorem Li:aT.lU [xB] jO=0:=by kernel_rfl
theorem Uj:J3 [xB]:=Uz Nt Kc QP Li (by decide)
end
section
open Go.RowKit
attribute [local go_sem ↓] Go.wp_at_zero Go.wp_at_succ
def YA(s:ByteArray×List (Int×T))(w:World)(e:Ending)(w':World):Prop:=∃A c,e=.returned (.agg #[.string s.1,.slice A s.2.length c])/\jm w' A s.2/\s.2.length<=c/\Below w.heap.size w w'
theorem jK.moves{S:Nat->Bool}{w:World}{A:Option Addr}{n c:Nat}{L:List (Int×T)}(h:jK Zi S w (.slice A n c) L)(hb:∀m∈L,-9223372036854775808<=m.1/\m.1<=9223372036854775807):jm w A L:=by
 rcases dE L.length with h0|h0;·exact .inl h0
 ·obtain⟨b,o,_,rfl,_⟩:=h.get h0;refine .inr ⟨b,o,rfl,λi hi=>?_⟩;obtain⟨b',l,cs,e,⟨d,f,rfl,g⟩,a⟩:=h.get hi;injection e with e;injection e with j k;subst j;subst k;exact⟨d,f,a 0 _ rfl,a 1 _ rfl,a 2 _ rfl,a 3 _ rfl,g.at,hb _ (aN hi)⟩
theorem Pe(w:World)(g:Nat)(x y:Value)(b:Nat)(h:b≠g):((w.setCell ⟨g,0,none⟩ x).setCell ⟨g,1,none⟩ y).heap[b]?=w.heap[b]?:=(aM _ _ _ _ h).t (aM _ _ _ _ h)
theorem Gg(role:ByteArray)(g:List ByteArray)(A:Option Addr)(c:Nat)(w:World)(hl:g.length<=16)(hA:kH w A g)(hg:∀x∈g,LW x)(L:List (Int×T))(P:g.map yI=L):
 Calls Tryz.prog 55 #[.string role,.slice A g.length c] w (YA (role,L) w):=by
 have bF:=aa (show ∀m∈L,-9223372036854775808<=m.1/\m.1<=9223372036854775807 from λm hm=>by
  rw[<-P]at hm;obtain⟨x,_,rfl⟩:=dB.1 hm;have:=TF (x.data.toList.getD 0 0);unfold yI;simp only[];omega)
 obtain⟨n,Q⟩:∃n,g.length=n:=⟨_,rfl⟩;have R:=aa (show L.length=n by rw[<-P,df];exact Q);obtain⟨HL,HN⟩:=ZQ P Q;obtain⟨i0,bH,bI,bJ,bK⟩:=dV Tryz.YM;obtain⟨bL,bM⟩:=ZQ hA hg;rw[Q]at hl⊢;have l:=iy.new w [.string ⟨#[]⟩,.slice none 0 0] 26;have f:=iy.new (w.alloc (.cells #[.string ⟨#[]⟩,.slice none 0 0] 26)) [.string role,.slice none 0 0] 26;have aA:=af w (.cells #[.string ⟨#[]⟩,.slice none 0 0] 26);have aB:=af (w.alloc (.cells #[.string ⟨#[]⟩,.slice none 0 0] 26)) (.cells #[.string role,.slice none 0 0] 26);have o:((w.alloc (.cells #[.string ⟨#[]⟩,.slice none 0 0] 26)).alloc (.cells #[.string role,.slice none 0 0] 26)).heap.size=w.heap.size+2:=(by rw[aK,aK]);rw[aK]at f;have U:=iy.ag l aB;have aF:=aA.t (aB.m aA.size);change iy ((w.alloc (.cells #[.string ⟨#[]⟩,.slice none 0 0] 26)).alloc (.cells #[.string role,.slice none 0 0] 26)) _ _ _ at f;change iy ((w.alloc (.cells #[.string ⟨#[]⟩,.slice none 0 0] 26)).alloc (.cells #[.string role,.slice none 0 0] 26)) _ _ _ at U;clear hA hg P Q l aA aB;go_enter Tryz.func55,Tryz.ntmps55;go_wp2_with fail;generalize(w.alloc (.cells #[.string ⟨#[]⟩,.slice none 0 0] 26)).alloc (.cells #[.string role,.slice none 0 0] 26)=w1 at f U aF o⊢;obtain⟨bN,bO,bP,bQ⟩:=ZT f U aF (Nat.le_of_eq o.symm);clear f U aF o;go_loopw [6] (λi wr=>∃(j:Nat) (kv:Value),j<=n/\i=.int .i64 j/\iy wr (w.heap.size+1) 26 [.string role,kv]/\iy wr w.heap.size 26 [.string ⟨#[]⟩,.slice none 0 0]/\gV Zi (eG (w.heap.size+2)) (w.heap.size+2) wr kv (L.take j)/\Below w.heap.size w wr/\w.heap.size+2<=wr.heap.size) (λi _=>n-(intOf i).toNat);case atStart=>exact⟨0,_,aL _,rfl,bN.o,bO.o,gV.nil _ _ _ _,bP.o,bQ.o⟩
 case round=>
  obtain⟨j,kv,hj,rfl,f,l,r,B,o⟩:=hrel;by_cases V:j<n
  ·have X:j<g.length:=(by rw[HN.o];exact V);have aZ:j<L.length:=(by rw[R.o];exact V);obtain⟨b,off,rfl,d0⟩:=bL.o.cell j X;have e0:=ae B d0;have C:=bM.o _ (aN X);have bf:=aa (show L.take (j+1)=L.take j++[yI g[j]] by rw[aV aZ];simp only[<-HL.o,gz]);obtain⟨x,hx⟩:∃x,g[j]'X=x:=⟨_,rfl⟩;rw[hx]at e0 C bf;have bY:(0:Int)<=(j:Int):=(by omega);have hi:(j:Int)<(n:Int):=(by omega);have aG:0<x.size:=(by have:=C.1;omega);have bZ:(2:Int)<=(x.size:Int):=(by have:=C.1;omega);have cu:(0:Int)<(x.size:Int):=(by omega);have bg:=aa V;obtain⟨s,bi⟩:∃s,x[0]'aG=s:=⟨_,rfl⟩;have D:s=83\/s=82\/s=67\/s=68:=(by have h:=C.2;rw[LJ x aG,bi]at h;exact h);obtain⟨k,hk⟩:∃k,Mk s=k:=⟨_,rfl⟩;obtain⟨t,ht⟩:∃t,(T.parse (x.extract 2 x.size)).1=t:=⟨_,rfl⟩;have aH:=aa (show yI x=(k,t) by unfold yI;rw[LJ x aG,bi,hk,ht]);have bR:=aa (λW=>by have:=yc (x.extract 2 x.size) W;rw[ht]at this;exact this);obtain⟨F,G,dG,rfl,aI,aO⟩:=r.cells;have aP:(L.take j).length=j:=(by rw[aW];omega);have Y:=r.block;rw[aP]at aI aO Y f;have HLEN:=aa aP;have y1:=f.cell 1 (u:=.slice F j G) rfl;obtain⟨bS,HOWN,HX,HZ,bn,Z,aS,HK⟩:=ZX aI aO f l Y B o hk;have bq:=aa (λq (hq:q<w.heap.size+2) (e:(Value.slice F j G).ownBlock=some q)=>(show False from by have:=(Y q e).1;omega));clear d0 hx C hj aZ X ht r aP aI aO Y f l B o;go_upto_block 2 with fail;go_cut [7]from 21 to 26 (λkk wc=>kk=.int .i64 k/\wr=wc)
   case first=>
    rcases D with rfl|rfl|rfl|rfl;all_goals
     (go_wp2_with fail
      go_meet;exact⟨by rw[<-HK.o];rfl,rfl⟩)
   case rest=>
    obtain⟨rfl,rfl⟩:=hcut;clear D hk;go_upto_region 13 with fail;have H:=aa (show wr.cell? ⟨w.heap.size+1,1,none⟩=some (.slice F j G)/\wr.cell? ⟨b,off+j,none⟩=some (.string x)/\Below wr.heap.size wr wr from⟨y1,e0,az _ _⟩);clear y1 e0;refine gI (S:=(λWq=>Wq.cell? ⟨w.heap.size+1,1,none⟩=some (.slice F j G)/\Wq.cell? ⟨b,off+j,none⟩=some (.string x)/\Below wr.heap.size wr Wq)) (λi=>if [11,12,13].contains i then 2 else 0) (by kernel_rfl) (show _/\_/\_ from⟨H.o.1,H.o.2.1,(az _ wr).drew⟩) (λhHeld=>?_);refine gG 0 _ ?_;refine gG 1 _ ?_;refine gG 2 _ ?_;refine gG 3 _ ?_;refine gG 4 _ ?_;refine gG 5 _ ?_;refine gG 6 _ ?_;refine gG 7 _ ?_;refine x8 8 λK d=>?_;(go_simp;go_at_call 54;refine(bR.o _).m ?_;rintro e w9 ⟨A3,C3,rfl,bu,bv⟩;have bT:=aa (bu.aR (S':=eG wr.heap.size) λb hb _=>⟨aQ (aD hHeld.2.2.size (ax hb)),rfl⟩);clear bu;(try replace I:=aa (I.o.ag bv));refine mH d (JA H.o (hHeld.2.2.t (bv.m hHeld.2.2.size))) λhHeld=>?_;clear d K);refine gG 9 _ ?_;refine x8 10 λK d=>?_;(go_simp;(first|refine yS d (JA H.o (jL hHeld.2.2 _)) λg9 y aT aU=>?_|refine rP d (JA H.o (jq hHeld.2.2 _)) λg9 y aT aU=>?_);have cz:=aa (show wr.heap.size<=g9 by rw[<-y];exact hHeld.2.2.size);replace hHeld:=aU;have I:=aa aT;(first|rw[y]|(change wr.heap.size=g9 at y;subst y));(try have cB:=aa y);(try clear y);clear d K aT aU);refine yh 11 λK d=>?_;((have bU:=aa (dz HOWN.o hHeld.2.2);have bA:=aD aS.o hHeld.2.2.size;refine dZ _ (by rfl) _ _ _ (by rfl) (w.heap.size+2) 31 i0 _ 4 56 Tryz.underlying24 bH bI bJ bK rfl (by omega) _ j _ (by rfl) bU.o ⟨_,0,none⟩ 1 1 [.int .i64 k,.int .i64 t.aC,.string t.aJ,.slice A3 t.ay.length C3] (by rfl) (by rfl) (di I.o) (λu hu=>by simp at hu;rcases hu with rfl|rfl|rfl|rfl<;>rfl) (by omega) (by unfold maxLen;omega) (by omega) bA _ rfl ?_;intro J M kP bB z bC bV;have ai:=(HX.o.ag hHeld.2.2).grown z (λe=>bq.o _ (by omega) e);have k9:=ai.cell 1 (u:=.slice F j G) rfl;have f9:=ai.free 1;go_simp);refine rW d ?_;clear d K);refine yh 12 λK d=>?_;(go_simp;refine rW d ?_;clear d K);refine yh 13 λK d=>?_;(go_simp;refine rW d ?_;clear d K);refine dL (by kernel_rfl) ?_ _;have aX:=gV.push (E:=Zi) (S:=eG (w.heap.size+2)) (w:=wr) (a:=(k,t)) bS.o HLEN.o (λb hb=>hHeld.2.2.block b hb) ⟨A3,C3,rfl,bT.o.aR λb hb hl=>⟨dX.2 ⟨aQ (aD aS.o (ax hb)),λe=>absurd (bn.o b e).2 (Nat.not_lt.2 (ax hb))⟩,(af w9 _).block b hl⟩⟩ bB z (bC.imp (λe=>e.symm) (λe=>by rw[e];rfl));have bD:=(HZ.o.ag hHeld.2.2).grown z (λe=>bq.o _ (by omega) e);have bE:Below w.heap.size w kP:=(Z.o.t (hHeld.2.2.m Z.o.size)).grown z (by omega) (λq hq=>by have:=(bn.o q hq).1;omega);have N:=aa (And.intro (ai.set 1 (.slice (some ⟨J,0,none⟩) (j+1) M)) (And.intro (bD.setOther (p:=⟨w.heap.size+1,1,none⟩) (by simp) (.slice (some ⟨J,0,none⟩) (j+1) M)) (And.intro (aX.aR (w':=kP.setCell ⟨w.heap.size+1,1,none⟩ (.slice (some ⟨J,0,none⟩) (j+1) M)) λb hb _=>aM _ _ _ _ (show b≠w.heap.size+1 from hb.elim (λhb=>by have:=ax hb;omega) (λhb=>by have:=(aX.block b hb).1;omega))) (And.intro (bE.setCell (p:=⟨w.heap.size+1,1,none⟩) (show w.heap.size<=w.heap.size+1 by omega) (.slice (some ⟨J,0,none⟩) (j+1) M)) (show w.heap.size+2<=(kP.setCell ⟨w.heap.size+1,1,none⟩ (.slice (some ⟨J,0,none⟩) (j+1) M)).heap.size by have:=z.size;simp[World.setCell];omega)))));clear aX bD bE ai k9 f9 bB z bC bV bA hHeld;go_wp2_with fail;go_roundw;case rel=>exact⟨j+1,_,bg.o,by go_num,N.o.1,N.o.2.1,by rw[bf.o,aH.o];exact N.o.2.2.1,N.o.2.2.2.1,N.o.2.2.2.2⟩
    case measure=>have:=bg.o;simp[intOf];omega
  ·obtain rfl:j=n:=(by omega);rw[aY (by rw[R.o];exact ak _)]at r;obtain⟨O,C4,bW⟩:=r.shape;subst bW;have av:=r.list;have D:L.length<=C4:=by
    obtain⟨_,_,e,h,_⟩:=av.shape;injection e with _ _ e;rw[e];exact h
   rw[R.o]at f av;obtain⟨y0,y1⟩:=(And.intro (f.cell 0 (u:=.string role) rfl) (f.cell 1 (u:=.slice O j C4) rfl));obtain⟨q0,q1,f0,f1⟩:=l.two;have hi:¬(j:Int)<(j:Int):=(by omega);obtain⟨aH,bX,Z,aS,I⟩:=ZU av D B o l;clear r B f l av D o V hj;go_wp2_with fail;have h9:=(I.o.set 0 (.string role)).set 1 (.slice O j C4);have d0:=h9.cell 0 (u:=.string role) rfl;have d1:=h9.cell 1 (u:=.slice O j C4) rfl;refine bG (v:=.agg #[.string role,.slice O j C4]) (by simp[results,Tryz.results55,go_sem,d0,d1]) rfl ?_;refine⟨O,C4,by simp only[R.o],jK.moves (S:=eG (w.heap.size+2)) (n:=j) (c:=C4) (aH.o.aR λb hb _=>⟨hb,Pe _ _ _ _ _ (by have:=ax hb;omega)⟩) bF.o,bX.o,(Z.o.setCell (ak _) _).setCell (ak _) _⟩
end
end Go.Proofs.YtaciciokmpbkkaaGreatDoor
