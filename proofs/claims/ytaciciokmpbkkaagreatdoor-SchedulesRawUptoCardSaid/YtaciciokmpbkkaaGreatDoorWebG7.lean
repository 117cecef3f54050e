import Derived.Test.YtaciciokmpbkkaaGreatDoorWebG6
set_option maxRecDepth 100000
set_option maxHeartbeats 16000000
namespace Go.Proofs.YtaciciokmpbkkaaGreatDoor
section
namespace T
mutual
def safe(z:ByteArray):T->Bool
 |.mk k s a=>if k=1 then decide (s≠z) else if k=3 then yR z a else if k=5\/k=6 then Qp z a else true
def yR(z:ByteArray):List T->Bool
 |[]=>true
 |t::r=>safe z t&&yR z r
def Qp(z:ByteArray):List T->Bool
 |[]=>true
 |_::r=>yR z r
end
theorem KO(z:ByteArray):∀l:List T,Qp z l=yR z l.tail
 |[]=>rfl
 |_::_=>rfl
mutual
theorem TH{z:ByteArray}(d:2<z.size):∀t:T,t.lw=true->t.safe z=true
 |.mk k s c=>λh=>by
  simp only[lw,ai,bW]at h;have b:=EY d c h.2;simp only[safe];split;·exact aQ (λe=>by rw[e]at h;omega)
  ·split;·exact b
   ·split
    ·rw[KO];cases c with
     |nil=>rfl
     |cons a r=>
      simp only[yR,ai]at b;exact b.2
    ·rfl
theorem EY{z:ByteArray}(a:2<z.size):∀l:List T,uB l=true->yR z l=true
 |[]=>λ_=>rfl
 |t::r=>λh=>by
  simp only[uB,ai]at h;simp only[yR,ai];exact⟨TH a t h.1,EY a r h.2⟩
end
end T
namespace Wb
def zG(z:ByteArray)(W:List fC):Prop:=∀s∈W,s.t.safe z=true
theorem find_eq{U:List T}(hU:yA U){W:List fC}(a:Inv U W){t:T}(b:t∈U){i:Nat}(h:find W t=some i):∃hi:i<W.length,W[i].t=t:=by
 obtain⟨hi,c⟩:=QW (W:=W) (k:=t.key) h;exact⟨hi,T.key_inj (hU.ok _ (a.mem _ (aN hi))) (hU.ok t b) c⟩
theorem zG.add{z:ByteArray}{W:List fC}(h:zG z W){t:T}(c:t.safe z=true)(how:Nat)(jv:List Nat):zG z (add W t how jv).1:=by
 cases b:find W t with
 |some i=>rw[ry b];exact h
 |none=>
  rw[rq b];intro s a;rcases aU.1 a with a|a;·exact h s a
  ·rw[aX]at a;rw[a];exact c
theorem zG.mark{z:ByteArray}{W:List fC}(h:zG z W)(i:Nat):zG z (mark W i):=λx b=>by
 obtain⟨j,hj,rfl⟩:=bI b;have a:j<W.length:=(by rwa [ll]at hj);rw[(yH W i j hj a).1];exact h _ (aN a)
theorem zG.take{z:ByteArray}{W:List fC}(h:zG z W){t:T}(a:t.safe z=true)(how:Nat)(jv:List Nat):zG z (take W t how jv).1:=by
 unfold Wb.take;split;·exact h.add a how jv
 ·exact(h.add a how jv).mark _
theorem uW{W:List fC}{i:Nat}(h:i<W.length):rT W i=W[i].t:=by unfold rT;rw[aH h];rfl
theorem FU{U:List T}(hU:yA U){t:T}(a:t∈U){W:List fC}(b:Inv U W):Inv U (BI W t).1/\W <+:(BI W t).1/\∀i,(BI W t).2=some i->i<(BI W t).1.length:=lH hU _ t a W b
theorem Jc{U:List T}(hU:yA U){W:List fC}(b:Inv U W){i:Nat}(hi:i<W.length):Inv U (apart W i).1/\W.length<=(apart W i).1.length:=by
 have a:W[i].t∈U:=b.mem _ (aN hi);have e:=T.oU (aP.1 (hU.ok _ a)).2;unfold apart;rw[uW hi];generalize W[i].t=t at a e⊢;dsimp only
 split
 ·have f:=hU.eQ t a 0 (by omega);have g:=hU.eQ t a 1 (by omega);exact⟨rR _ _ (rR _ _ b f) g,aD (take_len _ _ _ _) (take_len _ _ _ _)⟩
 ·split;·exact⟨rR _ _ b (hU.eQ t a 1 (by omega)),take_len _ _ _ _⟩
  ·split
   ·split;·exact⟨b,ak _⟩
    ·obtain⟨c,d,_⟩:=FU hU (hU.eQ t a 0 (by omega)) b;split;·exact⟨c,d.length_le⟩
     ·exact⟨rR _ _ c (hU.eQ t a 1 (by omega)),aD d.length_le (take_len _ _ _ _)⟩
   ·exact⟨b,ak _⟩
theorem Fz{U:List T}(z:ByteArray):∀(a:List T) (W:List fC),(∀t∈a,t∈U)->Inv U W->Inv U (a.foldl (λW t=>(take W t 1 []).1) W)/\((∀t∈a,t.safe z=true)->zG z W->zG z (a.foldl (λW t=>(take W t 1 []).1) W))
 |[],_,_,b=>⟨b,λ_ h=>h⟩
 |t::r,W,h,b=>by
  obtain⟨e,a2⟩:=Fz z r _ (λx c=>h x (bq _ c)) (rR 1 [] b (h t (by simp)));exact⟨e,λd hS=>a2 (λx c=>d x (bq _ c)) (hS.take (d t (by simp)) _ _)⟩
end Wb
namespace Wb
def np(W:List fC):Nat:=W.countP λs=>s.part
theorem Xg(W:List fC):np W<=W.length:=List.countP_le_length
theorem VU(W:List fC)(t:T)(how:Nat)(jv:List Nat):np (W++[⟨t,how,jv,false⟩])=np W:=by
 unfold np;rw[List.countP_append];simp
theorem Hy(W:List fC)(t:T)(how:Nat)(jv:List Nat):np (add W t how jv).1=np W:=by
 cases a:find W t with
 |some i=>rw[ry a]
 |none=>rw[rq a];exact VU W t how jv
theorem P6:∀(W:List fC) (i:Nat) (h:i<W.length),W[i].part=false->np (mark W i)=np W+1
 |[],i,h,_=>absurd h (jg _)
 |a::r,0,_,b=>by
  have d:a.part=false:=b;unfold mark np;rw[su,sH,sH,d];simp
 |a::r,i+1,h,b=>by
  have c:=P6 r i (by simpa using h) b;unfold mark np at c⊢;rw[sj,sH,sH,c];omega
theorem wV{W:List fC}{i:Nat}(h:i<W.length):partAt W i=W[i].part:=by unfold partAt;rw[aH h];rfl
theorem F9(W:List fC)(t:T)(how:Nat)(jv:List Nat):np (take W t how jv).1=np W+if (take W t how jv).2=true then 1 else 0:=by
 have a:=ru W t how jv;have b:=Hy W t how jv;unfold take;split;·simp[b]
 ·rename_i h;have c:=wV a.2;rw[oV,c]at h;rw[aI rfl];show np (mark _ _)=_;rw[P6 _ _ a.2 h,b]
def Yx(rec:List fC->T->List fC×Option Nat)(t:T):Prop:=∀W,np (rec W t).1=np W
theorem KC{rec:List fC->T->List fC×Option Nat}{t:T}(how:Nat)(h0:Yx rec (t.eQ 0))(a:Yx rec (t.eQ 1)):Yx (λW t=>both rec W t how) t:=λW=>by
 simp only[both];split;·exact h0 W
 ·split;·exact(a _).t (h0 W)
  ·exact(Hy _ _ _ _).t ((a _).t (h0 W))
theorem TZ{rec:List fC->T->List fC×Option Nat}{t:T}(a:∀i,Yx rec (t.iI i)):∀(f i:Nat) (W:List fC),np (pow rec t f i W).1=np W
 |0,_,_=>rfl
 |f+1,i,W=>by
  have b:=TZ a f (i+1);simp only[pow];split;·exact b W
  ·split;·exact Hy _ _ _ _
   ·split;·exact(b _).t (a i W)
    ·exact(Hy _ _ _ _).t (a i W)
theorem nU:∀(n:Nat) (t:T),Yx (build n) t
 |0,_,_=>rfl
 |n+1,t,W=>by
  simp only[build];split;·rfl
  ·split
   ·split;·exact nU n _ W
    ·exact(Hy _ _ _ _).t (nU n _ W)
   ·split;·exact KC 6 (nU n _) (nU n _) W
    ·split;·exact KC 8 (nU n _) (nU n _) W
     ·split;·exact KC 9 (nU n _) (nU n _) W
      ·split;·exact TZ (λi=>nU n _) _ _ W
       ·rfl
theorem TY(W:List fC)(i:Nat):np W+(if (apart W i).2=true then 1 else 0)<=np (apart W i).1:=by
 unfold apart;dsimp only
 split
 ·have a:=F9 W ((rT W i).eQ 0) 2 [i];have b:=F9 (take W ((rT W i).eQ 0) 2 [i]).1 ((rT W i).eQ 1) 3 [i];dsimp only
  rw[b,a];cases (take W ((rT W i).eQ 0) 2 [i]).2<;>cases (take (take W ((rT W i).eQ 0) 2 [i]).1 ((rT W i).eQ 1) 3 [i]).2<;>simp
 ·split;·rw[F9];exact ak _
  ·split
   ·split;·simp
    ·split
     ·have:=nU (((rT W i).eQ 0).bC+1) ((rT W i).eQ 0) W;unfold BI;simp[this]
     ·rw[F9];have:=nU (((rT W i).eQ 0).bC+1) ((rT W i).eQ 0) W;unfold BI;rw[this];exact ak _
   ·simp
theorem KD:∀(f i:Nat) (m:Bool) (W:List fC),np W<=np (yf f i m W).1/\((yf f i m W).2=true->m=true\/np W+1<=np (yf f i m W).1)
 |0,_,m,W=>⟨ak _,λh=>.inl h⟩
 |f+1,i,m,W=>by
  simp only[yf];split
  ·split
   ·obtain⟨c,a2⟩:=KD f (i+1) (m||(apart W i).2) (apart W i).1;have a:=TY W i;refine⟨by split at a<;>omega,λh=>?_⟩;rcases a2 h with b|b
    ·cases m with
     |true=>exact .inl rfl
     |false=>
      right;rw[Bool.false_or]at b;rw[aI b]at a;omega
    ·right;split at a<;>omega
   ·exact KD f (i+1) m W
  ·exact⟨ak _,λh=>.inl h⟩
end Wb
end
section
open Go.RowKit
variable {X:Nat->Bool}
theorem AV{n:Nat}:∀(dG:List (List Value)),(∀cs∈dG,cs.length=n)->∀i (h:i<dG.length) r,r<n->dG.flatten[i*n+r]?=(dG[i])[r]?
 |[],_,i,h,_,_=>absurd h (jg _)
 |a::rest,b,0,_,r,c=>by
  have:=b a (by simp);rw[gy,qU,dJ,bP (by omega)];rfl
 |a::rest,b,i+1,h,r,c=>by
  have d:=b a (by simp);have f:=AV rest (λcs g=>b cs (bq _ g)) i (by simpa using h) r c;have e:(i+1)*n+r=n+(i*n+r):=(by rw[qR];omega);rw[gy,e,bD (by omega),d,mV,f];rfl
theorem gD.Nw{B g M:Nat}{vs vp:Value}{W:List fC}{w:World}(h:gD X B w g M vs vp W){i:Nat}(hi:i<W.length):∃gs c A cap F d,vs=.slice (some ⟨gs,0,none⟩) W.length c/\w.cell? ⟨gs,i*5,none⟩=some (.int .i64 W[i].t.aC)/\w.cell? ⟨gs,i*5+1,none⟩=some (.string W[i].t.aJ)/\
 w.cell? ⟨gs,i*5+2,none⟩=some (.slice A W[i].t.ay.length cap)/\w.cell? ⟨gs,i*5+3,none⟩=some (.int .i64 (W[i].how:Int))/\w.cell? ⟨gs,i*5+4,none⟩=some (.slice F W[i].jv.length d)/\
 bN (nr X g M vs vp) w (.agg #[.int .i64 W[i].t.aC,.string W[i].t.aJ,.slice A W[i].t.ay.length cap]) W[i].t/\lG (nr X g M vs vp) w F W[i].jv:=by
 obtain⟨dG,b,f⟩:=h.steps;obtain⟨gs,c,rfl,_⟩:=f.form (by omega);have k:i<dG.length:=(by rw[b.1];exact hi);obtain⟨A,cap,F,d,e,l,m⟩:=b.2 i k hi;have n:∀cs∈dG,cs.length=5:=λcs a=>by
  obtain⟨j,hj,rfl⟩:=bI a;exact(b.2 j hj (by rw[<-b.1];exact hj)).len
 have a:∀r,r<5->w.cell? ⟨gs,i*5+r,none⟩=(dG[i])[r]?:=λr o=>by
  rw[f.cellAt (i*5+r) (by omega)];exact AV dG n i k r o
 rw[e]at a;exact⟨gs,c,A,cap,F,d,rfl,a 0 (by omega),a 1 (by omega),a 2 (by omega),a 3 (by omega),a 4 (by omega),l,m⟩
namespace Wb
variable {W:List fC} {i:Nat}
theorem NW(hi:i<W.length)(a:W[i].t.aC=3):apart W i=((take (take W (W[i].t.eQ 0) 2 [i]).1 (W[i].t.eQ 1) 3 [i]).1,(take (take W (W[i].t.eQ 0) 2 [i]).1 (W[i].t.eQ 1) 3 [i]).2||(take W (W[i].t.eQ 0) 2 [i]).2):=by
 unfold apart;rw[uW hi];dsimp only;rw[if_pos a]
theorem N8(hi:i<W.length)(a:W[i].t.aC=6):apart W i=take W (W[i].t.eQ 1) 5 [i]:=by
 unfold apart;rw[uW hi];dsimp only;rw[if_neg (by omega),if_pos a]
theorem NZ(hi:i<W.length)(a:W[i].t.aC=5)(b:(find W (W[i].t.eQ 1)).any (λm=>partAt W m)=true):apart W i=(W,false):=by
 unfold apart;rw[uW hi];dsimp only;rw[if_neg (by omega),if_neg (by omega),if_pos a,if_pos b]
theorem N7(hi:i<W.length)(a:W[i].t.aC=5)(b:(find W (W[i].t.eQ 1)).any (λm=>partAt W m)=false)(hb:(BI W (W[i].t.eQ 0)).2=none):apart W i=((BI W (W[i].t.eQ 0)).1,false):=by
 unfold apart;rw[uW hi];dsimp only;rw[if_neg (by omega),if_neg (by omega),if_pos a,if_neg (by rw[b];simp),hb]
theorem NV{k:Nat}(hi:i<W.length)(a:W[i].t.aC=5)(b:(find W (W[i].t.eQ 1)).any (λm=>partAt W m)=false)(hb:(BI W (W[i].t.eQ 0)).2=some k):apart W i=take (BI W (W[i].t.eQ 0)).1 (W[i].t.eQ 1) 4 [i,k]:=by
 unfold apart;rw[uW hi];dsimp only;rw[if_neg (by omega),if_neg (by omega),if_pos a,if_neg (by rw[b];simp),hb]
theorem NU(hi:i<W.length)(a:W[i].t.aC≠3/\W[i].t.aC≠5/\W[i].t.aC≠6):apart W i=(W,false):=by
 unfold apart;rw[uW hi];dsimp only;rw[if_neg a.1,if_neg a.2.2,if_neg a.2.1]
end Wb
def ZI(X:Nat->Bool)(B g M:Nat)(w:World)(vs vp:Value)(r:List fC×Bool)(e:Ending)(w':World):Prop:=e=.returned (.bool r.2)/\mJ X B g M w vs vp r.1 w'
theorem XT{B g M:Nat}{vs vp:Value}{W:List fC}{U:List T}(hU:yA U)(bv:∀t∈U,t.bC<=1048576)(i:Nat)(w:World)(hi:i<W.length)(hI:Inv U W)(h:gD X B w g M vs vp W):
 Calls Tryz.prog 183 #[.pointer (some ⟨g,0,none⟩),.int .i64 (i:Int)] w (ZI X B g M w vs vp (Wb.apart W i)):=by
 have N:=hI.mem _ (aN hi);have aV:=T.oU (aP.1 (hU.ok _ N)).2;have V:=h.lt.2;obtain⟨gs,cp,A0,bz,_,_,rfl,c0,c1,c2,_,_,hT,_⟩:=h.Nw hi;have aW:=Wb.NW hi;have aX:=Wb.N8 hi;have aY:=Wb.NZ hi;have aZ:=Wb.N7 hi;have bf:=λk=>Wb.NV (k:=k) hi;have bg:=Wb.NU hi;generalize W[i].t=t at N aV hT c0 c1 c2 aW aX aY aZ bf bg;obtain⟨R,hR⟩:∃R,Wb.apart W i=R:=⟨_,rfl⟩;rw[hR]at aW aX aY aZ bf bg⊢;obtain⟨H1,H2,H3,H4,H5,H6⟩:=ZV aW aX aY aZ bf bg;have hw:=af w (.cells #[.int .i64 t.aC,.string t.aJ,.slice A0 t.ay.length bz] 29);have bx:=jM.new w (.int .i64 t.aC) (.string t.aJ) (.slice A0 t.ay.length bz);obtain⟨vs,az⟩:∃v:Value,Value.slice (some ⟨gs,0,none⟩) W.length cp=v:=⟨_,rfl⟩;have dM:=aa az;have HN:=aa (show nr X g M vs vp w.heap.size=true by rw[<-az];exact qp h (ak _));have D:=aa (show Fr X B g M vs vp w vs vp _ from(Fr.refl (X:=X) B g M vs vp w).ag V hw);have s:=aa (show gD X B _ g M vs vp W by rw[<-az];exact h.ag hw);have Y:=aa (show bN (nr X g M vs vp) _ _ t by rw[<-az];exact hT.aR (S':=nr X g M _ vp) (λb hb c=>⟨hb,hw.block b c⟩));have Z:=aa hI;have cK:=h.cells.1;rw[az];have bU:(0:Int)<=(i:Int)/\(i:Int)<(W.length:Int):=(by omega);obtain⟨bU,dN⟩:=bU;obtain⟨aA,bV,bW⟩:=ZR ((λ(x:Nat) (z:x<t.ay.length) v' W' how jv F fc O vs' mK (aF:Inv U O) hW bA hF=>Xi (X:=X) (W:=O) (g:=g) (M:=M) (B:=B) (vs:=vs') (vp:=mK) (t.eQ x) v' W' how jv F fc hW bA (bv _ (hU.eQ t N x z)) hF (aF.room hU (hU.eQ t N x z)))) (λ(x:Nat) (z:x<t.ay.length) how jv O (aF:Inv U O)=>Wb.rR how jv aF (hU.eQ t N x z)) ((λ(x:Nat) (z:x<t.ay.length) v' W' O vs' mK (hW:gD X B W' g M vs' mK O) (bA:aO W' v' (t.eQ x))=>Qc (X:=X) (t.eQ x) v' W' hW bA (bv _ (hU.eQ t N x z))));have bB:=aa (λ(x:Nat) (z:x<t.ay.length)=>Ua (X:=X) (B:=B) hU bv ((t.eQ x).bC+1) (t.eQ x) (by omega) (hU.eQ t N x z));have bD:=aa (λ(x:Nat) (z:x<t.ay.length) (O:List fC) (aF:Inv U O)=>Wb.FU hU (hU.eQ t N x z) aF);clear aW aX aY aZ bf bg hR hI h hT hw az;obtain⟨k,hk⟩:∃k,t.aC=k:=⟨_,rfl⟩;obtain⟨nm,bE⟩:∃nm,t.aJ=nm:=⟨_,rfl⟩;obtain⟨kn,aG⟩:∃kn,t.ay.length=kn:=⟨_,rfl⟩;rw[hk,bE,aG]at bx D s Y;rw[hk]at c0 H1 H2 H3 H4 H5 H6;rw[bE]at c1;rw[aG]at c2 aA bV bW bB bD;rw[hk,aG]at aV;obtain⟨HK,P,cO⟩:=ZR hk aG aV;clear hk bE aG aV;go_enter Tryz.func183,Tryz.ntmps183;go_upto_region 2 with fail;generalize w.alloc (.cells #[.int .i64 k,.string nm,.slice A0 kn bz] 29)=w1 at bx D s Y⊢;clear c0 c1 c2 cK;obtain⟨x0,x1,x2⟩:=bx.cells;have BX:=aa bx;clear bx;rcases cO.o with⟨cZ,h0⟩|⟨df,h2⟩|⟨E,A⟩|⟨h7,A,dO⟩
 ·have d:=aa (H6.o (by omega));rcases cZ with rfl|rfl
  ·clear h0;go_wp2_with fail;go_ret;rw[d.o];exact⟨rfl,_,_,s.o,D.o⟩
  ·clear h0;go_wp2_with fail;go_ret;rw[d.o];exact⟨rfl,_,_,s.o,D.o⟩
 ·subst h2;obtain⟨b,off,A1,c1,rfl,_,d0,d1,d2,C⟩:=Y.o.OD (by rw[P.o];decide);rcases df with rfl|rfl|rfl
  ·have f:=af w1 (.cells #[.int .i64 (i:Int)] 3);obtain⟨bF,bG,dh,bH,aH,di⟩:=ZV ((lG.one (S:=nr X g M vs vp) w1 i 3 (qp s.o (ak _)))) (s.o.ag f) (Y.o.aR (S':=nr X g M vs vp) (λb hb c=>⟨hb,f.block b c⟩)) (D.o.ag V f) (C.aR (S':=nr X g M vs vp) (λb hb c=>⟨hb,f.block b c⟩)) (BX.o.ag f);have Q:=aA.o 0 (by decide) _ _ 2 [i] _ 1 _ _ _ Z.o bG.o aH.o bF.o;have hit:=bV.o 0 (by decide) 2 [i] W Z.o;have A:=H1.o rfl;generalize Wb.take W (t.eQ 0) 2 [i]=q at Q hit A;obtain⟨dm,dw,dx⟩:=ZR Q hit A;clear f C Q hit A;go_wp2_with fail;refine dm.o.m ?_;rintro e w3 ⟨rfl,bX,bY,bZ,bi⟩;obtain⟨cu,dz,dA,dB⟩:=ZT bZ (dh.o.fr bi) (bH.o.t bi) (di.o.fr bi HN.o);clear bZ bi x0 x1 x2 d0 d1 d2;obtain⟨G,H,I⟩:=dB.o.cells;obtain⟨_,_,A2,c2,a,_,d0,d1,d2,j⟩:=dz.o.Ra (by rw[P.o];decide);injection a with a;injection a with a n;subst a;subst n;have bn:=af w3 (.cells #[.int .i64 (i:Int)] 3);obtain⟨dC,dD,dE,J⟩:=ZT ((lG.one (S:=nr X g M bX bY) w3 i 3 (qp cu.o (ak _)))) (cu.o.ag bn) (dA.o.ag V bn) (j.aR (S':=nr X g M bX bY) (λb hb c=>⟨hb,bn.block b c⟩));have Q:=aA.o 1 (by decide) _ _ 3 [i] _ 1 _ _ _ dw.o dD.o J.o dC.o;have A:=dx.o;obtain⟨q1,q2⟩:=q;dsimp only at A Q⊢;generalize Wb.take q1 (t.eQ 1) 3 [i]=r at Q A;obtain⟨dF,cz⟩:=ZQ Q A;clear bn j Q A;go_wp2_with fail;refine dF.o.m ?_;rintro e w5 ⟨rfl,aB⟩;have aI:=aa (mJ.after dE.o aB);clear aB G H I d0 d1 d2;obtain⟨r1,r2⟩:=r;dsimp only at aI⊢;cases r2 with
   |true=>
    go_wp2_with fail;go_ret;rw[cz.o];exact⟨rfl,aI.o⟩
   |false=>
    go_wp2_with fail;go_ret;rw[cz.o];exact⟨by cases q2<;>rfl,aI.o⟩
  ·obtain⟨_,_,A2,c2,a,_,f0,f1,f2,j⟩:=Y.o.Ra (by rw[P.o];decide);injection a with a;injection a with a n;subst a;subst n;have J:=aa j;clear C j;go_wp2_with fail;refine(bW.o 1 (by decide) _ _ _ _ _ s.o J.o.at).m ?_;rintro e w2 ⟨l,f⟩;obtain⟨aK,bq,bI,bu⟩:=ZT (s.o.ag f) (Y.o.aR (S':=nr X g M vs vp) (λb hb c=>⟨hb,f.block b c⟩)) (D.o.ag V f) (BX.o.ag f);clear f x0 x1 x2 d0 d1 d2 f0 f1 f2;cases hf:jk W (t.eQ 1).key with
   |none=>
    have u:e=.returned (.int .i64 (-1)):=(by rw[l,hf];rfl);clear l;subst u;have aL:=aa (show(Wb.find W (t.eQ 1)).any (λm=>Wb.partAt W m)=false by rw[LG,hf];rfl);clear hf;obtain⟨G,H,I⟩:=bu.o.cells;obtain⟨_,_,A1,c1,a,_,d0,d1,d2,C⟩:=bq.o.OD (by rw[P.o];decide);injection a with a;injection a with a n;subst a;subst n;have aH:=aa C;have K:=bB.o 0 (by decide) _ _ g M vs vp W Z.o aK.o aH.o;have aM:=bD.o 0 (by decide) W Z.o;have E:=H4.o (by trivial) aL.o;have h5:=λk=>H5.o k (by trivial) aL.o;change Calls _ _ _ _ (Ym X B g M _ vs vp (Wb.BI W (t.eQ 0)))at K;generalize Wb.BI W (t.eQ 0)=q at K aM E h5;obtain⟨aQ,_,_⟩:=aM;obtain⟨bJ,bK,bL,bM⟩:=ZT aQ K E h5;clear C aQ K E h5;go_wp2_with fail;refine bK.o.m ?_;rintro e w6 ⟨l,ae,ai,aS,L⟩;obtain⟨av,aT,aU,bO⟩:=ZT aS (bq.o.fr L) (bI.o.t L) (bu.o.fr L HN.o);clear aS L G H I d0 d1 d2;cases o:q.2 with
    |none=>
     have u:e=.returned (.int .i64 (-1)):=(by rw[l,o];rfl);clear l;subst u;have d:=aa (bL.o o);clear o;go_wp2_with fail;go_ret;rw[d.o];exact⟨rfl,_,_,av.o,aU.o⟩
    |some p=>
     have u:e=.returned (.int .i64 (p:Int)):=(by rw[l,o];rfl);clear l;subst u;have dG:(0:Int)<=(p:Int):=(by omega);have d:=aa (bM.o p o);clear o;obtain⟨G,H,I⟩:=bO.o.cells;have y:=af w6 (.cells #[.int .i64 (i:Int),.int .i64 (p:Int)] 3);obtain⟨bP,bQ,dH,bR⟩:=ZT ((lG.two (S:=nr X g M ae ai) w6 i p 3 (qp av.o (ak _)))) (av.o.ag y) (aT.o.aR (S':=nr X g M ae ai) (λb hb c=>⟨hb,y.block b c⟩)) (aU.o.ag V y);obtain⟨_,_,A2,c2,a,_,d0,d1,d2,j⟩:=aT.o.Ra (by rw[P.o];decide);injection a with a;injection a with a n;subst a;subst n;have J:=aa (j.aR (S':=nr X g M ae ai) (λb hb c=>⟨hb,y.block b c⟩));clear y j;go_wp2_with fail;refine(aA.o 1 (by decide) _ _ 4 [i,p] _ _ _ _ _ bJ.o bQ.o J.o bP.o).m ?_;rintro e w8 ⟨rfl,ax⟩;rw[<-d.o]at ax⊢;have bS:=aa (mJ.after bR.o ax);clear ax G H I d0 d1 d2;go_wp2_with fail;go_ret;exact⟨rfl,bS.o⟩
   |some m=>
    have u:e=.returned (.int .i64 (m:Int)):=(by rw[l,hf];rfl);clear l;subst u;have hm:=GM hf;obtain⟨gp,dI,dJ,p0,_,_⟩:=aK.o.Dy hm;subst dJ;have dK:=aK.o.cells.2.2.1;have bT:(0:Int)<=(m:Int)/\(m:Int)<(W.length:Int):=(by omega);obtain⟨bT,dL⟩:=bT;have cB:=aa (show(Wb.find W (t.eQ 1)).any (λm=>Wb.partAt W m)=W[m].part by rw[LG,hf];exact Wb.wV hm);clear hf;cases aD:W[m].part with
    |true=>
     rw[aD]at p0;have d:=aa (H3.o (by trivial) (by rw[cB.o,aD]));clear aD;go_wp2_with fail;go_ret;rw[d.o];exact⟨rfl,_,_,aK.o,bI.o⟩
    |false=>
     rw[aD]at p0;have aL:=aa (cB.o.t aD);clear aD;go_upto_region 12 with fail;clear p0 dK bT dL;generalize Value.slice (some ⟨gp,0,none⟩) W.length dI=vp at*;obtain⟨G,H,I⟩:=bu.o.cells;obtain⟨_,_,A1,c1,a,_,d0,d1,d2,C⟩:=bq.o.OD (by rw[P.o];decide);injection a with a;injection a with a n;subst a;subst n;have aH:=aa C;have K:=bB.o 0 (by decide) _ _ g M vs vp W Z.o aK.o aH.o;have aM:=bD.o 0 (by decide) W Z.o;have E:=H4.o (by trivial) aL.o;have h5:=λk=>H5.o k (by trivial) aL.o;change Calls _ _ _ _ (Ym X B g M _ vs vp (Wb.BI W (t.eQ 0)))at K;generalize Wb.BI W (t.eQ 0)=q at K aM E h5;obtain⟨aQ,_,_⟩:=aM;obtain⟨bJ,bK,bL,bM⟩:=ZT aQ K E h5;clear C aQ K E h5;go_wp2_with fail;refine bK.o.m ?_;rintro e w6 ⟨l,ae,ai,aS,L⟩;obtain⟨av,aT,aU,bO⟩:=ZT aS (bq.o.fr L) (bI.o.t L) (bu.o.fr L HN.o);clear aS L G H I d0 d1 d2;cases o:q.2 with
     |none=>
      have u:e=.returned (.int .i64 (-1)):=(by rw[l,o];rfl);clear l;subst u;have d:=aa (bL.o o);clear o;go_wp2_with fail;go_ret;rw[d.o];exact⟨rfl,_,_,av.o,aU.o⟩
     |some p=>
      have u:e=.returned (.int .i64 (p:Int)):=(by rw[l,o];rfl);clear l;subst u;have dG:(0:Int)<=(p:Int):=(by omega);have d:=aa (bM.o p o);clear o;obtain⟨G,H,I⟩:=bO.o.cells;have y:=af w6 (.cells #[.int .i64 (i:Int),.int .i64 (p:Int)] 3);obtain⟨bP,bQ,dH,bR⟩:=ZT ((lG.two (S:=nr X g M ae ai) w6 i p 3 (qp av.o (ak _)))) (av.o.ag y) (aT.o.aR (S':=nr X g M ae ai) (λb hb c=>⟨hb,y.block b c⟩)) (aU.o.ag V y);obtain⟨_,_,A2,c2,a,_,d0,d1,d2,j⟩:=aT.o.Ra (by rw[P.o];decide);injection a with a;injection a with a n;subst a;subst n;have J:=aa (j.aR (S':=nr X g M ae ai) (λb hb c=>⟨hb,y.block b c⟩));clear y j;go_wp2_with fail;refine(aA.o 1 (by decide) _ _ 4 [i,p] _ _ _ _ _ bJ.o bQ.o J.o bP.o).m ?_;rintro e w8 ⟨rfl,ax⟩;rw[<-d.o]at ax⊢;have bS:=aa (mJ.after bR.o ax);clear ax G H I d0 d1 d2;go_wp2_with fail;go_ret;exact⟨rfl,bS.o⟩
  ·obtain⟨_,_,A2,c2,a,_,f0,f1,f2,j⟩:=Y.o.Ra (by rw[P.o];decide);injection a with a;injection a with a n;subst a;subst n;have f:=af w1 (.cells #[.int .i64 (i:Int)] 3);obtain⟨bF,bG,bH,J,d⟩:=ZU ((lG.one (S:=nr X g M vs vp) w1 i 3 (qp s.o (ak _)))) (s.o.ag f) (D.o.ag V f) (j.aR (S':=nr X g M vs vp) (λb hb c=>⟨hb,f.block b c⟩)) (H2.o rfl);clear f C j;go_wp2_with fail;refine(aA.o 1 (by decide) _ _ 5 [i] _ _ _ _ _ Z.o bG.o J.o bF.o).m ?_;rintro e w5 ⟨rfl,aB⟩;rw[<-d.o]at aB⊢;have aI:=aa (mJ.after bH.o aB);clear aB x0 x1 x2 d0 d1 d2 f0 f1 f2;go_wp2_with fail;go_ret;exact⟨rfl,aI.o⟩
 ·subst E;have d:=aa (H6.o (by omega));go_wp2_with fail;go_ret;rw[d.o];exact⟨rfl,_,_,s.o,D.o⟩
 ·subst h7;have d:=aa (H6.o (by omega));go_wp2_with fail;go_ret;rw[d.o];exact⟨rfl,_,_,s.o,D.o⟩
end
section
open Go.RowKit
attribute [local go_sem ↓] Go.wp_at_zero Go.wp_at_succ
theorem wU:∀(N:Nat) (t:T) (v:Value) (w:World),t.bC<N->aO w v t->t.bC<=1048576->
 Calls Tryz.prog 36 #[v] w (Qu t w):=by
 intro N;induction N with
 |zero=>intro t v w h;omega
 |succ N J=>
  intro t v w hN ht az;cases ht with
  |mk k s A cap a U K L h3 h4 hA hU=>
   simp only[T.bC]at hN az;have bq:a.length<=262144:=(by have:=T.kN a;omega);have HT:=aa (aO.mk k s A cap a U K L h3 h4 hA hU);obtain⟨i0,aA,aB,aD,aF⟩:=dV Tryz.uI;go_enter Tryz.func36,Tryz.ntmps36;go_wp2_with fail;obtain⟨c,y,z,p⟩:=rz w (.int .i64 k) (.string s) (.slice none 0 0) (.int .i64 0) (.string ⟨#[]⟩) (.slice none 0 0);generalize(w.alloc (.cells #[.int .i64 k,.string s,.slice none 0 0] 29)).alloc (.cells #[.int .i64 0,.string ⟨#[]⟩,.slice none 0 0] 29)=w1 at c y z p⊢;have M:Ez w k s [] w1:=⟨_,c,y,bK.nil _ _,z,by omega⟩;obtain⟨aG,IH⟩:=ZQ M J;clear c y z p M J;obtain⟨aH,aI⟩:=ZQ hA hU;clear hA hU;go_loopw [11] (λi wr=>∃j:Nat,j<=a.length/\i=.int .i64 j/\Ez w k s (a.take j) wr) (λi _=>a.length-(intOf i).toNat);case atStart=>exact⟨0,aL _,rfl,by simpa using aG.o⟩
   case round=>
    obtain⟨j,hj,rfl,o⟩:=hrel;by_cases q:j<a.length
    ·obtain⟨kv,c,l,f,d,p⟩:=o;obtain⟨b,off,r,u,rfl,d0,d1,d2,hu⟩:=aO.cells q aH.o aI.o;obtain⟨e0,e1,e2⟩:=Z0 d d0 d1 d2;have hi:(j:Int)<(a.length:Int):=(by omega);obtain⟨HU,O,HJ⟩:=ZR (hu.ag d) q hj;have P:=aa (show a[j].bC<N/\a[j].bC<=1048576 by have:=T.iQ a j q;omega);clear d0 d1 d2 hu hj;go_upto_region 6 with fail;have n:=af wr (.cells #[.int .i64 a[j].aC,.string a[j].aJ,.slice r a[j].ay.length u] 29);have Q:=jM.new wr (.int .i64 a[j].aC) (.string a[j].aJ) (.slice r a[j].ay.length u);have R:=aK wr (.cells #[.int .i64 a[j].aC,.string a[j].aJ,.slice r a[j].ay.length u] 29);generalize wr.alloc (.cells #[.int .i64 a[j].aC,.string a[j].aJ,.slice r a[j].ay.length u] 29)=S at n Q R⊢;replace c:=c.ag n;replace l:=l.ag n;replace f:=f.ag n;replace d:=d.t (n.m d.size);have B:w.heap.size+2<=S.heap.size:=(by omega);have aM:=aa (HU.o.ag n);obtain⟨xs,x,V⟩:=f.owns;have W:(List.take j a).length=j:=(by rw[aW];omega);obtain⟨X,aN⟩:=ZQ (λt w3 w4 u0 u1 u2 g cap=>Ez.step (k:=k) (s:=s) (t:=t) (w3:=w3) (w4:=w4) (u0:=u0) (u1:=u1) (u2:=u2) (g:=g) (cap:=cap) c l f d B V x.1) (show List.take j a++[a[j]]=List.take (j+1) a from(aV q).symm);obtain⟨Y,Z,C⟩:=c.cells;obtain⟨f0,f1,f2⟩:=c.free;obtain⟨q0,q1,q2⟩:=Q.cells;have D:=f.block;rw[W]at x X;obtain⟨HOWN,aP,bu⟩:=ZR x c D;have bv:w.heap.size<S.heap.size:=(by omega);have aQ:=aa B;have aR:=aa (show kv.ownBlock≠some w.heap.size from λe=>by have:=(D _ e).1;omega);clear e0 e1 e2 V f l p B W x c n d D R;go_region_law (first|(refine dZ _ (by rfl) _ _ _ (by rfl) (w.heap.size+2) 29 i0 _ 3 48 bM aA aB aD aF rfl (by omega) _ _ _ (by rfl) aS.o ⟨_,0,none⟩ 1 1 _ (by rfl) (by rfl) (di (bO _ _)) aT.o (by omega) (by unfold maxLen;omega) (by omega) aU.o _ rfl ?_;intro g cap w4 ai E o aX;have F:=(aP.o.ag (m.t ((af w3 _).m m.size))).grown E aR.o;have c4:=F.cells.2.2;have f4:=F.free.2.2)|(go_simp;go_at_call 36;refine(IH.o _ _ _ P.o.1 aM.o.drew P.o.2).m ?_;rintro e w3 ⟨G,C3,rfl,H,aZ⟩;have m:=jW aZ;obtain⟨z0,z1,z2⟩:=Z0 m Y Z C;have bf:=ae (af w3 (.cells #[.int .i64 a[j].aC,.string a[j].aJ,.slice G a[j].ay.length C3] 29)) z2;obtain⟨aS,aT⟩:=ZQ ((dz HOWN.o m).alloc (.cells #[.int .i64 a[j].aC,.string a[j].aJ,.slice G a[j].ay.length C3] 29)) H.one;have aU:=aa (show w.heap.size+2<=(w3.alloc (.cells #[.int .i64 a[j].aC,.string a[j].aJ,.slice G a[j].ay.length C3] 29)).heap.size by rw[aK];have:=m.size;have:=aQ.o;omega)));all_goals
      have I:=X.o a[j] w3 w4 _ _ _ g cap m H ai E (o.imp id (λh=>h.t (aK _ _)));rw[aN.o]at I;have bg:=aa I;clear I E ai H c4 f4 F z0 z1 z2 bf o aX;go_wp2_with fail;go_roundw;case rel=>exact⟨j+1,O.o,by go_num,bg.o⟩
      case measure=>have:=O.o;simp[intOf];omega
    ·obtain rfl:j=a.length:=(by omega);rw[aY (ak _)]at o;obtain⟨kv,c,l,f,d,p⟩:=o;obtain⟨A4,C4,av,_,_⟩:=f.shape;obtain⟨Y,Z,C⟩:=c.cells;obtain⟨q0,q1,q2⟩:=l.cells;obtain⟨f0,f1,f2⟩:=l.free;obtain⟨ax,bi,bn⟩:=ZR (f.term k s K L) d l;rw[av]at C ax;clear av f d c l;go_wp2_with fail;obtain⟨d0,d1,d2⟩:=(fJ bn.o (.int .i64 k) (.string s) (.slice A4 a.length C4)).cells;refine bG (v:=.agg #[.int .i64 k,.string s,.slice A4 a.length C4]) (by simp[results,Tryz.results36,go_sem,d0,d1,d2]) rfl ?_;exact wy (t:=.mk k s a) _ _ _ bi.o (by omega) rfl rfl rfl ax.o
end
section
open Go.RowKit
def T.use(t:T):Bool:=t.ground&&t.FX
theorem Zc{t:T}(h:t.ground=false):t.use=false:=by unfold T.use;rw[h];rfl
theorem Zd{t:T}(h:t.ground=true):t.use=t.FX:=by unfold T.use;rw[h];rfl
theorem T.iJ{t:T}(h:t.use=true):t.fe=true:=((T.AY t).1 (aP.1 h).2).1
theorem Qf(t:T)(v:Value)(w:World)(c:aO w v t)(o:t.bC<=1048576):
 Calls Tryz.prog 184 #[v] w λe w'=>e=.returned (.bool t.use)/\Below w.heap.size w w':=by
 obtain⟨u,x⟩:=ZQ (λh W i=>Gb t h W i o) (λh W i=>Ui t h W i o);have b:=Zc (t:=t);have a:=Zd (t:=t);obtain⟨q,y⟩:∃q,t.use=q:=⟨_,rfl⟩;rw[y]at b a⊢;generalize t.ground=p at b a u;generalize t.FX=r at a x;obtain⟨B,C⟩:=ZQ b a;clear b a y;cases c with
 |mk k s A cap d U b a D E hA hU=>
 have c:=aO.mk k s A cap d U b a D E hA hU;go_enter Tryz.func184,Tryz.ntmps184;go_upto_region 1 with fail;have f:=jM.new w (.int .i64 k) (.string s) (.slice A d.length cap);have j:=af w (.cells #[.int .i64 k,.string s,.slice A d.length cap] 29);obtain⟨l,m⟩:=ZQ (c.ag j) j;clear c hA hU j;generalize w.alloc (.cells #[.int .i64 k,.string s,.slice A d.length cap] 29)=K at f l m⊢;obtain⟨x0,F,G⟩:=f.cells;have H:=aa f;clear f;go_wp2_with fail;refine(u.o _ _ l.o).m ?_;rintro e L ⟨rfl,g⟩;obtain⟨n,I⟩:=ZQ (m.o.t (g.m m.o.size)) (l.o.ag g);obtain⟨M,N,O⟩:=(H.o.ag g).cells;clear g x0 F G;cases p with
 |false=>
  go_wp2_with fail;go_ret;exact⟨cZ (B.o trivial).symm,n.o⟩
 |true=>
  go_wp2_with fail;refine(x.o _ _ I.o).m ?_;rintro e w3 ⟨rfl,z⟩;have J:=aa (n.o.t (z.m n.o.size));clear z;go_wp2_with fail;go_ret;exact⟨cZ (C.o trivial).symm,J.o⟩
theorem bK.push{w w1 w3:World}{base:Nat}{v:Value}{L:List T}{t:T}{A8:Option Addr}{c8:Nat}{xs:List Value}{u0 u1 u2:Value}{o:Obj}(c:CT (but base v.ownBlock) w xs L)(g:∀b,v.ownBlock=some b->b<w.heap.size)(z:base<=w.heap.size)
 (hb:Below w.heap.size w w1) (j:bN (eG w.heap.size) w1 (.agg #[u0,u1,u2]) t) (d:w3.ownsRow base 29 3 (.slice A8 (L.length+1) c8) (L.length+1) (xs++[u0,u1,u2]))
 (k:(w1.alloc o).grownBy w3 v.ownBlock) (l:A8.map (·.block)=v.ownBlock\/A8.map (·.block)=some (w1.alloc o).heap.size):bK w3 base (.slice A8 (L.length+1) c8) (L++[t]):=by
 obtain⟨A,cap,e,_⟩:=d.form (by omega);injection e with m B n;subst m;subst n;have p:=hb.t ((af w1 o).m hb.size);refine bK.snoc (w:=w1.alloc o) (H:=(w1.alloc o).heap.size) (λi hi=>?_) c.1 ?_ d k ?_ rfl
 ·obtain⟨a0,q,r,s,u,x,b3⟩:=c.2 i hi;exact⟨a0,q,r,s,u,x,b3.aR λb y a=>⟨y,p.block b a⟩⟩
 ·refine j.aR λb f a=>⟨ja.2 ⟨by have:=ax f;omega,λe=>by have:=g b e;have:=ax f;omega⟩,fF w1 o b a⟩
 ·rcases l with h|h;·exact .inl h.symm
  ·right;injection h
def gM(w:World)(A:Option Addr)(cap:Nat)(L:List T):Prop:=aO w (.agg #[.int .i64 0,.string ⟨#[]⟩,.slice A L.length cap]) (.mk 0 ⟨#[]⟩ L)
theorem gM.ag{w w':World}{A:Option Addr}{cap:Nat}{L:List T}(h:gM w A cap L)(hb:Below w.heap.size w w'):gM w' A cap L:=aO.ag h hb
theorem aO.inv{w:World}{v:Value}{t:T}(h:aO w v t):∃(A:Option Addr) (cap:Nat) (U:Nat->Value×Value×Value),v=.agg #[.int .i64 t.aC,.string t.aJ,.slice A t.ay.length cap]/\t.ay.length<=cap/\cap<=maxLen/\
 (t.ay.length=0\/∃b off,A=some ⟨b,off,none⟩/\∀i,i<t.ay.length->w.cell? ⟨b,off+i*3,none⟩=some (U i).1/\w.cell? ⟨b,off+i*3+1,none⟩=some (U i).2.1/\w.cell? ⟨b,off+i*3+2,none⟩=some (U i).2.2)/\
 (∀i (h:i<t.ay.length),aO w (.agg #[(U i).1,(U i).2.1,(U i).2.2]) t.ay[i]):=by
 cases h with
 |mk k s A cap d U e f a c hA hU=>exact⟨A,cap,U,rfl,a,c,hA,hU⟩
theorem gM.inv{w:World}{A:Option Addr}{cap:Nat}{L:List T}(h:gM w A cap L):∃U:Nat->Value×Value×Value,L.length<=cap/\cap<=maxLen/\(L.length=0\/∃b off,A=some ⟨b,off,none⟩/\∀i,i<L.length->w.cell? ⟨b,off+i*3,none⟩=some (U i).1/\w.cell? ⟨b,off+i*3+1,none⟩=some (U i).2.1/\w.cell? ⟨b,off+i*3+2,none⟩=some (U i).2.2)/\
 (∀i (h:i<L.length),aO w (.agg #[(U i).1,(U i).2.1,(U i).2.2]) L[i]):=by
 obtain⟨k,l,U,e,a,c,d,f⟩:=aO.inv h;injection e with e;injection e with e;injection e with _ e;injection e with _ e;injection e with e _;injection e with g _ j;subst g;subst j;exact⟨U,a,c,d,f⟩
theorem gM.get{w:World}{A:Option Addr}{cap:Nat}{L:List T}(h:gM w A cap L){i:Nat}(hi:i<L.length):∃b off A' a,A=some ⟨b,off,none⟩/\w.cell? ⟨b,off+i*3,none⟩=some (.int .i64 L[i].aC)/\w.cell? ⟨b,off+i*3+1,none⟩=some (.string L[i].aJ)/\
 w.cell? ⟨b,off+i*3+2,none⟩=some (.slice A' L[i].ay.length a)/\aO w (.agg #[.int .i64 L[i].aC,.string L[i].aJ,.slice A' L[i].ay.length a]) L[i]:=by
 obtain⟨U,_,_,hA,hU⟩:=h.inv;exact aO.cells hi hA hU
theorem gM.Oi{w:World}{A:Option Addr}{cap:Nat}{L:List T}(h:gM w A cap L):L.length<=cap/\cap<=maxLen:=by
 obtain⟨U,a,b,_⟩:=h.inv;exact⟨a,b⟩
theorem oO{w:World}{base:Nat}{e:TypeId}{size n:Nat}{v:Value}{xs:List Value}(h:w.ownsRow base e size v n xs):∃A c,v=.slice A n c:=by
 rcases h.2 with⟨rfl,rfl⟩|⟨g,cap,a,rfl,_⟩;·exact⟨_,_,rfl⟩
 ·exact⟨_,_,rfl⟩
theorem Src.BO(w:World)(cs:List Value)(e:TypeId)(size:Nat)(h:cs.length=size):Src (w.alloc (.cells cs.toArray e)) size (some ⟨w.heap.size,0,none⟩) 1 cs:=by
 refine⟨by omega,.inr ⟨_,0,rfl,λj u hu=>?_⟩⟩;rw[dJ];have e:=bO w (.cells cs.toArray e);unfold World.cell?;rw[e];simpa using hu
def cnt(L:List T):List T:=(L.take 64).filter T.use
theorem Tu(L:List T)(j:Nat)(h:j<L.length):(L.take (j+1)).filter T.use=if L[j].use=true then (L.take j).filter T.use++[L[j]] else (L.take j).filter T.use:=by
 rw[aV h,qg];by_cases hu:L[j].use=true;·rw[aI hu];simp[hu]
 ·rw[aG hu];simp[hu]
theorem Ue(L:List T)(A:Option Addr)(cap:Nat)(w:World)(h:gM w A cap L)(hb:∀t∈L,t.bC<=1048576):
 Calls Tryz.prog 181 #[.slice A L.length cap] w λe w'=>∃c,e=.returned c/\bK w' w.heap.size c (cnt L)/\Below w.heap.size w w':=by
 obtain⟨i0,ak,av,ax,aA⟩:=dV Tryz.uI;obtain⟨m,q⟩:∃m,m=min L.length 64:=⟨_,rfl⟩;have aB:m<=L.length:=(by omega);have bq:m<=64:=(by omega);have R:=aa q;have D:=h.Oi;unfold maxLen at D;obtain⟨aF,aG⟩:=ZQ h hb;obtain⟨n,E⟩:∃n,L.length=n:=⟨_,rfl⟩;have HN:=aa E;rw[E]at aB q D⊢;obtain⟨bu,bv⟩:=D;clear h hb E;go_enter Tryz.func181,Tryz.ntmps181;go_upto_region 2 with fail;go_cut [10,11,12]from 6 to 13 (λaH aI aM W'=>aH=.slice A m cap/\aI=.int .i64 m/\aM=.int .i64 0/\w=W')
 case first=>
  by_cases S:64<n
  ·have e:m=64:=(by omega);subst e;have aO:(64:Int)<(n:Int):=(by omega);have bz:(64:Int)<=(cap:Int):=(by omega);clear q S;go_wp2_with fail;go_meet;exact⟨by first|rfl|(congr 1;omega),by first|rfl|(congr 1;omega),rfl,rfl⟩
  ·have e:m=n:=(by omega);subst e;have aO:¬((64:Int)<(m:Int)):=(by omega);clear q S;go_wp2_with fail;go_meet;exact⟨by first|rfl|(congr 1;omega),by first|rfl|(congr 1;omega),rfl,rfl⟩
 case rest=>
  obtain⟨rfl,rfl,rfl,rfl⟩:=hcut;clear q;have U:=aa (show bK w w.heap.size (.slice none 0 0) ((L.take 0).filter T.use)/\Below w.heap.size w w from⟨bK.nil _ _,az _ _⟩);go_upto_region 3 with fail;go_loopw [12,3] (λi l wr=>∃j:Nat,j<=m/\i=.int .i64 j/\bK wr w.heap.size l ((L.take j).filter T.use)/\Below w.heap.size w wr) (λi _ _=>m-(intOf i).toNat);case atStart=>exact⟨0,aL _,rfl,U.o.1,U.o.2⟩
  case round=>
   obtain⟨j,hj,rfl,v,d⟩:=hrel;by_cases aP:j<m
   ·have a:j<L.length:=(by have:=R.o;omega);obtain⟨b,off,F,c1,rfl,d0,d1,d2,hu⟩:=(aF.o.ag d).get a;have hi:(j:Int)<(m:Int):=(by omega);have r:=af wr (.cells #[.int .i64 (L[j]'(a)).aC,.string (L[j]'(a)).aJ,.slice F (L[j]'(a)).ay.length c1] 29);have bk:=jM.new wr (.int .i64 (L[j]'(a)).aC) (.string (L[j]'(a)).aJ) (.slice F (L[j]'(a)).ay.length c1);have G:=aa (Tu L j a);have x:=aG.o (L[j]'(a)) (aN a);have H:=aa (hu.ag r);obtain⟨t,V⟩:∃t,L[j]'(a)=t:=⟨_,rfl⟩;rw[V]at d0 d1 d2 r bk G x H;have aQ:=aa (λc W I=>Qf t c W I x);have aR:=aa (λc W I=>wU (t.bC+1) t c W (by omega) I x);obtain⟨aS,X,y⟩:=ZR (v.ag r) (d.t (r.m d.size)) aP;clear v d hu V a x;go_upto_region 5 with fail;generalize wr.alloc (.cells #[.int .i64 t.aC,.string t.aJ,.slice F t.ay.length c1] 29)=wa at*;obtain⟨J,K,M⟩:=bk.cells;have BK:=aa bk;clear bk d0 d1 d2 r;go_wp2_with fail;refine(aQ.o _ _ H.o).m ?_;rintro e w2 ⟨rfl,s⟩;obtain⟨f,N,aT,aU⟩:=ZT (X.o.t (s.m X.o.size)) (aS.o.ag s) (H.o.ag s) (BK.o.ag s);clear s J K M;cases hu:t.use with
    |false=>
     have g:=aa (show(L.take (j+1)).filter T.use=(L.take j).filter T.use by rw[G.o,hu];rfl);clear hu;go_wp2_with fail;go_roundw;case rel=>exact⟨j+1,y.o,by go_num,by rw[g.o];exact N.o,f.o⟩
     case measure=>have:=y.o;simp[intOf];omega
    |true=>
     have g:=aa (show(L.take (j+1)).filter T.use=(L.take j).filter T.use++[t] by rw[G.o,hu];rfl);clear hu;obtain⟨J,K,M⟩:=aU.o.cells;obtain⟨xs,Y,Z⟩:=N.o.cells;obtain⟨O,HOWN,ae⟩:=ZR N.o.block Y Z;have aV:((L.take j).filter T.use).length<=64:=aD (fP _ _) (by rw[aW];omega);generalize(L.take j).filter T.use=L0 at HOWN ae O aV g;obtain⟨A7,c7,rfl⟩:=oO HOWN.o;clear Y Z;go_wp2_with fail;refine(aR.o _ _ aT.o).m ?_;rintro e w3 ⟨z,C3,rfl,P,p⟩;have Q:=af w3 (.cells #[.int .i64 t.aC,.string t.aJ,.slice z t.ay.length C3] 29);obtain⟨aX,aZ⟩:=ZQ (dz (dz HOWN.o p) Q) P.one;have bf:w.heap.size<=(w3.alloc (.cells #[.int .i64 t.aC,.string t.aJ,.slice z t.ay.length C3] 29)).heap.size:=(by rw[aK];have:=p.size;have:=f.o.size;omega);obtain⟨bg,ai⟩:=ZQ ((λw8 A8 c8 B u C=>bK.push (base:=w.heap.size) (w3:=w8) (A8:=A8) (c8:=c8) (o:=.cells #[.int .i64 t.aC,.string t.aJ,.slice z t.ay.length C3] 29 (0,0)) ae.o (λb e=>(O.o b e).2) f.o.size p P B u C)) (((f.o.t (p.m f.o.size)).t (Q.m (aD f.o.size p.size))));clear p P Q J K M;go_wp2_with (at_builtin;refine bT _ rfl _ _ 23 rfl w.heap.size 29 i0 _ 3 48 bM ak av ax aA rfl (by omega) _ _ _ rfl aX.o _ 1 1 [.int .i64 t.aC,.string t.aJ,.slice z t.ay.length C3] rfl (Src.BO _ _ _ 3 rfl) aZ.o (by unfold maxLen;omega) (by omega) bf ?_;intro A8 c8 w8 B u C;obtain⟨bi,bn⟩:=ZQ (bg.o _ _ _ B u C) ((ai.o.grown u ai.o.size (λk hk=>(O.o k hk).1)));clear B u C);go_roundw;case rel=>exact⟨j+1,y.o,by go_num,by rw[g.o];exact bi.o,bn.o⟩
     case measure=>have:=y.o;simp[intOf];omega
   ·obtain rfl:j=m:=(by omega);obtain⟨HR,HB⟩:=ZQ v d;have g:=aa (show(L.take j).filter T.use=cnt L by
     unfold cnt;have:=R.o;by_cases h:L.length<=64;·rw[aY (by omega),aY h]
     ·rw[show j=64 by omega])
    clear v d;go_wp2_with fail;go_ret;exact⟨_,rfl,by rw[<-g.o];exact HR.o,HB.o⟩
end
section
structure Bd where
 var:ByteArray
 t:T
namespace T
def look:List Bd->ByteArray->Option T
 |[],_=>none
 |x::r,n=>if x.var=n then some x.t else look r n
def pos(n:ByteArray):List Bd->Nat
 |[]=>0
 |x::r=>if less x.var n=true then pos n r+1 else 0
def ins(L:List Bd)(n:ByteArray)(t:T):List Bd:=L.take (pos n L)++⟨n,t⟩::L.drop (pos n L)
def gq(v:T)(l:List T):Int:=idx (λx=>decide (cmp x v=0)) l
def val(b:List Bd)(k:T):Option T:=if k.aC=2 then look b k.aJ else some k
def qE(b:List Bd):List T->List T->ByteArray->Nat->Option (List T×ByteArray×Nat)
 |[],left,f,o=>some (left,f,o)
 |k::ps,left,f,o=>
  match val b k with
  |none=>qE b ps left k.aJ (o+1)
  |some v=>if gq v left<0 then none else qE b ps (left.eraseIdx (gq v left).toNat) f o
def rH(b:List Bd):Option (List T×ByteArray×Nat)->Option (List Bd)
 |none=>none
 |some (left,f,o)=>if o=0 then (if left.length=0 then some b else none) else if o=1/\left.length=1 then (left[0]?).map (ins b f) else none
def pow(ps a:List T)(b:List Bd):Option (List Bd):=rH b (qE b ps a ⟨#[]⟩ 0)
mutual
def E8:T->T->List Bd->Option (List Bd)
 |.mk k s a,t,b=>
  if k=2 then (match look b s with
   |some v=>if cmp v t=0 then some b else none
   |none=>some (ins b s t))
  else if k≠t.aC\/s≠t.aJ\/a.length≠t.ay.length then none
  else if k=7 then pow a t.ay b else kY a t.ay b
def kY:List T->List T->List Bd->Option (List Bd)
 |p::ps,t::a,b=>(match E8 p t b with
  |none=>none
  |some c=>kY ps a c)
 |[],_,b=>some b
 |_::_,[],b=>some b
end
mutual
def put:T->List Bd->Option T
 |.mk k s a,b=>if k=2 then look b s else (match eZ a b with
  |none=>none
  |some l=>some (.mk k s l))
def eZ:List T->List Bd->Option (List T)
 |[],_=>some []
 |p::ps,b=>match put p b with
  |none=>none
  |some u=>match eZ ps b with
   |none=>none
   |some a=>some (u::a)
end
def Ext(b x:List Bd):Prop:=∀n v,look b n=some v->look x n=some v
theorem Ext.refl(b:List Bd):Ext b b:=λ_ _ h=>h
theorem Ext.t{a b c:List Bd}(h:Ext a b)(k:Ext b c):Ext a c:=λn v e=>k n v (h n v e)
theorem PM(n:ByteArray)(t:T):ins [] n t=[⟨n,t⟩]:=rfl
theorem Me(x:Bd)(r:List Bd)(n:ByteArray)(t:T):ins (x::r) n t=if less x.var n=true then x::ins r n t else ⟨n,t⟩::x::r:=by
 unfold ins;by_cases h:less x.var n=true;·simp only[pos,aI h,gK,uF,iT]
 ·simp only[pos,aG h,iH,qK,gH]
theorem Hl:∀(b:List Bd) (n:ByteArray) (t:T) (m:ByteArray),look b n=none->look (ins b n t) m=if n=m then some t else look b m
 |[],n,t,m,_=>by rw[PM];rfl
 |x::r,n,t,m,h=>by
  have a:¬x.var=n:=λe=>(by simp[look,e]at h);have c:look r n=none:=(by simpa[look,a]using h);rw[Me];split
  ·simp only[look];rw[Hl r n t m c];by_cases e:x.var=m;·rw[aI e,aG (λh=>a (e.t h.symm)),aI e]
   ·rw[aG e,aG e]
  ·simp only[look]
theorem Ki{b:List Bd}{n:ByteArray}{t:T}(h:look b n=none):Ext b (ins b n t):=λm v a=>by
 rw[Hl b n t m h];by_cases e:n=m;·subst e;rw[h]at a;cases a
 ·rw[aG e];exact a
theorem ME{b:List Bd}{n:ByteArray}{t:T}(h:look b n=none):look (ins b n t) n=some t:=by
 rw[Hl b n t n h,aI rfl]
theorem CQ{v:T}:∀{l:List T},0<=gq v l->∃h:(gq v l).toNat<l.length,l[(gq v l).toNat]=v
 |[],h=>by simp[gq,idx]at h
 |x::r,h=>by
  unfold gq at h⊢;simp only[idx]at h⊢;by_cases e:decide (cmp x v=0)=true
  ·simp only[e,nL];exact⟨by simp,cmp_eq _ _ (ax e)⟩
  ·simp only[e]at h⊢;by_cases a:idx (λx=>decide (cmp x v=0)) r<0;·simp[a]at h
   ·obtain⟨b,c⟩:=CQ (v:=v) (l:=r) (by unfold gq;omega);unfold gq at b c;have d:(idx (λx=>decide (cmp x v=0)) r+1).toNat=(idx (λx=>decide (cmp x v=0)) r).toNat+1:=(by omega);simp only[a,zP,nu];refine⟨by rw[d];simpa using b,?_⟩;simp only[d,fD];exact c
theorem at_mem{v:T}{l:List T}(h:v∈l):0<=gq v l:=by
 unfold gq;rw[Kn,eU];exact⟨v,h,aQ (nS v)⟩
theorem GI:∀(l:List T) (i:Nat) (h:i<l.length),(l[i]::l.eraseIdx i).Perm l
 |x::r,0,_=>by simp
 |x::r,i+1,h=>by
  have a:=GI r i (by simpa using h);simp only[fD,qA];exact(List.Perm.swap _ _ _).t ((mR x).2 a)
theorem J7{v:T}{l:List T}(h:0<=gq v l):(v::l.eraseIdx (gq v l).toNat).Perm l:=by
 obtain⟨a,b⟩:=CQ h;have:=GI l _ a;rw[b]at this;exact this
theorem Ih:∀(b:List Bd) (ps left:List T) (f:ByteArray) (o:Nat) (left':List T) (c:ByteArray) (d:Nat),(∀p∈ps,p.atom=true/\p.shape=true)->qE b ps left f o=some (left',c,d)->
  o<=d/\∃vals,(vals++left').Perm left/\(d=o->c=f/\∀x,Ext b x->eZ ps x=some vals)/\
   (d=o+1->look b c=none/\∀x y,Ext b x->look x c=some y->∃j,eZ ps x=some j/\j.Perm (y::vals))
 |b,[],left,f,o,left',c,d,_,h=>by
  simp only[qE,iD,jS]at h;obtain⟨rfl,rfl,rfl⟩:=h;exact⟨ak _,[],mQ _,λ_=>⟨rfl,λ_ _=>rfl⟩,λe=>by omega⟩
 |b,.mk k s C::ps,left,f,o,left',c,d,z,h=>by
  obtain⟨A,B⟩:=z _ eD;have t:=λleft f o=>Ih b ps left f o left' c d (λp D=>z p (bq _ D));have E:C=[]:=by
   simp only[atom,fH,eY]at A;simp only[shape,aI A,ai,eY]at B;exact dQ.1 B.2
  subst E;have F:val b (.mk k s [])=if k=2 then look b s else some (.mk k s []):=rfl
  simp only[qE]at h;rw[F]at h;have m:∀x,put (.mk k s []) x=if k=2 then look x s else some (.mk k s []):=λx=>by simp only[put,eZ]
  by_cases g:k=2
  ·rw[aI g]at h;cases n:look b s with
   |none=>
    rw[n]at h;obtain⟨r,vals,q,i,l⟩:=t _ _ _ h;refine⟨by omega,vals,q,λe=>by omega,λe=>?_⟩;obtain⟨G,H⟩:=i e;subst G;refine⟨n,λx y a hy=>⟨y::vals,?_,mQ _⟩⟩;simp only[eZ,m,aI g,hy,H x a]
   |some v=>
    rw[n]at h;by_cases hi:gq v left<0;·simp only[aI hi]at h;cases h
    ·simp only[aG hi]at h;obtain⟨r,vals,q,i,l⟩:=t _ _ _ h;refine⟨r,v::vals,((mR v).2 q).t (J7 (by omega)),λe=>⟨(i e).1,λx a=>?_⟩,λe=>⟨(l e).1,λx y a hy=>?_⟩⟩;·simp only[eZ,m,aI g,a _ _ n,(i e).2 x a]
     ·obtain⟨j,u,w⟩:=(l e).2 x y a hy;exact⟨v::j,by simp only[eZ,m,aI g,a _ _ n,u],((mR v).2 w).t (List.Perm.swap _ _ _)⟩
  ·rw[aG g]at h;dsimp only at h;by_cases hi:gq (.mk k s []) left<0;·simp only[aI hi]at h;cases h
   ·simp only[aG hi]at h;obtain⟨r,vals,q,i,l⟩:=t _ _ _ h;refine⟨r,.mk k s []::vals,((mR _).2 q).t (J7 (by omega)),λe=>⟨(i e).1,λx a=>?_⟩,λe=>⟨(l e).1,λx y a hy=>?_⟩⟩;·simp only[eZ,m,aG g,(i e).2 x a]
    ·obtain⟨j,u,w⟩:=(l e).2 x y a hy;exact⟨.mk k s []::j,by simp only[eZ,m,aG g,u],((mR _).2 w).t (List.Perm.swap _ _ _)⟩
theorem M7{ps a:List T}{b x:List Bd}(l:∀p∈ps,p.atom=true/\p.shape=true)(h:pow ps a b=some x):Ext b x/\∃c,eZ ps x=some c/\c.Perm a:=by
 unfold pow at h;cases e:qE b ps a ⟨#[]⟩ 0 with
 |none=>rw[e]at h;cases h
 |some q=>
  obtain⟨left,f,o⟩:=q;rw[e]at h;simp only[rH]at h;obtain⟨_,vals,g,m,n⟩:=Ih b ps a _ 0 left f o l e;by_cases i:o=0
  ·rw[aI i]at h;by_cases j:left.length=0
   ·rw[aI j]at h;obtain rfl:b=x:=(by injection h);rw[dQ.1 j,dS]at g;exact⟨Ext.refl _,vals,(m i).2 _ (Ext.refl _),g⟩
   ·rw[aG j]at h;cases h
  ·rw[aG i]at h;by_cases d:o=1/\left.length=1
   ·rw[aI d]at h;obtain⟨k,r⟩:=n d.1
    match left,d.2 with
    |[y],_=>
     obtain rfl:ins b f y=x:=(by simpa using h);obtain⟨c,s,t⟩:=r _ y (Ki k) (ME k);exact⟨Ki k,c,s,t.t ((zn (l₁:=[y]) (l₂:=vals)).t g)⟩
   ·rw[aG d]at h;cases h
theorem rJ{s:ByteArray}{a:List T}(h:(T.mk 7 s a).shape=true):∀p∈a,p.atom=true/\p.shape=true:=λp c=>by
 simp only[shape]at h;rw[aG (by omega),ai,ai]at h;refine⟨?_,(mi a).1 h.2 p c⟩;have b:=h.1.1;unfold il at b;rw[aG (by omega),aG (by omega),aG (by omega),aI rfl,ai]at b;have d:=b.2;rw[bZ,fQ]at d;have:=d p c;simpa using this
mutual
theorem VM:∀(p t:T) (b x:List Bd),p.shape=true->E8 p t b=some x->Ext b x
 |.mk k s e,t,b,x,a,h=>by
  simp only[E8]at h;by_cases f:k=2
  ·rw[aI f]at h;cases c:look b s with
   |none=>rw[c]at h;obtain rfl:ins b s t=x:=by simpa using h
          exact Ki c
   |some v=>
    rw[c]at h;by_cases g:cmp v t=0
    ·obtain rfl:b=x:=(by simpa[g]using h);exact Ext.refl _
    ·simp[g]at h
  ·rw[aG f]at h;by_cases hd:k≠t.aC\/s≠t.aJ\/e.length≠t.ay.length;·rw[aI hd]at h;cases h
   ·rw[aG hd]at h;by_cases d:k=7
    ·rw[aI d]at h;subst d;exact(M7 (rJ a) h).1
    ·rw[aG d]at h;refine Cm e t.ay b x ?_ h;simp only[shape]at a;by_cases i:k=1\/k=2
     ·rw[aI i,ai,eY,dQ]at a;rw[a.2];rfl
     ·rw[aG i,ai]at a;exact a.2
theorem Cm:∀(ps a:List T) (b x:List Bd),dW ps=true->kY ps a b=some x->Ext b x
 |[],_,b,x,_,h=>by
  obtain rfl:b=x:=(by simpa[kY]using h);exact Ext.refl _
 |_::_,[],b,x,_,h=>by
  obtain rfl:b=x:=(by simpa[kY]using h);exact Ext.refl _
 |p::ps,t::a,b,x,d,h=>by
  simp only[dW,ai]at d;simp only[kY]at h;cases e:E8 p t b with
  |none=>rw[e]at h;cases h
  |some c=>rw[e]at h;exact(VM p t b c d.1 e).t (Cm ps a c x d.2 h)
end
mutual
theorem Ql:∀(p:T) (b x:List Bd) (u:T),Ext b x->put p b=some u->put p x=some u
 |.mk k s c,b,x,u,d,h=>by
  simp only[put]at h⊢;by_cases e:k=2;·rw[aI e]at h⊢;exact d _ _ h
  ·rw[aG e]at h⊢;cases a:eZ c b with
   |none=>rw[a]at h;cases h
   |some l=>rw[a]at h;rw[Ii c b x l d a];exact h
theorem Ii:∀(ps:List T) (b x:List Bd) (a:List T),Ext b x->eZ ps b=some a->eZ ps x=some a
 |[],b,x,a,_,h=>h
 |p::ps,b,x,a,e,h=>by
  simp only[eZ]at h⊢;cases c:put p b with
  |none=>rw[c]at h;cases h
  |some u=>
   rw[c]at h;cases d:eZ ps b with
   |none=>rw[d]at h;cases h
   |some l=>rw[d]at h;rw[Ql p b x u e c,Ii ps b x l e d];exact h
end
theorem Co{l:List T}(h:∀x∈l,x.fK=x):gJ l=l:=by
 rw[iF];exact(uG h).t (List.map_id l)
theorem Rp:∀(t:T),t.fK=t->(∀x∈t.ay,x.fK=x)/\(t.aC=7->nT t.ay=t.ay)/\(t.aC≠7->gJ t.ay=t.ay)
 |.mk k s b,h=>by
  simp only[fK,mk.injEq,Aw]at h;have c:∀x∈b,x.fK=x:=λx a=>by
   rw[<-h]at a;have d:x∈gJ b:=by
    split at a;·exact(kX _).mem_iff.1 a
    ·exact a
   rw[iF]at d;obtain⟨y,_,rfl⟩:=dB.1 d;exact Bf y
  have e:=Co c;refine⟨c,λf=>?_,λ_=>e⟩;have g:k=7:=f;rw[aI g,e]at h;exact h
mutual
theorem TQ:∀(p t:T) (b x:List Bd),p.shape=true->t.fK=t->E8 p t b=some x->∃u,put p x=some u/\u.fK=t
 |.mk k s i,t,b,x,a,j,h=>by
  simp only[E8]at h;by_cases c:k=2
  ·rw[aI c]at h;simp only[put,aI c];cases d:look b s with
   |none=>
    rw[d]at h;obtain rfl:ins b s t=x:=(by simpa using h);exact⟨t,ME d,j⟩
   |some v=>
    rw[d]at h;by_cases l:cmp v t=0
    ·obtain rfl:b=x:=(by simpa[l]using h);exact⟨v,d,by rw[cmp_eq _ _ l];exact j⟩
    ·simp[l]at h
  ·rw[aG c]at h;simp only[put,aG c];by_cases hd:k≠t.aC\/s≠t.aJ\/i.length≠t.ay.length;·rw[aI hd]at h;cases h
   ·rw[aG hd]at h;have A:k=t.aC/\s=t.aJ/\i.length=t.ay.length:=by
     refine⟨pE λe=>hd (.inl e),pE λe=>hd (.inr (.inl e)),pE λe=>hd (.inr (.inr e))⟩
    obtain⟨q,r,w⟩:=A;obtain⟨m,n2,B⟩:=Rp t j;cases t with
    |mk k' D C=>
    simp only[aC,aJ,ay]at q r w m n2 B h;subst q;subst r;by_cases f:k=7
    ·rw[aI f]at h;subst f;obtain⟨_,n,o,g⟩:=M7 (rJ a) h;refine⟨.mk 7 s n,by rw[o],?_⟩;simp only[fK,mk.injEq,Aw,nL];rw[Co (λy hy=>m y (g.mem_iff.1 hy)),xy g];exact n2 rfl
    ·rw[aG f]at h;obtain⟨n,o,g⟩:=E9 i C b x (by
      simp only[shape]at a;by_cases z:k=1\/k=2
      ·rw[aI z,ai,eY,dQ]at a;rw[a.2];rfl
      ·rw[aG z,ai]at a;exact a.2) m w h
     refine⟨.mk k s n,by rw[o],?_⟩;simp only[fK,aG f,g]
theorem E9:∀(ps a:List T) (b x:List Bd),dW ps=true->(∀t∈a,t.fK=t)->ps.length=a.length->kY ps a b=some x->∃e,eZ ps x=some e/\gJ e=a
 |[],a,b,x,_,_,d,_=>⟨[],rfl,by simp at d;rw[dQ.1 d.symm];rfl⟩
 |_::_,[],b,x,_,_,d,_=>by simp at d
 |p::ps,t::a,b,x,f,i,d,h=>by
  simp only[dW,ai]at f;simp only[kY]at h;cases g:E8 p t b with
  |none=>rw[g]at h;cases h
  |some c=>
   rw[g]at h;obtain⟨u,j,k⟩:=TQ p t b c f.1 (i t eD) g;obtain⟨e,l,m⟩:=E9 ps a c x f.2 (λy hy=>i y (bq _ hy)) (by simpa using d) h;refine⟨u::e,?_,by simp only[gJ,k,m]⟩;simp only[eZ,Ql p c x u (Cm ps a c x f.2 h) j,l]
end
theorem Nb{p:T}(a:p.atom=true)(c:p.shape=true)(b:List Bd):put p b=val b p:=by
 cases p with
 |mk k s d=>
  have e:d=[]:=by
   simp only[atom,fH,eY]at a;simp only[shape,aI a,ai,eY]at c;exact dQ.1 c.2
  subst e;have f:val b (.mk k s [])=if k=2 then look b s else some (.mk k s []):=rfl
  rw[f];simp only[put,eZ]
theorem Ig{b:List Bd}:∀(ps left c:List T) (f:ByteArray),(∀p∈ps,p.atom=true/\p.shape=true)->eZ ps b=some c->left.Perm c->qE b ps left f 0=some ([],f,0)
 |[],left,c,f,_,h,d=>by
  obtain rfl:[]=c:=(by simpa[eZ]using h);rw[List.perm_nil.1 d];rfl
 |p::ps,left,c,f,i,h,d=>by
  obtain⟨k,m⟩:=i _ eD;simp only[eZ,Nb k m]at h;simp only[qE];cases j:val b p with
  |none=>rw[j]at h;cases h
  |some v=>
   rw[j]at h;cases e:eZ ps b with
   |none=>rw[e]at h;cases h
   |some g=>
    rw[e]at h;obtain rfl:v::g=c:=(by simpa using h);have n:=at_mem (d.mem_iff.2 (eD (a:=v) (l:=g)));dsimp only
    rw[aG (by omega)];exact Ig ps _ g f (λq o=>i q (bq _ o)) e ((mR v).1 ((J7 n).t d))
mutual
theorem LF:∀(p:T) (b:List Bd) (u:T),(∀n v,look b n=some v->v.fK=v)->p.shape=true->put p b=some u->E8 p u.fK b=some b
 |.mk k s e,b,u,hb,c,h=>by
  simp only[put]at h;simp only[E8];by_cases f:k=2
  ·rw[aI f]at h⊢;rw[h];dsimp only
   rw[hb _ _ h,nS,aI rfl]
  ·rw[aG f]at h⊢;cases d:eZ e b with
   |none=>rw[d]at h;cases h
   |some a=>
    rw[d]at h;obtain rfl:T.mk k s a=u:=(by simpa using h);have g:=Ij e b a d;simp only[fK,aC,aJ,ay];by_cases i:k=7
    ·subst i;simp only[nL,rE];have j:=rJ c;have m:gJ a=a:=Co (Fj e b a hb j d);rw[m,aG (by simp[g])];unfold pow;rw[Ig e (nT a) a _ j d (kX a)];rfl
    ·simp only[aG i];rw[aG (by simp[iF,g])];refine EO e b a hb ?_ d;simp only[shape]at c;by_cases l:k=1\/k=2
     ·rw[aI l,ai,eY,dQ]at c;rw[c.2];rfl
     ·rw[aG l,ai]at c;exact c.2
theorem EO:∀(ps:List T) (b:List Bd) (a:List T),(∀n v,look b n=some v->v.fK=v)->dW ps=true->eZ ps b=some a->kY ps (gJ a) b=some b
 |[],b,a,_,_,h=>by simp only[kY]
 |p::ps,b,a,hb,c,h=>by
  simp only[dW,ai]at c;simp only[eZ]at h;cases d:put p b with
  |none=>rw[d]at h;cases h
  |some u=>
   rw[d]at h;cases e:eZ ps b with
   |none=>rw[e]at h;cases h
   |some l=>
    rw[e]at h;obtain rfl:u::l=a:=(by simpa using h);simp only[gJ,kY,LF p b u hb c.1 d];exact EO ps b l hb c.2 e
theorem Ij:∀(ps:List T) (b:List Bd) (a:List T),eZ ps b=some a->a.length=ps.length
 |[],b,a,h=>by
  obtain rfl:[]=a:=(by simpa[eZ]using h);rfl
 |p::ps,b,a,h=>by
  simp only[eZ]at h;cases d:put p b with
  |none=>rw[d]at h;cases h
  |some u=>
   rw[d]at h;cases c:eZ ps b with
   |none=>rw[c]at h;cases h
   |some l=>
    rw[c]at h;obtain rfl:u::l=a:=(by simpa using h);simp[Ij ps b l c]
theorem Fj:∀(ps:List T) (b:List Bd) (c:List T),(∀n v,look b n=some v->v.fK=v)->(∀p∈ps,p.atom=true/\p.shape=true)->eZ ps b=some c->∀x∈c,x.fK=x
 |[],b,c,_,_,h=>by
  obtain rfl:[]=c:=(by simpa[eZ]using h);exact λx d=>(dY d).elim
 |p::ps,b,c,hb,i,h=>by
  obtain⟨e,f⟩:=i _ eD;simp only[eZ]at h;cases a:put p b with
  |none=>rw[a]at h;cases h
  |some u=>
   rw[a]at h;cases g:eZ ps b with
   |none=>rw[g]at h;cases h
   |some l=>
    rw[g]at h;obtain rfl:u::l=c:=(by simpa using h);intro x d;rcases bL.1 d with rfl|d
    ·rw[Nb e f]at a;unfold val at a;by_cases j:p.aC=2;·rw[aI j]at a;exact hb _ _ a
     ·rw[aG j]at a;obtain rfl:p=x:=(by simpa using a);cases p with
      |mk k s o=>
       simp only[atom,fH,eY]at e;simp only[shape,aI e,ai,eY]at f;obtain rfl:=dQ.1 f.2;simp only[fK,gJ];rw[aG (by omega)]
    ·exact Fj ps b l hb (λq m=>i q (bq _ m)) g x d
end
mutual
theorem Ik:∀(p:T) (b:List Bd) (u:T),(∀n v,look b n=some v->v.hasVar=false)->put p b=some u->u.hasVar=false
 |.mk k s d,b,u,hb,h=>by
  simp only[put]at h;by_cases a:k=2;·rw[aI a]at h;exact hb _ _ h
  ·rw[aG a]at h;cases c:eZ d b with
   |none=>rw[c]at h;cases h
   |some e=>
    rw[c]at h;obtain rfl:T.mk k s e=u:=(by simpa using h);simp only[hasVar,BP d b e hb c,pK];exact aB.2 a
theorem BP:∀(ps:List T) (b:List Bd) (a:List T),(∀n v,look b n=some v->v.hasVar=false)->eZ ps b=some a->nW a=false
 |[],b,a,_,h=>by
  obtain rfl:[]=a:=(by simpa[eZ]using h);rfl
 |p::ps,b,a,hb,h=>by
  simp only[eZ]at h;cases c:put p b with
  |none=>rw[c]at h;cases h
  |some u=>
   rw[c]at h;cases d:eZ ps b with
   |none=>rw[d]at h;cases h
   |some l=>
    rw[d]at h;obtain rfl:u::l=a:=(by simpa using h);simp only[nW,Ik p b u hb c,BP ps b l hb d,pK]
end
mutual
theorem I1:∀t:T,t.fK.shape=true->t.shape=true
 |.mk k s e=>λh=>by
  simp only[fK,shape]at h;simp only[shape];by_cases f:k=1\/k=2
  ·rw[aI f]at h⊢;have b:¬k=7:=(by omega);rw[aG b,iF,df]at h;exact h
  ·rw[aG f]at h⊢;simp only[ai]at h⊢;by_cases b:k=7
   ·subst b;rw[aI rfl]at h;obtain⟨⟨a,d⟩,c⟩:=h;rw[zO (kX _),iF,yF fK Ed]at a;refine⟨⟨a,d⟩,tC e ?_⟩;rw[mi]at c⊢;exact λt g=>c t ((kX _).mem_iff.2 g)
   ·rw[aG b]at h;obtain⟨⟨a,d⟩,c⟩:=h;rw[iF,yF fK Ed]at a;exact⟨⟨a,d⟩,tC e c⟩
theorem tC:∀l:List T,dW (gJ l)=true->dW l=true
 |[]=>λ_=>rfl
 |t::r=>λh=>by
  simp only[dW,gJ,ai]at h⊢;exact⟨I1 t h.1,tC r h.2⟩
end
def jE(b:List Bd)(i:Nat)(x:Bd):Bool:=isName x.var&&x.t.use&&(decide (i=0)||((b[i-1]?).map λy=>less y.var x.var).getD true)
def jH(b:List Bd):Bool:=(List.range b.length).all λi=>((b[i]?).map (jE b i)).getD true
theorem Cs{b:List Bd}(h:jH b=true){i:Nat}(hi:i<b.length):jE b i b[i]=true:=by
 unfold jH at h;rw[cz]at h;have:=h i (dU.2 hi);rw[aH hi]at this;simpa using this
theorem qF{b:List Bd}(h:jH b=true):∀x∈b,isName x.var=true/\x.t.use=true:=λx a=>by
 obtain⟨i,hi,rfl⟩:=bI a;have:=Cs h hi;unfold jE at this;simp only[ai]at this;exact this.1
theorem zR(a b:ByteArray):less a b=true<->a.toList<b.toList:=by
 unfold less;rw[Td];exact vN
theorem Cj{a b c:ByteArray}(h:less a b=true)(k:less b c=true):less a c=true:=
 (zR a c).2 (xk ((zR a b).1 h) ((zR b c).1 k))
theorem OY{b:List Bd}(h:jH b=true):∀(j i:Nat) (hi:i<b.length) (hj:j<b.length),i<j->less b[i].var b[j].var=true:=by
 intro j;induction j with
 |zero=>intro i _ _ h;omega
 |succ j e=>
  intro i hi hj f;have c:=Cs h hj;unfold jE at c;simp only[ai,fH,bW]at c;have a:less b[j].var b[j+1].var=true:=by
   rcases c.2 with a|a;·omega
   ·rw[jI,aH (by omega)]at a;simpa using a
  rcases cu i j with d|d;·exact Cj (e i hi (by omega) d) a
  ·obtain rfl:i=j:=(by omega);exact a
theorem rG:∀{b:List Bd} {n:ByteArray} {v:T},look b n=some v->∃x∈b,x.var=n/\x.t=v
 |[],n,v,h=>by cases h
 |x::r,n,v,h=>by
  simp only[look]at h;by_cases e:x.var=n;·rw[aI e]at h;exact⟨x,eD,e,by simpa using h⟩
  ·rw[aG e]at h;obtain⟨y,a,c⟩:=rG h;exact⟨y,bq _ a,c⟩
def oM(p t:T)(b:List Bd):Option (List Bd):=if p.fe&&(t.use&&jH b) then E8 p t b else none
def kz(p:T)(b:List Bd):Option T:=if p.fe then (match put p b with
 |some u=>if u.fe then some u.fK else none
 |none=>none) else none
theorem mq{t:T}(h:t.fe=true):t.shape=true:=(aP.1 h).2
theorem Va{t:T}(h:t.use=true):t.fK=t:=((AY t).1 (aP.1 h).2).2
theorem Pj{t:T}(h:t.use=true):t.hasVar=false:=by
 have:=(aP.1 (aP.1 h).1).2;simpa using this
theorem Pk{t:T}(a:t.fe=true)(b:t.hasVar=false)(c:t.fK=t):t.use=true:=by
 unfold use ground;rw[a,b,(AY t).2 ⟨a,c⟩];rfl
theorem Ch{p t:T}{b:List Bd}(h:kz p b=some t):p.fe=true/\∃u,put p b=some u/\u.fe=true/\u.fK=t:=by
 unfold kz at h;by_cases a:p.fe=true
 ·rw[aI a]at h;cases hu:put p b with
  |none=>rw[hu]at h;cases h
  |some u=>
   rw[hu]at h;by_cases c:u.fe=true
   ·simp only[aI c,iD]at h;exact⟨a,u,rfl,c,h⟩
   ·simp[c]at h
 ·rw[aG a]at h;cases h
theorem Tz{p u:T}{b:List Bd}(h:p.fe=true)(hu:put p b=some u)(a:u.fe=true):kz p b=some u.fK:=by
 unfold kz;rw[aI h,hu];simp only[aI a]
theorem JI{p t:T}{b x:List Bd}(h:oM p t b=some x):p.fe=true/\t.use=true/\jH b=true/\E8 p t b=some x:=by
 unfold oM at h;split at h
 ·rename_i a;simp only[ai]at a;exact⟨a.1,a.2.1,a.2.2,h⟩
 ·cases h
theorem QU{p t:T}{b:List Bd}(h:kz p b=some t)(hb:jH b=true):t.use=true/\oM p t b=some b:=by
 obtain⟨a,u,c,f,g⟩:=Ch h;subst g;have d:∀n v,look b n=some v->v.use=true:=λn v e=>by
  obtain⟨x,i,_,rfl⟩:=rG e;exact(qF hb x i).2
 have hu:u.fK.use=true:=Pk (Cx u f) (by rw[zM];exact Ik p b u (λn v e=>Pj (d n v e)) c) (Bf u);refine⟨hu,?_⟩;unfold oM;rw[a,hu,hb];exact LF p b u (λn v e=>Va (d n v e)) (mq a) c
end T
end
end Go.Proofs.YtaciciokmpbkkaaGreatDoor
