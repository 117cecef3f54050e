import Derived.Test.YtaciciokmpbkkaaGreatDoorWebG6
set_option maxRecDepth 100000
set_option maxHeartbeats 16000000
namespace Go.Proofs.YtaciciokmpbkkaaGreatDoor
section
namespace T
mutual
def safe(z:ByteArray):T->Bool
 |.mk k s a=>if k=1 then decide (s≠z) else if k=3 then yY z a else if k=5\/k=6 then QR z a else true
def yY(z:ByteArray):List T->Bool
 |[]=>true
 |t::r=>safe z t&&yY z r
def QR(z:ByteArray):List T->Bool
 |[]=>true
 |_::r=>yY z r
end
theorem Lm(z:ByteArray):∀l:List T,QR z l=yY z l.tail
 |[]=>rfl
 |_::_=>rfl
mutual
theorem Ud{z:ByteArray}(d:2<z.size):∀t:T,t.lw=true->t.safe z=true
 |.mk k s c=>λh=>by
  simp only[lw,ah,bO]at h;have b:=FB d c h.2;simp only[safe];split;·exact aM (λe=>by rw[e]at h;omega)
  ·split;·exact b
   ·split
    ·rw[Lm];cases c with
     |nil=>rfl
     |cons a r=>
      simp only[yY,ah]at b;exact b.2
    ·rfl
theorem FB{z:ByteArray}(a:2<z.size):∀l:List T,uH l=true->yY z l=true
 |[]=>λ_=>rfl
 |t::r=>λh=>by
  simp only[uH,ah]at h;simp only[yY,ah];exact⟨Ud a t h.1,FB a r h.2⟩
end
end T
namespace Wb
def zO(z:ByteArray)(W:List fG):Prop:=∀s∈W,s.t.safe z=true
theorem find_eq{U:List T}(hU:yB U){W:List fG}(a:Inv U W){t:T}(b:t∈U){i:Nat}(h:find W t=some i):∃hi:i<W.length,W[i].t=t:=by
 obtain⟨hi,c⟩:=Rp (W:=W) (k:=t.key) h;exact⟨hi,T.key_inj (hU.ok _ (a.mem _ (aP hi))) (hU.ok t b) c⟩
theorem zO.add{z:ByteArray}{W:List fG}(h:zO z W){t:T}(c:t.safe z=true)(how:Nat)(jw:List Nat):zO z (add W t how jw).1:=by
 cases b:find W t with
 |some i=>rw[ry b];exact h
 |none=>
  rw[rq b];intro s a;rcases bu.1 a with a|a;·exact h s a
  ·rw[bD]at a;rw[a];exact c
theorem zO.mark{z:ByteArray}{W:List fG}(h:zO z W)(i:Nat):zO z (mark W i):=λx b=>by
 obtain⟨j,hj,rfl⟩:=bL b;have a:j<W.length:=abd;rw[(yJ W i j hj a).1];exact h _ (aP a)
theorem zO.take{z:ByteArray}{W:List fG}(h:zO z W){t:T}(a:t.safe z=true)(how:Nat)(jw:List Nat):zO z (take W t how jw).1:=by
 unfold Wb.take;split;·exact h.add a how jw
 ·exact(h.add a how jw).mark _
theorem vk{W:List fG}{i:Nat}(h:i<W.length):rU W i=W[i].t:=by unfold rU;rw[az h];rfl
theorem Gt{U:List T}(hU:yB U){t:T}(a:t∈U){W:List fG}(b:Inv U W):Inv U (Ci W t).1/\W <+:(Ci W t).1/\∀i,(Ci W t).2=some i->i<(Ci W t).1.length:=lI hU _ t a W b
theorem JD{U:List T}(hU:yB U){W:List fG}(b:Inv U W){i:Nat}(hi:i<W.length):Inv U (apart W i).1/\W.length<=(apart W i).1.length:=by
 have a:W[i].t∈U:=b.mem _ (aP hi);have e:=T.oZ (aN.1 (hU.ok _ a)).2;unfold apart;rw[vk hi];generalize W[i].t=t at a e⊢;dsimp only
 split
 ·have f:=hU.eT t a 0 aar;have g:=hU.eT t a 1 aar;exact⟨rT _ _ (rT _ _ b f) g,aG (take_len _ _ _ _) (take_len _ _ _ _)⟩
 ·split;·exact⟨rT _ _ b (hU.eT t a 1 aar),take_len _ _ _ _⟩
  ·split
   ·split;·exact⟨b,ax _⟩
    ·obtain⟨c,d,_⟩:=Gt hU (hU.eT t a 0 aar) b;split;·exact⟨c,d.length_le⟩
     ·exact⟨rT _ _ c (hU.eT t a 1 aar),aG d.length_le (take_len _ _ _ _)⟩
   ·exact⟨b,ax _⟩
theorem FY{U:List T}(z:ByteArray):∀(a:List T) (W:List fG),(∀t∈a,t∈U)->Inv U W->Inv U (a.foldl (λW t=>(take W t 1 []).1) W)/\((∀t∈a,t.safe z=true)->zO z W->zO z (a.foldl (λW t=>(take W t 1 []).1) W))
 |[],_,_,b=>⟨b,λ_ h=>h⟩
 |t::r,W,h,b=>by
  obtain⟨e,a2⟩:=FY z r _ (λx c=>h x (aY _ c)) (rT 1 [] b (h t aau));exact⟨e,λd hS=>a2 (λx c=>d x (aY _ c)) (hS.take (d t aau) _ _)⟩
end Wb
namespace Wb
def np(W:List fG):Nat:=W.countP λs=>s.part
theorem Xu(W:List fG):np W<=W.length:=List.countP_le_length
theorem Wh(W:List fG)(t:T)(how:Nat)(jw:List Nat):np (W++[⟨t,how,jw,false⟩])=np W:=by
 unfold np;rw[List.countP_append];simp
theorem Ir(W:List fG)(t:T)(how:Nat)(jw:List Nat):np (add W t how jw).1=np W:=by
 cases a:find W t with
 |some i=>rw[ry a]
 |none=>rw[rq a];exact Wh W t how jw
theorem Qz:∀(W:List fG) (i:Nat) (h:i<W.length),W[i].part=false->np (mark W i)=np W+1
 |[],i,h,_=>absurd h (ji _)
 |a::r,0,_,b=>by
  have d:a.part=false:=b;unfold mark np;rw[su,sJ,sJ,d];simp
 |a::r,i+1,h,b=>by
  have c:=Qz r i aaD b;unfold mark np at c⊢;rw[sj,sJ,sJ,c];omega
theorem wX{W:List fG}{i:Nat}(h:i<W.length):partAt W i=W[i].part:=by unfold partAt;rw[az h];rfl
theorem Gy(W:List fG)(t:T)(how:Nat)(jw:List Nat):np (take W t how jw).1=np W+if (take W t how jw).2=true then 1 else 0:=by
 have a:=ru W t how jw;have b:=Ir W t how jw;unfold take;split;·simp[b]
 ·rename_i h;have c:=wX a.2;rw[sH,c]at h;rw[aJ rfl];show np (mark _ _)=_;rw[Qz _ _ a.2 h,b]
def YI(rec:List fG->T->List fG×Option Nat)(t:T):Prop:=∀W,np (rec W t).1=np W
theorem Lc{rec:List fG->T->List fG×Option Nat}{t:T}(how:Nat)(h0:YI rec (t.eT 0))(a:YI rec (t.eT 1)):YI (λW t=>both rec W t how) t:=λW=>by
 simp only[both];split;·exact h0 W
 ·split;·exact(a _).t (h0 W)
  ·exact(Ir _ _ _ _).t ((a _).t (h0 W))
theorem Uw{rec:List fG->T->List fG×Option Nat}{t:T}(a:∀i,YI rec (t.iF i)):∀(f i:Nat) (W:List fG),np (pow rec t f i W).1=np W
 |0,_,_=>rfl
 |f+1,i,W=>by
  have b:=Uw a f (i+1);simp only[pow];split;·exact b W
  ·split;·exact Ir _ _ _ _
   ·split;·exact(b _).t (a i W)
    ·exact(Ir _ _ _ _).t (a i W)
theorem nP:∀(n:Nat) (t:T),YI (build n) t
 |0,_,_=>rfl
 |n+1,t,W=>by
  simp only[build];split;·rfl
  ·split
   ·split;·exact nP n _ W
    ·exact(Ir _ _ _ _).t (nP n _ W)
   ·split;·exact Lc 6 (nP n _) (nP n _) W
    ·split;·exact Lc 8 (nP n _) (nP n _) W
     ·split;·exact Lc 9 (nP n _) (nP n _) W
      ·split;·exact Uw (λi=>nP n _) _ _ W
       ·rfl
theorem Uv(W:List fG)(i:Nat):np W+(if (apart W i).2=true then 1 else 0)<=np (apart W i).1:=by
 unfold apart;dsimp only
 split
 ·have a:=Gy W ((rU W i).eT 0) 2 [i];have b:=Gy (take W ((rU W i).eT 0) 2 [i]).1 ((rU W i).eT 1) 3 [i];dsimp only
  rw[b,a];cases (take W ((rU W i).eT 0) 2 [i]).2<;>cases (take (take W ((rU W i).eT 0) 2 [i]).1 ((rU W i).eT 1) 3 [i]).2<;>simp
 ·split;·rw[Gy];exact ax _
  ·split
   ·split;·simp
    ·split
     ·have:=nP (((rU W i).eT 0).bE+1) ((rU W i).eT 0) W;unfold Ci;simp[this]
     ·rw[Gy];have:=nP (((rU W i).eT 0).bE+1) ((rU W i).eT 0) W;unfold Ci;rw[this];exact ax _
   ·simp
theorem Ld:∀(f i:Nat) (m:Bool) (W:List fG),np W<=np (yh f i m W).1/\((yh f i m W).2=true->m=true\/np W+1<=np (yh f i m W).1)
 |0,_,m,W=>⟨ax _,λh=>.inl h⟩
 |f+1,i,m,W=>by
  simp only[yh];split
  ·split
   ·obtain⟨c,a2⟩:=Ld f (i+1) (m||(apart W i).2) (apart W i).1;have a:=Uv W i;refine⟨by split at a<;>omega,λh=>?_⟩;rcases a2 h with b|b
    ·cases m with
     |true=>exact .inl rfl
     |false=>
      right;rw[Bool.false_or]at b;rw[aJ b]at a;omega
    ·right;split at a<;>omega
   ·exact Ld f (i+1) m W
  ·exact⟨ax _,λh=>.inl h⟩
end Wb
end
section
open Go.RowKit
variable {X:Nat->Bool}
theorem Bv{n:Nat}:∀(dE:List (List Value)),(∀cs∈dE,cs.length=n)->∀i (h:i<dE.length) r,r<n->dE.flatten[i*n+r]?=(dE[i])[r]?
 |[],_,i,h,_,_=>absurd h (ji _)
 |a::rest,b,0,_,r,c=>by
  have:=b a aau;rw[gu,qV,eP,bN aaF];rfl
 |a::rest,b,i+1,h,r,c=>by
  have d:=b a aau;have f:=Bv rest (λcs g=>b cs (aY _ g)) i aaD r c;have e:(i+1)*n+r=n+(i*n+r):=(by rw[qU];omega);rw[gu,e,bq aar,d,mU,f];rfl
theorem gz.Ob{B g M:Nat}{vs vp:Value}{W:List fG}{w:World}(h:gz X B w g M vs vp W){i:Nat}(hi:i<W.length):∃gs c A cap F d,vs=.slice (some ⟨gs,0,none⟩) W.length c/\w.cell? ⟨gs,i*5,none⟩=some (.int .i64 W[i].t.aA)/\w.cell? ⟨gs,i*5+1,none⟩=some (.string W[i].t.aI)/\
 w.cell? ⟨gs,i*5+2,none⟩=some (.slice A W[i].t.ay.length cap)/\w.cell? ⟨gs,i*5+3,none⟩=some (.int .i64 (W[i].how:Int))/\w.cell? ⟨gs,i*5+4,none⟩=some (.slice F W[i].jw.length d)/\
 bI (nr X g M vs vp) w (.agg #[.int .i64 W[i].t.aA,.string W[i].t.aI,.slice A W[i].t.ay.length cap]) W[i].t/\lH (nr X g M vs vp) w F W[i].jw:=by
 obtain⟨dE,b,f⟩:=h.steps;obtain⟨gs,c,rfl,_⟩:=f.form aar;have k:i<dE.length:=(by rw[b.1];exact hi);obtain⟨A,cap,F,d,e,l,m⟩:=b.2 i k hi;have n:∀cs∈dE,cs.length=5:=λcs a=>by
  obtain⟨j,hj,rfl⟩:=bL a;exact(b.2 j hj (by rw[<-b.1];exact hj)).len
 have a:∀r,r<5->w.cell? ⟨gs,i*5+r,none⟩=(dE[i])[r]?:=λr o=>by
  rw[f.cellAt (i*5+r) aaF];exact Bv dE n i k r o
 rw[e]at a;exact⟨gs,c,A,cap,F,d,rfl,a 0 aar,a 1 aar,a 2 aar,a 3 aar,a 4 aar,l,m⟩
namespace Wb
variable {W:List fG} {i:Nat}
theorem OA(hi:i<W.length)(a:W[i].t.aA=3):apart W i=((take (take W (W[i].t.eT 0) 2 [i]).1 (W[i].t.eT 1) 3 [i]).1,(take (take W (W[i].t.eT 0) 2 [i]).1 (W[i].t.eT 1) 3 [i]).2||(take W (W[i].t.eT 0) 2 [i]).2):=by
 unfold apart;rw[vk hi];dsimp only;rw[if_pos a]
theorem OE(hi:i<W.length)(a:W[i].t.aA=6):apart W i=take W (W[i].t.eT 1) 5 [i]:=by
 unfold apart;rw[vk hi];dsimp only;rw[if_neg aar,if_pos a]
theorem OC(hi:i<W.length)(a:W[i].t.aA=5)(b:(find W (W[i].t.eT 1)).any (λm=>partAt W m)=true):apart W i=(W,false):=by
 unfold apart;rw[vk hi];dsimp only;rw[if_neg aar,if_neg aar,if_pos a,if_pos b]
theorem OD(hi:i<W.length)(a:W[i].t.aA=5)(b:(find W (W[i].t.eT 1)).any (λm=>partAt W m)=false)(hb:(Ci W (W[i].t.eT 0)).2=none):apart W i=((Ci W (W[i].t.eT 0)).1,false):=by
 unfold apart;rw[vk hi];dsimp only;rw[if_neg aar,if_neg aar,if_pos a,if_neg (by rw[b];simp),hb]
theorem Oz{k:Nat}(hi:i<W.length)(a:W[i].t.aA=5)(b:(find W (W[i].t.eT 1)).any (λm=>partAt W m)=false)(hb:(Ci W (W[i].t.eT 0)).2=some k):apart W i=take (Ci W (W[i].t.eT 0)).1 (W[i].t.eT 1) 4 [i,k]:=by
 unfold apart;rw[vk hi];dsimp only;rw[if_neg aar,if_neg aar,if_pos a,if_neg (by rw[b];simp),hb]
theorem Oy(hi:i<W.length)(a:W[i].t.aA≠3/\W[i].t.aA≠5/\W[i].t.aA≠6):apart W i=(W,false):=by
 unfold apart;rw[vk hi];dsimp only;rw[if_neg a.1,if_neg a.2.2,if_neg a.2.1]
end Wb
def Z5(X:Nat->Bool)(B g M:Nat)(w:World)(vs vp:Value)(r:List fG×Bool)(e:Ending)(w':World):Prop:=e=.returned (.bool r.2)/\mI X B g M w vs vp r.1 w'
theorem ac1{p:Prop}(h:p:=by
 obtain⟨G,H,I⟩:=bu.o.cells;obtain⟨_,_,A1,c1,a,_,d0,d1,d2,C⟩:=bq.o.O8 abA;injection a with a;injection a with a n;subst a;subst n;have aH:=aa C;have K:=bB.o 0 aat _ _ g M vs vp W Z.o aK.o aH.o;have aM:=bC.o 0 aat W Z.o;have E:=H4.o abn aL.o;have h5:=λk=>H5.o k abn aL.o;change Calls _ _ _ _ (Yz X B g M _ vs vp (Wb.Ci W (t.eT 0)))at K;generalize Wb.Ci W (t.eT 0)=q at K aM E h5;obtain⟨aO,_,_⟩:=aM;obtain⟨bK,bL,bM,bN⟩:=aad aO K E h5;clear C aO K E h5;go_wp2_with fail;refine bL.o.m ?_;rintro e w6 ⟨l,af,ah,aQ,L⟩;obtain⟨ak,aT,aU,bO⟩:=aad aQ (bq.o.fr L) (bJ.o.t L) (bu.o.fr L HN.o);clear aQ L G H I d0 d1 d2;cases o:q.2 with
 |none=>
  have u:e=.returned (.int .i64 (-1)):=(by rw[l,o];rfl);clear l;subst u;have d:=aa (bM.o o);clear o;go_wp2_with fail;go_ret;rw[d.o];exact⟨rfl,_,_,ak.o,aU.o⟩
 |some p=>
  have u:e=.returned (.int .i64 (p:Int)):=(by rw[l,o];rfl);clear l;subst u;have dG:(0:Int)<=(p:Int):=aar;have d:=aa (bN.o p o);clear o;obtain⟨G,H,I⟩:=bO.o.cells;have y:=ae w6 (.cells #[.int .i64 (i:Int),.int .i64 (p:Int)] 3);obtain⟨bP,bQ,dH,bR⟩:=aad ((lH.two (S:=nr X g M af ah) w6 i p 3 (qA ak.o (ax _)))) (ak.o.ag y) (aT.o.aR (S':=nr X g M af ah) (λb hb c=>⟨hb,y.block b c⟩)) (aU.o.ag V y);obtain⟨_,_,A2,c2,a,_,d0,d1,d2,j⟩:=aT.o.RF abA;injection a with a;injection a with a n;subst a;subst n;have J:=aa (j.aR (S':=nr X g M af ah) (λb hb c=>⟨hb,y.block b c⟩));clear y j;go_wp2_with fail;refine(aB.o 1 aat _ _ 4 [i,p] _ _ _ _ _ bK.o bQ.o J.o bP.o).m ?_;rintro e w8 ⟨rfl,av⟩;rw[<-d.o]at av⊢;have bS:=aa (mI.after bR.o av);clear av G H I d0 d1 d2;go_wp2_with fail;go_ret;exact⟨rfl,bS.o⟩):p:=h
theorem ac2{p:Prop}(h:p:=by
 go_wp2_with fail;go_ret;rw[d.o];exact⟨rfl,_,_,s.o,D.o⟩):p:=h
theorem X7{B g M:Nat}{vs vp:Value}{W:List fG}{U:List T}(hU:yB U)(bv:∀t∈U,t.bE<=1048576)(i:Nat)(w:World)(hi:i<W.length)(hI:Inv U W)(h:gz X B w g M vs vp W):
 Calls Tryz.prog 183 #[.pointer (some ⟨g,0,none⟩),.int .i64 (i:Int)] w (Z5 X B g M w vs vp (Wb.apart W i)):=by
 have N:=hI.mem _ (aP hi);have aV:=T.oZ (aN.1 (hU.ok _ N)).2;have V:=h.lt.2;obtain⟨gs,cp,A0,bz,_,_,rfl,c0,c1,c2,_,_,hT,_⟩:=h.Ob hi;have aW:=Wb.OA hi;have aX:=Wb.OE hi;have aY:=Wb.OC hi;have aZ:=Wb.OD hi;have bf:=λk=>Wb.Oz (k:=k) hi;have bg:=Wb.Oy hi;generalize W[i].t=t at N aV hT c0 c1 c2 aW aX aY aZ bf bg;obtain⟨R,hR⟩:=aay (Wb.apart W i);rw[hR]at aW aX aY aZ bf bg⊢;obtain⟨H1,H2,H3,H4,H5,H6⟩:=aaf aW aX aY aZ bf bg;have hw:=ae w (.cells #[.int .i64 t.aA,.string t.aI,.slice A0 t.ay.length bz] 29);have bx:=jy.new w (.int .i64 t.aA) (.string t.aI) (.slice A0 t.ay.length bz);obtain⟨vs,az⟩:∃v:Value,Value.slice (some ⟨gs,0,none⟩) W.length cp=v:=⟨_,rfl⟩;have dM:=aa az;have HN:=aa (show nr X g M vs vp w.heap.size=true by rw[<-az];exact qA h (ax _));have D:=aa (show Fr X B g M vs vp w vs vp _ from(Fr.refl (X:=X) B g M vs vp w).ag V hw);have s:=aa (show gz X B _ g M vs vp W by rw[<-az];exact h.ag hw);have Y:=aa (show bI (nr X g M vs vp) _ _ t by rw[<-az];exact hT.aR (S':=nr X g M _ vp) (λb hb c=>⟨hb,hw.block b c⟩));have Z:=aa hI;have cK:=h.cells.1;rw[az];have bU:(0:Int)<=(i:Int)/\(i:Int)<(W.length:Int):=aar;obtain⟨bU,dN⟩:=bU;obtain⟨aB,bV,bW⟩:=aac ((λ(x:Nat) (z:x<t.ay.length) v' W' how jw F fc O vs' mK (aF:Inv U O) hW bA hF=>Xx (X:=X) (W:=O) (g:=g) (M:=M) (B:=B) (vs:=vs') (vp:=mK) (t.eT x) v' W' how jw F fc hW bA (bv _ (hU.eT t N x z)) hF (aF.room hU (hU.eT t N x z)))) (λ(x:Nat) (z:x<t.ay.length) how jw O (aF:Inv U O)=>Wb.rT how jw aF (hU.eT t N x z)) ((λ(x:Nat) (z:x<t.ay.length) v' W' O vs' mK (hW:gz X B W' g M vs' mK O) (bA:aS W' v' (t.eT x))=>QF (X:=X) (t.eT x) v' W' hW bA (bv _ (hU.eT t N x z))));have bB:=aa (λ(x:Nat) (z:x<t.ay.length)=>Uy (X:=X) (B:=B) hU bv ((t.eT x).bE+1) (t.eT x) aar (hU.eT t N x z));have bC:=aa (λ(x:Nat) (z:x<t.ay.length) (O:List fG) (aF:Inv U O)=>Wb.Gt hU (hU.eT t N x z) aF);clear aW aX aY aZ bf bg hR hI h hT hw az;obtain⟨k,hk⟩:=aay t.aA;obtain⟨nm,bD⟩:=aay t.aI;obtain⟨kn,aG⟩:=aay t.ay.length;rw[hk,bD,aG]at bx D s Y;rw[hk]at c0 H1 H2 H3 H4 H5 H6;rw[bD]at c1;rw[aG]at c2 aB bV bW bB bC;rw[hk,aG]at aV;obtain⟨HK,P,cO⟩:=aac hk aG aV;clear hk bD aG aV;go_enter Tryz.func183,Tryz.ntmps183;go_upto_region 2 with fail;generalize w.alloc _=w1 at bx D s Y⊢;clear c0 c1 c2 cK;obtain⟨x0,x1,x2⟩:=bx.cells;have BX:=aa bx;clear bx;rcases cO.o with⟨cZ,h0⟩|⟨df,h2⟩|⟨E,A⟩|⟨h7,A,dO⟩
 ·have d:=aa (H6.o aar);rcases cZ with rfl|rfl
  ·clear h0;exact ac2
  ·clear h0;exact ac2
 ·subst h2;obtain⟨b,off,A1,c1,rfl,_,d0,d1,d2,C⟩:=Y.o.O8 abA;rcases df with rfl|rfl|rfl
  ·have f:=ae w1 (.cells #[.int .i64 (i:Int)] 3);obtain⟨bF,bG,dh,bH,aH,dm⟩:=aaf ((lH.one (S:=nr X g M vs vp) w1 i 3 (qA s.o (ax _)))) (s.o.ag f) (Y.o.aR (S':=nr X g M vs vp) (λb hb c=>⟨hb,f.block b c⟩)) (D.o.ag V f) (C.aR (S':=nr X g M vs vp) (λb hb c=>⟨hb,f.block b c⟩)) (BX.o.ag f);have Q:=aB.o 0 aat _ _ 2 [i] _ 1 _ _ _ Z.o bG.o aH.o bF.o;have hit:=bV.o 0 aat 2 [i] W Z.o;have A:=H1.o rfl;generalize Wb.take W (t.eT 0) 2 [i]=q at Q hit A;obtain⟨dn,dw,dx⟩:=aac Q hit A;clear f C Q hit A;go_wp2_with fail;refine dn.o.m ?_;rintro e w3 ⟨rfl,bX,bY,bZ,bi⟩;obtain⟨cu,dz,dA,dB⟩:=aad bZ (dh.o.fr bi) (bH.o.t bi) (dm.o.fr bi HN.o);clear bZ bi x0 x1 x2 d0 d1 d2;obtain⟨G,H,I⟩:=dB.o.cells;obtain⟨_,_,A2,c2,a,_,d0,d1,d2,j⟩:=dz.o.RF abA;injection a with a;injection a with a n;subst a;subst n;have bn:=ae w3 (.cells #[.int .i64 (i:Int)] 3);obtain⟨dC,dD,dE,J⟩:=aad ((lH.one (S:=nr X g M bX bY) w3 i 3 (qA cu.o (ax _)))) (cu.o.ag bn) (dA.o.ag V bn) (j.aR (S':=nr X g M bX bY) (λb hb c=>⟨hb,bn.block b c⟩));have Q:=aB.o 1 aat _ _ 3 [i] _ 1 _ _ _ dw.o dD.o J.o dC.o;have A:=dx.o;obtain⟨q1,q2⟩:=q;dsimp only at A Q⊢;generalize Wb.take q1 (t.eT 1) 3 [i]=r at Q A;obtain⟨dF,cz⟩:=aab Q A;clear bn j Q A;go_wp2_with fail;refine dF.o.m ?_;rintro e w5 ⟨rfl,aC⟩;have aJ:=aa (mI.after dE.o aC);clear aC G H I d0 d1 d2;obtain⟨r1,r2⟩:=r;dsimp only at aJ⊢;cases r2 with
   |true=>
    go_wp2_with fail;go_ret;rw[cz.o];exact⟨rfl,aJ.o⟩
   |false=>
    go_wp2_with fail;go_ret;rw[cz.o];exact⟨by cases q2<;>rfl,aJ.o⟩
  ·obtain⟨_,_,A2,c2,a,_,f0,f1,f2,j⟩:=Y.o.RF abA;injection a with a;injection a with a n;subst a;subst n;have J:=aa j;clear C j;go_wp2_with fail;refine(bW.o 1 aat _ _ _ _ _ s.o J.o.at).m ?_;rintro e w2 ⟨l,f⟩;obtain⟨aK,bq,bJ,bu⟩:=aad (s.o.ag f) (Y.o.aR (S':=nr X g M vs vp) (λb hb c=>⟨hb,f.block b c⟩)) (D.o.ag V f) (BX.o.ag f);clear f x0 x1 x2 d0 d1 d2 f0 f1 f2;cases hf:jl W (t.eT 1).key with
   |none=>
    have u:e=.returned (.int .i64 (-1)):=(by rw[l,hf];rfl);clear l;subst u;have aL:=aa (show(Wb.find W (t.eT 1)).any (λm=>Wb.partAt W m)=false by rw[Mt,hf];rfl);clear hf;exact ac1
   |some m=>
    have u:e=.returned (.int .i64 (m:Int)):=(by rw[l,hf];rfl);clear l;subst u;have hm:=Hu hf;obtain⟨gp,dI,dJ,p0,_,_⟩:=aK.o.D5 hm;subst dJ;have dK:=aK.o.cells.2.2.1;have bT:(0:Int)<=(m:Int)/\(m:Int)<(W.length:Int):=aar;obtain⟨bT,dL⟩:=bT;have cB:=aa (show(Wb.find W (t.eT 1)).any (λm=>Wb.partAt W m)=W[m].part by rw[Mt,hf];exact Wb.wX hm);clear hf;cases aD:W[m].part with
    |true=>
     rw[aD]at p0;have d:=aa (H3.o abn (by rw[cB.o,aD]));clear aD;go_wp2_with fail;go_ret;rw[d.o];exact⟨rfl,_,_,aK.o,bJ.o⟩
    |false=>
     rw[aD]at p0;have aL:=aa (cB.o.t aD);clear aD;go_upto_region 12 with fail;clear p0 dK bT dL;generalize Value.slice (some ⟨gp,0,none⟩) W.length dI=vp at*;exact ac1
  ·obtain⟨_,_,A2,c2,a,_,f0,f1,f2,j⟩:=Y.o.RF abA;injection a with a;injection a with a n;subst a;subst n;have f:=ae w1 (.cells #[.int .i64 (i:Int)] 3);obtain⟨bF,bG,bH,J,d⟩:=aae ((lH.one (S:=nr X g M vs vp) w1 i 3 (qA s.o (ax _)))) (s.o.ag f) (D.o.ag V f) (j.aR (S':=nr X g M vs vp) (λb hb c=>⟨hb,f.block b c⟩)) (H2.o rfl);clear f C j;go_wp2_with fail;refine(aB.o 1 aat _ _ 5 [i] _ _ _ _ _ Z.o bG.o J.o bF.o).m ?_;rintro e w5 ⟨rfl,aC⟩;rw[<-d.o]at aC⊢;have aJ:=aa (mI.after bH.o aC);clear aC x0 x1 x2 d0 d1 d2 f0 f1 f2;go_wp2_with fail;go_ret;exact⟨rfl,aJ.o⟩
 ·subst E;have d:=aa (H6.o aar);exact ac2
 ·subst h7;have d:=aa (H6.o aar);exact ac2
end
section
open Go.RowKit
attribute [local go_sem ↓] Go.wp_at_zero Go.wp_at_succ
theorem wW:∀(N:Nat) (t:T) (v:Value) (w:World),t.bE<N->aS w v t->t.bE<=1048576->
 Calls Tryz.prog 36 #[v] w (Ow t w):=by
 intro N;induction N with
 |zero=>intro t v w h;omega
 |succ N J=>
  intro t v w hN ht az;cases ht with
  |mk k s A cap a U K L h3 h4 hA hU=>
   simp only[T.bE]at hN az;have bq:a.length<=262144:=(aaz (T.lq a));have HT:=aa (aS.mk k s A cap a U K L h3 h4 hA hU);obtain⟨i0,aB,aC,aD,aF⟩:=dU Tryz.uN;go_enter Tryz.func36,Tryz.ntmps36;go_wp2_with fail;obtain⟨c,y,z,p⟩:=oq w (.int .i64 k) (.string s) (.slice none 0 0) (.int .i64 0) (.string ⟨#[]⟩) (.slice none 0 0);generalize(w.alloc (.cells #[.int .i64 k,.string s,.slice none 0 0] 29)).alloc (.cells #[.int .i64 0,.string ⟨#[]⟩,.slice none 0 0] 29)=w1 at c y z p⊢;have M:E5 w k s [] w1:=⟨_,c,y,bK.nil _ _,z,aar⟩;obtain⟨aG,IH⟩:=aab M J;clear c y z p M J;obtain⟨aH,aJ⟩:=aab hA hU;clear hA hU;go_loopw [11] (λi wr=>∃j:Nat,j<=a.length/\i=.int .i64 j/\E5 w k s (a.take j) wr) (λi _=>a.length-(intOf i).toNat);case atStart=>exact⟨0,aT _,rfl,by simpa using aG.o⟩
   case round=>
    obtain⟨j,hj,rfl,o⟩:=hrel;by_cases q:j<a.length
    ·obtain⟨kv,c,l,f,d,p⟩:=o;obtain⟨b,off,r,u,rfl,d0,d1,d2,hu⟩:=aS.cells q aH.o aJ.o;obtain⟨e0,e1,e2⟩:=aak d d0 d1 d2;have hi:(j:Int)<(a.length:Int):=aar;obtain⟨HU,O,HJ⟩:=aac (hu.ag d) q hj;have P:=aa (show a[j].bE<N/\a[j].bE<=1048576 from aaz (T.jq a j q));clear d0 d1 d2 hu hj;go_upto_region 6 with fail;have n:=ae wr (.cells #[.int .i64 a[j].aA,.string a[j].aI,.slice r a[j].ay.length u] 29);have Q:=jy.new wr (.int .i64 a[j].aA) (.string a[j].aI) (.slice r a[j].ay.length u);have R:=aK wr (.cells #[.int .i64 a[j].aA,.string a[j].aI,.slice r a[j].ay.length u] 29);generalize wr.alloc _=S at n Q R⊢;replace c:=c.ag n;replace l:=l.ag n;replace f:=f.ag n;replace d:=d.t (n.m d.size);have B:w.heap.size+2<=S.heap.size:=aar;have aL:=aa (HU.o.ag n);obtain⟨xs,x,V⟩:=f.owns;have W:(List.take j a).length=j:=aaR;obtain⟨X,aM⟩:=aab (λt w3 w4 u0 u1 u2 g cap=>E5.step (k:=k) (s:=s) (t:=t) (w3:=w3) (w4:=w4) (u0:=u0) (u1:=u1) (u2:=u2) (g:=g) (cap:=cap) c l f d B V x.1) (show List.take j a++[a[j]]=List.take (j+1) a from(aZ q).symm);obtain⟨Y,Z,C⟩:=c.cells;obtain⟨f0,f1,f2⟩:=c.free;obtain⟨q0,q1,q2⟩:=Q.cells;have D:=f.block;rw[W]at x X;obtain⟨HOWN,aN,bu⟩:=aac x c D;have bv:w.heap.size<S.heap.size:=aar;have aO:=aa B;have aP:=aa (show kv.ownBlock≠some w.heap.size from λe=>aaz ((D _ e).1));clear e0 e1 e2 V f l p B W x c n d D R;go_region_law (first|(refine dW _ aav _ _ _ aav (w.heap.size+2) 29 i0 _ 3 48 cB aB aC aD aF rfl aar _ _ _ aav aQ.o ⟨_,0,none⟩ 1 1 _ aav aav (cZ (bP _ _)) aR.o aar aaS aar aU.o _ rfl ?_;intro g cap w4 ah E o aW;have F:=(aN.o.ag (m.t ((ae w3 _).m m.size))).grown E aP.o;have c4:=F.cells.2.2;have f4:=F.free.2.2)|(go_simp;go_at_call 36;refine(IH.o _ _ _ P.o.1 aL.o.drew P.o.2).m ?_;rintro e w3 ⟨G,C3,rfl,H,aY⟩;have m:=jN aY;obtain⟨z0,z1,z2⟩:=aak m Y Z C;have bf:=af (ae w3 (.cells #[.int .i64 a[j].aA,.string a[j].aI,.slice G a[j].ay.length C3] 29)) z2;obtain⟨aQ,aR⟩:=aab ((dG HOWN.o m).alloc (.cells #[.int .i64 a[j].aA,.string a[j].aI,.slice G a[j].ay.length C3] 29)) H.one;have aU:=aa (show w.heap.size+2<=(w3.alloc (.cells #[.int .i64 a[j].aA,.string a[j].aI,.slice G a[j].ay.length C3] 29)).heap.size by rw[aK];have:=m.size;have:=aO.o;omega)));all_goals
      have I:=X.o a[j] w3 w4 _ _ _ g cap m H ah E (o.imp id (λh=>h.t (aK _ _)));rw[aM.o]at I;have bg:=aa I;clear I E ah H c4 f4 F z0 z1 z2 bf o aW;go_wp2_with fail;go_roundw;case rel=>exact⟨j+1,O.o,aaw,bg.o⟩
      case measure=>exact aax O.o
    ·obtain rfl:j=a.length:=aar;rw[bG (ax _)]at o;obtain⟨kv,c,l,f,d,p⟩:=o;obtain⟨A4,C4,ak,_,_⟩:=f.shape;obtain⟨Y,Z,C⟩:=c.cells;obtain⟨q0,q1,q2⟩:=l.cells;obtain⟨f0,f1,f2⟩:=l.free;obtain⟨av,bi,bn⟩:=aac (f.term k s K L) d l;rw[ak]at C av;clear ak f d c l;go_wp2_with fail;obtain⟨d0,d1,d2⟩:=(dX bn.o (.int .i64 k) (.string s) (.slice A4 a.length C4)).cells;refine aV (v:=.agg #[.int .i64 k,.string s,.slice A4 a.length C4]) (by simp[results,Tryz.results36,go_sem,d0,d1,d2]) rfl ?_;exact rO (t:=.mk k s a) _ _ _ bi.o aar rfl rfl rfl av.o
end
section
open Go.RowKit
def T.use(t:T):Bool:=t.ground&&t.K5
theorem Zr{t:T}(h:t.ground=false):t.use=false:=by unfold T.use;rw[h];rfl
theorem Zt{t:T}(h:t.ground=true):t.use=t.K5:=by unfold T.use;rw[h];rfl
theorem T.ik{t:T}(h:t.use=true):t.eZ=true:=((T.Bz t).1 (aN.1 h).2).1
theorem QJ(t:T)(v:Value)(w:World)(c:aS w v t)(o:t.bE<=1048576):
 Calls Tryz.prog 184 #[v] w λe w'=>e=.returned (.bool t.use)/\Below w.heap.size w w':=by
 obtain⟨u,x⟩:=aab (λh W i=>GA t h W i o) (λh W i=>UG t h W i o);have b:=Zr (t:=t);have a:=Zt (t:=t);obtain⟨q,y⟩:=aay t.use;rw[y]at b a⊢;generalize t.ground=p at b a u;generalize t.K5=r at a x;obtain⟨B,C⟩:=aab b a;clear b a y;cases c with
 |mk k s A cap d U b a D E hA hU=>
 have c:=aS.mk k s A cap d U b a D E hA hU;go_enter Tryz.func184,Tryz.ntmps184;go_upto_region 1 with fail;have f:=jy.new w (.int .i64 k) (.string s) (.slice A d.length cap);have j:=ae w (.cells #[.int .i64 k,.string s,.slice A d.length cap] 29);obtain⟨l,m⟩:=aab (c.ag j) j;clear c hA hU j;generalize w.alloc _=K at f l m⊢;obtain⟨x0,F,G⟩:=f.cells;have H:=aa f;clear f;go_wp2_with fail;refine(u.o _ _ l.o).m ?_;rintro e L ⟨rfl,g⟩;obtain⟨n,I⟩:=aab (m.o.t (g.m m.o.size)) (l.o.ag g);obtain⟨M,N,O⟩:=(H.o.ag g).cells;clear g x0 F G;cases p with
 |false=>
  go_wp2_with fail;go_ret;exact⟨cO (B.o trivial).symm,n.o⟩
 |true=>
  go_wp2_with fail;refine(x.o _ _ I.o).m ?_;rintro e w3 ⟨rfl,z⟩;have J:=aa (n.o.t (z.m n.o.size));clear z;go_wp2_with fail;go_ret;exact⟨cO (C.o trivial).symm,J.o⟩
theorem bK.push{w w1 w3:World}{base:Nat}{v:Value}{L:List T}{t:T}{A8:Option Addr}{c8:Nat}{xs:List Value}{u0 u1 u2:Value}{o:Obj}(c:CT (but base v.ownBlock) w xs L)(g:∀b,v.ownBlock=some b->b<w.heap.size)(z:base<=w.heap.size)
 (hb:Below w.heap.size w w1) (j:bI (dP w.heap.size) w1 (.agg #[u0,u1,u2]) t) (d:w3.ownsRow base 29 3 (.slice A8 (L.length+1) c8) (L.length+1) (xs++[u0,u1,u2]))
 (k:(w1.alloc o).grownBy w3 v.ownBlock) (l:A8.map (·.block)=v.ownBlock\/A8.map (·.block)=some (w1.alloc o).heap.size):bK w3 base (.slice A8 (L.length+1) c8) (L++[t]):=by
 obtain⟨A,cap,e,_⟩:=d.form aar;injection e with m B n;subst m;subst n;have p:=hb.t ((ae w1 o).m hb.size);refine bK.snoc (w:=w1.alloc o) (H:=(w1.alloc o).heap.size) (λi hi=>?_) c.1 ?_ d k ?_ rfl
 ·obtain⟨a0,q,r,s,u,x,b3⟩:=c.2 i hi;exact⟨a0,q,r,s,u,x,b3.aR λb y a=>⟨y,p.block b a⟩⟩
 ·refine j.aR λb f a=>⟨jd.2 ⟨aaz (ak f),λe=>aaA (g b e) (ak f)⟩,fK w1 o b a⟩
 ·rcases l with h|h;·exact .inl h.symm
  ·right;injection h
def iY(w:World)(A:Option Addr)(cap:Nat)(L:List T):Prop:=aS w (.agg #[.int .i64 0,.string ⟨#[]⟩,.slice A L.length cap]) (.mk 0 ⟨#[]⟩ L)
theorem iY.ag{w w':World}{A:Option Addr}{cap:Nat}{L:List T}(h:iY w A cap L)(hb:Below w.heap.size w w'):iY w' A cap L:=aS.ag h hb
theorem aS.inv{w:World}{v:Value}{t:T}(h:aS w v t):∃(A:Option Addr) (cap:Nat) (U:Nat->Value×Value×Value),v=.agg #[.int .i64 t.aA,.string t.aI,.slice A t.ay.length cap]/\t.ay.length<=cap/\cap<=maxLen/\
 (t.ay.length=0\/∃b off,A=some ⟨b,off,none⟩/\∀i,i<t.ay.length->w.cell? ⟨b,off+i*3,none⟩=some (U i).1/\w.cell? ⟨b,off+i*3+1,none⟩=some (U i).2.1/\w.cell? ⟨b,off+i*3+2,none⟩=some (U i).2.2)/\
 (∀i (h:i<t.ay.length),aS w (.agg #[(U i).1,(U i).2.1,(U i).2.2]) t.ay[i]):=by
 cases h with
 |mk k s A cap d U e f a c hA hU=>exact⟨A,cap,U,rfl,a,c,hA,hU⟩
theorem iY.inv{w:World}{A:Option Addr}{cap:Nat}{L:List T}(h:iY w A cap L):∃U:Nat->Value×Value×Value,L.length<=cap/\cap<=maxLen/\(L.length=0\/∃b off,A=some ⟨b,off,none⟩/\∀i,i<L.length->w.cell? ⟨b,off+i*3,none⟩=some (U i).1/\w.cell? ⟨b,off+i*3+1,none⟩=some (U i).2.1/\w.cell? ⟨b,off+i*3+2,none⟩=some (U i).2.2)/\
 (∀i (h:i<L.length),aS w (.agg #[(U i).1,(U i).2.1,(U i).2.2]) L[i]):=by
 obtain⟨k,l,U,e,a,c,d,f⟩:=aS.inv h;injection e with e;injection e with e;injection e with _ e;injection e with _ e;injection e with e _;injection e with g _ j;subst g;subst j;exact⟨U,a,c,d,f⟩
theorem iY.get{w:World}{A:Option Addr}{cap:Nat}{L:List T}(h:iY w A cap L){i:Nat}(hi:i<L.length):∃b off A' a,A=some ⟨b,off,none⟩/\w.cell? ⟨b,off+i*3,none⟩=some (.int .i64 L[i].aA)/\w.cell? ⟨b,off+i*3+1,none⟩=some (.string L[i].aI)/\
 w.cell? ⟨b,off+i*3+2,none⟩=some (.slice A' L[i].ay.length a)/\aS w (.agg #[.int .i64 L[i].aA,.string L[i].aI,.slice A' L[i].ay.length a]) L[i]:=by
 obtain⟨U,_,_,hA,hU⟩:=h.inv;exact aS.cells hi hA hU
theorem iY.XM{w:World}{A:Option Addr}{cap:Nat}{L:List T}(h:iY w A cap L):L.length<=cap/\cap<=maxLen:=by
 obtain⟨U,a,b,_⟩:=h.inv;exact⟨a,b⟩
theorem oO{w:World}{base:Nat}{e:TypeId}{size n:Nat}{v:Value}{xs:List Value}(h:w.ownsRow base e size v n xs):∃A c,v=.slice A n c:=by
 rcases h.2 with⟨rfl,rfl⟩|⟨g,cap,a,rfl,_⟩;·exact⟨_,_,rfl⟩
 ·exact⟨_,_,rfl⟩
theorem Src.Cn(w:World)(cs:List Value)(e:TypeId)(size:Nat)(h:cs.length=size):Src (w.alloc (.cells cs.toArray e)) size (some ⟨w.heap.size,0,none⟩) 1 cs:=by
 refine⟨aar,.inr ⟨_,0,rfl,λj u hu=>?_⟩⟩;rw[eP];have e:=bP w (.cells cs.toArray e);unfold World.cell?;rw[e];simpa using hu
def cnt(L:List T):List T:=(L.take 64).filter T.use
theorem TL(L:List T)(j:Nat)(h:j<L.length):(L.take (j+1)).filter T.use=if L[j].use=true then (L.take j).filter T.use++[L[j]] else (L.take j).filter T.use:=by
 rw[aZ h,ql];by_cases hu:L[j].use=true;·rw[aJ hu];simp[hu]
 ·rw[aH hu];simp[hu]
theorem ac3{p:Prop}(h:p:=by
 clear q S;go_wp2_with fail;go_meet;exact⟨by first|rfl|(congr 1;omega),by first|rfl|(congr 1;omega),rfl,rfl⟩):p:=h
theorem UD(L:List T)(A:Option Addr)(cap:Nat)(w:World)(h:iY w A cap L)(hb:∀t∈L,t.bE<=1048576):
 Calls Tryz.prog 181 #[.slice A L.length cap] w λe w'=>∃c,e=.returned c/\bK w' w.heap.size c (cnt L)/\Below w.heap.size w w':=by
 obtain⟨i0,ak,av,ax,az⟩:=dU Tryz.uN;obtain⟨m,q⟩:∃m,m=min L.length 64:=⟨_,rfl⟩;have aB:m<=L.length:=aar;have bn:m<=64:=aar;have R:=aa q;have D:=h.XM;unfold maxLen at D;obtain⟨aD,aF⟩:=aab h hb;obtain⟨n,E⟩:=aay L.length;have HN:=aa E;rw[E]at aB q D⊢;obtain⟨bq,bu⟩:=D;clear h hb E;go_enter Tryz.func181,Tryz.ntmps181;go_upto_region 2 with fail;go_cut [10,11,12]from 6 to 13 (λaH aJ aL W'=>aH=.slice A m cap/\aJ=.int .i64 m/\aL=.int .i64 0/\w=W')
 case first=>
  by_cases S:64<n
  ·have e:m=64:=aar;subst e;have aM:(64:Int)<(n:Int):=aar;have bv:(64:Int)<=(cap:Int):=aar;exact ac3
  ·have e:m=n:=aar;subst e;have aM:¬((64:Int)<(m:Int)):=aar;exact ac3
 case rest=>
  obtain⟨rfl,rfl,rfl,rfl⟩:=hcut;clear q;have U:=aa (show bK w w.heap.size (.slice none 0 0) ((L.take 0).filter T.use)/\Below w.heap.size w w from⟨bK.nil _ _,aC _ _⟩);go_upto_region 3 with fail;go_loopw [12,3] (λi l wr=>∃j:Nat,j<=m/\i=.int .i64 j/\bK wr w.heap.size l ((L.take j).filter T.use)/\Below w.heap.size w wr) (λi _ _=>m-(intOf i).toNat);case atStart=>exact⟨0,aT _,rfl,U.o.1,U.o.2⟩
  case round=>
   obtain⟨j,hj,rfl,v,d⟩:=hrel;by_cases aN:j<m
   ·have a:j<L.length:=(aaz R.o);obtain⟨b,off,F,c1,rfl,d0,d1,d2,hu⟩:=(aD.o.ag d).get a;have hi:(j:Int)<(m:Int):=aar;have r:=ae wr (.cells #[.int .i64 (L[j]'(a)).aA,.string (L[j]'(a)).aI,.slice F (L[j]'(a)).ay.length c1] 29);have bk:=jy.new wr (.int .i64 (L[j]'(a)).aA) (.string (L[j]'(a)).aI) (.slice F (L[j]'(a)).ay.length c1);have G:=aa (TL L j a);have x:=aF.o (L[j]'(a)) (aP a);have H:=aa (hu.ag r);obtain⟨t,V⟩:=aay (L[j]'(a));rw[V]at d0 d1 d2 r bk G x H;have aO:=aa (λc W I=>QJ t c W I x);have aQ:=aa (λc W I=>wW (t.bE+1) t c W aar I x);obtain⟨aR,X,y⟩:=aac (v.ag r) (d.t (r.m d.size)) aN;clear v d hu V a x;go_upto_region 5 with fail;generalize wr.alloc _=wa at*;obtain⟨J,K,M⟩:=bk.cells;have BK:=aa bk;clear bk d0 d1 d2 r;go_wp2_with fail;refine(aO.o _ _ H.o).m ?_;rintro e w2 ⟨rfl,s⟩;obtain⟨f,N,aS,aU⟩:=aad (X.o.t (s.m X.o.size)) (aR.o.ag s) (H.o.ag s) (BK.o.ag s);clear s J K M;cases hu:t.use with
    |false=>
     have g:=aa (show(L.take (j+1)).filter T.use=(L.take j).filter T.use by rw[G.o,hu];rfl);clear hu;go_wp2_with fail;go_roundw;case rel=>exact⟨j+1,y.o,aaw,by rw[g.o];exact N.o,f.o⟩
     case measure=>exact aax y.o
    |true=>
     have g:=aa (show(L.take (j+1)).filter T.use=(L.take j).filter T.use++[t] by rw[G.o,hu];rfl);clear hu;obtain⟨J,K,M⟩:=aU.o.cells;obtain⟨xs,Y,Z⟩:=N.o.cells;obtain⟨O,HOWN,af⟩:=aac N.o.block Y Z;have aV:((L.take j).filter T.use).length<=64:=aG (gF _ _) aaR;generalize(L.take j).filter T.use=L0 at HOWN af O aV g;obtain⟨A7,c7,rfl⟩:=oO HOWN.o;clear Y Z;go_wp2_with fail;refine(aQ.o _ _ aS.o).m ?_;rintro e w3 ⟨z,C3,rfl,P,p⟩;have Q:=ae w3 (.cells #[.int .i64 t.aA,.string t.aI,.slice z t.ay.length C3] 29);obtain⟨aW,aY⟩:=aab (dG (dG HOWN.o p) Q) P.one;have aZ:w.heap.size<=(w3.alloc (.cells #[.int .i64 t.aA,.string t.aI,.slice z t.ay.length C3] 29)).heap.size:=(by rw[aK];have:=p.size;have:=f.o.size;omega);obtain⟨bf,ah⟩:=aab ((λw8 A8 c8 B u C=>bK.push (base:=w.heap.size) (w3:=w8) (A8:=A8) (c8:=c8) (o:=.cells #[.int .i64 t.aA,.string t.aI,.slice z t.ay.length C3] 29 (0,0)) af.o (λb e=>(O.o b e).2) f.o.size p P B u C)) (((f.o.t (p.m f.o.size)).t (Q.m (aG f.o.size p.size))));clear p P Q J K M;go_wp2_with (at_builtin;refine fq _ rfl _ _ 23 rfl w.heap.size 29 i0 _ 3 48 cB ak av ax az rfl aar _ _ _ rfl aW.o _ 1 1 [.int .i64 t.aA,.string t.aI,.slice z t.ay.length C3] rfl (Src.Cn _ _ _ 3 rfl) aY.o aaS aar aZ ?_;intro A8 c8 w8 B u C;obtain⟨bg,bi⟩:=aab (bf.o _ _ _ B u C) ((ah.o.grown u ah.o.size (λk hk=>(O.o k hk).1)));clear B u C);go_roundw;case rel=>exact⟨j+1,y.o,aaw,by rw[g.o];exact bg.o,bi.o⟩
     case measure=>exact aax y.o
   ·obtain rfl:j=m:=aar;obtain⟨HR,HB⟩:=aab v d;have g:=aa (show(L.take j).filter T.use=cnt L by
     unfold cnt;have:=R.o;by_cases h:L.length<=64;·rw[bG aar,bG h]
     ·rw[show j=64 by omega])
    clear v d;go_wp2_with fail;go_ret;exact⟨_,rfl,by rw[<-g.o];exact HR.o,HB.o⟩
end
section
structure Bd where
 var:ByteArray
 t:T
namespace T
def look:List Bd->ByteArray->Option T
 |[],_=>none
 |x::r,n=>if x.var=n then some x.t else look r n
def pos(n:ByteArray):List Bd->Nat
 |[]=>0
 |x::r=>if less x.var n=true then pos n r+1 else 0
def ins(L:List Bd)(n:ByteArray)(t:T):List Bd:=L.take (pos n L)++⟨n,t⟩::L.drop (pos n L)
def fF(v:T)(l:List T):Int:=idx (λx=>decide (cmp x v=0)) l
def val(b:List Bd)(k:T):Option T:=if k.aA=2 then look b k.aI else some k
def qH(b:List Bd):List T->List T->ByteArray->Nat->Option (List T×ByteArray×Nat)
 |[],left,f,o=>some (left,f,o)
 |k::ps,left,f,o=>
  match val b k with
  |none=>qH b ps left k.aI (o+1)
  |some v=>if fF v left<0 then none else qH b ps (left.eraseIdx (fF v left).toNat) f o
def rH(b:List Bd):Option (List T×ByteArray×Nat)->Option (List Bd)
 |none=>none
 |some (left,f,o)=>if o=0 then (if left.length=0 then some b else none) else if o=1/\left.length=1 then (left[0]?).map (ins b f) else none
def pow(ps a:List T)(b:List Bd):Option (List Bd):=rH b (qH b ps a ⟨#[]⟩ 0)
mutual
def FE:T->T->List Bd->Option (List Bd)
 |.mk k s a,t,b=>
  if k=2 then (match look b s with
   |some v=>if cmp v t=0 then some b else none
   |none=>some (ins b s t))
  else if k≠t.aA\/s≠t.aI\/a.length≠t.ay.length then none
  else if k=7 then pow a t.ay b else kW a t.ay b
def kW:List T->List T->List Bd->Option (List Bd)
 |p::ps,t::a,b=>(match FE p t b with
  |none=>none
  |some c=>kW ps a c)
 |[],_,b=>some b
 |_::_,[],b=>some b
end
mutual
def put:T->List Bd->Option T
 |.mk k s a,b=>if k=2 then look b s else (match eU a b with
  |none=>none
  |some l=>some (.mk k s l))
def eU:List T->List Bd->Option (List T)
 |[],_=>some []
 |p::ps,b=>match put p b with
  |none=>none
  |some u=>match eU ps b with
   |none=>none
   |some a=>some (u::a)
end
def Ext(b x:List Bd):Prop:=∀n v,look b n=some v->look x n=some v
theorem Ext.refl(b:List Bd):Ext b b:=λ_ _ h=>h
theorem Ext.t{a b c:List Bd}(h:Ext a b)(k:Ext b c):Ext a c:=λn v e=>k n v (h n v e)
theorem Qk(n:ByteArray)(t:T):ins [] n t=[⟨n,t⟩]:=rfl
theorem MM(x:Bd)(r:List Bd)(n:ByteArray)(t:T):ins (x::r) n t=if less x.var n=true then x::ins r n t else ⟨n,t⟩::x::r:=by
 unfold ins;by_cases h:less x.var n=true;·simp only[pos,aJ h,gJ,uJ,iP]
 ·simp only[pos,aH h,iM,oF,jZ]
theorem Ij:∀(b:List Bd) (n:ByteArray) (t:T) (m:ByteArray),look b n=none->look (ins b n t) m=if n=m then some t else look b m
 |[],n,t,m,_=>by rw[Qk];rfl
 |x::r,n,t,m,h=>by
  have a:¬x.var=n:=λe=>(by simp[look,e]at h);have c:look r n=none:=(by simpa[look,a]using h);rw[MM];split
  ·simp only[look];rw[Ij r n t m c];by_cases e:x.var=m;·rw[aJ e,aH (λh=>a (e.t h.symm)),aJ e]
   ·rw[aH e,aH e]
  ·simp only[look]
theorem KP{b:List Bd}{n:ByteArray}{t:T}(h:look b n=none):Ext b (ins b n t):=λm v a=>by
 rw[Ij b n t m h];by_cases e:n=m;·subst e;rw[h]at a;cases a
 ·rw[aH e];exact a
theorem M7{b:List Bd}{n:ByteArray}{t:T}(h:look b n=none):look (ins b n t) n=some t:=by
 rw[Ij b n t n h,aJ rfl]
theorem Dh{v:T}:∀{l:List T},0<=fF v l->∃h:(fF v l).toNat<l.length,l[(fF v l).toNat]=v
 |[],h=>by simp[fF,idx]at h
 |x::r,h=>by
  unfold fF at h⊢;simp only[idx]at h⊢;by_cases e:decide (cmp x v=0)=true
  ·simp only[e,rD];exact⟨aau,cmp_eq _ _ (ak e)⟩
  ·simp only[e]at h⊢;by_cases a:idx (λx=>decide (cmp x v=0)) r<0;·simp[a]at h
   ·obtain⟨b,c⟩:=Dh (v:=v) (l:=r) (by unfold fF;omega);unfold fF at b c;have d:(idx (λx=>decide (cmp x v=0)) r+1).toNat=(idx (λx=>decide (cmp x v=0)) r).toNat+1:=aar;simp only[a,zX,nz];refine⟨by rw[d];simpa using b,?_⟩;simp only[d,fJ];exact c
theorem at_mem{v:T}{l:List T}(h:v∈l):0<=fF v l:=by
 unfold fF;rw[KV,dM];exact⟨v,h,aM (pQ v)⟩
theorem Ho:∀(l:List T) (i:Nat) (h:i<l.length),(l[i]::l.eraseIdx i).Perm l
 |x::r,0,_=>by simp
 |x::r,i+1,h=>by
  have a:=Ho r i aaD;simp only[fJ,qC];exact(List.Perm.swap _ _ _).t ((mR x).2 a)
theorem KD{v:T}{l:List T}(h:0<=fF v l):(v::l.eraseIdx (fF v l).toNat).Perm l:=by
 obtain⟨a,b⟩:=Dh h;have:=Ho l _ a;rw[b]at this;exact this
theorem IE:∀(b:List Bd) (ps left:List T) (f:ByteArray) (o:Nat) (left':List T) (c:ByteArray) (d:Nat),(∀p∈ps,p.atom=true/\p.shape=true)->qH b ps left f o=some (left',c,d)->
  o<=d/\∃vals,(vals++left').Perm left/\(d=o->c=f/\∀x,Ext b x->eU ps x=some vals)/\
   (d=o+1->look b c=none/\∀x y,Ext b x->look x c=some y->∃j,eU ps x=some j/\j.Perm (y::vals))
 |b,[],left,f,o,left',c,d,_,h=>by
  simp only[qH,iw,mE]at h;obtain⟨rfl,rfl,rfl⟩:=h;exact⟨ax _,[],mQ _,λ_=>⟨rfl,λ_ _=>rfl⟩,λe=>aar⟩
 |b,.mk k s C::ps,left,f,o,left',c,d,z,h=>by
  obtain⟨A,B⟩:=z _ eu;have t:=λleft f o=>IE b ps left f o left' c d (λp D=>z p (aY _ D));have E:C=[]:=by
   simp only[atom,eH,fD]at A;simp only[shape,aJ A,ah,fD]at B;exact dS.1 B.2
  subst E;have F:val b (.mk k s [])=if k=2 then look b s else some (.mk k s []):=rfl
  simp only[qH]at h;rw[F]at h;have m:∀x,put (.mk k s []) x=if k=2 then look x s else some (.mk k s []):=λx=>by simp only[put,eU]
  by_cases g:k=2
  ·rw[aJ g]at h;cases n:look b s with
   |none=>
    rw[n]at h;obtain⟨r,vals,q,i,l⟩:=t _ _ _ h;refine⟨aar,vals,q,λe=>aar,λe=>?_⟩;obtain⟨G,H⟩:=i e;subst G;refine⟨n,λx y a hy=>⟨y::vals,?_,mQ _⟩⟩;simp only[eU,m,aJ g,hy,H x a]
   |some v=>
    rw[n]at h;by_cases hi:fF v left<0;·simp only[aJ hi]at h;cases h
    ·simp only[aH hi]at h;obtain⟨r,vals,q,i,l⟩:=t _ _ _ h;refine⟨r,v::vals,((mR v).2 q).t (KD aar),λe=>⟨(i e).1,λx a=>?_⟩,λe=>⟨(l e).1,λx y a hy=>?_⟩⟩;·simp only[eU,m,aJ g,a _ _ n,(i e).2 x a]
     ·obtain⟨j,u,w⟩:=(l e).2 x y a hy;exact⟨v::j,by simp only[eU,m,aJ g,a _ _ n,u],((mR v).2 w).t (List.Perm.swap _ _ _)⟩
  ·rw[aH g]at h;dsimp only at h;by_cases hi:fF (.mk k s []) left<0;·simp only[aJ hi]at h;cases h
   ·simp only[aH hi]at h;obtain⟨r,vals,q,i,l⟩:=t _ _ _ h;refine⟨r,.mk k s []::vals,((mR _).2 q).t (KD aar),λe=>⟨(i e).1,λx a=>?_⟩,λe=>⟨(l e).1,λx y a hy=>?_⟩⟩;·simp only[eU,m,aH g,(i e).2 x a]
    ·obtain⟨j,u,w⟩:=(l e).2 x y a hy;exact⟨.mk k s []::j,by simp only[eU,m,aH g,u],((mR _).2 w).t (List.Perm.swap _ _ _)⟩
theorem NG{ps a:List T}{b x:List Bd}(l:∀p∈ps,p.atom=true/\p.shape=true)(h:pow ps a b=some x):Ext b x/\∃c,eU ps x=some c/\c.Perm a:=by
 unfold pow at h;cases e:qH b ps a ⟨#[]⟩ 0 with
 |none=>rw[e]at h;cases h
 |some q=>
  obtain⟨left,f,o⟩:=q;rw[e]at h;simp only[rH]at h;obtain⟨_,vals,g,m,n⟩:=IE b ps a _ 0 left f o l e;by_cases i:o=0
  ·rw[aJ i]at h;by_cases j:left.length=0
   ·rw[aJ j]at h;obtain rfl:b=x:=aa0;rw[dS.1 j,dK]at g;exact⟨Ext.refl _,vals,(m i).2 _ (Ext.refl _),g⟩
   ·rw[aH j]at h;cases h
  ·rw[aH i]at h;by_cases d:o=1/\left.length=1
   ·rw[aJ d]at h;obtain⟨k,r⟩:=n d.1
    match left,d.2 with
    |[y],_=>
     obtain rfl:ins b f y=x:=aaD;obtain⟨c,s,t⟩:=r _ y (KP k) (M7 k);exact⟨KP k,c,s,t.t ((zA (l₁:=[y]) (l₂:=vals)).t g)⟩
   ·rw[aH d]at h;cases h
theorem rJ{s:ByteArray}{a:List T}(h:(T.mk 7 s a).shape=true):∀p∈a,p.atom=true/\p.shape=true:=λp c=>by
 simp only[shape]at h;rw[aH aar,ah,ah]at h;refine⟨?_,(mo a).1 h.2 p c⟩;have b:=h.1.1;unfold gZ at b;rw[aH aar,aH aar,aH aar,aJ rfl,ah]at b;have d:=b.2;rw[bT,fH]at d;have:=d p c;simpa using this
mutual
theorem V4:∀(p t:T) (b x:List Bd),p.shape=true->FE p t b=some x->Ext b x
 |.mk k s e,t,b,x,a,h=>by
  simp only[FE]at h;by_cases f:k=2
  ·rw[aJ f]at h;cases c:look b s with
   |none=>rw[c]at h;obtain rfl:ins b s t=x:=by simpa using h
          exact KP c
   |some v=>
    rw[c]at h;by_cases g:cmp v t=0
    ·obtain rfl:b=x:=(by simpa[g]using h);exact Ext.refl _
    ·simp[g]at h
  ·rw[aH f]at h;by_cases hd:k≠t.aA\/s≠t.aI\/e.length≠t.ay.length;·rw[aJ hd]at h;cases h
   ·rw[aH hd]at h;by_cases d:k=7
    ·rw[aJ d]at h;subst d;exact(NG (rJ a) h).1
    ·rw[aH d]at h;refine CK e t.ay b x ?_ h;simp only[shape]at a;by_cases i:k=1\/k=2
     ·rw[aJ i,ah,fD,dS]at a;rw[a.2];rfl
     ·rw[aH i,ah]at a;exact a.2
theorem CK:∀(ps a:List T) (b x:List Bd),dV ps=true->kW ps a b=some x->Ext b x
 |[],_,b,x,_,h=>by
  obtain rfl:b=x:=aa1;exact Ext.refl _
 |_::_,[],b,x,_,h=>by
  obtain rfl:b=x:=aa1;exact Ext.refl _
 |p::ps,t::a,b,x,d,h=>by
  simp only[dV,ah]at d;simp only[kW]at h;cases e:FE p t b with
  |none=>rw[e]at h;cases h
  |some c=>rw[e]at h;exact(V4 p t b c d.1 e).t (CK ps a c x d.2 h)
end
mutual
theorem QP:∀(p:T) (b x:List Bd) (u:T),Ext b x->put p b=some u->put p x=some u
 |.mk k s c,b,x,u,d,h=>by
  simp only[put]at h⊢;by_cases e:k=2;·rw[aJ e]at h⊢;exact d _ _ h
  ·rw[aH e]at h⊢;cases a:eU c b with
   |none=>rw[a]at h;cases h
   |some l=>rw[a]at h;rw[IG c b x l d a];exact h
theorem IG:∀(ps:List T) (b x:List Bd) (a:List T),Ext b x->eU ps b=some a->eU ps x=some a
 |[],b,x,a,_,h=>h
 |p::ps,b,x,a,e,h=>by
  simp only[eU]at h⊢;cases c:put p b with
  |none=>rw[c]at h;cases h
  |some u=>
   rw[c]at h;cases d:eU ps b with
   |none=>rw[d]at h;cases h
   |some l=>rw[d]at h;rw[QP p b x u e c,IG ps b x l e d];exact h
end
theorem CO{l:List T}(h:∀x∈l,x.fM=x):fV l=l:=by
 rw[iA];exact(uK h).t (List.map_id l)
theorem RX:∀(t:T),t.fM=t->(∀x∈t.ay,x.fM=x)/\(t.aA=7->nO t.ay=t.ay)/\(t.aA≠7->fV t.ay=t.ay)
 |.mk k s b,h=>by
  simp only[fM,mk.injEq,Bb]at h;have c:∀x∈b,x.fM=x:=λx a=>by
   rw[<-h]at a;have d:x∈fV b:=by
    split at a;·exact(kG _).mem_iff.1 a
    ·exact a
   rw[iA]at d;obtain⟨y,_,rfl⟩:=ek.1 d;exact BJ y
  have e:=CO c;refine⟨c,λf=>?_,λ_=>e⟩;have g:k=7:=f;rw[aJ g,e]at h;exact h
mutual
theorem Ul:∀(p t:T) (b x:List Bd),p.shape=true->t.fM=t->FE p t b=some x->∃u,put p x=some u/\u.fM=t
 |.mk k s i,t,b,x,a,j,h=>by
  simp only[FE]at h;by_cases c:k=2
  ·rw[aJ c]at h;simp only[put,aJ c];cases d:look b s with
   |none=>
    rw[d]at h;obtain rfl:ins b s t=x:=aaD;exact⟨t,M7 d,j⟩
   |some v=>
    rw[d]at h;by_cases l:cmp v t=0
    ·obtain rfl:b=x:=(by simpa[l]using h);exact⟨v,d,by rw[cmp_eq _ _ l];exact j⟩
    ·simp[l]at h
  ·rw[aH c]at h;simp only[put,aH c];by_cases hd:k≠t.aA\/s≠t.aI\/i.length≠t.ay.length;·rw[aJ hd]at h;cases h
   ·rw[aH hd]at h;have A:k=t.aA/\s=t.aI/\i.length=t.ay.length:=by
     refine⟨pI λe=>hd (.inl e),pI λe=>hd (.inr (.inl e)),pI λe=>hd (.inr (.inr e))⟩
    obtain⟨q,r,w⟩:=A;obtain⟨m,n2,B⟩:=RX t j;cases t with
    |mk k' D C=>
    simp only[aA,aI,ay]at q r w m n2 B h;subst q;subst r;by_cases f:k=7
    ·rw[aJ f]at h;subst f;obtain⟨_,n,o,g⟩:=NG (rJ a) h;refine⟨.mk 7 s n,by rw[o],?_⟩;simp only[fM,mk.injEq,Bb,rD];rw[CO (λy hy=>m y (g.mem_iff.1 hy)),xA g];exact n2 rfl
    ·rw[aH f]at h;obtain⟨n,o,g⟩:=FH i C b x (by
      simp only[shape]at a;by_cases z:k=1\/k=2
      ·rw[aJ z,ah,fD,dS]at a;rw[a.2];rfl
      ·rw[aH z,ah]at a;exact a.2) m w h
     refine⟨.mk k s n,by rw[o],?_⟩;simp only[fM,aH f,g]
theorem FH:∀(ps a:List T) (b x:List Bd),dV ps=true->(∀t∈a,t.fM=t)->ps.length=a.length->kW ps a b=some x->∃e,eU ps x=some e/\fV e=a
 |[],a,b,x,_,_,d,_=>⟨[],rfl,by simp at d;rw[dS.1 d.symm];rfl⟩
 |_::_,[],b,x,_,_,d,_=>by simp at d
 |p::ps,t::a,b,x,f,i,d,h=>by
  simp only[dV,ah]at f;simp only[kW]at h;cases g:FE p t b with
  |none=>rw[g]at h;cases h
  |some c=>
   rw[g]at h;obtain⟨u,j,k⟩:=Ul p t b c f.1 (i t eu) g;obtain⟨e,l,m⟩:=FH ps a c x f.2 (λy hy=>i y (aY _ hy)) (by simpa using d) h;refine⟨u::e,?_,by simp only[fV,k,m]⟩;simp only[eU,QP p c x u (CK ps a c x f.2 h) j,l]
end
theorem NK{p:T}(a:p.atom=true)(c:p.shape=true)(b:List Bd):put p b=val b p:=by
 cases p with
 |mk k s d=>
  have e:d=[]:=by
   simp only[atom,eH,fD]at a;simp only[shape,aJ a,ah,fD]at c;exact dS.1 c.2
  subst e;have f:val b (.mk k s [])=if k=2 then look b s else some (.mk k s []):=rfl
  rw[f];simp only[put,eU]
theorem IC{b:List Bd}:∀(ps left c:List T) (f:ByteArray),(∀p∈ps,p.atom=true/\p.shape=true)->eU ps b=some c->left.Perm c->qH b ps left f 0=some ([],f,0)
 |[],left,c,f,_,h,d=>by
  obtain rfl:[]=c:=abp;rw[List.perm_nil.1 d];rfl
 |p::ps,left,c,f,i,h,d=>by
  obtain⟨k,m⟩:=i _ eu;simp only[eU,NK k m]at h;simp only[qH];cases j:val b p with
  |none=>rw[j]at h;cases h
  |some v=>
   rw[j]at h;cases e:eU ps b with
   |none=>rw[e]at h;cases h
   |some g=>
    rw[e]at h;obtain rfl:v::g=c:=aaD;have n:=at_mem (d.mem_iff.2 (eu (a:=v) (l:=g)));dsimp only
    rw[aH aaF];exact IC ps _ g f (λq o=>i q (aY _ o)) e ((mR v).1 ((KD n).t d))
mutual
theorem Ms:∀(p:T) (b:List Bd) (u:T),(∀n v,look b n=some v->v.fM=v)->p.shape=true->put p b=some u->FE p u.fM b=some b
 |.mk k s e,b,u,hb,c,h=>by
  simp only[put]at h;simp only[FE];by_cases f:k=2
  ·rw[aJ f]at h⊢;rw[h];dsimp only
   rw[hb _ _ h,pQ,aJ rfl]
  ·rw[aH f]at h⊢;cases d:eU e b with
   |none=>rw[d]at h;cases h
   |some a=>
    rw[d]at h;obtain rfl:T.mk k s a=u:=aaD;have g:=II e b a d;simp only[fM,aA,aI,ay];by_cases i:k=7
    ·subst i;simp only[rD,rE];have j:=rJ c;have m:fV a=a:=CO (FN e b a hb j d);rw[m,aH (by simp[g])];unfold pow;rw[IC e (nO a) a _ j d (kG a)];rfl
    ·simp only[aH i];rw[aH (by simp[iA,g])];refine Fq e b a hb ?_ d;simp only[shape]at c;by_cases l:k=1\/k=2
     ·rw[aJ l,ah,fD,dS]at c;rw[c.2];rfl
     ·rw[aH l,ah]at c;exact c.2
theorem Fq:∀(ps:List T) (b:List Bd) (a:List T),(∀n v,look b n=some v->v.fM=v)->dV ps=true->eU ps b=some a->kW ps (fV a) b=some b
 |[],b,a,_,_,h=>by simp only[kW]
 |p::ps,b,a,hb,c,h=>by
  simp only[dV,ah]at c;simp only[eU]at h;cases d:put p b with
  |none=>rw[d]at h;cases h
  |some u=>
   rw[d]at h;cases e:eU ps b with
   |none=>rw[e]at h;cases h
   |some l=>
    rw[e]at h;obtain rfl:u::l=a:=aaD;simp only[fV,kW,Ms p b u hb c.1 d];exact Fq ps b l hb c.2 e
theorem II:∀(ps:List T) (b:List Bd) (a:List T),eU ps b=some a->a.length=ps.length
 |[],b,a,h=>by
  obtain rfl:[]=a:=abp;rfl
 |p::ps,b,a,h=>by
  simp only[eU]at h;cases d:put p b with
  |none=>rw[d]at h;cases h
  |some u=>
   rw[d]at h;cases c:eU ps b with
   |none=>rw[c]at h;cases h
   |some l=>
    rw[c]at h;obtain rfl:u::l=a:=aaD;simp[II ps b l c]
theorem FN:∀(ps:List T) (b:List Bd) (c:List T),(∀n v,look b n=some v->v.fM=v)->(∀p∈ps,p.atom=true/\p.shape=true)->eU ps b=some c->∀x∈c,x.fM=x
 |[],b,c,_,_,h=>by
  obtain rfl:[]=c:=abp;exact λx d=>(eX d).elim
 |p::ps,b,c,hb,i,h=>by
  obtain⟨e,f⟩:=i _ eu;simp only[eU]at h;cases a:put p b with
  |none=>rw[a]at h;cases h
  |some u=>
   rw[a]at h;cases g:eU ps b with
   |none=>rw[g]at h;cases h
   |some l=>
    rw[g]at h;obtain rfl:u::l=c:=aaD;intro x d;rcases bM.1 d with rfl|d
    ·rw[NK e f]at a;unfold val at a;by_cases j:p.aA=2;·rw[aJ j]at a;exact hb _ _ a
     ·rw[aH j]at a;obtain rfl:p=x:=aaG;cases p with
      |mk k s o=>
       simp only[atom,eH,fD]at e;simp only[shape,aJ e,ah,fD]at f;obtain rfl:=dS.1 f.2;simp only[fM,fV];rw[aH aaF]
    ·exact FN ps b l hb (λq m=>i q (aY _ m)) g x d
end
mutual
theorem IK:∀(p:T) (b:List Bd) (u:T),(∀n v,look b n=some v->v.hasVar=false)->put p b=some u->u.hasVar=false
 |.mk k s d,b,u,hb,h=>by
  simp only[put]at h;by_cases a:k=2;·rw[aJ a]at h;exact hb _ _ h
  ·rw[aH a]at h;cases c:eU d b with
   |none=>rw[c]at h;cases h
   |some e=>
    rw[c]at h;obtain rfl:T.mk k s e=u:=aaD;simp only[hasVar,Co d b e hb c,tO];exact aD.2 a
theorem Co:∀(ps:List T) (b:List Bd) (a:List T),(∀n v,look b n=some v->v.hasVar=false)->eU ps b=some a->nR a=false
 |[],b,a,_,h=>by
  obtain rfl:[]=a:=abp;rfl
 |p::ps,b,a,hb,h=>by
  simp only[eU]at h;cases c:put p b with
  |none=>rw[c]at h;cases h
  |some u=>
   rw[c]at h;cases d:eU ps b with
   |none=>rw[d]at h;cases h
   |some l=>
    rw[d]at h;obtain rfl:u::l=a:=aaD;simp only[nR,IK p b u hb c,Co ps b l hb d,tO]
end
mutual
theorem Jq:∀t:T,t.fM.shape=true->t.shape=true
 |.mk k s e=>λh=>by
  simp only[fM,shape]at h;simp only[shape];by_cases f:k=1\/k=2
  ·rw[aJ f]at h⊢;have b:¬k=7:=aar;rw[aH b,iA,bZ]at h;exact h
  ·rw[aH f]at h⊢;simp only[ah]at h⊢;by_cases b:k=7
   ·subst b;rw[aJ rfl]at h;obtain⟨⟨a,d⟩,c⟩:=h;rw[zW (kG _),iA,yH fM EC]at a;refine⟨⟨a,d⟩,tH e ?_⟩;rw[mo]at c⊢;exact λt g=>c t ((kG _).mem_iff.2 g)
   ·rw[aH b]at h;obtain⟨⟨a,d⟩,c⟩:=h;rw[iA,yH fM EC]at a;exact⟨⟨a,d⟩,tH e c⟩
theorem tH:∀l:List T,dV (fV l)=true->dV l=true
 |[]=>λ_=>rfl
 |t::r=>λh=>by
  simp only[dV,fV,ah]at h⊢;exact⟨Jq t h.1,tH r h.2⟩
end
def jJ(b:List Bd)(i:Nat)(x:Bd):Bool:=isName x.var&&x.t.use&&(decide (i=0)||((b[i-1]?).map λy=>less y.var x.var).getD true)
def jO(b:List Bd):Bool:=(List.range b.length).all λi=>((b[i]?).map (jJ b i)).getD true
theorem CR{b:List Bd}(h:jO b=true){i:Nat}(hi:i<b.length):jJ b i b[i]=true:=by
 unfold jO at h;rw[bQ]at h;have:=h i (ed.2 hi);rw[az hi]at this;simpa using this
theorem qI{b:List Bd}(h:jO b=true):∀x∈b,isName x.var=true/\x.t.use=true:=λx a=>by
 obtain⟨i,hi,rfl⟩:=bL a;have:=CR h hi;unfold jJ at this;simp only[ah]at this;exact this.1
theorem Ad(a b:ByteArray):less a b=true<->a.toList<b.toList:=by
 unfold less;rw[TB];exact vU
theorem CG{a b c:ByteArray}(h:less a b=true)(k:less b c=true):less a c=true:=
 (Ad a c).2 (xn ((Ad a b).1 h) ((Ad b c).1 k))
theorem Py{b:List Bd}(h:jO b=true):∀(j i:Nat) (hi:i<b.length) (hj:j<b.length),i<j->less b[i].var b[j].var=true:=by
 intro j;induction j with
 |zero=>intro i _ _ h;omega
 |succ j e=>
  intro i hi hj f;have c:=CR h hj;unfold jJ at c;simp only[ah,eH,bO]at c;have a:less b[j].var b[j+1].var=true:=by
   rcases c.2 with a|a;·omega
   ·rw[jQ,az aaF]at a;simpa using a
  rcases bX i j with d|d;·exact CG (e i hi aar d) a
  ·obtain rfl:i=j:=aar;exact a
theorem pU:∀{b:List Bd} {n:ByteArray} {v:T},look b n=some v->∃x∈b,x.var=n/\x.t=v
 |[],n,v,h=>by cases h
 |x::r,n,v,h=>by
  simp only[look]at h;by_cases e:x.var=n;·rw[aJ e]at h;exact⟨x,eu,e,by simpa using h⟩
  ·rw[aH e]at h;obtain⟨y,a,c⟩:=pU h;exact⟨y,aY _ a,c⟩
def oz(p t:T)(b:List Bd):Option (List Bd):=if p.eZ&&(t.use&&jO b) then FE p t b else none
def jP(p:T)(b:List Bd):Option T:=if p.eZ then (match put p b with
 |some u=>if u.eZ then some u.fM else none
 |none=>none) else none
theorem mr{t:T}(h:t.eZ=true):t.shape=true:=(aN.1 h).2
theorem Vr{t:T}(h:t.use=true):t.fM=t:=((Bz t).1 (aN.1 h).2).2
theorem PS{t:T}(h:t.use=true):t.hasVar=false:=by
 have:=(aN.1 (aN.1 h).1).2;simpa using this
theorem PT{t:T}(a:t.eZ=true)(b:t.hasVar=false)(c:t.fM=t):t.use=true:=by
 unfold use ground;rw[a,b,(Bz t).2 ⟨a,c⟩];rfl
theorem CE{p t:T}{b:List Bd}(h:jP p b=some t):p.eZ=true/\∃u,put p b=some u/\u.eZ=true/\u.fM=t:=by
 unfold jP at h;by_cases a:p.eZ=true
 ·rw[aJ a]at h;cases hu:put p b with
  |none=>rw[hu]at h;cases h
  |some u=>
   rw[hu]at h;by_cases c:u.eZ=true
   ·simp only[aJ c,iw]at h;exact⟨a,u,rfl,c,h⟩
   ·simp[c]at h
 ·rw[aH a]at h;cases h
theorem Mr{p u:T}{b:List Bd}(h:p.eZ=true)(hu:put p b=some u)(a:u.eZ=true):jP p b=some u.fM:=by
 unfold jP;rw[aJ h,hu];simp only[aJ a]
theorem J8{p t:T}{b x:List Bd}(h:oz p t b=some x):p.eZ=true/\t.use=true/\jO b=true/\FE p t b=some x:=by
 unfold oz at h;split at h
 ·rename_i a;simp only[ah]at a;exact⟨a.1,a.2.1,a.2.2,h⟩
 ·cases h
theorem Rn{p t:T}{b:List Bd}(h:jP p b=some t)(hb:jO b=true):t.use=true/\oz p t b=some b:=by
 obtain⟨a,u,c,f,g⟩:=CE h;subst g;have d:∀n v,look b n=some v->v.use=true:=λn v e=>by
  obtain⟨x,i,_,rfl⟩:=pU e;exact(qI hb x i).2
 have hu:u.fM.use=true:=PT (CX u f) (by rw[zU];exact IK p b u (λn v e=>PS (d n v e)) c) (BJ u);refine⟨hu,?_⟩;unfold oz;rw[a,hu,hb];exact Ms p b u (λn v e=>Vr (d n v e)) (mr a) c
end T
end
end Go.Proofs.YtaciciokmpbkkaaGreatDoor
