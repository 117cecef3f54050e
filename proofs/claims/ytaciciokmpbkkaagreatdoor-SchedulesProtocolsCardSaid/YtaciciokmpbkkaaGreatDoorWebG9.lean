import Derived.Test.YtaciciokmpbkkaaGreatDoorWebG8
set_option maxRecDepth 100000
set_option maxHeartbeats 16000000
namespace Go.Proofs.YtaciciokmpbkkaaGreatDoor
section
open Go.RowKit
attribute [local go_sem ↓] Go.wp_at_zero Go.wp_at_succ
theorem FP(g i:Nat)(s:ByteArray)(w:World)(d:kD 188 w g s i true):
 Calls Tryz.prog 143 #[.pointer (some ⟨g,0,none⟩)] w (vK 188 g s w (.error i)):=by
 have c:=CZ.start d;have e:=aa d.lt;clear d;go_enter Tryz.func143,Tryz.ntmps143;go_upto_region 1 with fail;generalize w.alloc _=h at c⊢;obtain⟨x0,j,k⟩:=c.1.cells;have l:=aa c;clear c;go_quiet (fail);have b:=aa (l.o.drewN nq);generalize h.drewN nq=m at b⊢;obtain⟨n,o,p⟩:=b.o.1.cells;obtain⟨f0,f1,f2⟩:=b.o.1.free;have f:=b.o.1.AQ true;have a:=aa (b.o.step e.o (lG (sZ _ _) 2 (.bool true)) f);clear x0 j k f;go_upto_region 3 with fail;generalize m.setCell ⟨g,2,none⟩ (.bool true)=w3 at a⊢;obtain⟨q,r,t⟩:=a.o.2.1.cells;obtain⟨u,x,y⟩:=a.o.2.1.free;clear n o p f0 f1 f2;go_wp2_with fail;obtain⟨d0,d1,d2⟩:=(dX a.o.2.1 (.int .i64 0) (.string ⟨#[]⟩) (.slice none 0 0)).cells;refine aV (v:=.agg #[.int .i64 0,.string ⟨#[]⟩,.slice none 0 0]) (by simp[results,Tryz.results143,go_sem,d0,d1,d2]) rfl ?_;exact a.o.ends e.o ⟨a.o.1,_,_,_,_,_,rfl,rfl,rfl⟩
def Kw(g:Nat)(s:ByteArray)(n:Nat)(kk:Int)(x:Nat)(rk:Except Nat (List T×Nat))(w:World)(gk:Nat)(wr:World):Prop:=
 ∃kv,jy wr x (.int .i64 kk) (.string ⟨#[]⟩) kv/\
  ((∃(fuel m:Nat) (a:List T),gk=fuel+1/\some rk=T.pre a (T.after s.data.toList fuel n a.length m)/\(0<n->a.length<=n)/\m<=s.size/\a.length+fuel<=9000/\bK (only wr (yM x)) (w.heap.size+1) kv a/\(∀b,kv.ownBlock=some b->b≠x)/\
     CZ 188 w g s wr m false)\/
   (∃(m:Nat) (A:Option Addr) (k cap:Nat),rk=.error m/\kv=.slice A k cap/\k<=9001/\CZ 188 w g s wr m true))
def Tj(g:Nat)(s:ByteArray)(n:Nat)(a:List T)(rk:Except Nat (List T×Nat))(gk:Nat)(w4 w5:World)(k0:Int)(nm:ByteArray)(A3:Option Addr)(n3 c3:Nat):Prop:=
 (∃(t:T) (j b:Nat),gk=b+1/\some rk=T.pre (a++[t]) (T.after s.data.toList b n (a.length+1) j)/\j<=s.size/\a.length+1+b<=9000/\kD 188 w5 g s j false/\bI (dP w4.heap.size) w5 (.agg #[.int .i64 k0,.string nm,.slice A3 n3 c3]) t)\/
 (∃m,rk=.error m/\kD 188 w5 g s m true)
theorem Iz{g n x gk g4 cap4 c:Nat}{s:ByteArray}{kk k0:Int}{rk:Except Nat (List T×Nat)}{w w4 w5 w6:World}{kv:Value}{a:List T}{nm:ByteArray}{A3:Option Addr}{n3 c3 j':Nat}{b':Bool}{xs:List Value}
 (I:g<w.heap.size) (av:w.heap.size+1<=x) (B:jy w4 x (.int .i64 kk) (.string ⟨#[]⟩) kv) (J:bK (only w4 (yM x)) (w.heap.size+1) kv a) (C:∀b,kv.ownBlock=some b->b≠x) (D:CZ 188 w g s w4 j' b')
 (K:c=a.length) (L:xs.length=a.length*3) (M:∀i (h:i<a.length),∃u0 u1 u2,xs[i*3]?=some u0/\xs[i*3+1]?=some u1/\xs[i*3+2]?=some u2/\bI (but (w.heap.size+1) kv.ownBlock) (only w4 (yM x)) (.agg #[u0,u1,u2]) a[i])
 (v:0<n->a.length<n) (ax:a.length<=9000) (r:w4.grownBy w5 (some g)) (hF:Tj g s n a rk gk w4 w5 k0 nm A3 n3 c3)
 (N:w6.ownsRow (w.heap.size+1) 29 3 (.slice (some ⟨g4,0,none⟩) (c+1) cap4) (c+1) (xs++[.int .i64 k0,.string nm,.slice A3 n3 c3]))
 (d:(w5.alloc (.cells #[.int .i64 k0,.string nm,.slice A3 n3 c3] 29)).grownBy w6 kv.ownBlock) (E:kv.ownBlock=some g4\/g4=w5.heap.size+1):
 Kw g s n kk x rk w gk (w6.setCell ⟨x,2,none⟩ (.slice (some ⟨g4,0,none⟩) (c+1) cap4)):=by
 subst K;have o:=ae w5 (.cells #[.int .i64 k0,.string nm,.slice A3 n3 c3] 29);have F:=aK w5 (.cells #[.int .i64 k0,.string nm,.slice A3 n3 c3] 29);generalize w5.alloc _=y at o F d;have z5:=r.size;have z6:=d.size;have zx:=B.lt;have u:∀b,kv.ownBlock=some b->w.heap.size+1<=b/\b<w4.heap.size:=λb hb=>(by have:=J.block b hb;rw[pz]at this;exact this);have O:kv.ownBlock≠some g:=λe=>(aaz ((u g e).1));have P:kv.ownBlock≠some w.heap.size:=λe=>(aaz ((u _ e).1));have Q:kv.ownBlock≠some x:=λe=>C x e rfl;have R:jy w6 x (.int .i64 kk) (.string ⟨#[]⟩) kv:=((B.grown r (λe=>by have S:=aB e;omega)).ag o).grown d Q;have ay:g4≠x:=by
  rcases E with h|h;·exact C g4 h
  ·omega
 have G:∀{m b},kD 188 w5 g s m b->CZ 188 w g s (w6.setCell ⟨x,2,none⟩ (.slice (some ⟨g4,0,none⟩) (a.length+1) cap4)) m b:=λU=>by
  have f:=(D.step I r U).ag o;refine⟨?_,?_,?_,?_⟩;·exact(aL _ _ _ _ (by show g≠x;omega)).t (f.1.grown d O)
  ·exact(f.2.1.grown d P).setOther (by show w.heap.size≠x;omega) _
  ·have p:=KU f.2.2.1 d (λb hb=>aaz ((u b hb).1));exact⟨p.os,p.tape,p.output,by simp[World.setCell];exact p.size,λk V v=>by rw[aL _ _ _ _ (by show k≠x;omega)];exact p.block k V v⟩
  ·have:=f.2.2.2;simp[World.setCell];omega
 refine⟨_,R.AQ _,?_⟩;rcases hF with⟨t,j,W,z,A,X,Y,f,Z⟩|⟨m,z,A⟩
 ·left;refine⟨W,j,a++[t],z,by simpa using A,λh=>by have:=v h;simp;omega,X,by simpa using Y,?_,λb hb=>?_,G f⟩
  ·have aa:(only w4 (yM x)).grownBy (only y (yM x)) (some g):=yQ (pR r (jr _ o)) _;have af:∀b,w.heap.size+1<=b->b<w4.heap.size->(only y (yM x)).heap[b]?=(only w4 (yM x)).heap[b]?:=λb hb l=>aa.block b (by rw[pz];exact l) (λe=>by have S:=aB e;omega);have hs:=bK.snoc (w:=only y (yM x)) (w':=only w6 (yM x)) (base:=w.heap.size+1) (H:=w5.heap.size+1) (t:=t) (λi hi=>by
    obtain⟨a0,a1,a2,b0,b1,b2,b3⟩:=M i hi;exact⟨a0,a1,a2,b0,b1,b2,b3.aR λb hb l=>⟨hb,af b (jd.1 hb).1 (by rw[pz]at l;exact l)⟩⟩) L
    (Z.aR λb hb l=>⟨jd.2 ⟨aaA (ak hb) D.2.2.2,λe=>aaA ((u b e).2) (ak hb)⟩,by
      have az:=ak hb;have ah:yM x b=true:=DT.2 aar;rw[pW,o.block b l];simp only[ah,rD];cases w5.heap[b]?<;>rfl⟩)
    (R9 N _ (λq hq=>by have e:=aB hq;exact DT.2 (by show q≠x;have:g4=q:=e;omega))) (yQ d _) E (by rw[pz,F])
   exact hs.aR λb _ _=>UH w6 _ _ _ (RZ x) b
  ·have e:g4=b:=aB hb;omega
 ·right;exact⟨m,_,_,_,z,rfl,aar,G A⟩
theorem ac8{p:Prop}(h:p:=by
 obtain⟨dE,bJ⟩:=aay (T.tq s.data.toList [44,32] m);have aW:=aa bJ;clear bJ;go_upto_region 2 with fail;go_quiet (fail);obtain⟨y,G,H⟩:=aac (aS.o.drewN nq) (show jy (wr.drewN nq) (p.heap.size+1) (.int .i64 kk) (.string ⟨#[]⟩) kv from aT.o) ((show bK (only (wr.drewN nq) (yM (p.heap.size+1))) (w.heap.size+1) kv a from bC.o.aR λ_ _ _=>rfl));generalize wr.drewN nq=bE at y G H⊢;go_wp2_with fail;refine(NN g m s ⟨#[44,32]⟩ _ y.o.1 (aaz HM.o) hs aat).m ?_;rintro e B ⟨rfl,z,d⟩;rw[show(⟨#[44,32]⟩:ByteArray).data.toList=[44,32]from rfl,aW.o]at d;have D:=G.o.grown z (λe=>by have S:=aB e;have:=o.o;have:=az.o;omega);have av:bK (only B (yM (p.heap.size+1))) (w.heap.size+1) kv a:=H.o.aR λb hb hl=>(yQ z _).block b hl (λe=>by have S:=aB e;have:=o.o;omega);obtain⟨L,M,aF,dF,dG⟩:=av.shape;obtain⟨xs,aX,bL⟩:=av.owns;have bM:=Ga aX aat;have dH:∃(K:Nat) (b4:Bool),CZ 188 w g s B K b4/\Calls Tryz.prog 143 #[.pointer (some ⟨g,0,none⟩)] B.drew λe w'=>∃(k0:Int) (nm:ByteArray) (A3:Option Addr) (n3 c3:Nat),e=.returned (.agg #[.int .i64 k0,.string nm,.slice A3 n3 c3])/\B.grownBy w' (some g)/\Tj g s n a rk fuel B w' k0 nm A3 n3 c3:=by
  have C:=bD.o;unfold T.after at C;rw[aH eY.o,aW.o]at C;rcases dE with Z|K
  ·have aG:rk=.error Z:=(by simpa[T.pre]using C);have P:=y.o.step o.o z d;refine⟨Z,true,P,(FP g Z s B.drew d).m ?_⟩;rintro e w' ⟨l,N,k0,nm,A3,n3,c3,O⟩;exact⟨k0,nm,A3,n3,c3,O,⟨l.os,l.tape,l.output,l.size,l.block⟩,.inr ⟨Z,aG,N⟩⟩
  ·have P:=y.o.step o.o z d;replace C:some rk=T.pre a (T.lg s.data.toList fuel n a.length K):=C;have dI:K<=s.size:=abI;cases bN:fuel with
   |zero=>rw[bN]at C;simp[T.lg,T.pre]at C
   |succ fu=>
    rw[bN]at C;cases R:T.oP s.data.toList fu K with
    |none=>simp[T.lg,R,T.pre]at C
    |some Q=>
     refine⟨K,false,P,(HT.o fu (aaz df.o) g K s B.drew Q d dI hs R).m ?_⟩;rintro e w' ⟨l,ay⟩;rcases Q with e5|⟨t,j5⟩
     ·obtain⟨N,k0,nm,A3,n3,c3,O⟩:=ay;exact⟨k0,nm,A3,n3,c3,O,⟨l.os,l.tape,l.output,l.size,l.block⟩,.inr ⟨e5,by simpa[T.lg,R,T.pre]using C,N⟩⟩
     ·obtain⟨N,A3,c3,O,aP⟩:=ay;have bO:=((T.Sj s.data.toList fu).1 _ _ _ R).2.1;rw[T.mq]at bO;refine⟨_,_,_,_,_,O,⟨l.os,l.tape,l.output,l.size,l.block⟩,.inl ⟨t,j5,fu,rfl,?_,bO,aaz aI.o,N,aP⟩⟩;rw[T.AB _ _ _ _ _ _ _ R,T.NI]at C;simpa using C
 obtain⟨K,b4,P,bQ⟩:=dH;have dJ:=aa bQ;have bR:∀b,kv.ownBlock=some b->w.heap.size+1<=b/\b<B.heap.size:=λb hb=>abJ;have dK:=aa (λ(w5 w6:World) (g4 cap4:Nat) (k0:Int) (nm:ByteArray) (A3:Option Addr) (n3 c3:Nat)=>Iz (g:=g) (n:=n) (x:=p.heap.size+1) (gk:=fuel) (g4:=g4) (cap4:=cap4) (c:=a.length) (kk:=kk) (k0:=k0) (nm:=nm) (A3:=A3) (n3:=n3) (c3:=c3) (w5:=w5) (w6:=w6) (rk:=rk) o.o az.o D av cO.o P rfl aX.1 bL dD.o (aaz aI.o));obtain⟨dL,dM,bS,dN⟩:=aad bM bR D P;have dO:=aa (show a.length+1<=maxLen by have:=aI.o;unfold maxLen;omega);have dR:=aa (show(a.length+1)*48<=140737488355328 from aaz aI.o);obtain⟨y0,y1,y2⟩:=D.cells;have dS:=aa (show kv.ownBlock≠some (p.heap.size+1)from λe=>cO.o _ e rfl);have bT:=aa (show some g≠some (p.heap.size+1)from λe=>by have S:=aB e;have:=o.o;have:=az.o;omega);clear z d D av aF dF dG aX bL bM bQ bR P x0 x1 x2 bA bB bu;go_upto_region 4 with fail;go_region_law (first|(refine dW _ aav _ _ _ aav (w.heap.size+1) 29 i0 _ 3 48 cB eB eF eG eH rfl aar _ a.length _ aav dV.o ⟨_,0,none⟩ 1 1 _ aav aav (cZ (bP _ _)) dY.o aar dO.o dR.o dZ.o _ rfl ?_;intro g4 cap4 w6 bU aY bV d9;have aZ:=((bS.o.grown Y bT.o).ag (ae w5 _)).grown aY dS.o;have c6:=aZ.cells.2.2;have f6:=aZ.free.2.2)|(go_simp;go_at_call 143;refine dJ.o.m ?_;rintro e w5 ⟨k0,nm,A3,n3,c3,rfl,Y,bY⟩;have z2:=(bS.o.grown Y bT.o).cells.2.2;have ed:=af (ae w5 (.cells #[.int .i64 k0,.string nm,.slice A3 n3 c3] 29)) z2;have dV:=aa ((dL.o.kept Y abK).alloc (.cells #[.int .i64 k0,.string nm,.slice A3 n3 c3] 29));have dY:=aa (show ∀u∈[Value.int .i64 k0,.string nm,.slice A3 n3 c3],u.oneCell'=true from λu hu=>by simp at hu;rcases hu with rfl|rfl|rfl<;>rfl);have dZ:=aa (show w.heap.size+1<=(w5.alloc (.cells #[.int .i64 k0,.string nm,.slice A3 n3 c3] 29)).heap.size by rw[aK];have:=Y.size;have:=dN.o.2.2.2;omega)));all_goals
  have bZ:=dK.o w5 w6 g4 cap4 k0 nm A3 n3 c3 Y bY bU aY (bV.imp id (λh=>h.t (aK _ _)));have ek:=aa bZ;clear bZ Y bY bU aY bV d9 aZ c6 f6 z2 ed;go_wp2_with fail
  go_roundg fuel
  case measure=>omega
  case rel=>exact⟨ek.o,aaz df.o⟩):p:=h
theorem ac9{p:Prop}(h:p:=by
 go_upto_region 2 with fail;go_quiet (fail);obtain⟨y,G,H⟩:=aac (aS.o.drewN nq) (show jy (wr.drewN nq) (p.heap.size+1) (.int .i64 kk) (.string ⟨#[]⟩) kv from aT.o) (show bK (wr.drewN nq) (w.heap.size+1) kv a from bC.o.Jd.aR λ_ _ _=>rfl);generalize wr.drewN nq=bE at y G H⊢;obtain⟨L,M,aF,_,_⟩:=H.o.shape;have aG:rk=.ok (a,m):=abG;have bF:=aa (show some r=T.close s.data.toList kk E (some rk)from cz.o);subst aG;subst aF;have bG:=aa (H.o.term kk ⟨#[]⟩ dh aat);clear x0 x1 x2 bA bB bu;go_wp2_with fail;refine(NN g m s q _ y.o.1 (aaz HM.o) hs abH).m ?_;rintro e B ⟨rfl,z,d⟩;have D:=G.o.grown z (λe=>by have S:=aB e;have:=o.o;have:=az.o;omega);obtain⟨y0,y1,y2⟩:=D.cells;obtain⟨I,b6,U,aL⟩:∃I b6,CZ 188 w g s B I b6/\Dc 188 w g s B (.int .i64 kk) (.string ⟨#[]⟩) (.slice L a.length M) r:=by
  have J:=bF.o;rw[aO.o,show(⟨#[E]⟩:ByteArray).data.toList=[E]from rfl]at d;simp only[T.close]at J;cases hn:T.tq s.data.toList [E] m with
  |error e6=>
   rw[hn]at J d;have X:r=.error e6:=abB;subst X;exact⟨e6,true,y.o.step o.o z d,d,_,_,_,_,_,rfl,rfl,rfl⟩
  |ok I=>
   rw[hn]at J d;have X:r=.ok (.mk kk ⟨#[]⟩ a,I):=abB;subst X;exact⟨I,false,y.o.step o.o z d,d,L,M,rfl,rfl,rfl,bG.o.aR λb hb hl=>⟨hb,z.block b hl (λe=>by have S:=aB e;have:=o.o;have:=ak hb;omega)⟩⟩
 obtain⟨z0,z1,z2⟩:=U.2.1.cells;obtain⟨dA,dB,dC⟩:=U.2.1.free;obtain⟨aN,bH⟩:=aab U aL;clear z d D U aL;go_wp2_with fail;obtain⟨d0,d1,d2⟩:=(dX aN.o.2.1 (.int .i64 kk) (.string ⟨#[]⟩) (.slice L a.length M)).cells;refine aV (v:=.agg #[.int .i64 kk,.string ⟨#[]⟩,.slice L a.length M]) (by simp[results,Tryz.results179,go_sem,d0,d1,d2]) rfl ?_;exact aN.o.ends o.o bH.o):p:=h
theorem U4(f:Nat)(hf:f<=8998)(ht:∀f',f'<=f->∀(g i:Nat) (s:ByteArray) (w:World) (r:Except Nat (T×Nat)),kD 188 w g s i false->i<=s.size->s.size<=4096->T.oP s.data.toList f' i=some r->
 Calls Tryz.prog 143 #[.pointer (some ⟨g,0,none⟩)] w (vK 188 g s w r))
 (g i n:Nat) (kk:Int) (E:UInt8) (q:ByteArray) (eu:q=⟨#[E]⟩) (s:ByteArray) (w:World) (r:Except Nat (T×Nat)) (hp:kD 188 w g s i false) (hi:i<=s.size) (hs:s.size<=4096)
 (dh: -9223372036854775808<=kk/\kk<=9223372036854775807) (hr:T.close s.data.toList kk E (T.lg s.data.toList (f+1) n 0 i)=some r):
 Calls Tryz.prog 179 #[.pointer (some ⟨g,0,none⟩),.int .i64 kk,.int .i64 n,.string q] w (vK 188 g s w r):=by
 have dm:=CZ.start hp;obtain⟨o,HT,aO⟩:=aac hp.lt ht eu;obtain⟨i0,eB,eF,eG,eH⟩:=dU Tryz.uN;obtain⟨rk,F⟩:∃rk,T.lg s.data.toList (f+1) n 0 i=some rk:=by
  cases h2:T.lg s.data.toList (f+1) n 0 i with
  |none=>rw[h2]at hr;simp[T.close]at hr
  |some rk=>exact⟨rk,rfl⟩
 obtain⟨Q,bf⟩:∃Q,T.oP s.data.toList f i=some Q:=by
  cases h2:T.oP s.data.toList f i with
  |none=>simp[T.lg,h2]at F
  |some Q=>exact⟨Q,rfl⟩
 have cz:=aa (show some r=T.close s.data.toList kk E (some rk) by rw[<-F];exact hr.symm);obtain⟨eO,dn⟩:=aab F bf;clear hp ht eu hr F bf;go_enter Tryz.func179,Tryz.ntmps179;go_upto_region 1 with fail;generalize w.alloc _=w1 at dm⊢;have bg:=aa dm;clear dm;go_wp2_with fail;refine(HT.o f (ax _) g i s w1 Q bg.o.1 hi hs dn.o).m ?_;rintro e p ⟨eP,ay⟩;have fe:∃(k0:Int) (nm:ByteArray) (A3:Option Addr) (n3 c3:Nat),e=.returned (.agg #[.int .i64 k0,.string nm,.slice A3 n3 c3])/\
  ((∃t j,Q=.ok (t,j)/\kD 188 p g s j false/\bI (dP w1.heap.size) p (.agg #[.int .i64 k0,.string nm,.slice A3 n3 c3]) t)\/(∃j,Q=.error j/\kD 188 p g s j true)):=by
  rcases Q with Z|⟨t,j⟩
  ·obtain⟨N,k0,nm,A3,n3,c3,O⟩:=ay;exact⟨k0,nm,A3,n3,c3,O,.inr ⟨Z,rfl,N⟩⟩
  ·obtain⟨N,A3,c3,O,aP⟩:=ay;exact⟨_,_,_,_,_,O,.inl ⟨t,j,rfl,N,aP⟩⟩
 obtain⟨k0,nm,A3,n3,c3,rfl,eQ⟩:=fe;obtain⟨dw,V,bz,eT⟩:=oq p (.int .i64 k0) (.string nm) (.slice A3 n3 c3) (.int .i64 kk) (.string ⟨#[]⟩) (.slice (some ⟨p.heap.size,0,none⟩) 1 1);obtain⟨cK,fo⟩:=aab eP eQ;clear eP ay eQ;go_wp2_with fail;generalize(p.alloc (.cells #[.int .i64 k0,.string nm,.slice A3 n3 c3] 29)).alloc (.cells #[.int .i64 kk,.string ⟨#[]⟩,.slice (some ⟨p.heap.size,0,none⟩) 1 1] 29)=w3 at dw V bz eT⊢;have az:=aa (show w.heap.size+1<=p.heap.size+1 from aaA cK.o.size bg.o.2.2.2);have fq:w.heap.size+1<=p.heap.size:=(aaA cK.o.size bg.o.2.2.2);have eU:Kw g s n kk (p.heap.size+1) rk w (f+1) w3:=by
  refine⟨_,V,?_⟩;rcases fo.o with⟨t,j,bf,dx,aP⟩|⟨j,bf,dx⟩
  ·left;have R:T.oP s.data.toList f i=some (.ok (t,j)):=(by rw[<-bf];exact dn.o);have hj:=((T.Sj s.data.toList f).1 _ _ _ R).2.1;rw[T.mq]at hj;have F:=eO.o;rw[T.AB _ _ _ _ _ _ _ R]at F;refine⟨f,j,[t],rfl,?_,λh=>h,hj,by simp;omega,?_,λb hb=>?_,(bg.o.step o.o cK.o dx).ag bz⟩
   ·rw[<-F];cases T.after s.data.toList f n (0+1) j with
    |none=>rfl
    |some v=>rcases v with _|⟨ks,j⟩<;>rfl
   ·refine .inr ⟨p.heap.size,1,rfl,#[.int .i64 k0,.string nm,.slice A3 n3 c3],?_,rfl,aau,aat,aar,λi hi=>?_⟩;·rw[pW,show w3.heap[p.heap.size]?=_ from dw,jL,aJ (DT.2 aar)]
    ·obtain rfl:i=0:=aaP;refine⟨_,_,_,rfl,rfl,rfl,aP.aR λb hb hl=>⟨jd.2 ⟨aaA (ak hb) bg.o.2.2.2,λe=>by have S:=aB e;omega⟩,?_⟩⟩;have fw:yM (p.heap.size+1) b=true:=DT.2 aar;rw[pW,bz.block b hl];simp only[fw,rD];cases p.heap[b]?<;>rfl
   ·have e:p.heap.size=b:=aB hb;omega
  ·right;have F:=eO.o;rw[show T.lg s.data.toList (f+1) n 0 i=some (.error j) by simp only[T.lg,dn.o,bf]]at F;exact⟨j,_,1,_,by simpa using F.symm,rfl,aar,(bg.o.step o.o cK.o dx).ag bz⟩
 have fA:=aa eU;clear dw V bz eT fq eU
 go_loopg [] (f+1) (λgk wr=>Kw g s n kk (p.heap.size+1) rk w gk wr/\gk<=f+1)
 case atStart=>exact⟨fA.o,ax _⟩
 case round=>
  obtain⟨⟨kv,V,fB⟩,fF⟩:=hrel;rcases fB with⟨fuel,m,a,rfl,F,bi,hm,bn,aQ,bq,ah⟩|⟨m,A,k,cap,rfl,rfl,fG,ah⟩
  ·obtain⟨x0,x1,x2⟩:=ah.1.cells;obtain⟨bA,bB,bu⟩:=V.cells;obtain⟨fH,fI,bv,fJ,fK⟩:=aQ.shape;rw[bv]at bu;obtain⟨aS,aT,bC,cO,HM,aI,bD⟩:=aag ah V aQ bq hm bn F;have df:=aa (show fuel<=f by omega);have m0:(0:Int)<=(m:Int):=aar;by_cases aU:(0<n/\a.length=n)\/(n=0/\T.now s.data.toList m 44=false)
   ·have dz:=aa aU;rcases aU with⟨aA,eX⟩|⟨aA,aC⟩
    ·have fM:=aa eX;have n1:((n:Int)==0)=false:=aaI;have l1:decide ((a.length:Int)<(n:Int))=false:=cu aar;have l2:decide (a.length<n)=false:=cu aar;clear ah V aQ bq hm bn F bi bv eX aA;exact ac9
    ·have fC:=aa aA;have n1:((n:Int)==0)=true:=(by rw[fD];omega);have l1:decide ((a.length:Int)<(n:Int))=false:=cu aar;have l2:decide (a.length<n)=false:=cu aar;clear aA;rcases bX m s.size with g1|g1
     ·rw[T.CP s m g1]at aC;obtain⟨e1,e2⟩:=Ol aC;have e3:((s[m].toNat:Int)==44)=false:=e1;have a1:(m:Int)<(s.size:Int):=aar;clear ah V aQ bq hm bn F bi bv aC e1 e2;exact ac9
     ·have a1:decide ((m:Int)<(s.size:Int))=false:=cu aar;have a2:decide (m<s.size)=false:=cu aar;have a3:(s.size:Int)<=(m:Int):=aar;clear ah V aQ bq hm bn F bi bv aC;exact ac9
   ·have eY:=aa aU;have dD:=aa (show 0<n->a.length<n from λh=>by have:=bi h;have:a.length≠n:=λe=>aU (.inl ⟨h,e⟩);omega);by_cases aA:n=0
    ·have fC:=aa aA;have n1:((n:Int)==0)=true:=(by rw[fD];omega);have l1:decide ((a.length:Int)<(n:Int))=false:=cu aar;have l2:decide (a.length<n)=false:=cu aar;have aC:T.now s.data.toList m 44=true:=by
      rcases bW (T.now s.data.toList m 44)with h|h;·exact h
      ·exact absurd (.inr ⟨aA,h⟩) aU
     have g1:m<s.size:=(by have:=T.Lb aC;rw[T.mq]at this;exact this);rw[T.CP s m g1]at aC;obtain⟨e1,e2⟩:=QU aC;have e3:((s[m].toNat:Int)==44)=true:=e1;have a1:(m:Int)<(s.size:Int):=aar;clear ah V aQ bq hm bn F bi bv aC aU e1 e2 aA;exact ac8
    ·have fE:=dD.o aar;have n1:((n:Int)==0)=false:=aaI;have l0:(a.length:Int)<(n:Int):=aar;have l1:decide ((a.length:Int)<(n:Int))=true:=aM aar;have l2:decide (a.length<n)=true:=aM aar;clear ah V aQ bq hm bn F bi bv aU aA fE;exact ac8
  ·obtain⟨x0,x1,x2⟩:=ah.1.cells;obtain⟨aS,aT⟩:=aab ah V;have X:r=.error m:=(by have h:=cz.o;simpa[T.close]using h);subst X;clear ah V;go_upto_region 2 with fail;go_quiet (fail);obtain⟨y,G⟩:=aab (aS.o.drewN nq) (show jy (wr.drewN nq) (p.heap.size+1) (.int .i64 kk) (.string ⟨#[]⟩) (.slice A k cap)from aT.o);generalize wr.drewN nq=bE at y G⊢;clear x0 x1 x2;have eZ:=aa (λW (h:kD 188 W g s m true)=>NP g m s E [] W h);rw[show(⟨[E].toArray⟩:ByteArray)=q from aO.o.symm]at eZ;go_wp2_with fail;refine(eZ.o _ y.o.1).m ?_;rintro e B ⟨rfl,rfl⟩;obtain⟨y0,y1,y2⟩:=G.o.cells;obtain⟨z0,z1,z2⟩:=y.o.2.1.cells;obtain⟨dA,dB,dC⟩:=y.o.2.1.free;go_wp2_with fail;obtain⟨d0,d1,d2⟩:=(dX y.o.2.1 (.int .i64 kk) (.string ⟨#[]⟩) (.slice A k cap)).cells;refine aV (v:=.agg #[.int .i64 kk,.string ⟨#[]⟩,.slice A k cap]) (by simp[results,Tryz.results179,go_sem,d0,d1,d2]) rfl ?_;exact y.o.ends o.o ⟨y.o.1,_,_,_,_,_,rfl,rfl,rfl⟩
end
section
open Go.RowKit
theorem vK.val{ty:TypeId}{w W w5:World}{g j:Nat}{b:Bool}{s:ByteArray}{r:Except Nat (T×Nat)}{e:Ending}(h:vK ty g s W r e w5)(c:CZ ty w g s W j b)(f:g<w.heap.size):
 ∃(k0:Int) (nm:ByteArray) (A3:Option Addr) (n3 c3 l:Nat) (m:Bool),e=.returned (.agg #[.int .i64 k0,.string nm,.slice A3 n3 c3])/\CZ ty w g s w5 l m/\Dc ty w g s w5 (.int .i64 k0) (.string nm) (.slice A3 n3 c3) r:=by
 obtain⟨i,k⟩:=h;rcases r with n|⟨t,o⟩
 ·obtain⟨a,k0,nm,A3,n3,c3,d⟩:=k;exact⟨k0,nm,A3,n3,c3,n,true,d,c.step f i a,a,_,_,_,_,_,rfl,rfl,rfl⟩
 ·obtain⟨a,A3,c3,d,p⟩:=k;exact⟨_,_,_,_,_,o,false,d,c.step f i a,a,A3,c3,rfl,rfl,rfl,p.aR λb hb _=>⟨by have:=ak hb;have:=c.2.2.2;exact aM aar,rfl⟩⟩
theorem CZ.Jp{ty:TypeId}{w W:World}{g j:Nat}{b:Bool}{s:ByteArray}(h:CZ ty w g s W j b)(a:g<w.heap.size)(v:Int)(c:v=((j+1:Nat):Int)):CZ ty w g s (W.setCell ⟨g,1,none⟩ (.int .i64 v)) (j+1) b:=
 h.step a (lG (sZ _ _) 1 _) (h.1.Jp (j+1) v c)
theorem ada{p:Prop}(h:p:=by
 go_upto_region 13 with fail;go_quiet (fail);have a:=aa (d.o.drewN nq);generalize I.drewN nq=M at a⊢;obtain⟨E,F,G⟩:=a.o.2.1.cells;obtain⟨q,N,O⟩:=a.o.2.1.free;go_wp2_with fail;obtain⟨d0,d1,d2⟩:=(dX a.o.2.1 (.int .i64 1) (.string nm) (.slice none 0 0)).cells;refine aV (v:=.agg #[.int .i64 1,.string nm,.slice none 0 0]) (by simp[results,Tryz.results143,go_sem,d0,d1,d2]) rfl ?_;exact a.o.ends j.o ⟨a.o.1,none,0,rfl,rfl,rfl,tX _ _ 1 nm aat abM⟩):p:=h
theorem Zm:∀(f:Nat),f<=8998->∀(g i:Nat) (s:ByteArray) (w:World) (r:Except Nat (T×Nat)),kD 188 w g s i false->i<=s.size->s.size<=4096->T.oP s.data.toList f i=some r->
 Calls Tryz.prog 143 #[.pointer (some ⟨g,0,none⟩)] w (vK 188 g s w r):=by
 intro f;induction f using Nat.strongRecOn with
 |_ f ih=>
 intro hf g i s w r hp hi Z A;cases f with
 |zero=>cases A
 |succ f=>
 have ae:=CZ.start hp;have j:=aa hp.lt;have aC:=aa (λl (h:l<f+1)=>ih l h aar);clear hp ih;simp only[T.oP]at A;have i0:(0:Int)<=(i:Int):=aar;go_enter Tryz.func143,Tryz.ntmps143;go_upto_region 1 with fail;generalize w.alloc _=w1 at ae⊢;obtain⟨x0,o,p⟩:=ae.1.cells;have aF:=aa ae;clear ae;rcases bX i s.size with u|aG;rotate_left
 ·have y:r=.error i:=by
   rw[aH (by rw[T.DU s i aG];decide),aH (by rw[T.DU s i aG];decide)]at A;have n:T.gL s.data.toList i=i:=(by unfold T.gL T.nK;rw[aH (by rw[T.mq];omega)]);rw[aJ n]at A;simpa using A.symm
  subst y;have a1:(s.size:Int)<=(i:Int):=aar;have a2:decide ((s.size:Int)<=(i:Int))=true:=aM aar;have a3:decide (s.size<=i)=true:=aM aar;clear A;go_quiet (fail);have B:=aa (aF.o.drewN nq);generalize w1.drewN nq=w2 at B⊢;obtain⟨y0,y1,y2⟩:=B.o.1.cells;obtain⟨f0,f1,f2⟩:=B.o.1.free;have aI:=B.o.1.AQ true;have m:=aa (B.o.step j.o (lG (sZ _ _) 2 (.bool true)) aI);clear x0 o p aI;go_upto_region 3 with fail;generalize w2.setCell ⟨g,2,none⟩ (.bool true)=w3 at m⊢;obtain⟨E,F,G⟩:=m.o.2.1.cells;obtain⟨q,N,O⟩:=m.o.2.1.free;clear y0 y1 y2 f0 f1 f2;go_wp2_with fail;obtain⟨d0,d1,d2⟩:=(dX m.o.2.1 (.int .i64 0) (.string ⟨#[]⟩) (.slice none 0 0)).cells;refine aV (v:=.agg #[.int .i64 0,.string ⟨#[]⟩,.slice none 0 0]) (by simp[results,Tryz.results143,go_sem,d0,d1,d2]) rfl ?_;exact m.o.ends j.o ⟨m.o.1,_,_,_,_,_,rfl,rfl,rfl⟩
 have a1:(i:Int)<(s.size:Int):=aar;have a2:decide ((s.size:Int)<=(i:Int))=false:=cu aar;have a3:decide (s.size<=i)=false:=cu aar;rw[T.CP s i u,T.CP s i u]at A;go_quiet (fail);have B:=aa (aF.o.drewN nq);generalize w1.drewN nq=w2 at B⊢;clear x0 o p;obtain⟨x0,o,p⟩:=B.o.1.cells;go_upto_region 4 with fail;go_quiet (fail);have m:=aa (B.o.drewN nq);generalize w2.drewN nq=w3 at m⊢;clear x0 o p;obtain⟨x0,o,p⟩:=m.o.1.cells;obtain⟨f0,f1,f2⟩:=m.o.1.free;have R:=aa A;clear A;rcases bW (s[i]'u==60)with C|C
 ·have c:T.close s.data.toList 3 62 (T.lg s.data.toList f 2 0 (i+1))=some r:=(by have h:=R.o;rw[aJ C]at h;exact h);have ah:=fD.1 C;have e1:(((s[i]'u).toNat:Int)==63)=false:=(by rw[ah];rfl);have e2:(((s[i]'u).toNat:Int)==60)=true:=(by rw[ah];rfl);obtain⟨l,ak,P⟩:∃l,f=l+1/\T.close s.data.toList 3 62 (T.lg s.data.toList (l+1) 2 0 (i+1))=some r:=by
   cases f with
   |zero=>simp[T.lg,T.close]at c
   |succ l=>exact⟨l,rfl,c⟩
  subst ak;have aP:=aa P;have H:=aa (m.o.Jp j.o ((i:Int)+1) abz);have av:=aa (show i+1<=s.size from u);clear c P C ah;go_wp2_with fail;generalize w3.setCell ⟨g,1,none⟩ (.int .i64 ((i:Int)+1))=w4 at H⊢;refine(U4 l aar (λax aQ=>aC.o ax aar) g (i+1) 2 3 62 ⟨#[62]⟩ rfl s w4 r H.o.1 av.o Z aat aP.o).m ?_;rintro e I S;obtain⟨q,nm,U,V,c3,j5,Q,rfl,af,W⟩:=S.val H.o j.o;obtain⟨E,F,G⟩:=af.2.1.cells;obtain⟨aR,aS,aT⟩:=af.2.1.free;obtain⟨d,ay⟩:=aab af W;clear S af W x0 o p f0 f1 f2;go_wp2_with fail;obtain⟨d0,d1,d2⟩:=(dX d.o.2.1 (.int .i64 q) (.string nm) (.slice U V c3)).cells;refine aV (v:=.agg #[.int .i64 q,.string nm,.slice U V c3]) (by simp[results,Tryz.results143,go_sem,d0,d1,d2]) rfl ?_;exact d.o.ends j.o ay.o
 obtain⟨az,_⟩:=Ol C;have bg:(((s[i]'u).toNat:Int)==60)=false:=az;rcases bW (s[i]'u==63)with J|J
 ·have c:(if T.gL s.data.toList (i+1)=i+1 then some (.error (i+1)) else some (.ok (.mk 2 (T.lU s.data.toList (i+1) (T.gL s.data.toList (i+1))) [],T.gL s.data.toList (i+1))))=some r:=by
   have h:=R.o;rw[aH (by rw[C];decide),aJ J]at h;exact h
  obtain⟨X,_⟩:=QU J;have aU:(((s[i]'u).toNat:Int)==63)=true:=X;have K:=aa c;have H:=aa (m.o.Jp j.o ((i:Int)+1) abz);have av:=aa (show i+1<=s.size from u);clear c C J az X;go_wp2_with fail;generalize w3.setCell ⟨g,1,none⟩ (.int .i64 ((i:Int)+1))=w4 at H⊢;refine(U5 g (i+1) s _ H.o.1 av.o Z).m ?_;rintro e I ⟨D,aA⟩;clear x0 o p f0 f1 f2;rcases aA with⟨n,rfl,x⟩|⟨n,rfl,x⟩
  ·have y:r=.error (i+1):=abL;subst y;have d:=aa (H.o.step j.o D x);obtain⟨E,F,G⟩:=d.o.2.1.cells;obtain⟨q,N,O⟩:=d.o.2.1.free;clear D x n;go_wp2_with fail;obtain⟨d0,d1,d2⟩:=(dX d.o.2.1 (.int .i64 2) (.string ⟨#[]⟩) (.slice none 0 0)).cells;refine aV (v:=.agg #[.int .i64 2,.string ⟨#[]⟩,.slice none 0 0]) (by simp[results,Tryz.results143,go_sem,d0,d1,d2]) rfl ?_;exact d.o.ends j.o ⟨d.o.1,_,_,_,_,_,rfl,rfl,rfl⟩
  ·have y:r=.ok (.mk 2 (T.lU s.data.toList (i+1) (T.gL s.data.toList (i+1))) [],T.gL s.data.toList (i+1)):=(by have h:=K.o;rw[aH n]at h;simpa using h.symm);have d:=aa (H.o.step j.o D x);obtain⟨E,F,G⟩:=d.o.2.1.cells;obtain⟨q,N,O⟩:=d.o.2.1.free;have L:=aa (T.Ip s.data.toList (i+1));clear D x n R K;generalize T.lU s.data.toList (i+1) (T.gL s.data.toList (i+1))=nm at L y⊢;subst y;go_wp2_with fail;obtain⟨d0,d1,d2⟩:=(dX d.o.2.1 (.int .i64 2) (.string nm) (.slice none 0 0)).cells;refine aV (v:=.agg #[.int .i64 2,.string nm,.slice none 0 0]) (by simp[results,Tryz.results143,go_sem,d0,d1,d2]) rfl ?_;exact d.o.ends j.o ⟨d.o.1,none,0,rfl,rfl,rfl,tX _ _ 2 nm aat abM⟩
 obtain⟨X,_⟩:=Ol J;have aU:(((s[i]'u).toNat:Int)==63)=false:=X;have c:=R.o;rw[aH (by rw[C];decide),aH (by rw[J];decide)]at c;have K:=aa c;clear c C J az X;go_wp2_with fail;refine(U5 g i s _ m.o.1 hi Z).m ?_;rintro e I ⟨D,aA⟩;clear x0 o p f0 f1 f2;rcases aA with⟨n,rfl,x⟩|⟨n,rfl,x⟩
 ·have y:r=.error i:=abL;subst y;have d:=aa (m.o.step j.o D x);obtain⟨x0,o,p⟩:=d.o.1.cells;clear D x n;go_wp2_with fail;refine(ZZ ⟨#[]⟩ _).m ?_;rintro e M ⟨rfl,rfl⟩;rw[show T.vV ⟨#[]⟩=0 by decide,show T.yF ⟨#[]⟩=0 by decide];go_upto_region 13 with fail;go_quiet (fail);have a:=aa (d.o.drewN nq);generalize I.drewN nq=M at a⊢;obtain⟨E,F,G⟩:=a.o.2.1.cells;obtain⟨q,N,O⟩:=a.o.2.1.free;go_wp2_with fail;obtain⟨d0,d1,d2⟩:=(dX a.o.2.1 (.int .i64 1) (.string ⟨#[]⟩) (.slice none 0 0)).cells;refine aV (v:=.agg #[.int .i64 1,.string ⟨#[]⟩,.slice none 0 0]) (by simp[results,Tryz.results143,go_sem,d0,d1,d2]) rfl ?_;exact a.o.ends j.o ⟨a.o.1,_,_,_,_,_,rfl,rfl,rfl⟩
 obtain⟨d,L⟩:=aab (m.o.step j.o D x) (T.Ip s.data.toList i);have c:=K.o;rw[aH n]at c;have aW:=aa (show T.gL s.data.toList i<=s.size by have h:=T.CL n;have h2:=T.mq s;omega);clear D x n R K;generalize T.lU s.data.toList i (T.gL s.data.toList i)=nm at L c⊢;generalize T.gL s.data.toList i=b at d aW c⊢;obtain⟨x0,o,p⟩:=d.o.1.cells;have aK:=aa (T.KT nm);have j0:(0:Int)<=(b:Int):=aar;go_wp2_with fail;refine(ZZ nm _).m ?_;rintro e M ⟨rfl,rfl⟩;generalize T.vV nm=t at aK c⊢;generalize T.yF nm=kn at c⊢;have aX:(t=0\/(t≠0/\s.size<=b)\/(t≠0/\∃h:b<s.size,(s[b]==40)=false))/\r=.ok (.mk 1 nm [],b)\/(t≠0/\∃h:b<s.size,(s[b]==40)=true)/\T.close s.data.toList t 41 (T.lg s.data.toList f kn 0 (b+1))=some r:=by
  by_cases k:t=0;·left;exact⟨.inl k,by rw[aJ (.inl k)]at c;simpa using c.symm⟩
  ·rcases bX b s.size with z|z
   ·rw[T.CP s b z]at c;rcases bW (s[b]==40)with h|h;·right;rw[aH (by rintro(h'|h');exact k h';rw[h]at h';cases h')]at c;exact⟨⟨k,z,h⟩,c⟩
    ·left;rw[aJ (.inr h)]at c;exact⟨.inr (.inr ⟨k,z,h⟩),by simpa using c.symm⟩
   ·left;rw[aJ (.inr (T.DU s b z 40))]at c;exact⟨.inr (.inl ⟨k,z⟩),by simpa using c.symm⟩
 clear c;rcases aX with⟨aY,y⟩|⟨⟨k,z,Y⟩,P⟩
 ·subst y;rcases aY with k|⟨k,z⟩|⟨k,z,Y⟩
  ·have b1:(t==0)=true:=(by rw[fD];exact k);clear k;exact ada
  ·have b1:(t==0)=false:=(by rw[aD];exact k);have b2:(s.size:Int)<=(b:Int):=aar;have b3:decide ((s.size:Int)<=(b:Int))=true:=aM aar;have b4:decide (s.size<=b)=true:=aM aar;clear k;exact ada
  ·have b1:(t==0)=false:=(by rw[aD];exact k);have b2:(b:Int)<(s.size:Int):=aar;have b3:decide ((s.size:Int)<=(b:Int))=false:=cu aar;have b4:decide (s.size<=b)=false:=cu aar;obtain⟨_,Q⟩:=Ol Y;have b6:((s[b].toNat:Int) != 40)=true:=Q;clear k Y Q;exact ada
 ·have b1:(t==0)=false:=(by rw[aD];exact k);have b2:(b:Int)<(s.size:Int):=aar;have b3:decide ((s.size:Int)<=(b:Int))=false:=cu aar;have b4:decide (s.size<=b)=false:=cu aar;obtain⟨_,Q⟩:=QU Y;have b6:((s[b].toNat:Int) != 40)=false:=Q;obtain⟨l,ak,aL⟩:∃l,f=l+1/\T.close s.data.toList t 41 (T.lg s.data.toList (l+1) kn 0 (b+1))=some r:=by
   cases f with
   |zero=>simp[T.lg,T.close]at P
   |succ l=>exact⟨l,rfl,P⟩
  subst ak;obtain⟨aZ,bf⟩:=aab aL z;clear P aL k Y Q;go_upto_region 13 with fail;go_quiet (fail);have a:=aa (d.o.drewN nq);generalize I.drewN nq=M at a⊢;clear x0 o p;obtain⟨x0,o,p⟩:=a.o.1.cells;obtain⟨f0,f1,f2⟩:=a.o.1.free;have aB:=aa (a.o.Jp j.o ((b:Int)+1) abz);go_wp2_with fail;generalize M.setCell ⟨g,1,none⟩ (.int .i64 ((b:Int)+1))=w7 at aB⊢;refine(U4 l aar (λax aQ=>aC.o ax aar) g (b+1) kn t 41 ⟨#[41]⟩ rfl s w7 r aB.o.1 bf.o Z (aaz aK.o) aZ.o).m ?_;rintro e w8 S;obtain⟨q,aN,U,V,c3,j5,b9,rfl,ag,W⟩:=S.val aB.o j.o;obtain⟨E,F,G⟩:=ag.2.1.cells;obtain⟨aR,aS,aT⟩:=ag.2.1.free;obtain⟨aO,ay⟩:=aab ag W;clear S ag W x0 o p f0 f1 f2;go_wp2_with fail;obtain⟨d0,d1,d2⟩:=(dX aO.o.2.1 (.int .i64 q) (.string aN) (.slice U V c3)).cells;refine aV (v:=.agg #[.int .i64 q,.string aN,.slice U V c3]) (by simp[results,Tryz.results143,go_sem,d0,d1,d2]) rfl ?_;exact aO.o.ends j.o ay.o
theorem Yp(s:ByteArray)(w:World):
 Calls Tryz.prog 101 #[.string s] w (xQ (T.parse s) w):=by
 have u:=jy.new w (.int .i64 0) (.string ⟨#[]⟩) (.slice none 0 0);have P:=ae w (.cells #[.int .i64 0,.string ⟨#[]⟩,.slice none 0 0] 29);have Q:=aK w (.cells #[.int .i64 0,.string ⟨#[]⟩,.slice none 0 0] 29);obtain⟨p,x⟩:=aay (T.parse s);rw[x];go_enter Tryz.func101,Tryz.ntmps101;go_upto_region 1 with fail;generalize w.alloc _=c at u P Q⊢;obtain⟨x0,y,z⟩:=u.cells;obtain⟨f0,f1,f2⟩:=u.free;obtain⟨aD,R,l⟩:=aac u P Q;clear u P Q;have aF:∀W,bI (dP (w.heap.size+1)) W (.agg #[.int .i64 0,.string ⟨#[]⟩,.slice none 0 0]) (.mk 0 ⟨#[]⟩ []):=λW=>tX _ _ 0 ⟨#[]⟩ aat aat;have I:=aa aF;clear aF;by_cases S:1024<s.size
 ·have f:p=(.mk 0 ⟨#[]⟩ [],0,72):=(by rw[<-x];unfold T.parse;rw[aJ S]);subst f;have h1:(1024:Int)<(s.size:Int):=aar;clear x;go_wp2_with fail;obtain⟨d0,d1,d2⟩:=(dX aD.o (.int .i64 0) (.string ⟨#[]⟩) (.slice none 0 0)).cells;refine aV (v:=.tuple #[.agg #[.int .i64 0,.string ⟨#[]⟩,.slice none 0 0],.int .i64 0,.int .i64 72]) (by simp[results,Tryz.results101,go_sem,d0,d1,d2]) rfl ?_;exact wy R.o (I.o _) rfl
 have h1:(s.size:Int)<=1024:=aar;obtain⟨r,U⟩:∃r,T.oP s.data.toList (2*s.size+1) 0=some r:=by
  cases h:T.oP s.data.toList (2*s.size+1) 0 with
  |none=>exact absurd h ((T.UO s.data.toList _).1 0 (aT _) (by rw[T.mq];omega))
  |some r=>exact⟨r,rfl⟩
 have aG:T.DZ s.size r=p:=(by rw[<-x];exact(T.Sk s S r U).symm);obtain⟨HR,V⟩:=aab U aG;have X:=aa (show s.size<=1024 by omega);clear U x aG S;go_wp2_with fail;have Y:kD 188 (c.alloc (.cells #[.string s,.int .i64 0,.bool false] 188)) c.heap.size s 0 false:=bP c _;have Z:=ae c (.cells #[.string s,.int .i64 0,.bool false] 188);have af:=aK c (.cells #[.string s,.int .i64 0,.bool false] 188);generalize c.alloc _=w2 at Y Z af⊢;obtain⟨bf,aL,aN⟩:=aac Y Z af;clear Y Z af;refine(Zm (2*s.size+1) (aaz X.o) c.heap.size 0 s w2 r bf.o (aT _) (aaz X.o) HR.o).m ?_;rintro e w3 ⟨J,aO⟩;have bv:=aa J;have aP:=(aD.o.ag aL.o).grown J (λe=>by have e':=aB e;have:=l.o;omega);have aQ:Below w.heap.size w w3:=(R.o.t (aL.o.m R.o.size)).grown J (aaA l.o aN.o) (λk hk=>by have e':=aB hk;have:=l.o;omega);obtain⟨aS,K⟩:=aab aP aQ;clear J aP aQ x0 y z f0 f1 f2;rcases r with e4|⟨t,j⟩
 ·obtain⟨A,L,nm,a,M,c3,rfl⟩:=aO;have f:p=(.mk 0 ⟨#[]⟩ [],e4,71):=V.o.symm;subst f;have m:=A.ag (ae w3 (.cells #[.int .i64 L,.string nm,.slice a M c3] 29));have d:=aS.o.ag (ae w3 (.cells #[.int .i64 L,.string nm,.slice a M c3] 29));have n:=K.o.t ((ae w3 (.cells #[.int .i64 L,.string nm,.slice a M c3] 29)).m K.o.size);clear A;go_upto_region 5 with fail;generalize w3.alloc _=w4 at m d n⊢;obtain⟨x0,y,z⟩:=m.cells;obtain⟨B,C,D⟩:=d.cells;obtain⟨E,F,G⟩:=d.free;obtain⟨H,o⟩:=aab d n;clear m d n;have bg:w.heap.size≠c.heap.size:=(aaz l.o);have bi:c.heap.size≠w.heap.size:=(aaz l.o);go_wp2_with fail
  go_region
  go_wp2_with fail;obtain⟨d0,d1,d2⟩:=(dX H.o (.int .i64 0) (.string ⟨#[]⟩) (.slice none 0 0)).cells;refine aV (v:=.tuple #[.agg #[.int .i64 0,.string ⟨#[]⟩,.slice none 0 0],.int .i64 e4,.int .i64 71]) (by simp[results,Tryz.results101,go_sem,d0,d1,d2]) rfl ?_;exact(wy o.o (I.o _) rfl).drew
 ·obtain⟨A,a,c3,rfl,aU⟩:=aO;have bn:=((T.Sj s.data.toList _).1 _ _ _ HR.o).2;have aW:=aa (show j<=s.size/\t.bE<=1048576 by have h2:=T.mq s;have:=X.o;omega);have m:=A.ag (ae w3 (.cells #[.int .i64 t.aA,.string t.aI,.slice a t.ay.length c3] 29));have d:=aS.o.ag (ae w3 (.cells #[.int .i64 t.aA,.string t.aI,.slice a t.ay.length c3] 29));have n:=K.o.t ((ae w3 (.cells #[.int .i64 t.aA,.string t.aI,.slice a t.ay.length c3] 29)).m K.o.size);have N:=jy.new w3 (.int .i64 t.aA) (.string t.aI) (.slice a t.ay.length c3);have ah:=aU.aR (S':=dP (w.heap.size+1)) (w':=w3.alloc (.cells #[.int .i64 t.aA,.string t.aI,.slice a t.ay.length c3] 29)) λb hb hl=>⟨by have:=ak hb;have:=l.o;have:=aN.o;exact aM aar,fK _ _ b hl⟩;clear A aU bn;go_upto_region 5 with fail;generalize w3.alloc _=w4 at m d n N ah⊢;obtain⟨x0,y,z⟩:=m.cells;obtain⟨B,C,D⟩:=d.cells;obtain⟨E,F,G⟩:=d.free;obtain⟨q0,q1,q2⟩:=N.cells;obtain⟨H,o,bq,av⟩:=aad d n N ah;clear m d n N ah;by_cases ax:j<s.size
  ·have f:p=(.mk 0 ⟨#[]⟩ [],j,71):=(by have:=V.o;dsimp only[T.DZ]at this;rw[if_pos ax]at this;exact this.symm);subst f;have h2:(j:Int)<(s.size:Int):=aar;have bg:w.heap.size≠c.heap.size:=(aaz l.o);have bi:c.heap.size≠w.heap.size:=(aaz l.o);go_wp2_with fail
   go_region
   go_wp2_with fail;obtain⟨d0,d1,d2⟩:=(dX H.o (.int .i64 0) (.string ⟨#[]⟩) (.slice none 0 0)).cells;refine aV (v:=.tuple #[.agg #[.int .i64 0,.string ⟨#[]⟩,.slice none 0 0],.int .i64 j,.int .i64 71]) (by simp[results,Tryz.results101,go_sem,d0,d1,d2]) rfl ?_;exact(wy o.o (I.o _) rfl).drew
  have h2:(s.size:Int)<=(j:Int):=aar;have aX:(if t.eZ=true then ((t,0,0):T×Nat×Int) else (.mk 0 ⟨#[]⟩ [],0,76))=p:=(by have:=V.o;dsimp only[T.DZ]at this;rw[if_neg ax]at this;exact this);have aY:=aa aX;obtain⟨q,hq⟩:=aay t.eZ;have O:=aa hq;clear aX hq ax;cases q
  ·have f:p=(.mk 0 ⟨#[]⟩ [],0,76):=(by have:=aY.o;rw[aH (by rw[O.o];decide)]at this;exact this.symm);subst f;go_wp2_with fail;refine(EU t _ _ av.o.at aW.o.2 false 76 O.o (.inr ⟨rfl,rfl⟩)).m ?_;rintro e w5 ⟨rfl,g⟩;have i:=H.o.ag g;obtain⟨az,aC⟩:=aab (o.o.t (g.m o.o.size)) i;clear B C D E F G q0 q1 q2 x0 y z g;obtain⟨B,C,D⟩:=i.cells;obtain⟨E,F,G⟩:=i.free;clear i;go_wp2_with fail;obtain⟨d0,d1,d2⟩:=(dX aC.o (.int .i64 0) (.string ⟨#[]⟩) (.slice none 0 0)).cells;refine aV (v:=.tuple #[.agg #[.int .i64 0,.string ⟨#[]⟩,.slice none 0 0],.int .i64 0,.int .i64 76]) (by simp[results,Tryz.results101,go_sem,d0,d1,d2]) rfl ?_;exact wy az.o (I.o _) rfl
  ·have f:p=(t,0,0):=(by have:=aY.o;rw[aJ O.o]at this;exact this.symm);subst f;go_wp2_with fail;refine(EU t _ _ av.o.at aW.o.2 true 0 O.o (.inl ⟨rfl,rfl⟩)).m ?_;rintro e w5 ⟨rfl,g⟩;have i:=H.o.ag g;have aZ:=bq.o.ag g;obtain⟨bu,az,aC⟩:=aac ((av.o.aR (w':=w5) (S':=dP (w.heap.size+1)) λb hb hl=>⟨hb,g.block b hl⟩)) (o.o.t (g.m o.o.size)) i;clear B C D E F G q0 q1 q2 x0 y z g;obtain⟨B,C,D⟩:=i.cells;obtain⟨E,F,G⟩:=i.free;obtain⟨q0,q1,q2⟩:=aZ.cells;clear i aZ;go_wp2_with fail;obtain⟨d0,d1,d2⟩:=(dX aC.o (.int .i64 t.aA) (.string t.aI) (.slice a t.ay.length c3)).cells;refine aV (v:=.tuple #[.agg #[.int .i64 t.aA,.string t.aI,.slice a t.ay.length c3],.int .i64 0,.int .i64 0]) (by simp[results,Tryz.results101,go_sem,d0,d1,d2]) rfl ?_;exact wy az.o bu.o rfl
theorem yg(s:ByteArray)(w:World):Calls Tryz.prog 54 #[.string s] w (Ow (T.parse s).1 w):=by
 have j:=jy.new w (.int .i64 0) (.string ⟨#[]⟩) (.slice none 0 0);have k:=ae w (.cells #[.int .i64 0,.string ⟨#[]⟩,.slice none 0 0] 29);have l:=aK w (.cells #[.int .i64 0,.string ⟨#[]⟩,.slice none 0 0] 29);have q:=aa (λW=>Yp s W);obtain⟨p,r⟩:=aay (T.parse s);rw[r]at q⊢;clear r;obtain⟨t,i,c⟩:=p;go_enter Tryz.func54,Tryz.ntmps54;go_upto_region 1 with fail;generalize w.alloc _=F at j k l⊢;obtain⟨A,u,B⟩:=aac j k l;clear j k l;go_wp2_with fail;refine(q.o _).m ?_;rintro e f ⟨a,d,rfl,m,n⟩;dsimp only at m⊢;have C:=aa (m.aR (w':=f) (S':=dP (w.heap.size+1)) λb hb _=>⟨aM (aaA (ak hb) B.o),rfl⟩);obtain⟨D,x⟩:=aab (A.o.ag n) (u.o.t (n.m u.o.size));clear m n;go_upto_region 2 with fail;have o:=jy.new f (.int .i64 t.aA) (.string t.aI) (.slice a t.ay.length d);have g:=ae f (.cells #[.int .i64 t.aA,.string t.aI,.slice a t.ay.length d] 29);obtain⟨h,y,z⟩:=aac (D.o.ag g) (x.o.t (g.m x.o.size)) ((C.o.aR (S':=dP (w.heap.size+1)) λb hb E=>⟨hb,g.block b E⟩));generalize f.alloc _=w3 at o h y z⊢;obtain⟨x0,G,H⟩:=o.cells;obtain⟨I,J,K⟩:=h.o.cells;obtain⟨f0,f1,f2⟩:=h.o.free;clear o g;go_wp2_with fail;obtain⟨d0,d1,d2⟩:=(dX h.o (.int .i64 t.aA) (.string t.aI) (.slice a t.ay.length d)).cells;refine aV (v:=.agg #[.int .i64 t.aA,.string t.aI,.slice a t.ay.length d]) (by simp[results,Tryz.results54,go_sem,d0,d1,d2]) rfl ?_;exact rO (t:=t) _ _ _ y.o (ax _) rfl rfl rfl z.o
theorem Pz(w:World):Calls Tryz.prog 152 #[.slice none 0 0] w λe w'=>e=.returned (.bool true)/\w=w':=by
 go_enter Tryz.func152,Tryz.ntmps152;go_wp2_with fail;go_loopw [7] (λi wr=>i=.int .i64 0/\w=wr) (λ_ _=>0);case atStart=>exact⟨rfl,rfl⟩
 case round=>
  obtain⟨rfl,rfl⟩:=hrel;go_wp2_with fail;go_ret;exact⟨rfl,rfl⟩
theorem SN(s:ByteArray)(w:World):Calls Tryz.prog 186 #[.slice none 0 0,.string s] w λe w'=>e=.returned (.tuple #[.agg #[.int .i64 0,.string ⟨#[]⟩,.slice none 0 0],.bool false])/\Below w.heap.size w w':=by
 have a:=jy.new w (.int .i64 0) (.string ⟨#[]⟩) (.slice none 0 0);have b:=ae w (.cells #[.int .i64 0,.string ⟨#[]⟩,.slice none 0 0] 29);go_enter Tryz.func186,Tryz.ntmps186;go_upto_region 1 with fail;generalize w.alloc _=d at a b⊢;obtain⟨c,f⟩:=aab a b;clear a b;go_wp2_with fail;go_loopw [10] (λi wr=>i=.int .i64 0/\d=wr) (λ_ _=>0);case atStart=>exact⟨rfl,rfl⟩
 case round=>
  obtain⟨rfl,rfl⟩:=hrel;obtain⟨g,h,j⟩:=c.o.cells;obtain⟨f0,f1,f2⟩:=c.o.free;go_wp2_with fail;obtain⟨d0,d1,d2⟩:=(dX c.o (.int .i64 0) (.string ⟨#[]⟩) (.slice none 0 0)).cells;refine aV (v:=.tuple #[.agg #[.int .i64 0,.string ⟨#[]⟩,.slice none 0 0],.bool false]) (by simp[results,Tryz.results186,go_sem,d0,d1,d2]) rfl ?_;exact⟨rfl,((f.o.setCell (ax _) _).setCell (ax _) _).setCell (ax _) _⟩
theorem PK(s:ByteArray)(f:Value)(w:World):Calls Tryz.prog 214 #[.slice none 0 0,.string s,f] w λe w'=>e=.returned (.tuple #[.int .i64 0,.bool false])/\w=w':=by
 go_enter Tryz.func214,Tryz.ntmps214;go_wp2_with fail;go_loopw [9,10] (λi j wr=>i=.int .i64 0/\j=.int .i64 0/\w=wr) (λ_ _ _=>0);case atStart=>exact⟨rfl,rfl,rfl⟩
 case round=>
  obtain⟨rfl,rfl,rfl⟩:=hrel;go_wp2_with fail;refine aV (v:=.tuple #[.int .i64 0,.bool false]) (by simp[results,Tryz.results214,go_sem]) rfl ?_;exact⟨rfl,rfl⟩
theorem JL(w:World):Calls Tryz.prog 149 #[.slice none 0 0] w λe w'=>e=.returned (.slice none 0 0)/\w=w':=by
 have a:∀W,Sem.run Tryz.prog (binOp BinOp.eql 70 (Value.slice none 0 0) (Value.slice none 0 0)) W=.ok (.bool true) W:=λW=>by
  rfl
 go_enter Tryz.func149,Tryz.ntmps149;go_wp2_with fail;go_ret;exact⟨rfl,rfl⟩
end
section
open Go.RowKit
attribute [local go_sem ↓] Go.wp_at_zero Go.wp_at_succ
def Ov(w:World)(v:Value)(s:ByteArray)(t:T):Prop:=∃(b off cap:Nat) (A:Option Addr) (c:Nat),v=.slice (some ⟨b,off,none⟩) 1 cap/\w.cell? ⟨b,off,none⟩=some (.string s)/\w.cell? ⟨b,off+1,none⟩=some (.int .i64 t.aA)/\
 w.cell? ⟨b,off+2,none⟩=some (.string t.aI)/\w.cell? ⟨b,off+3,none⟩=some (.slice A t.ay.length c)/\aS w (.agg #[.int .i64 t.aA,.string t.aI,.slice A t.ay.length c]) t
theorem Ov.ag{w w':World}{v:Value}{s:ByteArray}{t:T}(h:Ov w v s t)(hb:Below w.heap.size w w'):Ov w' v s t:=by
 obtain⟨b,off,cap,A,c,e,h0,a,d,f,g⟩:=h;exact⟨b,off,cap,A,c,e,af hb h0,af hb a,af hb d,af hb f,g.ag hb⟩
theorem Tryz.Fu:(Tryz.prog.info? 132).map (λi=>(i.zero,i.size,i.bytes))=some (some (.agg #[.string ByteArray.empty,.int .i64 0,.string ByteArray.empty,.slice none 0 0]),4,64):=by kernel_rfl
theorem Dj(s:ByteArray)(t:T)(A:Option Addr)(c:Nat):∀u∈[Value.string s,.int .i64 t.aA,.string t.aI,.slice A t.ay.length c],u.oneCell'=true:=by
 intro u hu;simp only[bM,eX,Iu]at hu;rcases hu with rfl|rfl|rfl|rfl<;>rfl
end
end Go.Proofs.YtaciciokmpbkkaaGreatDoor
