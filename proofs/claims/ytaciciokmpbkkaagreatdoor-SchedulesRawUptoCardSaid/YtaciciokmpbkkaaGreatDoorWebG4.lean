import Derived.Test.YtaciciokmpbkkaaGreatDoorWebG3
set_option maxRecDepth 100000
set_option maxHeartbeats 16000000
namespace Go.Proofs.YtaciciokmpbkkaaGreatDoor
section
open Go.RowKit
namespace T
mutual
def vars:T->List ByteArray
 |.mk k s a=>(if k=2 then [s] else [])++ik a
def ik:List T->List ByteArray
 |[]=>[]
 |t::r=>vars t++ik r
end
mutual
theorem IL:∀t:T,t.vars.length<=t.bC
 |.mk k s a=>by
  have:=qH a;simp only[vars,bC,aF];split<;>simp<;>omega
theorem qH:∀l:List T,(ik l).length<=bE l
 |[]=>by simp[ik,bE]
 |t::r=>by have:=IL t;have:=qH r;simp only[ik,bE,aF];omega
end
theorem uX(l:List T):∀(i:Nat) (h:i<l.length),ik (l.take (i+1))=ik (l.take i)++l[i].vars:=by
 induction l with
 |nil=>intro i h;simp at h
 |cons t r a=>
  intro i h;cases i with
  |zero=>simp[ik]
  |succ i=>simp only[gK,ik,fD];rw[a i (by simpa using h),dA]
theorem uQ(l:List T):∀(i:Nat) (h:i<l.length),bE (l.take i)+l[i].bC<=bE l:=by
 induction l with
 |nil=>intro i h;simp at h
 |cons t r a=>
  intro i h;cases i with
  |zero=>simp only[iH,bE,dw];omega
  |succ i=>have:=a i (by simpa using h);simp only[gK,bE,fD];omega
end T
def under(B:Nat):Nat->Bool:=λb=>decide (b<B)
theorem aO.jQ{w:World}{v:Value}{t:T}(h:aO w v t):bN (under w.heap.size) w v t:=
 aO.aR h λp a=>by
  rw[fM];obtain⟨u,hu⟩:=eO.1 a;rw[aI (show under w.heap.size p.block=true from aQ (eP w p hu))]
theorem bN.Ee{B:Nat}{w w':World}{v:Value}{t:T}(h:bN (under B) w v t)(hb:Below B w w'):bN (under B) w' v t:=
 h.aR λb a _=>⟨a,hb.block b (ax a)⟩
theorem bN.cells{B:Nat}{w:World}{A:Option Addr}{a:List T}{U:Nat->Value×Value×Value}{i:Nat}(h:i<a.length)
 (hA:a.length=0\/∃b off,A=some ⟨b,off,none⟩/\∀i,i<a.length->(only w (under B)).cell? ⟨b,off+i*3,none⟩=some (U i).1/\(only w (under B)).cell? ⟨b,off+i*3+1,none⟩=some (U i).2.1/\(only w (under B)).cell? ⟨b,off+i*3+2,none⟩=some (U i).2.2)
 (hU:∀i (h:i<a.length),aO (only w (under B)) (.agg #[(U i).1,(U i).2.1,(U i).2.2]) a[i]):
 ∃b off A' c,b<B/\A=some ⟨b,off,none⟩/\w.cell? ⟨b,off+i*3,none⟩=some (.int .i64 a[i].aC)/\w.cell? ⟨b,off+i*3+1,none⟩=some (.string a[i].aJ)/\
  w.cell? ⟨b,off+i*3+2,none⟩=some (.slice A' a[i].ay.length c)/\bN (under B) w (.agg #[.int .i64 a[i].aC,.string a[i].aJ,.slice A' a[i].ay.length c]) a[i]:=by
 obtain⟨b,off,A',c,e,f,c1,c2,hu⟩:=aO.cells h hA hU;have key:∀{q:Addr} {v:Value},(only w (under B)).cell? q=some v->q.block<B/\w.cell? q=some v:=λ{q v} d=>by
  rw[fM]at d;split at d;·rename_i hS;exact⟨ax hS,d⟩
  ·cases d
 exact⟨b,off,A',c,(key f).1,e,(key f).2,(key c1).2,(key c2).2,hu⟩
theorem sQ{B:Nat}{w w':World}{b o:Nat}{v:Value}(h:Below B w w')(hb:b<B)(a:w.cell? ⟨b,o,none⟩=some v):w'.cell? ⟨b,o,none⟩=some v:=(h.cell (p:=⟨b,o,none⟩) hb).t a
theorem Tryz.FW:(Tryz.prog.info? 9).map (λi=>(i.zero,i.size,i.bytes))=some (some (.string ByteArray.empty),1,16):=by kernel_rfl
theorem Src.Bi(w:World)(s:ByteArray):Src (w.alloc (.cells #[.string s] 9)) 1 (some ⟨w.heap.size,0,none⟩) 1 [.string s]:=by
 refine⟨rfl,.inr ⟨_,0,rfl,λj u hu=>?_⟩⟩;rw[dJ]
 match j,hu with
 |0,hu=>
  have h:=bO w (.cells #[.string s] 9);have e:(w.alloc (.cells #[.string s] 9)).cell? ⟨w.heap.size,0,none⟩=some (.string s):=(by unfold World.cell?;rw[h];rfl);exact e.t hu
theorem Jw:∀(N:Nat) (t:T) (v:Value) (w:World) (base:Nat) (m:Value) (L:List ByteArray),t.bC<N->bN (under base) w v t->t.bC<=1048576->
 w.ownsRow base 9 1 m L.length (L.map .string)->L.length+t.bC<=4194304->base<=w.heap.size->
 Calls Tryz.prog 124 #[m,v] w λe w'=>∃aP,e=.returned aP/\w'.ownsRow base 9 1 aP (L++t.vars).length ((L++t.vars).map .string)/\Below base w w':=by
 intro N;induction N with
 |zero=>intro t v w base m L h;omega
 |succ N ih=>
  intro t v w base m L hN ht aT g aU aV;cases ht with
  |mk k s A cap a U h1 h2 h3 h4 hA hU=>
   simp only[T.bC]at hN aT aU;have bv:a.length<=262144:=(by have:=T.kN a;omega);obtain⟨i0,aW,aZ,bf,bg⟩:=dV Tryz.FW;have aQ:=iB w (.int .i64 k) (.string s) (.slice A a.length cap) 29;have R:=af w (.cells #[.int .i64 k,.string s,.slice A a.length cap] 29);obtain⟨HA,HU,IH,o⟩:=ZT hA hU ih (show ∀b,m.ownBlock=some b->base<=b/\b<w.heap.size from g.lt);have o:=aa (show ∀b,m.ownBlock=some b->base<=b/\b<w.heap.size from g.lt);have o:=aa (show ∀b,m.ownBlock=some b->base<=b/\b<w.heap.size from g.lt);have o:=aa (show ∀b,m.ownBlock=some b->base<=b/\b<w.heap.size from g.lt);have o:=aa (show ∀b,m.ownBlock=some b->base<=b/\b<w.heap.size from g.lt);have o:=aa (show ∀b,m.ownBlock=some b->base<=b/\b<w.heap.size from g.lt);have o:=aa (show ∀b,m.ownBlock=some b->base<=b/\b<w.heap.size from g.lt);obtain⟨o,HOWN,S⟩:=ZR (show ∀b,m.ownBlock=some b->base<=b/\b<w.heap.size from g.lt) (dz g R) (R.m aV);have G:=aa (show base<=(w.alloc (.cells #[.int .i64 k,.string s,.slice A a.length cap] 29)).heap.size by rw[aK];omega);clear hA hU ih g;go_enter Tryz.func124,Tryz.ntmps124;go_upto_region 1 with fail;generalize w.alloc (.cells #[.int .i64 k,.string s,.slice A a.length cap] 29)=w1 at aQ R HOWN S G⊢;obtain⟨x0,x1,x2⟩:=aQ;have B:=aa (show m.ownBlock≠some w.heap.size from λe=>by have:=(o.o _ e).2;omega);have p:∃c:List ByteArray,c=L++(if k=2 then [s] else []):=⟨_,rfl⟩;obtain⟨c,d⟩:=p;have r:=aa d;have f:c.length+T.bE a<=4194304:=(by rw[d];split<;>simp<;>omega);have x:=aa f;clear f;have B:=aa (show m.ownBlock≠some w.heap.size from λe=>by have:=(o.o _ e).2;omega);have p:∃c:List ByteArray,c=L++(if k=2 then [s] else []):=⟨_,rfl⟩;obtain⟨c,d⟩:=p;have r:=aa d;have f:c.length+T.bE a<=4194304:=(by rw[d];split<;>simp<;>omega);have x:=aa f;clear f;have B:=aa (show m.ownBlock≠some w.heap.size from λe=>by have:=(o.o _ e).2;omega);have p:∃c:List ByteArray,c=L++(if k=2 then [s] else []):=⟨_,rfl⟩;obtain⟨c,d⟩:=p;have r:=aa d;have f:c.length+T.bE a<=4194304:=(by rw[d];split<;>simp<;>omega);have x:=aa f;clear f;have B:=aa (show m.ownBlock≠some w.heap.size from λe=>by have:=(o.o _ e).2;omega);have p:∃c:List ByteArray,c=L++(if k=2 then [s] else []):=⟨_,rfl⟩;obtain⟨c,d⟩:=p;have r:=aa d;have f:c.length+T.bE a<=4194304:=(by rw[d];split<;>simp<;>omega);have x:=aa f;clear f;have B:=aa (show m.ownBlock≠some w.heap.size from λe=>by have:=(o.o _ e).2;omega);have p:∃c:List ByteArray,c=L++(if k=2 then [s] else []):=⟨_,rfl⟩;obtain⟨c,d⟩:=p;have r:=aa d;have f:c.length+T.bE a<=4194304:=(by rw[d];split<;>simp<;>omega);have x:=aa f;clear f;have B:=aa (show m.ownBlock≠some w.heap.size from λe=>by have:=(o.o _ e).2;omega);have p:∃c:List ByteArray,c=L++(if k=2 then [s] else []):=⟨_,rfl⟩;obtain⟨c,d⟩:=p;have r:=aa d;have f:c.length+T.bE a<=4194304:=(by rw[d];split<;>simp<;>omega);have x:=aa f;clear f;have B:=aa (show m.ownBlock≠some w.heap.size from λe=>by have:=(o.o _ e).2;omega);have p:∃c:List ByteArray,c=L++(if k=2 then [s] else []):=⟨_,rfl⟩;obtain⟨c,d⟩:=p;have r:=aa d;have f:c.length+T.bE a<=4194304:=(by rw[d];split<;>simp<;>omega);have x:=aa f;clear f;have B:=aa (show m.ownBlock≠some w.heap.size from λe=>by have:=(o.o _ e).2;omega);have p:∃c:List ByteArray,c=L++(if k=2 then [s] else []):=⟨_,rfl⟩;obtain⟨c,d⟩:=p;have r:=aa d;have f:c.length+T.bE a<=4194304:=(by rw[d];split<;>simp<;>omega);have x:=aa f;clear f;by_cases P:k=2
   ·subst P;have bi:=aa (show c=L++[s] by rw[d,aI rfl]);clear d;have I:=af w1 (.cells #[.string s] 9);have y2:=ae I x2;have bn:=I.size;have bq:=aa (show ∀u∈[Value.string s],u.oneCell'=true from λu hu=>by rw[aX]at hu;subst hu;rfl);go_wp2_with (at_builtin;refine bT _ rfl _ _ 53 rfl base 9 i0 _ 1 16 eu aW aZ bf bg rfl (by omega) _ _ _ rfl (dz HOWN.o I) _ 1 1 [.string s] rfl (Src.Bi _ _) bq.o (by unfold maxLen;omega) (by omega) (by have:=G.o;omega) ?_;intro A8 c8 V aR Q bu;have bz:=Q.cell y2 (λe=>B.o e.symm));have H:V.ownsRow base 9 1 (.slice A8 (L.length+1) c8) c.length (c.map .string):=by
     rw[bi.o];simpa using aR
    have n:Below base w V:=(S.o.t (I.m G.o)).grown Q (by have:=G.o;omega) (λb hb=>(o.o _ hb).1);have q:base<=V.heap.size:=(by have:=Q.size;have:=G.o;omega);clear aR Q bu I bn x0 x1 x2 y2;generalize Value.slice A8 (L.length+1) c8=bA at H⊢;obtain⟨W,X,Y⟩:=ZR H n q;clear H n q;go_loopw [18,0] (λi l wr=>∃j:Nat,j<=a.length/\i=.int .i64 j/\wr.ownsRow base 9 1 l (c++T.ik (a.take j)).length ((c++T.ik (a.take j)).map .string)/\Below base w wr/\base<=wr.heap.size) (λi _ _=>a.length-(intOf i).toNat);case atStart=>exact⟨0,aL _,rfl,by simpa[T.ik]using W.o,X.o,Y.o⟩
    case round=>
     obtain⟨j,hj,rfl,g,n,q⟩:=hrel;by_cases y:j<a.length
     ·obtain⟨b,off,J,K,C,rfl,d0,d1,d2,hu⟩:=bN.cells y HA.o HU.o;have Z:=sQ n C d0;have e1:=sQ n C d1;have e2:=sQ n C d2;have hi:(j:Int)<(a.length:Int):=(by omega);have z:=af wr (.cells #[.int .i64 a[j].aC,.string a[j].aJ,.slice J a[j].ay.length K] 29);obtain⟨ag,ai,av⟩:=ZR ((hu.Ee n).Ee (z.m q)) (dz g z) (n.t (z.m q));have M:=aa (show base<=(wr.alloc (.cells #[.int .i64 a[j].aC,.string a[j].aJ,.slice J a[j].ay.length K] 29)).heap.size by rw[aK];omega);have D:=aa (show a[j].bC<N/\a[j].bC<=1048576/\(c++T.ik (a.take j)).length+a[j].bC<=4194304 by
       have h1:=T.uQ a j y;have h2:=T.qH (a.take j);have h3:=x.o;rw[aF];omega)
      have ax:=aa (show c++T.ik (a.take j)++a[j].vars=c++T.ik (a.take (j+1)) by rw[T.uX a j y,dA]);have O:=aa y;clear d0 d1 d2 hu z g n q hj;go_wp2_with fail;refine(IH.o _ _ _ base _ _ D.o.1 ag.o D.o.2.1 ai.o D.o.2.2 M.o).m ?_;rintro e w5 ⟨l5,rfl,E,F⟩;rw[ax.o]at E;obtain⟨az,aA,aH⟩:=ZR E (av.o.t F) (aD M.o (show _<=w5.heap.size from F.size));clear E F Z e1 e2;go_wp2_with fail;go_roundw;case rel=>exact⟨j+1,O.o,by go_num,az.o,aA.o,aH.o⟩
      case measure=>have:=O.o;simp[intOf];omega
     ·obtain rfl:j=a.length:=(by omega);rw[aY (ak _)]at g;have aM:=aa (show c++T.ik a=L++(T.mk 2 s a).vars by rw[r.o];simp[T.vars]);obtain⟨aN,aO⟩:=ZQ g n;clear g n q;go_wp2_with fail;go_ret;refine⟨_,rfl,?_,aO.o⟩;rw[<-aM.o];exact aN.o
   ·have aS:c=L:=(by rw[d,aG P,dS]);have bB:(k==2)=false:=(by rw[aB];exact P);have H:w1.ownsRow base 9 1 m c.length (c.map .string):=(by rw[aS];exact HOWN.o);have W:=aa H;have X:=S;have Y:=G;clear H d aS P;go_wp2_with fail;go_loopw [18,0] (λi l wr=>∃j:Nat,j<=a.length/\i=.int .i64 j/\wr.ownsRow base 9 1 l (c++T.ik (a.take j)).length ((c++T.ik (a.take j)).map .string)/\Below base w wr/\base<=wr.heap.size) (λi _ _=>a.length-(intOf i).toNat);case atStart=>exact⟨0,aL _,rfl,by simpa[T.ik]using W.o,X.o,Y.o⟩
    case round=>
     obtain⟨j,hj,rfl,g,n,q⟩:=hrel;by_cases y:j<a.length
     ·obtain⟨b,off,J,K,C,rfl,d0,d1,d2,hu⟩:=bN.cells y HA.o HU.o;have Z:=sQ n C d0;have e1:=sQ n C d1;have e2:=sQ n C d2;have hi:(j:Int)<(a.length:Int):=(by omega);have z:=af wr (.cells #[.int .i64 a[j].aC,.string a[j].aJ,.slice J a[j].ay.length K] 29);obtain⟨ag,ai,av⟩:=ZR ((hu.Ee n).Ee (z.m q)) (dz g z) (n.t (z.m q));have M:=aa (show base<=(wr.alloc (.cells #[.int .i64 a[j].aC,.string a[j].aJ,.slice J a[j].ay.length K] 29)).heap.size by rw[aK];omega);have D:=aa (show a[j].bC<N/\a[j].bC<=1048576/\(c++T.ik (a.take j)).length+a[j].bC<=4194304 by
       have h1:=T.uQ a j y;have h2:=T.qH (a.take j);have h3:=x.o;rw[aF];omega)
      have ax:=aa (show c++T.ik (a.take j)++a[j].vars=c++T.ik (a.take (j+1)) by rw[T.uX a j y,dA]);have O:=aa y;clear d0 d1 d2 hu z g n q hj;go_wp2_with fail;refine(IH.o _ _ _ base _ _ D.o.1 ag.o D.o.2.1 ai.o D.o.2.2 M.o).m ?_;rintro e w5 ⟨l5,rfl,E,F⟩;rw[ax.o]at E;obtain⟨az,aA,aH⟩:=ZR E (av.o.t F) (aD M.o (show _<=w5.heap.size from F.size));clear E F Z e1 e2;go_wp2_with fail;go_roundw;case rel=>exact⟨j+1,O.o,by go_num,az.o,aA.o,aH.o⟩
      case measure=>have:=O.o;simp[intOf];omega
     ·obtain rfl:j=a.length:=(by omega);rw[aY (ak _)]at g;have aM:=aa (show c++T.ik a=L++(T.mk k s a).vars by rw[r.o];simp[T.vars]);obtain⟨aN,aO⟩:=ZQ g n;clear g n q;go_wp2_with fail;go_ret;refine⟨_,rfl,?_,aO.o⟩;rw[<-aM.o];exact aN.o
end
section
open Go.RowKit
variable {X:Nat->Bool}
def jk(W:List fC)(k:ByteArray):Option Nat:=W.findIdx? λs=>decide (s.t.key=k)
theorem LG(W:List fC)(t:T):Wb.find W t=jk W t.key:=rfl
theorem Ov(W:List fC)(s:fC)(k:ByteArray):jk (W++[s]) k=(jk W k).or (if s.t.key=k then some W.length else none):=by
 unfold jk;rw[List.findIdx?_append];congr 1;rw[List.findIdx?_singleton];by_cases h:s.t.key=k;·rw[aI h,aI (aQ h)];simp
 ·rw[aG h,aG (by rw[bW];exact h)];rfl
theorem GM{W:List fC}{k:ByteArray}{i:Nat}(h:jk W k=some i):i<W.length:=by
 unfold jk at h;rw[jP]at h;exact h.1
theorem ll(W:List fC)(i:Nat):(Wb.mark W i).length=W.length:=by unfold Wb.mark;rw[List.length_modify]
theorem yH(W:List fC)(i j:Nat)(h:j<(Wb.mark W i).length)(h':j<W.length):(Wb.mark W i)[j].t=W[j].t/\(Wb.mark W i)[j].how=W[j].how/\(Wb.mark W i)[j].jv=W[j].jv/\(Wb.mark W i)[j].part=if i=j then true else W[j].part:=by
 have e:(Wb.mark W i)[j]'(h)=if i=j then { W[j]with part:=true } else W[j]:=List.getElem_modify _ _ _ _ h
 rw[e];split;·exact⟨rfl,rfl,rfl,rfl⟩
 ·exact⟨rfl,rfl,rfl,rfl⟩
theorem Ou(W:List fC)(i:Nat)(k:ByteArray):jk (Wb.mark W i) k=jk W k:=by
 have e:∀(f:fC->fC) (b:∀s,(f s).t=s.t) (W:List fC) (i:Nat),jk (W.modify i f) k=jk W k:=by
  intro f b W;induction W with
  |nil=>intro i;rw[List.modify_nil]
  |cons a r c=>
   intro i;cases i with
   |zero=>rw[su];unfold jk;rw[qh,qh,b]
   |succ i=>
    rw[sj];have h:=c i;unfold jk at h⊢;rw[qh,qh,h]
 exact e (λs=>{ s with part:=true }) (λs=>rfl) W i
def kl(k:ByteArray):Lit:=.string k.data.toList
theorem XK{a b:ByteArray}(h:kl a=kl b):a=b:=by
 unfold kl at h;injection h with h;exact tJ h
def y9(D:DataW Unit)(W:List fC):Prop:=∀k:ByteArray,Maps.has D (kl k)=(jk W k).isSome/\∀i,jk W k=some i->D.atKey (kl k) (.lit (.int .i64 0))=.lit (.int .i64 (i:Int))
theorem y9.nil:y9 (.map []) []:=λk=>⟨rfl,λi h=>by cases h⟩
theorem y9.mark{D:DataW Unit}{W:List fC}(h:y9 D W)(i:Nat):y9 D (Wb.mark W i):=λk=>by rw[Ou];exact h k
theorem y9.push{D:DataW Unit}{W:List fC}(h:y9 D W)(a:Maps.IsMap D)(s:fC)(c:jk W s.t.key=none):y9 (D.put (kl s.t.key) (.lit (.int .i64 (W.length:Int)))) (W++[s]):=λk=>by
 rw[Ov];by_cases e:s.t.key=k
 ·subst e;rw[c,aI rfl];refine⟨Maps.has_put_same a (show Go.WideAt.IsKeyLit (kl s.t.key)from trivial) _,λi hi=>?_⟩;have d:W.length=i:=aA hi;rw[uH a (show Go.WideAt.IsKeyLit (kl s.t.key)from trivial),d]
 ·have b:kl k≠kl s.t.key:=λh=>e (XK h).symm;rw[aG e,Option.or_none,Maps.has_put_other b];refine⟨(h k).1,λi hi=>?_⟩;rw[tX b];exact(h k).2 i hi
def mM:Nat->Bool:=λ_=>true
def nr(X:Nat->Bool)(g M:Nat)(vs vp:Value):Nat->Bool:=λb=>!(b==g)&&!(b==M)&&!(vs.ownBlock==some b)&&!(vp.ownBlock==some b)&&X b
theorem kr{g M:Nat}{vs vp:Value}{b:Nat}:nr X g M vs vp b=true<->b≠g/\b≠M/\vs.ownBlock≠some b/\vp.ownBlock≠some b/\X b=true:=by
 unfold nr;rw[ai,ai,ai,ai,bZ,bZ,bZ,bZ,aB,aB,aB,aB,lD,lD,lD]
structure Fr (X:Nat->Bool) (B g M:Nat) (vs vp:Value) (w:World) (vs' mK:Value) (w':World):Prop where
 below:Below B w w'
 size:w.heap.size<=w'.heap.size
 ET:∀b,nr mM g M vs vp b=true->b<w.heap.size->nr mM g M vs' mK b=true/\w'.heap[b]?=w.heap[b]?
theorem Fr.aR{B g M:Nat}{vs vp vs' mK:Value}{w w':World}(h:Fr X B g M vs vp w vs' mK w'):∀b,nr X g M vs vp b=true->b<w.heap.size->nr X g M vs' mK b=true/\w'.heap[b]?=w.heap[b]?:=λb hb a=>by
 obtain⟨c,a2,a3,a4,a5⟩:=kr.1 hb;obtain⟨c1,c2⟩:=h.ET b (kr.2 ⟨c,a2,a3,a4,rfl⟩) a;obtain⟨d1,d2,d3,d4,_⟩:=kr.1 c1;exact⟨kr.2 ⟨d1,d2,d3,d4,a5⟩,c2⟩
theorem Fr.refl(B g M:Nat)(vs vp:Value)(w:World):Fr X B g M vs vp w vs vp w:=⟨az _ _,ak _,λ_ h _=>⟨h,rfl⟩⟩
theorem Fr.t{B g M:Nat}{vs vp vs' mK Ve Vd:Value}{w w' w'':World}(h:Fr X B g M vs vp w vs' mK w')(h':Fr X B g M vs' mK w' Ve Vd w''):Fr X B g M vs vp w Ve Vd w'':=
 ⟨h.below.t h'.below,aD h.size h'.size,λb hb a=>by
   obtain⟨c,d⟩:=h.ET b hb a;obtain⟨e,f⟩:=h'.ET b c (dF a h.size);exact⟨e,f.t d⟩⟩
theorem Fr.ag{B g M:Nat}{vs vp vs' mK:Value}{w w' w'':World}(h:Fr X B g M vs vp w vs' mK w')(a:B<=w.heap.size)(hb:Below w'.heap.size w' w''):Fr X B g M vs vp w vs' mK w'':=
 h.t ⟨hb.m (aD a h.size),hb.size,λb c d=>⟨c,hb.block b d⟩⟩
theorem Fr.grown{B g M:Nat}{vs vp vs' mK:Value}{w w':World}{row:Option Nat}(h:B<=w.heap.size)(d:w.grownBy w' row)(f:∀k,row=some k->B<=k/\nr mM g M vs vp k=false)
 (a:vs'.ownBlock=vs.ownBlock\/vs'.ownBlock=some w.heap.size) (c:mK.ownBlock=vp.ownBlock\/mK.ownBlock=some w.heap.size):Fr X B g M vs vp w vs' mK w':=
 ⟨(az B w).grown d h (λk i=>(f k i).1),d.size,λb hb j=>by
   obtain⟨l,m,n,o,p⟩:=kr.1 hb;refine⟨kr.2 ⟨l,m,?_,?_,p⟩,d.block b j (λe=>by have:=(f b e.symm).2;rw[hb]at this;cases this)⟩
   ·rcases a with a|a;·rw[a];exact n
    ·rw[a];intro e;injection e with e;omega
   ·rcases c with c|c;·rw[c];exact o
    ·rw[c];intro e;injection e with e;omega⟩
theorem YS{g M:Nat}{vs vp:Value}:nr X g M vs vp g=false:=by
 rw[iX];intro h;exact(kr.1 h).1 rfl
theorem Zq{g M:Nat}{vs vp:Value}:nr X g M vs vp M=false:=by
 rw[iX];intro h;exact(kr.1 h).2.1 rfl
theorem Zr{g M k:Nat}{vs vp:Value}(h:vs.ownBlock=some k):nr X g M vs vp k=false:=by
 rw[iX];intro h';exact(kr.1 h').2.2.1 h
theorem YU{g M k:Nat}{vs vp:Value}(h:vp.ownBlock=some k):nr X g M vs vp k=false:=by
 rw[iX];intro h';exact(kr.1 h').2.2.2.1 h
theorem Ci(w:World)(a:Addr)(u:Value):w.grownBy (w.setCell a u) (some a.block):=
 ⟨rfl,rfl,rfl,by simp[World.setCell],λk _ b=>aM _ _ _ k (λe=>b (by rw[e]))⟩
theorem bN.fr{B g M:Nat}{vs vp vs' mK:Value}{w w':World}{v:Value}{t:T}(h:bN (nr X g M vs vp) w v t)(a:Fr X B g M vs vp w vs' mK w'):bN (nr X g M vs' mK) w' v t:=h.aR a.aR
def lG(S:Nat->Bool)(w:World)(A:Option Addr)(ns:List Nat):Prop:=
 ns.length=0\/∃b off,A=some ⟨b,off,none⟩/\S b=true/\∀i (h:i<ns.length),w.cell? ⟨b,off+i,none⟩=some (.int .i64 (ns[i]:Int))
theorem lG.aR{S S':Nat->Bool}{w w':World}{A:Option Addr}{ns:List Nat}(h:lG S w A ns)(c:∀b,S b=true->b<w.heap.size->S' b=true/\w'.heap[b]?=w.heap[b]?):lG S' w' A ns:=by
 rcases h with h|⟨b,off,e,hS,a⟩;·exact .inl h
 ·by_cases h0:ns.length=0;·exact .inl h0
  ·have d:=eP w _ (a 0 (by omega));obtain⟨f,g⟩:=c b hS d;exact .inr ⟨b,off,e,f,λi hi=>(dD g).t (a i hi)⟩
def qj(S:Nat->Bool)(w:World)(cs:List Value)(s:fC):Prop:=
 ∃A cap F a,cs=[.int .i64 s.t.aC,.string s.t.aJ,.slice A s.t.ay.length cap,.int .i64 (s.how:Int),.slice F s.jv.length a]/\bN S w (.agg #[.int .i64 s.t.aC,.string s.t.aJ,.slice A s.t.ay.length cap]) s.t/\lG S w F s.jv
theorem qj.aR{S S':Nat->Bool}{w w':World}{cs:List Value}{s:fC}(h:qj S w cs s)(a:∀b,S b=true->b<w.heap.size->S' b=true/\w'.heap[b]?=w.heap[b]?):qj S' w' cs s:=by
 obtain⟨A,cap,F,c,e,d,f⟩:=h;exact⟨A,cap,F,c,e,d.aR a,f.aR a⟩
theorem qj.len{S:Nat->Bool}{w:World}{cs:List Value}{s:fC}(h:qj S w cs s):cs.length=5:=by
 obtain⟨A,cap,F,a,e,_⟩:=h;rw[e];rfl
theorem qj.one{S:Nat->Bool}{w:World}{cs:List Value}{s:fC}(h:qj S w cs s):∀u∈cs,u.oneCell'=true:=by
 obtain⟨A,cap,F,a,e,_⟩:=h;subst e;intro u hu;simp at hu;rcases hu with rfl|rfl|rfl|rfl|rfl<;>rfl
def qV(S:Nat->Bool)(w:World)(dG:List (List Value))(W:List fC):Prop:=dG.length=W.length/\∀i (h:i<dG.length) (h':i<W.length),qj S w dG[i] W[i]
theorem qV.aR{S S':Nat->Bool}{w w':World}{dG:List (List Value)}{W:List fC}(h:qV S w dG W)(c:∀b,S b=true->b<w.heap.size->S' b=true/\w'.heap[b]?=w.heap[b]?):qV S' w' dG W:=
 ⟨h.1,λi a b=>(h.2 i a b).aR c⟩
theorem qV.push{S:Nat->Bool}{w:World}{dG:List (List Value)}{W:List fC}{cs:List Value}{s:fC}(h:qV S w dG W)(c:qj S w cs s):qV S w (dG++[cs]) (W++[s]):=by
 refine⟨by rw[aF,aF,h.1];rfl,λi a b=>?_⟩;by_cases hi:i<dG.length
 ·rw[dH hi,dH (by rw[<-h.1];exact hi)];exact h.2 i hi (by rw[<-h.1];exact hi)
 ·have d:i=dG.length:=(by simp at a;omega);subst d;have e:(dG++[cs])[dG.length]'a=cs:=(by simp);have f:(W++[s])[dG.length]'b=s:=(by rw[dm (by rw[h.1];exact ak _)];simp);rw[e,f];exact c
theorem qV.mark{S:Nat->Bool}{w:World}{dG:List (List Value)}{W:List fC}(h:qV S w dG W)(i:Nat):qV S w dG (Wb.mark W i):=by
 refine⟨by rw[ll];exact h.1,λj a b=>?_⟩;have hj:j<W.length:=(by rw[<-h.1];exact a);obtain⟨c,d,e,_⟩:=yH W i j b hj;have:=h.2 j a hj;unfold qj at this⊢;rw[c,d,e];exact this
structure gD (X:Nat->Bool) (B:Nat) (w:World) (g M:Nat) (vs vp:Value) (W:List fC):Prop where
 steps:∃dG,qV (nr X g M vs vp) w dG W/\w.ownsRow B 197 5 vs W.length dG.flatten
 part:w.ownsRow B 4 1 vp W.length (W.map λs=>Value.bool s.part)
 map:∃D n,w.ownsMap Tryz.prog 9 (plainElem (H:=Unit) Tryz.prog 3) M n D/\n<=W.length/\y9 D W
 box:w.heap[g]?=some (.cells #[vs,.map (some M),vp] 195 (0,0))
 low:B<=g/\B<=M
 size:W.length<=1048576
 fresh:∀b,w.heap.size<=b->X b=true
theorem gD.ag{B g M:Nat}{w w':World}{vs vp:Value}{W:List fC}(h:gD X B w g M vs vp W)(hb:Below w.heap.size w w'):gD X B w' g M vs vp W:=by
 obtain⟨⟨dG,d,e⟩,f,⟨D,n,i,j⟩,c,l,m,o⟩:=h;exact⟨⟨dG,d.aR λb a p=>⟨a,hb.block b p⟩,dz e hb⟩,dz f hb,⟨D,n,i.kept (row:=none) ⟨hb.os,hb.tape,hb.output,hb.size,λk q _=>hb.block k q⟩ (by simp),j⟩,
  (hb.block g (aZ.1 c).1).t c,l,m,λb a=>o b (aD hb.size a)⟩
theorem gD.lt{B g M:Nat}{w:World}{vs vp:Value}{W:List fC}(h:gD X B w g M vs vp W):g<w.heap.size/\B<=w.heap.size:=by
 have:=(aZ.1 h.box).1;have:=h.low.1;exact⟨by assumption,by omega⟩
theorem gD.cells{B g M:Nat}{w:World}{vs vp:Value}{W:List fC}(h:gD X B w g M vs vp W):w.cell? ⟨g,0,none⟩=some vs/\w.cell? ⟨g,1,none⟩=some (.map (some M))/\w.cell? ⟨g,2,none⟩=some vp/\w.frozen? ⟨g,0,none⟩=false/\w.frozen? ⟨g,2,none⟩=false:=by
 have hb:=h.box;refine⟨?_,?_,?_,?_,?_⟩<;>simp[World.cell?,World.frozen?,hb]
theorem gD.turn{c:Nat->Bool}{B g M:Nat}{w w':World}{vs vp:Value}{W:List fC}(h:gD X B w g M vs vp W)(d:∀b,nr X g M vs vp b=true->b<w.heap.size->c b=true/\w'.heap[b]?=w.heap[b]?)
 (a:∀b,(b=g\/b=M\/vs.ownBlock=some b\/vp.ownBlock=some b)->w'.heap[b]?=w.heap[b]?) (m:∀b,w'.heap.size<=b->c b=true):gD c B w' g M vs vp W:=by
 obtain⟨⟨dG,o,p⟩,q,⟨D,n,⟨s,clock,hb,r⟩,t⟩,u,x,y,_⟩:=h;have own:∀{e:TypeId} {size n:Nat} {v:Value} {xs:List Value},w.ownsRow B e size v n xs->(∀b,v.ownBlock=some b->w'.heap[b]?=w.heap[b]?)->w'.ownsRow B e size v n xs:=λh d=>by
  obtain⟨f,i⟩:=h;refine⟨f,?_⟩;rcases i with i|⟨j,cap,z,k,hb,A,rest⟩;·exact .inl i
  ·exact .inr ⟨j,cap,z,k,hb,(d j (by rw[k];rfl)).t A,rest⟩
 refine⟨⟨dG,o.aR λb l f=>?_,own p λb e=>a b (.inr (.inr (.inl e)))⟩,own q λb e=>a b (.inr (.inr (.inr e))),⟨D,n,⟨s,clock,(a M (.inr (.inl rfl))).t hb,r⟩,t⟩,(a g (.inl rfl)).t u,x,y,m⟩;obtain⟨C,a2,a3,a4,a5⟩:=kr.1 l;obtain⟨c1,c2⟩:=d b l f;exact⟨kr.2 ⟨C,a2,a3,a4,c1⟩,c2⟩
def mJ(X:Nat->Bool)(B g M:Nat)(w:World)(vs vp:Value)(W':List fC)(w':World):Prop:=∃vs' mK,gD X B w' g M vs' mK W'/\Fr X B g M vs vp w vs' mK w'
end
section
open Go.RowKit
theorem Tryz.YO:(Tryz.prog.info? 9).map (λi=>(i.zero,i.size,i.bytes))=some (some (.string ByteArray.empty),1,16):=by kernel_rfl
theorem OC(a:List T)(sv:Value)(base:Nat)(wr:World)(b:wr.ownsRow base 9 1 sv a.length (a.map λt=>.string (strOf t.gL)))(n:a.length<=262144)(o:(T.eX a).length<=3145728):
 Calls Tryz.prog 174 #[sv,.string ⟨#[44,32]⟩] wr λe w'=>e=.returned (.string (strOf (T.eX a)))/\Below wr.heap.size wr w':=by
 rcases b.2 with⟨rfl,h0⟩|⟨g,c,p,rfl,q,j,k,r,s,u⟩
 ·have:a=[]:=bQ h0;subst this;refine(Tryz.strings_Join_none none 0 ⟨#[44,32]⟩ wr).m ?_;rintro e w' ⟨rfl,rfl⟩;exact⟨rfl,az _ _⟩
 ·have d:(List.map (λx:ByteArray=>x.data.toList) (a.map λt=>strOf t.gL))=a.map T.gL:=by
   rw[l6];exact uG λt _=>tH t.gL
  have f:(Lib.join (a.map T.gL) (ByteArray.mk #[44,32]).data.toList)=T.eX a:=(T.KX a).symm;have l:∀(i:Nat) x,(a.map λt=>strOf t.gL)[i]?=some x->wr.cell? ⟨g,0+i,none⟩=some (.string x):=λi x h=>by
   have:=b.cells (g:=g) rfl i (.string x) (by
    rw[kR]at h⊢;obtain⟨t,m,rfl⟩:=nC.1 h;rw[m];rfl)
   rw[bS]at this;exact this
  have hj:=Tryz.strings_Join g 0 c (a.map λt=>strOf t.gL) ⟨#[44,32]⟩ wr l (aZ.1 j).1 (by rw[df];omega) (by rw[df];exact k) (by rw[d,f];omega);rw[d,f,df]at hj;exact hj
theorem X5:∀(N:Nat) (t:T) (v:Value) (w:World),t.bC<N->aO w v t->t.bC<=1048576->
 Calls Tryz.prog 138 #[v] w λe w'=>e=.returned (.string (strOf t.gL))/\Below w.heap.size w w':=by
 intro N;induction N with
 |zero=>intro t v w h;omega
 |succ N I=>
  intro t v w hN ht ai;cases ht with
  |mk k s A cap a U h1 h2 h3 h4 hA hU=>
   simp only[T.bC]at hN ai;have K:a.length<=262144:=(by have:=T.kN a;omega);have D:=T.FB a;have ak:s.size<=1048576:=(by omega);obtain⟨i0,av,ax,aA,aD⟩:=dV Tryz.YO;have L:=iB w (.int .i64 k) (.string s) (.slice A a.length cap) 29;have n:=af w (.cells #[.int .i64 k,.string s,.slice A a.length cap] 29);have M:=aK w (.cells #[.int .i64 k,.string s,.slice A a.length cap] 29);obtain⟨R,d⟩:∃R,strOf (T.mk k s a).gL=R:=⟨_,rfl⟩;rw[d];go_enter Tryz.func138,Tryz.ntmps138;go_upto_region 1 with fail;generalize w.alloc (.cells #[.int .i64 k,.string s,.slice A a.length cap] 29)=O at L n M⊢;obtain⟨x0,x1,x2⟩:=L;obtain⟨IH,BA,BU⟩:=ZR I hA hU;clear I hA hU;by_cases o:k=1
   ·subst o;have c:=aa (show s=R by rw[<-d];simp only[T.gL,nL];exact KT s);clear d;go_wp2_with fail;go_ret;exact⟨nO c.o,n⟩
   by_cases x:k=2
   ·subst x;have c:=aa (show(⟨#[63]⟩:ByteArray)++s=R by
     rw[<-d];simp only[T.gL];have:=Bn [63] s.data.toList;rw[<-KT s]at this;exact this)
    clear d o;go_wp2_with fail;go_ret;exact⟨nO c.o,n⟩
   have aF:(k==1)=false:=(by rw[aB];exact o);have aH:(k==2)=false:=(by rw[aB];exact x);have P:strOf (if k=3 then [60]++T.eX a++[62] else T.ko k++[40]++T.eX a++[41])=R:=(by rw[<-d];simp only[T.gL,aG o,aG x]);have E:=aa P;clear d P o x;have aI:=T.Jy k;go_wp2_with fail;go_loopw [3,21] (λv3 i wr=>∃(j:Nat) (sv:Value),j<=a.length/\i=.int .i64 j/\sv=v3/\wr.ownsRow (w.heap.size+1) 9 1 sv j ((a.take j).map λt=>.string (strOf t.gL))/\Below O.heap.size O wr) (λ_ i _=>a.length-(intOf i).toNat);case atStart=>exact⟨0,_,aL _,rfl,rfl,gZ _ _ _ _,az _ _⟩
   case round=>
    obtain⟨j,sv,hj,rfl,rfl,p,l⟩:=hrel;have f:=n.t (l.m n.size);by_cases r:j<a.length
    ·obtain⟨b,off,B1,C1,rfl,d0,d1,d2,hu⟩:=aO.cells r BA.o BU.o;obtain⟨e0,e1,e2⟩:=Z0 f d0 d1 d2;have hi:(j:Int)<(a.length:Int):=(by omega);obtain⟨HU,y⟩:=ZQ (hu.ag f) r;have u:=aa (show a[j].bC<N/\a[j].bC<=1048576 by have:=T.iQ a j r;omega);obtain⟨HOWN,z,F⟩:=ZR p l M;have aM:=aa (show(a.take j).map (λt=>Value.string (strOf t.gL))++[.string (strOf a[j].gL)]=(a.take (j+1)).map (λt=>Value.string (strOf t.gL)) by rw[aV r,fZ];rfl);have Q:=aa K;clear d0 d1 d2 hu hj f p l D ak;go_wp2_with fail;refine(IH.o _ _ _ u.o.1 (HU.o.ag (af _ _)) u.o.2).m ?_;rintro e B ⟨rfl,m⟩;replace m:=(af wr (.cells #[.int .i64 a[j].aC,.string a[j].aJ,.slice B1 a[j].ay.length C1] 29)).t (m.m (af _ _).size);obtain⟨S,aN⟩:=ZQ m (((dz HOWN.o m).alloc (.cells #[.string (strOf a[j].gL)] 9)));have V:=aa (show w.heap.size+1<=(B.alloc (.cells #[.string (strOf a[j].gL)] 9)).heap.size by rw[aK];have:=m.size;have:=z.o.size;have:=F.o;omega);clear m e0 e1 e2;go_wp2_with (at_builtin;refine lI _ rfl _ _ 53 rfl (w.heap.size+1) 9 i0 _ 1 16 eu av ax aA aD rfl (by omega) _ j _ rfl aN.o ⟨B.heap.size,0,none⟩ 1 1 [.string (strOf a[j].gL)] rfl rfl (cell_one_new _ _ _) (by simp[Value.oneCell']) (by omega) (by have:=y.o;have:=Q.o;unfold maxLen;omega) (by have:=y.o;have:=Q.o;omega) V.o _ rfl ?_;intro g aT w5 G X aP aQ);rw[aM.o]at G;have aR:=aa G;have aS:=aa ((z.o.t ((S.o.t ((af B (.cells #[.string (strOf a[j].gL)] 9)).m S.o.size)).m z.o.size)).grown X (by have:=V.o;have:=F.o;omega) (λq hq=>by have:=(HOWN.o.lt q hq).1;have:=F.o;omega));clear G X aP aQ;go_wp2_with fail;go_roundw;case rel=>exact⟨j+1,_,y.o,by go_num,rfl,aR.o,aS.o⟩
     case measure=>have:=y.o;simp[intOf];omega
    ·obtain rfl:j=a.length:=(by omega);rw[lC]at p;have hj:=OC a sv (w.heap.size+1) wr p K (by omega);have Y:=aa hj;obtain⟨J,Z⟩:∃J,T.eX a=J:=⟨_,rfl⟩;rw[Z]at Y E D;obtain⟨HB,z⟩:=ZQ f l;have z0:=ae l x0;have aU:(strOf J).size<=3145728:=(by rw[yU];omega);clear hj p f l r Z x0 x1 x2 D;go_wp2_with fail;refine Y.o.m ?_;rintro e B ⟨rfl,H⟩;have y0:=ae H z0;have u:=aa (HB.o.t (H.m HB.o.size));clear H z0;by_cases C:k=3
     ·subst C;have c:=aa (show(⟨#[60]⟩:ByteArray)++strOf J++⟨#[62]⟩=R by
       have:=E.o;simp only[nL]at this;rw[<-this];show(⟨[60].toArray⟩:ByteArray)++⟨J.toArray⟩++⟨[62].toArray⟩=_;rw[Bn,Bn];rfl)
      have s1:(1:Nat)+(strOf J).size<=9223372036854775807:=(by omega);clear aF aH;go_wp2_with fail;go_ret;exact⟨nO c.o,u.o⟩
     ·have aW:(k==3)=false:=(by rw[aB];exact C);have c:=aa (show(⟨(T.ko k).toArray⟩:ByteArray)++⟨#[40]⟩++strOf J++⟨#[41]⟩=R by
       have:=E.o;rw[aG C]at this;rw[<-this];show(⟨(T.ko k).toArray⟩:ByteArray)++⟨[40].toArray⟩++⟨J.toArray⟩++⟨[41].toArray⟩=_;rw[Bn,Bn,Bn];rfl)
      have hH:(⟨(T.ko k).toArray⟩:ByteArray).size<=5:=(by rw[IG];exact aI);have HH:=aa (λW=>Y0 k W);clear C;generalize(⟨(T.ko k).toArray⟩:ByteArray)=hd at c hH HH;go_wp2_with (go_at_call 175;refine(HH.o _).m ?_;rintro e w' ⟨rfl,rfl⟩);go_ret;exact⟨nO c.o,u.o⟩
theorem Dr(t:T)(v:Value)(w:World)(u:aO w v t)(f:t.bC<=1048576):
 Calls Tryz.prog 95 #[v] w λe w'=>e=.returned (.string (if t.fe=true then strOf t.gL else ⟨#[]⟩))/\Below w.heap.size w w':=by
 have g:=aa (λW h r c x y=>zX t v W h f r c x y);have z:=aa (λW h=>X5 (t.bC+1) t v W (by omega) h f);obtain⟨q,n⟩:∃q,t.fe=q:=⟨_,rfl⟩;rw[n]at g⊢;clear f n;generalize strOf t.gL=p at*;cases u with
 |mk k s A cap d U B C D E hA hU=>
  have F:=aa (aO.mk k s A cap d U B C D E hA hU);have o:=iB w (.int .i64 k) (.string s) (.slice A d.length cap) 29;have b:=af w (.cells #[.int .i64 k,.string s,.slice A d.length cap] 29);clear hA hU;go_enter Tryz.func95,Tryz.ntmps95;go_upto_region 1 with fail;generalize w.alloc (.cells #[.int .i64 k,.string s,.slice A d.length cap] 29)=I at o b⊢;obtain⟨x0,i,j⟩:=o;have l:=aa (F.o.ag b);cases q
  ·go_wp2_with fail;refine(g.o _ l.o false 76 rfl (.inr ⟨rfl,rfl⟩)).m ?_;rintro e G ⟨rfl,a⟩;replace a:=b.t (a.m b.size);clear x0 i j;go_wp2_with fail;go_ret;exact⟨rfl,a⟩
  ·go_wp2_with fail;refine(g.o _ l.o true 0 rfl (.inl ⟨rfl,rfl⟩)).m ?_;rintro e G ⟨rfl,a⟩;obtain⟨J,K,L⟩:=Z0 a x0 i j;have H:=aa (l.o.ag a);replace a:=b.t (a.m b.size);clear x0 i j;go_wp2_with fail;refine(z.o _ H.o).m ?_;rintro e w3 ⟨rfl,m⟩;replace m:=a.t (m.m a.size);go_wp2_with fail;go_ret;exact⟨rfl,m⟩
end
section
open Go.RowKit Go.Maps
variable {X:Nat->Bool}
def fI:Option Nat->Int
 |some i=>(i:Int)
 |none=>-1
theorem Hm:Keyed Tryz.prog 9:=string_keyed gB
theorem Vg(w:World):(zeroValue 3).run Tryz.prog w=.ok (.int .i64 0) w:=ji w
theorem PO(K:ByteArray)(h:K.size<=3145728):keyOf Tryz.prog 9 (.string K)=some (kl K):=xw (P:=Tryz.prog) gB (by unfold maxLen;omega)
theorem T.Ha(t:T)(h:t.bC<=1048576):t.key.size<=3145728:=by
 unfold T.key;have:=T.Au t;split;·rw[yU];omega
 ·exact aL _
theorem gD.look{B g M:Nat}{vs vp:Value}{W:List fC}{w:World}(h:gD X B w g M vs vp W)(K:ByteArray)(b:K.size<=3145728):∃c:Int,Sem.run Tryz.prog (Instr.lookup 91 (.map (some M)) (.string K) true) w=.ok (.tuple #[.int .i64 c,.bool (jk W K).isSome]) w/\∀i,jk W K=some i->c=(i:Int):=by
 obtain⟨D,n,d,_,f⟩:=h.map;obtain⟨j,k⟩:=f K;obtain⟨v,o,a,l⟩:=d.look_ok Hm oq (Vg w) (plainElem_int (H:=Unit) fU (by decide)) (PO K b);obtain⟨c,rfl,m,_⟩:=plainElem_int_inv fU l;rw[j]at a;refine⟨c,a,λi hi=>?_⟩;have e:DataW.lit (.int .i64 (i:Int))=(.lit (.int .i64 c):DataW Unit):=(k i hi).symm.t (bY Prod.fst m);injection e with e;injection e with _ e;exact e.symm
theorem gD.Bb{B g M:Nat}{vs vp:Value}{W:List fC}{w:World}(h:gD X B w g M vs vp W){K:ByteArray}(b:K.size<=3145728)(d:jk W K=none):∃c:Int,Sem.run Tryz.prog (Instr.lookup 91 (.map (some M)) (.string K) true) w=.ok (.tuple #[.int .i64 c,.bool false]) w:=by
 obtain⟨c,a,_⟩:=h.look K b;rw[d]at a;exact⟨c,a⟩
theorem gD.Rl{B g M:Nat}{vs vp:Value}{W:List fC}{w:World}(h:gD X B w g M vs vp W){K:ByteArray}{i:Nat}(d:K.size<=3145728)(a:jk W K=some i):Sem.run Tryz.prog (Instr.lookup 91 (.map (some M)) (.string K) true) w=.ok (.tuple #[.int .i64 i,.bool true]) w:=by
 obtain⟨c,b,hi⟩:=h.look K d;rw[hi i a,a]at b;exact b
theorem Qc{B g M:Nat}{vs vp:Value}{W:List fC}(t:T)(v:Value)(w:World)(h:gD X B w g M vs vp W)(y:aO w v t)(p:t.bC<=1048576):
 Calls Tryz.prog 211 #[.pointer (some ⟨g,0,none⟩),v] w λe w'=>e=.returned (.int .i64 (fI (jk W t.key)))/\Below w.heap.size w w':=by
 obtain⟨q,G⟩:=ZQ ((λ(W':World) (F:aO W' v t)=>(show Calls Tryz.prog 95 #[v] W' λe w'=>e=.returned (.string t.key)/\Below W'.heap.size W' w' from Dr t v W' F p))) y;obtain⟨l,a⟩:∃l,t.key=l:=⟨_,rfl⟩;have z:=aa (show l.size<=3145728 by rw[<-a];exact t.Ha p);rw[a]at q⊢;clear p a;cases y with
 |mk k s A cap c U H I J L hA hU=>
 go_enter Tryz.func211,Tryz.ntmps211;go_upto_region 1 with fail;have r:=jM.new w (.int .i64 k) (.string s) (.slice A c.length cap);have m:=af w (.cells #[.int .i64 k,.string s,.slice A c.length cap] 29);obtain⟨u,n,f⟩:=ZR (G.o.ag m) (h.ag m) m;clear h hA hU m H I J L;generalize w.alloc (.cells #[.int .i64 k,.string s,.slice A c.length cap] 29)=d at r u n f⊢;obtain⟨x0,C,D⟩:=r.cells;have E:=n.o.cells.2.1;clear r;cases o:jk W l with
 |none=>
  have j:=aa o;clear o;refine bX (S:=(λW=>W.cell? ⟨g,1,none⟩=some (.map (some M))/\W.cell? ⟨w.heap.size,0,none⟩=some (.int .i64 k)/\W.cell? ⟨w.heap.size,1,none⟩=some (.string s)/\W.cell? ⟨w.heap.size,2,none⟩=some (.slice A c.length cap)/\aO W (.agg #[.int .i64 k,.string s,.slice A c.length cap]) (.mk k s c)/\Below d.heap.size d W)) (by kernel_rfl) (show _/\_/\_/\_/\_/\_ from⟨E,x0,C,D,u.o.drew,(az _ d).drew⟩) (λhHeld=>?_);refine cB 0 _ ?_;refine cB 1 _ ?_;refine cB 2 _ ?_;refine cB 3 _ ?_;refine cB 4 _ ?_;(refine ve 5 λK a=>?_;go_simp;go_at_call 95;refine(q.o _ hHeld.2.2.2.2.1).m ?_;rintro e N ⟨rfl,b⟩;have x:=hHeld.2.2.2.2.2.t (b.m hHeld.2.2.2.2.2.size);obtain⟨c4,O⟩:=(n.o.ag x).Bb z.o j.o;refine mH a (⟨ae b hHeld.1,ae b hHeld.2.1,ae b hHeld.2.2.1,ae b hHeld.2.2.2.1,hHeld.2.2.2.2.1.ag b,hHeld.2.2.2.2.2.t (b.m hHeld.2.2.2.2.2.size)⟩) λhHeld=>?_;clear a K);(refine ve 6 λK a=>?_;go_simp;skip;refine mH a (hHeld) λhHeld=>?_;clear a K);refine cB 7 _ ?_;refine cB 8 _ ?_;refine cB 9 _ ?_;refine cB 10 _ ?_;refine cB 11 _ ?_;refine dR (by kernel_rfl) ?_ _;go_wp2_with fail;go_ret;exact⟨by rw[j.o];rfl,f.o.t (hHeld.2.2.2.2.2.m f.o.size)⟩
 |some i=>
  have j:=aa o;clear o;refine bX (S:=(λW=>W.cell? ⟨g,1,none⟩=some (.map (some M))/\W.cell? ⟨w.heap.size,0,none⟩=some (.int .i64 k)/\W.cell? ⟨w.heap.size,1,none⟩=some (.string s)/\W.cell? ⟨w.heap.size,2,none⟩=some (.slice A c.length cap)/\aO W (.agg #[.int .i64 k,.string s,.slice A c.length cap]) (.mk k s c)/\Below d.heap.size d W)) (by kernel_rfl) (show _/\_/\_/\_/\_/\_ from⟨E,x0,C,D,u.o.drew,(az _ d).drew⟩) (λhHeld=>?_);refine cB 0 _ ?_;refine cB 1 _ ?_;refine cB 2 _ ?_;refine cB 3 _ ?_;refine cB 4 _ ?_;(refine ve 5 λK a=>?_;go_simp;go_at_call 95;refine(q.o _ hHeld.2.2.2.2.1).m ?_;rintro e N ⟨rfl,b⟩;have x:=hHeld.2.2.2.2.2.t (b.m hHeld.2.2.2.2.2.size);obtain O:=(n.o.ag x).Rl z.o j.o;refine mH a (⟨ae b hHeld.1,ae b hHeld.2.1,ae b hHeld.2.2.1,ae b hHeld.2.2.2.1,hHeld.2.2.2.2.1.ag b,hHeld.2.2.2.2.2.t (b.m hHeld.2.2.2.2.2.size)⟩) λhHeld=>?_;clear a K);(refine ve 6 λK a=>?_;go_simp;skip;refine mH a (hHeld) λhHeld=>?_;clear a K);refine cB 7 _ ?_;refine cB 8 _ ?_;refine cB 9 _ ?_;refine cB 10 _ ?_;refine cB 11 _ ?_;refine dR (by kernel_rfl) ?_ _;go_wp2_with fail;go_ret;exact⟨by rw[j.o];rfl,f.o.t (hHeld.2.2.2.2.2.m f.o.size)⟩
end
section
open Go.RowKit
variable {X:Nat->Bool}
theorem oN{w w':World}{base:Nat}{e:TypeId}{size n:Nat}{v:Value}{xs:List Value}(h:w.ownsRow base e size v n xs)(d:∀b,v.ownBlock=some b->b<w.heap.size->w'.heap[b]?=w.heap[b]?):w'.ownsRow base e size v n xs:=by
 refine⟨h.1,?_⟩;rcases h.2 with h0|⟨g,cap,f,a,hb,c,rest⟩;·exact .inl h0
 ·exact .inr ⟨g,cap,f,a,hb,(d g (by rw[a];rfl) (aZ.1 c).1).t c,rest⟩
theorem vV{w:World}{base:Nat}{e:TypeId}{size n:Nat}{v:Value}{xs:List Value}(h:w.ownsRow base e size v n xs){b:Nat}(a:v.ownBlock=some b):base<=b/\b<w.heap.size/\∃c,w.heap[b]?=some (.cells c e (0,0)):=by
 rcases h.2 with⟨rfl,_⟩|⟨g,cap,c,rfl,hb,d,_⟩;·cases a
 ·injection a with a;subst a;exact⟨hb,(aZ.1 d).1,c,d⟩
theorem Es{w:World}{base:Nat}{e:TypeId}{size n:Nat}{v:Value}{xs:List Value}(h:w.ownsRow base e size v n xs):∃A c,v=.slice A n c:=by
 rcases h.2 with⟨rfl,rfl⟩|⟨g,cap,a,rfl,_⟩;·exact⟨_,_,rfl⟩
 ·exact⟨_,_,rfl⟩
theorem gD.shapes{B g M:Nat}{vs vp:Value}{W:List fC}{w:World}(h:gD X B w g M vs vp W):∃A c A' a,vs=.slice A W.length c/\vp=.slice A' W.length a:=by
 obtain⟨dG,_,b⟩:=h.steps;obtain⟨A,c,e⟩:=Es b;obtain⟨A',a,d⟩:=Es h.part;exact⟨A,c,A',a,e,d⟩
theorem qD{o:Option Obj}{c b:Array Value}{e a:TypeId}{z d:Nat×Nat}(h:o=some (.cells c e z))(h':o=some (.cells b a d))(f:e≠a):False:=by
 rw[h]at h';injection h' with h';injection h' with _ h';exact f h'
theorem Er{o:Option Obj}{c:Array Value}{e:TypeId}{z:Nat×Nat}{a:Array MapEntry}{k:Nat}(h:o=some (.cells c e z))(h':o=some (.map a k)):False:=by
 rw[h]at h';injection h' with h';cases h'
theorem JH{P:Program}{k:TypeId}{R:Value->Option (DataW Unit×List MemPlace)}{w:World}{b n:Nat}{D:DataW Unit}(h:w.ownsMap P k R b n D):∃a c,w.heap[b]?=some (.map a c):=by
 obtain⟨a,clock,hb,_⟩:=h;exact⟨a,clock,hb⟩
structure SS (B:Nat) (w:World) (g M:Nat) (vs vp:Value):Prop where
 s:∀b,vs.ownBlock=some b->B<=b/\b<w.heap.size/\b≠g/\b≠M/\vp.ownBlock≠some b
 p:∀b,vp.ownBlock=some b->B<=b/\b<w.heap.size/\b≠g/\b≠M/\vs.ownBlock≠some b
 gm:g≠M
 g:g<w.heap.size
 m:M<w.heap.size
theorem gD.apart{B g M:Nat}{vs vp:Value}{W:List fC}{w:World}(h:gD X B w g M vs vp W):SS B w g M vs vp:=by
 obtain⟨dG,_,j⟩:=h.steps;obtain⟨D,n,m,_,_⟩:=h.map;obtain⟨q,k,c⟩:=JH m;have l:=h.part;have hb:=h.box;refine⟨λb e=>?_,λb e=>?_,λe=>?_,(aZ.1 hb).1,(aZ.1 c).1⟩
 ·obtain⟨d,f,o,a⟩:=vV j e;refine⟨d,f,λx=>?_,λx=>?_,λx=>?_⟩;·subst x;exact qD a hb (by decide)
  ·subst x;exact Er a c
  ·obtain⟨_,_,p,i⟩:=vV l x;exact qD a i (by decide)
 ·obtain⟨d,f,o,a⟩:=vV l e;refine⟨d,f,λx=>?_,λx=>?_,λx=>?_⟩;·subst x;exact qD a hb (by decide)
  ·subst x;exact Er a c
  ·obtain⟨_,_,p,i⟩:=vV j x;exact qD i a (by decide)
 ·subst e;exact Er hb c
theorem uS{w:World}{g:Nat}{a b c:Value}{e:TypeId}(h:w.heap[g]?=some (.cells #[a,b,c] e (0,0)))(v:Value):(w.setCell ⟨g,0,none⟩ v).heap[g]?=some (.cells #[v,b,c] e (0,0))/\(w.setCell ⟨g,2,none⟩ v).heap[g]?=some (.cells #[a,b,v] e (0,0)):=by
 refine⟨?_,?_⟩<;>simp[World.setCell,Array.getElem?_modify,h]
theorem rO(w:World)(a:Addr)(v:Value):(w.setCell a v).heap.size=w.heap.size:=by simp[World.setCell]
theorem gD.X7{B g M:Nat}{vs vp vs' mK:Value}{W:List fC}{w4 w5 w6 w7 w9 kP:World}{t:T}{how:Nat}{jv:List Nat}{cs:List Value}{dG:List (List Value)}{D:DataW Unit}{n:Nat}
 (h:gD X B w4 g M vs vp W) (C:qV (nr X g M vs vp) w4 dG W) (E:y9 D W) (F:Maps.IsMap D) (hn:n<=W.length) (v:w4.mapTurned w5 M)
 (G:w5.ownsMap Tryz.prog 9 (plainElem (H:=Unit) Tryz.prog 3) M (n+1) (D.put (kl t.key) (.lit (.int .i64 (W.length:Int)))))
 (I:qj (nr X g M vs vp) w4 cs ⟨t,how,jv,false⟩) (J:jk W t.key=none) (az:W.length<1048576) (o:Below w5.heap.size w5 w6)
 (w:w7.ownsRow B 197 5 vs' (W.length+1) (dG.flatten++cs)) (q:w6.grownBy w7 vs.ownBlock) (y:vs'.ownBlock=vs.ownBlock\/vs'.ownBlock=some w6.heap.size) (f:Below (w7.setCell ⟨g,0,none⟩ vs').heap.size (w7.setCell ⟨g,0,none⟩ vs') w9)
 (z:kP.ownsRow B 4 1 mK (W.length+1) (W.map (λs=>Value.bool s.part)++[.bool false])) (i:w9.grownBy kP vp.ownBlock) (K:mK.ownBlock=vp.ownBlock\/mK.ownBlock=some w9.heap.size):
 mJ X B g M w4 vs vp (W++[⟨t,how,jv,false⟩]) (kP.setCell ⟨g,2,none⟩ mK):=by
 have d:=h.apart;have z4:=h.lt.2;have z5:=v.grown.size;have z6:=o.size;have z7:=q.size;have z9:=f.size;rw[rO]at z9;have aA:=i.size;have l:=h.low;have L:Fr X B g M vs vp w4 vs vp w5:=Fr.grown z4 v.grown (λk c=>by injection c with c;subst c;exact⟨l.2,Zq⟩) (.inl rfl) (.inl rfl);have N:=L.ag z4 o;have O:=N.t (Fr.grown (by omega) q (λk c=>⟨(d.s k c).1,Zr c⟩) y (.inl rfl));have P:=O.t (Fr.grown (vs':=vs') (mK:=vp) (by omega) (Ci w7 ⟨g,0,none⟩ vs') (λk c=>by injection c with c;subst c;exact⟨l.1,YS⟩) (.inl rfl) (.inl rfl));have Q:=P.ag z4 f;have R:=Q.t (Fr.grown (by omega) i (λk c=>⟨(d.p k c).1,YU c⟩) (.inl rfl) K);have r:=R.t (Fr.grown (vs':=vs') (mK:=mK) (by omega) (Ci kP ⟨g,2,none⟩ mK) (λk c=>by injection c with c;subst c;exact⟨l.1,YS⟩) (.inl rfl) (.inl rfl));have gl:=d.g;have S:w5.heap[g]?=_:=(v.grown.block g d.g (λe=>d.gm (by injection e))).t h.box;have U:w6.heap[g]?=_:=(o.block g (by omega)).t S;have V:vs.ownBlock≠some g:=λe=>(d.s g e).2.2.1 rfl;have Y:vp.ownBlock≠some g:=λe=>(d.p g e).2.2.1 rfl;have Z:vs.ownBlock≠some M:=λe=>(d.s M e).2.2.2.1 rfl;have aa:vp.ownBlock≠some M:=λe=>(d.p M e).2.2.2.1 rfl;have A:w7.heap[g]?=_:=(q.block g (by omega) (λe=>V e.symm)).t U;have b8:=(uS A vs').1;have b9:w9.heap[g]?=_:=(f.block g (by rw[rO];omega)).t b8;have Pz:kP.heap[g]?=_:=(i.block g (by omega) (λe=>Y e.symm)).t b9;have ae:=(uS Pz mK).2;have af:∀b,vs'.ownBlock=some b->b<w7.heap.size/\b≠g/\vp.ownBlock≠some b:=λb e=>by
  obtain⟨_,u,ai,j⟩:=vV w e;refine⟨u,λx=>by subst x;exact qD j A (by decide),λx=>?_⟩;rcases y with m|m;·exact(d.s b (m.symm.t e)).2.2.2.2 x
  ·rw[e]at m;injection m with m;have:=(d.p b x).2.1;omega
 have ak:(kP.setCell ⟨g,2,none⟩ mK).ownsRow B 197 5 vs' (W.length+1) (dG.flatten++cs):=oN w λb e hb=>by
  obtain⟨_,u,j⟩:=af b e;rw[aM _ _ _ _ u,i.block b (by omega) (λx=>j x.symm),f.block b (by rw[rO];omega),aM _ _ _ _ u]
 have av:(kP.setCell ⟨g,2,none⟩ mK).ownsRow B 4 1 mK (W.length+1) (W.map (λs=>Value.bool s.part)++[.bool false]):=oN z λb e hb=>by
  obtain⟨_,_,ai,j⟩:=vV z e;exact aM _ _ _ _ (λx=>by subst x;exact qD j Pz (by decide))
 have m6:=G.kept (row:=none) (w':=w6) (jr none o) (by simp);have m7:=m6.kept q (λe=>Z e.symm);have m8:=m7.setCell (a:=⟨g,0,none⟩) (λe=>d.gm e.symm) vs';have m9:=m8.kept (row:=none) (w':=w9) (jr none f) (by simp);have ax:=m9.kept i (λe=>aa e.symm);have ay:=ax.setCell (a:=⟨g,2,none⟩) (λe=>d.gm e.symm) mK;refine⟨vs',mK,⟨⟨dG++[cs],(C.aR r.aR).push (I.aR r.aR),?_⟩,?_,⟨_,n+1,ay,by simp;omega,E.push F ⟨t,how,jv,false⟩ J⟩,ae,l,by simp;omega,λb hb=>h.fresh b (aD r.size hb)⟩,r⟩
 ·have e:(dG++[cs]).flatten=dG.flatten++cs:=(by simp);rw[e,aF];exact ak
 ·rw[aF,fZ];exact av
end
section
open Go.RowKit
namespace T
def now(l:List UInt8)(i:Nat)(c:UInt8):Bool:=l[i]?==some c
def sZ(l:List UInt8):List UInt8->Nat->Except Nat Nat
 |[],i=>.ok i
 |c::cs,i=>if now l i c=true then sZ l cs (i+1) else .error i
def zU(l:List UInt8)(fr i:Nat):Bool:=low (l.getD i 0)||(decide (fr<i)&&Oo (l.getD i 0))
def nM(l:List UInt8)(fr:Nat):Nat->Nat->Nat
 |0,i=>i
 |n+1,i=>if i<l.length/\zU l fr i=true then nM l fr n (i+1) else i
def gN(l:List UInt8)(i:Nat):Nat:=nM l i 16 i
def lN(l:List UInt8)(i j:Nat):ByteArray:=strOf ((l.drop i).take (j-i))
def vO(s:ByteArray):Int:=if s=⟨#[104,97,115,104]⟩ then 4 else if s=⟨#[115,101,97,108]⟩ then 5 else if s=⟨#[115,105,103,110]⟩ then 6 else if s=⟨#[112,111,119,101,114]⟩ then 7 else 0
def yD(s:ByteArray):Nat:=if s=⟨#[104,97,115,104]⟩ then 1 else if s=⟨#[115,101,97,108]⟩ then 2 else if s=⟨#[115,105,103,110]⟩ then 2 else 0
def close(l:List UInt8)(k:Int)(c:UInt8):Option (Except Nat (List T×Nat))->Option (Except Nat (T×Nat))
 |none=>none
 |some (.error e)=>some (.error e)
 |some (.ok (a,j))=>match sZ l [c] j with
  |.error e=>some (.error e)
  |.ok j'=>some (.ok (.mk k ⟨#[]⟩ a,j'))
def more(t:T):Option (Except Nat (List T×Nat))->Option (Except Nat (List T×Nat))
 |none=>none
 |some (.error e)=>some (.error e)
 |some (.ok (a,j))=>some (.ok (t::a,j))
mutual
def oP(l:List UInt8):Nat->Nat->Option (Except Nat (T×Nat))
 |0,_=>none
 |f+1,i=>
  if now l i 60=true then close l 3 62 (lq l f 2 0 (i+1))
  else if now l i 63=true then (if gN l (i+1)=i+1 then some (.error (i+1)) else some (.ok (.mk 2 (lN l (i+1) (gN l (i+1))) [],gN l (i+1))))
  else if gN l i=i then some (.error i)
  else if vO (lN l i (gN l i))=0\/now l (gN l i) 40=false then some (.ok (.mk 1 (lN l i (gN l i)) [],gN l i))
  else close l (vO (lN l i (gN l i))) 41 (lq l f (yD (lN l i (gN l i))) 0 (gN l i+1))
def lq(l:List UInt8):Nat->Nat->Nat->Nat->Option (Except Nat (List T×Nat))
 |0,_,_,_=>none
 |f+1,n,c,i=>match oP l f i with
  |none=>none
  |some (.error e)=>some (.error e)
  |some (.ok (t,j))=>
   if (0<n/\c+1=n)\/(n=0/\now l j 44=false) then some (.ok ([t],j))
   else match sZ l [44,32] j with
    |.error e=>some (.error e)
    |.ok j'=>more t (lq l f n (c+1) j')
end
theorem KA{l:List UInt8}{i:Nat}{c:UInt8}(h:now l i c=true):i<l.length:=by
 unfold now at h;rcases cu i l.length with g|g;·exact g
 ·rw[ig g]at h;cases h
theorem yJ{l:List UInt8}:∀(q:List UInt8) (i j:Nat),sZ l q i=.ok j->j=i+q.length/\(q≠[]->j<=l.length)
 |[],i,j,h=>by injection h with h;subst h;simp
 |c::cs,i,j,h=>by
  simp only[sZ]at h;split at h
  ·rename_i a;obtain⟨b,e⟩:=yJ cs (i+1) j h;refine⟨by simp;omega,λ_=>?_⟩;have:=KA a;cases cs with
   |nil=>simp at b;omega
   |cons d f=>exact e (by simp)
  ·cases h
theorem Ht(l:List UInt8)(fr:Nat):∀n i,i<=nM l fr n i/\nM l fr n i<=i+n/\(i<=l.length->nM l fr n i<=l.length)
 |0,i=>by simp[nM]
 |n+1,i=>by
  simp only[nM];split
  ·rename_i h;obtain⟨b,c,a⟩:=Ht l fr n (i+1);exact⟨by omega,by omega,λ_=>a (by omega)⟩
  ·exact⟨ak _,by omega,λh=>h⟩
theorem Dj(l:List UInt8)(i j:Nat)(h:i<=j)(h':j<=l.length):(lN l i j).size=j-i:=by
 unfold lN;rw[yU,aW,dO];omega
theorem vS(l:List UInt8)(i:Nat):i<=gN l i/\gN l i<=i+16/\(i<=l.length->gN l i<=l.length):=Ht l i 16 i
theorem Cn{l:List UInt8}{i:Nat}(h:gN l i≠i):gN l i<=l.length:=by
 obtain⟨b,c,a⟩:=vS l i;rcases Nat.le_total i l.length with g|g;·exact a g
 ·exfalso;apply h;unfold gN nM;rw[aG (by omega)]
theorem Lu{l:List UInt8}{k:Int}{c:UInt8}{r:Option (Except Nat (List T×Nat))}{t:T}{j:Nat}(h:close l k c r=some (.ok (t,j))):∃a j',r=some (.ok (a,j'))/\sZ l [c] j'=.ok j/\t=.mk k ⟨#[]⟩ a:=by
 unfold close at h;split at h;·cases h
 ·cases h
 ·rename_i a j';split at h;·cases h
  ·rename_i b hj;simp only[iD,pX,jS]at h;obtain⟨rfl,rfl⟩:=h;exact⟨a,j',rfl,hj,rfl⟩
theorem VN{t:T}{r:Option (Except Nat (List T×Nat))}{a:List T}{j:Nat}(h:more t r=some (.ok (a,j))):∃b,r=some (.ok (b,j))/\a=t::b:=by
 unfold more at h;split at h;·cases h
 ·cases h
 ·simp only[iD,pX,jS]at h;obtain⟨rfl,rfl⟩:=h;exact⟨_,rfl,rfl⟩
theorem RI(l:List UInt8):∀f,(∀i t j,oP l f i=some (.ok (t,j))->i<j/\j<=l.length/\t.bC<=5*(j-i))/\(∀n c i d j,lq l f n c i=some (.ok (d,j))->i<j/\j<=l.length/\bE d<=5*(j-i)/\d≠[])
 |0=>⟨λ_ _ _ h=>(by cases h),λ_ _ _ _ _ h=>(by cases h)⟩
 |f+1=>by
  obtain⟨r,k⟩:=RI l f;refine⟨λi t j h=>?_,λn c i d j h=>?_⟩
  ·simp only[oP]at h;split at h
   ·obtain⟨d,j',a,b,rfl⟩:=Lu h;obtain⟨m,o,q,_⟩:=k _ _ _ _ _ a;obtain⟨e,g⟩:=yJ _ _ _ b;have:=g (by simp);simp at e;refine⟨by omega,this,?_⟩;simp only[bC];show 0+4+_<=_;omega
   ·split at h
    ·split at h;·cases h
     ·rename_i p;simp only[iD,pX,jS]at h;obtain⟨rfl,rfl⟩:=h;have a:=vS l (i+1);have b:=Cn p;refine⟨by omega,b,?_⟩;simp only[bC,bE,Dj l _ _ a.1 b];omega
    ·split at h;·cases h
     ·rename_i p;have a:=vS l i;have b:=Cn p;split at h
      ·simp only[iD,pX,jS]at h;obtain⟨rfl,rfl⟩:=h;refine⟨by omega,b,?_⟩;simp only[bC,bE,Dj l _ _ a.1 b];omega
      ·obtain⟨d,j',s,u,rfl⟩:=Lu h;obtain⟨m,o,q,_⟩:=k _ _ _ _ _ s;obtain⟨e,g⟩:=yJ _ _ _ u;have:=g (by simp);simp at e;refine⟨by omega,this,?_⟩;simp only[bC];show 0+4+_<=_;omega
  ·simp only[lq]at h;split at h;·cases h
   ·cases h
   ·rename_i t j' v;obtain⟨m,o,q⟩:=r _ _ _ v;split at h
    ·simp only[iD,pX,jS]at h;obtain⟨rfl,rfl⟩:=h;refine⟨m,o,by simp only[bE];omega,by simp⟩
    ·split at h;·cases h
     ·rename_i x w;obtain⟨y,a,rfl⟩:=VN h;obtain⟨e,g⟩:=yJ _ _ _ w;obtain⟨c1,c2,c3,_⟩:=k _ _ _ _ _ a;simp at e;refine⟨by omega,c2,by simp only[bE];omega,by simp⟩
theorem Ut(l:List UInt8):∀f,(∀i,i<=l.length->2*(l.length-i)+1<=f->oP l f i≠none)/\(∀n c i,i<=l.length->2*(l.length-i)+2<=f->lq l f n c i≠none)
 |0=>⟨λi _ h=>by omega,λn c i _ h=>by omega⟩
 |f+1=>by
  obtain⟨d,a⟩:=Ut l f;have b:∀k c r,r≠none->close l k c r≠none:=λk c r e=>by
   unfold close;split;·exact absurd rfl e
   ·simp
   ·split<;>simp
  refine⟨λi hi g=>?_,λn c i hi g=>?_⟩
  ·simp only[oP];split
   ·rename_i h;have:=KA h;exact b _ _ _ (a _ _ _ (by omega) (by omega))
   ·split;·split<;>simp
    ·split;·simp
     ·rename_i v;have w:=vS l i;split;·simp
      ·rename_i m;have:=KA (show now l (gN l i) 40=true by rcases bR (now l (gN l i) 40)with h|h;exact h;exact absurd (.inr h) m);exact b _ _ _ (a _ _ _ (by omega) (by omega))
  ·simp only[lq];split;·rename_i h;exact absurd h (d i hi (by omega))
   ·simp
   ·rename_i t j o;obtain⟨x,y,_⟩:=(RI l f).1 _ _ _ o;split;·simp
    ·split;·simp
     ·rename_i j' p;obtain⟨q,s⟩:=yJ _ _ _ p;have:=s (by simp);simp at q;have u:=a n (c+1) j' (by omega) (by omega);unfold more;split;·rename_i h;exact absurd h u
      ·simp
      ·simp
def parse(s:ByteArray):T×Nat×Int:=
 if 1024<s.size then (.mk 0 ⟨#[]⟩ [],0,72)
 else match oP s.data.toList (2*s.size+1) 0 with
  |none=>(.mk 0 ⟨#[]⟩ [],0,0)
  |some (.error e)=>(.mk 0 ⟨#[]⟩ [],e,71)
  |some (.ok (t,j))=>if j<s.size then (.mk 0 ⟨#[]⟩ [],j,71) else if t.fe=true then (t,0,0) else (.mk 0 ⟨#[]⟩ [],0,76)
end T
end
section
namespace T
theorem Xw(a q b:List UInt8)(j:Nat)(h:j<q.length):(a++q++b)[a.length+j]?=q[j]?:=by
 rw[dA,bD (by omega),mV,bP h]
theorem Bg(a b:List UInt8)(c d:UInt8):now (a++c::b) a.length d=(c==d):=by
 unfold now;rw[bD (ak _),qQ];simp
theorem Dl:∀(q a b:List UInt8),sZ (a++q++b) q a.length=.ok (a.length+q.length)
 |[],a,b=>by simp[sZ]
 |c::cs,a,b=>by
  have e:a++(c::cs)++b=(a++[c])++cs++b:=(by simp);have h:=Dl cs (a++[c]) b;simp only[sZ];rw[show now (a++(c::cs)++b) a.length c=true by rw[dA,iT,Bg];simp,aI rfl,e];rw[aF]at h;simp only[bu,fA]at h⊢;rw[h];congr 1;omega
def Stop:List UInt8->Prop
 |[]=>True
 |c::_=>low c=false/\Oo c=false
theorem Fb(a s b:List UInt8)(e:zh s=true)(hb:Stop b):∀n k,k<=s.length->s.length<=k+n->nM (a++s++b) a.length n (a.length+k)=a.length+s.length
 |0,k,f,g=>by simp only[nM];omega
 |n+1,k,f,g=>by
  simp only[nM];rcases cu k s.length with h|h
  ·have d:(a++s++b).getD (a.length+k) 0=s.getD k 0:=by
    rw[dC,dC,Xw a s b k h]
   have i:zU (a++s++b) a.length (a.length+k)=true:=by
    have:=cz.1 e k (dU.2 h);unfold zt at this;unfold zU;rw[d,show decide (a.length<a.length+k)=decide (0<k) by rw[decide_eq_decide];omega];exact this
   rw[aI ⟨by simp;omega,i⟩,iw];exact Fb a s b e hb n (k+1) h (by omega)
  ·have j:k=s.length:=(by omega);subst j;cases b with
   |nil=>rw[aG (by simp)]
   |cons c r=>
    have d:(a++s++c::r).getD (a.length+s.length) 0=c:=by
     rw[dC,bD (by simp),aF,qQ];rfl
    rw[aG];rintro⟨_,h⟩;unfold zU at h;rw[d,hb.1,hb.2]at h;simp at h
theorem zT(a s b:List UInt8)(c:zh s=true)(d:s.length<=16)(hb:Stop b):gN (a++s++b) a.length=a.length+s.length:=by
 have:=Fb a s b c hb 16 0 (aL _) (by omega);exact this
theorem zV(a s b:List UInt8):lN (a++s++b) a.length (a.length+s.length)=strOf s:=by
 unfold lN;rw[dA,zw,mV,vC]
end T
end
end Go.Proofs.YtaciciokmpbkkaaGreatDoor
