import Derived.Test.YtaciciokmpbkkaaGreatDoorWebG3
set_option maxRecDepth 100000
set_option maxHeartbeats 16000000
namespace Go.Proofs.YtaciciokmpbkkaaGreatDoor
section
open Go.RowKit
namespace T
mutual
def vars:T->List ByteArray
 |.mk k s a=>(if k=2 then [s] else [])++jv a
def jv:List T->List ByteArray
 |[]=>[]
 |t::r=>vars t++jv r
end
mutual
theorem Je:∀t:T,t.vars.length<=t.bE
 |.mk k s a=>by
  have:=qJ a;simp only[vars,bE,aF];split<;>simp<;>omega
theorem qJ:∀l:List T,(jv l).length<=bJ l
 |[]=>by simp[jv,bJ]
 |t::r=>by have:=Je t;have:=qJ r;simp only[jv,bJ,aF];omega
end
theorem Et(l:List T):∀(i:Nat) (h:i<l.length),jv (l.take (i+1))=jv (l.take i)++l[i].vars:=by
 induction l with
 |nil=>intro i h;simp at h
 |cons t r a=>
  intro i h;cases i with
  |zero=>simp[jv]
  |succ i=>simp only[gJ,jv,fJ];rw[a i aaD,dC]
theorem Dn(l:List T):∀(i:Nat) (h:i<l.length),bJ (l.take i)+l[i].bE<=bJ l:=by
 induction l with
 |nil=>intro i h;simp at h
 |cons t r a=>
  intro i h;cases i with
  |zero=>simp only[iM,bJ,dI];omega
  |succ i=>have:=a i aaD;simp only[gJ,bJ,fJ];omega
end T
def under(B:Nat):Nat->Bool:=λb=>decide (b<B)
theorem aS.jT{w:World}{v:Value}{t:T}(h:aS w v t):bI (under w.heap.size) w v t:=
 aS.aR h λp a=>by
  rw[fO];obtain⟨u,hu⟩:=eO.1 a;rw[aJ (show under w.heap.size p.block=true from aM (eQ w p hu))]
theorem bI.ED{B:Nat}{w w':World}{v:Value}{t:T}(h:bI (under B) w v t)(hb:Below B w w'):bI (under B) w' v t:=
 h.aR λb a _=>⟨a,hb.block b (ak a)⟩
theorem bI.cells{B:Nat}{w:World}{A:Option Addr}{a:List T}{U:Nat->Value×Value×Value}{i:Nat}(h:i<a.length)
 (hA:a.length=0\/∃b off,A=some ⟨b,off,none⟩/\∀i,i<a.length->(only w (under B)).cell? ⟨b,off+i*3,none⟩=some (U i).1/\(only w (under B)).cell? ⟨b,off+i*3+1,none⟩=some (U i).2.1/\(only w (under B)).cell? ⟨b,off+i*3+2,none⟩=some (U i).2.2)
 (hU:∀i (h:i<a.length),aS (only w (under B)) (.agg #[(U i).1,(U i).2.1,(U i).2.2]) a[i]):
 ∃b off A' c,b<B/\A=some ⟨b,off,none⟩/\w.cell? ⟨b,off+i*3,none⟩=some (.int .i64 a[i].aA)/\w.cell? ⟨b,off+i*3+1,none⟩=some (.string a[i].aI)/\
  w.cell? ⟨b,off+i*3+2,none⟩=some (.slice A' a[i].ay.length c)/\bI (under B) w (.agg #[.int .i64 a[i].aA,.string a[i].aI,.slice A' a[i].ay.length c]) a[i]:=by
 obtain⟨b,off,A',c,e,f,c1,c2,hu⟩:=aS.cells h hA hU;have key:∀{q:Addr} {v:Value},(only w (under B)).cell? q=some v->q.block<B/\w.cell? q=some v:=λ{q v} d=>by
  rw[fO]at d;split at d;·rename_i hS;exact⟨ak hS,d⟩
  ·cases d
 exact⟨b,off,A',c,(key f).1,e,(key f).2,(key c1).2,(key c2).2,hu⟩
theorem sS{B:Nat}{w w':World}{b o:Nat}{v:Value}(h:Below B w w')(hb:b<B)(a:w.cell? ⟨b,o,none⟩=some v):w'.cell? ⟨b,o,none⟩=some v:=(h.cell (p:=⟨b,o,none⟩) hb).t a
theorem Tryz.KZ:(Tryz.prog.info? 9).map (λi=>(i.zero,i.size,i.bytes))=some (some (.string ByteArray.empty),1,16):=by kernel_rfl
theorem Src.QG(w:World)(s:ByteArray):Src (w.alloc (.cells #[.string s] 9)) 1 (some ⟨w.heap.size,0,none⟩) 1 [.string s]:=by
 refine⟨rfl,.inr ⟨_,0,rfl,λj u hu=>?_⟩⟩;rw[eP]
 match j,hu with
 |0,hu=>
  have h:=bP w (.cells #[.string s] 9);have e:(w.alloc (.cells #[.string s] 9)).cell? ⟨w.heap.size,0,none⟩=some (.string s):=(by unfold World.cell?;rw[h];rfl);exact e.t hu
theorem acS{p:Prop}(h:p:=by
 obtain⟨b,off,J,K,C,rfl,d0,d1,d2,hu⟩:=bI.cells y HA.o HU.o;have Z:=sS n C d0;have e1:=sS n C d1;have e2:=sS n C d2;have hi:(j:Int)<(a.length:Int):=aar;have z:=ae wr (.cells #[.int .i64 a[j].aA,.string a[j].aI,.slice J a[j].ay.length K] 29);obtain⟨ag,ah,ak⟩:=aac ((hu.ED n).ED (z.m q)) (dG g z) (n.t (z.m q));have M:=aa (show base<=(wr.alloc (.cells #[.int .i64 a[j].aA,.string a[j].aI,.slice J a[j].ay.length K] 29)).heap.size by rw[aK];omega);have D:=aa (show a[j].bE<N/\a[j].bE<=1048576/\(c++T.jv (a.take j)).length+a[j].bE<=4194304 by
  have h1:=T.Dn a j y;have h2:=T.qJ (a.take j);have h3:=x.o;rw[aF];omega)
 have av:=aa (show c++T.jv (a.take j)++a[j].vars=c++T.jv (a.take (j+1)) by rw[T.Et a j y,dC]);have O:=aa y;clear d0 d1 d2 hu z g n q hj;go_wp2_with fail;refine(IH.o _ _ _ base _ _ D.o.1 ag.o D.o.2.1 ah.o D.o.2.2 M.o).m ?_;rintro e w5 ⟨l5,rfl,E,F⟩;rw[av.o]at E;obtain⟨az,aB,aC⟩:=aac E (ak.o.t F) (aG M.o (show _<=w5.heap.size from F.size));clear E F Z e1 e2;go_wp2_with fail;go_roundw;case rel=>exact⟨j+1,O.o,aaw,az.o,aB.o,aC.o⟩
 case measure=>exact aax O.o):p:=h
theorem acU{p:Prop}(h:p:=by
 obtain⟨aM,aN⟩:=aab g n;clear g n q;go_wp2_with fail;go_ret;refine⟨_,rfl,?_,aN.o⟩;rw[<-aL.o];exact aM.o):p:=h
theorem JW:∀(N:Nat) (t:T) (v:Value) (w:World) (base:Nat) (m:Value) (L:List ByteArray),t.bE<N->bI (under base) w v t->t.bE<=1048576->
 w.ownsRow base 9 1 m L.length (L.map .string)->L.length+t.bE<=4194304->base<=w.heap.size->
 Calls Tryz.prog 124 #[m,v] w λe w'=>∃aO,e=.returned aO/\w'.ownsRow base 9 1 aO (L++t.vars).length ((L++t.vars).map .string)/\Below base w w':=by
 intro N;induction N with
 |zero=>intro t v w base m L h;omega
 |succ N ih=>
  intro t v w base m L hN ht aS g aU aV;cases ht with
  |mk k s A cap a U h1 h2 h3 h4 hA hU=>
   simp only[T.bE]at hN aS aU;have bq:a.length<=262144:=(aaz (T.lq a));obtain⟨i0,aW,aX,aY,aZ⟩:=dU Tryz.KZ;have aP:=iQ w (.int .i64 k) (.string s) (.slice A a.length cap) 29;have R:=ae w (.cells #[.int .i64 k,.string s,.slice A a.length cap] 29);obtain⟨HA,HU,IH,o⟩:=aad hA hU ih (show ∀b,m.ownBlock=some b->base<=b/\b<w.heap.size from g.lt);have o:=aa (show ∀b,m.ownBlock=some b->base<=b/\b<w.heap.size from g.lt);have o:=aa (show ∀b,m.ownBlock=some b->base<=b/\b<w.heap.size from g.lt);have o:=aa (show ∀b,m.ownBlock=some b->base<=b/\b<w.heap.size from g.lt);have o:=aa (show ∀b,m.ownBlock=some b->base<=b/\b<w.heap.size from g.lt);have o:=aa (show ∀b,m.ownBlock=some b->base<=b/\b<w.heap.size from g.lt);have o:=aa (show ∀b,m.ownBlock=some b->base<=b/\b<w.heap.size from g.lt);obtain⟨o,HOWN,S⟩:=aac (show ∀b,m.ownBlock=some b->base<=b/\b<w.heap.size from g.lt) (dG g R) (R.m aV);have G:=aa (show base<=(w.alloc (.cells #[.int .i64 k,.string s,.slice A a.length cap] 29)).heap.size by rw[aK];omega);clear hA hU ih g;go_enter Tryz.func124,Tryz.ntmps124;go_upto_region 1 with fail;generalize w.alloc _=w1 at aP R HOWN S G⊢;obtain⟨x0,x1,x2⟩:=aP;have B:=aa (show m.ownBlock≠some w.heap.size from λe=>aaz ((o.o _ e).2));have p:∃c:List ByteArray,c=L++(if k=2 then [s] else []):=⟨_,rfl⟩;obtain⟨c,d⟩:=p;have r:=aa d;have f:c.length+T.bJ a<=4194304:=aby;have x:=aa f;clear f;have B:=aa (show m.ownBlock≠some w.heap.size from λe=>aaz ((o.o _ e).2));have p:∃c:List ByteArray,c=L++(if k=2 then [s] else []):=⟨_,rfl⟩;obtain⟨c,d⟩:=p;have r:=aa d;have f:c.length+T.bJ a<=4194304:=aby;have x:=aa f;clear f;have B:=aa (show m.ownBlock≠some w.heap.size from λe=>aaz ((o.o _ e).2));have p:∃c:List ByteArray,c=L++(if k=2 then [s] else []):=⟨_,rfl⟩;obtain⟨c,d⟩:=p;have r:=aa d;have f:c.length+T.bJ a<=4194304:=aby;have x:=aa f;clear f;have B:=aa (show m.ownBlock≠some w.heap.size from λe=>aaz ((o.o _ e).2));have p:∃c:List ByteArray,c=L++(if k=2 then [s] else []):=⟨_,rfl⟩;obtain⟨c,d⟩:=p;have r:=aa d;have f:c.length+T.bJ a<=4194304:=aby;have x:=aa f;clear f;have B:=aa (show m.ownBlock≠some w.heap.size from λe=>aaz ((o.o _ e).2));have p:∃c:List ByteArray,c=L++(if k=2 then [s] else []):=⟨_,rfl⟩;obtain⟨c,d⟩:=p;have r:=aa d;have f:c.length+T.bJ a<=4194304:=aby;have x:=aa f;clear f;have B:=aa (show m.ownBlock≠some w.heap.size from λe=>aaz ((o.o _ e).2));have p:∃c:List ByteArray,c=L++(if k=2 then [s] else []):=⟨_,rfl⟩;obtain⟨c,d⟩:=p;have r:=aa d;have f:c.length+T.bJ a<=4194304:=aby;have x:=aa f;clear f;have B:=aa (show m.ownBlock≠some w.heap.size from λe=>aaz ((o.o _ e).2));have p:∃c:List ByteArray,c=L++(if k=2 then [s] else []):=⟨_,rfl⟩;obtain⟨c,d⟩:=p;have r:=aa d;have f:c.length+T.bJ a<=4194304:=aby;have x:=aa f;clear f;have B:=aa (show m.ownBlock≠some w.heap.size from λe=>aaz ((o.o _ e).2));have p:∃c:List ByteArray,c=L++(if k=2 then [s] else []):=⟨_,rfl⟩;obtain⟨c,d⟩:=p;have r:=aa d;have f:c.length+T.bJ a<=4194304:=aby;have x:=aa f;clear f;by_cases P:k=2
   ·subst P;have bf:=aa (show c=L++[s] by rw[d,aJ rfl]);clear d;have I:=ae w1 (.cells #[.string s] 9);have y2:=af I x2;have bg:=I.size;have bi:=aa (show ∀u∈[Value.string s],u.oneCell'=true from λu hu=>by rw[bD]at hu;subst hu;rfl);go_wp2_with (at_builtin;refine fq _ rfl _ _ 53 rfl base 9 i0 _ 1 16 jX aW aX aY aZ rfl aar _ _ _ rfl (dG HOWN.o I) _ 1 1 [.string s] rfl (Src.QG _ _) bi.o aaS aar (aaz G.o) ?_;intro A8 c8 V aQ Q bn;have bu:=Q.cell y2 (λe=>B.o e.symm));have H:V.ownsRow base 9 1 (.slice A8 (L.length+1) c8) c.length (c.map .string):=by
     rw[bf.o];simpa using aQ
    have n:Below base w V:=(S.o.t (I.m G.o)).grown Q (aaz G.o) (λb hb=>(o.o _ hb).1);have q:base<=V.heap.size:=(aaA Q.size G.o);clear aQ Q bn I bg x0 x1 x2 y2;generalize Value.slice A8 (L.length+1) c8=bv at H⊢;obtain⟨W,X,Y⟩:=aac H n q;clear H n q;go_loopw [18,0] (λi l wr=>∃j:Nat,j<=a.length/\i=.int .i64 j/\wr.ownsRow base 9 1 l (c++T.jv (a.take j)).length ((c++T.jv (a.take j)).map .string)/\Below base w wr/\base<=wr.heap.size) (λi _ _=>a.length-(intOf i).toNat);case atStart=>exact⟨0,aT _,rfl,by simpa[T.jv]using W.o,X.o,Y.o⟩
    case round=>
     obtain⟨j,hj,rfl,g,n,q⟩:=hrel;by_cases y:j<a.length
     ·exact acS
     ·obtain rfl:j=a.length:=aar;rw[bG (ax _)]at g;have aL:=aa (show c++T.jv a=L++(T.mk 2 s a).vars by rw[r.o];simp[T.vars]);exact acU
   ·have aR:c=L:=(by rw[d,aH P,dK]);have bz:(k==2)=false:=(by rw[aD];exact P);have H:w1.ownsRow base 9 1 m c.length (c.map .string):=(by rw[aR];exact HOWN.o);have W:=aa H;have X:=S;have Y:=G;clear H d aR P;go_wp2_with fail;go_loopw [18,0] (λi l wr=>∃j:Nat,j<=a.length/\i=.int .i64 j/\wr.ownsRow base 9 1 l (c++T.jv (a.take j)).length ((c++T.jv (a.take j)).map .string)/\Below base w wr/\base<=wr.heap.size) (λi _ _=>a.length-(intOf i).toNat);case atStart=>exact⟨0,aT _,rfl,by simpa[T.jv]using W.o,X.o,Y.o⟩
    case round=>
     obtain⟨j,hj,rfl,g,n,q⟩:=hrel;by_cases y:j<a.length
     ·exact acS
     ·obtain rfl:j=a.length:=aar;rw[bG (ax _)]at g;have aL:=aa (show c++T.jv a=L++(T.mk k s a).vars by rw[r.o];simp[T.vars]);exact acU
end
section
open Go.RowKit
variable {X:Nat->Bool}
def jl(W:List fG)(k:ByteArray):Option Nat:=W.findIdx? λs=>decide (s.t.key=k)
theorem Mt(W:List fG)(t:T):Wb.find W t=jl W t.key:=rfl
theorem OZ(W:List fG)(s:fG)(k:ByteArray):jl (W++[s]) k=(jl W k).or (if s.t.key=k then some W.length else none):=by
 unfold jl;rw[List.findIdx?_append];congr 1;rw[List.findIdx?_singleton];by_cases h:s.t.key=k;·rw[aJ h,aJ (aM h)];simp
 ·rw[aH h,aH (by rw[bO];exact h)];rfl
theorem Hu{W:List fG}{k:ByteArray}{i:Nat}(h:jl W k=some i):i<W.length:=by
 unfold jl at h;rw[jS]at h;exact h.1
theorem kZ(W:List fG)(i:Nat):(Wb.mark W i).length=W.length:=by unfold Wb.mark;rw[List.length_modify]
theorem yJ(W:List fG)(i j:Nat)(h:j<(Wb.mark W i).length)(h':j<W.length):(Wb.mark W i)[j].t=W[j].t/\(Wb.mark W i)[j].how=W[j].how/\(Wb.mark W i)[j].jw=W[j].jw/\(Wb.mark W i)[j].part=if i=j then true else W[j].part:=by
 have e:(Wb.mark W i)[j]'(h)=if i=j then { W[j]with part:=true } else W[j]:=List.getElem_modify _ _ _ _ h
 rw[e];split;·exact⟨rfl,rfl,rfl,rfl⟩
 ·exact⟨rfl,rfl,rfl,rfl⟩
theorem OY(W:List fG)(i:Nat)(k:ByteArray):jl (Wb.mark W i) k=jl W k:=by
 have e:∀(f:fG->fG) (b:∀s,(f s).t=s.t) (W:List fG) (i:Nat),jl (W.modify i f) k=jl W k:=by
  intro f b W;induction W with
  |nil=>intro i;rw[List.modify_nil]
  |cons a r c=>
   intro i;cases i with
   |zero=>rw[su];unfold jl;rw[qm,qm,b]
   |succ i=>
    rw[sj];have h:=c i;unfold jl at h⊢;rw[qm,qm,h]
 exact e (λs=>{ s with part:=true }) (λs=>rfl) W i
def kl(k:ByteArray):Lit:=.string k.data.toList
theorem XX{a b:ByteArray}(h:kl a=kl b):a=b:=by
 unfold kl at h;injection h with h;exact wJ h
def zh(D:DataW Unit)(W:List fG):Prop:=∀k:ByteArray,Maps.has D (kl k)=(jl W k).isSome/\∀i,jl W k=some i->D.atKey (kl k) (.lit (.int .i64 0))=.lit (.int .i64 (i:Int))
theorem zh.nil:zh (.map []) []:=λk=>⟨rfl,λi h=>by cases h⟩
theorem zh.mark{D:DataW Unit}{W:List fG}(h:zh D W)(i:Nat):zh D (Wb.mark W i):=λk=>by rw[OY];exact h k
theorem zh.push{D:DataW Unit}{W:List fG}(h:zh D W)(a:Maps.IsMap D)(s:fG)(c:jl W s.t.key=none):zh (D.put (kl s.t.key) (.lit (.int .i64 (W.length:Int)))) (W++[s]):=λk=>by
 rw[OZ];by_cases e:s.t.key=k
 ·subst e;rw[c,aJ rfl];refine⟨Maps.has_put_same a (show Go.WideAt.IsKeyLit (kl s.t.key)from trivial) _,λi hi=>?_⟩;have d:W.length=i:=aB hi;rw[uL a (show Go.WideAt.IsKeyLit (kl s.t.key)from trivial),d]
 ·have b:kl k≠kl s.t.key:=λh=>e (XX h).symm;rw[aH e,Option.or_none,Maps.has_put_other b];refine⟨(h k).1,λi hi=>?_⟩;rw[uh b];exact(h k).2 i hi
def mM:Nat->Bool:=λ_=>true
def nr(X:Nat->Bool)(g M:Nat)(vs vp:Value):Nat->Bool:=λb=>!(b==g)&&!(b==M)&&!(vs.ownBlock==some b)&&!(vp.ownBlock==some b)&&X b
theorem kz{g M:Nat}{vs vp:Value}{b:Nat}:nr X g M vs vp b=true<->b≠g/\b≠M/\vs.ownBlock≠some b/\vp.ownBlock≠some b/\X b=true:=by
 unfold nr;rw[ah,ah,ah,ah,bT,bT,bT,bT,aD,aD,aD,aD,lF,lF,lF]
structure Fr (X:Nat->Bool) (B g M:Nat) (vs vp:Value) (w:World) (vs' mK:Value) (w':World):Prop where
 below:Below B w w'
 size:w.heap.size<=w'.heap.size
 Fw:∀b,nr mM g M vs vp b=true->b<w.heap.size->nr mM g M vs' mK b=true/\w'.heap[b]?=w.heap[b]?
theorem Fr.aR{B g M:Nat}{vs vp vs' mK:Value}{w w':World}(h:Fr X B g M vs vp w vs' mK w'):∀b,nr X g M vs vp b=true->b<w.heap.size->nr X g M vs' mK b=true/\w'.heap[b]?=w.heap[b]?:=λb hb a=>by
 obtain⟨c,a2,a3,a4,a5⟩:=kz.1 hb;obtain⟨c1,c2⟩:=h.Fw b (kz.2 ⟨c,a2,a3,a4,rfl⟩) a;obtain⟨d1,d2,d3,d4,_⟩:=kz.1 c1;exact⟨kz.2 ⟨d1,d2,d3,d4,a5⟩,c2⟩
theorem Fr.refl(B g M:Nat)(vs vp:Value)(w:World):Fr X B g M vs vp w vs vp w:=⟨aC _ _,ax _,λ_ h _=>⟨h,rfl⟩⟩
theorem Fr.t{B g M:Nat}{vs vp vs' mK Vv Vu:Value}{w w' w'':World}(h:Fr X B g M vs vp w vs' mK w')(h':Fr X B g M vs' mK w' Vv Vu w''):Fr X B g M vs vp w Vv Vu w'':=
 ⟨h.below.t h'.below,aG h.size h'.size,λb hb a=>by
   obtain⟨c,d⟩:=h.Fw b hb a;obtain⟨e,f⟩:=h'.Fw b c (dw a h.size);exact⟨e,f.t d⟩⟩
theorem Fr.ag{B g M:Nat}{vs vp vs' mK:Value}{w w' w'':World}(h:Fr X B g M vs vp w vs' mK w')(a:B<=w.heap.size)(hb:Below w'.heap.size w' w''):Fr X B g M vs vp w vs' mK w'':=
 h.t ⟨hb.m (aG a h.size),hb.size,λb c d=>⟨c,hb.block b d⟩⟩
theorem Fr.grown{B g M:Nat}{vs vp vs' mK:Value}{w w':World}{row:Option Nat}(h:B<=w.heap.size)(d:w.grownBy w' row)(f:∀k,row=some k->B<=k/\nr mM g M vs vp k=false)
 (a:vs'.ownBlock=vs.ownBlock\/vs'.ownBlock=some w.heap.size) (c:mK.ownBlock=vp.ownBlock\/mK.ownBlock=some w.heap.size):Fr X B g M vs vp w vs' mK w':=
 ⟨(aC B w).grown d h (λk i=>(f k i).1),d.size,λb hb j=>by
   obtain⟨l,m,n,o,p⟩:=kz.1 hb;refine⟨kz.2 ⟨l,m,?_,?_,p⟩,d.block b j (λe=>by have:=(f b e.symm).2;rw[hb]at this;cases this)⟩
   ·rcases a with a|a;·rw[a];exact n
    ·rw[a];intro e;injection e with e;omega
   ·rcases c with c|c;·rw[c];exact o
    ·rw[c];intro e;injection e with e;omega⟩
theorem Y4{g M:Nat}{vs vp:Value}:nr X g M vs vp g=false:=by
 rw[iW];intro h;exact(kz.1 h).1 rfl
theorem ZP{g M:Nat}{vs vp:Value}:nr X g M vs vp M=false:=by
 rw[iW];intro h;exact(kz.1 h).2.1 rfl
theorem ZQ{g M k:Nat}{vs vp:Value}(h:vs.ownBlock=some k):nr X g M vs vp k=false:=by
 rw[iW];intro h';exact(kz.1 h').2.2.1 h
theorem Y5{g M k:Nat}{vs vp:Value}(h:vp.ownBlock=some k):nr X g M vs vp k=false:=by
 rw[iW];intro h';exact(kz.1 h').2.2.2.1 h
theorem CF(w:World)(a:Addr)(u:Value):w.grownBy (w.setCell a u) (some a.block):=
 ⟨rfl,rfl,rfl,by simp[World.setCell],λk _ b=>aL _ _ _ k (λe=>b abf)⟩
theorem bI.fr{B g M:Nat}{vs vp vs' mK:Value}{w w':World}{v:Value}{t:T}(h:bI (nr X g M vs vp) w v t)(a:Fr X B g M vs vp w vs' mK w'):bI (nr X g M vs' mK) w' v t:=h.aR a.aR
def lH(S:Nat->Bool)(w:World)(A:Option Addr)(ns:List Nat):Prop:=
 ns.length=0\/∃b off,A=some ⟨b,off,none⟩/\S b=true/\∀i (h:i<ns.length),w.cell? ⟨b,off+i,none⟩=some (.int .i64 (ns[i]:Int))
theorem lH.aR{S S':Nat->Bool}{w w':World}{A:Option Addr}{ns:List Nat}(h:lH S w A ns)(c:∀b,S b=true->b<w.heap.size->S' b=true/\w'.heap[b]?=w.heap[b]?):lH S' w' A ns:=by
 rcases h with h|⟨b,off,e,hS,a⟩;·exact .inl h
 ·by_cases h0:ns.length=0;·exact .inl h0
  ·have d:=eQ w _ (a 0 aar);obtain⟨f,g⟩:=c b hS d;exact .inr ⟨b,off,e,f,λi hi=>(dB g).t (a i hi)⟩
def qo(S:Nat->Bool)(w:World)(cs:List Value)(s:fG):Prop:=
 ∃A cap F a,cs=[.int .i64 s.t.aA,.string s.t.aI,.slice A s.t.ay.length cap,.int .i64 (s.how:Int),.slice F s.jw.length a]/\bI S w (.agg #[.int .i64 s.t.aA,.string s.t.aI,.slice A s.t.ay.length cap]) s.t/\lH S w F s.jw
theorem qo.aR{S S':Nat->Bool}{w w':World}{cs:List Value}{s:fG}(h:qo S w cs s)(a:∀b,S b=true->b<w.heap.size->S' b=true/\w'.heap[b]?=w.heap[b]?):qo S' w' cs s:=by
 obtain⟨A,cap,F,c,e,d,f⟩:=h;exact⟨A,cap,F,c,e,d.aR a,f.aR a⟩
theorem qo.len{S:Nat->Bool}{w:World}{cs:List Value}{s:fG}(h:qo S w cs s):cs.length=5:=by
 obtain⟨A,cap,F,a,e,_⟩:=h;rw[e];rfl
theorem qo.one{S:Nat->Bool}{w:World}{cs:List Value}{s:fG}(h:qo S w cs s):∀u∈cs,u.oneCell'=true:=by
 obtain⟨A,cap,F,a,e,_⟩:=h;subst e;intro u hu;simp at hu;rcases hu with rfl|rfl|rfl|rfl|rfl<;>rfl
def qW(S:Nat->Bool)(w:World)(dE:List (List Value))(W:List fG):Prop:=dE.length=W.length/\∀i (h:i<dE.length) (h':i<W.length),qo S w dE[i] W[i]
theorem qW.aR{S S':Nat->Bool}{w w':World}{dE:List (List Value)}{W:List fG}(h:qW S w dE W)(c:∀b,S b=true->b<w.heap.size->S' b=true/\w'.heap[b]?=w.heap[b]?):qW S' w' dE W:=
 ⟨h.1,λi a b=>(h.2 i a b).aR c⟩
theorem qW.push{S:Nat->Bool}{w:World}{dE:List (List Value)}{W:List fG}{cs:List Value}{s:fG}(h:qW S w dE W)(c:qo S w cs s):qW S w (dE++[cs]) (W++[s]):=by
 refine⟨by rw[aF,aF,h.1];rfl,λi a b=>?_⟩;by_cases hi:i<dE.length
 ·rw[dH hi,dH aa7];exact h.2 i hi aa7
 ·have d:i=dE.length:=(by simp at a;omega);subst d;have e:(dE++[cs])[dE.length]'a=cs:=aau;have f:(W++[s])[dE.length]'b=s:=(by rw[dh (by rw[h.1];exact ax _)];simp);rw[e,f];exact c
theorem qW.mark{S:Nat->Bool}{w:World}{dE:List (List Value)}{W:List fG}(h:qW S w dE W)(i:Nat):qW S w dE (Wb.mark W i):=by
 refine⟨by rw[kZ];exact h.1,λj a b=>?_⟩;have hj:j<W.length:=(by rw[<-h.1];exact a);obtain⟨c,d,e,_⟩:=yJ W i j b hj;have:=h.2 j a hj;unfold qo at this⊢;rw[c,d,e];exact this
structure gz (X:Nat->Bool) (B:Nat) (w:World) (g M:Nat) (vs vp:Value) (W:List fG):Prop where
 steps:∃dE,qW (nr X g M vs vp) w dE W/\w.ownsRow B 197 5 vs W.length dE.flatten
 part:w.ownsRow B 4 1 vp W.length (W.map λs=>Value.bool s.part)
 map:∃D n,w.ownsMap Tryz.prog 9 (plainElem (H:=Unit) Tryz.prog 3) M n D/\n<=W.length/\zh D W
 box:w.heap[g]?=some (.cells #[vs,.map (some M),vp] 195 (0,0))
 low:B<=g/\B<=M
 size:W.length<=1048576
 fresh:∀b,w.heap.size<=b->X b=true
theorem gz.ag{B g M:Nat}{w w':World}{vs vp:Value}{W:List fG}(h:gz X B w g M vs vp W)(hb:Below w.heap.size w w'):gz X B w' g M vs vp W:=by
 obtain⟨⟨dE,d,e⟩,f,⟨D,n,i,j⟩,c,l,m,o⟩:=h;exact⟨⟨dE,d.aR λb a p=>⟨a,hb.block b p⟩,dG e hb⟩,dG f hb,⟨D,n,i.kept (row:=none) ⟨hb.os,hb.tape,hb.output,hb.size,λk q _=>hb.block k q⟩ aau,j⟩,
  (hb.block g (aW.1 c).1).t c,l,m,λb a=>o b (aG hb.size a)⟩
theorem gz.lt{B g M:Nat}{w:World}{vs vp:Value}{W:List fG}(h:gz X B w g M vs vp W):g<w.heap.size/\B<=w.heap.size:=by
 have:=(aW.1 h.box).1;have:=h.low.1;exact⟨by assumption,aar⟩
theorem gz.cells{B g M:Nat}{w:World}{vs vp:Value}{W:List fG}(h:gz X B w g M vs vp W):w.cell? ⟨g,0,none⟩=some vs/\w.cell? ⟨g,1,none⟩=some (.map (some M))/\w.cell? ⟨g,2,none⟩=some vp/\w.frozen? ⟨g,0,none⟩=false/\w.frozen? ⟨g,2,none⟩=false:=by
 have hb:=h.box;refine⟨?_,?_,?_,?_,?_⟩<;>simp[World.cell?,World.frozen?,hb]
theorem gz.turn{c:Nat->Bool}{B g M:Nat}{w w':World}{vs vp:Value}{W:List fG}(h:gz X B w g M vs vp W)(d:∀b,nr X g M vs vp b=true->b<w.heap.size->c b=true/\w'.heap[b]?=w.heap[b]?)
 (a:∀b,(b=g\/b=M\/vs.ownBlock=some b\/vp.ownBlock=some b)->w'.heap[b]?=w.heap[b]?) (m:∀b,w'.heap.size<=b->c b=true):gz c B w' g M vs vp W:=by
 obtain⟨⟨dE,o,p⟩,q,⟨D,n,⟨s,clock,hb,r⟩,t⟩,u,x,y,_⟩:=h;have own:∀{e:TypeId} {size n:Nat} {v:Value} {xs:List Value},w.ownsRow B e size v n xs->(∀b,v.ownBlock=some b->w'.heap[b]?=w.heap[b]?)->w'.ownsRow B e size v n xs:=λh d=>by
  obtain⟨f,i⟩:=h;refine⟨f,?_⟩;rcases i with i|⟨j,cap,z,k,hb,A,rest⟩;·exact .inl i
  ·exact .inr ⟨j,cap,z,k,hb,(d j (by rw[k];rfl)).t A,rest⟩
 refine⟨⟨dE,o.aR λb l f=>?_,own p λb e=>a b (.inr (.inr (.inl e)))⟩,own q λb e=>a b (.inr (.inr (.inr e))),⟨D,n,⟨s,clock,(a M (.inr (.inl rfl))).t hb,r⟩,t⟩,(a g (.inl rfl)).t u,x,y,m⟩;obtain⟨C,a2,a3,a4,a5⟩:=kz.1 l;obtain⟨c1,c2⟩:=d b l f;exact⟨kz.2 ⟨C,a2,a3,a4,c1⟩,c2⟩
def mI(X:Nat->Bool)(B g M:Nat)(w:World)(vs vp:Value)(W':List fG)(w':World):Prop:=∃vs' mK,gz X B w' g M vs' mK W'/\Fr X B g M vs vp w vs' mK w'
end
section
open Go.RowKit
theorem Tryz.Y0:(Tryz.prog.info? 9).map (λi=>(i.zero,i.size,i.bytes))=some (some (.string ByteArray.empty),1,16):=by kernel_rfl
theorem O7(a:List T)(sv:Value)(base:Nat)(wr:World)(b:wr.ownsRow base 9 1 sv a.length (a.map λt=>.string (strOf t.gK)))(n:a.length<=262144)(o:(T.eY a).length<=3145728):
 Calls Tryz.prog 174 #[sv,.string ⟨#[44,32]⟩] wr λe w'=>e=.returned (.string (strOf (T.eY a)))/\Below wr.heap.size wr w':=by
 rcases b.2 with⟨rfl,h0⟩|⟨g,c,p,rfl,q,j,k,r,s,u⟩
 ·have:a=[]:=bR h0;subst this;refine(Tryz.strings_Join_none none 0 ⟨#[44,32]⟩ wr).m ?_;rintro e w' ⟨rfl,rfl⟩;exact⟨rfl,aC _ _⟩
 ·have d:(List.map (λx:ByteArray=>x.data.toList) (a.map λt=>strOf t.gK))=a.map T.gK:=by
   rw[qO];exact uK λt _=>tK t.gK
  have f:(Lib.join (a.map T.gK) (ByteArray.mk #[44,32]).data.toList)=T.eY a:=(T.LB a).symm;have l:∀(i:Nat) x,(a.map λt=>strOf t.gK)[i]?=some x->wr.cell? ⟨g,0+i,none⟩=some (.string x):=λi x h=>by
   have:=b.cells (g:=g) rfl i (.string x) (by
    rw[kQ]at h⊢;obtain⟨t,m,rfl⟩:=nC.1 h;rw[m];rfl)
   rw[cz]at this;exact this
  have hj:=Tryz.strings_Join g 0 c (a.map λt=>strOf t.gK) ⟨#[44,32]⟩ wr l (aW.1 j).1 (by rw[bZ];omega) (by rw[bZ];exact k) (by rw[d,f];omega);rw[d,f,bZ]at hj;exact hj
theorem Yh:∀(N:Nat) (t:T) (v:Value) (w:World),t.bE<N->aS w v t->t.bE<=1048576->
 Calls Tryz.prog 138 #[v] w λe w'=>e=.returned (.string (strOf t.gK))/\Below w.heap.size w w':=by
 intro N;induction N with
 |zero=>intro t v w h;omega
 |succ N I=>
  intro t v w hN ht ah;cases ht with
  |mk k s A cap a U h1 h2 h3 h4 hA hU=>
   simp only[T.bE]at hN ah;have K:a.length<=262144:=(aaz (T.lq a));have D:=T.F8 a;have ak:s.size<=1048576:=aar;obtain⟨i0,av,ax,az,aB⟩:=dU Tryz.Y0;have L:=iQ w (.int .i64 k) (.string s) (.slice A a.length cap) 29;have n:=ae w (.cells #[.int .i64 k,.string s,.slice A a.length cap] 29);have M:=aK w (.cells #[.int .i64 k,.string s,.slice A a.length cap] 29);obtain⟨R,d⟩:=aay (strOf (T.mk k s a).gK);rw[d];go_enter Tryz.func138,Tryz.ntmps138;go_upto_region 1 with fail;generalize w.alloc _=O at L n M⊢;obtain⟨x0,x1,x2⟩:=L;obtain⟨IH,BA,BU⟩:=aac I hA hU;clear I hA hU;by_cases o:k=1
   ·subst o;have c:=aa (show s=R by rw[<-d];simp only[T.gK,rD];exact Lt s);clear d;go_wp2_with fail;go_ret;exact⟨nM c.o,n⟩
   by_cases x:k=2
   ·subst x;have c:=aa (show(⟨#[63]⟩:ByteArray)++s=R by
     rw[<-d];simp only[T.gK];have:=BQ [63] s.data.toList;rw[<-Lt s]at this;exact this)
    clear d o;go_wp2_with fail;go_ret;exact⟨nM c.o,n⟩
   have aF:(k==1)=false:=(by rw[aD];exact o);have aG:(k==2)=false:=(by rw[aD];exact x);have P:strOf (if k=3 then [60]++T.eY a++[62] else T.kr k++[40]++T.eY a++[41])=R:=(by rw[<-d];simp only[T.gK,aH o,aH x]);have E:=aa P;clear d P o x;have aJ:=T.JX k;go_wp2_with fail;go_loopw [3,21] (λv3 i wr=>∃(j:Nat) (sv:Value),j<=a.length/\i=.int .i64 j/\sv=v3/\wr.ownsRow (w.heap.size+1) 9 1 sv j ((a.take j).map λt=>.string (strOf t.gK))/\Below O.heap.size O wr) (λ_ i _=>a.length-(intOf i).toNat);case atStart=>exact⟨0,_,aT _,rfl,rfl,gV _ _ _ _,aC _ _⟩
   case round=>
    obtain⟨j,sv,hj,rfl,rfl,p,l⟩:=hrel;have f:=n.t (l.m n.size);by_cases r:j<a.length
    ·obtain⟨b,off,B1,C1,rfl,d0,d1,d2,hu⟩:=aS.cells r BA.o BU.o;obtain⟨e0,e1,e2⟩:=aak f d0 d1 d2;have hi:(j:Int)<(a.length:Int):=aar;obtain⟨HU,y⟩:=aab (hu.ag f) r;have u:=aa (show a[j].bE<N/\a[j].bE<=1048576 from aaz (T.jq a j r));obtain⟨HOWN,z,F⟩:=aac p l M;have aL:=aa (show(a.take j).map (λt=>Value.string (strOf t.gK))++[.string (strOf a[j].gK)]=(a.take (j+1)).map (λt=>Value.string (strOf t.gK)) by rw[aZ r,gG];rfl);have Q:=aa K;clear d0 d1 d2 hu hj f p l D ak;go_wp2_with fail;refine(IH.o _ _ _ u.o.1 (HU.o.ag (ae _ _)) u.o.2).m ?_;rintro e B ⟨rfl,m⟩;replace m:=(ae wr (.cells #[.int .i64 a[j].aA,.string a[j].aI,.slice B1 a[j].ay.length C1] 29)).t (m.m (ae _ _).size);obtain⟨S,aM⟩:=aab m (((dG HOWN.o m).alloc (.cells #[.string (strOf a[j].gK)] 9)));have V:=aa (show w.heap.size+1<=(B.alloc (.cells #[.string (strOf a[j].gK)] 9)).heap.size by rw[aK];have:=m.size;have:=z.o.size;have:=F.o;omega);clear m e0 e1 e2;go_wp2_with (at_builtin;refine lK _ rfl _ _ 53 rfl (w.heap.size+1) 9 i0 _ 1 16 jX av ax az aB rfl aar _ j _ rfl aM.o ⟨B.heap.size,0,none⟩ 1 1 [.string (strOf a[j].gK)] rfl rfl (cell_one_new _ _ _) (by simp[Value.oneCell']) aar (by have:=y.o;have:=Q.o;unfold maxLen;omega) (aaA y.o Q.o) V.o _ rfl ?_;intro g aR w5 G X aN aO);rw[aL.o]at G;have aP:=aa G;have aQ:=aa ((z.o.t ((S.o.t ((ae B (.cells #[.string (strOf a[j].gK)] 9)).m S.o.size)).m z.o.size)).grown X (aaA V.o F.o) (λq hq=>aaA ((HOWN.o.lt q hq).1) F.o));clear G X aN aO;go_wp2_with fail;go_roundw;case rel=>exact⟨j+1,_,y.o,aaw,rfl,aP.o,aQ.o⟩
     case measure=>exact aax y.o
    ·obtain rfl:j=a.length:=aar;rw[lD]at p;have hj:=O7 a sv (w.heap.size+1) wr p K aar;have Y:=aa hj;obtain⟨J,Z⟩:=aay (T.eY a);rw[Z]at Y E D;obtain⟨HB,z⟩:=aab f l;have z0:=af l x0;have aU:(strOf J).size<=3145728:=(by rw[y7];omega);clear hj p f l r Z x0 x1 x2 D;go_wp2_with fail;refine Y.o.m ?_;rintro e B ⟨rfl,H⟩;have y0:=af H z0;have u:=aa (HB.o.t (H.m HB.o.size));clear H z0;by_cases C:k=3
     ·subst C;have c:=aa (show(⟨#[60]⟩:ByteArray)++strOf J++⟨#[62]⟩=R by
       have:=E.o;simp only[rD]at this;rw[<-this];show(⟨[60].toArray⟩:ByteArray)++⟨J.toArray⟩++⟨[62].toArray⟩=_;rw[BQ,BQ];rfl)
      have s1:(1:Nat)+(strOf J).size<=9223372036854775807:=aar;clear aF aG;go_wp2_with fail;go_ret;exact⟨nM c.o,u.o⟩
     ·have aV:(k==3)=false:=(by rw[aD];exact C);have c:=aa (show(⟨(T.kr k).toArray⟩:ByteArray)++⟨#[40]⟩++strOf J++⟨#[41]⟩=R by
       have:=E.o;rw[aH C]at this;rw[<-this];show(⟨(T.kr k).toArray⟩:ByteArray)++⟨[40].toArray⟩++⟨J.toArray⟩++⟨[41].toArray⟩=_;rw[BQ,BQ,BQ];rfl)
      have hH:(⟨(T.kr k).toArray⟩:ByteArray).size<=5:=(by rw[I9];exact aJ);have HH:=aa (λW=>Zb k W);clear C;generalize(⟨(T.kr k).toArray⟩:ByteArray)=hd at c hH HH;go_wp2_with (go_at_call 175;refine(HH.o _).m ?_;rintro e w' ⟨rfl,rfl⟩);go_ret;exact⟨nM c.o,u.o⟩
theorem DV(t:T)(v:Value)(w:World)(u:aS w v t)(f:t.bE<=1048576):
 Calls Tryz.prog 95 #[v] w λe w'=>e=.returned (.string (if t.eZ=true then strOf t.gK else ⟨#[]⟩))/\Below w.heap.size w w':=by
 have g:=aa (λW h r c x y=>Az t v W h f r c x y);have z:=aa (λW h=>Yh (t.bE+1) t v W aar h f);obtain⟨q,n⟩:=aay t.eZ;rw[n]at g⊢;clear f n;generalize strOf t.gK=p at*;cases u with
 |mk k s A cap d U B C D E hA hU=>
  have F:=aa (aS.mk k s A cap d U B C D E hA hU);have o:=iQ w (.int .i64 k) (.string s) (.slice A d.length cap) 29;have b:=ae w (.cells #[.int .i64 k,.string s,.slice A d.length cap] 29);clear hA hU;go_enter Tryz.func95,Tryz.ntmps95;go_upto_region 1 with fail;generalize w.alloc _=I at o b⊢;obtain⟨x0,i,j⟩:=o;have l:=aa (F.o.ag b);cases q
  ·go_wp2_with fail;refine(g.o _ l.o false 76 rfl (.inr ⟨rfl,rfl⟩)).m ?_;rintro e G ⟨rfl,a⟩;replace a:=b.t (a.m b.size);clear x0 i j;go_wp2_with fail;go_ret;exact⟨rfl,a⟩
  ·go_wp2_with fail;refine(g.o _ l.o true 0 rfl (.inl ⟨rfl,rfl⟩)).m ?_;rintro e G ⟨rfl,a⟩;obtain⟨J,K,L⟩:=aak a x0 i j;have H:=aa (l.o.ag a);replace a:=b.t (a.m b.size);clear x0 i j;go_wp2_with fail;refine(z.o _ H.o).m ?_;rintro e w3 ⟨rfl,m⟩;replace m:=a.t (m.m a.size);go_wp2_with fail;go_ret;exact⟨rfl,m⟩
end
section
open Go.RowKit Go.Maps
variable {X:Nat->Bool}
def fI:Option Nat->Int
 |some i=>(i:Int)
 |none=>-1
theorem Ik:Keyed Tryz.prog 9:=string_keyed ig
theorem Vx(w:World):(zeroValue 3).run Tryz.prog w=.ok (.int .i64 0) w:=jk w
theorem Qm(K:ByteArray)(h:K.size<=3145728):keyOf Tryz.prog 9 (.string K)=some (kl K):=xy (P:=Tryz.prog) ig aaS
theorem T.Ig(t:T)(h:t.bE<=1048576):t.key.size<=3145728:=by
 unfold T.key;have:=T.Ba t;split;·rw[y7];omega
 ·exact aT _
theorem gz.look{B g M:Nat}{vs vp:Value}{W:List fG}{w:World}(h:gz X B w g M vs vp W)(K:ByteArray)(b:K.size<=3145728):∃c:Int,Sem.run Tryz.prog (Instr.lookup 91 (.map (some M)) (.string K) true) w=.ok (.tuple #[.int .i64 c,.bool (jl W K).isSome]) w/\∀i,jl W K=some i->c=(i:Int):=by
 obtain⟨D,n,d,_,f⟩:=h.map;obtain⟨j,k⟩:=f K;obtain⟨v,o,a,l⟩:=d.look_ok Ik oh (Vx w) (plainElem_int (H:=Unit) gy aat) (Qm K b);obtain⟨c,rfl,m,_⟩:=plainElem_int_inv gy l;rw[j]at a;refine⟨c,a,λi hi=>?_⟩;have e:DataW.lit (.int .i64 (i:Int))=(.lit (.int .i64 c):DataW Unit):=(k i hi).symm.t (bV Prod.fst m);injection e with e;injection e with _ e;exact e.symm
theorem gz.BG{B g M:Nat}{vs vp:Value}{W:List fG}{w:World}(h:gz X B w g M vs vp W){K:ByteArray}(b:K.size<=3145728)(d:jl W K=none):∃c:Int,Sem.run Tryz.prog (Instr.lookup 91 (.map (some M)) (.string K) true) w=.ok (.tuple #[.int .i64 c,.bool false]) w:=by
 obtain⟨c,a,_⟩:=h.look K b;rw[d]at a;exact⟨c,a⟩
theorem gz.RQ{B g M:Nat}{vs vp:Value}{W:List fG}{w:World}(h:gz X B w g M vs vp W){K:ByteArray}{i:Nat}(d:K.size<=3145728)(a:jl W K=some i):Sem.run Tryz.prog (Instr.lookup 91 (.map (some M)) (.string K) true) w=.ok (.tuple #[.int .i64 i,.bool true]) w:=by
 obtain⟨c,b,hi⟩:=h.look K d;rw[hi i a,a]at b;exact b
theorem acT{p:Prop}(h:p:=by
 (refine yR 6 λK a=>?_;go_simp;skip;refine mZ a (hHeld) λhHeld=>?_;clear a K);refine dz 7 _ ?_;refine dz 8 _ ?_;refine dz 9 _ ?_;refine dz 10 _ ?_;refine dz 11 _ ?_;refine fB aas ?_ _;go_wp2_with fail;go_ret;exact⟨by rw[j.o];rfl,f.o.t (hHeld.2.2.2.2.2.m f.o.size)⟩):p:=h
theorem QF{B g M:Nat}{vs vp:Value}{W:List fG}(t:T)(v:Value)(w:World)(h:gz X B w g M vs vp W)(y:aS w v t)(p:t.bE<=1048576):
 Calls Tryz.prog 211 #[.pointer (some ⟨g,0,none⟩),v] w λe w'=>e=.returned (.int .i64 (fI (jl W t.key)))/\Below w.heap.size w w':=by
 obtain⟨q,G⟩:=aab ((λ(W':World) (F:aS W' v t)=>(show Calls Tryz.prog 95 #[v] W' λe w'=>e=.returned (.string t.key)/\Below W'.heap.size W' w' from DV t v W' F p))) y;obtain⟨l,a⟩:=aay t.key;have z:=aa (show l.size<=3145728 by rw[<-a];exact t.Ig p);rw[a]at q⊢;clear p a;cases y with
 |mk k s A cap c U H I J L hA hU=>
 go_enter Tryz.func211,Tryz.ntmps211;go_upto_region 1 with fail;have r:=jy.new w (.int .i64 k) (.string s) (.slice A c.length cap);have m:=ae w (.cells #[.int .i64 k,.string s,.slice A c.length cap] 29);obtain⟨u,n,f⟩:=aac (G.o.ag m) (h.ag m) m;clear h hA hU m H I J L;generalize w.alloc _=d at r u n f⊢;obtain⟨x0,C,D⟩:=r.cells;have E:=n.o.cells.2.1;clear r;cases o:jl W l with
 |none=>
  have j:=aa o;clear o;refine dm (S:=(λW=>W.cell? ⟨g,1,none⟩=some (.map (some M))/\W.cell? ⟨w.heap.size,0,none⟩=some (.int .i64 k)/\W.cell? ⟨w.heap.size,1,none⟩=some (.string s)/\W.cell? ⟨w.heap.size,2,none⟩=some (.slice A c.length cap)/\aS W (.agg #[.int .i64 k,.string s,.slice A c.length cap]) (.mk k s c)/\Below d.heap.size d W)) aas (show _/\_/\_/\_/\_/\_ from⟨E,x0,C,D,u.o.drew,(aC _ d).drew⟩) (λhHeld=>?_);refine dz 0 _ ?_;refine dz 1 _ ?_;refine dz 2 _ ?_;refine dz 3 _ ?_;refine dz 4 _ ?_;(refine yR 5 λK a=>?_;go_simp;go_at_call 95;refine(q.o _ hHeld.2.2.2.2.1).m ?_;rintro e N ⟨rfl,b⟩;have x:=hHeld.2.2.2.2.2.t (b.m hHeld.2.2.2.2.2.size);obtain⟨c4,O⟩:=(n.o.ag x).BG z.o j.o;refine mZ a (⟨af b hHeld.1,af b hHeld.2.1,af b hHeld.2.2.1,af b hHeld.2.2.2.1,hHeld.2.2.2.2.1.ag b,hHeld.2.2.2.2.2.t (b.m hHeld.2.2.2.2.2.size)⟩) λhHeld=>?_;clear a K);exact acT
 |some i=>
  have j:=aa o;clear o;refine dm (S:=(λW=>W.cell? ⟨g,1,none⟩=some (.map (some M))/\W.cell? ⟨w.heap.size,0,none⟩=some (.int .i64 k)/\W.cell? ⟨w.heap.size,1,none⟩=some (.string s)/\W.cell? ⟨w.heap.size,2,none⟩=some (.slice A c.length cap)/\aS W (.agg #[.int .i64 k,.string s,.slice A c.length cap]) (.mk k s c)/\Below d.heap.size d W)) aas (show _/\_/\_/\_/\_/\_ from⟨E,x0,C,D,u.o.drew,(aC _ d).drew⟩) (λhHeld=>?_);refine dz 0 _ ?_;refine dz 1 _ ?_;refine dz 2 _ ?_;refine dz 3 _ ?_;refine dz 4 _ ?_;(refine yR 5 λK a=>?_;go_simp;go_at_call 95;refine(q.o _ hHeld.2.2.2.2.1).m ?_;rintro e N ⟨rfl,b⟩;have x:=hHeld.2.2.2.2.2.t (b.m hHeld.2.2.2.2.2.size);obtain O:=(n.o.ag x).RQ z.o j.o;refine mZ a (⟨af b hHeld.1,af b hHeld.2.1,af b hHeld.2.2.1,af b hHeld.2.2.2.1,hHeld.2.2.2.2.1.ag b,hHeld.2.2.2.2.2.t (b.m hHeld.2.2.2.2.2.size)⟩) λhHeld=>?_;clear a K);exact acT
end
section
open Go.RowKit
variable {X:Nat->Bool}
theorem oN{w w':World}{base:Nat}{e:TypeId}{size n:Nat}{v:Value}{xs:List Value}(h:w.ownsRow base e size v n xs)(d:∀b,v.ownBlock=some b->b<w.heap.size->w'.heap[b]?=w.heap[b]?):w'.ownsRow base e size v n xs:=by
 refine⟨h.1,?_⟩;rcases h.2 with h0|⟨g,cap,f,a,hb,c,rest⟩;·exact .inl h0
 ·exact .inr ⟨g,cap,f,a,hb,(d g aa5 (aW.1 c).1).t c,rest⟩
theorem wh{w:World}{base:Nat}{e:TypeId}{size n:Nat}{v:Value}{xs:List Value}(h:w.ownsRow base e size v n xs){b:Nat}(a:v.ownBlock=some b):base<=b/\b<w.heap.size/\∃c,w.heap[b]?=some (.cells c e (0,0)):=by
 rcases h.2 with⟨rfl,_⟩|⟨g,cap,c,rfl,hb,d,_⟩;·cases a
 ·injection a with a;subst a;exact⟨hb,(aW.1 d).1,c,d⟩
theorem EO{w:World}{base:Nat}{e:TypeId}{size n:Nat}{v:Value}{xs:List Value}(h:w.ownsRow base e size v n xs):∃A c,v=.slice A n c:=by
 rcases h.2 with⟨rfl,rfl⟩|⟨g,cap,a,rfl,_⟩;·exact⟨_,_,rfl⟩
 ·exact⟨_,_,rfl⟩
theorem gz.shapes{B g M:Nat}{vs vp:Value}{W:List fG}{w:World}(h:gz X B w g M vs vp W):∃A c A' a,vs=.slice A W.length c/\vp=.slice A' W.length a:=by
 obtain⟨dE,_,b⟩:=h.steps;obtain⟨A,c,e⟩:=EO b;obtain⟨A',a,d⟩:=EO h.part;exact⟨A,c,A',a,e,d⟩
theorem qF{o:Option Obj}{c b:Array Value}{e a:TypeId}{z d:Nat×Nat}(h:o=some (.cells c e z))(h':o=some (.cells b a d))(f:e≠a):False:=by
 rw[h]at h';injection h' with h';injection h' with _ h';exact f h'
theorem EN{o:Option Obj}{c:Array Value}{e:TypeId}{z:Nat×Nat}{a:Array MapEntry}{k:Nat}(h:o=some (.cells c e z))(h':o=some (.map a k)):False:=by
 rw[h]at h';injection h' with h';cases h'
theorem J7{P:Program}{k:TypeId}{R:Value->Option (DataW Unit×List MemPlace)}{w:World}{b n:Nat}{D:DataW Unit}(h:w.ownsMap P k R b n D):∃a c,w.heap[b]?=some (.map a c):=by
 obtain⟨a,clock,hb,_⟩:=h;exact⟨a,clock,hb⟩
structure Tu (B:Nat) (w:World) (g M:Nat) (vs vp:Value):Prop where
 s:∀b,vs.ownBlock=some b->B<=b/\b<w.heap.size/\b≠g/\b≠M/\vp.ownBlock≠some b
 p:∀b,vp.ownBlock=some b->B<=b/\b<w.heap.size/\b≠g/\b≠M/\vs.ownBlock≠some b
 gm:g≠M
 g:g<w.heap.size
 m:M<w.heap.size
theorem gz.apart{B g M:Nat}{vs vp:Value}{W:List fG}{w:World}(h:gz X B w g M vs vp W):Tu B w g M vs vp:=by
 obtain⟨dE,_,j⟩:=h.steps;obtain⟨D,n,m,_,_⟩:=h.map;obtain⟨q,k,c⟩:=J7 m;have l:=h.part;have hb:=h.box;refine⟨λb e=>?_,λb e=>?_,λe=>?_,(aW.1 hb).1,(aW.1 c).1⟩
 ·obtain⟨d,f,o,a⟩:=wh j e;refine⟨d,f,λx=>?_,λx=>?_,λx=>?_⟩;·subst x;exact qF a hb aat
  ·subst x;exact EN a c
  ·obtain⟨_,_,p,i⟩:=wh l x;exact qF a i aat
 ·obtain⟨d,f,o,a⟩:=wh l e;refine⟨d,f,λx=>?_,λx=>?_,λx=>?_⟩;·subst x;exact qF a hb aat
  ·subst x;exact EN a c
  ·obtain⟨_,_,p,i⟩:=wh j x;exact qF i a aat
 ·subst e;exact EN hb c
theorem uY{w:World}{g:Nat}{a b c:Value}{e:TypeId}(h:w.heap[g]?=some (.cells #[a,b,c] e (0,0)))(v:Value):(w.setCell ⟨g,0,none⟩ v).heap[g]?=some (.cells #[v,b,c] e (0,0))/\(w.setCell ⟨g,2,none⟩ v).heap[g]?=some (.cells #[a,b,v] e (0,0)):=by
 refine⟨?_,?_⟩<;>simp[World.setCell,Array.getElem?_modify,h]
theorem rQ(w:World)(a:Addr)(v:Value):(w.setCell a v).heap.size=w.heap.size:=by simp[World.setCell]
theorem gz.Yj{B g M:Nat}{vs vp vs' mK:Value}{W:List fG}{w4 w5 w6 w7 w9 kJ:World}{t:T}{how:Nat}{jw:List Nat}{cs:List Value}{dE:List (List Value)}{D:DataW Unit}{n:Nat}
 (h:gz X B w4 g M vs vp W) (C:qW (nr X g M vs vp) w4 dE W) (E:zh D W) (F:Maps.IsMap D) (hn:n<=W.length) (v:w4.mapTurned w5 M)
 (G:w5.ownsMap Tryz.prog 9 (plainElem (H:=Unit) Tryz.prog 3) M (n+1) (D.put (kl t.key) (.lit (.int .i64 (W.length:Int)))))
 (I:qo (nr X g M vs vp) w4 cs ⟨t,how,jw,false⟩) (J:jl W t.key=none) (az:W.length<1048576) (o:Below w5.heap.size w5 w6)
 (w:w7.ownsRow B 197 5 vs' (W.length+1) (dE.flatten++cs)) (q:w6.grownBy w7 vs.ownBlock) (y:vs'.ownBlock=vs.ownBlock\/vs'.ownBlock=some w6.heap.size) (f:Below (w7.setCell ⟨g,0,none⟩ vs').heap.size (w7.setCell ⟨g,0,none⟩ vs') w9)
 (z:kJ.ownsRow B 4 1 mK (W.length+1) (W.map (λs=>Value.bool s.part)++[.bool false])) (i:w9.grownBy kJ vp.ownBlock) (K:mK.ownBlock=vp.ownBlock\/mK.ownBlock=some w9.heap.size):
 mI X B g M w4 vs vp (W++[⟨t,how,jw,false⟩]) (kJ.setCell ⟨g,2,none⟩ mK):=by
 have d:=h.apart;have z4:=h.lt.2;have z5:=v.grown.size;have z6:=o.size;have z7:=q.size;have z9:=f.size;rw[rQ]at z9;have aA:=i.size;have l:=h.low;have L:Fr X B g M vs vp w4 vs vp w5:=Fr.grown z4 v.grown (λk c=>by injection c with c;subst c;exact⟨l.2,ZP⟩) (.inl rfl) (.inl rfl);have N:=L.ag z4 o;have O:=N.t (Fr.grown aar q (λk c=>⟨(d.s k c).1,ZQ c⟩) y (.inl rfl));have P:=O.t (Fr.grown (vs':=vs') (mK:=vp) aar (CF w7 ⟨g,0,none⟩ vs') (λk c=>by injection c with c;subst c;exact⟨l.1,Y4⟩) (.inl rfl) (.inl rfl));have Q:=P.ag z4 f;have R:=Q.t (Fr.grown aar i (λk c=>⟨(d.p k c).1,Y5 c⟩) (.inl rfl) K);have r:=R.t (Fr.grown (vs':=vs') (mK:=mK) aar (CF kJ ⟨g,2,none⟩ mK) (λk c=>by injection c with c;subst c;exact⟨l.1,Y4⟩) (.inl rfl) (.inl rfl));have gl:=d.g;have S:w5.heap[g]?=_:=(v.grown.block g d.g (λe=>d.gm abb)).t h.box;have U:w6.heap[g]?=_:=(o.block g aar).t S;have V:vs.ownBlock≠some g:=λe=>(d.s g e).2.2.1 rfl;have Y:vp.ownBlock≠some g:=λe=>(d.p g e).2.2.1 rfl;have Z:vs.ownBlock≠some M:=λe=>(d.s M e).2.2.2.1 rfl;have aa:vp.ownBlock≠some M:=λe=>(d.p M e).2.2.2.1 rfl;have A:w7.heap[g]?=_:=(q.block g aar (λe=>V e.symm)).t U;have b8:=(uY A vs').1;have b9:w9.heap[g]?=_:=(f.block g (by rw[rQ];omega)).t b8;have Qb:kJ.heap[g]?=_:=(i.block g aar (λe=>Y e.symm)).t b9;have ae:=(uY Qb mK).2;have af:∀b,vs'.ownBlock=some b->b<w7.heap.size/\b≠g/\vp.ownBlock≠some b:=λb e=>by
  obtain⟨_,u,ah,j⟩:=wh w e;refine⟨u,λx=>by subst x;exact qF j A aat,λx=>?_⟩;rcases y with m|m;·exact(d.s b (m.symm.t e)).2.2.2.2 x
  ·rw[e]at m;injection m with m;have:=(d.p b x).2.1;omega
 have ak:(kJ.setCell ⟨g,2,none⟩ mK).ownsRow B 197 5 vs' (W.length+1) (dE.flatten++cs):=oN w λb e hb=>by
  obtain⟨_,u,j⟩:=af b e;rw[aL _ _ _ _ u,i.block b aar (λx=>j x.symm),f.block b (by rw[rQ];omega),aL _ _ _ _ u]
 have av:(kJ.setCell ⟨g,2,none⟩ mK).ownsRow B 4 1 mK (W.length+1) (W.map (λs=>Value.bool s.part)++[.bool false]):=oN z λb e hb=>by
  obtain⟨_,_,ah,j⟩:=wh z e;exact aL _ _ _ _ (λx=>by subst x;exact qF j Qb aat)
 have m6:=G.kept (row:=none) (w':=w6) (jr none o) aau;have m7:=m6.kept q (λe=>Z e.symm);have m8:=m7.setCell (a:=⟨g,0,none⟩) (λe=>d.gm e.symm) vs';have m9:=m8.kept (row:=none) (w':=w9) (jr none f) aau;have ax:=m9.kept i (λe=>aa e.symm);have ay:=ax.setCell (a:=⟨g,2,none⟩) (λe=>d.gm e.symm) mK;refine⟨vs',mK,⟨⟨dE++[cs],(C.aR r.aR).push (I.aR r.aR),?_⟩,?_,⟨_,n+1,ay,by simp;omega,E.push F ⟨t,how,jw,false⟩ J⟩,ae,l,by simp;omega,λb hb=>h.fresh b (aG r.size hb)⟩,r⟩
 ·have e:(dE++[cs]).flatten=dE.flatten++cs:=aau;rw[e,aF];exact ak
 ·rw[aF,gG];exact av
end
section
open Go.RowKit
namespace T
def now(l:List UInt8)(i:Nat)(c:UInt8):Bool:=l[i]?==some c
def tq(l:List UInt8):List UInt8->Nat->Except Nat Nat
 |[],i=>.ok i
 |c::cs,i=>if now l i c=true then tq l cs (i+1) else .error i
def Ai(l:List UInt8)(fr i:Nat):Bool:=low (l.getD i 0)||(decide (fr<i)&&OT (l.getD i 0))
def nK(l:List UInt8)(fr:Nat):Nat->Nat->Nat
 |0,i=>i
 |n+1,i=>if i<l.length/\Ai l fr i=true then nK l fr n (i+1) else i
def gL(l:List UInt8)(i:Nat):Nat:=nK l i 16 i
def lU(l:List UInt8)(i j:Nat):ByteArray:=strOf ((l.drop i).take (j-i))
def vV(s:ByteArray):Int:=if s=⟨#[104,97,115,104]⟩ then 4 else if s=⟨#[115,101,97,108]⟩ then 5 else if s=⟨#[115,105,103,110]⟩ then 6 else if s=⟨#[112,111,119,101,114]⟩ then 7 else 0
def yF(s:ByteArray):Nat:=if s=⟨#[104,97,115,104]⟩ then 1 else if s=⟨#[115,101,97,108]⟩ then 2 else if s=⟨#[115,105,103,110]⟩ then 2 else 0
def close(l:List UInt8)(k:Int)(c:UInt8):Option (Except Nat (List T×Nat))->Option (Except Nat (T×Nat))
 |none=>none
 |some (.error e)=>some (.error e)
 |some (.ok (a,j))=>match tq l [c] j with
  |.error e=>some (.error e)
  |.ok j'=>some (.ok (.mk k ⟨#[]⟩ a,j'))
def more(t:T):Option (Except Nat (List T×Nat))->Option (Except Nat (List T×Nat))
 |none=>none
 |some (.error e)=>some (.error e)
 |some (.ok (a,j))=>some (.ok (t::a,j))
mutual
def oP(l:List UInt8):Nat->Nat->Option (Except Nat (T×Nat))
 |0,_=>none
 |f+1,i=>
  if now l i 60=true then close l 3 62 (lg l f 2 0 (i+1))
  else if now l i 63=true then (if gL l (i+1)=i+1 then some (.error (i+1)) else some (.ok (.mk 2 (lU l (i+1) (gL l (i+1))) [],gL l (i+1))))
  else if gL l i=i then some (.error i)
  else if vV (lU l i (gL l i))=0\/now l (gL l i) 40=false then some (.ok (.mk 1 (lU l i (gL l i)) [],gL l i))
  else close l (vV (lU l i (gL l i))) 41 (lg l f (yF (lU l i (gL l i))) 0 (gL l i+1))
def lg(l:List UInt8):Nat->Nat->Nat->Nat->Option (Except Nat (List T×Nat))
 |0,_,_,_=>none
 |f+1,n,c,i=>match oP l f i with
  |none=>none
  |some (.error e)=>some (.error e)
  |some (.ok (t,j))=>
   if (0<n/\c+1=n)\/(n=0/\now l j 44=false) then some (.ok ([t],j))
   else match tq l [44,32] j with
    |.error e=>some (.error e)
    |.ok j'=>more t (lg l f n (c+1) j')
end
theorem Lb{l:List UInt8}{i:Nat}{c:UInt8}(h:now l i c=true):i<l.length:=by
 unfold now at h;rcases bX i l.length with g|g;·exact g
 ·rw[gD g]at h;cases h
theorem yK{l:List UInt8}:∀(q:List UInt8) (i j:Nat),tq l q i=.ok j->j=i+q.length/\(q≠[]->j<=l.length)
 |[],i,j,h=>by injection h with h;subst h;simp
 |c::cs,i,j,h=>by
  simp only[tq]at h;split at h
  ·rename_i a;obtain⟨b,e⟩:=yK cs (i+1) j h;refine⟨by simp;omega,λ_=>?_⟩;have:=Lb a;cases cs with
   |nil=>simp at b;omega
   |cons d f=>exact e aau
  ·cases h
theorem Io(l:List UInt8)(fr:Nat):∀n i,i<=nK l fr n i/\nK l fr n i<=i+n/\(i<=l.length->nK l fr n i<=l.length)
 |0,i=>by simp[nK]
 |n+1,i=>by
  simp only[nK];split
  ·rename_i h;obtain⟨b,c,a⟩:=Io l fr n (i+1);exact⟨aar,aar,λ_=>a aar⟩
  ·exact⟨ax _,aar,λh=>h⟩
theorem DJ(l:List UInt8)(i j:Nat)(h:i<=j)(h':j<=l.length):(lU l i j).size=j-i:=by
 unfold lU;rw[y7,aX,dO];omega
theorem vZ(l:List UInt8)(i:Nat):i<=gL l i/\gL l i<=i+16/\(i<=l.length->gL l i<=l.length):=Io l i 16 i
theorem CL{l:List UInt8}{i:Nat}(h:gL l i≠i):gL l i<=l.length:=by
 obtain⟨b,c,a⟩:=vZ l i;rcases Nat.le_total i l.length with g|g;·exact a g
 ·exfalso;apply h;unfold gL nK;rw[aH aaF]
theorem Me{l:List UInt8}{k:Int}{c:UInt8}{r:Option (Except Nat (List T×Nat))}{t:T}{j:Nat}(h:close l k c r=some (.ok (t,j))):∃a j',r=some (.ok (a,j'))/\tq l [c] j'=.ok j/\t=.mk k ⟨#[]⟩ a:=by
 unfold close at h;split at h;·cases h
 ·cases h
 ·rename_i a j';split at h;·cases h
  ·rename_i b hj;simp only[iw,qc,mE]at h;obtain⟨rfl,rfl⟩:=h;exact⟨a,j',rfl,hj,rfl⟩
theorem V5{t:T}{r:Option (Except Nat (List T×Nat))}{a:List T}{j:Nat}(h:more t r=some (.ok (a,j))):∃b,r=some (.ok (b,j))/\a=t::b:=by
 unfold more at h;split at h;·cases h
 ·cases h
 ·simp only[iw,qc,mE]at h;obtain⟨rfl,rfl⟩:=h;exact⟨_,rfl,rfl⟩
theorem acV{p:Prop}(h:p:=by
 have:=g aau;simp at e;refine⟨aar,this,?_⟩;simp only[bE];show 0+4+_<=_;omega):p:=h
theorem Sj(l:List UInt8):∀f,(∀i t j,oP l f i=some (.ok (t,j))->i<j/\j<=l.length/\t.bE<=5*(j-i))/\(∀n c i d j,lg l f n c i=some (.ok (d,j))->i<j/\j<=l.length/\bJ d<=5*(j-i)/\d≠[])
 |0=>⟨λ_ _ _ h=>(by cases h),λ_ _ _ _ _ h=>(by cases h)⟩
 |f+1=>by
  obtain⟨r,k⟩:=Sj l f;refine⟨λi t j h=>?_,λn c i d j h=>?_⟩
  ·simp only[oP]at h;split at h
   ·obtain⟨d,j',a,b,rfl⟩:=Me h;obtain⟨m,o,q,_⟩:=k _ _ _ _ _ a;obtain⟨e,g⟩:=yK _ _ _ b;exact acV
   ·split at h
    ·split at h;·cases h
     ·rename_i p;simp only[iw,qc,mE]at h;obtain⟨rfl,rfl⟩:=h;have a:=vZ l (i+1);have b:=CL p;refine⟨aar,b,?_⟩;simp only[bE,bJ,DJ l _ _ a.1 b];omega
    ·split at h;·cases h
     ·rename_i p;have a:=vZ l i;have b:=CL p;split at h
      ·simp only[iw,qc,mE]at h;obtain⟨rfl,rfl⟩:=h;refine⟨aar,b,?_⟩;simp only[bE,bJ,DJ l _ _ a.1 b];omega
      ·obtain⟨d,j',s,u,rfl⟩:=Me h;obtain⟨m,o,q,_⟩:=k _ _ _ _ _ s;obtain⟨e,g⟩:=yK _ _ _ u;exact acV
  ·simp only[lg]at h;split at h;·cases h
   ·cases h
   ·rename_i t j' v;obtain⟨m,o,q⟩:=r _ _ _ v;split at h
    ·simp only[iw,qc,mE]at h;obtain⟨rfl,rfl⟩:=h;refine⟨m,o,by simp only[bJ];omega,aau⟩
    ·split at h;·cases h
     ·rename_i x w;obtain⟨y,a,rfl⟩:=V5 h;obtain⟨e,g⟩:=yK _ _ _ w;obtain⟨c1,c2,c3,_⟩:=k _ _ _ _ _ a;simp at e;refine⟨aar,c2,by simp only[bJ];omega,aau⟩
theorem UO(l:List UInt8):∀f,(∀i,i<=l.length->2*(l.length-i)+1<=f->oP l f i≠none)/\(∀n c i,i<=l.length->2*(l.length-i)+2<=f->lg l f n c i≠none)
 |0=>⟨λi _ h=>aar,λn c i _ h=>aar⟩
 |f+1=>by
  obtain⟨d,a⟩:=UO l f;have b:∀k c r,r≠none->close l k c r≠none:=λk c r e=>by
   unfold close;split;·exact absurd rfl e
   ·simp
   ·split<;>simp
  refine⟨λi hi g=>?_,λn c i hi g=>?_⟩
  ·simp only[oP];split
   ·rename_i h;have:=Lb h;exact b _ _ _ (a _ _ _ aar aar)
   ·split;·split<;>simp
    ·split;·simp
     ·rename_i v;have w:=vZ l i;split;·simp
      ·rename_i m;have:=Lb (show now l (gL l i) 40=true by rcases bW (now l (gL l i) 40)with h|h;exact h;exact absurd (.inr h) m);exact b _ _ _ (a _ _ _ aar aar)
  ·simp only[lg];split;·rename_i h;exact absurd h (d i hi aar)
   ·simp
   ·rename_i t j o;obtain⟨x,y,_⟩:=(Sj l f).1 _ _ _ o;split;·simp
    ·split;·simp
     ·rename_i j' p;obtain⟨q,s⟩:=yK _ _ _ p;have:=s aau;simp at q;have u:=a n (c+1) j' aar aar;unfold more;split;·rename_i h;exact absurd h u
      ·simp
      ·simp
def parse(s:ByteArray):T×Nat×Int:=
 if 1024<s.size then (.mk 0 ⟨#[]⟩ [],0,72)
 else match oP s.data.toList (2*s.size+1) 0 with
  |none=>(.mk 0 ⟨#[]⟩ [],0,0)
  |some (.error e)=>(.mk 0 ⟨#[]⟩ [],e,71)
  |some (.ok (t,j))=>if j<s.size then (.mk 0 ⟨#[]⟩ [],j,71) else if t.eZ=true then (t,0,0) else (.mk 0 ⟨#[]⟩ [],0,76)
end T
end
section
namespace T
theorem XK(a q b:List UInt8)(j:Nat)(h:j<q.length):(a++q++b)[a.length+j]?=q[j]?:=by
 rw[dC,bq aar,mU,bN h]
theorem BL(a b:List UInt8)(c d:UInt8):now (a++c::b) a.length d=(c==d):=by
 unfold now;rw[bq (ax _),qR];simp
theorem DL:∀(q a b:List UInt8),tq (a++q++b) q a.length=.ok (a.length+q.length)
 |[],a,b=>by simp[tq]
 |c::cs,a,b=>by
  have e:a++(c::cs)++b=(a++[c])++cs++b:=aau;have h:=DL cs (a++[c]) b;simp only[tq];rw[show now (a++(c::cs)++b) a.length c=true by rw[dC,iP,BL];simp,aJ rfl,e];rw[aF]at h;simp only[bg,fE]at h⊢;rw[h];congr 1;omega
def Stop:List UInt8->Prop
 |[]=>True
 |c::_=>low c=false/\OT c=false
theorem FJ(a s b:List UInt8)(e:zq s=true)(hb:Stop b):∀n k,k<=s.length->s.length<=k+n->nK (a++s++b) a.length n (a.length+k)=a.length+s.length
 |0,k,f,g=>by simp only[nK];omega
 |n+1,k,f,g=>by
  simp only[nK];rcases bX k s.length with h|h
  ·have d:(a++s++b).getD (a.length+k) 0=s.getD k 0:=by
    rw[dn,dn,XK a s b k h]
   have i:Ai (a++s++b) a.length (a.length+k)=true:=by
    have:=bQ.1 e k (ed.2 h);unfold zD at this;unfold Ai;rw[d,show decide (a.length<a.length+k)=decide (0<k) by rw[decide_eq_decide];omega];exact this
   rw[aJ ⟨by simp;omega,i⟩,gN];exact FJ a s b e hb n (k+1) h aar
  ·have j:k=s.length:=aar;subst j;cases b with
   |nil=>rw[aH (by simp)]
   |cons c r=>
    have d:(a++s++c::r).getD (a.length+s.length) 0=c:=by
     rw[dn,bq aau,aF,qR];rfl
    rw[aH];rintro⟨_,h⟩;unfold Ai at h;rw[d,hb.1,hb.2]at h;simp at h
theorem Ah(a s b:List UInt8)(c:zq s=true)(d:s.length<=16)(hb:Stop b):gL (a++s++b) a.length=a.length+s.length:=by
 have:=FJ a s b c hb 16 0 (aT _) aar;exact this
theorem Aj(a s b:List UInt8):lU (a++s++b) a.length (a.length+s.length)=strOf s:=by
 unfold lU;rw[dC,zI,mU,vH]
end T
end
end Go.Proofs.YtaciciokmpbkkaaGreatDoor
