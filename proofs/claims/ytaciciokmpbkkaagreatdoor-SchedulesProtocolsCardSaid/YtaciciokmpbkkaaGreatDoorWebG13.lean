import Derived.Test.YtaciciokmpbkkaaGreatDoorWebG12
import Derived.Shelf.SlSortCmp.NoneTotal
set_option maxRecDepth 100000
set_option maxHeartbeats 16000000
namespace Go.Proofs.YtaciciokmpbkkaaGreatDoor
section
open Go.RowKit
variable {X:Nat->Bool}
def Hz:Value->Bool
 |.int _ _=>true
 |.string _=>true
 |.slice _ _ _=>true
 |_=>false
theorem aS.flat{w:World}{a b c:Value}{t:T}(h:aS w (.agg #[a,b,c]) t):Hz a=true/\Hz b=true/\Hz c=true:=by
 obtain⟨A,cap,U,e,_⟩:=aS.inv h;injection e with e;injection e with e;injection e with d e;injection e with f e;injection e with g _;rw[d,f,g];exact⟨rfl,rfl,rfl⟩
theorem aS.MP{w w':World}{v:Value}{t:T}(h:aS w v t)(a:∀p u,w.cell? p=some u->Hz u=true->w'.cell? p=some u):aS w' v t:=by
 induction h with
 |mk k s A cap c U d f g j hA hU l=>
  refine .mk k s A cap c U d f g j ?_ l;rcases hA with hA|⟨b,off,e,m⟩;·exact .inl hA
  ·refine .inr ⟨b,off,e,λi hi=>?_⟩;obtain⟨n,c1,c2⟩:=m i hi;obtain⟨f0,f1,f2⟩:=(hU i hi).flat;exact⟨a _ _ n f0,a _ _ c1 f1,a _ _ c2 f2⟩
theorem bI.MP{S:Nat->Bool}{w w':World}{v:Value}{t:T}(h:bI S w v t)(b:∀p u,w.cell? p=some u->Hz u=true->w'.cell? p=some u):bI S w' v t:=
 aS.MP h λp u a c=>by
  rw[fO]at a⊢;split at a;·rename_i hS;rw[aJ hS];exact b p u a c
  ·cases a
theorem OP{w:World}{b:Nat}{p:Option Addr}{e:TypeId}(hb:w.heap[b]?=some (.cells #[.pointer p] e (0,0)))(v:Value):∀q u,w.cell? q=some u->Hz u=true->(w.setCell ⟨b,0,none⟩ v).cell? q=some u:=λq u a c=>by
 by_cases e:q.block=b
 ·exfalso;unfold World.cell? at a;rw[e,hb]at a;dsimp only at a;split at a;·cases a
  ·have:(#[Value.pointer p]:Array Value)[q.off]?=some u:=a;rcases eF q.off with h0|h0;·rw[h0]at this;injection this with this;subst this;cases c
   ·rw[ny aaV]at this;cases this
 ·rw[World.cell?_setCell_other _ _ _ _ (by intro h;exact e (by rw[<-h]))];exact a
theorem qo.MP{S:Nat->Bool}{w w':World}{cs:List Value}{s:fG}(h:qo S w cs s)(c:∀p u,w.cell? p=some u->Hz u=true->w'.cell? p=some u):qo S w' cs s:=by
 obtain⟨A,cap,F,d,e,f,a⟩:=h;refine⟨A,cap,F,d,e,f.MP c,?_⟩;rcases a with a|⟨b,off,e,hS,g⟩;·exact .inl a
 ·exact .inr ⟨b,off,e,hS,λi hi=>c _ _ (g i hi) rfl⟩
theorem gz.point{B g M b:Nat}{vs vp:Value}{W:List fG}{w:World}{p:Option Addr}{e:TypeId}(h:gz X B w g M vs vp W)(hb:w.heap[b]?=some (.cells #[.pointer p] e (0,0)))(q:b<B)(v:Value):gz X B (w.setCell ⟨b,0,none⟩ v) g M vs vp W:=by
 have c:=h.apart;obtain⟨dE,d,f⟩:=h.steps;obtain⟨D,n,j,k,m⟩:=h.map;have l:=h.low;refine⟨⟨dE,⟨d.1,λi a b=>(d.2 i a b).MP (OP hb v)⟩,?_⟩,?_,⟨D,n,j.setCell (a:=⟨b,0,none⟩) (λe=>by have:M=b:=e;omega) _,k,m⟩,?_,l,h.size,λb o=>h.fresh b (by simpa[World.setCell]using o)⟩;·exact oN f λb' e _=>aL _ _ _ _ (λx=>by have:=(c.s b' e).1;have:b'=b:=x;omega)
 ·exact oN h.part λb' e _=>aL _ _ _ _ (λx=>by have:=(c.p b' e).1;have:b'=b:=x;omega)
 ·exact(aL w ⟨b,0,none⟩ v g (λe=>by have:g=b:=e;omega)).t h.box
theorem X6{B g M:Nat}{vs vp:Value}{W:List fG}{w:World}(h:gz mM B w g M vs vp W){b:Nat}(hb:b<B):nr mM g M vs vp b=true:=by
 have a:=h.apart;have l:=h.low;exact kz.2 ⟨aar,aar,λe=>aaz ((a.s b e).1),λe=>aaz ((a.p b e).1),rfl⟩
theorem aS.low{B g M:Nat}{vs vp:Value}{W:List fG}{a w:World}{v:Value}{t:T}(d:aS a v t)(h:gz mM B w g M vs vp W)(e:a.heap.size<=B)(hb:Below a.heap.size a w):bI (nr mM g M vs vp) w v t:=
 d.uM.aR λb _ c=>⟨X6 h (dw c e),hb.block b c⟩
def PZ(w w':World)(g:Nat)(W:List fG):Prop:=∃B M vs vp,w.heap.size<B/\gz mM B w' g M vs vp W
theorem Ya{U:List T}(hU:yB U)(q:∀t∈U,t.bE<=1048576)(L:List T)(A:Option Addr)(cap:Nat)(w:World)(h:iY w A cap L)(hb:∀t∈L,t.bE<=1048576)(j:∀t∈cnt L,t∈U):
 Calls Tryz.prog 110 #[.slice A L.length cap] w λe w'=>∃g,e=.returned (.agg #[.pointer (some ⟨g,0,none⟩)])/\PZ w w' g (Wb.fill U.length (cnt L))/\Below w.heap.size w w':=by
 have d:=ae w (.cells #[.pointer none] 162);have k:=aa (Za hU q L A cap _ (h.ag d) hb j);have bn:(w.alloc (.cells #[.pointer none] 162)).heap[w.heap.size]?=some (.cells #[.pointer none] 162 (0,0)):=bP w _;have l:=aK w (.cells #[.pointer none] 162);obtain⟨m,f⟩:=aab d l;clear h hb j d l;go_enter Tryz.func110,Tryz.ntmps110;go_upto_region 1 with fail;generalize w.alloc _=r at k bn m f⊢;have s:=aa bn;clear bn;go_wp2_with fail;refine k.o.m ?_;rintro e a ⟨g,M,vs,vp,rfl,n,i⟩;have b:a.heap[w.heap.size]?=some (.cells #[.pointer none] 162 (0,0)):=(i.block _ (aaz f.o)).t s.o;have c:w.heap.size<r.heap.size:=(aaz f.o);have o:=n.point b c (.pointer (some ⟨g,0,none⟩));have p:=(m.o.t (i.m (jo c))).setCell (show w.heap.size<=(⟨w.heap.size,0,none⟩:Addr).block from ax _) (.pointer (some ⟨g,0,none⟩));have u:a.cell? ⟨w.heap.size,0,none⟩=some (.pointer none):=(by unfold World.cell?;rw[b];rfl);have f0:a.frozen? ⟨w.heap.size,0,none⟩=false:=(by simp[World.frozen?,b]);have c1:(a.setCell ⟨w.heap.size,0,none⟩ (.pointer (some ⟨g,0,none⟩))).cell? ⟨w.heap.size,0,none⟩=some (.pointer (some ⟨g,0,none⟩)):=World.cell?_setCell_same _ _ _ u;obtain⟨x,y⟩:=aab ((show PZ w (a.setCell ⟨w.heap.size,0,none⟩ (.pointer (some ⟨g,0,none⟩))) g (Wb.fill U.length (cnt L))from⟨_,M,vs,vp,c,o⟩)) p;clear n i b o p c;go_wp2_with fail;refine aV (v:=.agg #[.pointer (some ⟨g,0,none⟩)]) (by simp[results,Tryz.results110,go_sem,c1]) rfl ?_;exact⟨g,rfl,x.o,y.o⟩
def Hd(W:List fG)(t:T):Bool:=t.use&&(Wb.Ci W t).2.isSome
theorem YP{W:List fG}{t:T}(h:t.use=false):Hd W t=false:=by unfold Hd;rw[h];rfl
theorem YQ{W:List fG}{t:T}(h:(Wb.Ci W t).2=none):Hd W t=false:=by unfold Hd;rw[h];simp
theorem YR{W:List fG}{t:T}{i:Nat}(hu:t.use=true)(h:(Wb.Ci W t).2=some i):Hd W t=true:=by unfold Hd;rw[hu,h];rfl
end
section
open Go.RowKit Go.Maps
structure Db where
 t:T
 how:Int
 jw:List Int
namespace Wb
def YW(W:List fG)(i:Nat):Nat:=(W[i]?.map fG.how).getD 0
def MF(W:List fG)(i:Nat):List Nat:=(W[i]?.map fG.jw).getD []
abbrev ZA:=(List Db×List (Nat×Nat))×Nat
def YD(rec:List Db->List (Nat×Nat)->Nat->ZA):List Nat->List Db->List (Nat×Nat)->List Int->(List Db×List (Nat×Nat))×List Int
 |[],out,pl,a=>((out,pl),a)
 |j::b,out,pl,a=>YD rec b (rec out pl j).1.1 (rec out pl j).1.2 (a++[((rec out pl j).2:Int)])
def nd:Nat->List fG->List Db->List (Nat×Nat)->Nat->ZA
 |0,_,out,pl,_=>((out,pl),0)
 |f+1,W,out,pl,i=>
  match pl.lookup i with
  |some k=>((out,pl),k)
  |none=>(((YD (nd f W) (MF W i) out pl []).1.1++[⟨rU W i,(YW W i:Int),(YD (nd f W) (MF W i) out pl []).2⟩],(i,(YD (nd f W) (MF W i) out pl []).1.1.length)::(YD (nd f W) (MF W i) out pl []).1.2),(YD (nd f W) (MF W i) out pl []).1.1.length)
def Ord(W:List fG):Prop:=∀i (h:i<W.length),W[i].jw.length<=2/\∀j∈W[i].jw,j<i
def Zw(W:List fG)(out:List Db)(pl:List (Nat×Nat)):Prop:=out.length=pl.length/\(pl.map Prod.fst).Nodup/\∀p∈pl,p.1<W.length
theorem Zw.nil(W:List fG):Zw W [] []:=⟨rfl,zK,λp h=>by cases h⟩
theorem Uu:∀{l:List Nat} {n:Nat},l.Nodup->(∀x∈l,x<n)->l.length<=n:=λ{l n} a h=>by
 have:=yc (l:=l) (m:=List.range n) a λx b=>ed.2 (h x b)
 rwa [List.length_range]at this
theorem Zw.len{W:List fG}{out:List Db}{pl:List (Nat×Nat)}(h:Zw W out pl):out.length<=W.length:=by
 rw[h.1];have:=Uu (l:=pl.map Prod.fst) (n:=W.length) h.2.1 λx a=>by
  obtain⟨p,b,rfl⟩:=ek.1 a;exact h.2.2 p b
 rwa [bZ]at this
end Wb
def IntsIn(S:Nat->Bool)(w:World)(A:Option Addr)(ns:List Int):Prop:=
 ns.length=0\/∃b off,A=some ⟨b,off,none⟩/\S b=true/\∀i (h:i<ns.length),w.cell? ⟨b,off+i,none⟩=some (.int .i64 ns[i])
theorem IntsIn.aR{S S':Nat->Bool}{w w':World}{A:Option Addr}{ns:List Int}(h:IntsIn S w A ns)(c:∀b,S b=true->b<w.heap.size->S' b=true/\w'.heap[b]?=w.heap[b]?):IntsIn S' w' A ns:=by
 rcases h with h|⟨b,off,e,hS,a⟩;·exact .inl h
 ·by_cases h0:ns.length=0;·exact .inl h0
  ·have d:=eQ w _ (a 0 aar);obtain⟨f,g⟩:=c b hS d;exact .inr ⟨b,off,e,f,λi hi=>(dB g).t (a i hi)⟩
def Ex(S:Nat->Bool)(w:World)(A:Option Addr)(ns:List Int):Prop:=
 ns.length=0\/∃b off,A=some ⟨b,off,none⟩/\S b=true/\∀i (h:i<ns.length),w.cell? ⟨b,off+i,none⟩=some (.int .i64 ns[i])/\w.frozen? ⟨b,off+i,none⟩=false
theorem zn{w w':World}{b k:Nat}(h:w'.heap[b]?=w.heap[b]?):w'.frozen? ⟨b,k,none⟩=w.frozen? ⟨b,k,none⟩:=by
 unfold World.frozen?;rw[h]
theorem Ex.aR{S S':Nat->Bool}{w w':World}{A:Option Addr}{ns:List Int}(h:Ex S w A ns)(d:∀b,S b=true->b<w.heap.size->S' b=true/\w'.heap[b]?=w.heap[b]?):Ex S' w' A ns:=by
 rcases h with h|⟨b,off,e,hS,a⟩;·exact .inl h
 ·by_cases h0:ns.length=0;·exact .inl h0
  ·have f:=eQ w _ (a 0 aar).1;obtain⟨g,c⟩:=d b hS f;exact .inr ⟨b,off,e,g,λi hi=>⟨(dB c).t (a i hi).1,(zn c).t (a i hi).2⟩⟩
theorem Ex.in{S:Nat->Bool}{w:World}{A:Option Addr}{ns:List Int}(h:Ex S w A ns):IntsIn S w A ns:=by
 rcases h with h|⟨b,off,e,hS,a⟩;·exact .inl h
 ·exact .inr ⟨b,off,e,hS,λi hi=>(a i hi).1⟩
def GU(S:Nat->Bool)(w:World)(cs:List Value)(r:Db):Prop:=
 ∃A cap F a,cs=[.int .i64 r.t.aA,.string r.t.aI,.slice A r.t.ay.length cap,.int .i64 r.how,.slice F r.jw.length a]/\bI S w (.agg #[.int .i64 r.t.aA,.string r.t.aI,.slice A r.t.ay.length cap]) r.t/\Ex S w F r.jw
theorem GU.aR{S S':Nat->Bool}{w w':World}{cs:List Value}{r:Db}(h:GU S w cs r)(a:∀b,S b=true->b<w.heap.size->S' b=true/\w'.heap[b]?=w.heap[b]?):GU S' w' cs r:=by
 obtain⟨A,cap,F,c,e,d,f⟩:=h;exact⟨A,cap,F,c,e,d.aR a,f.aR a⟩
theorem GU.len{S:Nat->Bool}{w:World}{cs:List Value}{r:Db}(h:GU S w cs r):cs.length=5:=by
 obtain⟨A,cap,F,a,e,_⟩:=h;rw[e];rfl
def yw(S:Nat->Bool)(w:World)(dE:List (List Value))(L:List Db):Prop:=dE.length=L.length/\∀i (h:i<dE.length) (h':i<L.length),GU S w dE[i] L[i]
theorem yw.aR{S S':Nat->Bool}{w w':World}{dE:List (List Value)}{L:List Db}(h:yw S w dE L)(c:∀b,S b=true->b<w.heap.size->S' b=true/\w'.heap[b]?=w.heap[b]?):yw S' w' dE L:=
 ⟨h.1,λi a b=>(h.2 i a b).aR c⟩
theorem yw.push{S:Nat->Bool}{w:World}{dE:List (List Value)}{L:List Db}{cs:List Value}{r:Db}(h:yw S w dE L)(c:GU S w cs r):yw S w (dE++[cs]) (L++[r]):=by
 refine⟨by rw[aF,aF,h.1];rfl,λi a b=>?_⟩;by_cases hi:i<dE.length
 ·rw[dH hi,dH aa7];exact h.2 i hi aa7
 ·have d:i=dE.length:=(by simp at a;omega);subst d;have e:(dE++[cs])[dE.length]'a=cs:=aau;have f:(L++[r])[dE.length]'b=r:=(by rw[dh (by rw[h.1];exact ax _)];simp);rw[e,f];exact c
def WB(H:Nat)(X:Nat->Bool)(row:Option Nat)(M:Nat):Nat->Bool:=λb=>decide (H<=b)&&!(X b)&&!(row==some b)&&!(b==M)
theorem pX{H M b:Nat}{X:Nat->Bool}{row:Option Nat}:WB H X row M b=true<->H<=b/\X b=false/\row≠some b/\b≠M:=by
 unfold WB;rw[ah,ah,ah,bO,bT,bT,bT,aD,aD,lF,lF]
def vI(H:Nat)(X:Nat->Bool)(M:Nat)(w:World)(ov:Value)(out:List Db):Prop:=∃dE,yw (WB H X ov.ownBlock M) w dE out/\w.ownsRow H 197 5 ov out.length dE.flatten
theorem vI.less{H M:Nat}{X a:Nat->Bool}{w:World}{ov:Value}{out:List Db}(h:vI H X M w ov out)(d:∀b,a b=true->X b=true):vI H a M w ov out:=by
 obtain⟨dE,f,g⟩:=h;refine⟨dE,f.aR λb hb _=>⟨?_,rfl⟩,g⟩;obtain⟨i,c,j,k⟩:=pX.1 hb;refine pX.2 ⟨i,?_,j,k⟩;cases e:a b with
 |false=>rfl
 |true=>rw[d b e]at c;cases c
theorem vI.more{H M:Nat}{X a:Nat->Bool}{w:World}{ov:Value}{out:List Db}(h:vI H X M w ov out)(d:∀b,b<w.heap.size->a b=true->X b=true):vI H a M w ov out:=by
 obtain⟨dE,f,g⟩:=h;refine⟨dE,f.aR λb hb i=>⟨?_,rfl⟩,g⟩;obtain⟨j,c,k,l⟩:=pX.1 hb;refine pX.2 ⟨j,?_,k,l⟩;cases e:a b with
 |false=>rfl
 |true=>rw[d b i e]at c;cases c
def kn(i:Nat):Lit:=.int .i64 (i:Int)
def VC(D:DataW Unit)(pl:List (Nat×Nat)):Prop:=∀i:Nat,Maps.has D (kn i)=(pl.lookup i).isSome/\∀k,pl.lookup i=some k->D.atKey (kn i) (.lit (.int .i64 0))=.lit (.int .i64 (k:Int))
theorem VC.push{D:DataW Unit}{pl:List (Nat×Nat)}(h:VC D pl)(c:Maps.IsMap D)(i k:Nat):VC (D.put (kn i) (.lit (.int .i64 (k:Int)))) ((i,k)::pl):=λj=>by
 rw[xN];by_cases e:j=i
 ·subst e;rw[xW];refine⟨Maps.has_put_same c (show Go.WideAt.IsKeyLit (kn j)from trivial) _,λk' a=>?_⟩;have b:k=k':=aB a;rw[uL c (show Go.WideAt.IsKeyLit (kn j)from trivial),b]
 ·have hb:(j==i)=false:=(by rw[aD];exact e);have a:kn j≠kn i:=λh=>(by unfold kn at h;injection h with _ h;exact e aar);rw[hb,Maps.has_put_other a];refine⟨(h j).1,λk' b=>?_⟩;rw[uh a];exact(h j).2 k' b
def Ky(H M:Nat)(w:World)(pl:List (Nat×Nat)):Prop:=H<=M/\∃D n,w.ownsMap Tryz.prog 3 (plainElem (H:=Unit) Tryz.prog 3) M n D/\n<=pl.length/\VC D pl
theorem Ky.ag{H M:Nat}{w w':World}{pl:List (Nat×Nat)}(h:Ky H M w pl)(hb:Below w.heap.size w w'):Ky H M w' pl:=by
 obtain⟨a,D,n,b,c⟩:=h;exact⟨a,D,n,b.kept (row:=none) (jr none hb) aau,c⟩
theorem Ky.lt{H M:Nat}{w:World}{pl:List (Nat×Nat)}(h:Ky H M w pl):M<w.heap.size:=by
 obtain⟨d,D,n,a,e⟩:=h;obtain⟨f,c,b⟩:=J7 a;exact(aW.1 b).1
theorem vI.ag{H M:Nat}{X:Nat->Bool}{w w':World}{ov:Value}{out:List Db}(h:vI H X M w ov out)(hb:Below w.heap.size w w'):vI H X M w' ov out:=by
 obtain⟨dE,a,c⟩:=h;exact⟨dE,a.aR λb d e=>⟨d,hb.block b e⟩,dG c hb⟩
structure SY (M:Nat) (w:World) (ov:Value) (w':World) (DX:Value):Prop where
 size:w.heap.size<=w'.heap.size
 aR:∀b,b<w.heap.size->ov.ownBlock≠some b->b≠M->w'.heap[b]?=w.heap[b]?
 row:DX.ownBlock=ov.ownBlock\/∀b,DX.ownBlock=some b->w.heap.size<=b
theorem SY.refl(M:Nat)(w:World)(ov:Value):SY M w ov w ov:=⟨ax _,λ_ _ _ _=>rfl,.inl rfl⟩
theorem SY.t{M:Nat}{w w' w'':World}{ov DX d:Value}(h:SY M w ov w' DX)(h':SY M w' DX w'' d):SY M w ov w'' d:=by
 refine⟨aG h.size h'.size,λb hb f g=>?_,?_⟩
 ·rw[h'.aR b (dw hb h.size) (λe=>?_) g,h.aR b hb f g];rcases h.row with a|a;·exact f (a.symm.t e)
  ·have:=a b e;omega
 ·rcases h'.row with c|c
  ·rcases h.row with a|a;·exact .inl (c.t a)
   ·right;intro b e;rw[c]at e;exact a b e
  ·right;intro b e;have:=c b e;have:=h.size;omega
theorem SY.ag{M:Nat}{w w' w'':World}{ov DX:Value}(h:SY M w ov w' DX)(hb:Below w'.heap.size w' w''):SY M w ov w'' DX:=
 h.t ⟨hb.size,λb a _ _=>hb.block b a,.inl rfl⟩
def XD(H:Nat)(X:Nat->Bool)(M:Nat)(w:World)(ov:Value)(r:Wb.ZA)(e:Ending)(w':World):Prop:=∃DX,e=.returned (.tuple #[DX,.int .i64 (r.2:Int)])/\vI H X M w' DX r.1.1/\Ky H M w' r.1.2/\Below H w w'/\SY M w ov w' DX
def xI(w:World)(g:Nat)(a b c d e:Value):Prop:=w.heap[g]?=some (.cells #[a,b,c,d,e] 197 (0,0))
theorem xI.lt{w:World}{g:Nat}{a b c d e:Value}(h:xI w g a b c d e):g<w.heap.size:=(aW.1 h).1
theorem xI.cells{w:World}{g:Nat}{a b c d e:Value}(h:xI w g a b c d e):w.cell? ⟨g,0,none⟩=some a/\w.cell? ⟨g,1,none⟩=some b/\w.cell? ⟨g,2,none⟩=some c/\w.cell? ⟨g,3,none⟩=some d/\w.cell? ⟨g,4,none⟩=some e:=by
 unfold xI at h;refine⟨?_,?_,?_,?_,?_⟩<;>simp[World.cell?,h]
theorem xI.free{w:World}{g:Nat}{a b c d e:Value}(h:xI w g a b c d e):∀i,w.frozen? ⟨g,i,none⟩=false:=by
 unfold xI at h;intro i;simp[World.frozen?,h]
theorem xI.ag{w w':World}{g:Nat}{a b c d e:Value}(h:xI w g a b c d e)(hb:Below w.heap.size w w'):xI w' g a b c d e:=(hb.block g h.lt).t h
theorem xI.ZV{w:World}{g:Nat}{a b c d e:Value}(h:xI w g a b c d e)(v:Value):xI (w.setCell ⟨g,4,none⟩ v) g a b c d v:=by
 unfold xI at*;simp[World.setCell,Array.getElem?_modify,h]
theorem xI.new(w:World)(a b c d e:Value):xI (w.alloc (.cells #[a,b,c,d,e] 197)) w.heap.size a b c d e:=bP w _
structure E9 (H M gs:Nat) (X:Nat->Bool) (w:World) (ov:Value) (t:T) (A3:Option Addr) (C3:Nat) (how:Int) (wr:World) (ovj:Value) (outj:List Db) (plj:List (Nat×Nat)) (ks:List Int) (Fv:Value):Prop where
 o:vI H (λb=>X b||b==gs||Fv.ownBlock==some b) M wr ovj outj
 pl:Ky H M wr plj
 below:Below H w wr
 fr:SY M w ov wr ovj
 box:xI wr gs (.int .i64 t.aA) (.string t.aI) (.slice A3 t.ay.length C3) (.int .i64 how) Fv
 row:wr.ownsRow w.heap.size 3 1 Fv ks.length (ks.map (Value.int .i64))
 term:bI (λb=>decide (w.heap.size<=b)&&!(b==gs)&&!(ovj.ownBlock==some b)&&!(Fv.ownBlock==some b)) wr (.agg #[.int .i64 t.aA,.string t.aI,.slice A3 t.ay.length C3]) t
 Zx:ovj.ownBlock≠some gs
 Xt:∀b,Fv.ownBlock=some b->b≠gs/\b≠M/\ovj.ownBlock≠some b
 hH:H<=w.heap.size
 XV:w.heap.size<=gs
 hM:M<w.heap.size
 hX:∀b,X b=true->b<w.heap.size
theorem Eb{w:World}{gs b:Nat}{ovj Fv:Value}:(decide (w.heap.size<=b)&&!(b==gs)&&!(ovj.ownBlock==some b)&&!(Fv.ownBlock==some b))=true<->w.heap.size<=b/\b≠gs/\ovj.ownBlock≠some b/\Fv.ownBlock≠some b:=by
 rw[ah,ah,ah,bO,bT,bT,bT,aD,aD,aD,lF,lF]
theorem PU{X:Nat->Bool}{gs b:Nat}{Fv:Value}:(X b||b==gs||Fv.ownBlock==some b)=false<->X b=false/\b≠gs/\Fv.ownBlock≠some b:=by
 rw[kL,kL,aD,aD,lF]
theorem E9.call{H M gs:Nat}{X:Nat->Bool}{w wr w3:World}{ov ovj d:Value}{t:T}{A3:Option Addr}{C3:Nat}{how:Int}{outj j:List Db}{plj k:List (Nat×Nat)}{l:List Int}{Fv:Value}
 (h:E9 H M gs X w ov t A3 C3 how wr ovj outj plj l Fv) (n:vI H (λb=>X b||b==gs||Fv.ownBlock==some b) M w3 d j) (o:Ky H M w3 k) (hb:Below H wr w3) (a:SY M wr ovj w3 d):E9 H M gs X w ov t A3 C3 how w3 d j k l Fv:=by
 have p:gs≠M:=(aaA h.XV h.hM);have q:=h.box.lt;refine⟨n,o,h.below.t hb,h.fr.t a,(a.aR gs q h.Zx p).t h.box,?_,?_,?_,?_,h.hH,h.XV,h.hM,h.hX⟩;·exact oN h.row λb e f=>a.aR b f (h.Xt b e).2.2 (h.Xt b e).2.1
 ·refine h.term.aR λb s f=>?_;obtain⟨g,i,c,u⟩:=Eb.1 s;refine⟨Eb.2 ⟨g,i,λe=>?_,u⟩,a.aR b f c (aaz h.hM)⟩;rcases a.row with r|r;·exact c (r.symm.t e)
  ·have:=r b e;omega
 ·intro e;rcases a.row with r|r;·exact h.Zx (r.symm.t e)
  ·have:=r gs e;omega
 ·intro b e;obtain⟨g,i,c⟩:=h.Xt b e;refine⟨g,i,λm=>?_⟩;rcases a.row with r|r;·exact c (r.symm.t m)
  ·have:=r b m;have:=(h.row.lt b e).2;omega
theorem E9.turn{H M gs:Nat}{X:Nat->Bool}{w w3 w8:World}{ov ovj:Value}{t:T}{A3:Option Addr}{C3:Nat}{how k:Int}{outj:List Db}{plj:List (Nat×Nat)}{f:List Int}{Fv d:Value}{o:Obj}
 (h:E9 H M gs X w ov t A3 C3 how w3 ovj outj plj f Fv) (j:(w3.alloc o).grownBy w8 Fv.ownBlock) (B:w8.ownsRow w.heap.size 3 1 d (f.length+1) (f.map (Value.int .i64)++[.int .i64 k])) (s:d.ownBlock=Fv.ownBlock\/d.ownBlock=some (w3.alloc o).heap.size):
 E9 H M gs X w ov t A3 C3 how (w8.setCell ⟨gs,4,none⟩ d) ovj outj plj (f++[k]) d:=by
 have z4:=aK w3 o;have Y:=j.size;have C:=h.box.lt;have E:=h.hH;have F:=h.XV;have G:=h.hM;have u:∀b,Fv.ownBlock=some b->w.heap.size<=b/\b<w3.heap.size:=h.row.lt;have key:∀b,b<w3.heap.size->b≠gs->Fv.ownBlock≠some b->(w8.setCell ⟨gs,4,none⟩ d).heap[b]?=w3.heap[b]?:=λb c g i=>by
  rw[aL _ _ _ _ g,j.block b aar (λe=>i e.symm),fK w3 o b c]
 have v:∀b,b<w3.heap.size->Fv.ownBlock≠some b->d.ownBlock≠some b:=λb c g e=>by
  rcases s with r|r;·exact g (r.symm.t e)
  ·rw[r]at e;injection e with e;omega
 have y:∀b,d.ownBlock=some b->b≠gs/\b≠M/\ovj.ownBlock≠some b:=λb e=>by
  rcases s with r|r;·exact h.Xt b (r.symm.t e)
  ·rw[r]at e;injection e with e;refine⟨aar,aar,λI=>?_⟩;obtain⟨dE,_,i⟩:=h.o;have:=(i.lt b I).2;omega
 have Z:=h.fr.size;refine⟨?_,?_,?_,?_,?_,?_,?_,h.Zx,y,E,F,G,h.hX⟩
 ·obtain⟨dE,g,i⟩:=h.o;refine⟨dE,g.aR λb hb c=>?_,oN i λb e c=>key b c (λx=>h.Zx (by rw[e,x])) (λx=>(h.Xt b x).2.2 e)⟩;obtain⟨p,l,q,m⟩:=pX.1 hb;obtain⟨J,z,A⟩:=PU.1 l;exact⟨pX.2 ⟨p,PU.2 ⟨J,z,v b c A⟩,q,m⟩,key b c z A⟩
 ·obtain⟨K,D,n,L,N⟩:=h.pl;have O:=L.kept (row:=none) (w':=w3.alloc o) (jr none (ae w3 o)) aau;have P:=O.kept j (λe=>(h.Xt M e.symm).2.1 rfl);exact⟨K,D,n,P.setCell (a:=⟨gs,4,none⟩) (λe=>by have:M=gs:=e;omega) _,N⟩
 ·have Q:=h.below.t ((ae w3 o).m aar);exact(Q.grown j aar (λk R=>aaz ((u k R).1))).setCell (show H<=(⟨gs,4,none⟩:Addr).block from(by show H<=gs;omega)) _
 ·refine⟨by rw[rQ];omega,λb c g i=>?_,h.fr.row⟩;rw[key b aar aar (λe=>aaz ((u b e).1))];exact h.fr.aR b c g i
 ·have S:xI w8 gs _ _ _ _ Fv:=(j.block gs aar (λe=>(h.Xt gs e.symm).1 rfl)).t ((fK w3 o gs C).t h.box);exact S.ZV d
 ·have U:(f++[k]).length=f.length+1:=aau;have V:(f++[k]).map (Value.int .i64)=f.map (Value.int .i64)++[.int .i64 k]:=aau;rw[U,V];exact oN B λb e _=>aL _ _ _ _ (y b e).1
 ·refine h.term.aR λb W c=>?_;obtain⟨p,l,q,m⟩:=Eb.1 W;exact⟨Eb.2 ⟨p,l,q,v b c m⟩,key b c l m⟩
theorem E9.fin{H M gs:Nat}{X:Nat->Bool}{w wr w5 w7:World}{ov ovj DX:Value}{t:T}{A3:Option Addr}{C3:Nat}{how:Int}{outj:List Db}{plj z:List (Nat×Nat)}{a:List Int}{d:Option Addr}{cf:Nat}{dE:List (List Value)}{o:Obj}
 (h:E9 H M gs X w ov t A3 C3 how wr ovj outj plj a (.slice d a.length cf)) (I:yw (WB H (λb=>X b||b==gs||(Value.slice d a.length cf).ownBlock==some b) ovj.ownBlock M) wr dE outj) (p:wr.mapTurned w5 M) (A:Ky H M w5 z)
 (J:w7.ownsRow H 197 5 DX (outj.length+1) (dE.flatten++[.int .i64 t.aA,.string t.aI,.slice A3 t.ay.length C3,.int .i64 how,.slice d a.length cf])) (m:(w5.alloc o).grownBy w7 ovj.ownBlock) (B:DX.ownBlock=ovj.ownBlock\/DX.ownBlock=some (w5.alloc o).heap.size) (C:∀b,ovj.ownBlock=some b->H<=b/\b<wr.heap.size/\b≠M):
 XD H X M w ov ((outj++[⟨t,how,a⟩],z),outj.length) (.returned (.tuple #[DX,.int .i64 (outj.length:Int)])) w7:=by
 have z5:=p.grown.size;have W:=aK w5 o;have Y:=m.size;have Z:=h.hH;have l2:=h.XV;have l3:=h.hM;have K:=h.fr.size;have key:∀b,b<wr.heap.size->ovj.ownBlock≠some b->b≠M->w7.heap[b]?=wr.heap[b]?:=λb c g q=>by
  rw[m.block b aar (λe=>g e.symm),fK w5 o b aar,p.grown.block b c (λe=>q abb)]
 have s:∀b,b<wr.heap.size->ovj.ownBlock≠some b->DX.ownBlock≠some b:=λb c g e=>by
  rcases B with r|r;·exact g (r.symm.t e)
  ·rw[r]at e;injection e with e;omega
 have aa:w.heap.size<=wr.heap.size:=K;refine⟨DX,rfl,⟨dE++[([Value.int .i64 t.aA,Value.string t.aI,Value.slice A3 t.ay.length C3,Value.int .i64 how,Value.slice d a.length cf]:List Value)],yw.push (I.aR λb hb c=>?_) ?_,?_⟩,?_,?_,?_⟩
 ·obtain⟨E,F,j,u⟩:=pX.1 hb;obtain⟨L,x2,x3⟩:=PU.1 F;exact⟨pX.2 ⟨E,L,s b c j,u⟩,key b c j u⟩
 ·refine⟨A3,C3,d,cf,rfl,h.term.aR λb N c=>?_,?_⟩
  ·obtain⟨E,F,j,u⟩:=Eb.1 N;refine⟨pX.2 ⟨aar,?_,s b c j,aar⟩,key b c j aar⟩;cases e:X b with
   |false=>rfl
   |true=>have:=h.hX b e;omega
  ·rcases eF a.length with h0|h0;·exact .inl h0
   ·have v:=h.row;obtain⟨f,fc,e,f1,f2⟩:=v.form h0;injection e with x G O;subst x;subst O;obtain⟨n1,n2,y⟩:=h.Xt f rfl;refine .inr ⟨f,0,rfl,pX.2 ⟨aar,?_,s f f2 y,n2⟩,λi hi=>?_⟩
    ·cases e:X f with
     |false=>rfl
     |true=>have:=h.hX f e;omega
    ·rw[eP];refine⟨(dB (key f f2 y n2)).t ?_,(zn (key f f2 y n2)).t (v.frozenAt i)⟩;have P:i<a.length:=hi;rw[v.cellAt i aar,kQ,az P];rfl
 ·have x:(outj++[(⟨t,how,a⟩:Db)]).length=outj.length+1:=aau;have G:(dE++[([Value.int .i64 t.aA,Value.string t.aI,Value.slice A3 t.ay.length C3,Value.int .i64 how,Value.slice d a.length cf]:List Value)]).flatten=dE.flatten++[Value.int .i64 t.aA,.string t.aI,.slice A3 t.ay.length C3,.int .i64 how,.slice d a.length cf]:=aau;rw[x,G];exact J
 ·obtain⟨Q,D,n,R,S⟩:=A;have U:=R.kept (row:=none) (w':=w5.alloc o) (jr none (ae w5 o)) aau;exact⟨Q,D,n,U.kept m (λe=>(C M e.symm).2.2 rfl),S⟩
 ·have V:=h.below.grown p.grown aar (λk l=>by injection l with l;subst l;exact A.1);exact(V.t ((ae w5 o).m aar)).grown m aar (λk l=>(C k l).1)
 ·refine h.fr.t ⟨aar,λb c g q=>key b c g q,?_⟩;rcases B with r|r;·exact .inl r
  ·right;intro b e;rw[r]at e;injection e with e;omega
end
section
namespace Wb
theorem Ord.nil:Ord []:=λ_ h=>absurd h (ji _)
theorem Ord.push{W:List fG}(h:Ord W)(t:T)(how:Nat){jw:List Nat}(p:Bool)(b:jw.length<=2)(c:∀j∈jw,j<W.length):Ord (W++[⟨t,how,jw,p⟩]):=λi hi=>by
 by_cases a:i<W.length;·rw[dH a];exact h i a
 ·have e:i=W.length:=aaQ;subst e;have d:(W++[(⟨t,how,jw,p⟩:fG)])[W.length]'hi=⟨t,how,jw,p⟩:=aau;rw[d];exact⟨b,c⟩
theorem Ord.add{W:List fG}(h:Ord W)(t:T)(how:Nat){jw:List Nat}(b:jw.length<=2)(c:∀j∈jw,j<W.length):Ord (add W t how jw).1:=by
 cases a:find W t with
 |some i=>rw[ry a];exact h
 |none=>rw[rq a];exact h.push t how false b c
theorem Ord.mark{W:List fG}(h:Ord W)(i:Nat):Ord (mark W i):=λj hj=>by
 have a:j<W.length:=abd;obtain⟨_,_,e,_⟩:=yJ W i j hj a;rw[e];exact h j a
theorem Ord.take{W:List fG}(h:Ord W)(t:T)(how:Nat){jw:List Nat}(a:jw.length<=2)(b:∀j∈jw,j<W.length):Ord (take W t how jw).1:=by
 unfold Wb.take;split;·exact h.add t how a b
 ·exact(h.add t how a b).mark _
end Wb
end
section
open Go.RowKit Go.Maps
theorem IntsIn.all{S:Nat->Bool}{w:World}{A:Option Addr}{ns:List Int}(h:IntsIn S w A ns):IntsIn (λ_=>true) w A ns:=h.aR λ_ _ _=>⟨rfl,rfl⟩
def LJ(w:World)(A:Option Addr)(L:List Db):Prop:=L.length=0\/∃b off,A=some ⟨b,off,none⟩/\∀i (h:i<L.length),∃a c F d,w.cell? ⟨b,off+i*5,none⟩=some (.int .i64 L[i].t.aA)/\w.cell? ⟨b,off+i*5+1,none⟩=some (.string L[i].t.aI)/\
 w.cell? ⟨b,off+i*5+2,none⟩=some (.slice a L[i].t.ay.length c)/\w.cell? ⟨b,off+i*5+3,none⟩=some (.int .i64 L[i].how)/\w.cell? ⟨b,off+i*5+4,none⟩=some (.slice F L[i].jw.length d)/\
 aS w (.agg #[.int .i64 L[i].t.aA,.string L[i].t.aI,.slice a L[i].t.ay.length c]) L[i].t/\IntsIn (λ_=>true) w F L[i].jw
theorem LJ.ag{w w':World}{A:Option Addr}{L:List Db}(h:LJ w A L)(hb:Below w.heap.size w w'):LJ w' A L:=by
 rcases h with h|⟨b,off,e,h⟩;·exact .inl h
 ·refine .inr ⟨b,off,e,λi hi=>?_⟩;obtain⟨a,c,F,d,f,c1,c2,c3,c4,g,j⟩:=h i hi;exact⟨a,c,F,d,af hb f,af hb c1,af hb c2,af hb c3,af hb c4,g.ag hb,j.aR λb _ k=>⟨rfl,hb.block b k⟩⟩
theorem vI.Z8{H M:Nat}{X:Nat->Bool}{w:World}{ov:Value}{out:List Db}(h:vI H X M w ov out):∃A c,ov=.slice A out.length c/\LJ w A out:=by
 obtain⟨dE,b,d⟩:=h;rcases eF out.length with h0|h0
 ·obtain⟨A,c,e⟩:=EO d;exact⟨A,c,e,.inl h0⟩
 ·obtain⟨f,k,e,_⟩:=d.form h0;subst e;refine⟨_,k,rfl,.inr ⟨f,0,rfl,λi hi=>?_⟩⟩;have g:i<dE.length:=(by rw[b.1];exact hi);obtain⟨A,cap,F,l,e,m,n⟩:=b.2 i g hi;have o:∀cs∈dE,cs.length=5:=λcs a=>by
   obtain⟨j,hj,rfl⟩:=bL a;exact(b.2 j hj (by rw[<-b.1];exact hj)).len
  have a:∀r,r<5->w.cell? ⟨f,0+i*5+r,none⟩=(dE[i])[r]?:=λr p=>by
   rw[eP,d.cellAt (i*5+r) aaF];exact Bv dE o i g r p
  rw[e]at a;exact⟨A,cap,F,l,a 0 aar,a 1 aar,a 2 aar,a 3 aar,a 4 aar,m.at,n.in.all⟩
def YF(w:World)(r:Option (List Db))(e:Ending)(w':World):Prop:=Below w.heap.size w w'/\match r with
 |none=>e=.returned (.tuple #[.slice none 0 0,.bool false])
 |some L=>∃A c,e=.returned (.tuple #[.slice A L.length c,.bool true])/\LJ w' A L
def Td(w:World)(r:Option (List Db))(e:Ending)(w':World):Prop:=Below w.heap.size w w'/\match r with
 |none=>e=.returned (.tuple #[.slice none 0 0,.bool false])
 |some L=>∃A c H M,e=.returned (.tuple #[.slice A L.length c,.bool true])/\w.heap.size<=H/\vI H (λ_=>false) M w' (.slice A L.length c) L
theorem Td.to{w:World}{r:Option (List Db)}{e:Ending}{w':World}(h:Td w r e w'):YF w r e w':=by
 obtain⟨b,a⟩:=h;refine⟨b,?_⟩;cases r with
 |none=>exact a
 |some L=>
  obtain⟨A,c,H,M,d,_,f⟩:=a;obtain⟨k,l,g,i⟩:=f.Z8;injection g with j m n;subst j;exact⟨A,c,d,i⟩
end
section
open Go.RowKit
def Tp(w:World):Type:={ x:(Int×ByteArray×Option Addr×Nat×Nat)×T // aS w (.agg #[.int .i64 x.1.1,.string x.1.2.1,.slice x.1.2.2.1 x.1.2.2.2.1 x.1.2.2.2.2]) x.2/\x.2.bE<=1048576 }
instance (w:World):Inhabited (Tp w):=⟨⟨((0,⟨#[]⟩,none,0,0),.mk 0 ⟨#[]⟩ []),aS.mk 0 ⟨#[]⟩ none 0 [] (λ_=>(undef,undef,undef)) aat aat (ax _) (aT _) (.inl rfl) (λi h=>by simp at h),aat⟩⟩
def Tp.enc{w:World}(x:Tp w):List Value:=[.int .i64 x.1.1.1,.string x.1.1.2.1,.slice x.1.1.2.2.1 x.1.1.2.2.2.1 x.1.1.2.2.2.2]
end
section
open Go.RowKit Go.Sort
def GV(w:World)(blk:Nat):Type:={ x:(Int×ByteArray×Option Addr×Nat×Nat)×T // bI (but 0 (some blk)) w (.agg #[.int .i64 x.1.1,.string x.1.2.1,.slice x.1.2.2.1 x.1.2.2.2.1 x.1.2.2.2.2]) x.2/\x.2.bE<=1048576 }
instance (w:World) (blk:Nat):Inhabited (GV w blk):=⟨⟨((0,⟨#[]⟩,none,0,0),.mk 0 ⟨#[]⟩ []),tX _ _ 0 ⟨#[]⟩ aat aat,aat⟩⟩
def GV.enc{w:World}{blk:Nat}(x:GV w blk):List Value:=[.int .i64 x.1.1.1,.string x.1.1.2.1,.slice x.1.1.2.2.1 x.1.1.2.2.2.1 x.1.1.2.2.2.2]
def GV.t{w:World}{blk:Nat}(x:GV w blk):T:=x.1.2
def GV.cf{w:World}{blk:Nat}(x y:GV w blk):Int:=T.cmp x.t y.t
theorem pG{α:Type}[Inhabited α](enc:α->List Value)(k:Nat)(w:World)(blk off m:Nat)(a:Array α)(os:Array Obj)(b:Nat)(hb:b<w.heap.size)(c:b≠blk):(sortWorldK enc k w blk off m a os).heap[b]?=w.heap[b]?:=by
 show((w.heap.modify blk _)++os)[b]?=_;rw[vD (by simpa using hb),dY,aH aaF]
theorem EX{α:Type}[Inhabited α](enc:α->List Value)(k:Nat)(w:World)(blk off m:Nat)(a:Array α)(os:Array Obj){B:Nat}(c:B<=blk)(d:blk<w.heap.size):Below B w (sortWorldK enc k w blk off m a os):=by
 refine⟨rfl,rfl,rfl,?_,λb hb=>pG enc k w blk off m a os b aar aar⟩;show w.heap.size<=((w.heap.modify blk _)++os).size;simp
end
section
inductive sD (P:T->Prop):T->Prop
 |base {t:T}:P t->sD P t
 |hash {t:T}:t.aA=4->sD P (t.eT 0)->sD P t
 |two {t:T}:(t.aA=3\/t.aA=5\/t.aA=6)->sD P (t.eT 0)->sD P (t.eT 1)->sD P t
 |raise {t:T}:t.aA=7->t.ay.length=1->sD P (t.eT 0)->sD P t
 |pow {t:T} (i:Nat):t.aA=7->1<t.ay.length->i<t.ay.length->sD P (t.iF i)->sD P (t.eT i)->sD P t
theorem sD.bind{P Q:T->Prop}(h:∀t,P t->sD Q t){t:T}(f:sD P t):sD Q t:=by
 induction f with
 |base g=>exact h _ g
 |hash a _ b=>exact .hash a b
 |two a _ _ c d=>exact .two a c d
 |raise a e _ b=>exact .raise a e b
 |pow i a e hi _ _ c d=>exact .pow i a e hi c d
theorem sD.m{P Q:T->Prop}(h:∀t,P t->Q t){t:T}(a:sD P t):sD Q t:=a.bind λt b=>.base (h t b)
theorem sD.atom{P:T->Prop}{t:T}(a:sD P t)(c:t.aA=1\/t.aA=2):P t:=by
 cases a with
 |base b=>exact b
 |hash h=>omega
 |two h=>omega
 |raise h=>omega
 |pow i h=>omega
theorem sD.iff{P Q:T->Prop}(h:∀t,P t<->Q t)(t:T):sD P t<->sD Q t:=⟨λa=>a.m λt=>(h t).1,λa=>a.m λt=>(h t).2⟩
theorem Dt{t:T}(h:t.shape=true)(e:t.aA=7){i:Nat}(hi:i<t.ay.length):(t.eT i).aA=1\/(t.eT i).aA=2:=by
 obtain⟨k,s,a⟩:=t;obtain rfl:k=7:=e;rw[T.qB 7 s a aat abe]at h;simp only[T.gZ]at h;simp at h;have c:i<a.length:=hi;have f:a[i]∈a:=aP c;have b:=h.1.1.2 _ f;have g:(T.mk 7 s a).eT i=a[i]:=(by show a.getD i T.qz=_;rw[dn,az c];rfl);rw[g];cases j:a[i]with
 |mk d l m=>
  rw[j]at b;simp only[T.atom]at b;show d=1\/d=2;simpa using b
namespace Wb
def Part(W:List fG)(t:T):Prop:=∃s∈W,s.part=true/\s.t=t
def Sound(P:T->Prop)(W:List fG):Prop:=∀s∈W,sD P s.t
theorem Sound.push{P:T->Prop}{W:List fG}(h:Sound P W){s:fG}(b:sD P s.t):Sound P (W++[s]):=λx a=>by
 rcases bu.1 a with a|a;·exact h x a
 ·rw[bD]at a;rw[a];exact b
theorem Sound.add{P:T->Prop}{W:List fG}(h:Sound P W){t:T}(b:sD P t)(how:Nat)(jw:List Nat):Sound P (add W t how jw).1:=by
 cases a:find W t with
 |some i=>rw[ry a];exact h
 |none=>rw[rq a];exact h.push b
theorem Sound.mark{P:T->Prop}{W:List fG}(h:Sound P W)(i:Nat):Sound P (mark W i):=λx b=>by
 obtain⟨j,hj,rfl⟩:=bL b;have a:j<W.length:=abd;rw[(yJ W i j hj a).1];exact h _ (aP a)
theorem Sound.take{P:T->Prop}{W:List fG}(h:Sound P W){t:T}(a:sD P t)(how:Nat)(jw:List Nat):Sound P (take W t how jw).1:=by
 unfold Wb.take;split;·exact h.add a how jw
 ·exact(h.add a how jw).mark _
theorem Mv{U:List T}(hU:yB U){P:T->Prop}{W:List fG}(a:Inv U W)(hS:Sound P W){t:T}(b:t∈U){i:Nat}(h:find W t=some i):sD P t:=by
 obtain⟨hi,e⟩:=find_eq hU a b h;rw[<-e];exact hS _ (aP hi)
def GR(P:T->Prop)(U:List T)(rec:List fG->T->List fG×Option Nat)(t:T):Prop:=∀W,Inv U W->Sound P W->Sound P (rec W t).1/\∀i,(rec W t).2=some i->sD P t
theorem Ha{U:List T}{P:T->Prop}{rec:List fG->T->List fG×Option Nat}{t:T}(how:Nat)(f:t.aA=3\/t.aA=5\/t.aA=6)(h0:BS U rec (t.eT 0))(s0:GR P U rec (t.eT 0))(s1:GR P U rec (t.eT 1)):
 GR P U (λW t=>both rec W t how) t:=λW c hS=>by
 obtain⟨g,_,_⟩:=h0 W c;obtain⟨d,j⟩:=s0 W c hS;obtain⟨c1,c2⟩:=s1 _ g d;simp only[both];split;·exact⟨d,λi h=>by cases h⟩
 ·rename_i a k;split;·exact⟨c1,λi h=>by cases h⟩
  ·rename_i b hb;have e:=sD.two f (j a k) (c2 b hb);exact⟨c1.add e _ _,λ_ _=>e⟩
theorem QN {U:List T} (hU:yB U) {P:T->Prop} {rec:List fG->T->List fG×Option Nat} {t:T} (c:t.aA=7) (d:t∈U) (e:∀i,i<t.ay.length->1<t.ay.length->BS U rec (t.iF i)/\GR P U rec (t.iF i)):
  ∀(f i:Nat),f+i=t.ay.length->GR P U (λW _=>pow rec t f i W) t
 |0,i,_,W,_,hS=>⟨hS,λi h=>by cases h⟩
 |f+1,i,u,W,b,hS=>by
  have g:=QN hU c d e f (i+1) aar;simp only[pow];split;·exact g W b hS
  ·rename_i nm m;have j:=Mv hU b hS (hU.eT t d i aar) m;split
   ·rename_i k;obtain rfl:i=0:=aar;have a:=sD.raise c k j;exact⟨hS.add a _ _,λ_ _=>a⟩
   ·rename_i k;obtain⟨n,o⟩:=e i aar aar;obtain⟨q,_,_⟩:=n W b;obtain⟨l,r⟩:=o W b hS;split;·exact g _ q l
    ·rename_i p s;have a:=sD.pow i c aar aar (r p s) j;exact⟨l.add a _ _,λ_ _=>a⟩
theorem sQ{U:List T}(hU:yB U)(P:T->Prop):∀(n:Nat) (t:T),t∈U->GR P U (build n) t
 |0,t,_,W,_,hS=>⟨hS,λi h=>by cases h⟩
 |n+1,t,a,W,c,hS=>by
  have s:=T.oZ (aN.1 (hU.ok t a)).2;have b:∀i,i<t.ay.length->GR P U (build n) (t.eT i):=λi hi=>sQ hU P n _ (hU.eT t a i hi);have d:∀i,i<t.ay.length->BS U (build n) (t.eT i):=λi hi=>lI hU n _ (hU.eT t a i hi);simp only[build];split
  ·rename_i i hi;exact⟨hS,λ_ _=>Mv hU c hS a hi⟩
  ·split
   ·rename_i k;obtain⟨f,l⟩:=b 0 aar W c hS;split;·exact⟨f,λi h=>by cases h⟩
    ·rename_i m o;have g:=sD.hash k (l m o);exact⟨f.add g _ _,λ_ _=>g⟩
   ·split
    ·rename_i p;exact Ha 6 (.inl p) (d 0 aar) (b 0 aar) (b 1 aar) W c hS
    ·split
     ·rename_i q;exact Ha 8 (.inr (.inl q)) (d 0 aar) (b 0 aar) (b 1 aar) W c hS
     ·split
      ·rename_i r;exact Ha 9 (.inr (.inr r)) (d 0 aar) (b 0 aar) (b 1 aar) W c hS
      ·split
       ·rename_i e;exact QN hU e a (λi hi j=>⟨lI hU n _ (hU.less t a e j i hi),sQ hU P n _ (hU.less t a e j i hi)⟩) t.ay.length 0 rfl W c hS
       ·exact⟨hS,λi h=>by cases h⟩
def XE(rec:List fG->T->List fG×Option Nat)(t:T):Prop:=∀W x,Part (rec W t).1 x<->Part W x
theorem wC(W:List fG)(t:T)(how:Nat)(jw:List Nat)(x:T):Part (add W t how jw).1 x<->Part W x:=by
 cases d:find W t with
 |some i=>rw[ry d]
 |none=>
  rw[rq d];constructor
  ·rintro⟨s,a,b,c⟩;rcases bu.1 a with a|a;·exact⟨s,a,b,c⟩
   ·rw[bD]at a;rw[a]at b;cases b
  ·rintro⟨s,a,b,c⟩;exact⟨s,gM _ a,b,c⟩
theorem Iy{rec:List fG->T->List fG×Option Nat}{t:T}(how:Nat)(h0:XE rec (t.eT 0))(a:XE rec (t.eT 1)):XE (λW t=>both rec W t how) t:=λW x=>by
 simp only[both];split;·exact h0 W x
 ·split;·exact(a _ x).t (h0 W x)
  ·exact(wC _ _ _ _ x).t ((a _ x).t (h0 W x))
theorem QM{rec:List fG->T->List fG×Option Nat}{t:T}(a:∀i,XE rec (t.iF i)):∀(f i:Nat) (W:List fG) (x:T),Part (pow rec t f i W).1 x<->Part W x
 |0,_,_,_=>tQ
 |f+1,i,W,x=>by
  have b:=QM a f (i+1);simp only[pow];split;·exact b W x
  ·split;·exact wC _ _ _ _ x
   ·split;·exact(b _ x).t (a i W x)
    ·exact(wC _ _ _ _ x).t (a i W x)
theorem kH:∀(n:Nat) (t:T),XE (build n) t
 |0,_,_,_=>tQ
 |n+1,t,W,x=>by
  simp only[build];split;·exact tQ
  ·split
   ·split;·exact kH n _ W x
    ·exact(wC _ _ _ _ x).t (kH n _ W x)
   ·split;·exact Iy 6 (kH n _) (kH n _) W x
    ·split;·exact Iy 8 (kH n _) (kH n _) W x
     ·split;·exact Iy 9 (kH n _) (kH n _) W x
      ·split;·exact QM (λi=>kH n _) _ _ W x
       ·exact tQ
theorem Ki{W:List fG}{t:T}(h:Part W t):∃i,find W t=some i:=by
 obtain⟨s,a,_,e⟩:=h;cases b:find W t with
 |some i=>exact⟨i,rfl⟩
 |none=>exact absurd abf (Hw b s a)
theorem D6 {U:List T} (hU:yB U) {rec:List fG->T->List fG×Option Nat} {t:T} (g:t.aA=7) (h:t∈U) (k:∀i,i<t.ay.length->1<t.ay.length->BS U rec (t.iF i)/\XE rec (t.iF i))
  (a:∀i,i<t.ay.length->1<t.ay.length->∀W,Inv U W->sD (Part W) (t.iF i)->∃r,(rec W (t.iF i)).2=some r):
  ∀(f i:Nat) (W:List fG),f+i=t.ay.length->Inv U W->(∃j,i<=j/\j<t.ay.length/\sD (Part W) (t.eT j)/\(1<t.ay.length->sD (Part W) (t.iF j)))->∃r,(pow rec t f i W).2=some r
 |0,i,W,p,_,⟨j,q,b,_⟩=>by omega
 |f+1,i,W,p,l,⟨j,q,b,m,n⟩=>by
  have s:=m.atom (Dt (aN.1 (hU.ok t h)).2 g b);simp only[pow];split
  ·rename_i c;have u:i≠j:=λe=>by
    subst e;obtain⟨r,a⟩:=Ki s;rw[a]at c;cases c
   exact D6 hU g h k a f (i+1) W aar l ⟨j,aar,b,m,n⟩
  ·split;·exact⟨_,rfl⟩
   ·have d:1<t.ay.length:=aar;obtain⟨v,w⟩:=k i aar d;split
    ·rename_i c;have u:i≠j:=λe=>by
      subst e;obtain⟨r,a⟩:=a i b d W l (n d);rw[a]at c;cases c
     have o:=w W;exact D6 hU g h k a f (i+1) _ aar (v W l).1 ⟨j,aar,b,(sD.iff o _).2 m,λd=>(sD.iff o _).2 (n d)⟩
    ·exact⟨_,rfl⟩
theorem EE{U:List T}{rec:List fG->T->List fG×Option Nat}{t:T}(how:Nat){W:List fG}(c:Inv U W)(d:BS U rec (t.eT 0))(q0:XE rec (t.eT 0))
 (h0:∀W,Inv U W->sD (Part W) (t.eT 0)->∃r,(rec W (t.eT 0)).2=some r) (e:∀W,Inv U W->sD (Part W) (t.eT 1)->∃r,(rec W (t.eT 1)).2=some r) (s0:sD (Part W) (t.eT 0)) (s1:sD (Part W) (t.eT 1)):∃r,(both rec W t how).2=some r:=by
 obtain⟨a,f⟩:=h0 W c s0;obtain⟨b,hb⟩:=e _ (d W c).1 ((sD.iff (q0 W) _).2 s1);simp only[both,f,hb];exact⟨_,rfl⟩
theorem yC{U:List T}(hU:yB U):∀(n:Nat) (t:T),t∈U->t.bE<n->∀W,Inv U W->sD (Part W) t->∃r,(build n W t).2=some r
 |0,_,_,hb,_,_,_=>by omega
 |n+1,t,b,hb,W,e,hS=>by
  have q:=T.oZ (aN.1 (hU.ok t b)).2;have d:∀i,i<t.ay.length->∀W,Inv U W->sD (Part W) (t.eT i)->∃r,(build n W (t.eT i)).2=some r:=λi hi=>yC hU n _ (hU.eT t b i hi) (aaz (T.DF hi));have f:∀i,i<t.ay.length->BS U (build n) (t.eT i):=λi hi=>lI hU n _ (hU.eT t b i hi);simp only[build];split;·exact⟨_,rfl⟩
  ·rename_i j;have k:¬Part W t:=λh=>(by obtain⟨r,g⟩:=Ki h;rw[g]at j;cases j);cases hS with
   |base h=>exact absurd h k
   |hash l h0=>
    rw[aJ l];obtain⟨r,g⟩:=d 0 aar W e h0;rw[g];exact⟨_,rfl⟩
   |two m h0 a=>
    rw[aH aaF];rcases m with h|h|h;·rw[aJ h];exact EE 6 e (f 0 aar) (kH n _) (d 0 aar) (d 1 aar) h0 a
    ·rw[aH aar,aJ h];exact EE 8 e (f 0 aar) (kH n _) (d 0 aar) (d 1 aar) h0 a
    ·rw[aH aar,aH aar,aJ h];exact EE 9 e (f 0 aar) (kH n _) (d 0 aar) (d 1 aar) h0 a
   |raise c a h0=>
    rw[aH aar,aH aar,aH aar,aH aar,aJ c];exact D6 hU c b (λi hi a=>⟨lI hU n _ (hU.less t b c a i hi),kH n _⟩) (λi hi a=>yC hU n _ (hU.less t b c a i hi) (aaz (T.BF hi))) t.ay.length 0 W rfl e ⟨0,ax _,aar,h0,λh=>aar⟩
   |pow i c a hi o p=>
    rw[aH aar,aH aar,aH aar,aH aar,aJ c];exact D6 hU c b (λi hi a=>⟨lI hU n _ (hU.less t b c a i hi),kH n _⟩) (λi hi a=>yC hU n _ (hU.less t b c a i hi) (aaz (T.BF hi))) t.ay.length 0 W rfl e ⟨i,aT _,hi,p,λ_=>o⟩
theorem Qd{U:List T}(hU:yB U){t:T}(a:t∈U){W:List fG}(b:Inv U W)(hS:Sound (Part W) W):(∃r,(Ci W t).2=some r)<->sD (Part W) t:=
 ⟨λ⟨r,c⟩=>(sQ hU _ _ t a W b hS).2 r c,λh=>yC hU _ t a (dF _) W b h⟩
end Wb
end
end Go.Proofs.YtaciciokmpbkkaaGreatDoor
