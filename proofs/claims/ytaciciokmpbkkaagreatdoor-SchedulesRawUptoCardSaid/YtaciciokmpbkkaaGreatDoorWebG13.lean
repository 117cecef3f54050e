import Derived.Test.YtaciciokmpbkkaaGreatDoorWebG12
import Derived.Shelf.SlSortCmp.NoneTotal
set_option maxRecDepth 100000
set_option maxHeartbeats 16000000
namespace Go.Proofs.YtaciciokmpbkkaaGreatDoor
section
open Go.RowKit
variable {X:Nat->Bool}
def GR:Value->Bool
 |.int _ _=>true
 |.string _=>true
 |.slice _ _ _=>true
 |_=>false
theorem aO.flat{w:World}{a b c:Value}{t:T}(h:aO w (.agg #[a,b,c]) t):GR a=true/\GR b=true/\GR c=true:=by
 obtain⟨A,cap,U,e,_⟩:=aO.inv h;injection e with e;injection e with e;injection e with d e;injection e with f e;injection e with g _;rw[d,f,g];exact⟨rfl,rfl,rfl⟩
theorem aO.Mi{w w':World}{v:Value}{t:T}(h:aO w v t)(a:∀p u,w.cell? p=some u->GR u=true->w'.cell? p=some u):aO w' v t:=by
 induction h with
 |mk k s A cap c U d f g j hA hU l=>
  refine .mk k s A cap c U d f g j ?_ l;rcases hA with hA|⟨b,off,e,m⟩;·exact .inl hA
  ·refine .inr ⟨b,off,e,λi hi=>?_⟩;obtain⟨n,c1,c2⟩:=m i hi;obtain⟨f0,f1,f2⟩:=(hU i hi).flat;exact⟨a _ _ n f0,a _ _ c1 f1,a _ _ c2 f2⟩
theorem bN.Mi{S:Nat->Bool}{w w':World}{v:Value}{t:T}(h:bN S w v t)(b:∀p u,w.cell? p=some u->GR u=true->w'.cell? p=some u):bN S w' v t:=
 aO.Mi h λp u a c=>by
  rw[fM]at a⊢;split at a;·rename_i hS;rw[aI hS];exact b p u a c
  ·cases a
theorem Oj{w:World}{b:Nat}{p:Option Addr}{e:TypeId}(hb:w.heap[b]?=some (.cells #[.pointer p] e (0,0)))(v:Value):∀q u,w.cell? q=some u->GR u=true->(w.setCell ⟨b,0,none⟩ v).cell? q=some u:=λq u a c=>by
 by_cases e:q.block=b
 ·exfalso;unfold World.cell? at a;rw[e,hb]at a;dsimp only at a;split at a;·cases a
  ·have:(#[Value.pointer p]:Array Value)[q.off]?=some u:=a;rcases dE q.off with h0|h0;·rw[h0]at this;injection this with this;subst this;cases c
   ·rw[nk (by simp;omega)]at this;cases this
 ·rw[World.cell?_setCell_other _ _ _ _ (by intro h;exact e (by rw[<-h]))];exact a
theorem qj.Mi{S:Nat->Bool}{w w':World}{cs:List Value}{s:fC}(h:qj S w cs s)(c:∀p u,w.cell? p=some u->GR u=true->w'.cell? p=some u):qj S w' cs s:=by
 obtain⟨A,cap,F,d,e,f,a⟩:=h;refine⟨A,cap,F,d,e,f.Mi c,?_⟩;rcases a with a|⟨b,off,e,hS,g⟩;·exact .inl a
 ·exact .inr ⟨b,off,e,hS,λi hi=>c _ _ (g i hi) rfl⟩
theorem gD.point{B g M b:Nat}{vs vp:Value}{W:List fC}{w:World}{p:Option Addr}{e:TypeId}(h:gD X B w g M vs vp W)(hb:w.heap[b]?=some (.cells #[.pointer p] e (0,0)))(q:b<B)(v:Value):gD X B (w.setCell ⟨b,0,none⟩ v) g M vs vp W:=by
 have c:=h.apart;obtain⟨dG,d,f⟩:=h.steps;obtain⟨D,n,j,k,m⟩:=h.map;have l:=h.low;refine⟨⟨dG,⟨d.1,λi a b=>(d.2 i a b).Mi (Oj hb v)⟩,?_⟩,?_,⟨D,n,j.setCell (a:=⟨b,0,none⟩) (λe=>by have:M=b:=e;omega) _,k,m⟩,?_,l,h.size,λb o=>h.fresh b (by simpa[World.setCell]using o)⟩;·exact oN f λb' e _=>aM _ _ _ _ (λx=>by have:=(c.s b' e).1;have:b'=b:=x;omega)
 ·exact oN h.part λb' e _=>aM _ _ _ _ (λx=>by have:=(c.p b' e).1;have:b'=b:=x;omega)
 ·exact(aM w ⟨b,0,none⟩ v g (λe=>by have:g=b:=e;omega)).t h.box
theorem XR{B g M:Nat}{vs vp:Value}{W:List fC}{w:World}(h:gD mM B w g M vs vp W){b:Nat}(hb:b<B):nr mM g M vs vp b=true:=by
 have a:=h.apart;have l:=h.low;exact kr.2 ⟨by omega,by omega,λe=>by have:=(a.s b e).1;omega,λe=>by have:=(a.p b e).1;omega,rfl⟩
theorem aO.low{B g M:Nat}{vs vp:Value}{W:List fC}{a w:World}{v:Value}{t:T}(d:aO a v t)(h:gD mM B w g M vs vp W)(e:a.heap.size<=B)(hb:Below a.heap.size a w):bN (nr mM g M vs vp) w v t:=
 d.uf.aR λb _ c=>⟨XR h (dF c e),hb.block b c⟩
def Pq(w w':World)(g:Nat)(W:List fC):Prop:=∃B M vs vp,w.heap.size<B/\gD mM B w' g M vs vp W
theorem XW{U:List T}(hU:yA U)(q:∀t∈U,t.bC<=1048576)(L:List T)(A:Option Addr)(cap:Nat)(w:World)(h:gM w A cap L)(hb:∀t∈L,t.bC<=1048576)(j:∀t∈cnt L,t∈U):
 Calls Tryz.prog 110 #[.slice A L.length cap] w λe w'=>∃g,e=.returned (.agg #[.pointer (some ⟨g,0,none⟩)])/\Pq w w' g (Wb.fill U.length (cnt L))/\Below w.heap.size w w':=by
 have d:=af w (.cells #[.pointer none] 162);have k:=aa (YZ hU q L A cap _ (h.ag d) hb j);have bn:(w.alloc (.cells #[.pointer none] 162)).heap[w.heap.size]?=some (.cells #[.pointer none] 162 (0,0)):=bO w _;have l:=aK w (.cells #[.pointer none] 162);obtain⟨m,f⟩:=ZQ d l;clear h hb j d l;go_enter Tryz.func110,Tryz.ntmps110;go_upto_region 1 with fail;generalize w.alloc (.cells #[.pointer none] 162)=r at k bn m f⊢;have s:=aa bn;clear bn;go_wp2_with fail;refine k.o.m ?_;rintro e a ⟨g,M,vs,vp,rfl,n,i⟩;have b:a.heap[w.heap.size]?=some (.cells #[.pointer none] 162 (0,0)):=(i.block _ (by have:=f.o;omega)).t s.o;have c:w.heap.size<r.heap.size:=(by have:=f.o;omega);have o:=n.point b c (.pointer (some ⟨g,0,none⟩));have p:=(m.o.t (i.m (jo c))).setCell (show w.heap.size<=(⟨w.heap.size,0,none⟩:Addr).block from ak _) (.pointer (some ⟨g,0,none⟩));have u:a.cell? ⟨w.heap.size,0,none⟩=some (.pointer none):=(by unfold World.cell?;rw[b];rfl);have f0:a.frozen? ⟨w.heap.size,0,none⟩=false:=(by simp[World.frozen?,b]);have c1:(a.setCell ⟨w.heap.size,0,none⟩ (.pointer (some ⟨g,0,none⟩))).cell? ⟨w.heap.size,0,none⟩=some (.pointer (some ⟨g,0,none⟩)):=World.cell?_setCell_same _ _ _ u;obtain⟨x,y⟩:=ZQ ((show Pq w (a.setCell ⟨w.heap.size,0,none⟩ (.pointer (some ⟨g,0,none⟩))) g (Wb.fill U.length (cnt L))from⟨_,M,vs,vp,c,o⟩)) p;clear n i b o p c;go_wp2_with fail;refine bG (v:=.agg #[.pointer (some ⟨g,0,none⟩)]) (by simp[results,Tryz.results110,go_sem,c1]) rfl ?_;exact⟨g,rfl,x.o,y.o⟩
def Gz(W:List fC)(t:T):Bool:=t.use&&(Wb.BI W t).2.isSome
theorem YF{W:List fC}{t:T}(h:t.use=false):Gz W t=false:=by unfold Gz;rw[h];rfl
theorem YG{W:List fC}{t:T}(h:(Wb.BI W t).2=none):Gz W t=false:=by unfold Gz;rw[h];simp
theorem YH{W:List fC}{t:T}{i:Nat}(hu:t.use=true)(h:(Wb.BI W t).2=some i):Gz W t=true:=by unfold Gz;rw[hu,h];rfl
end
section
open Go.RowKit Go.Maps
structure CK where
 t:T
 how:Int
 jv:List Int
namespace Wb
def YK(W:List fC)(i:Nat):Nat:=(W[i]?.map fC.how).getD 0
def LV(W:List fC)(i:Nat):List Nat:=(W[i]?.map fC.jv).getD []
abbrev Zj:=(List CK×List (Nat×Nat))×Nat
def Yr(rec:List CK->List (Nat×Nat)->Nat->Zj):List Nat->List CK->List (Nat×Nat)->List Int->(List CK×List (Nat×Nat))×List Int
 |[],out,pl,a=>((out,pl),a)
 |j::b,out,pl,a=>Yr rec b (rec out pl j).1.1 (rec out pl j).1.2 (a++[((rec out pl j).2:Int)])
def nd:Nat->List fC->List CK->List (Nat×Nat)->Nat->Zj
 |0,_,out,pl,_=>((out,pl),0)
 |f+1,W,out,pl,i=>
  match pl.lookup i with
  |some k=>((out,pl),k)
  |none=>(((Yr (nd f W) (LV W i) out pl []).1.1++[⟨rT W i,(YK W i:Int),(Yr (nd f W) (LV W i) out pl []).2⟩],(i,(Yr (nd f W) (LV W i) out pl []).1.1.length)::(Yr (nd f W) (LV W i) out pl []).1.2),(Yr (nd f W) (LV W i) out pl []).1.1.length)
def Ord(W:List fC):Prop:=∀i (h:i<W.length),W[i].jv.length<=2/\∀j∈W[i].jv,j<i
def Zf(W:List fC)(out:List CK)(pl:List (Nat×Nat)):Prop:=out.length=pl.length/\(pl.map Prod.fst).Nodup/\∀p∈pl,p.1<W.length
theorem Zf.nil(W:List fC):Zf W [] []:=⟨rfl,zz,λp h=>by cases h⟩
theorem TW:∀{l:List Nat} {n:Nat},l.Nodup->(∀x∈l,x<n)->l.length<=n:=λ{l n} a h=>by
 have:=xY (l:=l) (m:=List.range n) a λx b=>dU.2 (h x b)
 rwa [List.length_range]at this
theorem Zf.len{W:List fC}{out:List CK}{pl:List (Nat×Nat)}(h:Zf W out pl):out.length<=W.length:=by
 rw[h.1];have:=TW (l:=pl.map Prod.fst) (n:=W.length) h.2.1 λx a=>by
  obtain⟨p,b,rfl⟩:=dB.1 a;exact h.2.2 p b
 rwa [df]at this
end Wb
def IntsIn(S:Nat->Bool)(w:World)(A:Option Addr)(ns:List Int):Prop:=
 ns.length=0\/∃b off,A=some ⟨b,off,none⟩/\S b=true/\∀i (h:i<ns.length),w.cell? ⟨b,off+i,none⟩=some (.int .i64 ns[i])
theorem IntsIn.aR{S S':Nat->Bool}{w w':World}{A:Option Addr}{ns:List Int}(h:IntsIn S w A ns)(c:∀b,S b=true->b<w.heap.size->S' b=true/\w'.heap[b]?=w.heap[b]?):IntsIn S' w' A ns:=by
 rcases h with h|⟨b,off,e,hS,a⟩;·exact .inl h
 ·by_cases h0:ns.length=0;·exact .inl h0
  ·have d:=eP w _ (a 0 (by omega));obtain⟨f,g⟩:=c b hS d;exact .inr ⟨b,off,e,f,λi hi=>(dD g).t (a i hi)⟩
def D9(S:Nat->Bool)(w:World)(A:Option Addr)(ns:List Int):Prop:=
 ns.length=0\/∃b off,A=some ⟨b,off,none⟩/\S b=true/\∀i (h:i<ns.length),w.cell? ⟨b,off+i,none⟩=some (.int .i64 ns[i])/\w.frozen? ⟨b,off+i,none⟩=false
theorem zg{w w':World}{b k:Nat}(h:w'.heap[b]?=w.heap[b]?):w'.frozen? ⟨b,k,none⟩=w.frozen? ⟨b,k,none⟩:=by
 unfold World.frozen?;rw[h]
theorem D9.aR{S S':Nat->Bool}{w w':World}{A:Option Addr}{ns:List Int}(h:D9 S w A ns)(d:∀b,S b=true->b<w.heap.size->S' b=true/\w'.heap[b]?=w.heap[b]?):D9 S' w' A ns:=by
 rcases h with h|⟨b,off,e,hS,a⟩;·exact .inl h
 ·by_cases h0:ns.length=0;·exact .inl h0
  ·have f:=eP w _ (a 0 (by omega)).1;obtain⟨g,c⟩:=d b hS f;exact .inr ⟨b,off,e,g,λi hi=>⟨(dD c).t (a i hi).1,(zg c).t (a i hi).2⟩⟩
theorem D9.in{S:Nat->Bool}{w:World}{A:Option Addr}{ns:List Int}(h:D9 S w A ns):IntsIn S w A ns:=by
 rcases h with h|⟨b,off,e,hS,a⟩;·exact .inl h
 ·exact .inr ⟨b,off,e,hS,λi hi=>(a i hi).1⟩
def Gr(S:Nat->Bool)(w:World)(cs:List Value)(r:CK):Prop:=
 ∃A cap F a,cs=[.int .i64 r.t.aC,.string r.t.aJ,.slice A r.t.ay.length cap,.int .i64 r.how,.slice F r.jv.length a]/\bN S w (.agg #[.int .i64 r.t.aC,.string r.t.aJ,.slice A r.t.ay.length cap]) r.t/\D9 S w F r.jv
theorem Gr.aR{S S':Nat->Bool}{w w':World}{cs:List Value}{r:CK}(h:Gr S w cs r)(a:∀b,S b=true->b<w.heap.size->S' b=true/\w'.heap[b]?=w.heap[b]?):Gr S' w' cs r:=by
 obtain⟨A,cap,F,c,e,d,f⟩:=h;exact⟨A,cap,F,c,e,d.aR a,f.aR a⟩
theorem Gr.len{S:Nat->Bool}{w:World}{cs:List Value}{r:CK}(h:Gr S w cs r):cs.length=5:=by
 obtain⟨A,cap,F,a,e,_⟩:=h;rw[e];rfl
def yt(S:Nat->Bool)(w:World)(dG:List (List Value))(L:List CK):Prop:=dG.length=L.length/\∀i (h:i<dG.length) (h':i<L.length),Gr S w dG[i] L[i]
theorem yt.aR{S S':Nat->Bool}{w w':World}{dG:List (List Value)}{L:List CK}(h:yt S w dG L)(c:∀b,S b=true->b<w.heap.size->S' b=true/\w'.heap[b]?=w.heap[b]?):yt S' w' dG L:=
 ⟨h.1,λi a b=>(h.2 i a b).aR c⟩
theorem yt.push{S:Nat->Bool}{w:World}{dG:List (List Value)}{L:List CK}{cs:List Value}{r:CK}(h:yt S w dG L)(c:Gr S w cs r):yt S w (dG++[cs]) (L++[r]):=by
 refine⟨by rw[aF,aF,h.1];rfl,λi a b=>?_⟩;by_cases hi:i<dG.length
 ·rw[dH hi,dH (by rw[<-h.1];exact hi)];exact h.2 i hi (by rw[<-h.1];exact hi)
 ·have d:i=dG.length:=(by simp at a;omega);subst d;have e:(dG++[cs])[dG.length]'a=cs:=(by simp);have f:(L++[r])[dG.length]'b=r:=(by rw[dm (by rw[h.1];exact ak _)];simp);rw[e,f];exact c
def Wl(H:Nat)(X:Nat->Bool)(row:Option Nat)(M:Nat):Nat->Bool:=λb=>decide (H<=b)&&!(X b)&&!(row==some b)&&!(b==M)
theorem pU{H M b:Nat}{X:Nat->Bool}{row:Option Nat}:Wl H X row M b=true<->H<=b/\X b=false/\row≠some b/\b≠M:=by
 unfold Wl;rw[ai,ai,ai,bW,bZ,bZ,bZ,aB,aB,lD,lD]
def vD(H:Nat)(X:Nat->Bool)(M:Nat)(w:World)(ov:Value)(out:List CK):Prop:=∃dG,yt (Wl H X ov.ownBlock M) w dG out/\w.ownsRow H 197 5 ov out.length dG.flatten
theorem vD.less{H M:Nat}{X a:Nat->Bool}{w:World}{ov:Value}{out:List CK}(h:vD H X M w ov out)(d:∀b,a b=true->X b=true):vD H a M w ov out:=by
 obtain⟨dG,f,g⟩:=h;refine⟨dG,f.aR λb hb _=>⟨?_,rfl⟩,g⟩;obtain⟨i,c,j,k⟩:=pU.1 hb;refine pU.2 ⟨i,?_,j,k⟩;cases e:a b with
 |false=>rfl
 |true=>rw[d b e]at c;cases c
theorem vD.more{H M:Nat}{X a:Nat->Bool}{w:World}{ov:Value}{out:List CK}(h:vD H X M w ov out)(d:∀b,b<w.heap.size->a b=true->X b=true):vD H a M w ov out:=by
 obtain⟨dG,f,g⟩:=h;refine⟨dG,f.aR λb hb i=>⟨?_,rfl⟩,g⟩;obtain⟨j,c,k,l⟩:=pU.1 hb;refine pU.2 ⟨j,?_,k,l⟩;cases e:a b with
 |false=>rfl
 |true=>rw[d b i e]at c;cases c
def kn(i:Nat):Lit:=.int .i64 (i:Int)
def Vm(D:DataW Unit)(pl:List (Nat×Nat)):Prop:=∀i:Nat,Maps.has D (kn i)=(pl.lookup i).isSome/\∀k,pl.lookup i=some k->D.atKey (kn i) (.lit (.int .i64 0))=.lit (.int .i64 (k:Int))
theorem Vm.push{D:DataW Unit}{pl:List (Nat×Nat)}(h:Vm D pl)(c:Maps.IsMap D)(i k:Nat):Vm (D.put (kn i) (.lit (.int .i64 (k:Int)))) ((i,k)::pl):=λj=>by
 rw[xL];by_cases e:j=i
 ·subst e;rw[xS];refine⟨Maps.has_put_same c (show Go.WideAt.IsKeyLit (kn j)from trivial) _,λk' a=>?_⟩;have b:k=k':=aA a;rw[uH c (show Go.WideAt.IsKeyLit (kn j)from trivial),b]
 ·have hb:(j==i)=false:=(by rw[aB];exact e);have a:kn j≠kn i:=λh=>(by unfold kn at h;injection h with _ h;exact e (by omega));rw[hb,Maps.has_put_other a];refine⟨(h j).1,λk' b=>?_⟩;rw[tX a];exact(h j).2 k' b
def J2(H M:Nat)(w:World)(pl:List (Nat×Nat)):Prop:=H<=M/\∃D n,w.ownsMap Tryz.prog 3 (plainElem (H:=Unit) Tryz.prog 3) M n D/\n<=pl.length/\Vm D pl
theorem J2.ag{H M:Nat}{w w':World}{pl:List (Nat×Nat)}(h:J2 H M w pl)(hb:Below w.heap.size w w'):J2 H M w' pl:=by
 obtain⟨a,D,n,b,c⟩:=h;exact⟨a,D,n,b.kept (row:=none) (jr none hb) (by simp),c⟩
theorem J2.lt{H M:Nat}{w:World}{pl:List (Nat×Nat)}(h:J2 H M w pl):M<w.heap.size:=by
 obtain⟨d,D,n,a,e⟩:=h;obtain⟨f,c,b⟩:=JH a;exact(aZ.1 b).1
theorem vD.ag{H M:Nat}{X:Nat->Bool}{w w':World}{ov:Value}{out:List CK}(h:vD H X M w ov out)(hb:Below w.heap.size w w'):vD H X M w' ov out:=by
 obtain⟨dG,a,c⟩:=h;exact⟨dG,a.aR λb d e=>⟨d,hb.block b e⟩,dz c hb⟩
structure Sw (M:Nat) (w:World) (ov:Value) (w':World) (Dv:Value):Prop where
 size:w.heap.size<=w'.heap.size
 aR:∀b,b<w.heap.size->ov.ownBlock≠some b->b≠M->w'.heap[b]?=w.heap[b]?
 row:Dv.ownBlock=ov.ownBlock\/∀b,Dv.ownBlock=some b->w.heap.size<=b
theorem Sw.refl(M:Nat)(w:World)(ov:Value):Sw M w ov w ov:=⟨ak _,λ_ _ _ _=>rfl,.inl rfl⟩
theorem Sw.t{M:Nat}{w w' w'':World}{ov Dv d:Value}(h:Sw M w ov w' Dv)(h':Sw M w' Dv w'' d):Sw M w ov w'' d:=by
 refine⟨aD h.size h'.size,λb hb f g=>?_,?_⟩
 ·rw[h'.aR b (dF hb h.size) (λe=>?_) g,h.aR b hb f g];rcases h.row with a|a;·exact f (a.symm.t e)
  ·have:=a b e;omega
 ·rcases h'.row with c|c
  ·rcases h.row with a|a;·exact .inl (c.t a)
   ·right;intro b e;rw[c]at e;exact a b e
  ·right;intro b e;have:=c b e;have:=h.size;omega
theorem Sw.ag{M:Nat}{w w' w'':World}{ov Dv:Value}(h:Sw M w ov w' Dv)(hb:Below w'.heap.size w' w''):Sw M w ov w'' Dv:=
 h.t ⟨hb.size,λb a _ _=>hb.block b a,.inl rfl⟩
def Xn(H:Nat)(X:Nat->Bool)(M:Nat)(w:World)(ov:Value)(r:Wb.Zj)(e:Ending)(w':World):Prop:=∃Dv,e=.returned (.tuple #[Dv,.int .i64 (r.2:Int)])/\vD H X M w' Dv r.1.1/\J2 H M w' r.1.2/\Below H w w'/\Sw M w ov w' Dv
def xE(w:World)(g:Nat)(a b c d e:Value):Prop:=w.heap[g]?=some (.cells #[a,b,c,d,e] 197 (0,0))
theorem xE.lt{w:World}{g:Nat}{a b c d e:Value}(h:xE w g a b c d e):g<w.heap.size:=(aZ.1 h).1
theorem xE.cells{w:World}{g:Nat}{a b c d e:Value}(h:xE w g a b c d e):w.cell? ⟨g,0,none⟩=some a/\w.cell? ⟨g,1,none⟩=some b/\w.cell? ⟨g,2,none⟩=some c/\w.cell? ⟨g,3,none⟩=some d/\w.cell? ⟨g,4,none⟩=some e:=by
 unfold xE at h;refine⟨?_,?_,?_,?_,?_⟩<;>simp[World.cell?,h]
theorem xE.free{w:World}{g:Nat}{a b c d e:Value}(h:xE w g a b c d e):∀i,w.frozen? ⟨g,i,none⟩=false:=by
 unfold xE at h;intro i;simp[World.frozen?,h]
theorem xE.ag{w w':World}{g:Nat}{a b c d e:Value}(h:xE w g a b c d e)(hb:Below w.heap.size w w'):xE w' g a b c d e:=(hb.block g h.lt).t h
theorem xE.Zy{w:World}{g:Nat}{a b c d e:Value}(h:xE w g a b c d e)(v:Value):xE (w.setCell ⟨g,4,none⟩ v) g a b c d v:=by
 unfold xE at*;simp[World.setCell,Array.getElem?_modify,h]
theorem xE.new(w:World)(a b c d e:Value):xE (w.alloc (.cells #[a,b,c,d,e] 197)) w.heap.size a b c d e:=bO w _
structure EC (H M gs:Nat) (X:Nat->Bool) (w:World) (ov:Value) (t:T) (A3:Option Addr) (C3:Nat) (how:Int) (wr:World) (ovj:Value) (outj:List CK) (plj:List (Nat×Nat)) (ks:List Int) (Fv:Value):Prop where
 o:vD H (λb=>X b||b==gs||Fv.ownBlock==some b) M wr ovj outj
 pl:J2 H M wr plj
 below:Below H w wr
 fr:Sw M w ov wr ovj
 box:xE wr gs (.int .i64 t.aC) (.string t.aJ) (.slice A3 t.ay.length C3) (.int .i64 how) Fv
 row:wr.ownsRow w.heap.size 3 1 Fv ks.length (ks.map (Value.int .i64))
 term:bN (λb=>decide (w.heap.size<=b)&&!(b==gs)&&!(ovj.ownBlock==some b)&&!(Fv.ownBlock==some b)) wr (.agg #[.int .i64 t.aC,.string t.aJ,.slice A3 t.ay.length C3]) t
 Zh:ovj.ownBlock≠some gs
 Xf:∀b,Fv.ownBlock=some b->b≠gs/\b≠M/\ovj.ownBlock≠some b
 hH:H<=w.heap.size
 XI:w.heap.size<=gs
 hM:M<w.heap.size
 hX:∀b,X b=true->b<w.heap.size
theorem DI{w:World}{gs b:Nat}{ovj Fv:Value}:(decide (w.heap.size<=b)&&!(b==gs)&&!(ovj.ownBlock==some b)&&!(Fv.ownBlock==some b))=true<->w.heap.size<=b/\b≠gs/\ovj.ownBlock≠some b/\Fv.ownBlock≠some b:=by
 rw[ai,ai,ai,bW,bZ,bZ,bZ,aB,aB,aB,lD,lD]
theorem Pm{X:Nat->Bool}{gs b:Nat}{Fv:Value}:(X b||b==gs||Fv.ownBlock==some b)=false<->X b=false/\b≠gs/\Fv.ownBlock≠some b:=by
 rw[kJ,kJ,aB,aB,lD]
theorem EC.call{H M gs:Nat}{X:Nat->Bool}{w wr w3:World}{ov ovj d:Value}{t:T}{A3:Option Addr}{C3:Nat}{how:Int}{outj j:List CK}{plj k:List (Nat×Nat)}{l:List Int}{Fv:Value}
 (h:EC H M gs X w ov t A3 C3 how wr ovj outj plj l Fv) (n:vD H (λb=>X b||b==gs||Fv.ownBlock==some b) M w3 d j) (o:J2 H M w3 k) (hb:Below H wr w3) (a:Sw M wr ovj w3 d):EC H M gs X w ov t A3 C3 how w3 d j k l Fv:=by
 have p:gs≠M:=(by have:=h.XI;have:=h.hM;omega);have q:=h.box.lt;refine⟨n,o,h.below.t hb,h.fr.t a,(a.aR gs q h.Zh p).t h.box,?_,?_,?_,?_,h.hH,h.XI,h.hM,h.hX⟩;·exact oN h.row λb e f=>a.aR b f (h.Xf b e).2.2 (h.Xf b e).2.1
 ·refine h.term.aR λb s f=>?_;obtain⟨g,i,c,u⟩:=DI.1 s;refine⟨DI.2 ⟨g,i,λe=>?_,u⟩,a.aR b f c (by have:=h.hM;omega)⟩;rcases a.row with r|r;·exact c (r.symm.t e)
  ·have:=r b e;omega
 ·intro e;rcases a.row with r|r;·exact h.Zh (r.symm.t e)
  ·have:=r gs e;omega
 ·intro b e;obtain⟨g,i,c⟩:=h.Xf b e;refine⟨g,i,λm=>?_⟩;rcases a.row with r|r;·exact c (r.symm.t m)
  ·have:=r b m;have:=(h.row.lt b e).2;omega
theorem EC.turn{H M gs:Nat}{X:Nat->Bool}{w w3 w8:World}{ov ovj:Value}{t:T}{A3:Option Addr}{C3:Nat}{how k:Int}{outj:List CK}{plj:List (Nat×Nat)}{f:List Int}{Fv d:Value}{o:Obj}
 (h:EC H M gs X w ov t A3 C3 how w3 ovj outj plj f Fv) (j:(w3.alloc o).grownBy w8 Fv.ownBlock) (B:w8.ownsRow w.heap.size 3 1 d (f.length+1) (f.map (Value.int .i64)++[.int .i64 k])) (s:d.ownBlock=Fv.ownBlock\/d.ownBlock=some (w3.alloc o).heap.size):
 EC H M gs X w ov t A3 C3 how (w8.setCell ⟨gs,4,none⟩ d) ovj outj plj (f++[k]) d:=by
 have z4:=aK w3 o;have Y:=j.size;have C:=h.box.lt;have E:=h.hH;have F:=h.XI;have G:=h.hM;have u:∀b,Fv.ownBlock=some b->w.heap.size<=b/\b<w3.heap.size:=h.row.lt;have key:∀b,b<w3.heap.size->b≠gs->Fv.ownBlock≠some b->(w8.setCell ⟨gs,4,none⟩ d).heap[b]?=w3.heap[b]?:=λb c g i=>by
  rw[aM _ _ _ _ g,j.block b (by omega) (λe=>i e.symm),fF w3 o b c]
 have v:∀b,b<w3.heap.size->Fv.ownBlock≠some b->d.ownBlock≠some b:=λb c g e=>by
  rcases s with r|r;·exact g (r.symm.t e)
  ·rw[r]at e;injection e with e;omega
 have y:∀b,d.ownBlock=some b->b≠gs/\b≠M/\ovj.ownBlock≠some b:=λb e=>by
  rcases s with r|r;·exact h.Xf b (r.symm.t e)
  ·rw[r]at e;injection e with e;refine⟨by omega,by omega,λI=>?_⟩;obtain⟨dG,_,i⟩:=h.o;have:=(i.lt b I).2;omega
 have Z:=h.fr.size;refine⟨?_,?_,?_,?_,?_,?_,?_,h.Zh,y,E,F,G,h.hX⟩
 ·obtain⟨dG,g,i⟩:=h.o;refine⟨dG,g.aR λb hb c=>?_,oN i λb e c=>key b c (λx=>h.Zh (by rw[e,x])) (λx=>(h.Xf b x).2.2 e)⟩;obtain⟨p,l,q,m⟩:=pU.1 hb;obtain⟨J,z,A⟩:=Pm.1 l;exact⟨pU.2 ⟨p,Pm.2 ⟨J,z,v b c A⟩,q,m⟩,key b c z A⟩
 ·obtain⟨K,D,n,L,N⟩:=h.pl;have O:=L.kept (row:=none) (w':=w3.alloc o) (jr none (af w3 o)) (by simp);have P:=O.kept j (λe=>(h.Xf M e.symm).2.1 rfl);exact⟨K,D,n,P.setCell (a:=⟨gs,4,none⟩) (λe=>by have:M=gs:=e;omega) _,N⟩
 ·have Q:=h.below.t ((af w3 o).m (by omega));exact(Q.grown j (by omega) (λk R=>by have:=(u k R).1;omega)).setCell (show H<=(⟨gs,4,none⟩:Addr).block from(by show H<=gs;omega)) _
 ·refine⟨by rw[rO];omega,λb c g i=>?_,h.fr.row⟩;rw[key b (by omega) (by omega) (λe=>by have:=(u b e).1;omega)];exact h.fr.aR b c g i
 ·have S:xE w8 gs _ _ _ _ Fv:=(j.block gs (by omega) (λe=>(h.Xf gs e.symm).1 rfl)).t ((fF w3 o gs C).t h.box);exact S.Zy d
 ·have U:(f++[k]).length=f.length+1:=(by simp);have V:(f++[k]).map (Value.int .i64)=f.map (Value.int .i64)++[.int .i64 k]:=(by simp);rw[U,V];exact oN B λb e _=>aM _ _ _ _ (y b e).1
 ·refine h.term.aR λb W c=>?_;obtain⟨p,l,q,m⟩:=DI.1 W;exact⟨DI.2 ⟨p,l,q,v b c m⟩,key b c l m⟩
theorem EC.fin{H M gs:Nat}{X:Nat->Bool}{w wr w5 w7:World}{ov ovj Dv:Value}{t:T}{A3:Option Addr}{C3:Nat}{how:Int}{outj:List CK}{plj z:List (Nat×Nat)}{a:List Int}{d:Option Addr}{cf:Nat}{dG:List (List Value)}{o:Obj}
 (h:EC H M gs X w ov t A3 C3 how wr ovj outj plj a (.slice d a.length cf)) (I:yt (Wl H (λb=>X b||b==gs||(Value.slice d a.length cf).ownBlock==some b) ovj.ownBlock M) wr dG outj) (p:wr.mapTurned w5 M) (A:J2 H M w5 z)
 (J:w7.ownsRow H 197 5 Dv (outj.length+1) (dG.flatten++[.int .i64 t.aC,.string t.aJ,.slice A3 t.ay.length C3,.int .i64 how,.slice d a.length cf])) (m:(w5.alloc o).grownBy w7 ovj.ownBlock) (B:Dv.ownBlock=ovj.ownBlock\/Dv.ownBlock=some (w5.alloc o).heap.size) (C:∀b,ovj.ownBlock=some b->H<=b/\b<wr.heap.size/\b≠M):
 Xn H X M w ov ((outj++[⟨t,how,a⟩],z),outj.length) (.returned (.tuple #[Dv,.int .i64 (outj.length:Int)])) w7:=by
 have z5:=p.grown.size;have W:=aK w5 o;have Y:=m.size;have Z:=h.hH;have l2:=h.XI;have l3:=h.hM;have K:=h.fr.size;have key:∀b,b<wr.heap.size->ovj.ownBlock≠some b->b≠M->w7.heap[b]?=wr.heap[b]?:=λb c g q=>by
  rw[m.block b (by omega) (λe=>g e.symm),fF w5 o b (by omega),p.grown.block b c (λe=>q (by injection e))]
 have s:∀b,b<wr.heap.size->ovj.ownBlock≠some b->Dv.ownBlock≠some b:=λb c g e=>by
  rcases B with r|r;·exact g (r.symm.t e)
  ·rw[r]at e;injection e with e;omega
 have aa:w.heap.size<=wr.heap.size:=K;refine⟨Dv,rfl,⟨dG++[([Value.int .i64 t.aC,Value.string t.aJ,Value.slice A3 t.ay.length C3,Value.int .i64 how,Value.slice d a.length cf]:List Value)],yt.push (I.aR λb hb c=>?_) ?_,?_⟩,?_,?_,?_⟩
 ·obtain⟨E,F,j,u⟩:=pU.1 hb;obtain⟨L,x2,x3⟩:=Pm.1 F;exact⟨pU.2 ⟨E,L,s b c j,u⟩,key b c j u⟩
 ·refine⟨A3,C3,d,cf,rfl,h.term.aR λb N c=>?_,?_⟩
  ·obtain⟨E,F,j,u⟩:=DI.1 N;refine⟨pU.2 ⟨by omega,?_,s b c j,by omega⟩,key b c j (by omega)⟩;cases e:X b with
   |false=>rfl
   |true=>have:=h.hX b e;omega
  ·rcases dE a.length with h0|h0;·exact .inl h0
   ·have v:=h.row;obtain⟨f,fc,e,f1,f2⟩:=v.form h0;injection e with x G O;subst x;subst O;obtain⟨n1,n2,y⟩:=h.Xf f rfl;refine .inr ⟨f,0,rfl,pU.2 ⟨by omega,?_,s f f2 y,n2⟩,λi hi=>?_⟩
    ·cases e:X f with
     |false=>rfl
     |true=>have:=h.hX f e;omega
    ·rw[dJ];refine⟨(dD (key f f2 y n2)).t ?_,(zg (key f f2 y n2)).t (v.frozenAt i)⟩;have P:i<a.length:=hi;rw[v.cellAt i (by omega),kR,aH P];rfl
 ·have x:(outj++[(⟨t,how,a⟩:CK)]).length=outj.length+1:=(by simp);have G:(dG++[([Value.int .i64 t.aC,Value.string t.aJ,Value.slice A3 t.ay.length C3,Value.int .i64 how,Value.slice d a.length cf]:List Value)]).flatten=dG.flatten++[Value.int .i64 t.aC,.string t.aJ,.slice A3 t.ay.length C3,.int .i64 how,.slice d a.length cf]:=(by simp);rw[x,G];exact J
 ·obtain⟨Q,D,n,R,S⟩:=A;have U:=R.kept (row:=none) (w':=w5.alloc o) (jr none (af w5 o)) (by simp);exact⟨Q,D,n,U.kept m (λe=>(C M e.symm).2.2 rfl),S⟩
 ·have V:=h.below.grown p.grown (by omega) (λk l=>by injection l with l;subst l;exact A.1);exact(V.t ((af w5 o).m (by omega))).grown m (by omega) (λk l=>(C k l).1)
 ·refine h.fr.t ⟨by omega,λb c g q=>key b c g q,?_⟩;rcases B with r|r;·exact .inl r
  ·right;intro b e;rw[r]at e;injection e with e;omega
end
section
namespace Wb
theorem Ord.nil:Ord []:=λ_ h=>absurd h (jg _)
theorem Ord.push{W:List fC}(h:Ord W)(t:T)(how:Nat){jv:List Nat}(p:Bool)(b:jv.length<=2)(c:∀j∈jv,j<W.length):Ord (W++[⟨t,how,jv,p⟩]):=λi hi=>by
 by_cases a:i<W.length;·rw[dH a];exact h i a
 ·have e:i=W.length:=(by simp at hi;omega);subst e;have d:(W++[(⟨t,how,jv,p⟩:fC)])[W.length]'hi=⟨t,how,jv,p⟩:=(by simp);rw[d];exact⟨b,c⟩
theorem Ord.add{W:List fC}(h:Ord W)(t:T)(how:Nat){jv:List Nat}(b:jv.length<=2)(c:∀j∈jv,j<W.length):Ord (add W t how jv).1:=by
 cases a:find W t with
 |some i=>rw[ry a];exact h
 |none=>rw[rq a];exact h.push t how false b c
theorem Ord.mark{W:List fC}(h:Ord W)(i:Nat):Ord (mark W i):=λj hj=>by
 have a:j<W.length:=(by rwa [ll]at hj);obtain⟨_,_,e,_⟩:=yH W i j hj a;rw[e];exact h j a
theorem Ord.take{W:List fC}(h:Ord W)(t:T)(how:Nat){jv:List Nat}(a:jv.length<=2)(b:∀j∈jv,j<W.length):Ord (take W t how jv).1:=by
 unfold Wb.take;split;·exact h.add t how a b
 ·exact(h.add t how a b).mark _
end Wb
end
section
open Go.RowKit Go.Maps
theorem IntsIn.all{S:Nat->Bool}{w:World}{A:Option Addr}{ns:List Int}(h:IntsIn S w A ns):IntsIn (λ_=>true) w A ns:=h.aR λ_ _ _=>⟨rfl,rfl⟩
def K7(w:World)(A:Option Addr)(L:List CK):Prop:=L.length=0\/∃b off,A=some ⟨b,off,none⟩/\∀i (h:i<L.length),∃a c F d,w.cell? ⟨b,off+i*5,none⟩=some (.int .i64 L[i].t.aC)/\w.cell? ⟨b,off+i*5+1,none⟩=some (.string L[i].t.aJ)/\
 w.cell? ⟨b,off+i*5+2,none⟩=some (.slice a L[i].t.ay.length c)/\w.cell? ⟨b,off+i*5+3,none⟩=some (.int .i64 L[i].how)/\w.cell? ⟨b,off+i*5+4,none⟩=some (.slice F L[i].jv.length d)/\
 aO w (.agg #[.int .i64 L[i].t.aC,.string L[i].t.aJ,.slice a L[i].t.ay.length c]) L[i].t/\IntsIn (λ_=>true) w F L[i].jv
theorem K7.ag{w w':World}{A:Option Addr}{L:List CK}(h:K7 w A L)(hb:Below w.heap.size w w'):K7 w' A L:=by
 rcases h with h|⟨b,off,e,h⟩;·exact .inl h
 ·refine .inr ⟨b,off,e,λi hi=>?_⟩;obtain⟨a,c,F,d,f,c1,c2,c3,c4,g,j⟩:=h i hi;exact⟨a,c,F,d,ae hb f,ae hb c1,ae hb c2,ae hb c3,ae hb c4,g.ag hb,j.aR λb _ k=>⟨rfl,hb.block b k⟩⟩
theorem vD.ZL{H M:Nat}{X:Nat->Bool}{w:World}{ov:Value}{out:List CK}(h:vD H X M w ov out):∃A c,ov=.slice A out.length c/\K7 w A out:=by
 obtain⟨dG,b,d⟩:=h;rcases dE out.length with h0|h0
 ·obtain⟨A,c,e⟩:=Es d;exact⟨A,c,e,.inl h0⟩
 ·obtain⟨f,k,e,_⟩:=d.form h0;subst e;refine⟨_,k,rfl,.inr ⟨f,0,rfl,λi hi=>?_⟩⟩;have g:i<dG.length:=(by rw[b.1];exact hi);obtain⟨A,cap,F,l,e,m,n⟩:=b.2 i g hi;have o:∀cs∈dG,cs.length=5:=λcs a=>by
   obtain⟨j,hj,rfl⟩:=bI a;exact(b.2 j hj (by rw[<-b.1];exact hj)).len
  have a:∀r,r<5->w.cell? ⟨f,0+i*5+r,none⟩=(dG[i])[r]?:=λr p=>by
   rw[dJ,d.cellAt (i*5+r) (by omega)];exact AV dG o i g r p
  rw[e]at a;exact⟨A,cap,F,l,a 0 (by omega),a 1 (by omega),a 2 (by omega),a 3 (by omega),a 4 (by omega),m.at,n.in.all⟩
def Yu(w:World)(r:Option (List CK))(e:Ending)(w':World):Prop:=Below w.heap.size w w'/\match r with
 |none=>e=.returned (.tuple #[.slice none 0 0,.bool false])
 |some L=>∃A c,e=.returned (.tuple #[.slice A L.length c,.bool true])/\K7 w' A L
def SA(w:World)(r:Option (List CK))(e:Ending)(w':World):Prop:=Below w.heap.size w w'/\match r with
 |none=>e=.returned (.tuple #[.slice none 0 0,.bool false])
 |some L=>∃A c H M,e=.returned (.tuple #[.slice A L.length c,.bool true])/\w.heap.size<=H/\vD H (λ_=>false) M w' (.slice A L.length c) L
theorem SA.to{w:World}{r:Option (List CK)}{e:Ending}{w':World}(h:SA w r e w'):Yu w r e w':=by
 obtain⟨b,a⟩:=h;refine⟨b,?_⟩;cases r with
 |none=>exact a
 |some L=>
  obtain⟨A,c,H,M,d,_,f⟩:=a;obtain⟨k,l,g,i⟩:=f.ZL;injection g with j m n;subst j;exact⟨A,c,d,i⟩
end
section
open Go.RowKit
def SL(w:World):Type:={ x:(Int×ByteArray×Option Addr×Nat×Nat)×T // aO w (.agg #[.int .i64 x.1.1,.string x.1.2.1,.slice x.1.2.2.1 x.1.2.2.2.1 x.1.2.2.2.2]) x.2/\x.2.bC<=1048576 }
instance (w:World):Inhabited (SL w):=⟨⟨((0,⟨#[]⟩,none,0,0),.mk 0 ⟨#[]⟩ []),aO.mk 0 ⟨#[]⟩ none 0 [] (λ_=>(undef,undef,undef)) (by decide) (by decide) (ak _) (aL _) (.inl rfl) (λi h=>by simp at h),by decide⟩⟩
def SL.enc{w:World}(x:SL w):List Value:=[.int .i64 x.1.1.1,.string x.1.1.2.1,.slice x.1.1.2.2.1 x.1.1.2.2.2.1 x.1.1.2.2.2.2]
end
section
open Go.RowKit Go.Sort
def Gs(w:World)(blk:Nat):Type:={ x:(Int×ByteArray×Option Addr×Nat×Nat)×T // bN (but 0 (some blk)) w (.agg #[.int .i64 x.1.1,.string x.1.2.1,.slice x.1.2.2.1 x.1.2.2.2.1 x.1.2.2.2.2]) x.2/\x.2.bC<=1048576 }
instance (w:World) (blk:Nat):Inhabited (Gs w blk):=⟨⟨((0,⟨#[]⟩,none,0,0),.mk 0 ⟨#[]⟩ []),wR _ _ 0 ⟨#[]⟩ (by decide) (by decide),by decide⟩⟩
def Gs.enc{w:World}{blk:Nat}(x:Gs w blk):List Value:=[.int .i64 x.1.1.1,.string x.1.1.2.1,.slice x.1.1.2.2.1 x.1.1.2.2.2.1 x.1.1.2.2.2.2]
def Gs.t{w:World}{blk:Nat}(x:Gs w blk):T:=x.1.2
def Gs.cf{w:World}{blk:Nat}(x y:Gs w blk):Int:=T.cmp x.t y.t
theorem pz{α:Type}[Inhabited α](enc:α->List Value)(k:Nat)(w:World)(blk off m:Nat)(a:Array α)(os:Array Obj)(b:Nat)(hb:b<w.heap.size)(c:b≠blk):(sortWorldK enc k w blk off m a os).heap[b]?=w.heap[b]?:=by
 show((w.heap.modify blk _)++os)[b]?=_;rw[vg (by simpa using hb),ed,aG (by omega)]
theorem Ev{α:Type}[Inhabited α](enc:α->List Value)(k:Nat)(w:World)(blk off m:Nat)(a:Array α)(os:Array Obj){B:Nat}(c:B<=blk)(d:blk<w.heap.size):Below B w (sortWorldK enc k w blk off m a os):=by
 refine⟨rfl,rfl,rfl,?_,λb hb=>pz enc k w blk off m a os b (by omega) (by omega)⟩;show w.heap.size<=((w.heap.modify blk _)++os).size;simp
end
section
inductive sw (P:T->Prop):T->Prop
 |base {t:T}:P t->sw P t
 |hash {t:T}:t.aC=4->sw P (t.eQ 0)->sw P t
 |two {t:T}:(t.aC=3\/t.aC=5\/t.aC=6)->sw P (t.eQ 0)->sw P (t.eQ 1)->sw P t
 |raise {t:T}:t.aC=7->t.ay.length=1->sw P (t.eQ 0)->sw P t
 |pow {t:T} (i:Nat):t.aC=7->1<t.ay.length->i<t.ay.length->sw P (t.iI i)->sw P (t.eQ i)->sw P t
theorem sw.bind{P Q:T->Prop}(h:∀t,P t->sw Q t){t:T}(f:sw P t):sw Q t:=by
 induction f with
 |base g=>exact h _ g
 |hash a _ b=>exact .hash a b
 |two a _ _ c d=>exact .two a c d
 |raise a e _ b=>exact .raise a e b
 |pow i a e hi _ _ c d=>exact .pow i a e hi c d
theorem sw.m{P Q:T->Prop}(h:∀t,P t->Q t){t:T}(a:sw P t):sw Q t:=a.bind λt b=>.base (h t b)
theorem sw.atom{P:T->Prop}{t:T}(a:sw P t)(c:t.aC=1\/t.aC=2):P t:=by
 cases a with
 |base b=>exact b
 |hash h=>omega
 |two h=>omega
 |raise h=>omega
 |pow i h=>omega
theorem sw.iff{P Q:T->Prop}(h:∀t,P t<->Q t)(t:T):sw P t<->sw Q t:=⟨λa=>a.m λt=>(h t).1,λa=>a.m λt=>(h t).2⟩
theorem CY{t:T}(h:t.shape=true)(e:t.aC=7){i:Nat}(hi:i<t.ay.length):(t.eQ i).aC=1\/(t.eQ i).aC=2:=by
 obtain⟨k,s,a⟩:=t;obtain rfl:k=7:=e;rw[T.qy 7 s a (by decide) (by decide)]at h;simp only[T.il]at h;simp at h;have c:i<a.length:=hi;have f:a[i]∈a:=aN c;have b:=h.1.1.2 _ f;have g:(T.mk 7 s a).eQ i=a[i]:=(by show a.getD i T.uC=_;rw[dC,aH c];rfl);rw[g];cases j:a[i]with
 |mk d l m=>
  rw[j]at b;simp only[T.atom]at b;show d=1\/d=2;simpa using b
namespace Wb
def Part(W:List fC)(t:T):Prop:=∃s∈W,s.part=true/\s.t=t
def Sound(P:T->Prop)(W:List fC):Prop:=∀s∈W,sw P s.t
theorem Sound.push{P:T->Prop}{W:List fC}(h:Sound P W){s:fC}(b:sw P s.t):Sound P (W++[s]):=λx a=>by
 rcases aU.1 a with a|a;·exact h x a
 ·rw[aX]at a;rw[a];exact b
theorem Sound.add{P:T->Prop}{W:List fC}(h:Sound P W){t:T}(b:sw P t)(how:Nat)(jv:List Nat):Sound P (add W t how jv).1:=by
 cases a:find W t with
 |some i=>rw[ry a];exact h
 |none=>rw[rq a];exact h.push b
theorem Sound.mark{P:T->Prop}{W:List fC}(h:Sound P W)(i:Nat):Sound P (mark W i):=λx b=>by
 obtain⟨j,hj,rfl⟩:=bI b;have a:j<W.length:=(by rwa [ll]at hj);rw[(yH W i j hj a).1];exact h _ (aN a)
theorem Sound.take{P:T->Prop}{W:List fC}(h:Sound P W){t:T}(a:sw P t)(how:Nat)(jv:List Nat):Sound P (take W t how jv).1:=by
 unfold Wb.take;split;·exact h.add a how jv
 ·exact(h.add a how jv).mark _
theorem LH{U:List T}(hU:yA U){P:T->Prop}{W:List fC}(a:Inv U W)(hS:Sound P W){t:T}(b:t∈U){i:Nat}(h:find W t=some i):sw P t:=by
 obtain⟨hi,e⟩:=find_eq hU a b h;rw[<-e];exact hS _ (aN hi)
def Gq(P:T->Prop)(U:List T)(rec:List fC->T->List fC×Option Nat)(t:T):Prop:=∀W,Inv U W->Sound P W->Sound P (rec W t).1/\∀i,(rec W t).2=some i->sw P t
theorem Gy{U:List T}{P:T->Prop}{rec:List fC->T->List fC×Option Nat}{t:T}(how:Nat)(f:t.aC=3\/t.aC=5\/t.aC=6)(h0:Bt U rec (t.eQ 0))(s0:Gq P U rec (t.eQ 0))(g:Gq P U rec (t.eQ 1)):
 Gq P U (λW t=>both rec W t how) t:=λW c hS=>by
 obtain⟨j,_,_⟩:=h0 W c;obtain⟨d,k⟩:=s0 W c hS;obtain⟨c1,c2⟩:=g _ j d;simp only[both];split;·exact⟨d,λi h=>by cases h⟩
 ·rename_i a l;split;·exact⟨c1,λi h=>by cases h⟩
  ·rename_i b hb;have e:=sw.two f (k a l) (c2 b hb);exact⟨c1.add e _ _,λ_ _=>e⟩
theorem Qj {U:List T} (hU:yA U) {P:T->Prop} {rec:List fC->T->List fC×Option Nat} {t:T} (c:t.aC=7) (d:t∈U) (e:∀i,i<t.ay.length->1<t.ay.length->Bt U rec (t.iI i)/\Gq P U rec (t.iI i)):
  ∀(f i:Nat),f+i=t.ay.length->Gq P U (λW _=>pow rec t f i W) t
 |0,i,_,W,_,hS=>⟨hS,λi h=>by cases h⟩
 |f+1,i,u,W,b,hS=>by
  have g:=Qj hU c d e f (i+1) (by omega);simp only[pow];split;·exact g W b hS
  ·rename_i nm m;have j:=LH hU b hS (hU.eQ t d i (by omega)) m;split
   ·rename_i k;obtain rfl:i=0:=(by omega);have a:=sw.raise c k j;exact⟨hS.add a _ _,λ_ _=>a⟩
   ·rename_i k;obtain⟨n,o⟩:=e i (by omega) (by omega);obtain⟨q,_,_⟩:=n W b;obtain⟨l,r⟩:=o W b hS;split;·exact g _ q l
    ·rename_i p s;have a:=sw.pow i c (by omega) (by omega) (r p s) j;exact⟨l.add a _ _,λ_ _=>a⟩
theorem sP{U:List T}(hU:yA U)(P:T->Prop):∀(n:Nat) (t:T),t∈U->Gq P U (build n) t
 |0,t,_,W,_,hS=>⟨hS,λi h=>by cases h⟩
 |n+1,t,a,W,c,hS=>by
  have s:=T.oU (aP.1 (hU.ok t a)).2;have b:∀i,i<t.ay.length->Gq P U (build n) (t.eQ i):=λi hi=>sP hU P n _ (hU.eQ t a i hi);have d:∀i,i<t.ay.length->Bt U (build n) (t.eQ i):=λi hi=>lH hU n _ (hU.eQ t a i hi);simp only[build];split
  ·rename_i i hi;exact⟨hS,λ_ _=>LH hU c hS a hi⟩
  ·split
   ·rename_i k;obtain⟨f,l⟩:=b 0 (by omega) W c hS;split;·exact⟨f,λi h=>by cases h⟩
    ·rename_i m o;have g:=sw.hash k (l m o);exact⟨f.add g _ _,λ_ _=>g⟩
   ·split
    ·rename_i p;exact Gy 6 (.inl p) (d 0 (by omega)) (b 0 (by omega)) (b 1 (by omega)) W c hS
    ·split
     ·rename_i q;exact Gy 8 (.inr (.inl q)) (d 0 (by omega)) (b 0 (by omega)) (b 1 (by omega)) W c hS
     ·split
      ·rename_i r;exact Gy 9 (.inr (.inr r)) (d 0 (by omega)) (b 0 (by omega)) (b 1 (by omega)) W c hS
      ·split
       ·rename_i e;exact Qj hU e a (λi hi j=>⟨lH hU n _ (hU.less t a e j i hi),sP hU P n _ (hU.less t a e j i hi)⟩) t.ay.length 0 rfl W c hS
       ·exact⟨hS,λi h=>by cases h⟩
def Xo(rec:List fC->T->List fC×Option Nat)(t:T):Prop:=∀W x,Part (rec W t).1 x<->Part W x
theorem vY(W:List fC)(t:T)(how:Nat)(jv:List Nat)(x:T):Part (add W t how jv).1 x<->Part W x:=by
 cases d:find W t with
 |some i=>rw[ry d]
 |none=>
  rw[rq d];constructor
  ·rintro⟨s,a,b,c⟩;rcases aU.1 a with a|a;·exact⟨s,a,b,c⟩
   ·rw[aX]at a;rw[a]at b;cases b
  ·rintro⟨s,a,b,c⟩;exact⟨s,gQ _ a,b,c⟩
theorem Ia{rec:List fC->T->List fC×Option Nat}{t:T}(how:Nat)(h0:Xo rec (t.eQ 0))(a:Xo rec (t.eQ 1)):Xo (λW t=>both rec W t how) t:=λW x=>by
 simp only[both];split;·exact h0 W x
 ·split;·exact(a _ x).t (h0 W x)
  ·exact(vY _ _ _ _ x).t ((a _ x).t (h0 W x))
theorem Qi{rec:List fC->T->List fC×Option Nat}{t:T}(a:∀i,Xo rec (t.iI i)):∀(f i:Nat) (W:List fC) (x:T),Part (pow rec t f i W).1 x<->Part W x
 |0,_,_,_=>tL
 |f+1,i,W,x=>by
  have b:=Qi a f (i+1);simp only[pow];split;·exact b W x
  ·split;·exact vY _ _ _ _ x
   ·split;·exact(b _ x).t (a i W x)
    ·exact(vY _ _ _ _ x).t (a i W x)
theorem kF:∀(n:Nat) (t:T),Xo (build n) t
 |0,_,_,_=>tL
 |n+1,t,W,x=>by
  simp only[build];split;·exact tL
  ·split
   ·split;·exact kF n _ W x
    ·exact(vY _ _ _ _ x).t (kF n _ W x)
   ·split;·exact Ia 6 (kF n _) (kF n _) W x
    ·split;·exact Ia 8 (kF n _) (kF n _) W x
     ·split;·exact Ia 9 (kF n _) (kF n _) W x
      ·split;·exact Qi (λi=>kF n _) _ _ W x
       ·exact tL
theorem JQ{W:List fC}{t:T}(h:Part W t):∃i,find W t=some i:=by
 obtain⟨s,a,_,e⟩:=h;cases b:find W t with
 |some i=>exact⟨i,rfl⟩
 |none=>exact absurd (by rw[e]) (GN b s a)
theorem Dz {U:List T} (hU:yA U) {rec:List fC->T->List fC×Option Nat} {t:T} (g:t.aC=7) (h:t∈U) (k:∀i,i<t.ay.length->1<t.ay.length->Bt U rec (t.iI i)/\Xo rec (t.iI i))
  (a:∀i,i<t.ay.length->1<t.ay.length->∀W,Inv U W->sw (Part W) (t.iI i)->∃r,(rec W (t.iI i)).2=some r):
  ∀(f i:Nat) (W:List fC),f+i=t.ay.length->Inv U W->(∃j,i<=j/\j<t.ay.length/\sw (Part W) (t.eQ j)/\(1<t.ay.length->sw (Part W) (t.iI j)))->∃r,(pow rec t f i W).2=some r
 |0,i,W,p,_,⟨j,q,b,_⟩=>by omega
 |f+1,i,W,p,l,⟨j,q,b,m,n⟩=>by
  have s:=m.atom (CY (aP.1 (hU.ok t h)).2 g b);simp only[pow];split
  ·rename_i c;have u:i≠j:=λe=>by
    subst e;obtain⟨r,a⟩:=JQ s;rw[a]at c;cases c
   exact Dz hU g h k a f (i+1) W (by omega) l ⟨j,by omega,b,m,n⟩
  ·split;·exact⟨_,rfl⟩
   ·have d:1<t.ay.length:=(by omega);obtain⟨v,w⟩:=k i (by omega) d;split
    ·rename_i c;have u:i≠j:=λe=>by
      subst e;obtain⟨r,a⟩:=a i b d W l (n d);rw[a]at c;cases c
     have o:=w W;exact Dz hU g h k a f (i+1) _ (by omega) (v W l).1 ⟨j,by omega,b,(sw.iff o _).2 m,λd=>(sw.iff o _).2 (n d)⟩
    ·exact⟨_,rfl⟩
theorem Ef{U:List T}{rec:List fC->T->List fC×Option Nat}{t:T}(how:Nat){W:List fC}(c:Inv U W)(d:Bt U rec (t.eQ 0))(q0:Xo rec (t.eQ 0))
 (h0:∀W,Inv U W->sw (Part W) (t.eQ 0)->∃r,(rec W (t.eQ 0)).2=some r) (e:∀W,Inv U W->sw (Part W) (t.eQ 1)->∃r,(rec W (t.eQ 1)).2=some r) (s0:sw (Part W) (t.eQ 0)) (f:sw (Part W) (t.eQ 1)):∃r,(both rec W t how).2=some r:=by
 obtain⟨a,g⟩:=h0 W c s0;obtain⟨b,hb⟩:=e _ (d W c).1 ((sw.iff (q0 W) _).2 f);simp only[both,g,hb];exact⟨_,rfl⟩
theorem yB{U:List T}(hU:yA U):∀(n:Nat) (t:T),t∈U->t.bC<n->∀W,Inv U W->sw (Part W) t->∃r,(build n W t).2=some r
 |0,_,_,hb,_,_,_=>by omega
 |n+1,t,b,hb,W,e,hS=>by
  have q:=T.oU (aP.1 (hU.ok t b)).2;have d:∀i,i<t.ay.length->∀W,Inv U W->sw (Part W) (t.eQ i)->∃r,(build n W (t.eQ i)).2=some r:=λi hi=>yB hU n _ (hU.eQ t b i hi) (by have:=T.Dh hi;omega);have f:∀i,i<t.ay.length->Bt U (build n) (t.eQ i):=λi hi=>lH hU n _ (hU.eQ t b i hi);simp only[build];split;·exact⟨_,rfl⟩
  ·rename_i j;have k:¬Part W t:=λh=>(by obtain⟨r,g⟩:=JQ h;rw[g]at j;cases j);cases hS with
   |base h=>exact absurd h k
   |hash l h0=>
    rw[aI l];obtain⟨r,g⟩:=d 0 (by omega) W e h0;rw[g];exact⟨_,rfl⟩
   |two m h0 a=>
    rw[aG (by omega)];rcases m with h|h|h;·rw[aI h];exact Ef 6 e (f 0 (by omega)) (kF n _) (d 0 (by omega)) (d 1 (by omega)) h0 a
    ·rw[aG (by omega),aI h];exact Ef 8 e (f 0 (by omega)) (kF n _) (d 0 (by omega)) (d 1 (by omega)) h0 a
    ·rw[aG (by omega),aG (by omega),aI h];exact Ef 9 e (f 0 (by omega)) (kF n _) (d 0 (by omega)) (d 1 (by omega)) h0 a
   |raise c a h0=>
    rw[aG (by omega),aG (by omega),aG (by omega),aG (by omega),aI c];exact Dz hU c b (λi hi a=>⟨lH hU n _ (hU.less t b c a i hi),kF n _⟩) (λi hi a=>yB hU n _ (hU.less t b c a i hi) (by have:=T.Ba hi;omega)) t.ay.length 0 W rfl e ⟨0,ak _,by omega,h0,λh=>by omega⟩
   |pow i c a hi o p=>
    rw[aG (by omega),aG (by omega),aG (by omega),aG (by omega),aI c];exact Dz hU c b (λi hi a=>⟨lH hU n _ (hU.less t b c a i hi),kF n _⟩) (λi hi a=>yB hU n _ (hU.less t b c a i hi) (by have:=T.Ba hi;omega)) t.ay.length 0 W rfl e ⟨i,aL _,hi,p,λ_=>o⟩
theorem PD{U:List T}(hU:yA U){t:T}(a:t∈U){W:List fC}(b:Inv U W)(hS:Sound (Part W) W):(∃r,(BI W t).2=some r)<->sw (Part W) t:=
 ⟨λ⟨r,c⟩=>(sP hU _ _ t a W b hS).2 r c,λh=>yB hU _ t a (dI _) W b h⟩
end Wb
end
end Go.Proofs.YtaciciokmpbkkaaGreatDoor
