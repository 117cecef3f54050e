import Derived.Test.YtaciciokmpbkkaaGreatDoorWebG27
set_option maxRecDepth 100000
set_option maxHeartbeats 16000000
namespace Go.Proofs.YtaciciokmpbkkaaGreatDoor
section
open T
theorem I7(l:List T):(aQ.Gr l).length<=l.length:=BI (EA (jG l).1) λt a=>((jG l).2 t).1 a
theorem RG(x:jf)(m:Int×T)(t:mg):(aQ.move x m t).bF.length<=x.bF.length+1:=by
 unfold aQ.move;dsimp only
 split
 ·split;·exact aG (I7 _) (by rw[aF];exact ax _)
  ·exact ui _
 ·exact ui _
theorem IA{s:List iN}:∀(l:List mg) {x y:jf},aQ.qG s x l=some y->y.bF.length+ats x<=x.bF.length+ats y
 |[],x,y,h=>by
  obtain rfl:x=y:=aa0;exact ax _
 |t::r,x,y,h=>by
  simp only[aQ.qG]at h;cases a:aQ.uq s x t with
  |none=>rw[a]at h;cases h
  |some z=>
   rw[a]at h;obtain⟨m,b,rfl⟩:=AU a;have c:=IA r h;have d:=RG x m t;have e:=Ty b;omega
def Reach(s:List iN)(K:List T)(x:jf):Prop:=∃l,aQ.qG s (aQ.iJ s K) l=some x
theorem Reach.begin(s:List iN)(K:List T):Reach s K (aQ.iJ s K):=⟨[],rfl⟩
theorem Reach.step{s:List iN}{K:List T}{x:jf}(h:Reach s K x){t:mg}{m:Int×T}(a:t∈aQ.gB s x)(b:aQ.Vz s x m t):Reach s K (aQ.move x m t):=by
 obtain⟨l,c⟩:=h;obtain⟨d,e,f⟩:=pg a;obtain rfl:m=d:=(by have:=b.1.symm.t e.1;injection this);exact⟨l++[t],by rw[Sm,c];exact f⟩
def S9(s:List iN)(K:List T):Prop:=∀x,Reach s K x->zP s x
theorem XI{s:List iN}{K:List T}(f:aQ.moves s<=16)(g:K.length<=32)(d:∀x,Reach s K x->aQ.GJ s x):S9 s K:=λx b=>by
 have e:=b;obtain⟨l,a⟩:=b;have c:=NC l Rq a;have h:=IA l a;have i:=Q4 s K;have j:=VS c;have k:(aQ.iJ s K).bF.length<=K.length:=aG (I7 _) (gF _ _);exact⟨c,d x e,ND l (SS s K) a,aar⟩
theorem zR{s:List iN}{x:jf}{t:mg}(h:t∈aQ.gB s x):t.bC.bE<=1048576:=by
 obtain⟨m,_,c,d⟩:=Fe h;by_cases a:m.1=2
 ·obtain⟨q,_,e⟩:=d a;have b:=(xX e).2;unfold aQ.can at b;have f:=jD (T.ik (aN.1 b).1);omega
 ·rw[c a];decide
structure aQ.xH.Run (s:List iN) (K:List T) (v:aQ.xH):Prop where
 ok:v.Ok s (aQ.iJ s K)
 len:v.jc.length<=1000
 reach:∀p∈v.jc,Reach s K p.x
 bE:∀p∈v.jc,p.turn.bC.bE<=1048576
theorem Su(s:List iN)(K:List T):aQ.xH.Run s K ⟨[⟨aQ.iJ s K,0,⟨0,qz⟩⟩],true,[]⟩ where
 ok:=⟨⟨_,rfl,rfl⟩,λi y h=>by
  have:=(aU.1 h).1;simp at this;exact .inl this,λa c=>absurd c eX⟩
 len:=by simp
 reach p b:=by rw[bD.1 b];exact Reach.begin s K
 bE p b:=by rw[bD.1 b];show qz.bE<=_;decide
theorem U9{s:List iN}{K:List T}{v:aQ.xH}(h:v.Run s K){i:Nat}{p:aQ.LU}(d:v.jc[i]?=some p){t:mg}(c:t∈aQ.gB s p.x):(aQ.turn s i v t).Run s K:=by
 have a:=QT h.ok d c;obtain⟨m,g,_⟩:=pg c;have j:=(h.reach p (dA d)).step c g;have hb:=zR c;unfold aQ.turn at a⊢;rw[d]at a⊢;dsimp only at a⊢;rw[g.1]at a⊢;dsimp only at a⊢;split
 ·rename_i e;rw[aJ e]at a;exact⟨a,h.len,h.reach,h.bE⟩
 ·rename_i e;rw[aH e]at a;split
  ·rename_i f;rw[aJ f]at a;exact⟨a,h.len,h.reach,h.bE⟩
  ·rename_i f;rw[aH f]at a;refine⟨a,by show(v.jc++[_]).length<=1000;rw[aF];simp;omega,λq b=>?_,λq b=>?_⟩
   ·rcases bu.1 b with b|b;·exact h.reach q b
    ·rw[bD.1 b];exact j
   ·rcases bu.1 b with b|b;·exact h.bE q b
    ·rw[bD.1 b];exact hb
theorem Vn{s:List iN}{v:aQ.xH}{i j:Nat}{p:aQ.LU}(t:mg)(a:v.jc[j]?=some p):(aQ.turn s i v t).jc[j]?=some p:=by
 have hj:=(aU.1 a).1;unfold aQ.turn;split;·exact a
 ·split;·exact a
  ·dsimp only
   split;·exact a
   ·split;·exact a
    ·show(v.jc++[_])[j]?=some p;rw[bN hj];exact a
end
section
open Go.RowKit
def sF(listed:Array Bool):Nat->Bool:=λi=>listed.getD i false
theorem Mk(listed:Array Bool)(i:Nat)(hi:i<listed.size):sF (listed.setIfInBounds i true)=λj=>sF listed j||j==i:=by
 funext j;unfold sF;simp only[dZ,iK];by_cases h:i=j
 ·subst h;simp[hi]
 ·rw[aH h];have:(j==i)=false:=(by rw[aD];exact λe=>h e.symm);rw[this,tO]
def Ii(listed:Array Bool):Nat:=(listed.toList.filter (! ·)).length
theorem M0(listed:Array Bool)(i:Nat)(hi:i<listed.size)(h:listed.getD i false=false):Ii (listed.setIfInBounds i true)+1=Ii listed:=by
 unfold Ii;rw[Array.toList_setIfInBounds];have h':listed.toList[i]?=some false:=by
  have:listed[i]?=some listed[i]:=fP hi;rw[dZ,this]at h;rw[lL,this];simpa using h
 revert h';generalize listed.toList=l;clear h hi;induction l generalizing i with
 |nil=>intro h;simp at h
 |cons b r a=>
  intro h;cases i with
  |zero=>simp at h;subst h;simp
  |succ n=>
   have:=a n aaD;rw[dQ,xK,xK];cases b;·simp only[vE,rD,bg];omega
   ·simpa using this
theorem RO{listed:Array Bool}(h:Ii listed=0)(i:Nat)(hi:i<listed.size):sF listed i=true:=by
 unfold Ii at h;have h0:=bR h;have a:=List.filter_eq_nil_iff.1 h0 listed[i] aau;unfold sF;rw[dZ,fP hi];cases b:listed[i];·rw[b]at a;exact absurd rfl a
 ·rfl
section
variable {P:Program} {ops:Array Oper} {Q:Exit->Act->World->Prop}
theorem Kl{listed:Array Bool}{i:Nat}(h:i∈Region.ready .any ops listed):∃o,ops[i]?=some o/\listed.getD i true=false/\∀e∈o.after,Region.binds .any e=true->sF listed e.on=true:=by
 unfold Region.ready at h;rw[fU]at h;obtain⟨_,h⟩:=h;rw[ah]at h;obtain⟨c,a⟩:=h;cases b:ops[i]? with
 |none=>rw[b]at a;simp at a
 |some o=>
  refine⟨o,rfl,by simpa using c,λe d hb=>?_⟩;rw[b]at a;simp only[jL,gQ]at a;have:=lZ.1 a e d;rw[hb]at this;simpa[sF]using this
theorem U0{listed:Array Bool}{i:Nat}{o:Oper}(a:ops[i]?=some o)(b:listed.getD i true=false)(h:∀e∈o.after,sF listed e.on=true):i∈Region.ready .any ops listed:=by
 unfold Region.ready;rw[fU];refine⟨ed.2 (aW.1 a).1,?_⟩;rw[ah];refine⟨by rw[b];rfl,?_⟩;rw[a];simp only[jL,gQ];refine lZ.2 λe c=>?_;have:=h e c;unfold sF at this;rw[this];simp
theorem Jw{id:Nat}{a:Act}{w:World}(f:P.follows .mixedOrders=true)(I:(Nat->Bool)->Act->World->Prop)
 (m:∀(i:Nat) o,ops[i]?=some o->∀e∈o.after,e.on<i)
 (h0:I (λ_=>false) a w.drew)
 (p:∀(L:Nat->Bool) (a:Act) (w:World) (i:Nat) (o:Oper),I L a w->ops[i]?=some o->L i=false->(∀e∈o.after,Region.binds .any e=true->L e.on=true)->
   ∀K:Act->World->Prop,(∀a' w',I (λj=>L j||j==i) a' w'->K a' w')->if Region.wanted o (yielded ops a.tmps)=true then Oper.wp P o a w K Q else K (a.put o.dst undef) w)
 (q:∀(L:Nat->Bool) (a:Act) (w:World),(∀i,i<ops.size->L i=true)->I L a w->Q .normal a w):(Code.region id ops true).wp P Q a w:=by
 refine pY f ?_;have key:∀(fuel:Nat) (listed:Array Bool) (a:Act) (w:World),listed.size=ops.size->Ii listed<=fuel->I (sF listed) a w->wpAny P .any ops Q fuel listed a w:=by
  intro fuel;induction fuel with
  |zero=>
   intro listed a w k x d;have r:∀i,i<ops.size->sF listed i=true:=λi hi=>RO aar i aar;refine⟨?_,q _ a w r d⟩;rw[List.eq_nil_iff_forall_not_mem];intro i hi;obtain⟨o,b,c,_⟩:=Kl hi;have s:=(aW.1 b).1;have:=r i s;unfold sF at this;rw[dZ,fP aaF]at this c;simp at this c;rw[this]at c;cases c
  |succ n t=>
   intro listed a w k x d;refine⟨λy=>q _ a w (λi hi=>?_) d,λi hi=>?_⟩
   ·
    induction i using Nat.strongRecOn with
    |ind i z=>
     by_cases hd:sF listed i=true;·exact hd
     ·exfalso;have b:ops[i]?=some ops[i]:=fP hi;have A:listed.getD i true=false:=by
       unfold sF at hd;rw[dZ,fP aaF]at hd⊢;simpa using hd
      have f:=U0 b A (λe u=>z e.on (m i _ b e u) (Nat.lt_trans (m i _ b e u) hi));rw[y]at f;cases f
   ·obtain⟨o,b,c,v⟩:=Kl hi;have s:=(aW.1 b).1;have g:listed.getD i false=false:=by
     rw[dZ,fP aaF]at c⊢;simpa using c
    have C:=p (sF listed) a w i o d b g v (wpAny P .any ops Q n (listed.setIfInBounds i true)) (λa' w' l=>by
     refine t _ a' w' (by simpa using k) ?_ ?_;·have:=M0 listed i aar g;omega
     ·rw[Mk listed i aaF];exact l)
    exact EZ b (λK' B=>by
     have:=p (sF listed) a w i o d b g v K' (λa' w' l=>B a' w' (t _ a' w' (by simpa using k) (aaz (M0 listed i aar g)) (by rw[Mk listed i aaF];exact l)));exact this)
 refine key ops.size _ a _ aau ?_ ?_
 ·unfold Ii;exact aG (gF _ _) aau
 ·have:sF (Array.replicate ops.size false)=λ_=>false:=by
   funext i;unfold sF;rw[dZ];rcases bX i ops.size with h|h;·simp[h]
   ·simp[h]
  rw[this];exact h0
end
def setMany(xs:Array Value)(u:Nat->Value)(s:Nat):Nat->Array Value
 |0=>xs
 |n+1=>(setMany xs u s n).setIfInBounds (s+n) (u (s+n))
theorem Ec(xs:Array Value)(u:Nat->Value)(s:Nat):∀n,(setMany xs u s n).size=xs.size
 |0=>rfl
 |n+1=>by rw[setMany,iO,Ec xs u s n]
theorem FR(xs:Array Value)(u:Nat->Value)(s:Nat):∀n j,s+n<=xs.size->(setMany xs u s n)[j]?=if s<=j/\j<s+n then some (u j) else xs[j]?
 |0,j,_=>by rw[aH aaF];rfl
 |n+1,j,h=>by
  rw[setMany,iK,Ec];by_cases e:s+n=j;·rw[aJ e,aJ aar,aJ aar,e]
  ·rw[aH e,FR xs u s n j aaF];by_cases a:s<=j/\j<s+n;·rw[aJ a,aJ aaF]
   ·rw[aH a,aH aaF]
theorem MC{a a0:Act}(s n:Nat)(b:a.tmps.size=a0.tmps.size)(c:s+n<=a0.tmps.size)(hd:a.defers=a0.defers)(h:∀j,j<s\/s+n<=j->a.tmps[j]?=a0.tmps[j]?):
 ∃u:Nat->Value,a={ tmps:=setMany a0.tmps u s n,defers:=a0.defers }/\∀j v,s<=j->j<s+n->a.tmps[j]?=some v->u j=v:=by
 refine⟨λj=>a.tmps.getD j undef,?_,λj v _ _ e=>by simp[e]⟩;obtain⟨t,d⟩:=a;simp only at b hd h;subst hd;congr 1;apply Array.ext_getElem?;intro j;rw[FR _ _ _ _ _ c];by_cases hj:s<=j/\j<s+n
 ·rw[aJ hj];have:j<t.size:=aar;simp[this]
 ·rw[aH hj];exact h j aar
end
section
open Go.RowKit Go.Maps T
noncomputable def IL(n:Nat):Code->Option (Array Oper)
 |.region i ops _=>if i=n then some ops else none
 |.seq a b=>(IL n a).orElse λ_=>IL n b
 |.cond _ a b=>(IL n a).orElse λ_=>IL n b
 |.block _ c=>IL n c
 |.loop c=>IL n c
 |_=>none
noncomputable def opsE:Array Oper:=(IL 4 ((Tryz.f16.body).getD .skip)).getD #[]
theorem BN:opsE.size=14:=by kernel_rfl
theorem Sb:∀(i:Nat) o,opsE[i]?=some o->∀e∈o.after,e.on<i:=by
 have h:(opsE.toList.zipIdx.all λp=>p.1.after.all λe=>decide (e.on<p.2))=true:=aas;intro i o a e b;have:=bQ.1 h (o,i) (by rw[List.mem_zipIdx_iff_getElem?];simpa using a);have:=lZ.1 this e b;simpa using this
structure EP where
 As:Option Addr
 n:Nat
 cs:Nat
 Ax:Option Addr
 lx:Nat
 cx:Nat
 Bx:Option Addr
 kx:Nat
 dx:Nat
 key:ByteArray
def EP.jc(p:EP):List Value:=[.slice p.Ax p.lx p.cx,.slice p.Bx p.kx p.dx,.int .i64 0,.int .i64 0,.int .i64 0,.string ⟨#[]⟩,.slice none 0 0]
def xY(i:Nat):Nat:=[28,29,30,31,32,33,34,0,35,36,37].getD i 0
def XQ(i:Nat):Bool:=i==3||i==4||i==9||i==10
theorem Rj:∀i j:Nat,i<11->j<11->i≠7->j≠7->xY i=xY j->i=j:=by
 have h:((List.range 11).all λi=>(List.range 11).all λj=>decide (i≠7->j≠7->xY i=xY j->i=j))=true:=aas;intro i j hi hj a b c;have d:=bQ.1 (bQ.1 h i (ed.2 hi)) j (ed.2 hj);exact(ak d) a b c
theorem TT:∀i:Nat,i<11->i≠7->28<=xY i/\xY i<38:=by
 have h:((List.range 11).all λi=>decide (i≠7->28<=xY i/\xY i<38))=true:=aas;intro i hi a;exact(ak (bQ.1 h i (ed.2 hi))) a
def TM(i:Nat):List Nat:=match i with
 |2=>[1]
 |3=>[2]
 |6=>[5]
 |7=>[4,6]
 |8=>[4,5,6,7]
 |_=>[]
def E8(p:EP)(B:Nat)(bk:Nat->Nat)(ins:Bool)(i:Nat)(t:Array Value)(w:World):Prop:=match i with
 |0=>t[28]?=some (.slice p.As p.n p.cs)
 |1=>t[29]?=some (.agg #[.slice p.Ax p.lx p.cx,.slice p.Bx p.kx p.dx])
 |2=>t[30]?=some (.agg #[.slice p.Ax p.lx p.cx,.slice p.Bx p.kx p.dx,.int .i64 0,.int .i64 0,.int .i64 0,.string ⟨#[]⟩,.slice none 0 0])
 |3=>t[31]?=some (.slice (some ⟨bk 3,0,none⟩) 1 1)/\B<=bk 3/\gU w (bk 3) 88 p.jc
 |4=>t[32]?=some (.map (some (bk 4)))/\B<=bk 4/\∃n F,qK Tryz.prog 9 w (bk 4) n F/\n<=1/\(ins=false->n=0)/\∀k:ByteArray,(F (zZ k)).isSome=(ins&&decide (p.key=k))
 |5=>t[33]?=some (.agg #[.slice p.Ax p.lx p.cx,.slice p.Bx p.kx p.dx])
 |6=>t[34]?=some (.string p.key)
 |8=>t[35]?=some (.map (some (bk 4)))
 |9=>t[36]?=some (.map (some (bk 9)))/\B<=bk 9/\qK Tryz.prog 99 w (bk 9) 0 (λ_=>none)
 |10=>t[37]?=some (.map (some (bk 10)))/\B<=bk 10/\qK Tryz.prog 9 w (bk 10) 0 (λ_=>none)
 |_=>True
theorem acK{p:Prop}(h:p:=by
 obtain⟨b,c,d⟩:=h;refine⟨?_,?_,?_⟩;·rw[hb];exact(a aar).t b
 ·rw[hb];exact c
 ·rw[hb];exact d.aR (e rfl)):p:=h
theorem E8.aR{p:EP}{B:Nat}{bk f:Nat->Nat}{ins:Bool}{t g:Array Value}{w w':World}(i:Nat)(hi:i<11)(h:E8 p B bk ins i t w)(a:i≠7->g[xY i]?=t[xY i]?)(hb:f i=bk i)(j:i=8->f 4=bk 4)(e:XQ i=true->w'.heap[bk i]?=w.heap[bk i]?):E8 p B f ins i g w':=by
 have k:i=0\/i=1\/i=2\/i=3\/i=4\/i=5\/i=6\/i=7\/i=8\/i=9\/i=10:=aar;rcases k with rfl|rfl|rfl|rfl|rfl|rfl|rfl|rfl|rfl|rfl|rfl;·exact(a aar).t h
 ·exact(a aar).t h
 ·exact(a aar).t h
 ·obtain⟨b,c,d⟩:=h;refine⟨?_,?_,?_⟩;·rw[hb];exact(a aar).t b
  ·rw[hb];exact c
  ·rw[hb];exact(e rfl).t d
 ·obtain⟨b,c,n,F,d,l⟩:=h;refine⟨?_,?_,n,F,?_,l⟩;·rw[hb];exact(a aar).t b
  ·rw[hb];exact c
  ·rw[hb];exact d.aR (e rfl)
 ·exact(a aar).t h
 ·exact(a aar).t h
 ·trivial
 ·show g[35]?=_;rw[j rfl];exact(a aar).t h
 ·exact acK
 ·exact acK
structure Cx (p:EP) (a0:Act) (w0:World) (bk:Nat->Nat) (L:Nat->Bool) (a:Act) (w:World):Prop where
 size:a.tmps.size=a0.tmps.size
 defs:a.defers=a0.defers
 same:∀j,j<28\/39<j->a.tmps[j]?=a0.tmps[j]?
 below:Below w0.heap.size w0 w
 fact:∀i,i<11->L i=true->E8 p w0.heap.size bk (L 7) i a.tmps w
 lt:∀i,XQ i=true->L i=true->bk i<w.heap.size
 ne:∀i j,XQ i=true->XQ j=true->L i=true->L j=true->i≠j->bk i≠bk j
 cl:∀i,i<11->L i=true->∀j∈TM i,L j=true
theorem Cx.d7{p:EP}{a0 a:Act}{b w:World}{bk:Nat->Nat}{L:Nat->Bool}(h:Cx p a0 b bk L a w)(c:L 7=true):L 4=true:=h.cl 7 aar c 4 aat
theorem Cx.d8{p:EP}{a0 a:Act}{b w:World}{bk:Nat->Nat}{L:Nat->Bool}(h:Cx p a0 b bk L a w)(c:L 8=true):L 7=true:=h.cl 8 aar c 7 aat
theorem tC{a:Act}{k:Nat}{v:Value}(h:k<a.tmps.size)(j:Nat):(a.put (some k) v).tmps[j]?=if k=j then some v else a.tmps[j]?:=by
 simp only[Act.put,iK];split;·rename_i e;subst e;first|rfl|rw[aJ h]
 ·rfl
theorem OU{i:Nat}(h:XQ i=true):i<11/\i≠7/\i≠8:=by
 unfold XQ at h;simp only[eH,fD]at h;omega
theorem Cx.start(p:EP)(a0:Act)(a:World):Cx p a0 a (λ_=>0) (λ_=>false) a0 a.drew:=
 ⟨rfl,rfl,λ_ _=>rfl,(aC _ _).drew,(λ_ _ h=>absurd h aau),(λ_ _ h=>absurd h aau),(λ_ _ _ _ h=>absurd h aau),(λ_ _ h=>absurd h aau)⟩
theorem Cx.step{p:EP}{a0 a:Act}{q w w':World}{bk:Nat->Nat}{L:Nat->Bool}(h:Cx p a0 q bk L a w)(hs0:40<=a0.tmps.size)(i:Nat)(hi:i<11)(s:i≠7)(z:L i=false)(d:Nat->Nat)(b:∀j,j≠i->d j=bk j)(v:Value)(hb:Below w.heap.size w w')
 (A:E8 p q.heap.size d (L 7) i (a.put (some (xY i)) v).tmps w') (t:XQ i=true->w.heap.size<=d i/\d i<w'.heap.size) (hd:∀j∈TM i,L j=true):Cx p a0 q d (λj=>L j||j==i) (a.put (some (xY i)) v) w':=by
 have K:=TT i hi s;have x:=λj=>tC (a:=a) (k:=xY i) (v:=v) (by rw[h.size];omega) j;have B:(L 7||7==i)=L 7:=by
  have:(7==i)=false:=aD.2 (jR s);rw[this,tO]
 have c:∀n,n≠i->(L n||n==i)=true->L n=true:=λn C l=>by
  rcases Bool.or_eq_true_iff.1 l with l|l;·exact l
  ·exact absurd abr C
 have D:i=4->L 8=false:=λe=>by
  subst e;cases E:L 8 with
  |false=>rfl
  |true=>have:=h.d7 (h.d8 E);rw[z]at this;cases this
 refine⟨by simp only[Act.put,iO];exact h.size,h.defs,λj hj=>?_,h.below.t (hb.m h.below.size),λj hj m=>?_,λj r m=>?_,λj k hj f g y u=>?_,λj hj m k f=>?_⟩;·rw[x,aH aaF];exact h.same j hj
 ·show E8 p q.heap.size d (L 7||7==i) j _ _;rw[B];by_cases e:j=i;·subst e;exact A
  ·have g:=c j e m;refine(h.fact j hj g).aR j hj (λF=>?_) (b j e) (λG=>?_) (λr=>hb.block _ (h.lt j r g));·rw[x,aH (λo=>e (Rj i j hi hj s F o).symm)]
   ·subst G;exact b 4 (λH=>by have:=D H.symm;rw[g]at this;cases this)
 ·by_cases e:j=i;·subst e;exact(t r).2
  ·rw[b j e];exact dw (h.lt j r (c j e m)) hb.size
 ·by_cases e:j=i
  ·subst e;rw[b k (jR u)];have I:=(t hj).1;have J:=h.lt k f (c k (jR u) y);omega
  ·by_cases o:k=i
   ·subst o;rw[b j e];have I:=(t f).1;have J:=h.lt j hj (c j e g);omega
   ·rw[b j e,b k o];exact h.ne j k hj f (c j e g) (c k o y) u
 ·show(L k||k==i)=true;by_cases e:j=i;·subst e;rw[hd k f];rfl
  ·rw[h.cl j hj (c j e m) k f];rfl
open Classical in
theorem Cx.ins{p:EP}{a0 a:Act}{l w:World}{bk:Nat->Nat}{L:Nat->Bool}(h:Cx p a0 l bk L a w)(m:L 4=true)(y:L 6=true)(o:L 7=false)(b:p.key.size<=maxLen):
 ∃w',(Instr.mapUpdate 91 (.map (some (bk 4))) (.string p.key) (.int .i64 0)).run Tryz.prog w=.ok () w'/\Cx p a0 l bk (λj=>L j||j==7) a w':=by
 obtain⟨t1,t2,n,F,z,M,r,u⟩:=h.fact 4 aar m;rw[o]at r u;obtain⟨w',A,B,s⟩:=z.put vX oh (by have:=r rfl;unfold maxLen;omega) (Ih p.key b) (K7 p.key) (.int .i64 0);have c:∀n,n≠7->(L n||n==7)=true->L n=true:=λn C d=>by
  rcases Bool.or_eq_true_iff.1 d with d|d;·exact d
  ·exact absurd (by simpa using d) C
 have N:L 8=false:=by
  cases D:L 8 with
  |false=>rfl
  |true=>have:=h.d8 D;rw[o]at this;cases this
 have O:=h.lt 4 rfl m;refine⟨w',A,h.size,h.defs,h.same,h.below.grown s h.below.size (λq t=>by rw[<-aB t];exact t2),λj hj f=>?_,λj g f=>?_,λj k hj b i E G=>?_,λj hj f k b=>?_⟩
 ·show E8 p l.heap.size bk (L 7||7==7) j _ _;by_cases v:j=7;·subst v;trivial
  ·have i:=c j v f;by_cases x:j=4
   ·subst x;refine⟨t1,t2,n+1,λq=>if q=zZ p.key then some (.int .i64 0) else F q,B _ (aJ rfl) (λq t=>aH t),aaz (r rfl),λe=>?_,λk=>?_⟩;·rw[o]at e;cases e
    ·rw[o];show(if zZ k=zZ p.key then some _ else F (zZ k)).isSome=(true&&decide (p.key=k));by_cases e:zZ k=zZ p.key
     ·rw[aJ e];have:=Gv e;subst this;simp
     ·rw[aH e,u k];have:¬p.key=k:=λH=>e (by rw[H]);simp[this]
   ·have I:E8 p l.heap.size bk (L 7||7==7) j a.tmps w:=by
     have J:=h.fact j hj i;have K:j=0\/j=1\/j=2\/j=3\/j=5\/j=6\/j=8\/j=9\/j=10:=aar;rcases K with rfl|rfl|rfl|rfl|rfl|rfl|rfl|rfl|rfl<;>exact J
    refine I.aR j hj (λ_=>rfl) rfl (λ_=>rfl) (λg=>s.block _ (h.lt j g i) (λe=>?_));exact h.ne j 4 g rfl i m x (aB e)
 ·exact dw (h.lt j g (c j (OU g).2.1 f)) s.size
 ·exact h.ne j k hj b (c j (OU hj).2.1 i) (c k (OU b).2.1 E) G
 ·show(L k||k==7)=true;by_cases e:j=7
  ·subst e;have:k=4\/k=6:=(by simpa[TM]using b);rcases this with rfl|rfl;·rw[m];rfl
   ·rw[y];rfl
  ·rw[h.cl j hj (c j e f) k b];rfl
structure EB (p:EP) (w0:World) (bk:Nat->Nat) (w:World):Prop where
 below:Below w0.heap.size w0 w
 b3:w0.heap.size<=bk 3/\gU w (bk 3) 88 p.jc
 b4:w0.heap.size<=bk 4/\∃n F,qK Tryz.prog 9 w (bk 4) n F/\n<=1/\∀k:ByteArray,(F (zZ k)).isSome=decide (p.key=k)
 b9:w0.heap.size<=bk 9/\qK Tryz.prog 99 w (bk 9) 0 (λ_=>none)
 Qb:w0.heap.size<=bk 10/\qK Tryz.prog 9 w (bk 10) 0 (λ_=>none)
 ne:bk 3≠bk 4/\bk 3≠bk 9/\bk 3≠bk 10/\bk 4≠bk 9/\bk 4≠bk 10/\bk 9≠bk 10
theorem EB.ag{p:EP}{a w w':World}{bk:Nat->Nat}(h:EB p a bk w)(hb:Below w.heap.size w w'):EB p a bk w':=by
 obtain⟨n,F,b,c⟩:=h.b4.2;exact⟨h.below.t (hb.m h.below.size),⟨h.b3.1,h.b3.2.ag hb⟩,⟨h.b4.1,n,F,b.ag hb,c⟩,⟨h.b9.1,h.b9.2.ag hb⟩,⟨h.Qb.1,h.Qb.2.ag hb⟩,h.ne⟩
def Z6(p:EP)(bk:Nat->Nat):Value:=.agg #[.slice p.As p.n p.cs,.slice (some ⟨bk 3,0,none⟩) 1 1,.map (some (bk 4)),.bool true,.map (some (bk 9)),.map (some (bk 10))]
def YG(p:EP)(bk:Nat->Nat):List Value:=[.slice p.As p.n p.cs,.slice (some ⟨bk 3,0,none⟩) 1 1,.map (some (bk 4)),.bool true,.map (some (bk 9)),.map (some (bk 10))]
structure XA (a0 a:Act):Prop where
 size:a.tmps.size=a0.tmps.size
 defs:a.defers=a0.defers
 same:∀j,j<28\/39<j->a.tmps[j]?=a0.tmps[j]?
def Xd(p:EP)(a0:Act)(b:World)(a:Act)(w:World):Prop:=
 ∃(c:Act) (bk:Nat->Nat) (g:Nat),a=c.put (some 8) (.pointer (some ⟨g,0,none⟩))/\XA a0 c/\EB p b bk w/\gU w g 95 (YG p bk)/\b.heap.size<=g/\bk 3<g/\bk 4<g/\bk 9<g/\bk 10<g
def EI(p:EP)(a0:Act)(b:World)(L:Nat->Bool)(a:Act)(w:World):Prop:=
 (L 11=false/\L 12=false/\L 13=false/\∃bk,Cx p a0 b bk L a w)\/
 (L 12=false/\L 13=false/\(∀i,i<12->L i=true)/\∃bk,XA a0 a/\EB p b bk w/\a.tmps[38]?=some (Z6 p bk))\/
 (L 13=false/\(∀i,i<13->L i=true)/\∃bk g,XA a0 a/\EB p b bk w/\a.tmps[39]?=some (.pointer (some ⟨g,0,none⟩))/\gU w g 95 (YG p bk)/\b.heap.size<=g/\bk 3<g/\bk 4<g/\bk 9<g/\bk 10<g)\/
 ((∀i,i<14->L i=true)/\Xd p a0 b a w)
theorem KF(bk:Nat->Nat)(i q:Nat):∀j,j≠i->(λz=>if z=i then q else bk z) j=bk j:=λ_ hj=>aH hj
theorem acJ{p:Prop}(h:p:=by
 have b:=aB (c.symm.t (show opsE[13]?=some ⟨_,_,_,_,_,_⟩from rfl));subst b;have:=f { on:=12,ground:=.data } aau rfl;rw[u]at this;cases this):p:=h
theorem Vj{Q:Exit->Act->World->Prop}(p:EP)(B:Nat)(a0:Act)(q:World)(hs0:40<=a0.tmps.size)(h0:a0.tmps[0]?=some (.slice p.As p.n p.cs))(H:a0.tmps[6]?=some (.pointer (some ⟨B,0,none⟩)))(c0:q.cell? ⟨B,0,none⟩=some (.slice p.Ax p.lx p.cx))(c1:q.cell? ⟨B,1,none⟩=some (.slice p.Bx p.kx p.dx))
 (O:∀W,Below q.heap.size q W->Calls Tryz.prog 46 #[.agg #[.slice p.Ax p.lx p.cx,.slice p.Bx p.kx p.dx]] W λe w'=>e=.returned (.string p.key)/\Below W.heap.size W w') (P:p.key.size<=maxLen)
 (R:∀a w,Xd p a0 q a w->Q .normal a w):(Code.region 4 opsE true).wp Tryz.prog Q a0 q:=by
 refine Jw aas (EI p a0 q) Sb (.inl ⟨rfl,rfl,rfl,_,Cx.start p a0 q⟩) ?_ ?_
 ·intro L a w i o C c d f K l;have hi:i<14:=(by have:=(aW.1 c).1;rw[BN]at this;exact this);rcases C with⟨A,u,x,bk,hM⟩|⟨u,x,m,bk,y,t,I⟩|⟨x,m,bk,g,y,t,ay,S⟩|⟨m,_⟩
  ·have hw:∀j,10<j->j<14->L j=false:=λj h1 h2=>by
    have:j=11\/j=12\/j=13:=aar;rcases this with rfl|rfl|rfl<;>assumption
   have r:∀(k:Nat) (a':Act) (w':World) (D:Nat->Nat),k<11->Cx p a0 q D (λj=>L j||j==k) a' w'->EI p a0 q (λj=>L j||j==k) a' w':=λk a' w' D T h=>
    .inl ⟨by show(L 11||11==k)=false;rw[A,aD.2 aaF];rfl,by show(L 12||12==k)=false;rw[u,aD.2 aaF];rfl,by show(L 13||13==k)=false;rw[x,aD.2 aaF];rfl,D,h⟩
   have s:=aa (show ∀k,k<40->k<a.tmps.size from λk T=>by rw[hM.size];omega);have U:i=0\/i=1\/i=2\/i=3\/i=4\/i=5\/i=6\/i=7\/i=8\/i=9\/i=10\/i=11\/i=12\/i=13:=aar;rcases U with rfl|rfl|rfl|rfl|rfl|rfl|rfl|rfl|rfl|rfl|rfl|rfl|rfl|rfl
   ·have b:=aB (c.symm.t (show opsE[0]?=some ⟨_,_,_,_,_,_⟩from rfl));subst b;have t1:=(hM.same 0 aar).t h0;go_simp;exact l _ _ (r 0 _ _ bk aar (hM.step hs0 0 aar aar d bk (λ_ _=>rfl) _ (aC _ _) ((tC (s.o 28 aar) 28).t (aJ rfl)) (λh=>by cases h) (λ_ h=>absurd h eX)))
   ·have b:=aB (c.symm.t (show opsE[1]?=some ⟨_,_,_,_,_,_⟩from rfl));subst b;have t1:=(hM.same 6 aar).t H;obtain⟨x0,V⟩:=aaj hM.below c0 c1;go_simp;exact l _ _ (r 1 _ _ bk aar (hM.step hs0 1 aar aar d bk (λ_ _=>rfl) _ (aC _ _) ((tC (s.o 29 aar) 29).t (aJ rfl)) (λh=>by cases h) (λ_ h=>absurd h eX)))
   ·have b:=aB (c.symm.t (show opsE[2]?=some ⟨_,_,_,_,_,_⟩from rfl));subst b;have d1:L 1=true:=f { on:=1,ground:=.data } aau rfl;have t1:a.tmps[29]?=some _:=hM.fact 1 aar d1;go_simp;exact l _ _ (r 2 _ _ bk aar (hM.step hs0 2 aar aar d bk (λ_ _=>rfl) _ (aC _ _) ((tC (s.o 30 aar) 30).t (aJ rfl)) (λh=>by cases h) (λj hj=>by rw[bD.1 hj];exact d1)))
   ·have b:=aB (c.symm.t (show opsE[3]?=some ⟨_,_,_,_,_,_⟩from rfl));subst b;have d2:L 2=true:=f { on:=2,ground:=.data } aau rfl;have t1:a.tmps[30]?=some _:=hM.fact 2 aar d2;go_simp;exact l _ _ (r 3 _ _ (λj=>if j=3 then w.heap.size else bk j) aar (hM.step hs0 3 aar aar d _ (KF bk 3 _) _ (ae w _) ⟨(tC (s.o 31 aar) 31).t (aJ rfl),hM.below.size,gU.new w p.jc _⟩ (λ_=>⟨ax _,by rw[aK];exact dF _⟩) (λj hj=>by rw[bD.1 hj];exact d2)))
   ·have b:=aB (c.symm.t (show opsE[4]?=some ⟨_,_,_,_,_,_⟩from rfl));subst b;have X:L 7=false:=by
     cases Y:L 7 with
     |false=>rfl
     |true=>have:=hM.d7 Y;rw[d]at this;cases this
    have J:Sem.run Tryz.prog (Instr.makeMap 91 none) w=.ok (.map (some w.heap.size)) (w.alloc (.map #[] 0)):=rfl;go_simp;exact l _ _ (r 4 _ _ (λj=>if j=4 then w.heap.size else bk j) aar (hM.step hs0 4 aar aar d _ (KF bk 4 _) _ (ae w _) ⟨(tC (s.o 32 aar) 32).t (aJ rfl),hM.below.size,0,_,qK.made w _ _,aT _,λ_=>rfl,λk=>by rw[X];rfl⟩ (λ_=>⟨ax _,by rw[aK];exact dF _⟩) (λ_ h=>absurd h eX)))
   ·have b:=aB (c.symm.t (show opsE[5]?=some ⟨_,_,_,_,_,_⟩from rfl));subst b;have t1:=(hM.same 6 aar).t H;obtain⟨x0,V⟩:=aaj hM.below c0 c1;go_simp;exact l _ _ (r 5 _ _ bk aar (hM.step hs0 5 aar aar d bk (λ_ _=>rfl) _ (aC _ _) ((tC (s.o 33 aar) 33).t (aJ rfl)) (λh=>by cases h) (λ_ h=>absurd h eX)))
   ·have b:=aB (c.symm.t (show opsE[6]?=some ⟨_,_,_,_,_,_⟩from rfl));subst b;have d5:L 5=true:=f { on:=5,ground:=.data } aau rfl;have t1:a.tmps[33]?=some _:=hM.fact 5 aar d5;go_simp;go_at_call 46;refine(O _ hM.below).m ?_;rintro e w' ⟨rfl,hb⟩;exact l _ _ (r 6 _ _ bk aar (hM.step hs0 6 aar aar d bk (λ_ _=>rfl) _ hb ((tC (s.o 34 aar) 34).t (aJ rfl)) (λh=>by cases h) (λj hj=>by rw[bD.1 hj];exact d5)))
   ·have b:=aB (c.symm.t (show opsE[7]?=some ⟨_,_,_,_,_,_⟩from rfl));subst b;have d4:L 4=true:=f { on:=4,ground:=.data } aau rfl;have d6:L 6=true:=f { on:=6,ground:=.data } aau rfl;have t1:=(hM.fact 4 aar d4).1;have t2:a.tmps[34]?=some _:=hM.fact 6 aar d6;obtain⟨w',M,Z⟩:=hM.ins d4 d6 d P;have az:(Instr.mapUpdate 91 (.map (some (bk 4))) (.string p.key) (.int .i64 0)).run Tryz.prog w=.ok () w':=M;clear M;go_simp;exact l _ _ (r 7 _ _ bk aar Z)
   ·have b:=aB (c.symm.t (show opsE[8]?=some ⟨_,_,_,_,_,_⟩from rfl));subst b;have d4:L 4=true:=f { on:=4,ground:=.data } aau rfl;have d5:L 5=true:=f { on:=5,ground:=.data } aau rfl;have d6:L 6=true:=f { on:=6,ground:=.data } aau rfl;have d7:L 7=true:=f { on:=7,ground:=.data } aau rfl;have t1:=(hM.fact 4 aar d4).1;have ah:∀j∈TM 8,L j=true:=λj hj=>by
     have:j=4\/j=5\/j=6\/j=7:=(by simpa[TM]using hj);rcases this with rfl|rfl|rfl|rfl<;>assumption
    go_simp;exact l _ _ (r 8 _ _ bk aar (hM.step hs0 8 aar aar d bk (λ_ _=>rfl) _ (aC _ _) ((tC (s.o 35 aar) 35).t (aJ rfl)) (λh=>by cases h) ah))
   ·have b:=aB (c.symm.t (show opsE[9]?=some ⟨_,_,_,_,_,_⟩from rfl));subst b;have J:Sem.run Tryz.prog (Instr.makeMap 92 none) w=.ok (.map (some w.heap.size)) (w.alloc (.map #[] 0)):=rfl;go_simp;exact l _ _ (r 9 _ _ (λj=>if j=9 then w.heap.size else bk j) aar (hM.step hs0 9 aar aar d _ (KF bk 9 _) _ (ae w _) ⟨(tC (s.o 36 aar) 36).t (aJ rfl),hM.below.size,qK.made w _ _⟩ (λ_=>⟨ax _,by rw[aK];exact dF _⟩) (λ_ h=>absurd h eX)))
   ·have b:=aB (c.symm.t (show opsE[10]?=some ⟨_,_,_,_,_,_⟩from rfl));subst b;have J:Sem.run Tryz.prog (Instr.makeMap 93 none) w=.ok (.map (some w.heap.size)) (w.alloc (.map #[] 0)):=rfl;go_simp;exact l _ _ (r 10 _ _ (λj=>if j=10 then w.heap.size else bk j) aar (hM.step hs0 10 aar aar d _ (KF bk 10 _) _ (ae w _) ⟨(tC (s.o 37 aar) 37).t (aJ rfl),hM.below.size,qK.made w _ _⟩ (λ_=>⟨ax _,by rw[aK];exact dF _⟩) (λ_ h=>absurd h eX)))
   ·have b:=aB (c.symm.t (show opsE[11]?=some ⟨_,_,_,_,_,_⟩from rfl));subst b;have d0:L 0=true:=f { on:=0,ground:=.data } aau rfl;have d3:L 3=true:=f { on:=3,ground:=.data } aau rfl;have d8:L 8=true:=f { on:=8,ground:=.data } aau rfl;have d9:L 9=true:=f { on:=9,ground:=.data } aau rfl;have d10:L 10=true:=f { on:=10,ground:=.data } aau rfl;have d7:=hM.d8 d8;have d2:=hM.cl 3 aar d3 2 aat;have m:∀j,j<12->(L j||j==11)=true:=λj hj=>by
     have:j=0\/j=1\/j=2\/j=3\/j=4\/j=5\/j=6\/j=7\/j=8\/j=9\/j=10\/j=11:=aar;rcases this with rfl|rfl|rfl|rfl|rfl|rfl|rfl|rfl|rfl|rfl|rfl|rfl;·rw[d0];rfl
     ·rw[hM.cl 2 aar d2 1 abe];rfl
     ·rw[d2];rfl
     ·rw[d3];rfl
     ·rw[hM.cl 8 aar d8 4 abe];rfl
     ·rw[hM.cl 8 aar d8 5 abe];rfl
     ·rw[hM.cl 8 aar d8 6 abe];rfl
     ·rw[d7];rfl
     ·rw[d8];rfl
     ·rw[d9];rfl
     ·rw[d10];rfl
     ·simp
    have d4:=hM.d7 d7;have f0:a.tmps[28]?=some _:=hM.fact 0 aar d0;obtain⟨f3,g3,b3⟩:=hM.fact 3 aar d3;obtain⟨f4,g4,nn,F,E,m2,m3,N⟩:=hM.fact 4 aar d4;have f8:a.tmps[35]?=some _:=hM.fact 8 aar d8;obtain⟨f9,g9,b9⟩:=hM.fact 9 aar d9;obtain⟨f10,ak,Qb⟩:=hM.fact 10 aar d10;rw[d7]at N;have t:EB p q bk w:=⟨hM.below,⟨g3,b3⟩,⟨g4,nn,F,E,m2,λk=>by rw[N k,lu]⟩,⟨g9,b9⟩,⟨ak,Qb⟩,hM.ne 3 4 rfl rfl d3 d4 aar,hM.ne 3 9 rfl rfl d3 d9 aar,hM.ne 3 10 rfl rfl d3 d10 aar,hM.ne 4 9 rfl rfl d4 d9 aar,hM.ne 4 10 rfl rfl d4 d10 aar,hM.ne 9 10 rfl rfl d9 d10 aar⟩;have z:=aa (λv j=>tC (a:=a) (k:=38) (v:=v) (s.o 38 aar) j);go_simp;exact l _ _ (.inr (.inl ⟨by show(L 12||12==11)=false;rw[u];rfl,by show(L 13||13==11)=false;rw[x];rfl,m,bk,⟨by simp only[iO];exact hM.size,hM.defs,λj hj=>(z.o _ j).t (by rw[aH aaF];exact hM.same j hj)⟩,t,(z.o _ 38).t (aJ rfl)⟩))
   ·have b:=aB (c.symm.t (show opsE[12]?=some ⟨_,_,_,_,_,_⟩from rfl));subst b;have:=f { on:=11,ground:=.data } aau rfl;rw[A]at this;cases this
   ·exact acJ
  ·have G:i=12\/i=13:=by
    rcases bX i 12 with h|h;·rw[m i h]at d;cases d
    ·omega
   rcases G with rfl|rfl
   ·have b:=aB (c.symm.t (show opsE[12]?=some ⟨_,_,_,_,_,_⟩from rfl));subst b;have t38:a.tmps[38]?=some (.agg #[.slice p.As p.n p.cs,.slice (some ⟨bk 3,0,none⟩) 1 1,.map (some (bk 4)),.bool true,.map (some (bk 9)),.map (some (bk 10))]):=I;have z:=aa (λv j=>tC (a:=a) (k:=39) (v:=v) (by rw[y.size];omega) j);have hb:=ae w (.cells (YG p bk).toArray 95);obtain⟨_,F,E,_⟩:=t.b4.2;have av:=t.ag hb;have l3:=t.b3.2.lt;have l4:=E.lt;have l9:=t.b9.2.lt;have l10:=t.Qb.2.lt;clear I;go_simp;exact l _ _ (.inr (.inr (.inl ⟨by show(L 13||13==12)=false;rw[x];rfl,λj hj=>by
     rcases bX j 12 with h|h
     ·show(L j||j==12)=true;rw[m j h];rfl
     ·obtain rfl:j=12:=aar;simp,bk,w.heap.size,⟨by simp only[iO];exact y.size,y.defs,λj hj=>(z.o _ j).t (by rw[aH aaF];exact y.same j hj)⟩,av,(z.o _ 39).t (aJ rfl),gU.new w (YG p bk) _,t.below.size,l3,l4,l9,l10⟩)))
   ·exact acJ
  ·have G:i=13:=by
    rcases bX i 13 with h|h;·rw[m i h]at d;cases d
    ·omega
   subst G;have b:=aB (c.symm.t (show opsE[13]?=some ⟨_,_,_,_,_,_⟩from rfl));subst b;go_simp;exact l _ _ (.inr (.inr (.inr ⟨λj hj=>by
    rcases bX j 13 with h|h
    ·show(L j||j==13)=true;rw[m j h];rfl
    ·obtain rfl:j=13:=aar;simp,a,bk,g,rfl,y,t,S⟩)))
  ·rw[m i hi]at d;cases d
 ·intro L a w m C;rcases C with⟨A,_⟩|⟨u,_⟩|⟨x,_⟩|⟨_,hd⟩
  ·have:=m 11 (by rw[BN];omega);rw[A]at this;cases this
  ·have:=m 12 (by rw[BN];omega);rw[u]at this;cases this
  ·have:=m 13 (by rw[BN];omega);rw[x]at this;cases this
  ·exact R a w hd
theorem Yu{p:EP}{a w:World}{s:List iN}{x0:jf}{bk:Nat->Nat}{g:Nat}(h:EB p a bk w)(j:gU w g 95 (YG p bk))(l:a.heap.size<=g/\bk 3<g/\bk 4<g/\bk 9<g/\bk 10<g)
 (c:x0.aO.length=p.lx) (d:x0.bF.length=p.kx) (m:jU Da ku a (.slice p.Ax p.lx p.cx) x0.aO) (o:jU oC ku a (.slice p.Bx p.kx p.dx) x0.bF) (q:p.key.data.toList=aQ.iT x0):
 kN mM s (.slice p.As p.n p.cs) a.heap.size g (bk 4) (bk 9) (bk 10) 0 0 w (.slice (some ⟨bk 3,0,none⟩) 1 1) ⟨[⟨x0,0,⟨0,qz⟩⟩],true,[]⟩ [aQ.iT x0]:=by
 obtain⟨r,N,O,P,l10⟩:=l;obtain⟨t,v,n310,x,y,z⟩:=h.ne;obtain⟨A,F,B,C,D⟩:=h.b4.2;have Q:=h.b3.1;have E:=h.b4.1;have G:=h.b9.1;have H:=h.Qb.1;have f:∀b,jT a.heap.size b=true->b<a.heap.size->off (uw g (bk 4) (bk 9) (bk 10) (.slice (some ⟨bk 3,0,none⟩) 1 1)) (some (bk 3)) b=true/\w.heap[b]?=a.heap[b]?:=λb _ I=>
  ⟨dL.2 ⟨nN.2 ⟨rfl,aar,aar,aar,aar,λe=>by have J:bk 3=b:=aB e;omega⟩,λe=>by have J:bk 3=b:=aB e;omega⟩,h.below.block b I⟩
 have K:=m.low.aR f;have L:=o.low.aR f;refine⟨j,⟨[p.jc],El.all.push El.all.nil ⟨aT _,aT _,p.Ax,p.cx,p.Bx,p.dx,none,0,?_,?_,?_,?_⟩,Iw h.b3.2 rfl h.b3.1⟩,⟨A,F,B,C,λk=>?_⟩,⟨0,_,h.Qb.2,aT _,λk u e=>by cases e⟩,⟨0,_,h.b9.2,aT _,λi k _ _=>rfl⟩,⟨r,E,G,H⟩,⟨aar,aar,aar,x,y,z⟩,λk M=>?_,λ_ _=>rfl,λ_ _=>rfl⟩
 ·show p.jc=_;rw[c,d];rfl
 ·rw[c];exact K
 ·rw[d];exact L
 ·exact(jU.nil oC _ _).term 0 ⟨#[]⟩ aar aat
 ·rw[D k,<-q];have:(p.key=k)<->(p.key.data.toList=k.data.toList):=⟨λe=>by rw[e],λe=>T.G6 (by rw[iR,iR];exact e)⟩;simp[this]
 ·have e:bk 3=k:=aB M;rw[<-e];exact⟨aar,t,v,n310⟩
end
section
open Go.RowKit Go.Maps T
attribute [local go_sem ↓] Go.wp_at_zero Go.wp_at_succ
theorem NV{s:List iN}{f i:Nat}{v:aQ.xH}{p:aQ.LU}(a:v.jc[i]?=some p):aQ.search s (f+1) i v=aQ.search s f (i+1) ((aQ.gB s p.x).foldl (aQ.turn s i) v):=by
 simp only[aQ.search,a]
theorem NW{s:List iN}{f i:Nat}{v:aQ.xH}(h:v.jc.length<=i):aQ.search s f i v=v:=by
 cases f with
 |zero=>rfl
 |succ f=>simp only[aQ.search,gD h]
theorem Md{s:List iN}{x:jf}(h:JA s x):(aQ.gB s x).length<=4000*s.length:=yj h s.length
abbrev Xp(v:aQ.xH):List (List UInt8):=v.jc.map λq=>aQ.iT q.x
def Vy:El (List mg) where
 ty:=57
 size:=1
 fF S w xs l:=∃A c,xs=[.slice A l.length c]/\jU zG S w (.slice A l.length c) l
 len:=λ⟨_,_,e,_⟩=>by rw[e];rfl
 one:=λ⟨_,_,e,_⟩ u hu=>by rw[e]at hu;simp at hu;rw[hu];rfl
 aR:=λ⟨A,c,a,b⟩ d=>⟨A,c,a,b.aR d⟩
 pos:=by decide
theorem Tryz.YX:(Tryz.prog.info? 57).map (λi=>(i.zero,i.size,i.bytes))=some (some (.slice none 0 0),1,24):=by kernel_rfl
theorem fZ.ZL{S:Nat->Bool}{base g:Nat}{w w':World}{v:Value}{L:List (List mg)}(h:fZ Vy S base w v L)(m:∀i s,w.cell? ⟨g,i,none⟩≠some (.string s))(t:g<base)(f:∀b,b≠g->w'.heap[b]?=w.heap[b]?):jU Vy ku w' v L:=by
 obtain⟨dE,k,d⟩:=h;have n:Vy.all ku w' dE L:=⟨k.1,λi a b=>by
  obtain⟨A,c,e,o⟩:=k.2 i a b;exact⟨A,c,e,o.ZG ⟨m,λb hb _ _=>⟨rfl,f b hb⟩⟩⟩⟩
 have x:=d.lt;rcases d.2 with⟨rfl,h0⟩|⟨q,cap,y,rfl,z,_,p,r,_⟩;·exact⟨none,0,by rw[h0],aar,aT _,.inl h0⟩
 ·refine⟨_,cap,rfl,p,r,.inr ⟨q,0,dE,rfl,rfl,n,λj u hu=>?_⟩⟩;have l:=d.cells (g:=q) rfl j u hu;rw[cz]at l;exact(dB (f q aar)).t l
theorem gU.We{w:World}{g:Nat}{ty:TypeId}{a:Int}{b:Bool}{A:Option Addr}{n c:Nat}(h:gU w g ty [.int .i64 a,.bool b,.slice A n c]):∀i s,w.cell? ⟨g,i,none⟩≠some (.string s):=λi s e=>by
 have h':=h;unfold gU at h';unfold World.cell? at e;rw[h']at e
 match i,e with
 |0,e=>cases e
 |1,e=>cases e
 |2,e=>cases e
 |i+3,e=>simp at e
theorem Ve(w:World)(g:Nat)(x y z:Value)(b:Nat)(h:b≠g):(((w.setCell ⟨g,0,none⟩ x).setCell ⟨g,1,none⟩ y).setCell ⟨g,2,none⟩ z).heap[b]?=w.heap[b]?:=
 (aL _ _ _ _ h).t ((aL _ _ _ _ h).t (aL _ _ _ _ h))
theorem kN.X4{X:Nat->Bool}{s:List iN}{sv:Value}{B g Mn Ma Mg N NA:Nat}{w:World}{fv:Value}{v:aQ.xH}{KS:List (List UInt8)}(h:kN X s sv B g Mn Ma Mg N NA w fv v KS){i k:Nat}(hi:i<=1048576)(d:k<=1048576):∃(A:Option Addr) (n c:Nat),(∀W,Below w.heap.size w W->(Instr.lookup 92 (.map (some Ma)) (.agg #[.int .i64 i,.int .i64 k]) true).run Tryz.prog W=.ok (.tuple #[.slice A n c,.bool (v.oo.lookup (i,k)).isSome]) W)/\∀l,v.oo.lookup (i,k)=some l->jU zG (sx X g Mn Ma Mg fv) w (.slice A n c) l:=by
 obtain⟨n,F,j,r,m⟩:=h.oo;have b:=m i k hi d;cases a:v.oo.lookup (i,k)with
 |none=>
  rw[a]at b;refine⟨none,0,0,λW f=>?_,λl e=>by cases e⟩;have a:=(j.ag f).look_ok Ae om (z:=.slice none 0 0) (o8 W) (MS hi d);rw[a,b];rfl
 |some l=>
  rw[a]at b;obtain⟨u,o,A,c,rfl,p⟩:=b;refine⟨A,l.length,c,λW f=>?_,λq e=>?_⟩
  ·have a:=(j.ag f).look_ok Ae om (z:=.slice none 0 0) (o8 W) (MS hi d);rw[a,o];rfl
  ·obtain rfl:l=q:=abb;exact⟨A,c,rfl,p⟩
def BV(v:aQ.xH)(a k:Nat):List (List mg):=(List.range k).filterMap λk=>v.oo.lookup (a,k)
theorem JG(v:aQ.xH)(a k:Nat):BV v a (k+1)=BV v a k++(v.oo.lookup (a,k)).toList:=by
 unfold BV;rw[lX,List.filterMap_append];cases h:v.oo.lookup (a,k)<;>simp[h]
def zB(s:List iN)(v:aQ.xH)(a:Nat):List (List mg):=(List.range a).flatMap λi=>BV v i (((s[i]?).map λx=>x.2.length).getD 0)
theorem JF(s:List iN)(v:aQ.xH)(a:Nat):zB s v (a+1)=zB s v a++BV v a (((s[a]?).map λx=>x.2.length).getD 0):=by
 unfold zB;rw[lX,jA];simp
theorem LX(v:aQ.xH)(a k:Nat):(BV v a k).length<=k:=aG (List.length_filterMap_le _ _) aau
theorem LW{s:List iN}(h:zl s)(v:aQ.xH):∀a,(zB s v a).length<=16*a
 |0=>by simp[zB]
 |a+1=>by
  have b:=LW h v a;have c:=LX v a (((s[a]?).map λx=>x.2.length).getD 0);have d:((s[a]?).map λx=>x.2.length).getD 0<=16:=by
   cases e:s[a]? with
   |none=>exact aT _
   |some x=>exact h.ml x (dA e)
  rw[JF,aF];omega
def Bh(s:List iN)(K:List T)(w:World)(e:Ending)(w':World):Prop:=
 ∃A c,e=.returned (.tuple #[.agg #[.int .i64 (aQ.ni s K).jc.length,.bool (aQ.ni s K).all,.slice A (aQ.wU s (aQ.ni s K)).length c],.int .i64 0])/\jU Vy ku w' (.slice A (aQ.wU s (aQ.ni s K)).length c) (aQ.wU s (aQ.ni s K))/\Below w.heap.size w w'
theorem UE(s:List iN)(K:List T)(vs:Value)(A:Option Addr)(cap:Nat)(w:World)(hs:sw w vs s)(L:iY w A cap K)(bP:zl s)(aX:S9 s K)(U:∀x∈s,x.1.size<=maxLen/\x.2.length<=maxLen/\∀m∈x.2,m.2.bE<=1048576)
 (fu:∀t∈K,t.bE<=1048576) (av:K.length<=1048576) (bQ:aQ.nW s K=0) (fB:aQ.moves s<=1048576):
 Calls Tryz.prog 16 #[vs,.slice A K.length cap] w (Bh s K w):=by
 obtain⟨As,cs,rfl,iw,kg,-⟩:=id hs;obtain⟨n,hn⟩:=aay s.length;obtain⟨kn,O⟩:=aay K.length;have aY:=ae w (.cells #[.int .i64 0,.bool false,.slice none 0 0] 47);obtain⟨dh,iy,dm,bR⟩:=aad (hs.ag aY) (L.ag aY) aY (gU.new w [.int .i64 0,.bool false,.slice none 0 0] 47);obtain⟨x0,dn⟩:=aay (aQ.iJ s K);have dw:=aa dn;have bB:=aa (show Calls Tryz.prog 11 #[.slice As s.length cs,.slice A K.length cap] (w.alloc (.cells #[.int .i64 0,.bool false,.slice none 0 0] 47)) (λe w'=>∃v,e=.returned (.tuple #[v,.int .i64 0])/\mV (dP (w.alloc (.cells #[.int .i64 0,.bool false,.slice none 0 0] 47)).heap.size) w' v x0/\Below (w.alloc (.cells #[.int .i64 0,.bool false,.slice none 0 0] 47)).heap.size (w.alloc (.cells #[.int .i64 0,.bool false,.slice none 0 0] 47)) w')from
  (Ux s K (.slice As s.length cs) A cap (w.alloc (.cells #[.int .i64 0,.bool false,.slice none 0 0] 47)) (hs.ag aY).strs (L.ag aY) U fB (aaz bP.sl) fu av).m λe w' h=>by
    obtain⟨u,V,h2,h3⟩:=h;have P:Q3 s K=x0:=(by unfold Q3;rw[aJ bQ];exact dn);rw[P]at h2;exact⟨u,by rw[V,bQ],h2,h3⟩)
 obtain⟨HN,ko,aD,dz,kr⟩:=aae hn O bP aX bQ;have ku:n<=16:=(aaz bP.sl);rw[hn]at bB dh iw⊢;rw[O]at bB⊢;clear hs L U fu av bQ fB bP aX aY hn O dn;go_enter Tryz.func16,Tryz.ntmps16;go_upto_region 1 with fail;generalize w.alloc _=w1 at dh iy dm bB bR⊢;obtain⟨o,bS⟩:=aay w.heap.size;rw[bS]at bR⊢;have iA:=aa bS;clear bS;go_wp2_with fail;refine bB.o.m ?_;rintro e w2 ⟨u2,rfl,iB,bT⟩;obtain⟨Ax,cx,Bx,dx,rfl,aZ,O⟩:=iB;obtain⟨lx,dB⟩:=aay x0.aO.length;obtain⟨kx,dF⟩:=aay x0.bF.length;obtain⟨bg,dH⟩:=aab dB dF;rw[dB]at aZ⊢;rw[dF]at O⊢;have bD:=ae w2 (.cells #[.slice Ax lx cx,.slice Bx kx dx] 35);have aG:=gU.new w2 [.slice Ax lx cx,.slice Bx kx dx] 35;change gU (w2.alloc (.cells #[.slice Ax lx cx,.slice Bx kx dx] 35)) w2.heap.size _ _ at aG;obtain⟨dI,dJ,bG,bU⟩:=aad (aZ.any.ag bD) (O.any.ag bD) (bT.t (bD.m bT.size)) ((dh.o.ag bT).ag bD);clear aZ O bT bD dB dF bB;go_upto_region 4 with fail;generalize w2.alloc _=w3 at aG dI dJ bG bU⊢;generalize w2.heap.size=q1 at aG⊢;go_cut [8]from 28 to 39 (λpv wc=>∃g Mn Ma Mg fv,pv=.pointer (some ⟨g,0,none⟩)/\kN mM s (.slice As n cs) w3.heap.size g Mn Ma Mg 0 0 wc fv ⟨[⟨x0,0,⟨0,qz⟩⟩],true,[]⟩ [aQ.iT x0]/\Below w3.heap.size w3 wc)
 case first=>
  have fD:=aa (show Cf x0 from((dz.o x0 (by rw[<-dw.o];exact Reach.begin s K)).txt aD.o));show Code.wp Tryz.prog (Code.region 4 opsE true) _ _ _;refine Vj ⟨As,n,cs,Ax,lx,cx,Bx,kx,dx,⟨(aQ.iT x0).toArray⟩⟩ q1 _ _ (lQ rfl) rfl rfl (aG.cell 0 rfl) (aG.cell 1 rfl) ?tx ?ky ?fin
  case tx=>
   intro W hW;refine GG x0 _ W fD.o ⟨Ax,cx,Bx,dx,by rw[bg.o,dH.o],?_,?_⟩;·rw[bg.o];exact dI.o.ag hW
   ·rw[dH.o];exact dJ.o.ag hW
  case ky=>
   have V:=fD.o.len;show(aQ.iT x0).toArray.size<=maxLen;rw[List.size_toArray];unfold maxLen;omega
  case fin=>
   intro a wm hd;obtain⟨a1,bk,g,rfl,bV,dM,F,V⟩:=hd;obtain⟨iC,dO⟩:=aab (Yu (s:=s) dM F V bg.o dH.o dI.o dJ.o rfl) dM.below;obtain⟨u,rfl,hu⟩:=MC 28 12 bV.size (lQ rfl) bV.defs (λj hj=>bV.same j aar);clear bV dM F V hu aG;simp only[setMany,Act.put,di,dQ,eD,fC,Nat.reduceAdd];go_wp2_with fail;go_meet;exact⟨g,_,_,_,_,rfl,iC.o,dO.o⟩
 case rest=>
  obtain⟨g,Mn,Ma,Mg,fv,rfl,fE,fG⟩:=hcut;rename World=>w4;have iE:=aa (show aQ.xH.Run s K ⟨[⟨x0,0,⟨0,qz⟩⟩],true,[]⟩ by have:=Su s K;rw[dw.o]at this;exact this);have fH:=aa (show aQ.search s 1000 0 ⟨[⟨x0,0,⟨0,qz⟩⟩],true,[]⟩=aQ.ni s K by unfold aQ.ni;rw[dw.o]);obtain⟨SV,dR⟩:=aay (aQ.ni s K);rw[dR]at fH;obtain⟨iF,iG,iH⟩:=aac dR fE fG;clear dR fE fG aG;go_upto_region 6 with fail;go_loopw [9] (λiv wr=>∃(i:Nat) (fw:Value) (v:aQ.xH) (N NA:Nat),i<=v.jc.length/\iv=.int .i64 i/\kN mM s (.slice As n cs) w3.heap.size g Mn Ma Mg N NA wr fw v (Xp v)/\v.Run s K/\aQ.search s (1000-i) i v=SV/\N<=16*i/\NA<=64000*i/\Below w3.heap.size w3 wr) (λiv _=>1000-(intOf iv).toNat);case atStart=>exact⟨0,fv,_,0,0,aT _,rfl,iG.o,iE.o,fH.o,aT _,aT _,iH.o⟩
  case round=>
   obtain⟨i,fw,v,N,NA,hi,rfl,z,r,bH,hN,dS,B⟩:=hrel;obtain⟨Af,cf,bI⟩:=z.jc.shape;obtain⟨nv,X⟩:=aay v.jc.length;have g1:=z.box.cell 1 (u:=fw) rfl;rw[X]at bI hi;rw[bI]at g1;have kw:nv<=1000:=(by rw[<-X];exact r.len);by_cases y:i<nv
   ·have bW:i<v.jc.length:=(by rw[X];exact y);obtain⟨p,dV⟩:=aay (v.jc[i]'bW);have H:v.jc[i]?=some p:=(by rw[<-dV];exact az bW);have dW:=z.jc;have bJ:=bI;rw[<-X]at bJ;rw[bJ]at dW;obtain⟨bf,kz,iI,bK,dX⟩:=dW.get bW;subst iI;rw[dV]at bK;obtain⟨iK,iL,Ap,cp,Bp,dp,_,_,rfl,aZ,O,-⟩:=bK;have fI:Xe.size=7:=rfl;have d0:=dX 0 _ rfl;have d1:=dX 1 _ rfl;rw[fI]at d0 d1;rw[fC]at d0;have fJ:=aZ.aR (S':=uw g Mn Ma Mg fw) (w':=wr) λb hb d=>⟨by rw[bJ];exact(dL.1 hb).1,rfl⟩;have fK:=O.aR (S':=uw g Mn Ma Mg fw) (w':=wr) λb hb d=>⟨by rw[bJ];exact(dL.1 hb).1,rfl⟩;have dY:=r.reach p (dA H);have bX:=dz.o p.x dY;have fM:=bX.ZI aD.o;have bL:=aa (Pt p.x (.agg #[.slice Ap p.x.aO.length cp,.slice Bp p.x.bF.length dp]) wr z (λW hW=>by have:=(bU.o.ag (B.t hW)).strs;rw[<-HN.o]at this;rw[<-HN.o];exact this) ⟨Ap,cp,Bp,dp,rfl,fJ,fK⟩ aD.o bX aar);have bi:=Md fM;obtain⟨iM,iO,HP,iP,iQ,fO,iR,fP,fQ⟩:=aai dY bX H r hN dS B X y;have fU:=aa (show aQ.search s (1000-(i+1)) (i+1) ((aQ.gB s p.x).foldl (aQ.turn s i) v)=SV by
     have e:1000-i=(1000-(i+1))+1:=aar;rw[e,NV H]at bH;exact bH)
    have kC:=aa z.lt;obtain⟨C,hC⟩:=aay (aQ.gB s p.x);unfold P9 at bL;rw[hC]at bL fU bi;obtain⟨nc,dZ⟩:=aay C.length;rw[dZ]at bL bi;obtain⟨HC,fV⟩:=aab hC dZ;have d9:=aa (show nc<=64000 by rw[HN.o]at bi;omega);have iU:(i:Int)<(nv:Int):=aar;clear bW dV H dW bJ dX iK iL aZ O fI fJ fK dY bX fM r hN dS B X y bH z bi hC dZ bI hi;go_upto_region 8 with fail;go_wp2_with fail;refine bL.o.m ?_;rintro e w5 ⟨A5,c5,rfl,gm,gp,gq⟩;obtain⟨iV,iW,iX⟩:=aac gm gp (iR.o.t gq.below);clear gm gp gq g1 d0 d1 bL;have kD:nc<=64000:=d9.o;go_upto_region 9 with fail;go_loopw [60] (λtv aH=>∃(k:Nat) (bY:Value) (I:aQ.xH) (M:Nat),k<=nc/\tv=.int .i64 k/\kN mM s (.slice As n cs) w3.heap.size g Mn Ma Mg (N+s.length) M aH bY I (Xp I)/\I.Run s K/\I.jc[i]?=some p/\(C.drop k).foldl (aQ.turn s i) I=C.foldl (aQ.turn s i) v/\M<=NA+k/\jU zG (uw g Mn Ma Mg bY) aH (.slice A5 nc c5) C/\Below w3.heap.size w3 aH) (λtv _=>nc-(intOf tv).toNat);case atStart=>exact⟨0,fw,v,NA,aT _,rfl,iV.o,iP.o,HP.o,rfl,ax _,iW.o,iX.o⟩
    case round=>
     obtain⟨k,bY,I,M,L,rfl,z,r,H,bn,hM,d,B⟩:=hrel;by_cases y:k<nc
     ·have av:k<C.length:=(by rw[fV.o];exact y);obtain⟨b2,o2,kE,hA,⟨ja,A',Y,rfl,ed⟩,hc⟩:=jU.get d av;subst hA;have d0:=hc 0 _ rfl;have d1:=hc 1 _ rfl;have d2:=hc 2 _ rfl;have d3:=hc 3 _ rfl;have gu:zG.size=4:=rfl;rw[gu]at d0 d1 d2 d3;rw[fC]at d0;rw[<-gN]at d1 d2 d3;have bq:C[k]∈aQ.gB s p.x:=(by rw[HC.o];exact aP av);have bu:C.drop k=C[k]::C.drop (k+1):=dN av;obtain⟨t,ht⟩:=aay (C[k]);rw[ht]at d0 d1 d2 d3 ed bq bu;obtain⟨m,hm,_⟩:=pg bq;have D:=ae wr (.cells #[.int .i64 t.df,.int .i64 t.bC.aA,.string t.bC.aI,.slice A' t.bC.ay.length Y] 61);have Z:=gU.new wr [.int .i64 t.df,.int .i64 t.bC.aA,.string t.bC.aI,.slice A' t.bC.ay.length Y] 61;have gy:=aa (WA i t p m A' Y (wr.alloc (.cells #[.int .i64 t.df,.int .i64 t.bC.aA,.string t.bC.aI,.slice A' t.bC.ay.length Y] 61)) (z.ag D) w3 rfl (B.t (D.m B.size)) (by rw[HN.o]at *;exact bU.o) (ed.aR λb hb d=>⟨hb,D.block b d⟩) H hm aD.o iO.o r.ok r.len (zR bq) r.bE ((dz.o _ (iM.o.step bq hm)).txt aD.o) (by have:=fO.o;have:=d9.o;have:=fQ.o;omega));obtain⟨jb,jd⟩:=aab (U9 r H bq) (Vn (s:=s) (i:=i) t H);have je:=aa (show(C.drop (k+1)).foldl (aQ.turn s i) (aQ.turn s i I t)=C.foldl (aQ.turn s i) v by rw[bu]at bn;exact bn);obtain⟨bg,gz,gD,HM⟩:=aad (d.ag D) (B.t (D.m B.size)) y hM;have ek:(k:Int)<(nc:Int):=aar;clear av ed hc gu bq bu ht hm D z r H bn hM d B y ja L;go_upto_region 11 with fail;generalize wr.alloc _=w6 at Z gy bg gz⊢;generalize wr.heap.size=q6 at Z⊢;clear d0 d1 d2 d3;have y0:=Z.cell 0 (u:=.int .i64 t.df) rfl;have y1:=Z.cell 1 (u:=.int .i64 t.bC.aA) rfl;have y2:=Z.cell 2 (u:=.string t.bC.aI) rfl;have y3:=Z.cell 3 (u:=.slice A' t.bC.ay.length Y) rfl;clear Z;go_wp2_with fail;refine gy.o.m ?_;rintro e w7 ⟨gF,rfl,gG,eu⟩;obtain⟨jf,jg,jh⟩:=aac gG (gz.o.t eu.below) (bg.o.aR (S':=uw g Mn Ma Mg gF) λb hb d=>eu.aR b hb d);clear gG eu y0 y1 y2 y3;go_wp2_with fail;go_roundw;case rel=>exact⟨k+1,gF,aQ.turn s i I t,M+1,gD.o,aaw,jf.o,jb.o,jd.o,je.o,aaz HM.o,jh.o,jg.o⟩
      case measure=>exact aax gD.o
     ·obtain rfl:k=nc:=aar;have ek:(k:Int)<=(k:Int):=il _;have bu:C.drop k=[]:=lh (by rw[fV.o];exact ax _);rw[bu]at bn;have gH:I=C.foldl (aQ.turn s i) v:=bn;have ji:=aa (show aQ.search s (1000-(i+1)) (i+1) I=SV by rw[gH];exact fU.o);obtain⟨jk,jl,jm,jo,jq⟩:=aae z r H hM B;clear bu bn gH z r H hM d B y L;go_wp2_with fail;go_roundw;case rel=>exact⟨i+1,bY,I,N+s.length,M,(aU.1 jm.o).1,aaw,jk.o,jl.o,ji.o,by rw[HN.o];have:=iQ.o;omega,by have:=jo.o;have:=fO.o;have:=d9.o;omega,jq.o⟩
      case measure=>exact aax fQ.o
   ·obtain rfl:i=nv:=aar;have iU:(i:Int)<=(i:Int):=il _;have jr:=aa (show v=SV by rw[<-bH,NW (by rw[X];exact ax _)]);obtain⟨eB,kF,bv,fP⟩:=aad z r B X;clear z r B bH hN dS bI X y hi;have m3:=eB.o.box.cell 3 (u:=.bool v.all) rfl;go_upto_region 13 with fail;go_cut [12]from 69 to 78 (λpv wc=>(∃J,pv=.pointer (some ⟨J,0,none⟩)/\wr.heap.size<=J/\gU wc J 47 [.int .i64 i,.bool v.all,.slice none 0 0])/\Below wr.heap.size wr wc)
    case first=>
     have HC:=aa (show wr.cell? ⟨g,1,none⟩=some (.slice Af i cf)/\wr.cell? ⟨g,3,none⟩=some (.bool v.all)/\Below wr.heap.size wr wr from⟨g1,m3,aC _ _⟩);clear g1 m3;refine fT (S:=(λWq=>Wq.cell? ⟨g,1,none⟩=some (.slice Af i cf)/\Wq.cell? ⟨g,3,none⟩=some (.bool v.all)/\Below wr.heap.size wr Wq)) (λ_=>0) aas (show _/\_/\_ from⟨HC.o.1,HC.o.2.1,(aC _ wr).drew⟩) (λhHeld=>?_);refine fA 0 _ ?_;refine fA 1 _ ?_;refine fA 2 _ ?_;refine fA 3 _ ?_;refine fA 4 _ ?_;refine fA 5 _ ?_;refine fA 6 _ ?_;refine fA 7 _ ?_;refine fA 8 _ ?_;refine fA 9 _ ?_;refine uO 10 λK hK=>?_;(go_simp;(first|refine wH hK (JY HC.o (iZ hHeld.2.2 _)) λg9 aK eF eG=>?_|refine oW hK (JY HC.o (iD hHeld.2.2 _)) λg9 aK eF eG=>?_);have kG:=aa (show wr.heap.size<=g9 by rw[<-aK];exact hHeld.2.2.size);replace hHeld:=eG;have kH:=aa eF;(first|rw[aK]|(change wr.heap.size=g9 at aK;subst aK));(try have kI:=aa aK);(try clear aK);clear hK K eF eG);refine uO 11 λK hK=>?_;(go_simp;refine mZ hK (JY HC.o ((ae wr (.cells #[.int .i64 i,.bool v.all,.slice none 0 0] 47)).drew)) λhHeld=>?_;clear hK K);refine dD aas ?_ _;have dO:=aa hHeld.2.2;clear hHeld;go_wp2_with fail;go_meet;exact⟨⟨_,rfl,ax _,gU.new wr [.int .i64 i,.bool v.all,.slice none 0 0] 47⟩,dO.o⟩
    case rest=>
     obtain⟨⟨J,rfl,gI,c⟩,gJ⟩:=hcut;rename World=>kJ;obtain⟨jv,jw,gK⟩:=aac gJ c gI;clear gJ c gI g1 m3;go_upto_region 15 with fail;go_loopw [81] (λiv aH=>∃(a:Nat) (ov:Value),a<=n/\iv=.int .i64 a/\Below wr.heap.size wr aH/\gU aH J 47 [.int .i64 i,.bool v.all,ov]/\fZ Vy (jT wr.heap.size) wr.heap.size aH ov (zB s v a)/\ov.ownBlock≠some J) (λiv _=>n-(intOf iv).toNat);case atStart=>exact⟨0,_,aT _,rfl,jv.o,jw.o,fZ.nil _ _ _ _,λe=>by cases e⟩
     case round=>
      rename World=>bM;obtain⟨a,ov,ha,rfl,aN,c,f,G⟩:=hrel;by_cases y:a<n
      ·have aS:a<s.length:=(by rw[HN.o];exact y);have gL:=bU.o.ag (bv.o.t (aN.m bv.o.size));obtain⟨b5,o5,A',Y,hA,P,e1,-,bi⟩:=gL.get aS;subst hA;obtain⟨ml,bZ⟩:=aay ((s[a]'aS).2.length);obtain⟨nm,gM⟩:=aay ((s[a]'aS).1);rw[bZ]at e1;rw[gM]at P;have kK:ml<=16:=(by rw[<-bZ];exact aD.o.ml _ (aP aS));have gP:=aa (show zB s v (a+1)=zB s v a++BV v a ml by rw[JF,az aS];show _++BV v a (s[a]'aS).2.length=_;rw[bZ]);have gQ:=aa (λk=>(show(zB s v a++BV v a k).length<=16*a+k by have V:=LW aD.o v a;have h2:=LX v a k;rw[aF];omega));obtain⟨LA,gT⟩:=aay (zB s v a);rw[gT]at f gP gQ;have D:=ae bM (.cells #[.string nm,.slice A' ml Y] 26);have Z:=gU.new bM [.string nm,.slice A' ml Y] 26;obtain⟨jy,jA,jB,jC,gV⟩:=aae (aN.t (D.m aN.size)) (c.ag D) (f.ag D) G y;have jD:(a:Int)<(n:Int):=aar;clear gL bi bZ gM gT D aN c f G y aS ha;go_upto_region 18 with fail;clear P e1 Z;go_loopw [89] (λkv eH=>∃(k:Nat) (af:Value),k<=ml/\kv=.int .i64 k/\Below wr.heap.size wr eH/\gU eH J 47 [.int .i64 i,.bool v.all,af]/\fZ Vy (jT wr.heap.size) wr.heap.size eH af (LA++BV v a k)/\af.ownBlock≠some J) (λkv _=>ml-(intOf kv).toNat);case atStart=>exact⟨0,_,aT _,rfl,jy.o,jA.o,by rw[show BV v a 0=[]from rfl,dK];exact jB.o,jC.o⟩
       case round=>
        rename World=>cu;obtain⟨k,af,L,rfl,ah,c,f,G⟩:=hrel;by_cases cz:k<ml
        ·obtain⟨AG,nG,cG,gW,eP⟩:=eB.o.X4 (i:=a) (k:=k) aar aar;have gX:=gW cu ah;obtain⟨lb,U⟩:=aay ((v.oo.lookup (a,k)).isSome);rw[U]at gX;have m4:=(eB.o.ag ah).box.cell 4 (u:=.map (some Ma)) rfl;obtain⟨cB,kL⟩:=aab cz gX;have ek:(k:Int)<(ml:Int):=aar;clear gW;cases lb with
         |false=>
          have cK:=aa (show BV v a (k+1)=BV v a k by
           rw[JG];cases e:v.oo.lookup (a,k)with
           |none=>simp
           |some l=>rw[e]at U;cases U)
          obtain⟨eQ,eT,eU,eX⟩:=aad ah c f G;clear ah c f G cz L U eP;go_wp2_with fail;go_roundw;case rel=>exact⟨k+1,af,cB.o,aaw,eQ.o,eT.o,by rw[cK.o];exact eU.o,eX.o⟩
          case measure=>exact aax cB.o
         |true=>
          obtain⟨l,d⟩:=eO.1 U;have hf:=eP l d;have jE:nG=l.length:=by
           obtain⟨_,_,e,_⟩:=hf;injection e
          subst jE;have cK:=aa (show LA++BV v a (k+1)=(LA++BV v a k)++[l] by rw[JG,d,dC];rfl);have gY:=gQ.o k;obtain⟨L9,gZ⟩:=aay (LA++BV v a k);rw[gZ]at f cK gY;obtain⟨Q,R,dE,bN,aX,eY⟩:=f.cells;obtain⟨kk,eZ⟩:=aay L9.length;have bO:=f.block;rw[bN]at bO G;rw[eZ]at eY aX G gY bO bN;have bz:=ae cu (.cells #[.slice AG l.length cG] 57);have jF:=aa (show(cu.alloc (.cells #[.slice AG l.length cG] 57)).ownsRow wr.heap.size 57 1 af kk dE.flatten from by rw[bN];exact dG eY bz);have jG:=aa bN;have jH:=aa (show ∀u∈([.slice AG l.length cG]:List Value),u.oneCell'=true from λu hu=>by simp at hu;rw[hu];rfl);have fe:=aa (ah.t (bz.m ah.size));have ib:=fe.o.size;obtain⟨jI,ic,jJ,jK,jL⟩:=aae (λq D=>(bO q D).1) G (c.ag bz) c.lt bz.size;have bK:Vy.fF (off (jT wr.heap.size) (Value.slice Q kk R).ownBlock) (cu.alloc (.cells #[.slice AG l.length cG] 57)) ([.slice AG l.length cG]:List Value) l:=⟨AG,cG,rfl,hf.aR λb hb d=>⟨dL.2 ⟨aM d,λe=>aaz ((bO b e).1)⟩,fe.o.block b d⟩⟩;have jM:=aa (λ(A8:Option Addr) (c8:Nat) (w8:World) (cO:w8.ownsRow wr.heap.size 57 1 (.slice A8 (kk+1) c8) (kk+1) (dE.flatten++([.slice AG l.length cG]:List Value))) aW bA=>fZ.push (E:=Vy) (base:=wr.heap.size) (A':=A8) (cap:=c8) (w4:=w8) (a:=l) aX eZ (λb hb=>bz.block b hb) bK cO aW bA);have m2:=c.cell 2 (u:=af) rfl;obtain⟨i2,jN,jO,jP,jQ⟩:=dU Tryz.YX;clear bN eP U d hf gZ aX eY eZ bO bz bK f G ah cz L c;go_upto_region 22 with fail;go_wp2_with (at_builtin;refine fq _ rfl _ _ 45 rfl wr.heap.size 57 i2 _ 1 24 Tryz.underlying45 jN jO jP jQ rfl aar _ _ _ rfl jF.o _ 1 1 [.slice AG l.length cG] rfl (Src.Cn _ _ _ 1 rfl) jH.o aaS aar ib ?_;intro A8 c8 w8 cO aW bA;rw[jG.o]at aW bA;obtain⟨jR,jS,fo,jV⟩:=aad (jM.o _ _ _ cO aW bA) (fe.o.grown aW ib jI.o) (jJ.o.grown aW (λe=>ic.o e)) bA;have m9:=fo.o.cell 2 (u:=af) rfl;have f9:=fo.o.free 2;clear cO aW bA);go_roundw
          case rel=>
           have ig:(Value.slice A8 (kk+1) c8).ownBlock≠some J:=λe=>by
            rw[Li]at e;rcases jV.o with h3|h3;·exact ic.o (h3.symm.t e)
            ·have h4:=aB (h3.symm.t e);have:=jK.o;have:=jL.o;omega
           refine⟨k+1,_,cB.o,aaw,jS.o.setCell (show wr.heap.size<=(⟨J,2,none⟩:Addr).block from gK.o) _,fo.o.set 2 _,?_,ig⟩;rw[cK.o];exact jR.o.aR λb hb _=>aL _ _ _ _ (λe=>by
            have e':b=J:=e;subst e';rcases hb with hb|hb;·have:=ak hb;have:=gK.o;omega
            ·exact ig hb)
          case measure=>exact aax cB.o
        ·obtain rfl:k=ml:=aar;obtain⟨eQ,eT,eU,eX⟩:=aad ah c f G;have ek:(k:Int)<=(k:Int):=il _;clear ah c f G cz L;go_wp2_with fail;go_roundw;case rel=>exact⟨a+1,af,gV.o,aaw,eQ.o,eT.o,by rw[gP.o];exact eU.o,eX.o⟩
         case measure=>exact aax gV.o
      ·obtain rfl:a=n:=aar;have jD:(a:Int)<=(a:Int):=il _;have F:=((bR.o.ag bG.o).ag bv.o).ag aN;have r0:=F.cell 0 (u:=.int .i64 0) rfl;have r1:=F.cell 1 (u:=.bool false) rfl;have r2:=F.cell 2 (u:=.slice none 0 0) rfl;have s0:=F.free 0;have s1:=F.free 1;have s2:=F.free 2;obtain⟨Q,R,rfl⟩:=f.shape;have o0:=c.cell 0 (u:=.int .i64 i) rfl;have o1:=c.cell 1 (u:=.bool v.all) rfl;have o2:=c.cell 2 (u:=.slice Q (zB s v a).length R) rfl;obtain⟨jW,jX,jY⟩:=aac f aN F;have cZ:=((F.set 0 (.int .i64 i)).set 1 (.bool v.all)).set 2 (.slice Q (zB s v a).length R);have P:=cZ.cell 0 (u:=.int .i64 i) rfl;have e1:=cZ.cell 1 (u:=.bool v.all) rfl;have e2:=cZ.cell 2 (u:=.slice Q (zB s v a).length R) rfl;obtain⟨jZ,j3,j4⟩:=aac P e1 e2;clear F c f G y ha aN cZ P e1 e2;go_wp2_with fail;refine aV (v:=.tuple #[.agg #[.int .i64 i,.bool v.all,.slice Q (zB s v a).length R],.int .i64 0]) ?c1 rfl ?c2
       case c1=>
        have P:=jZ.o;have e1:=j3.o;have e2:=j4.o;generalize((bM.setCell ⟨o,0,none⟩ (.int .i64 i)).setCell ⟨o,1,none⟩ (.bool v.all)).setCell ⟨o,2,none⟩ (.slice Q (zB s v a).length R)=kM at P e1 e2⊢;simp[results,Tryz.results16,go_sem,P,e1,e2]
       case c2=>
        have j5:o<wr.heap.size:=(by have:=bR.o.lt;have:=bG.o.size;have:=bv.o.size;omega);have ik:=jW.o.ZL (g:=o) (w':=((bM.setCell ⟨o,0,none⟩ (.int .i64 i)).setCell ⟨o,1,none⟩ (.bool v.all)).setCell ⟨o,2,none⟩ (.slice Q (zB s v a).length R)) jY.o.We j5 (Ve _ _ _ _ _);have iq:zB s v a=aQ.wU s v:=(by rw[<-HN.o];rfl);have hv:v=aQ.ni s K:=jr.o.t iF.o.symm;have bS:=iA.o;have j6:Below w.heap.size w bM:=dm.o.t ((bG.o.t ((bv.o.t (jX.o.m bv.o.size)).m bG.o.size)).m dm.o.size);have V:=((j6.setCell (p:=⟨o,0,none⟩) (show w.heap.size<=o by omega) (.int .i64 i)).setCell (p:=⟨o,1,none⟩) (show w.heap.size<=o by omega) (.bool v.all)).setCell (p:=⟨o,2,none⟩) (show w.heap.size<=o by omega) (.slice Q (zB s v a).length R);rw[iq]at ik V;unfold Bh;rw[<-hv,fP.o,iq];exact⟨Q,R,rfl,ik,V⟩
end
section
open T
def aQ.closed(s:List iN)(V:List jf):Bool:=V.all λx=>(aQ.gB s x).all λt=>match aQ.next s x t.df with
 |none=>false
 |some m=>V.any λy=>aQ.ZK y (aQ.move x m t)
theorem Rh{s:List iN}{V:List jf}(h:aQ.closed s V=true){x:jf}(b:x∈V){t:mg}(c:t∈aQ.gB s x){m:Int×T}(d:aQ.Vz s x m t):aQ.move x m t∈V:=by
 have a:=bQ.1 (bQ.1 h x b) t c;rw[d.1]at a;obtain⟨y,hy,e⟩:=dM.1 a;rw[<-TR e];exact hy
theorem Ff{s:List iN}{V:List jf}(h:aQ.closed s V=true):∀(l:List mg) {x y:jf},x∈V->aQ.qG s x l=some y->y∈V
 |[],x,y,c,a=>by
  obtain rfl:x=y:=(by injection a);exact c
 |t::r,x,y,c,a=>by
  simp only[aQ.qG]at a;cases b:aQ.uq s x t with
  |none=>rw[b]at a;cases a
  |some z=>
   rw[b]at a;obtain⟨m,d,rfl⟩:=AU b;exact Ff h r (Rh h c (FZ b) d) a
theorem OQ{s:List iN}(h:aQ.closed s (aQ.oU s)=true)(a:aQ.OV s (aQ.oU s)=true):∀x,Reach s dR x->aQ.GJ s x:=λx ⟨l,b⟩=>by
 have h0:aQ.iJ s dR∈aQ.oU s:=by
  obtain⟨y,hy,e⟩:=(Kr s dR).zero;exact ek.2 ⟨y,dA hy,e⟩
 exact XT a x (Ff h l h0 b)
theorem zS{s:List iN}{V:List jf}(h:aQ.shut s V=true):aQ.closed s V=true:=by
 refine bQ.2 λx c=>bQ.2 λt d=>?_;have a:=bQ.1 (bQ.1 h x c) t d;split;·rename_i b;rw[b]at a;exact a
 ·rename_i b;rw[b]at a;exact(aN.1 a).2
theorem KJ:aQ.closed [oQ] (aQ.oU [oQ])=true:=by kernel_rfl
theorem Hf:aQ.closed [yV,oQ] (aQ.oU [yV,oQ])=true:=by kernel_rfl
def aQ.CW(s:List iN):Bool:=decide (s.length<=16)&&s.all λx=>decide (x.1.size<=64)&&decide (x.2.length<=16)&&x.2.all λm=>decide (m.2.bE<=1048576)&&decide ((vars m.2).length<=100000)&&(vars m.2).all λv=>decide (v.size<=64)
theorem Vf{s:List iN}(h:aQ.CW s=true):zl s/\∀x∈s,x.1.size<=maxLen/\x.2.length<=maxLen/\∀m∈x.2,m.2.bE<=1048576:=by
 unfold aQ.CW at h;simp only[ah,bO,bQ]at h;refine⟨⟨h.1,λst a=>(h.2 st a).1.2,λst a m b=>?_⟩,λx f=>?_⟩
 ·obtain⟨⟨c,d⟩,e⟩:=(h.2 st a).2 m b;exact⟨c,d,e⟩
 ·obtain⟨⟨c,d⟩,e⟩:=h.2 x f;exact⟨aG c aat,aG d aat,λm b=>(e m b).1.1⟩
theorem N8:aQ.CW [oQ]=true:=by kernel_rfl
theorem Jr:aQ.CW [yV,oQ]=true:=by kernel_rfl
theorem I5:aQ.CW [yU,yX]=true:=by kernel_rfl
theorem Ls:aQ.CW [tF,wG]=true:=by kernel_rfl
theorem zY:(∀t∈dR,t.bE<=1048576)/\dR.length<=32:=by
 have h:((dR.all λt=>decide (t.bE<=1048576))&&decide (dR.length<=32))=true:=aas;simp only[ah,bO,bQ]at h;exact h
structure yt (s:List iN):Prop where
 str:zl s
 lb:∀x∈s,x.1.size<=maxLen/\x.2.length<=maxLen/\∀m∈x.2,m.2.bE<=1048576
 all:S9 s dR
 ZH:aQ.nW s dR=0
 mv:aQ.moves s<=16
theorem D7{s:List iN}(d:aQ.CW s=true)(e:aQ.closed s (aQ.oU s)=true)(f:aQ.OV s (aQ.oU s)=true)(g:aQ.nW s dR=0)(c:aQ.moves s<=16):yt s:=by
 obtain⟨a,b⟩:=Vf d;exact⟨a,b,XI c zY.2 (OQ e f),g,c⟩
theorem L6:aQ.nW [oQ] dR=0:=by kernel_rfl
theorem Jh:aQ.nW [yV,oQ] dR=0:=by kernel_rfl
theorem G7:aQ.nW [yU,yX] dR=0:=by kernel_rfl
theorem KE:aQ.nW [tF,wG] dR=0:=by kernel_rfl
theorem Ns:yt [oQ]:=D7 N8 KJ Rl L6 aat
theorem Pp:yt [yV,oQ]:=D7 Jr Hf Mq Jh aat
theorem Nt:yt [yU,yX]:=D7 I5 (zS Ct) KQ G7 aat
theorem R8:yt [tF,wG]:=D7 Ls (zS FV) OW KE aat
end
end Go.Proofs.YtaciciokmpbkkaaGreatDoor
