import Derived.Test.YtaciciokmpbkkaaGreatDoorWebG0
import Derived.Deep.RegionHeld3
set_option maxRecDepth 100000
set_option maxHeartbeats 16000000
namespace Go.Proofs.YtaciciokmpbkkaaGreatDoor
section
open Go.RowKit
namespace T
def ci(a b:Int):Int:=if a<b then -1 else if b<a then 1 else 0
def cs(a b:ByteArray):Int:=if less a b=true then -1 else if (a.toList==b.toList)=false then 1 else 0
end T
theorem V6(a:Int)(w:World):Calls Tryz.prog 144 #[.int .i64 a] w λe w'=>e=.returned (.bool false)/\w=w':=by
 go_enter Tryz.func144,Tryz.ntmps144;go_wp2;go_ret;exact⟨cO aau,rfl⟩
theorem V7(a:ByteArray)(w:World):Calls Tryz.prog 145 #[.string a] w λe w'=>e=.returned (.bool false)/\w=w':=by
 go_enter Tryz.func145,Tryz.ntmps145;go_wp2;go_ret;exact⟨cO aau,rfl⟩
theorem Qg(a b:Int)(w:World):Calls Tryz.prog 106 #[.int .i64 a,.int .i64 b] w λe w'=>e=.returned (.int .i64 (T.ci a b))/\w=w':=by
 have c:(a<b/\T.ci a b= -1)\/(b<=a/\b<a/\T.ci a b=1)\/(b<=a/\a<=b/\T.ci a b=0):=(by unfold T.ci;split<;>(try split)<;>omega);rcases c with⟨c1,c2⟩|⟨c1,d,c2⟩|⟨c1,d,c2⟩;all_goals
  have f:=aa c2;clear c2;go_enter Tryz.func106,Tryz.ntmps106;go_wp2_with (go_at_call 144;refine(V6 _ _).m ?_;rintro e w' ⟨rfl,rfl⟩);go_ret;exact⟨gI f.o.symm,rfl⟩
theorem Qh(a b:ByteArray)(w:World):Calls Tryz.prog 107 #[.string a,.string b] w λe w'=>e=.returned (.int .i64 (T.cs a b))/\w=w':=by
 have c:(Op.bytesLess a.toList b.toList=true/\T.cs a b= -1)\/(Op.bytesLess a.toList b.toList=false/\(a.toList==b.toList)=false/\T.cs a b=1)\/(Op.bytesLess a.toList b.toList=false/\(a.toList==b.toList)=true/\T.cs a b=0):=by
  unfold T.cs T.less;rcases bW (Op.bytesLess a.toList b.toList)with h|h;·left;exact⟨h,by rw[aJ h]⟩
  ·rcases bW (a.toList==b.toList)with h'|h';·right;right;exact⟨h,h',by rw[h,h'];rfl⟩
   ·right;left;exact⟨h,h',by rw[h,h'];rfl⟩
 rcases c with⟨c1,c2⟩|⟨c1,d,c2⟩|⟨c1,d,c2⟩;all_goals
  have f:=aa c2;clear c2;go_enter Tryz.func107,Tryz.ntmps107;go_wp2_with (go_at_call 145;refine(V7 _ _).m ?_;rintro e w' ⟨rfl,rfl⟩);go_ret;exact⟨gI f.o.symm,rfl⟩
def T.QH(x y z:Int):Int:=if x≠0 then x else if y≠0 then y else z
theorem abW{p:Prop}(h:p:=by
 subst a;go_wp2_with fail;go_round;case rel=>simp
 case measure=>simp[intOf]):p:=h
theorem abY{p:Prop}(h:p:=by
 go_wp2_with fail;go_ret;exact⟨gI E.o.symm,rfl⟩):p:=h
theorem TJ(b cap:Nat)(x y z:Int)(w:World)(h0:w.cell? ⟨b,0,none⟩=some (.int .i64 x))(g:w.cell? ⟨b,1,none⟩=some (.int .i64 y))(h:w.cell? ⟨b,2,none⟩=some (.int .i64 z)):
 Calls Tryz.prog 105 #[.slice (some ⟨b,0,none⟩) 3 cap] w λe w'=>e=.returned (.int .i64 (T.QH x y z))/\w=w':=by
 obtain⟨R,d⟩:=aay (T.QH x y z);rw[d];have c:=aa d;clear d;go_enter Tryz.func105,Tryz.ntmps105;go_wp2_with fail
 go_loop [8] (λi=>i=.int .i64 0\/(i=.int .i64 1/\x=0)\/(i=.int .i64 2/\x=0/\y=0)\/(i=.int .i64 3/\x=0/\y=0/\z=0)) (λi=>3-(intOf i).toNat)
 case atStart=>exact .inl rfl
 case round=>
  rcases hrel with rfl|⟨rfl,rfl⟩|⟨rfl,rfl,rfl⟩|⟨rfl,rfl,rfl,rfl⟩
  ·by_cases a:x=0
   ·exact abW
   ·have f:(x != 0)=true:=(by rw[jg];exact a);have e:R=x:=(by have:=c.o;unfold T.QH at this;rw[aJ a]at this;exact this.symm);have E:=aa e;clear e a;exact abY
  ·by_cases a:y=0
   ·exact abW
   ·have f:(y != 0)=true:=(by rw[jg];exact a);have e:R=y:=(by have:=c.o;unfold T.QH at this;rw[aH aau,aJ a]at this;exact this.symm);have E:=aa e;clear e a;exact abY
  ·have e:R=z:=(by have:=c.o;unfold T.QH at this;rw[aH aau,aH (by simp)]at this;exact this.symm);have E:=aa e;clear e;by_cases a:z=0
   ·exact abW
   ·have f:(z != 0)=true:=(by rw[jg];exact a);clear a;exact abY
  ·have e:R=0:=(by have:=c.o;unfold T.QH at this;simpa using this.symm);have E:=aa e;clear e;exact abY
theorem TH(A A':Option Addr)(cap Q:Nat)(a d:List T)(U l:Nat->Value×Value×Value)(w:World)(aG:a.length<=1048576)(_:d.length<=1048576)
 (hA:a.length=0\/∃b off,A=some ⟨b,off,none⟩/\∀i,i<a.length->w.cell? ⟨b,off+i*3,none⟩=some (U i).1/\w.cell? ⟨b,off+i*3+1,none⟩=some (U i).2.1/\w.cell? ⟨b,off+i*3+2,none⟩=some (U i).2.2)
 (hU:∀i (h:i<a.length),aS w (.agg #[(U i).1,(U i).2.1,(U i).2.2]) a[i])
 (R:d.length=0\/∃b off,A'=some ⟨b,off,none⟩/\∀i,i<d.length->w.cell? ⟨b,off+i*3,none⟩=some (l i).1/\w.cell? ⟨b,off+i*3+1,none⟩=some (l i).2.1/\w.cell? ⟨b,off+i*3+2,none⟩=some (l i).2.2)
 (S:∀i (h:i<d.length),aS w (.agg #[(l i).1,(l i).2.1,(l i).2.2]) d[i])
 (C:∀j (h:j<a.length) (h':j<d.length) (v D:Value) (W:World),aS W v a[j]->aS W D d[j]->Calls Tryz.prog 63 #[v,D] W λe w'=>e=.returned (.int .i64 (T.cmp a[j] d[j]))/\Below W.heap.size W w'):
 Calls Tryz.prog 108 #[.slice A a.length cap,.slice A' d.length Q,.func (.func 63) #[] #[]] w λe w'=>
  e=.returned (.int .i64 (T.iC a d))/\Below w.heap.size w w':=by
 have V:=aa C;clear C;go_enter Tryz.func108,Tryz.ntmps108;go_wp2_with fail;go_loopw [13] (λi wr=>∃j:Nat,j<=a.length/\j<=d.length/\i=.int .i64 j/\(∀m (h:m<j) (h1:m<a.length) (h2:m<d.length),T.cmp a[m] d[m]=0)/\Below w.heap.size w wr) (λi _=>a.length-(intOf i).toNat);case atStart=>exact⟨0,aT _,aT _,rfl,λm h=>absurd h aar,aC _ _⟩
 case round=>
  obtain⟨j,hj,aK,rfl,E,f⟩:=hrel;have q:=aa E;clear E;by_cases r:j<a.length
  ·obtain⟨b,off,s,t,rfl,d0,d1,d2,hu⟩:=aS.cells r hA hU;obtain⟨X,Y,Z⟩:=aak f d0 d1 d2;have hi:(j:Int)<(a.length:Int):=aar;clear d0 d1 d2;by_cases u:j<d.length
   ·obtain⟨b',aL,ae,ah,rfl,F,G,H,I⟩:=aS.cells u R S;obtain⟨J,K,L⟩:=aak f F G H;clear F G H;have ak:(j:Int)<(d.length:Int):=aar;have f0:=af ((aC wr.heap.size wr).alloc (ax _) (.cells #[.int .i64 a[j].aA,.string a[j].aI,.slice s a[j].ay.length t] 29)) J;have f1:=af ((aC wr.heap.size wr).alloc (ax _) (.cells #[.int .i64 a[j].aA,.string a[j].aI,.slice s a[j].ay.length t] 29)) K;have f2:=af ((aC wr.heap.size wr).alloc (ax _) (.cells #[.int .i64 a[j].aA,.string a[j].aI,.slice s a[j].ay.length t] 29)) L;have x:=(vz wr (.int .i64 a[j].aA) (.string a[j].aI) (.slice s a[j].ay.length t) (.int .i64 d[j].aA) (.string d[j].aI) (.slice ae d[j].ay.length ah) 29).2.2;obtain⟨HU,av,M,az⟩:=aad ((hu.ag f).ag x) ((I.ag f).ag x) r u;have aB:=aa (λhn=>T.EG a d j r u (λm g=>q.o m g aar aar) hn);obtain⟨c,N⟩:=aay (T.cmp a[j] d[j]);have y:=aa N;have O:=V.o j r u;have aD:=aa O;clear N O hu I;go_wp2_with fail;refine(aD.o _ _ _ HU.o av.o).m ?_;rintro e w2 ⟨P,z⟩;have aF:e=.returned (.int .i64 c):=P.t (gI y.o);clear P;subst aF;replace z:=f.t ((x.t (z.m x.size)).m f.size);clear f0 f1 f2 X Y Z J K L;by_cases B:c=0
    ·subst B;go_wp2_with fail;go_roundw
     case rel=>
      refine⟨j+1,M.o,az.o,aaw,λm h k o=>?_,z⟩;rcases bX m j with g|g;·exact q.o m g k o
      ·obtain rfl:m=j:=aar;exact y.o
     case measure=>exact aax M.o
    ·have aM:(c != 0)=true:=(by rw[jg];exact B);have HR:=aa (aB.o (λh=>B (y.o.symm.t h)));go_wp2_with fail;go_ret;exact⟨gI (y.o.symm.t HR.o.symm),z⟩
   ·have ak:(d.length:Int)<=(j:Int):=aar;have p:=aa (show T.iC a d=1 by rw[T.sU a d (λm k o=>q.o m aar k o),aH aar,aJ aaF]);have aN:=aa hu;clear hu;go_wp2_with fail;go_ret;exact⟨gI p.o.symm,f.alloc f.size _⟩
  ·have hi:(a.length:Int)<=(j:Int):=aar;have n:=T.sU a d (λm k o=>q.o m aar k o);by_cases k:a.length<d.length
   ·rw[aJ k]at n;have p:=aa n;clear n;have q1:(a.length:Int)<(d.length:Int):=aar;go_wp2_with fail;go_ret;exact⟨gI p.o.symm,f⟩
   ·rw[aH k,aH aaF]at n;have p:=aa n;clear n;have q1:(d.length:Int)<=(a.length:Int):=aar;go_wp2_with fail;go_ret;exact⟨gI p.o.symm,f⟩
theorem T.yD(k k':Int)(s a:ByteArray)(b c:List T):(T.mk k s b).cmp (.mk k' a c)=T.QH (T.ci k k') (T.cs s a) (T.iC b c):=by
 have e:(T.mk k s b).cmp (.mk k' a c)=if k<k' then -1 else if k'<k then 1 else if T.less s a=true then -1 else if (s.toList==a.toList)=false then 1 else T.iC b c:=rfl
 rw[e];unfold T.QH T.ci T.cs
 repeat' split
 all_goals first|rfl|omega|simp_all
theorem EW{w1 W a:World}{b c d e f g:Addr}{v0 i v2 v3 v4 v5:Value}(h:W.cell? b=some v0/\W.cell? c=some i/\W.cell? d=some v2/\W.cell? e=some v3/\W.cell? f=some v4/\W.cell? g=some v5/\Below w1.heap.size w1 W)
 (hb:Below W.heap.size W a):a.cell? b=some v0/\a.cell? c=some i/\a.cell? d=some v2/\a.cell? e=some v3/\a.cell? f=some v4/\a.cell? g=some v5/\Below w1.heap.size w1 a:=by
 obtain⟨h0,k,l,m,n,o,j⟩:=h;exact⟨af hb h0,af hb k,af hb l,af hb m,af hb n,af hb o,j.t (hb.m j.size)⟩
theorem ab0{p:Prop}(h:p:=by
 exact .inr ⟨b,off,e,λi hi=>by obtain⟨E,c1,c2⟩:=D i hi;exact⟨af d E,af d c1,af d c2⟩⟩):p:=h
theorem Nl:∀(N:Nat) (t f:T) (v g:Value) (w:World),t.bE<N->aS w v t->aS w g f->t.bE<=1048576->f.bE<=1048576->
 Calls Tryz.prog 63 #[v,g] w λe w'=>e=.returned (.int .i64 (t.cmp f))/\Below w.heap.size w w':=by
 intro N;induction N with
 |zero=>intro t f v g w h;omega
 |succ N H=>
  intro t f v g w I p J K L;cases p with
  |mk k s A cap a U M O P Q hA hU=>
  cases J with
  |mk k' q l m c R ak av ay az r u=>
   simp only[T.bE]at I K L;have S:a.length<=1048576:=(aaz (T.lq a));have V:c.length<=1048576:=(aaz (T.lq c));rw[T.yD];obtain⟨F,G,n⟩:=vz w (.int .i64 k) (.string s) (.slice A a.length cap) (.int .i64 k') (.string q) (.slice l c.length m) 29;have p:=aS.mk k s A cap a U M O P Q hA hU;go_enter Tryz.func63,Tryz.ntmps63;go_upto_region 1 with fail;generalize(w.alloc (.cells #[.int .i64 k,.string s,.slice A a.length cap] 29)).alloc (.cells #[.int .i64 k',.string q,.slice l c.length m] 29)=o at F G n⊢;obtain⟨x0,x,y⟩:=F;obtain⟨z,B,C⟩:=G;obtain⟨bA,bU,aA,aB⟩:=aad hA hU r u;have hF:∀W,Below o.heap.size o W->Calls Tryz.prog 108 #[.slice A a.length cap,.slice l c.length m,.func (.func 63) #[] #[]] W λe w'=>
    e=.returned (.int .i64 (T.iC a c))/\Below W.heap.size W w':=λW X=>by
    have d:=n.t (X.m n.size);refine TH A l cap m a c U R W S V ?_ (λi h=>(hU i h).ag d) ?_ (λi h=>(u i h).ag d) ?_
    ·rcases hA with h|⟨b,off,e,D⟩;·exact .inl h
     ·exact ab0
    ·rcases r with h|⟨b,off,e,D⟩;·exact .inl h
     ·exact ab0
    ·intro j h h' v g W' Y Z;have:=T.jq a j h;have:=T.jq c j h';exact H _ _ _ _ _ aar Y Z aar aar
   have HF:=aa hF;clear hA hU r u p hF
   go_region_held3 (λW=>W.cell? ⟨w.heap.size,0,none⟩=some (.int .i64 k)/\W.cell? ⟨w.heap.size,1,none⟩=some (.string s)/\W.cell? ⟨w.heap.size,2,none⟩=some (.slice A a.length cap)/\W.cell? ⟨w.heap.size+1,0,none⟩=some (.int .i64 k')/\W.cell? ⟨w.heap.size+1,1,none⟩=some (.string q)/\W.cell? ⟨w.heap.size+1,2,none⟩=some (.slice l c.length m)/\Below o.heap.size o W)
    (first|exact⟨x0,x,y,z,B,C,aC _ _⟩|exact⟨x0,x,y,z,B,C,(aC _ _).drew⟩|exact EW aaK ae|exact EW aaK ((aC _ _).alloc (ax _) _)|go_keep)
    (first|(go_at_call 106;refine(Qg _ _ _).m ?_;rintro e w' ⟨rfl,rfl⟩)|(go_at_call 107;refine(Qh _ _ _).m ?_;rintro e w' ⟨rfl,rfl⟩)|(go_at_call 108;refine(HF.o _ (by first|assumption|exact aC _ _|exact(aC _ _).drew)).m ?_;rintro e w2 ⟨rfl,ae⟩)|(go_at_call 105;refine(TJ _ _ _ _ _ _ (iQ _ _ _ _ _).1 (iQ _ _ _ _ _).2.1 (iQ _ _ _ _ _).2.2).m ?_;rintro e w' ⟨rfl,rfl⟩))
   all_goals
    rename_i hS;have ah:=hS.2.2.2.2.2.2;clear hS x0 x y z B C;go_wp2_with fail;go_ret;exact⟨rfl,n.t (ah.m n.size)⟩
namespace T
def atom:T->Bool|.mk k _ _=>k==1||k==2
def gZ(k:Int)(a:List T):Bool:=
 if k=3\/k=5 then a.length==2 else if k=6 then a.length==2&&((a[0]?).map atom).getD false else if k=4 then a.length==1 else if k=7 then (1<=a.length&&a.length<=4)&&!a.any (λt=>!t.atom) else false
mutual
def shape:T->Bool
 |.mk k s a=>if k=1\/k=2 then isName s&&a.length==0 else (gZ k a&&s.toList.isEmpty)&&dV a
def dV:List T->Bool
 |[]=>true
 |t::r=>shape t&&dV r
end
theorem Ed:∀l:List T,dV l=!l.any λt=>!t.shape
 |[]=>rfl
 |t::r=>by simp only[dV,Cc,Bool.not_or,Bool.not_not,Ed r]
def idx(p:T->Bool):List T->Int
 |[]=>-1
 |t::r=>if p t then 0 else if idx p r<0 then -1 else idx p r+1
theorem KV(p:T->Bool):∀l,0<=idx p l<->l.any p=true
 |[]=>by simp[idx]
 |t::r=>by
  have h:=KV p r;simp only[idx,Cc,eH];rw[<-h];rcases bW (p t)with e|e;·simp[e]
  ·simp only[e,nz,zX,false_or];split<;>omega
theorem Gu(p:T->Bool)(l:List T):decide (0<=idx p l)=l.any p:=by
 rw[jK,bO];exact KV p l
theorem EK(p:T->Bool):∀(l:List T) (j:Nat) (h:j<l.length),(∀m (g:m<j),p l[m]=false)->p l[j]=true->idx p l=j
 |[],j,h,_,_=>by simp at h
 |t::r,0,h,_,a=>by simp only[dI]at a;simp[idx,a]
 |t::r,j+1,h,b,a=>by
  have h0:=b 0 aar;simp only[dI]at h0;have c:=EK p r j aaD (λm g=>by have:=b (m+1) aar;simpa using this) aaG;simp only[idx,h0,c];rw[aH aau,aH aaF];push_cast;rfl
theorem EL(p:T->Bool):∀(l:List T),(∀m (g:m<l.length),p l[m]=false)->idx p l= -1
 |[],_=>rfl
 |t::r,a=>by
  have h0:=a 0 aau;simp only[dI]at h0;have b:=EL p r (λm g=>by have:=a (m+1) (by simpa using g);simpa using this);simp[idx,h0,b]
end T
theorem abQ{p:Prop}(h:p:=by
 obtain⟨j,hj,rfl,o,c⟩:=hrel;have k:=aa o;clear o;by_cases d:j<a.length
 ·obtain⟨b,off,K,L,rfl,d0,d1,d2,hu⟩:=aS.cells d hA hU;obtain⟨y,z,B⟩:=aak c d0 d1 d2;have hi:(j:Int)<(a.length:Int):=aar;clear d0 d1 d2;obtain⟨C,r⟩:=aab (hu.ag c) d;have s:=x.o j d;have D:=aa s;clear s hu;obtain⟨q,t⟩:=aay (p a[j]);have l:=aa t;clear t;go_wp2_with fail;refine(D.o _ _ C.o).m ?_;rintro e M ⟨u,f⟩;have E:e=.returned (.bool q):=u.t (cO l.o);clear u;subst E;replace f:=c.t (f.m c.size);clear y z B;cases q
  ·go_wp2_with fail;go_roundw
   case rel=>
    refine⟨j+1,r.o,aaw,λm h F=>?_,f⟩;rcases bX m j with g|g;·exact k.o m g F
    ·obtain rfl:m=j:=aar;exact l.o
   case measure=>exact aax r.o
  ·have G:=aa (T.EK p a j d (λm g=>k.o m g aar) l.o);go_wp2_with fail;go_ret;exact⟨gI G.o.symm,f⟩
 ·have hi:(a.length:Int)<=(j:Int):=aar;have H:=aa (T.EL p a (λm g=>k.o m aar g));go_wp2_with fail;go_ret;exact⟨gI H.o.symm,c⟩):p:=h
theorem KX(p:T->Bool)(A:Option Addr)(cap:Nat)(a:List T)(U:Nat->Value×Value×Value)(w:World)(I:a.length<=1048576)
 (hA:a.length=0\/∃b off,A=some ⟨b,off,none⟩/\∀i,i<a.length->w.cell? ⟨b,off+i*3,none⟩=some (U i).1/\w.cell? ⟨b,off+i*3+1,none⟩=some (U i).2.1/\w.cell? ⟨b,off+i*3+2,none⟩=some (U i).2.2)
 (hU:∀i (h:i<a.length),aS w (.agg #[(U i).1,(U i).2.1,(U i).2.2]) a[i])
 (n:∀j (h:j<a.length) (v:Value) (W:World),aS W v a[j]->Calls Tryz.prog 158 #[v] W λe w'=>e=.returned (.bool (p a[j]))/\Below W.heap.size W w'):
 Calls Tryz.prog 109 #[.slice A a.length cap,.func (.func 158) #[] #[]] w λe w'=>e=.returned (.int .i64 (T.idx p a))/\Below w.heap.size w w':=by
 have x:=aa n;clear n;go_enter uS,tT;go_wp2_with fail;go_loopw [8] (λi wr=>∃j:Nat,j<=a.length/\i=.int .i64 j/\(∀m (h:m<j) (J:m<a.length),p a[m]=false)/\Below w.heap.size w wr) (λi _=>a.length-(intOf i).toNat);case atStart=>exact⟨0,aT _,rfl,λm h=>absurd h aar,aC _ _⟩
 case round=>
  exact abQ
theorem Gg(p:T->Bool)(A:Option Addr)(cap:Nat)(a:List T)(U:Nat->Value×Value×Value)(w:World)(k:a.length<=1048576)
 (hA:a.length=0\/∃b off,A=some ⟨b,off,none⟩/\∀i,i<a.length->w.cell? ⟨b,off+i*3,none⟩=some (U i).1/\w.cell? ⟨b,off+i*3+1,none⟩=some (U i).2.1/\w.cell? ⟨b,off+i*3+2,none⟩=some (U i).2.2)
 (hU:∀i (h:i<a.length),aS w (.agg #[(U i).1,(U i).2.1,(U i).2.2]) a[i])
 (c:∀j (h:j<a.length) (v:Value) (W:World),aS W v a[j]->Calls Tryz.prog 158 #[v] W λe w'=>e=.returned (.bool (p a[j]))/\Below W.heap.size W w') (r:Bool) (d:a.any p=r):
 Calls Tryz.prog 64 #[.slice A a.length cap,.func (.func 158) #[] #[]] w λe w'=>e=.returned (.bool r)/\Below w.heap.size w w':=by
 obtain⟨f,g⟩:=aab (KX p A cap a U w k hA hU c) ((T.Gu p a).t d);clear d hA hU c;generalize T.idx p a=q at f g;go_enter Tryz.func64,yA;go_wp2_with fail;refine f.o.m ?_;rintro e m ⟨rfl,l⟩;go_wp2_with fail;go_ret;exact⟨cO g.o,l⟩
theorem ML(p:T->Bool)(A:Option Addr)(cap:Nat)(a:List T)(U:Nat->Value×Value×Value)(w:World)(I:a.length<=1048576)
 (hA:a.length=0\/∃b off,A=some ⟨b,off,none⟩/\∀i,i<a.length->w.cell? ⟨b,off+i*3,none⟩=some (U i).1/\w.cell? ⟨b,off+i*3+1,none⟩=some (U i).2.1/\w.cell? ⟨b,off+i*3+2,none⟩=some (U i).2.2)
 (hU:∀i (h:i<a.length),aS w (.agg #[(U i).1,(U i).2.1,(U i).2.2]) a[i])
 (n:∀j (h:j<a.length) (v:Value) (W:World),aS W v a[j]->Calls Tryz.prog 159 #[v] W λe w'=>e=.returned (.bool (p a[j]))/\Below W.heap.size W w'):
 Calls Tryz.prog 109 #[.slice A a.length cap,.func (.func 159) #[] #[]] w λe w'=>e=.returned (.int .i64 (T.idx p a))/\Below w.heap.size w w':=by
 have x:=aa n;clear n;go_enter uS,tT;go_wp2_with fail;go_loopw [8] (λi wr=>∃j:Nat,j<=a.length/\i=.int .i64 j/\(∀m (h:m<j) (J:m<a.length),p a[m]=false)/\Below w.heap.size w wr) (λi _=>a.length-(intOf i).toNat);case atStart=>exact⟨0,aT _,rfl,λm h=>absurd h aar,aC _ _⟩
 case round=>
  exact abQ
theorem Hl(p:T->Bool)(A:Option Addr)(cap:Nat)(a:List T)(U:Nat->Value×Value×Value)(w:World)(k:a.length<=1048576)
 (hA:a.length=0\/∃b off,A=some ⟨b,off,none⟩/\∀i,i<a.length->w.cell? ⟨b,off+i*3,none⟩=some (U i).1/\w.cell? ⟨b,off+i*3+1,none⟩=some (U i).2.1/\w.cell? ⟨b,off+i*3+2,none⟩=some (U i).2.2)
 (hU:∀i (h:i<a.length),aS w (.agg #[(U i).1,(U i).2.1,(U i).2.2]) a[i])
 (c:∀j (h:j<a.length) (v:Value) (W:World),aS W v a[j]->Calls Tryz.prog 159 #[v] W λe w'=>e=.returned (.bool (p a[j]))/\Below W.heap.size W w') (r:Bool) (d:a.any p=r):
 Calls Tryz.prog 64 #[.slice A a.length cap,.func (.func 159) #[] #[]] w λe w'=>e=.returned (.bool r)/\Below w.heap.size w w':=by
 obtain⟨f,g⟩:=aab (ML p A cap a U w k hA hU c) ((T.Gu p a).t d);clear d hA hU c;generalize T.idx p a=q at f g;go_enter Tryz.func64,yA;go_wp2_with fail;refine f.o.m ?_;rintro e m ⟨rfl,l⟩;go_wp2_with fail;go_ret;exact⟨cO g.o,l⟩
theorem Ry(p:T->Bool)(A:Option Addr)(cap:Nat)(a:List T)(U:Nat->Value×Value×Value)(w:World)(I:a.length<=1048576)
 (hA:a.length=0\/∃b off,A=some ⟨b,off,none⟩/\∀i,i<a.length->w.cell? ⟨b,off+i*3,none⟩=some (U i).1/\w.cell? ⟨b,off+i*3+1,none⟩=some (U i).2.1/\w.cell? ⟨b,off+i*3+2,none⟩=some (U i).2.2)
 (hU:∀i (h:i<a.length),aS w (.agg #[(U i).1,(U i).2.1,(U i).2.2]) a[i])
 (n:∀j (h:j<a.length) (v:Value) (W:World),aS W v a[j]->Calls Tryz.prog 78 #[v] W λe w'=>e=.returned (.bool (p a[j]))/\Below W.heap.size W w'):
 Calls Tryz.prog 109 #[.slice A a.length cap,.func (.func 78) #[] #[]] w λe w'=>e=.returned (.int .i64 (T.idx p a))/\Below w.heap.size w w':=by
 have x:=aa n;clear n;go_enter uS,tT;go_wp2_with fail;go_loopw [8] (λi wr=>∃j:Nat,j<=a.length/\i=.int .i64 j/\(∀m (h:m<j) (J:m<a.length),p a[m]=false)/\Below w.heap.size w wr) (λi _=>a.length-(intOf i).toNat);case atStart=>exact⟨0,aT _,rfl,λm h=>absurd h aar,aC _ _⟩
 case round=>
  exact abQ
theorem KL(p:T->Bool)(A:Option Addr)(cap:Nat)(a:List T)(U:Nat->Value×Value×Value)(w:World)(k:a.length<=1048576)
 (hA:a.length=0\/∃b off,A=some ⟨b,off,none⟩/\∀i,i<a.length->w.cell? ⟨b,off+i*3,none⟩=some (U i).1/\w.cell? ⟨b,off+i*3+1,none⟩=some (U i).2.1/\w.cell? ⟨b,off+i*3+2,none⟩=some (U i).2.2)
 (hU:∀i (h:i<a.length),aS w (.agg #[(U i).1,(U i).2.1,(U i).2.2]) a[i])
 (c:∀j (h:j<a.length) (v:Value) (W:World),aS W v a[j]->Calls Tryz.prog 78 #[v] W λe w'=>e=.returned (.bool (p a[j]))/\Below W.heap.size W w') (r:Bool) (d:a.any p=r):
 Calls Tryz.prog 64 #[.slice A a.length cap,.func (.func 78) #[] #[]] w λe w'=>e=.returned (.bool r)/\Below w.heap.size w w':=by
 obtain⟨f,g⟩:=aab (Ry p A cap a U w k hA hU c) ((T.Gu p a).t d);clear d hA hU c;generalize T.idx p a=q at f g;go_enter Tryz.func64,yA;go_wp2_with fail;refine f.o.m ?_;rintro e m ⟨rfl,l⟩;go_wp2_with fail;go_ret;exact⟨cO g.o,l⟩
namespace T
theorem GZ(k:Int)(s:ByteArray)(c:List T):(k=1/\(T.mk k s c).atom=true)\/((k==1)=false/\k=2/\(T.mk k s c).atom=true)\/((k==1)=false/\(k==2)=false/\(T.mk k s c).atom=false):=by
 unfold atom;by_cases h:k=1;·left;subst h;exact⟨rfl,rfl⟩
 ·by_cases h':k=2;·right;left;subst h';exact⟨rfl,rfl,rfl⟩
  ·right;right;have a:(k==1)=false:=(by rw[aD];exact h);have b:(k==2)=false:=(by rw[aD];exact h');exact⟨a,b,by simp only[a,b];rfl⟩
end T
theorem aK(w:World)(o:Obj):(w.alloc o).heap.size=w.heap.size+1:=by show(w.heap.push _).size=_;rw[p9]
theorem ae(w:World)(o:Obj):Below w.heap.size w (w.alloc o):=(aC _ _).alloc (ax _) _
theorem GD(t:T)(v:Value)(w:World)(b:aS w v t)(r:Bool)(a:t.atom=r):
 Calls Tryz.prog 157 #[v] w λe w'=>e=.returned (.bool r)/\Below w.heap.size w w':=by
 cases b with
 |mk k s A cap c U d f h i hA hU=>
  clear hA hU;rcases T.GZ k s c with⟨rfl,e⟩|⟨g,rfl,e⟩|⟨g,j,e⟩;all_goals
   have E:=aa (e.symm.t a);clear e a;go_enter Tryz.func157,Tryz.ntmps157;go_wp2;go_ret;exact⟨cO E.o,ae _ _⟩
theorem Xz(t:T)(v:Value)(w:World)(b:aS w v t)(r:Bool)(a:t.atom=r):
 Calls Tryz.prog 171 #[v] w λe w'=>e=.returned (.bool r)/\Below w.heap.size w w':=by
 cases b with
 |mk k s A cap c U d f h i hA hU=>
  clear hA hU;rcases T.GZ k s c with⟨rfl,e⟩|⟨g,rfl,e⟩|⟨g,j,e⟩;all_goals
   have E:=aa (e.symm.t a);clear e a;go_enter Tryz.func171,Tryz.ntmps171;go_wp2;go_ret;exact⟨cO E.o,ae _ _⟩
theorem Yr(t:T)(v:Value)(w:World)(a:aS w v t):
 Calls Tryz.prog 158 #[v] w λe w'=>e=.returned (.bool (!t.atom))/\Below w.heap.size w w':=by
 have h:=λW b=>GD t v W b t.atom rfl;have H:=aa h;clear h;generalize t.atom=q at*;cases a with
 |mk k s A cap c U d f g i hA hU=>
  have j:=aa (aS.mk k s A cap c U d f g i hA hU);clear hA hU;go_enter Tryz.func158,Tryz.ntmps158;go_wp2_with fail;refine(H.o _ (j.o.ag (ae _ _))).m ?_;rintro e l ⟨rfl,hb⟩;replace hb:=(ae _ _).t (hb.m (ae _ _).size);go_wp2_with fail;go_ret;exact⟨rfl,hb⟩
theorem Yt(t:T)(v:Value)(w:World)(a:aS w v t)(h:∀W,aS W v t->Calls Tryz.prog 130 #[v] W λe w'=>e=.returned (.bool t.shape)/\Below W.heap.size W w'):
 Calls Tryz.prog 159 #[v] w λe w'=>e=.returned (.bool (!t.shape))/\Below w.heap.size w w':=by
 have H:=aa h;clear h;generalize t.shape=q at*;cases a with
 |mk k s A cap b U c d f g hA hU=>
  have i:=aa (aS.mk k s A cap b U c d f g hA hU);clear hA hU;go_enter Tryz.func159,Tryz.ntmps159;go_wp2_with fail;refine(H.o _ (i.o.ag (ae _ _))).m ?_;rintro e j ⟨rfl,hb⟩;replace hb:=(ae _ _).t (hb.m (ae _ _).size);go_wp2_with fail;go_ret;exact⟨rfl,hb⟩
namespace T
theorem qB(k:Int)(s:ByteArray)(a:List T)(h:k≠1)(h':k≠2):(T.mk k s a).shape=((gZ k a&&s.toList.isEmpty)&&!a.any λt=>!t.shape):=by
 simp only[shape,h,h',or_self,zX,Ed]
theorem wI(k:Int)(s:ByteArray)(a:List T)(h:k=1\/k=2):(T.mk k s a).shape=(isName s&&a.length==0):=by
 simp only[shape,h,rD]
end T
theorem abS{p:Prop}(h:p:=by
 rcases F with rfl|rfl;all_goals
  go_wp2_with (go_at_call 72;refine(Nu _ _ ah.o).m ?_;rintro e w' ⟨rfl,rfl⟩);go_ret;exact⟨cO d.o,f⟩):p:=h
theorem abU{p:Prop}(h:p:=by
 have d:=aa (show(!a.any λt=>!t.shape)=R by rw[<-c,hd,hs0];rfl);obtain⟨q,u⟩:=aay (a.any λt=>!t.shape);have x:=aa u;clear c hd u;skip;go_wp2_with ((go_at_call 64;refine(S.o _ aaL q x.o).m ?_;rintro e w3 ⟨rfl,G⟩));go_ret;exact⟨cO aaM,f.t (G.m f.size)⟩):p:=h
theorem abV{p:Prop}(h:p:=by
 rcases hA with h|⟨b,off,e,hc⟩;·exact .inl h
 ·exact .inr ⟨b,off,e,λi hi=>by obtain⟨c0,c1,c2⟩:=hc i hi;exact⟨af y c0,af y c1,af y c2⟩⟩):p:=h
theorem abZ{p:Prop}(h:p:=by
 have d:=aa (show false=R by rw[<-c,hd,hs0];rfl);clear c hd;skip;go_wp2_with (fail);go_ret;exact⟨cO d.o,f⟩):p:=h
theorem Ye:∀(N:Nat) (t:T) (v:Value) (w:World),t.bE<N->aS w v t->t.bE<=1048576->
 Calls Tryz.prog 130 #[v] w λe w'=>e=.returned (.bool t.shape)/\Below w.heap.size w w':=by
 intro N;induction N with
 |zero=>intro t v w h;omega
 |succ N ih=>
  intro t v w hN ht aB;cases ht with
  |mk k s A cap a U h1 h2 h3 h4 hA hU=>
   simp only[T.bE]at hN aB;have av:a.length<=1048576:=(aaz (T.lq a));have ax:=iQ w (.int .i64 k) (.string s) (.slice A a.length cap) 29;have f:=ae w (.cells #[.int .i64 k,.string s,.slice A a.length cap] 29);obtain⟨R,c⟩:=aay ((T.mk k s a).shape);rw[c];go_enter Tryz.func130,Tryz.ntmps130;go_upto_region 1 with fail;generalize w.alloc _=Q at ax f⊢;obtain⟨x0,L,M⟩:=ax;have ay:∀W,Below Q.heap.size Q W->∀r,(a.any λt=>!t.shape)=r->Calls Tryz.prog 64 #[.slice A a.length cap,.func (.func 159) #[] #[]] W λe w'=>e=.returned (.bool r)/\Below W.heap.size W w':=λW hW r hr=>by
    have y:=f.t (hW.m f.size);refine Hl (λt=>!t.shape) A cap a U W av ?_ (λi h=>(hU i h).ag y) ?_ r hr
    ·exact abV
    ·intro j h v' W' hv;have:=T.jq a j h;exact Yt _ _ _ hv λaG aF=>ih _ _ _ aar aF aar
   have az:∀W,Below Q.heap.size Q W->∀r,(a.any λt=>!t.atom)=r->Calls Tryz.prog 64 #[.slice A a.length cap,.func (.func 158) #[] #[]] W λe w'=>e=.returned (.bool r)/\Below W.heap.size W w':=λW hW r hr=>by
    have y:=f.t (hW.m f.size);refine Gg (λt=>!t.atom) A cap a U W av ?_ (λi h=>(hU i h).ag y) ?_ r hr
    ·exact abV
    ·intro j h v' W' hv;exact Yr _ _ _ hv
   obtain⟨S,aA,BA,BU,ah⟩:=aae ay az hA hU h2;clear ay az hA hU h2 ih;by_cases F:k=1\/k=2
   ·rw[T.wI k s a F]at c;rcases bW (T.isName s)with V|V
    ·by_cases E:a.length=0
     ·have d:=aa (show true=R by rw[<-c,V,E];rfl);have g:((a.length:Int)==0)=true:=(by rw[E];rfl);have HL:=aa E;clear c E;exact abS
     ·have d:=aa (show false=R by rw[<-c,V,lu];exact(aD.2 E).symm);have g:((a.length:Int)==0)=false:=aaI;clear c E;exact abS
    ·have d:=aa (show false=R by rw[<-c,V];rfl);clear c;exact abS
   ·have o:k≠1:=λh=>F (.inl h);have p:k≠2:=λh=>F (.inr h);rw[T.qB k s a o p]at c;have z:(k==1)=false:=(by rw[aD];exact o);have B:(k==2)=false:=(by rw[aD];exact p);clear F;by_cases n:k=3\/k=5
    ·by_cases m:a.length=2
     ·have hd:T.gZ k a=true:=(by unfold T.gZ;rw[aJ n,m];rfl);have g:((a.length:Int) != 2)=false:=(by rw[m];rfl);have HL:=aa m;clear m o p z B;rcases n with rfl|rfl;all_goals
       rcases bW s.toList.isEmpty with hs0|hs0
       ·exact abU
       ·exact abZ
     have hd:T.gZ k a=false:=(by unfold T.gZ;rw[aJ n];exact aD.2 m);have d:=aa (show false=R by rw[<-c,hd];rfl);have g:((a.length:Int) != 2)=true:=aaN;clear m o p z B hd c;rcases n with rfl|rfl;all_goals
      go_wp2_with fail;go_ret;exact⟨cO d.o,f⟩
    have H:(k==3)=false:=aaI;have I:(k==5)=false:=aaI;by_cases C:k=6
    ·subst C;by_cases m:a.length=2
     ·have E:0<a.length:=aar;obtain⟨b,off,B1,C1,rfl,d0,d1,d2,hu⟩:=aS.cells E BA.o BU.o;obtain⟨e0,e1,e2⟩:=aak f d0 d1 d2;simp only[qV,fC]at e0 e1 e2;have HU:=aa (hu.ag f);have g:((a.length:Int) != 2)=false:=(by rw[m];rfl);have aI:(0:Int)<(a.length:Int):=aar;have D:T.gZ 6 a=a[0].atom:=aaO;obtain⟨X,J⟩:=aay (a[0].atom);have O:=aa J;have hd:=D.t J;have HL:=aa m;clear d0 d1 d2 D J hu m o p z B H I n;cases X
      ·have d:=aa (show false=R by rw[<-c,hd];rfl);clear c hd;go_wp2_with (go_at_call 157;refine(GD _ _ _ HU.o _ O.o).m ?_;rintro e Y ⟨rfl,l⟩;obtain⟨Z,y1,y2⟩:=aak l x0 L M);go_ret;exact⟨cO d.o,f.t (l.m f.size)⟩
      ·rcases bW s.toList.isEmpty with hs0|hs0
       ·have d:=aa (show(!a.any λt=>!t.shape)=R by rw[<-c,hd,hs0];rfl);obtain⟨q,u⟩:=aay (a.any λt=>!t.shape);have x:=aa u;clear c hd u;skip;go_wp2_with (first|(go_at_call 157;refine(GD _ _ _ HU.o _ O.o).m ?_;rintro e Y ⟨rfl,l⟩;obtain⟨Z,y1,y2⟩:=aak l x0 L M)|(go_at_call 64;refine(S.o _ aaL q x.o).m ?_;rintro e w3 ⟨rfl,G⟩));go_ret;exact⟨cO aaM,f.t ((l.t (G.m l.size)).m f.size)⟩
       ·have d:=aa (show false=R by rw[<-c,hd,hs0];rfl);clear c hd;skip;go_wp2_with (first|(go_at_call 157;refine(GD _ _ _ HU.o _ O.o).m ?_;rintro e Y ⟨rfl,l⟩;obtain⟨Z,y1,y2⟩:=aak l x0 L M)|fail);go_ret;exact⟨cO d.o,f.t (l.m f.size)⟩
     have hd:T.gZ 6 a=false:=aaO;have d:=aa (show false=R by rw[<-c,hd];rfl);have g:((a.length:Int) != 2)=true:=aaN;clear m o p z B H I n hd c;go_wp2_with fail;go_ret;exact⟨cO d.o,f⟩
    have P:(k==6)=false:=(by rw[aD];exact C);by_cases K:k=4
    ·subst K;by_cases m:a.length=1
     ·have hd:T.gZ 4 a=true:=aaO;have g:((a.length:Int) != 1)=false:=(by rw[m];rfl);have HL:=aa m;clear m o p z B H I n C P;rcases bW s.toList.isEmpty with hs0|hs0
      ·exact abU
      ·exact abZ
     have hd:T.gZ 4 a=false:=aaO;have d:=aa (show false=R by rw[<-c,hd];rfl);have g:((a.length:Int) != 1)=true:=aaN;clear m o p z B H I n C P hd c;go_wp2_with fail;go_ret;exact⟨cO d.o,f⟩
    have ak:(k==4)=false:=(by rw[aD];exact K);by_cases k7:k=7
    ·subst k7;have D:T.gZ 7 a=((decide (1<=a.length)&&decide (a.length<=4))&&!a.any (λt=>!t.atom)):=(by unfold T.gZ;simp);by_cases l1:a.length<1
     ·have hd:T.gZ 7 a=false:=(by rw[D,cu aaF];rfl);have d:=aa (show false=R by rw[<-c,hd];rfl);have g:(a.length:Int)<1:=aar;clear l1 o p z B H I n C P K ak hd c D;go_wp2_with fail;go_ret;exact⟨cO d.o,f⟩
     by_cases l4:4<a.length
     ·have hd:T.gZ 7 a=false:=(by rw[D,cu (show ¬a.length<=4 by omega),zH];rfl);have d:=aa (show false=R by rw[<-c,hd];rfl);have g:(1:Int)<=(a.length:Int):=aar;have g':(4:Int)<(a.length:Int):=aar;clear l1 l4 o p z B H I n C P K ak hd c D;go_wp2_with fail;go_ret;exact⟨cO d.o,f⟩
     obtain⟨X,J⟩:=aay (a.any λt=>!t.atom);have O:=aa J;have hd:T.gZ 7 a=!X:=(by rw[D,aM aar,aM aar,J];rfl);have g:(1:Int)<=(a.length:Int):=aar;have g':(a.length:Int)<=4:=aar;clear l1 l4 o p z B H I n C P K ak D J;cases X;rotate_left
     ·have d:=aa (show false=R by rw[<-c,hd];rfl);clear c hd;go_wp2_with (go_at_call 64;refine(aA.o _ (aC _ _) _ O.o).m ?_;rintro e Y ⟨rfl,l⟩;obtain⟨Z,y1,y2⟩:=aak l x0 L M);go_ret;exact⟨cO d.o,f.t (l.m f.size)⟩
     rw[vE]at hd;go_wp2_with fail;refine(aA.o _ (aC _ _) _ O.o).m ?_;rintro e Y ⟨rfl,l⟩;obtain⟨Z,y1,y2⟩:=aak l x0 L M;clear x0 L M;rcases bW s.toList.isEmpty with hs0|hs0
     ·have d:=aa (show(!a.any λt=>!t.shape)=R by rw[<-c,hd,hs0];rfl);obtain⟨q,u⟩:=aay (a.any λt=>!t.shape);have x:=aa u;clear c hd u;skip;go_wp2_with ((go_at_call 64;refine(S.o _ aaL q x.o).m ?_;rintro e w3 ⟨rfl,G⟩));go_ret;exact⟨cO aaM,f.t ((l.t (G.m l.size)).m f.size)⟩
     ·have d:=aa (show false=R by rw[<-c,hd,hs0];rfl);clear c hd;skip;go_wp2_with (fail);go_ret;exact⟨cO d.o,f.t (l.m f.size)⟩
    have aK:(k==7)=false:=(by rw[aD];exact k7);have hd:T.gZ k a=false:=(by unfold T.gZ;rw[aH n,aH C,aH K,aH k7]);have d:=aa (show false=R by rw[<-c,hd];rfl);clear hd c n C K k7 o p;go_wp2_with fail;go_ret;exact⟨cO d.o,f⟩
namespace T
theorem DC(k:Int)(a:List T):(gZ k a=false/\(((k=3\/k=5\/k=6)/\a.length≠2)\/(k=4/\a.length≠1)\/(k=7/\(a.length=0\/4<a.length))\/(k≠3/\k≠4/\k≠5/\k≠6/\k≠7)))\/
 (((k=3\/k=5\/k=6)/\a.length=2)\/(k=4/\a.length=1)\/(k=7/\(a.length=1\/a.length=2\/a.length=3\/a.length=4))):=by
 by_cases c:k=3\/k=5
 ·by_cases l:a.length=2;·right;left;exact⟨aar,l⟩
  ·left;exact⟨by unfold gZ;rw[aJ c];exact aD.2 l,.inl ⟨aar,l⟩⟩
 by_cases d:k=6
 ·by_cases l:a.length=2;·right;left;exact⟨aar,l⟩
  ·left;exact⟨by unfold gZ;rw[aH c,aJ d];simp[l],.inl ⟨aar,l⟩⟩
 by_cases b:k=4
 ·by_cases l:a.length=1;·right;right;left;exact⟨b,l⟩
  ·left;exact⟨by unfold gZ;rw[aH c,aH d,aJ b];exact aD.2 l,.inr (.inl ⟨b,l⟩)⟩
 by_cases e:k=7
 ·by_cases l:1<=a.length/\a.length<=4;·right;right;right;exact⟨e,aar⟩
  ·left;refine⟨?_,.inr (.inr (.inl ⟨e,aar⟩))⟩;unfold gZ;rw[aH c,aH d,aH b,aJ e];have:(decide (1<=a.length)&&decide (a.length<=4))=false:=(by rw[<-Bool.decide_and];exact cu l);rw[this];rfl
 ·left;exact⟨by unfold gZ;rw[aH c,aH d,aH b,aH e],.inr (.inr (.inr ⟨aar,b,aar,d,e⟩))⟩
theorem Tv(p:T->Bool)(l:List T)(j:Nat)(h:j<l.length)(a:p l[j]=true):l.any p=true:=dM.2 ⟨l[j],aP h,a⟩
theorem any_none(p:T->Bool)(l:List T)(h:∀j (g:j<l.length),p l[j]=false):l.any p=false:=by
 rw[fH];intro x a;obtain⟨j,hj,rfl⟩:=bL a;rw[h j hj];decide
end T
theorem ab1{p:Prop}(h:p:=by
 have d:=aa (aJ.o j x.o y.o);go_wp2_with fail;go_ret;exact⟨cO d.o,f.t (c.m f.size)⟩):p:=h
theorem abR{p:Prop}(h:p:=by
 obtain⟨b,off,O,P,rfl,ak,⟨B,C,D⟩,hu,E,F⟩:=aF.o j (aaz H.o) wr p;have hi:(j:Int)<(a.length:Int):=aar;rw[I]at hi;push_cast at hi;obtain⟨G,x,ax,az,J,Y⟩:=aaf hu X E F p l;obtain⟨q,u⟩:=aay (a[j].shape);have y:=aa u;clear hu E F u p hj l;go_wp2_with fail;refine(IH.o _ _ _ ax.o G.o az.o).m ?_;rintro e w2 ⟨Z,c⟩;have aB:e=.returned (.bool q):=Z.t (cO y.o);clear Z;subst aB;obtain⟨f0,f1,f2,y0,y1,y2⟩:=aan c B C D z0 V z2;have aK:=aa (G.o.ag c);replace c:=Y.o.t (c.m Y.o.size);clear B C D z0 V z2 x0 x1 x2;cases q
 ·exact ab1
 ·go_wp2_with fail;go_roundw
  case rel=>
   refine⟨j+1,x.o,aaw,λm h g1=>?_,c⟩;rcases bX m j with g|g;·exact S.o m g g1
   ·obtain rfl:m=j:=aar;exact y.o
  case measure=>have:=x.o;have:=H.o;simp[intOf];omega):p:=h
theorem abT{p:Prop}(h:p:=by
 rcases K with rfl|rfl;all_goals
  go_wp2_with (go_at_call 83;refine(U1 _ _ aH.o).m ?_;rintro e w' ⟨rfl,rfl⟩);go_ret;exact⟨cO d.o,f⟩):p:=h
theorem abX{p:Prop}(h:p:=by
 rcases o with o|o;all_goals
  go_wp2_with fail;go_ret;exact⟨cO d.o,f⟩):p:=h
theorem WM:∀(N:Nat) (t:T) (v:Value) (w:World),t.bE<N->aS w v t->t.bE<=1048576->
 Calls Tryz.prog 135 #[v] w λe w'=>e=.returned (.bool t.shape)/\Below w.heap.size w w':=by
 intro N;induction N with
 |zero=>intro t v w h;omega
 |succ N ih=>
  intro t v w hN ht aP;cases ht with
  |mk k s A cap a U h1 h2 h3 h4 hA hU=>
   simp only[T.bE]at hN aP;have aV:a.length<=1048576:=(aaz (T.lq a));have aM:=iQ w (.int .i64 k) (.string s) (.slice A a.length cap) 29;have f:=ae w (.cells #[.int .i64 k,.string s,.slice A a.length cap] 29);obtain⟨R,r⟩:=aay ((T.mk k s a).shape);rw[r];go_enter Tryz.func135,Tryz.ntmps135;go_upto_region 2 with fail;generalize w.alloc _=w1 at aM f⊢;obtain⟨x0,x1,x2⟩:=aM;obtain⟨BA,BU,aH,IH⟩:=aad hA hU h2 ih;clear hA hU h2 ih;by_cases K:k=1\/k=2
   ·rw[T.wI k s a K]at r;rcases bW (T.isName s)with hn|hn
    ·by_cases l0:a.length=0
     ·have d:=aa (show true=R by rw[<-r,hn,l0];rfl);have g:((a.length:Int)==0)=true:=(by rw[l0];rfl);have H:=aa l0;clear r l0;exact abT
     ·have d:=aa (show false=R by rw[<-r,hn,lu];exact(aD.2 l0).symm);have g:((a.length:Int)==0)=false:=aaI;clear r l0;exact abT
    ·have d:=aa (show false=R by rw[<-r,hn];rfl);clear r;exact abT
   have L:k≠1:=λh=>K (.inl h);have M:k≠2:=λh=>K (.inr h);rw[T.qB k s a L M]at r;rcases T.DC k a with⟨hd,hc⟩|hc
   ·have d:=aa (show false=R by rw[<-r,hd];rfl);clear r hd K;have o:s.toList.isEmpty=true\/s.toList.isEmpty=false:=bW _;rcases hc with⟨hk,hl⟩|⟨rfl,hl⟩|⟨rfl,hl⟩|⟨g3,g4,g5,g6,g7⟩
    ·have g:((a.length:Int) != 2)=true:=aaN;clear hl L M;rcases hk with rfl|rfl|rfl;all_goals
      rcases o with o|o;all_goals
       go_wp2_with fail;go_ret;exact⟨cO d.o,f⟩
    ·have g:((a.length:Int) != 1)=true:=aaN;clear hl L M;exact abX
    ·clear L M;rcases hl with hl|hl
     ·exact abX
     ·have g:(4:Int)<(a.length:Int):=aar;have g1:(1:Int)<=(a.length:Int):=aar;have g2:((a.length:Int) != 4)=true:=aaN;exact abX
    ·have aW:(k==1)=false:=(by rw[aD];exact L);have aX:(k==2)=false:=(by rw[aD];exact M);have aY:(k==3)=false:=(by rw[aD];exact g3);have aZ:(k==4)=false:=(by rw[aD];exact g4);have bf:(k==5)=false:=(by rw[aD];exact g5);have bg:(k==6)=false:=(by rw[aD];exact g6);have bi:(k==7)=false:=(by rw[aD];exact g7);clear L M g3 g4 g5 g6 g7;go_wp2_with fail;go_ret;exact⟨cO d.o,f⟩
   ·have aQ:(k=3\/k=5\/k=6)\/k=4\/k=7:=aar;have z:∃n,a.length=n/\1<=n/\n<=4/\((k=3/\n=2\/k=5/\n=2\/k=4/\n=1)\/(k=6/\n=2)\/(k=7/\n=1\/k=7/\n=2\/k=7/\n=3\/k=7/\n=4)):=⟨a.length,rfl,aar,aar,aar⟩;obtain⟨n,I,n1,n4,z⟩:=z;clear aQ hc K;rcases bW s.toList.isEmpty with o|o;rotate_left
    ·have d:=aa (show false=R by rw[<-r,o,zH];rfl);clear r L M n1 n4;rcases z with(⟨rfl,rfl⟩|⟨rfl,rfl⟩|⟨rfl,rfl⟩)|⟨rfl,rfl⟩|(⟨rfl,rfl⟩|⟨rfl,rfl⟩|⟨rfl,rfl⟩|⟨rfl,rfl⟩);all_goals
      go_wp2_with fail;go_ret;exact⟨cO d.o,f⟩
    have av:(T.gZ k a&&!a.any λt=>!t.shape)=R:=(by rw[<-r,o,xg]);have aJ:=aa (λj (h:j<a.length) (hp:a[j].shape=false)=>show false=R by rw[<-av,T.Tv (λt=>!t.shape) a j h (by simp only[hp];rfl)];simp);have aR:=aa (λj (h:j<a.length) (hk:k=7) (hp:a[j].atom=false)=>show false=R by
     rw[<-av];subst hk;unfold T.gZ;have:=T.Tv (λt=>!t.atom) a j h (by simp only[hp];rfl);simp[this])
    have aN:=aa (λ(hp:∀j (g:j<a.length),a[j].shape=true) (u:k=7->∀j (g:j<a.length),a[j].atom=true) (h6:k≠6)=>show true=R by
     rw[<-av,T.any_none (λt=>!t.shape) a (λj g=>by simp only[hp j g];rfl),vE,xg];unfold T.gZ;by_cases h7:k=7
     ·have:=T.any_none (λt=>!t.atom) a (λj g=>by simp only[u h7 j g];rfl);simp[h7,this,I];omega
     ·rcases z with(⟨rfl,rfl⟩|⟨rfl,rfl⟩|⟨rfl,rfl⟩)|⟨rfl,rfl⟩|(⟨rfl,rfl⟩|⟨rfl,rfl⟩|⟨rfl,rfl⟩|⟨rfl,rfl⟩);all_goals first|(simp[I];done)|exact absurd rfl h6|exact absurd rfl h7)
    have aU:=aa (λ(hp:∀j (g:j<a.length),a[j].shape=true) (h6:k=6) (h0:0<a.length)=>show a[0].atom=R by
     rw[<-av,T.any_none (λt=>!t.shape) a (λj g=>by simp only[hp j g];rfl),vE,xg];have h2:a.length=2:=aar;unfold T.gZ;subst h6;simp[h2])
    have aO:∀j,j<n->∀W,Below w.heap.size w W->∃b off O P,A=some ⟨b,off,none⟩/\∃h:j<a.length,(W.cell? ⟨b,off+j*3,none⟩=some (.int .i64 a[j].aA)/\W.cell? ⟨b,off+j*3+1,none⟩=some (.string a[j].aI)/\W.cell? ⟨b,off+j*3+2,none⟩=some (.slice O a[j].ay.length P))/\
     aS W (.agg #[.int .i64 a[j].aA,.string a[j].aI,.slice O a[j].ay.length P]) a[j]/\a[j].bE<N/\a[j].bE<=1048576:=λj hj W hW=>by
     have ak:j<a.length:=aar;obtain⟨b,off,O,P,rfl,d0,d1,d2,hu⟩:=aS.cells ak BA.o BU.o;have:=T.jq a j ak;exact⟨b,off,O,P,rfl,ak,⟨af hW d0,af hW d1,af hW d2⟩,hu.ag hW,aar,aar⟩
    obtain⟨aF,bn,H⟩:=aac aO z I;clear aO r av L M BA BU;rcases z with z|⟨rfl,rfl⟩|z
    ·rcases z with⟨rfl,rfl⟩|⟨rfl,rfl⟩|⟨rfl,rfl⟩;all_goals
      go_wp2_with fail;go_loopw [4] (λi wr=>∃j:Nat,j<=a.length/\i=.int .i64 j/\(∀m (_:m<j) (h1:m<a.length),a[m].shape=true)/\Below w1.heap.size w1 wr) (λi _=>4-(intOf i).toNat);case atStart=>exact⟨0,aT _,rfl,λm h=>absurd h aar,aC _ _⟩
      case round=>
       obtain⟨j,hj,rfl,Q,l⟩:=hrel;have S:=aa Q;clear Q;obtain⟨z0,V,z2⟩:=aak l x0 x1 x2;have p:=f.t (l.m f.size);by_cases X:j<a.length
       ·exact abR
       ·have ah:(a.length:Int)<=(j:Int):=aar;rw[I]at ah;push_cast at ah;have HP:=aa (λm (g:m<a.length)=>S.o m aar g);have J:=aa p;clear X hj;have d:=aa (aN.o (λm g=>HP.o m g) (λh=>absurd h aat) aat);go_wp2_with fail;go_ret;exact⟨cO d.o,J.o⟩
    ·skip;go_wp2_with fail;go_loopw [4] (λi wr=>∃j:Nat,j<=a.length/\i=.int .i64 j/\(∀m (_:m<j) (h1:m<a.length),a[m].shape=true)/\Below w1.heap.size w1 wr) (λi _=>4-(intOf i).toNat);case atStart=>exact⟨0,aT _,rfl,λm h=>absurd h aar,aC _ _⟩
     case round=>
      obtain⟨j,hj,rfl,Q,l⟩:=hrel;have S:=aa Q;clear Q;obtain⟨z0,V,z2⟩:=aak l x0 x1 x2;have p:=f.t (l.m f.size);by_cases X:j<a.length
      ·exact abR
      ·have ah:(a.length:Int)<=(j:Int):=aar;rw[I]at ah;push_cast at ah;have HP:=aa (λm (g:m<a.length)=>S.o m aar g);have J:=aa p;clear X hj;have bq:0<a.length:=(aaz H.o);obtain⟨b,off,O,P,rfl,ak,⟨B,C,D⟩,hu,E,F⟩:=aF.o 0 aar wr p;simp only[qV,fC]at B C D;have G:=aa hu;have d:=aa (aU.o (λm g=>HP.o m g) aat (aaz H.o));clear hu E F p;go_wp2_with (go_at_call 171;refine(Xz _ _ _ G.o _ d.o).m ?_;rintro e w2 ⟨rfl,c⟩);go_ret;exact⟨rfl,J.o.t (c.m J.o.size)⟩
    ·rcases z with⟨rfl,rfl⟩|⟨rfl,rfl⟩|⟨rfl,rfl⟩|⟨rfl,rfl⟩;all_goals
      go_wp2_with fail;go_loopw [4] (λi wr=>∃j:Nat,j<=a.length/\i=.int .i64 j/\(∀m (_:m<j) (h1:m<a.length),a[m].shape=true/\a[m].atom=true)/\Below w1.heap.size w1 wr) (λi _=>4-(intOf i).toNat);case atStart=>exact⟨0,aT _,rfl,λm h=>absurd h aar,aC _ _⟩
      case round=>
       obtain⟨j,hj,rfl,Q,l⟩:=hrel;have S:=aa Q;clear Q;obtain⟨z0,V,z2⟩:=aak l x0 x1 x2;have p:=f.t (l.m f.size);by_cases X:j<a.length
       ·obtain⟨b,off,O,P,rfl,ak,⟨B,C,D⟩,hu,E,F⟩:=aF.o j (aaz H.o) wr p;have hi:(j:Int)<(a.length:Int):=aar;rw[I]at hi;push_cast at hi;obtain⟨G,x,ax,az,J,Y⟩:=aaf hu X E F p l;obtain⟨q,u⟩:=aay (a[j].shape);have y:=aa u;clear hu E F u p hj l;go_wp2_with fail;refine(IH.o _ _ _ ax.o G.o az.o).m ?_;rintro e w2 ⟨Z,c⟩;have aB:e=.returned (.bool q):=Z.t (cO y.o);clear Z;subst aB;obtain⟨f0,f1,f2,y0,y1,y2⟩:=aan c B C D z0 V z2;have aK:=aa (G.o.ag c);replace c:=Y.o.t (c.m Y.o.size);clear B C D z0 V z2 x0 x1 x2;cases q
        ·exact ab1
        ·obtain⟨q,u⟩:=aay (a[j].atom);have aL:=aa u;clear u;go_wp2_with fail;refine(Xz _ _ _ aK.o q aL.o).m ?_;rintro e w3 ⟨rfl,aG⟩;replace aG:=c.t (aG.m c.size);clear y0 y1 y2 f0 f1 f2;cases q
         ·have d:=aa (aR.o j x.o aat aL.o);go_wp2_with fail;go_ret;exact⟨cO d.o,f.t (aG.m f.size)⟩
         go_wp2_with fail;go_roundw
         case rel=>
          refine⟨j+1,x.o,aaw,λm h g1=>?_,aG⟩;rcases bX m j with g|g;·exact S.o m g g1
          ·obtain rfl:m=j:=aar;exact⟨y.o,aL.o⟩
         case measure=>have:=x.o;have:=H.o;simp[intOf];omega
       ·have ah:(a.length:Int)<=(j:Int):=aar;rw[I]at ah;push_cast at ah;have HP:=aa (λm (g:m<a.length)=>S.o m aar g);have J:=aa p;clear X hj;have d:=aa (aN.o (λm g=>(HP.o m g).1) (λ_ m g=>(HP.o m g).2) aat);go_wp2_with fail;go_ret;exact⟨cO d.o,J.o⟩
namespace T
mutual
def hasVar:T->Bool
 |.mk k _ a=>k==2||nR a
def nR:List T->Bool
 |[]=>false
 |t::r=>hasVar t||nR r
end
theorem nS:∀l:List T,nR l=l.any hasVar
 |[]=>rfl
 |t::r=>by simp only[nR,Cc,nS r]
def eZ(t:T):Bool:=decide (t.size<=40)&&t.shape
def ground(t:T):Bool:=t.eZ&&!t.hasVar
end T
theorem ZT:∀(N:Nat) (t:T) (v:Value) (w:World),t.bE<N->aS w v t->t.bE<=1048576->
 Calls Tryz.prog 78 #[v] w λe w'=>e=.returned (.bool t.hasVar)/\Below w.heap.size w w':=by
 intro N;induction N with
 |zero=>intro t v w h;omega
 |succ N m=>
  intro t v w o p q;cases p with
  |mk k s A cap a U F G H I hA hU=>
   simp only[T.bE]at o q;have u:a.length<=1048576:=(aaz (T.lq a));have c:=ae w (.cells #[.int .i64 k,.string s,.slice A a.length cap] 29);obtain⟨R,d⟩:=aay ((T.mk k s a).hasVar);rw[d];simp only[T.hasVar,T.nS]at d;have n:∀r,(a.any T.hasVar)=r->Calls Tryz.prog 64 #[.slice A a.length cap,.func (.func 78) #[] #[]] (w.alloc (.cells #[.int .i64 k,.string s,.slice A a.length cap] 29)) λe w'=>e=.returned (.bool r)/\Below (w.alloc (.cells #[.int .i64 k,.string s,.slice A a.length cap] 29)).heap.size (w.alloc (.cells #[.int .i64 k,.string s,.slice A a.length cap] 29)) w':=λr x=>by
    refine KL T.hasVar A cap a U _ u ?_ (λi h=>(hU i h).ag c) ?_ r x
    ·rcases hA with h|⟨b,off,e,y⟩;·exact .inl h
     ·exact .inr ⟨b,off,e,λi hi=>by obtain⟨z,c1,c2⟩:=y i hi;exact⟨af c z,af c c1,af c c2⟩⟩
    ·intro j h J W' B;have:=T.jq a j h;exact m _ _ _ aar B aar
   obtain⟨C,f⟩:=aab n c;clear n hA hU m c;by_cases g:k=2
   ·subst g;have l:=aa (show true=R by rw[<-d];rfl);clear d;go_enter Tryz.func78,Tryz.ntmps78;go_wp2_with fail;go_ret;exact⟨cO l.o,f.o⟩
   ·have D:(k==2)=false:=(by rw[aD];exact g);have l:=aa (show(a.any T.hasVar)=R by rw[<-d,D];rfl);clear d g;go_enter Tryz.func78,Tryz.ntmps78;go_wp2_with (go_at_call 64;refine(C.o _ l.o).m ?_;rintro e K ⟨rfl,E⟩);go_ret;exact⟨rfl,f.o.t (E.m f.o.size)⟩
theorem Az(t:T)(v:Value)(w:World)(C:aS w v t)(l:t.bE<=1048576)(r:Bool)(c:Int)(u:t.eZ=r)(m:r=true/\c=0\/r=false/\c=76):
 Calls Tryz.prog 77 #[v] w λe w'=>e=.returned (.int .i64 c)/\Below w.heap.size w w':=by
 have D:=aa (λW o=>Zc (t.bE+1) t v W aar o l);have E:=aa (λW o=>Ye (t.bE+1) t v W aar o l);have hb:=t.size_le;have d:(decide (t.size<=40)&&t.shape)=r:=u;clear u l;generalize t.size=n at*;generalize t.shape=q at*;cases C with
 |mk k s A cap f U F G H I hA hU=>
  have J:=aa (aS.mk k s A cap f U F G H I hA hU);have x:=iQ w (.int .i64 k) (.string s) (.slice A f.length cap) 29;have h:=ae w (.cells #[.int .i64 k,.string s,.slice A f.length cap] 29);clear hA hU hb;go_enter Tryz.func77,Tryz.ntmps77;go_upto_region 1 with fail;generalize w.alloc _=N at x h⊢;obtain⟨x0,y,z⟩:=x;have B:=aa (J.o.ag h);go_wp2_with fail;refine(D.o _ B.o).m ?_;rintro e O ⟨rfl,a⟩;obtain⟨P,Q,R⟩:=aak a x0 y z;have K:=aa (B.o.ag a);replace a:=h.t (a.m h.size);clear x0 y z;by_cases i:n<=40
  ·have g:(n:Int)<=40:=aar;have j:=aa (show q=r by rw[<-d,aM i,lu]);clear d i;go_wp2_with fail;refine(E.o _ K.o).m ?_;rintro e w3 ⟨rfl,p⟩;replace p:=a.t (p.m a.size);rcases m with⟨b,rfl⟩|⟨b,rfl⟩;all_goals
    have L:=j.o.t b;subst L;clear j b;go_wp2_with fail;go_ret;exact⟨rfl,p⟩
  ·have g:40<(n:Int):=aar;have j:=aa (show false=r by rw[<-d,cu i];rfl);have M:c=76:=by
    have:=j.o;rcases m with⟨b,_⟩|⟨_,b⟩;·rw[b]at this;cases this
    ·exact b
   subst M;clear d i m;go_wp2_with fail;go_ret;exact⟨rfl,a⟩
theorem EU(t:T)(v:Value)(w:World)(B:aS w v t)(l:t.bE<=1048576)(r:Bool)(c:Int)(p:t.eZ=r)(m:r=true/\c=0\/r=false/\c=76):
 Calls Tryz.prog 87 #[v] w λe w'=>e=.returned (.int .i64 c)/\Below w.heap.size w w':=by
 have C:=aa (λW o=>Zl (t.bE+1) t v W aar o l);have D:=aa (λW o=>WM (t.bE+1) t v W aar o l);have hb:=t.size_le;have d:(decide (t.size<=40)&&t.shape)=r:=p;clear p l;generalize t.size=n at*;generalize t.shape=q at*;cases B with
 |mk k s A cap f U E F G H hA hU=>
  have I:=aa (aS.mk k s A cap f U E F G H hA hU);have u:=iQ w (.int .i64 k) (.string s) (.slice A f.length cap) 29;have h:=ae w (.cells #[.int .i64 k,.string s,.slice A f.length cap] 29);clear hA hU hb;go_enter Tryz.func87,Tryz.ntmps87;go_upto_region 1 with fail;generalize w.alloc _=L at u h⊢;obtain⟨x0,x,y⟩:=u;have z:=aa (I.o.ag h);go_wp2_with fail;refine(D.o _ z.o).m ?_;rintro e M ⟨rfl,a⟩;obtain⟨N,O,P⟩:=aak a x0 x y;have J:=aa (z.o.ag a);replace a:=h.t (a.m h.size);clear x0 x y;cases q
  ·have i:=aa (show false=r by rw[<-d,zH]);have K:c=76:=by
    have:=i.o;rcases m with⟨b,_⟩|⟨_,b⟩;·rw[b]at this;cases this
    ·exact b
   subst K;clear d m;go_wp2_with fail;go_ret;exact⟨rfl,a⟩
  ·have i:=aa (show decide (n<=40)=r by rw[<-d,xg]);clear d;go_wp2_with fail;refine(C.o _ J.o).m ?_;rintro e w3 ⟨rfl,j⟩;replace j:=a.t (j.m a.size);rcases m with⟨b,rfl⟩|⟨b,rfl⟩
   ·have g:(n:Int)<=40:=(by have:=i.o.t b;simp at this;omega);go_wp2_with fail;go_ret;exact⟨rfl,j⟩
   ·have g:40<(n:Int):=(by have:=i.o.t b;simp at this;omega);go_wp2_with fail;go_ret;exact⟨rfl,j⟩
theorem GA(t:T)(v:Value)(w:World)(x:aS w v t)(g:t.bE<=1048576):
 Calls Tryz.prog 34 #[v] w λe w'=>e=.returned (.bool t.ground)/\Below w.heap.size w w':=by
 have h:=aa (λW i r c d y=>Az t v W i g r c d y);have z:=aa (λW i=>ZT (t.bE+1) t v W aar i g);obtain⟨q,j⟩:=aay t.eZ;have d:t.ground=(q&&!t.hasVar):=(by rw[<-j];rfl);rw[d];rw[j]at h;clear d g j;generalize t.hasVar=p at*;cases x with
 |mk k s A cap f U B C D E hA hU=>
  have F:=aa (aS.mk k s A cap f U B C D E hA hU);have u:=iQ w (.int .i64 k) (.string s) (.slice A f.length cap) 29;have b:=ae w (.cells #[.int .i64 k,.string s,.slice A f.length cap] 29);clear hA hU;go_enter Tryz.func34,Tryz.ntmps34;go_upto_region 1 with fail;generalize w.alloc _=I at u b⊢;obtain⟨x0,l,m⟩:=u;have n:=aa (F.o.ag b);cases q
  ·go_wp2_with fail;refine(h.o _ n.o false 76 rfl (.inr ⟨rfl,rfl⟩)).m ?_;rintro e G ⟨rfl,a⟩;replace a:=b.t (a.m b.size);clear x0 l m;go_wp2_with fail;go_ret;exact⟨rfl,a⟩
  ·go_wp2_with fail;refine(h.o _ n.o true 0 rfl (.inl ⟨rfl,rfl⟩)).m ?_;rintro e G ⟨rfl,a⟩;obtain⟨J,K,L⟩:=aak a x0 l m;have H:=aa (n.o.ag a);replace a:=b.t (a.m b.size);clear x0 l m;go_wp2_with fail;refine(z.o _ H.o).m ?_;rintro e w3 ⟨rfl,o⟩;replace o:=a.t (o.m a.size);go_wp2_with fail;go_ret;exact⟨cO aau,o⟩
end
end Go.Proofs.YtaciciokmpbkkaaGreatDoor
