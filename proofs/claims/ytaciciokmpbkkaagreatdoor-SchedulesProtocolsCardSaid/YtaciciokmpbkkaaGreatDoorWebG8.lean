import Derived.Test.YtaciciokmpbkkaaGreatDoorShelfC
import Derived.Test.YtaciciokmpbkkaaGreatDoorWebG6
set_option maxRecDepth 100000
set_option maxHeartbeats 16000000
namespace Go.Proofs.YtaciciokmpbkkaaGreatDoor
section
open Go.RowKit
theorem Gi(d:Array (List UInt8))(x:List UInt8):∀m,m<=d.size->(x∈Lib.compactUpTo d m<->∃j,j<m/\d[j]! =x):=by
 intro m;induction m with
 |zero=>intro _;simp[Lib.compactUpTo]
 |succ m c=>
  intro f;rw[Lib.compactUpTo_succ,bu,c aaF];constructor
  ·rintro(⟨j,e,a⟩|h);·exact⟨j,aar,a⟩
   ·split at h;·rw[bD]at h;exact⟨m,aar,h.symm⟩
    ·simp at h
  ·rintro⟨j,e,a⟩;rcases bX j m with g|g;·exact .inl ⟨j,g,a⟩
   ·obtain rfl:j=m:=aar;by_cases b:Lib.keeps d j=true;·right;rw[aJ b,a];simp
    ·left;cases j with
     |zero=>exact absurd (Lib.keeps_lt_one d 0 aar) b
     |succ j=>
      refine⟨j,aar,?_⟩;rw[<-a];exact(by simpa[Lib.keeps]using b:d[j+1]! =d[j]!).symm
theorem FI(a:List (List UInt8))(x:List UInt8):x∈Lib.compact a<->x∈a:=by
 unfold Lib.compact;rw[Gi _ _ _ (by simp)];constructor
 ·rintro⟨j,b,c⟩;rw[<-c,iy _ j aa9];simp
 ·intro h;obtain⟨j,hj,e⟩:=bL h;exact⟨j,hj,by rw[iy _ j abk];simpa using e⟩
theorem Qv(M:List ByteArray):M.map Value.string=(M.map (·.data.toList)).map encStr:=by
 rw[qO];exact uK λb _=>bV Value.string (Lt b)
theorem uW{w:World}{B g n:Nat}{os:Array Obj}(c:B<=g)(a:B<=w.heap.size)(d:Array (List UInt8)):Below B w (Sort.grow (Sort.putRow encStr (Sort.ahead w n) g 0 d) os):=
 (aC B w).grown (grownBy_sorted d) a (λb hb=>by have e:g=b:=aB hb;omega)
theorem Src.Xm{w:World}{n m:Nat}{A:Option Addr}{xs:List Value}(h:Src w 1 A n xs)(b:m<=n):Src w 1 A m (xs.take m):=by
 refine⟨by rw[aX,h.1];omega,?_⟩;rcases h.2 with h0|⟨g,off,e,a⟩;·left;omega
 ·refine .inr ⟨g,off,e,λj u hu=>a j u ?_⟩;rw[gY]at hu;split at hu;·exact hu
  ·cases hu
def LQ(t:T)(w:World)(e:Ending)(w':World):Prop:=
 ∃(A:Option Addr) (c:Nat) (R:List (List UInt8)),e=.returned (.slice A R.length c)/\Src w' 1 A R.length (R.map encStr)/\Below w.heap.size w w'/\(∀x:ByteArray,x.data.toList∈R<->x∈t.vars)/\R.length<=1048576/\R.length<=c/\∀b,A.map (·.block)=some b->w.heap.size<=b
theorem J9(M:List ByteArray)(x:ByteArray):x.data.toList∈M.map (·.data.toList)<->x∈M:=by
 rw[ek];constructor;·rintro⟨y,hy,e⟩;rw[<-wJ e];exact hy
 ·intro h;exact⟨x,h,rfl⟩
theorem Zf(t:T)(v:Value)(w:World)(N:aS w v t)(D:t.bE<=1048576):
 Calls Tryz.prog 73 #[v] w (LQ t w):=by
 have hu:=N.jT;have O:=t.Je;cases N with
 |mk k s A cap d U h1 h2 h3 h4 hA hU=>
 have P:=iQ w (.int .i64 k) (.string s) (.slice A d.length cap) 29;have o:=ae w (.cells #[.int .i64 k,.string s,.slice A d.length cap] 29);obtain⟨E,Q,F,R⟩:=aad (hu.ED o) o ((show w.heap.size<=(w.alloc (.cells #[.int .i64 k,.string s,.slice A d.length cap] 29)).heap.size from o.size)) O;clear hA hU hu o O;generalize hT:T.mk k s d=t at E R D⊢;clear hT;go_enter Tryz.func73,Tryz.ntmps73;go_upto_region 1 with fail;generalize w.alloc _=w1 at P E Q F⊢;obtain⟨x0,x1,x2⟩:=P;go_wp2_with fail;refine(JW (t.bE+1) t _ _ w.heap.size _ [] aar E.o D (gV _ _ _ _) aaV F.o).m ?_;rintro e f ⟨lv,rfl,p,G⟩;rw[jZ]at p;obtain⟨S,V⟩:=aab (Q.o.t G) (aG F.o (show _<=f.heap.size from G.size));clear G x0 x1 x2;rcases p.2 with⟨rfl,h0⟩|⟨g,i,ay,rfl,W,hb,H,X,Y,Z⟩
 ·have af:t.vars=[]:=bR h0;have HN:=aa af;clear p af h0;go_wp2_with fail;refine(Tryz.slices_Sort_string_none _ _ _).m ?_;rintro e w3 ⟨rfl,rfl⟩;go_wp2_with fail;refine(Tryz.slices_Compact_string_empty _ _ _).m ?_;rintro e w3 ⟨rfl,rfl⟩;go_wp2_with fail;go_ret;exact⟨none,0,[],rfl,Src.none_ _ _ _,S.o,λx=>by rw[HN.o];simp,aau,aau,λb hb=>by cases hb⟩
 ·obtain⟨c,r⟩:=aay (t.vars.map (·.data.toList));have u:c.length=t.vars.length:=(by rw[<-r,bZ]);have hm:∀x:ByteArray,x.data.toList∈c<->x∈t.vars:=λx=>(by rw[<-r];exact J9 _ x);have j:ay.toList.take c.length=c.map encStr:=(by rw[u,<-r,<-Qv];simpa using Z);rw[<-u]at H⊢;have ag:g<f.heap.size:=(aW.1 hb).1;have HM:=aa hm;have I:=aa (show c.length<=1048576 by rw[u];exact aG R.o D);obtain⟨HH,az,aA,aC,aD,ah,aF⟩:=aag (show Sort.Holds encStr f g 0 c.toArray from vW hb j) hb H X Y W ag;clear p r u hm Z j hb H X Y W ag;go_wp2_with fail;refine(Tryz.slices_Sort_string g 0 i c f HH.o aF.o (aaz I.o)).m ?_;rintro e w3 ⟨rfl,n,os,rfl⟩;have z:(c.mergeSort λx y=>decide (x<=y)).length=c.length:=aau;have J:∀x,x∈(c.mergeSort λx y=>decide (x<=y))<->x∈c:=λx=>List.mem_mergeSort;generalize(c.mergeSort λx y=>decide (x<=y))=a at z J⊢;have B:=wu (n:=n) (os:=os) (base:=w.heap.size) z ah.o az.o aA.o aC.o aD.o;have C:=uW (n:=n) (os:=os) ah.o V.o a.toArray;rw[<-z]at B⊢;generalize Sort.grow (Sort.putRow encStr (Sort.ahead f n) g 0 a.toArray) os=w3 at B C⊢;rcases B.2 with⟨h,_⟩|⟨g',aH,aM,hv,K,L,M,ak,av,j⟩;·cases h
  obtain⟨rfl,rfl⟩:g=g'/\i=aH:=(by injection hv with l e2 e3;injection l with l;injection l with l;exact⟨l,e3⟩);have aI:=aa (show Sort.Holds encStr w3 g 0 a.toArray from vW L (by simpa using j));have ax:(Lib.compact a++List.replicate (a.length-(Lib.compact a).length) []).length=a.length:=by
   have:=iV a;simp;omega
  have aJ:=aa (show ∀q,LQ t w (.returned (.slice (some ⟨g,0,none⟩) (Lib.compact a).length i)) (Sort.putRow encStr (Sort.ahead w3 q) g 0 (Lib.compact a++List.replicate (a.length-(Lib.compact a).length) []).toArray)from λq=>by
   have ho:=wu (n:=q) (os:=#[]) (base:=w.heap.size) ax K L M ak av;have hb:=uW (n:=q) (os:=#[]) K (aG V.o (show _<=w3.heap.size from C.size)) (Lib.compact a++List.replicate (a.length-(Lib.compact a).length) []).toArray;rw[Sort.grow_empty]at ho hb;refine⟨_,_,Lib.compact a,rfl,?_,S.o.t (C.t hb),λx=>(FI a _).t ((J _).t (HM.o x)),?_,?_,λb hb=>by have e:g=b:=aB hb;omega⟩
   ·have h:=(Src.yO ho).Xm (m:=(Lib.compact a).length) (iV a);rw[gG,List.take_left' (by simp)]at h;exact h
   ·have:=iV a;have:=I.o;omega
   ·have:=iV a;omega)
  have aK:=aa (show a.length<=i from M);have aL:=aa (show a.length<=9223372036854775807 from aaz I.o);clear B hv K L M ak av j C J ax z;go_wp2_with fail;refine(Tryz.slices_Compact_string g 0 i a w3 aI.o aL.o aK.o).m ?_;rintro e w4 ⟨rfl,q,rfl⟩;go_wp2_with fail;go_ret;exact aJ.o q
def og(w:World)(A:Option Addr)(K:List ByteArray):Prop:=Src w 1 A K.length (K.map .string)
theorem og.cell{w:World}{A:Option Addr}{K:List ByteArray}(h:og w A K)(i:Nat)(hi:i<K.length):∃b off,A=some ⟨b,off,none⟩/\w.cell? ⟨b,off+i,none⟩=some (.string K[i]):=by
 rcases h.2 with h0|⟨b,off,e,a⟩;·omega
 ·exact⟨b,off,e,a i _ (by rw[kQ,az hi];rfl)⟩
theorem contains_iff(K:List ByteArray)(x:ByteArray):Lib.containsS K x=true<->x∈K:=Lib.containsS_iff K x
theorem R3(K:List ByteArray)(A:Option Addr)(c g:Nat)(s:ByteArray)(w:World)(l:K.length<=1099511627776)(m:w.cell? ⟨g,0,none⟩=some (.slice A K.length c))(hA:og w A K):
 Calls Tryz.prog 75 #[.string s,.pointer (some ⟨g,0,none⟩)] w λe w'=>e=.returned (.bool (!Lib.containsS K s))/\w=w':=by
 have a:Calls Tryz.prog 76 #[.slice A K.length c,.string s] w λe w'=>e=.returned (.bool (Lib.containsS K s))/\w'=w:=by
  rcases eF K.length with h0|h0
  ·obtain rfl:K=[]:=bR h0;exact Tryz.slices_Contains_string_empty A c s w
  ·obtain⟨b,off,rfl,_⟩:=hA.cell 0 h0;have h:=Tryz.slices_Contains_string b off K.length c K s w (ax _) aar (λj hj=>by
    obtain⟨b',n,e,f⟩:=hA.cell j hj;injection e with e;injection e with i k o;subst i;subst k;rw[f];simp[List.getD,hj])
   rw[lD]at h;exact h
 have d:=aa a;clear hA a;generalize Lib.containsS K s=q at d⊢;go_enter Tryz.func75,Tryz.ntmps75;go_wp2_with fail;refine d.o.m ?_;rintro e p ⟨rfl,rfl⟩;go_wp2_with fail;go_ret;exact⟨rfl,rfl⟩
theorem Ji(K:List ByteArray)(A:Option Addr)(c g:Nat)(R:List ByteArray)(B:Option Addr)(d:Nat)(w:World)(v:K.length<=1099511627776)(l:w.cell? ⟨g,0,none⟩=some (.slice A K.length c))(hA:og w A K)(L:R.length<=1099511627776)(n:og w B R):
 Calls Tryz.prog 127 #[.slice B R.length d,.func (.func 75) #[] #[.pointer (some ⟨g,0,none⟩)]] w λe w'=>∃z:Int,e=.returned (.int .i64 z)/\((0<=z/\R.any (λs=>!Lib.containsS K s)=true)\/(z<0/\R.any (λs=>!Lib.containsS K s)=false))/\w=w':=by
 obtain⟨y,C⟩:=aab (λs=>R3 K A c g s w v l hA) n;clear l hA n;go_enter Tryz.func127,Tryz.ntmps127;go_wp2_with fail;go_loopw [8] (λi wr=>∃j:Nat,j<=R.length/\i=.int .i64 j/\(∀m (h:m<j) (M:m<R.length),Lib.containsS K R[m]=true)/\w=wr) (λi _=>R.length-(intOf i).toNat);case atStart=>exact⟨0,aT _,rfl,λm h=>absurd h aar,rfl⟩
 case round=>
  obtain⟨j,hj,rfl,o,rfl⟩:=hrel;have p:=aa o;clear o;by_cases a:j<R.length
  ·obtain⟨b,off,rfl,D⟩:=C.o.cell j a;have hi:(j:Int)<(R.length:Int):=aar;obtain⟨s,f⟩:=aay (R[j]'a);obtain⟨r,t⟩:=aab a f;rw[f]at D;obtain⟨q,k⟩:=aay (Lib.containsS K s);have u:=aa k;have E:=aa (show Calls Tryz.prog 75 #[.string s,.pointer (some ⟨g,0,none⟩)] w λe w'=>e=.returned (.bool (!q))/\w=w' by rw[<-k];exact y.o s);clear k f;go_wp2_with fail;refine E.o.m ?_;rintro e N ⟨rfl,rfl⟩;cases q
   ·have F:=aa (show R.any (λs=>!Lib.containsS K s)=true from dM.2 ⟨R[j]'a,aP a,by rw[t.o,u.o];rfl⟩);go_wp2_with fail;go_ret;exact⟨_,rfl,.inl ⟨aar,F.o⟩,rfl⟩
   ·go_wp2_with fail;go_roundw
    case rel=>
     refine⟨j+1,r.o,aaw,λm h G=>?_,by trivial⟩;rcases bX m j with g|g;·exact p.o m g G
     ·obtain rfl:m=j:=aar;rw[t.o];exact u.o
    case measure=>exact aax r.o
  ·have hi:(R.length:Int)<=(j:Int):=aar;have H:=aa (show R.any (λs=>!Lib.containsS K s)=false from by
    rw[fH];intro x I;obtain⟨m,J,rfl⟩:=bL I;rw[p.o m aar J];simp)
   go_wp2_with fail;go_ret;exact⟨_,rfl,.inr ⟨aar,H.o⟩,rfl⟩
theorem EH(K:List ByteArray)(A:Option Addr)(c g:Nat)(R:List ByteArray)(B:Option Addr)(d:Nat)(w:World)(i:K.length<=1099511627776)(b:w.cell? ⟨g,0,none⟩=some (.slice A K.length c))(hA:og w A K)(j:R.length<=1099511627776)(f:og w B R):
 Calls Tryz.prog 74 #[.slice B R.length d,.func (.func 75) #[] #[.pointer (some ⟨g,0,none⟩)]] w λe w'=>e=.returned (.bool (R.any λs=>!Lib.containsS K s))/\w=w':=by
 have h:=aa (Ji K A c g R B d w i b hA j f);clear b hA f;generalize(R.any λs=>!Lib.containsS K s)=q at h⊢;go_enter Tryz.func74,Tryz.ntmps74;go_wp2_with fail;refine h.o.m ?_;rintro e k ⟨z,rfl,a,rfl⟩;rcases a with⟨a,rfl⟩|⟨a,rfl⟩
 ·go_wp2_with fail;go_ret;exact⟨rfl,rfl⟩
 ·go_wp2_with fail;go_ret;exact⟨cO (cu aar),rfl⟩
def qh(K:List ByteArray):List (Int×T)->Int
 |[]=>0
 |m::r=>if m.1<1\/4<m.1 then 61 else if m.2.K5=false then 76 else if m.1=2 then qh (K++m.2.vars) r else if (m.2.vars.any λs=>!Lib.containsS K s)=true then 70 else qh K r
theorem contains_congr{K K':List ByteArray}(h:∀x,x∈K<->x∈K')(s:ByteArray):Lib.containsS K s=Lib.containsS K' s:=by
 rw[jK,contains_iff,contains_iff];exact h s
theorem xC:∀(l:List (Int×T)) {K K':List ByteArray},(∀x,x∈K<->x∈K')->qh K l=qh K' l
 |[],_,_,_=>rfl
 |m::r,K,K',h=>by
  simp only[qh];rw[xC r (K:=K++m.2.vars) (K':=K'++m.2.vars) (λx=>by rw[bu,bu,h x]),xC r h];have e:(λs=>!Lib.containsS K s)=λs=>!Lib.containsS K' s:=funext λs=>(by rw[contains_congr h s]);rw[e]
def rG(role:ByteArray)(a:List (Int×T)):Int:=if T.isName role=false then 60 else if a.length<1\/16<a.length then 72 else qh [] a
def iI(w:World)(A:Option Addr)(a:List (Int×T)):Prop:=a.length=0\/∃b off,A=some ⟨b,off,none⟩/\∀i (h:i<a.length),∃c d,w.cell? ⟨b,off+i*4,none⟩=some (.int .i64 a[i].1)/\
 w.cell? ⟨b,off+i*4+1,none⟩=some (.int .i64 a[i].2.aA)/\w.cell? ⟨b,off+i*4+2,none⟩=some (.string a[i].2.aI)/\w.cell? ⟨b,off+i*4+3,none⟩=some (.slice c a[i].2.ay.length d)/\
 aS w (.agg #[.int .i64 a[i].2.aA,.string a[i].2.aI,.slice c a[i].2.ay.length d]) a[i].2/\ -9223372036854775808<=a[i].1/\a[i].1<=9223372036854775807
theorem iI.ag{w w':World}{A:Option Addr}{a:List (Int×T)}(h:iI w A a)(hb:Below w.heap.size w w'):iI w' A a:=by
 rcases h with h|⟨b,off,e,c⟩;·exact .inl h
 ·refine .inr ⟨b,off,e,λi hi=>?_⟩;obtain⟨d,f,h0,g,j,k,l,m⟩:=c i hi;exact⟨d,f,af hb h0,af hb g,af hb j,af hb k,l.ag hb,m⟩
def xk(w:World)(g:Nat)(v:Value):Prop:=w.heap[g]?=some (.cells #[v] 53)
theorem xk.lt{w:World}{g:Nat}{v:Value}(h:xk w g v):g<w.heap.size:=(aW.1 h).1
theorem xk.cell{w:World}{g:Nat}{v:Value}(h:xk w g v):w.cell? ⟨g,0,none⟩=some v:=by unfold xk at h;simp[World.cell?,h]
theorem xk.free{w:World}{g:Nat}{v:Value}(h:xk w g v):w.frozen? ⟨g,0,none⟩=false:=by unfold xk at h;simp[World.frozen?,h]
theorem xk.ag{w w':World}{g:Nat}{v:Value}(h:xk w g v)(hb:Below w.heap.size w w'):xk w' g v:=(hb.block g h.lt).t h
theorem xk.grown{w w':World}{g:Nat}{v:Value}{row:Option Nat}(h:xk w g v)(a:w.grownBy w' row)(b:row≠some g):xk w' g v:=(a.block g h.lt (λe=>b e.symm)).t h
theorem xk.set{w:World}{g:Nat}{v:Value}(h:xk w g v)(u:Value):xk (w.setCell ⟨g,0,none⟩ u) g u:=by
 unfold xk at*;simp[World.setCell,Array.getElem?_modify,h]
def Fb(w:World)(K:List ByteArray)(wr:World):Prop:=
 ∃kv,xk wr w.heap.size kv/\wr.ownsRow (w.heap.size+1) 9 1 kv K.length (K.map .string)/\Below w.heap.size w wr/\w.heap.size+1<=wr.heap.size
theorem Fb.ag{w:World}{K:List ByteArray}{wr a:World}(h:Fb w K wr)(hb:Below wr.heap.size wr a):Fb w K a:=by
 obtain⟨kv,b,c,d,e⟩:=h;exact⟨kv,b.ag hb,dG c hb,d.t (hb.m aar),aG e hb.size⟩
theorem Lf(K:List ByteArray)(a:List (Int×T))(j:Nat)(h:j<a.length):qh K (a.drop j)=if (a[j]).1<1\/4<(a[j]).1 then 61 else if (a[j]).2.K5=false then 76 else if (a[j]).1=2 then qh (K++(a[j]).2.vars) (a.drop (j+1)) else if ((a[j]).2.vars.any λs=>!Lib.containsS K s)=true then 70 else qh K (a.drop (j+1)):=by
 rw[dN h];rfl
theorem Fb.put{w wr w8:World}{K a:List ByteArray}{kv:Value}{A8:Option Addr}{c c8:Nat}(k:xk wr w.heap.size kv)(g:∀b,kv.ownBlock=some b->w.heap.size+1<=b/\b<wr.heap.size)(hb:Below w.heap.size w wr)(m:w.heap.size+1<=wr.heap.size)
 (j:w8.ownsRow (w.heap.size+1) 9 1 (.slice A8 c c8) c (K.map .string++a.map .string)) (d:c=K.length+a.length) (f:wr.grownBy w8 kv.ownBlock):Fb w (K++a) (w8.setCell ⟨w.heap.size,0,none⟩ (.slice A8 c c8)):=by
 subst d;have XV:w8.grownBy (w8.setCell ⟨w.heap.size,0,none⟩ (.slice A8 (K.length+a.length) c8)) (some w.heap.size):=
  ⟨rfl,rfl,rfl,by simp[World.setCell],λi _ d=>aL _ _ _ _ (by show i≠w.heap.size;exact λe=>d abf)⟩
 have l:=k.grown f (λe=>aaz ((g _ e).1));refine⟨_,l.set _,?_,?_,?_⟩
 ·have h:=j.kept XV (.inr λe=>aaz ((j.lt _ e).1));rw[aF,gG];exact h
 ·exact(hb.grown f aar (λb h=>aaz ((g b h).1))).setCell (ax _) _
 ·have:=f.size;simp[World.setCell];omega
theorem Pv{w:World}{base:Nat}{e:TypeId}{v:Value}{n:Nat}{xs:List Value}(h:w.ownsRow base e 1 v n xs):∃A c,v=.slice A n c:=by
 rcases h.2 with⟨rfl,rfl⟩|⟨g,cap,a,rfl,_⟩;·exact⟨none,0,rfl⟩
 ·exact⟨_,cap,rfl⟩
theorem ac7{p:Prop}(h:p:=by
 go_wp2_with fail;go_ret;exact⟨gI n.o,v.o⟩):p:=h
theorem WC(role:ByteArray)(a:List (Int×T))(A:Option Addr)(cap:Nat)(w:World)(hr:role.size<=maxLen)(hm:iI w A a)(bM:∀m∈a,m.2.bE<=1048576)(hl:a.length<=maxLen):
 Calls Tryz.prog 33 #[.agg #[.string role,.slice A a.length cap]] w λe w'=>e=.returned (.int .i64 (rG role a))/\Below w.heap.size w w':=by
 unfold maxLen at hl;obtain⟨i0,bN,bO,bQ,bR⟩:=dU Tryz.KZ;have bS:=aa (λW=>Nu role W hr);obtain⟨p,o⟩:=aay (rG role a);rw[o];have av:=ae w (.cells #[.string role,.slice A a.length cap] 26);obtain⟨aV,v,bT⟩:=aac (hm.ag av) av (aK w (.cells #[.string role,.slice A a.length cap] 26));have ax:(w.alloc (.cells #[.string role,.slice A a.length cap] 26)).heap[w.heap.size]?=some (.cells #[.string role,.slice A a.length cap] 26):=bP w _;have x0:(w.alloc (.cells #[.string role,.slice A a.length cap] 26)).cell? ⟨w.heap.size,0,none⟩=some (.string role):=(by unfold World.cell?;rw[ax];rfl);have x1:(w.alloc (.cells #[.string role,.slice A a.length cap] 26)).cell? ⟨w.heap.size,1,none⟩=some (.slice A a.length cap):=(by unfold World.cell?;rw[ax];rfl);clear hm av ax;go_enter Tryz.func33,Tryz.ntmps33;go_upto_region 1 with fail;generalize w.alloc _=d at aV v bT x0 x1⊢;go_wp2_with fail;refine(bS.o _).m ?_;rintro e w2 ⟨rfl,rfl⟩;by_cases J:T.isName role=false
 ·have n:=aa (show(60:Int)=p by rw[<-o];unfold rG;rw[aJ J]);rw[J];clear o;exact ac7
 have aW:T.isName role=true:=abB;rw[aW];unfold rG at o;rw[aH J]at o;by_cases az:a.length<1\/16<a.length
 ·have n:=aa (show(72:Int)=p by rw[<-o,aJ az]);clear o;rcases az with h|h
  ·have h':(a.length:Int)<1:=aar;exact ac7
  ·have h':¬(a.length:Int)<1:=aar;have dz:(16:Int)<(a.length:Int):=aar;exact ac7
 rw[aH az]at o;have h1:(1:Int)<=(a.length:Int):=aar;have h2:(a.length:Int)<=16:=aar;have bU:=aa o;clear o J aW hr;have aX:=af (ae d (.cells #[.slice none 0 0] 53)) x1;have aY:Fb d [] (d.alloc (.cells #[.slice none 0 0] 53)):=⟨_,bP d _,gV _ _ _ _,ae d _,by rw[aK];omega⟩;have aZ:=aa aY;clear aY;go_upto_region 6 with fail;generalize d.alloc _=w2 at aX aZ⊢;go_wp2_with fail;clear x0 x1 aX;go_loopw [24] (λi wr=>∃(j:Nat) (K:List ByteArray),j<=a.length/\i=.int .i64 j/\Fb d K wr/\qh K (a.drop j)=p/\K.length<=j*1048576) (λi _=>a.length-(intOf i).toNat);case atStart=>exact⟨0,[],aT _,rfl,aZ.o,by simpa using bU.o,aau⟩
 case round=>
  obtain⟨j,K,hj,rfl,L,c,bf⟩:=hrel;by_cases D:j<a.length
  ·rw[Lf K a j D]at c;rcases aV.o with h0|⟨b,off,rfl,hc⟩;·omega
   obtain⟨E,F,d0,d1,d2,d3,aB,bV,bW⟩:=hc j D;have aC:=bM _ (aP D);obtain⟨k,hk⟩:=aay ((a[j]'D).1);obtain⟨t,ht⟩:=aay ((a[j]'D).2);rw[hk]at c d0 bV bW;rw[ht]at c d1 d2 d3 aB aC;have f:Below d.heap.size d wr:=(by obtain⟨_,_,_,h,_⟩:=L;exact h);obtain⟨e0,e1,e2,e3⟩:=aal f d0 d1 d2 d3;have hi:(j:Int)<(a.length:Int):=aar;obtain⟨G,bX,P⟩:=aac D c bf;have aL:=ae wr (.cells #[.int .i64 k,.int .i64 t.aA,.string t.aI,.slice E t.ay.length F] 31);have z:=bP wr (.cells #[.int .i64 k,.int .i64 t.aA,.string t.aI,.slice E t.ay.length F] 31);obtain⟨HV,H,bg⟩:=aac (L.ag aL) ((aB.ag f).ag aL) aC;clear d0 d1 d2 d3 hc c bf L aB f hk ht aC aL;go_upto_region 9 with fail;obtain⟨I,bi⟩:=aay wr.heap.size;rw[bi]at z⊢;generalize wr.alloc _=M at z HV H⊢;have y0:M.cell? ⟨I,0,none⟩=some (.int .i64 k):=abC;have y1:M.cell? ⟨I,1,none⟩=some (.int .i64 t.aA):=abC;have y2:M.cell? ⟨I,2,none⟩=some (.string t.aI):=abC;have y3:M.cell? ⟨I,3,none⟩=some (.slice E t.ay.length F):=abC;clear e0 e1 e2 e3 z bi;have bn:Below d.heap.size d M:=(by obtain⟨_,_,_,h,_⟩:=HV.o;exact h);have Q:=aa (v.o.t (bn.m v.o.size));clear bn;have c:=bX.o;by_cases R:k<1\/4<k
   ·rw[aJ R]at c;have n:=aa (show(61:Int)=p from c);clear c;rcases R with h|h
    ·go_wp2_with fail;go_ret;exact⟨gI n.o,Q.o⟩
    ·have h':¬k<1:=aar;go_wp2_with fail;go_ret;exact⟨gI n.o,Q.o⟩
   rw[aH R]at c;have h3:1<=k:=aar;have h4:k<=4:=aar;obtain⟨S,U⟩:=aab (λW hW=>UG t (.agg #[.int .i64 t.aA,.string t.aI,.slice E t.ay.length F]) W hW bg.o) (λW hW=>Zf t (.agg #[.int .i64 t.aA,.string t.aI,.slice E t.ay.length F]) W hW bg.o);generalize t.aA=tk at y1 H S U⊢;generalize t.aI=tn at y2 H S U⊢;generalize t.ay.length=tl at y3 H S U⊢;clear R;go_wp2_with fail;refine(S.o _ H.o).m ?_;rintro e w5 ⟨rfl,y⟩;obtain⟨bY,cu,aM⟩:=aac (HV.o.ag y) (H.o.ag y) (Q.o.t (y.m Q.o.size));obtain⟨z0,z1,z2,z3⟩:=aal y y0 y1 y2 y3;clear y0 y1 y2 y3 y;by_cases N:t.K5=false
   ·rw[aJ N]at c;have n:=aa (show(76:Int)=p from c);rw[N];clear c;go_wp2_with fail;go_ret;exact⟨gI n.o,aM.o⟩
   rw[aH N]at c;have bq:t.K5=true:=(by simpa using N);rw[bq];have bv:=aa c;clear c N bq;go_wp2_with fail;refine(U.o _ cu.o).m ?_;rintro e V ⟨A6,c6,R6,rfl,bz,X,bA,cz,cB,bB⟩;obtain⟨aN,cO⟩:=aab (bY.o.ag X) (aM.o.t (X.m aM.o.size));have q0:=af X z0;obtain⟨g,Y⟩:∃g:List ByteArray,g=R6.map (λl=>⟨l.toArray⟩):=⟨_,rfl⟩;have aO:g.length=R6.length:=(by rw[Y,bZ]);have bC:=aa (show og V A6 g by unfold og;rw[aO,Y,qO];exact bz);have bD:∀x,x∈g<->x∈t.vars:=λx=>by
    rw[<-bA x,Y,ek];constructor;·rintro⟨l,hl,rfl⟩;simpa using hl
    ·intro h;exact⟨_,h,(Lt x).symm⟩
   have aQ:=aa bD;have Z:=aa (show g.length<=1048576 by omega);have dA:=aa bB;rw[<-aO];clear bz X bA cz cB bB Y aO z0 z1 z2 z3 bD;by_cases k2:k=2
   ·subst k2;have c:=bv.o;rw[aJ rfl]at c;have ah:=aa (show qh (K++g) (a.drop (j+1))=p by rw[<-c];exact xC _ (λx=>by rw[bu,bu,aQ.o x]));obtain⟨kv,B,C,f,ak⟩:=aN.o;have kc:=B.cell;have kf:=B.free;have dB:K.length<=17825792:=(aaA P.o G.o);have cZ:=aa (show ∀u∈g.map Value.string,u.oneCell'=true from λu hu=>by obtain⟨b,_,rfl⟩:=ek.1 hu;rfl);obtain⟨HOWN,bF,aR,bG,bH⟩:=aae C B f ak (show ∀b,kv.ownBlock=some b->d.heap.size+1<=b/\b<V.heap.size from C.lt);clear c C B f ak;have df:=aa (show ∀O:World,V.grownBy O kv.ownBlock->xk O d.heap.size kv from λO hg=>bF.o.grown hg (λe=>aaz ((bH.o _ e).1)));go_wp2_with (at_builtin;refine fq _ rfl _ _ 53 rfl (d.heap.size+1) 9 i0 _ 1 16 jX bN bO bQ bR rfl aar _ _ _ rfl HOWN.o _ g.length _ (g.map .string) rfl bC.o cZ.o (by have:=Z.o;unfold maxLen;omega) (aaz Z.o) bG.o ?_;intro A8 c8 O bI aS dh;have aU:=df.o O aS;have dm:=aU.cell;have dn:=aU.free);have bJ:=Fb.put bF.o bH.o aR.o bG.o bI rfl aS;have dw:=aa bJ;clear bI aS dh aU dm dn bJ kc kf q0;go_roundw;case rel=>exact⟨j+1,K++g,G.o,aaw,dw.o,ah.o,by have:=P.o;have:=Z.o;rw[aF];omega⟩
    case measure=>exact aax G.o
   ·have dC:(k==2)=false:=(by rw[aD];exact k2);have c:=bv.o;rw[aH k2]at c;obtain⟨kv,B,C,f,ak⟩:=aN.o;obtain⟨AK,cK,rfl⟩:=Pv C;have kc:=B.cell;have bK:(g.any λs=>!Lib.containsS K s)=(t.vars.any λs=>!Lib.containsS K s):=by
     rw[jK,dM,dM];constructor;·rintro⟨x,hx,h⟩;exact⟨x,(aQ.o x).1 hx,h⟩
     ·rintro⟨x,hx,h⟩;exact⟨x,(aQ.o x).2 hx,h⟩
    rw[<-bK]at c;have bL:=aa (EH K AK cK d.heap.size g A6 c6 V (aaA P.o G.o) kc (Src.yO C) (aaz Z.o) bC.o);generalize(g.any λs=>!Lib.containsS K s)=q at c bL;have ah:=aa c;clear c bK B C f ak kc;go_wp2_with fail;refine bL.o.m ?_;rintro e w7 ⟨rfl,rfl⟩;cases q
    ·have dx:=aa (show qh K (a.drop (j+1))=p by have h:=ah.o;rw[aH abe]at h;exact h);go_wp2_with fail;go_roundw;case rel=>exact⟨j+1,K,G.o,aaw,aN.o,dx.o,aG P.o (iq _ (ui j))⟩
     case measure=>exact aax G.o
    ·have n:=aa (show(70:Int)=p by have h:=ah.o;rw[aJ rfl]at h;exact h);go_wp2_with fail;go_ret;exact⟨gI n.o,cO.o⟩
  ·obtain rfl:j=a.length:=aar;rw[List.drop_length]at c;have n:=aa (show(0:Int)=p from c);have f:Below d.heap.size d wr:=(by obtain⟨_,_,_,h,_⟩:=L;exact h);have aR:=aa (v.o.t (f.m v.o.size));clear L c f;go_wp2_with fail;go_ret;exact⟨gI n.o,aR.o⟩
def T.DZ(n:Nat):Except Nat (T×Nat)->T×Nat×Int
 |.error e=>(.mk 0 ⟨#[]⟩ [],e,71)
 |.ok (t,j)=>if j<n then (.mk 0 ⟨#[]⟩ [],j,71) else if t.eZ=true then (t,0,0) else (.mk 0 ⟨#[]⟩ [],0,76)
theorem T.Sk(s:ByteArray)(h:¬1024<s.size)(r:Except Nat (T×Nat))(a:T.oP s.data.toList (2*s.size+1) 0=some r):T.parse s=T.DZ s.size r:=by
 unfold T.parse;rw[aH h,a];rcases r with e|⟨t,j⟩<;>rfl
def xQ(p:T×Nat×Int)(w:World)(e:Ending)(w':World):Prop:=
 ∃A cap,e=.returned (.tuple #[.agg #[.int .i64 p.1.aA,.string p.1.aI,.slice A p.1.ay.length cap],.int .i64 p.2.1,.int .i64 p.2.2])/\
  bI (dP w.heap.size) w' (.agg #[.int .i64 p.1.aA,.string p.1.aI,.slice A p.1.ay.length cap]) p.1/\Below w.heap.size w w'
theorem xQ.drew{p:T×Nat×Int}{w:World}{e:Ending}{w':World}(h:xQ p w e w'):xQ p w e w'.drew:=by
 obtain⟨A,cap,a,c,d⟩:=h;exact⟨A,cap,a,c.aR λb hb _=>⟨hb,rfl⟩,d.drew⟩
theorem wy{w W:World}{t:T}{i:Nat}{c:Int}{A:Option Addr}{cap:Nat}(hb:Below w.heap.size w W)(h:bI (dP (w.heap.size+1)) W (.agg #[.int .i64 t.aA,.string t.aI,.slice A t.ay.length cap]) t){e:Ending}
 (a:e=.returned (.tuple #[.agg #[.int .i64 t.aA,.string t.aI,.slice A t.ay.length cap],.int .i64 i,.int .i64 c])):
 xQ (t,i,c) w e (((W.setCell ⟨w.heap.size,0,none⟩ (.int .i64 t.aA)).setCell ⟨w.heap.size,1,none⟩ (.string t.aI)).setCell ⟨w.heap.size,2,none⟩ (.slice A t.ay.length cap)):=by
 refine⟨A,cap,a,h.aR λb d _=>?_,hb.t (G8 _ _ _ _ _)⟩;have:=ak d;exact⟨aM aar,lJ _ _ _ _ _ _ aar⟩
def GK(w:World)(g:Nat)(a b c d:Value):Prop:=w.heap[g]?=some (.cells #[a,b,c,d] 31)
theorem GK.lt{w:World}{g:Nat}{a b c d:Value}(h:GK w g a b c d):g<w.heap.size:=(aW.1 h).1
theorem GK.cells{w:World}{g:Nat}{a b c d:Value}(h:GK w g a b c d):w.cell? ⟨g,0,none⟩=some a/\w.cell? ⟨g,1,none⟩=some b/\w.cell? ⟨g,2,none⟩=some c/\w.cell? ⟨g,3,none⟩=some d:=by
 unfold GK at h;refine⟨?_,?_,?_,?_⟩<;>simp[World.cell?,h]
theorem GK.free{w:World}{g:Nat}{a b c d:Value}(h:GK w g a b c d):w.frozen? ⟨g,0,none⟩=false/\w.frozen? ⟨g,1,none⟩=false/\w.frozen? ⟨g,2,none⟩=false/\w.frozen? ⟨g,3,none⟩=false:=by
 unfold GK at h;refine⟨?_,?_,?_,?_⟩<;>simp[World.frozen?,h]
theorem GK.ag{w w':World}{g:Nat}{a b c d:Value}(h:GK w g a b c d)(hb:Below w.heap.size w w'):GK w' g a b c d:=(hb.block g h.lt).t h
theorem pW(w:World)(S:Nat->Bool)(k:Nat):(only w S).heap[k]?=(w.heap[k]?).map λo=>if S k=true then o else .cells #[] 0 (0,0):=by
 simp[only,Array.getElem?_mapIdx]
theorem pz(w:World)(S:Nat->Bool):(only w S).heap.size=w.heap.size:=by simp[only]
theorem yQ{w w':World}{row:Option Nat}(h:w.grownBy w' row)(S:Nat->Bool):(only w S).grownBy (only w' S) row:=
 ⟨h.os,h.tape,h.output,by rw[pz,pz];exact h.size,λk a b=>by rw[pW,pW,h.block k (by rw[pz]at a;exact a) b]⟩
theorem R9{w:World}{base:Nat}{e:TypeId}{size n:Nat}{v:Value}{xs:List Value}(h:w.ownsRow base e size v n xs)(S:Nat->Bool)(hS:∀g,v.ownBlock=some g->S g=true):(only w S).ownsRow base e size v n xs:=by
 refine⟨h.1,?_⟩;rcases h.2 with h0|⟨g,cap,a,rfl,b,c,rest⟩;·exact .inl h0
 ·exact .inr ⟨g,cap,a,rfl,b,by rw[pW,c,jL,aJ (hS g rfl)],rest⟩
theorem Ga{w:World}{base:Nat}{e:TypeId}{size n:Nat}{v:Value}{xs:List Value}{S:Nat->Bool}(h:(only w S).ownsRow base e size v n xs)(c:e≠0):w.ownsRow base e size v n xs:=by
 refine⟨h.1,?_⟩;rcases h.2 with h0|⟨g,cap,d,rfl,f,b,rest⟩;·exact .inl h0
 ·refine .inr ⟨g,cap,d,rfl,f,?_,rest⟩;rw[pW]at b;obtain⟨o,i,a⟩:=nC.1 b;split at a;·rw[i,a]
  ·injection a with k j;exact absurd j.symm c
theorem UH(w:World)(S:Nat->Bool)(p:Addr)(v:Value)(hS:S p.block=false)(k:Nat):(only (w.setCell p v) S).heap[k]?=(only w S).heap[k]?:=by
 rw[pW,pW];by_cases b:k=p.block
 ·subst b;rw[hS];have h:(w.setCell p v).heap[p.block]?.isSome=w.heap[p.block]?.isSome:=by
   simp only[World.setCell,dY];simp
  cases c:w.heap[p.block]? with
  |none=>rw[c]at h;cases a:(w.setCell p v).heap[p.block]? with
   |none=>rfl
   |some o=>rw[a]at h;cases h
  |some o=>rw[c]at h;cases a:(w.setCell p v).heap[p.block]? with
   |none=>rw[a]at h;cases h
   |some d=>rfl
 ·rw[aL _ _ _ _ b]
theorem bI.Jd{S X:Nat->Bool}{w:World}{v:Value}{t:T}(h:bI S (only w X) v t):bI S w v t:=
 aS.aR h λp a=>by
  rw[fO]at a⊢;rw[fO];split at a
  ·rename_i hS;rw[aJ hS];rw[fO]at a⊢;split at a;·rename_i hX;rw[aJ hX];simp[hS]
   ·cases a
  ·cases a
theorem bK.Jd{w:World}{X:Nat->Bool}{base:Nat}{v:Value}{L:List T}(h:bK (only w X) base v L):bK w base v L:=by
 rcases h with h|⟨g,cap,rfl,l,j,e,k,f,m,n⟩;·exact .inl h
 ·refine .inr ⟨g,cap,rfl,l,?_,e,k,f,m,λi hi=>?_⟩
  ·rw[pW]at j;obtain⟨o,p,e⟩:=nC.1 j;split at e;·rw[p,e]
   ·injection e with k f;exact absurd f aat
  ·obtain⟨q,r,s,a,b,c,d⟩:=n i hi;exact⟨q,r,s,a,b,c,d.Jd⟩
def yM(x:Nat):Nat->Bool:=λb=>!(b==x)
theorem DT{x b:Nat}:yM x b=true<->b≠x:=by unfold yM;simp
theorem RZ(x:Nat):yM x x=false:=by unfold yM;simp
namespace T
def after(l:List UInt8)(f n c m:Nat):Option (Except Nat (List T×Nat)):=
 if (0<n/\c=n)\/(n=0/\now l m 44=false) then some (.ok ([],m))
 else match tq l [44,32] m with
  |.error e=>some (.error e)
  |.ok j=>lg l f n c j
theorem AB(l:List UInt8)(f n c i:Nat)(t:T)(j:Nat)(h:oP l f i=some (.ok (t,j))):lg l (f+1) n c i=more t (after l f n (c+1) j):=by
 simp only[lg,h,after];split;·rfl
 ·cases tq l [44,32] j<;>rfl
end T
theorem ac4{p:Prop}(h:p:=by
 go_upto_region 4 with fail;obtain⟨e,l⟩:=S.o nq;generalize wr.drewN nq=w9 at e l⊢;obtain⟨x,y,z⟩:=e.cells;obtain⟨A,B,C⟩:=e.free;obtain⟨q,r⟩:=aab e l;clear e l x0 L M f0 f1 f2;by_cases f:m=i
 ·have D:((m:Int)==(i:Int))=true:=abj;have c:=aa f;have j:=q.o.AQ true;have o:=lG r.o 2 (.bool true);clear f;go_upto_region 6 with fail;generalize w9.setCell ⟨g,2,none⟩ (.bool true)=Y at j o⊢;obtain⟨Z,z1,z2⟩:=j.cells;obtain⟨E,F⟩:=aab j o;have G:(i:Int)<=(m:Int):=(aaz c.o);have H:(m:Int)<=(s.size:Int):=(aaz u.o);have I:(0:Int)<=(i:Int):=aar;clear j o x y z A B C;go_quiet (fail);go_wp2_with fail;go_ret;refine⟨iH F.o nq,.inl ⟨by rw[k.o,c.o],nM (wJ abD),by have:=E.o.drewN nq;rw[c.o]at this;exact this⟩⟩
 ·have D:((m:Int)==(i:Int))=false:=aaI;have c:=aa f;have G:(i:Int)<=(m:Int):=(aaz J.o);have H:(m:Int)<=(s.size:Int):=(aaz u.o);have I:(0:Int)<=(i:Int):=aar;clear f;go_upto_region 6 with fail;go_quiet (fail);go_wp2_with fail;go_ret;exact⟨iH r.o nq,.inr ⟨by rw[k.o];exact c.o,nM abE,by rw[k.o];exact q.o.drewN nq⟩⟩):p:=h
theorem ac5{p:Prop}(h:p:=by
 go_upto_region 2 with fail;go_quiet ((go_at_call 134;exact yf (vg _ _ hb.1 hb.2 false K.o)));exact ac4):p:=h
theorem ac6{p:Prop}(h:p:=by
 go_wp2_with fail
 go_roundg n
 case measure=>have:=P.o;omega
 case rel=>exact⟨m+1,aaA av.o P.o,aaA aF.o P.o,aC.o,k.o,(HP.o.drewN nq).Jp (m+1) _ abz,lG (iH HG.o nq) _ _⟩):p:=h
theorem U5(g i:Nat)(s:ByteArray)(w:World)(h:kD 188 w g s i false)(hi:i<=s.size)(hs:s.size<=4096):
 Calls Tryz.prog 178 #[.pointer (some ⟨g,0,none⟩)] w (Ti 188 g i s w):=by
 obtain⟨x0,L,M⟩:=h.cells;have HW:=aa h;clear h;go_enter Tryz.func178,Tryz.ntmps178;go_wp2_with fail;clear x0 L M
 go_loopg [] 16 (λn wr=>∃m:Nat,n+m=16+i/\n<=16/\m<=s.size/\T.gL s.data.toList i=T.nK s.data.toList i n m/\kD 188 wr g s m false/\w.grownBy wr (some g))
 case atStart=>exact⟨i,aar,ax _,hi,rfl,HW.o,sZ _ _⟩
 case round=>
  obtain⟨m,ae,af,ag,N,U,hg⟩:=hrel;obtain⟨x0,L,M⟩:=U.cells;obtain⟨f0,f1,f2⟩:=U.free;obtain⟨d,hd⟩:∃d,m=i+d:=⟨m-i,aar⟩;have q1:IntKind.i64.wrap ((m:Int)-(i:Int))=(d:Int):=aaZ;obtain⟨HP,HG⟩:=aab U hg;have aH:((gk=0\/s.size<=m\/T.Ai s.data.toList i m=false)/\T.gL s.data.toList i=m)\/(∃n,gk=n+1/\m<s.size/\T.Ai s.data.toList i m=true/\T.gL s.data.toList i=T.nK s.data.toList i n (m+1)):=by
   cases gk with
   |zero=>left;exact⟨.inl rfl,N⟩
   |succ n=>
    simp only[T.nK]at N;split at N
    ·rename_i V;right;exact⟨n,rfl,by have:=V.1;simpa using this,V.2,N⟩
    ·rename_i V;left;refine⟨.inr ?_,N⟩;rcases bX m s.size with p|p
     ·right;rw[iW];intro hb;exact V ⟨by simpa using p,hb⟩
     ·left;exact p
  obtain⟨J,av,u⟩:=aac hd ae ag;have h3:(0:Int)<=(m:Int):=aar;clear U hg N hd;rcases aH with⟨ay,Q⟩|⟨n,az,v,R,Q⟩
  ·have k:=aa Q;have aI:s.size<=m\/(m<s.size/\d=16)\/(m<s.size/\d<16/\T.low s[m]! =false/\i=m)\/(m<s.size/\d<16/\T.low s[m]! =false/\i<m/\T.OT s[m]! =false):=by
    rcases bX m s.size with p|p
    ·right;have ak:s[m]! =s[m]:=iy s m p;rcases ay with h|h|h;·left;have:=J.o;exact⟨p,aar⟩
     ·omega
     ·rw[T.Ka s i m p,kL]at h;obtain⟨a,b⟩:=h;by_cases d16:d=16;·left;exact⟨p,d16⟩
      ·right;have aA:=J.o;by_cases hz:i=m;·left;exact⟨p,aar,by rw[ak];exact a,hz⟩
       ·right;rw[aM (show i<m by omega),lu]at b;exact⟨p,aar,by rw[ak];exact a,aar,by rw[ak];exact b⟩
    ·left;exact p
   clear ay Q ae af ag;have aB:∀nq,kD 188 (wr.drewN nq) g s m false/\w.grownBy (wr.drewN nq) (some g):=λnq=>⟨HP.o.drewN nq,iH HG.o nq⟩;have S:=aa aB;clear aB;rcases aI with p|⟨p,g2⟩|⟨p,g2,t,g4⟩|⟨p,g2,t,g4,g5⟩
   ·have W:(s.size:Int)<=(m:Int):=aar;have X:decide ((m:Int)<(s.size:Int))=false:=cu aar;have a3:decide (m<s.size)=false:=cu aar;go_upto_region 2 with fail;go_quiet (fail);exact ac4
   ·have W:(m:Int)<(s.size:Int):=aar;have X:decide ((d:Int)<16)=false:=cu aar;have a3:decide (d<16)=false:=cu aar;go_upto_region 2 with fail;go_quiet (fail);exact ac4
   ·have W:(m:Int)<(s.size:Int):=aar;have X:(d:Int)<16:=aar;have a4:decide ((i:Int)<(m:Int))=false:=cu aar;have a5:decide (i<m)=false:=cu aar;have hb:=Oj s[m];rw[iy s m p]at t;have K:=aa t;clear t g4;exact ac5
   ·have W:(m:Int)<(s.size:Int):=aar;have X:(d:Int)<16:=aar;have a4:decide ((i:Int)<(m:Int))=true:=aM aar;have a5:decide (i<m)=true:=aM aar;have a6:(i:Int)<(m:Int):=aar;have hb:=Oj s[m];rw[iy s m p]at t g5;obtain⟨K,G5⟩:=aab t g5;clear t g5;have O:(s[m].toNat:Int)<48\/(48<=(s[m].toNat:Int)/\57<(s[m].toNat:Int)):=abF;rcases O with O|⟨O,aJ⟩
    ·have b1:decide (48<=(s[m].toNat:Int))=false:=cu aar;exact ac5
    ·have b1:decide (48<=(s[m].toNat:Int))=true:=aM aar;have b2:decide ((s[m].toNat:Int)<=57)=false:=cu aar;exact ac5
  ·have k:=aa Q;rw[T.Ka s i m v]at R;have aA:=J.o;have W:(m:Int)<(s.size:Int):=aar;have X:(d:Int)<16:=aar;have hb:=Oj s[m];obtain⟨aC,P,aF⟩:=aac v az af;clear Q aA ae af ag az;have hl:T.low (s[m]'v)=true\/(T.low (s[m]'v)=false/\i<m/\T.OT (s[m]'v)=true):=by
    rcases bW (T.low (s[m]'v))with a|a;·exact .inl a
    ·right;rw[a,Bool.false_or,ah,bO]at R;exact⟨a,R.1,R.2⟩
   clear R;rcases hl with t|⟨t,aK,aG⟩
   ·have K:=aa t;clear t;go_upto_region 2 with fail;go_quiet ((go_at_call 134;exact yf (vg _ _ hb.1 hb.2 true K.o)));exact ac6
   ·have a4:decide ((i:Int)<(m:Int))=true:=aM aar;have a5:decide (i<m)=true:=aM aar;have a6:(i:Int)<(m:Int):=aar;obtain⟨K,G5⟩:=aab t aG;clear t aG;have O:48<=((s[m]'v).toNat:Int)/\((s[m]'v).toNat:Int)<=57:=abF;obtain⟨O,aJ⟩:=O;have b1:decide (48<=((s[m]'v).toNat:Int))=true:=aM aar;have b2:decide (((s[m]'v).toNat:Int)<=57)=true:=aM aar;go_upto_region 2 with fail;go_quiet ((go_at_call 134;exact yf (vg _ _ hb.1 hb.2 false K.o)));exact ac6
end
end Go.Proofs.YtaciciokmpbkkaaGreatDoor
