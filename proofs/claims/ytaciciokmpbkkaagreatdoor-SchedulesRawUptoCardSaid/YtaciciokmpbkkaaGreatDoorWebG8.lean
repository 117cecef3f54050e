import Derived.Test.YtaciciokmpbkkaaGreatDoorShelfC
import Derived.Test.YtaciciokmpbkkaaGreatDoorWebG6
set_option maxRecDepth 100000
set_option maxHeartbeats 16000000
namespace Go.Proofs.YtaciciokmpbkkaaGreatDoor
section
open Go.RowKit
theorem FL(d:Array (List UInt8))(x:List UInt8):∀m,m<=d.size->(x∈Lib.compactUpTo d m<->∃j,j<m/\d[j]! =x):=by
 intro m;induction m with
 |zero=>intro _;simp[Lib.compactUpTo]
 |succ m c=>
  intro f;rw[Lib.compactUpTo_succ,aU,c (by omega)];constructor
  ·rintro(⟨j,e,a⟩|h);·exact⟨j,by omega,a⟩
   ·split at h;·rw[aX]at h;exact⟨m,by omega,h.symm⟩
    ·simp at h
  ·rintro⟨j,e,a⟩;rcases cu j m with g|g;·exact .inl ⟨j,g,a⟩
   ·obtain rfl:j=m:=(by omega);by_cases b:Lib.keeps d j=true;·right;rw[aI b,a];simp
    ·left;cases j with
     |zero=>exact absurd (Lib.keeps_lt_one d 0 (by omega)) b
     |succ j=>
      refine⟨j,by omega,?_⟩;rw[<-a];exact(by simpa[Lib.keeps]using b:d[j+1]! =d[j]!).symm
theorem Fa(a:List (List UInt8))(x:List UInt8):x∈Lib.compact a<->x∈a:=by
 unfold Lib.compact;rw[FL _ _ _ (by simp)];constructor
 ·rintro⟨j,b,c⟩;rw[<-c,iE _ j (by simpa using b)];simp
 ·intro h;obtain⟨j,hj,e⟩:=bI h;exact⟨j,hj,by rw[iE _ j (by simpa using hj)];simpa using e⟩
theorem PY(M:List ByteArray):M.map Value.string=(M.map (·.data.toList)).map encStr:=by
 rw[l6];exact uG λb _=>bY Value.string (KT b)
theorem uP{w:World}{B g n:Nat}{os:Array Obj}(c:B<=g)(a:B<=w.heap.size)(d:Array (List UInt8)):Below B w (Sort.grow (Sort.putRow encStr (Sort.ahead w n) g 0 d) os):=
 (az B w).grown (grownBy_sorted d) a (λb hb=>by have e:g=b:=aA hb;omega)
theorem Src.Jz{w:World}{n m:Nat}{A:Option Addr}{xs:List Value}(h:Src w 1 A n xs)(b:m<=n):Src w 1 A m (xs.take m):=by
 refine⟨by rw[aW,h.1];omega,?_⟩;rcases h.2 with h0|⟨g,off,e,a⟩;·left;omega
 ·refine .inr ⟨g,off,e,λj u hu=>a j u ?_⟩;rw[ic]at hu;split at hu;·exact hu
  ·cases hu
def Lb(t:T)(w:World)(e:Ending)(w':World):Prop:=
 ∃(A:Option Addr) (c:Nat) (R:List (List UInt8)),e=.returned (.slice A R.length c)/\Src w' 1 A R.length (R.map encStr)/\Below w.heap.size w w'/\(∀x:ByteArray,x.data.toList∈R<->x∈t.vars)/\R.length<=1048576/\R.length<=c/\∀b,A.map (·.block)=some b->w.heap.size<=b
theorem JJ(M:List ByteArray)(x:ByteArray):x.data.toList∈M.map (·.data.toList)<->x∈M:=by
 rw[dB];constructor;·rintro⟨y,hy,e⟩;rw[<-tJ e];exact hy
 ·intro h;exact⟨x,h,rfl⟩
theorem Y3(t:T)(v:Value)(w:World)(N:aO w v t)(D:t.bC<=1048576):
 Calls Tryz.prog 73 #[v] w (Lb t w):=by
 have hu:=N.jQ;have O:=t.IL;cases N with
 |mk k s A cap d U h1 h2 h3 h4 hA hU=>
 have P:=iB w (.int .i64 k) (.string s) (.slice A d.length cap) 29;have o:=af w (.cells #[.int .i64 k,.string s,.slice A d.length cap] 29);obtain⟨E,Q,F,R⟩:=ZT (hu.Ee o) o ((show w.heap.size<=(w.alloc (.cells #[.int .i64 k,.string s,.slice A d.length cap] 29)).heap.size from o.size)) O;clear hA hU hu o O;generalize hT:T.mk k s d=t at E R D⊢;clear hT;go_enter Tryz.func73,Tryz.ntmps73;go_upto_region 1 with fail;generalize w.alloc (.cells #[.int .i64 k,.string s,.slice A d.length cap] 29)=w1 at P E Q F⊢;obtain⟨x0,x1,x2⟩:=P;go_wp2_with fail;refine(Jw (t.bC+1) t _ _ w.heap.size _ [] (by omega) E.o D (gZ _ _ _ _) (by simp;omega) F.o).m ?_;rintro e f ⟨lv,rfl,p,G⟩;rw[gH]at p;obtain⟨S,V⟩:=ZQ (Q.o.t G) (aD F.o (show _<=f.heap.size from G.size));clear G x0 x1 x2;rcases p.2 with⟨rfl,h0⟩|⟨g,i,ay,rfl,W,hb,H,X,Y,Z⟩
 ·have ae:t.vars=[]:=bQ h0;have HN:=aa ae;clear p ae h0;go_wp2_with fail;refine(Tryz.slices_Sort_string_none _ _ _).m ?_;rintro e w3 ⟨rfl,rfl⟩;go_wp2_with fail;refine(Tryz.slices_Compact_string_empty _ _ _).m ?_;rintro e w3 ⟨rfl,rfl⟩;go_wp2_with fail;go_ret;exact⟨none,0,[],rfl,Src.none_ _ _ _,S.o,λx=>by rw[HN.o];simp,by simp,by simp,λb hb=>by cases hb⟩
 ·obtain⟨c,r⟩:∃c,t.vars.map (·.data.toList)=c:=⟨_,rfl⟩;have u:c.length=t.vars.length:=(by rw[<-r,df]);have hm:∀x:ByteArray,x.data.toList∈c<->x∈t.vars:=λx=>(by rw[<-r];exact JJ _ x);have j:ay.toList.take c.length=c.map encStr:=(by rw[u,<-r,<-PY];simpa using Z);rw[<-u]at H⊢;have ag:g<f.heap.size:=(aZ.1 hb).1;have HM:=aa hm;have I:=aa (show c.length<=1048576 by rw[u];exact aD R.o D);obtain⟨HH,az,aB,aC,aF,ai,aG⟩:=ZW (show Sort.Holds encStr f g 0 c.toArray from vQ hb j) hb H X Y W ag;clear p r u hm Z j hb H X Y W ag;go_wp2_with fail;refine(Tryz.slices_Sort_string g 0 i c f HH.o aG.o (by have:=I.o;omega)).m ?_;rintro e w3 ⟨rfl,n,os,rfl⟩;have z:(c.mergeSort λx y=>decide (x<=y)).length=c.length:=(by simp);have J:∀x,x∈(c.mergeSort λx y=>decide (x<=y))<->x∈c:=λx=>List.mem_mergeSort;generalize(c.mergeSort λx y=>decide (x<=y))=a at z J⊢;have B:=vW (n:=n) (os:=os) (base:=w.heap.size) z ai.o az.o aB.o aC.o aF.o;have C:=uP (n:=n) (os:=os) ai.o V.o a.toArray;rw[<-z]at B⊢;generalize Sort.grow (Sort.putRow encStr (Sort.ahead f n) g 0 a.toArray) os=w3 at B C⊢;rcases B.2 with⟨h,_⟩|⟨g',aH,aM,hv,K,L,M,ak,av,j⟩;·cases h
  obtain⟨rfl,rfl⟩:g=g'/\i=aH:=(by injection hv with l e2 e3;injection l with l;injection l with l;exact⟨l,e3⟩);have aI:=aa (show Sort.Holds encStr w3 g 0 a.toArray from vQ L (by simpa using j));have ax:(Lib.compact a++List.replicate (a.length-(Lib.compact a).length) []).length=a.length:=by
   have:=iW a;simp;omega
  have aJ:=aa (show ∀q,Lb t w (.returned (.slice (some ⟨g,0,none⟩) (Lib.compact a).length i)) (Sort.putRow encStr (Sort.ahead w3 q) g 0 (Lib.compact a++List.replicate (a.length-(Lib.compact a).length) []).toArray)from λq=>by
   have ho:=vW (n:=q) (os:=#[]) (base:=w.heap.size) ax K L M ak av;have hb:=uP (n:=q) (os:=#[]) K (aD V.o (show _<=w3.heap.size from C.size)) (Lib.compact a++List.replicate (a.length-(Lib.compact a).length) []).toArray;rw[Sort.grow_empty]at ho hb;refine⟨_,_,Lib.compact a,rfl,?_,S.o.t (C.t hb),λx=>(Fa a _).t ((J _).t (HM.o x)),?_,?_,λb hb=>by have e:g=b:=aA hb;omega⟩
   ·have h:=(Src.uD ho).Jz (m:=(Lib.compact a).length) (iW a);rw[fZ,List.take_left' (by simp)]at h;exact h
   ·have:=iW a;have:=I.o;omega
   ·have:=iW a;omega)
  have aK:=aa (show a.length<=i from M);have aL:=aa (show a.length<=9223372036854775807 by have:=I.o;omega);clear B hv K L M ak av j C J ax z;go_wp2_with fail;refine(Tryz.slices_Compact_string g 0 i a w3 aI.o aL.o aK.o).m ?_;rintro e w4 ⟨rfl,q,rfl⟩;go_wp2_with fail;go_ret;exact aJ.o q
def kH(w:World)(A:Option Addr)(K:List ByteArray):Prop:=Src w 1 A K.length (K.map .string)
theorem kH.cell{w:World}{A:Option Addr}{K:List ByteArray}(h:kH w A K)(i:Nat)(hi:i<K.length):∃b off,A=some ⟨b,off,none⟩/\w.cell? ⟨b,off+i,none⟩=some (.string K[i]):=by
 rcases h.2 with h0|⟨b,off,e,a⟩;·omega
 ·exact⟨b,off,e,a i _ (by rw[kR,aH hi];rfl)⟩
theorem contains_iff(K:List ByteArray)(x:ByteArray):Lib.containsS K x=true<->x∈K:=Lib.containsS_iff K x
theorem Rt(K:List ByteArray)(A:Option Addr)(c g:Nat)(s:ByteArray)(w:World)(l:K.length<=1099511627776)(m:w.cell? ⟨g,0,none⟩=some (.slice A K.length c))(hA:kH w A K):
 Calls Tryz.prog 75 #[.string s,.pointer (some ⟨g,0,none⟩)] w λe w'=>e=.returned (.bool (!Lib.containsS K s))/\w=w':=by
 have a:Calls Tryz.prog 76 #[.slice A K.length c,.string s] w λe w'=>e=.returned (.bool (Lib.containsS K s))/\w'=w:=by
  rcases dE K.length with h0|h0
  ·obtain rfl:K=[]:=bQ h0;exact Tryz.slices_Contains_string_empty A c s w
  ·obtain⟨b,off,rfl,_⟩:=hA.cell 0 h0;have h:=Tryz.slices_Contains_string b off K.length c K s w (ak _) (by omega) (λj hj=>by
    obtain⟨b',n,e,f⟩:=hA.cell j hj;injection e with e;injection e with i k o;subst i;subst k;rw[f];simp[List.getD,hj])
   rw[lC]at h;exact h
 have d:=aa a;clear hA a;generalize Lib.containsS K s=q at d⊢;go_enter Tryz.func75,Tryz.ntmps75;go_wp2_with fail;refine d.o.m ?_;rintro e p ⟨rfl,rfl⟩;go_wp2_with fail;go_ret;exact⟨rfl,rfl⟩
theorem IQ(K:List ByteArray)(A:Option Addr)(c g:Nat)(R:List ByteArray)(B:Option Addr)(d:Nat)(w:World)(v:K.length<=1099511627776)(l:w.cell? ⟨g,0,none⟩=some (.slice A K.length c))(hA:kH w A K)(L:R.length<=1099511627776)(n:kH w B R):
 Calls Tryz.prog 127 #[.slice B R.length d,.func (.func 75) #[] #[.pointer (some ⟨g,0,none⟩)]] w λe w'=>∃z:Int,e=.returned (.int .i64 z)/\((0<=z/\R.any (λs=>!Lib.containsS K s)=true)\/(z<0/\R.any (λs=>!Lib.containsS K s)=false))/\w=w':=by
 obtain⟨y,C⟩:=ZQ (λs=>Rt K A c g s w v l hA) n;clear l hA n;go_enter Tryz.func127,Tryz.ntmps127;go_wp2_with fail;go_loopw [8] (λi wr=>∃j:Nat,j<=R.length/\i=.int .i64 j/\(∀m (h:m<j) (M:m<R.length),Lib.containsS K R[m]=true)/\w=wr) (λi _=>R.length-(intOf i).toNat);case atStart=>exact⟨0,aL _,rfl,λm h=>absurd h (by omega),rfl⟩
 case round=>
  obtain⟨j,hj,rfl,o,rfl⟩:=hrel;have p:=aa o;clear o;by_cases a:j<R.length
  ·obtain⟨b,off,rfl,D⟩:=C.o.cell j a;have hi:(j:Int)<(R.length:Int):=(by omega);obtain⟨s,f⟩:∃s,R[j]'a=s:=⟨_,rfl⟩;obtain⟨r,t⟩:=ZQ a f;rw[f]at D;obtain⟨q,k⟩:∃q,Lib.containsS K s=q:=⟨_,rfl⟩;have u:=aa k;have E:=aa (show Calls Tryz.prog 75 #[.string s,.pointer (some ⟨g,0,none⟩)] w λe w'=>e=.returned (.bool (!q))/\w=w' by rw[<-k];exact y.o s);clear k f;go_wp2_with fail;refine E.o.m ?_;rintro e N ⟨rfl,rfl⟩;cases q
   ·have F:=aa (show R.any (λs=>!Lib.containsS K s)=true from eU.2 ⟨R[j]'a,aN a,by rw[t.o,u.o];rfl⟩);go_wp2_with fail;go_ret;exact⟨_,rfl,.inl ⟨by omega,F.o⟩,rfl⟩
   ·go_wp2_with fail;go_roundw
    case rel=>
     refine⟨j+1,r.o,by go_num,λm h G=>?_,by trivial⟩;rcases cu m j with g|g;·exact p.o m g G
     ·obtain rfl:m=j:=(by omega);rw[t.o];exact u.o
    case measure=>have:=r.o;simp[intOf];omega
  ·have hi:(R.length:Int)<=(j:Int):=(by omega);have H:=aa (show R.any (λs=>!Lib.containsS K s)=false from by
    rw[fQ];intro x I;obtain⟨m,J,rfl⟩:=bI I;rw[p.o m (by omega) J];simp)
   go_wp2_with fail;go_ret;exact⟨_,rfl,.inr ⟨by omega,H.o⟩,rfl⟩
theorem Em(K:List ByteArray)(A:Option Addr)(c g:Nat)(R:List ByteArray)(B:Option Addr)(d:Nat)(w:World)(i:K.length<=1099511627776)(b:w.cell? ⟨g,0,none⟩=some (.slice A K.length c))(hA:kH w A K)(j:R.length<=1099511627776)(f:kH w B R):
 Calls Tryz.prog 74 #[.slice B R.length d,.func (.func 75) #[] #[.pointer (some ⟨g,0,none⟩)]] w λe w'=>e=.returned (.bool (R.any λs=>!Lib.containsS K s))/\w=w':=by
 have h:=aa (IQ K A c g R B d w i b hA j f);clear b hA f;generalize(R.any λs=>!Lib.containsS K s)=q at h⊢;go_enter Tryz.func74,Tryz.ntmps74;go_wp2_with fail;refine h.o.m ?_;rintro e k ⟨z,rfl,a,rfl⟩;rcases a with⟨a,rfl⟩|⟨a,rfl⟩
 ·go_wp2_with fail;go_ret;exact⟨rfl,rfl⟩
 ·go_wp2_with fail;go_ret;exact⟨cZ (dh (by omega)),rfl⟩
def lQ(K:List ByteArray):List (Int×T)->Int
 |[]=>0
 |m::r=>if m.1<1\/4<m.1 then 61 else if m.2.FX=false then 76 else if m.1=2 then lQ (K++m.2.vars) r else if (m.2.vars.any λs=>!Lib.containsS K s)=true then 70 else lQ K r
theorem contains_congr{K K':List ByteArray}(h:∀x,x∈K<->x∈K')(s:ByteArray):Lib.containsS K s=Lib.containsS K' s:=by
 rw[jY,contains_iff,contains_iff];exact h s
theorem nY:∀(l:List (Int×T)) {K K':List ByteArray},(∀x,x∈K<->x∈K')->lQ K l=lQ K' l
 |[],_,_,_=>rfl
 |m::r,K,K',h=>by
  simp only[lQ];rw[nY r (K:=K++m.2.vars) (K':=K'++m.2.vars) (λx=>by rw[aU,aU,h x]),nY r h];have e:(λs=>!Lib.containsS K s)=λs=>!Lib.containsS K' s:=funext λs=>(by rw[contains_congr h s]);rw[e]
def mh(role:ByteArray)(a:List (Int×T)):Int:=if T.isName role=false then 60 else if a.length<1\/16<a.length then 72 else lQ [] a
def jm(w:World)(A:Option Addr)(a:List (Int×T)):Prop:=a.length=0\/∃b off,A=some ⟨b,off,none⟩/\∀i (h:i<a.length),∃c d,w.cell? ⟨b,off+i*4,none⟩=some (.int .i64 a[i].1)/\
 w.cell? ⟨b,off+i*4+1,none⟩=some (.int .i64 a[i].2.aC)/\w.cell? ⟨b,off+i*4+2,none⟩=some (.string a[i].2.aJ)/\w.cell? ⟨b,off+i*4+3,none⟩=some (.slice c a[i].2.ay.length d)/\
 aO w (.agg #[.int .i64 a[i].2.aC,.string a[i].2.aJ,.slice c a[i].2.ay.length d]) a[i].2/\ -9223372036854775808<=a[i].1/\a[i].1<=9223372036854775807
theorem jm.ag{w w':World}{A:Option Addr}{a:List (Int×T)}(h:jm w A a)(hb:Below w.heap.size w w'):jm w' A a:=by
 rcases h with h|⟨b,off,e,c⟩;·exact .inl h
 ·refine .inr ⟨b,off,e,λi hi=>?_⟩;obtain⟨d,f,h0,g,j,k,l,m⟩:=c i hi;exact⟨d,f,ae hb h0,ae hb g,ae hb j,ae hb k,l.ag hb,m⟩
def xe(w:World)(g:Nat)(v:Value):Prop:=w.heap[g]?=some (.cells #[v] 53)
theorem xe.lt{w:World}{g:Nat}{v:Value}(h:xe w g v):g<w.heap.size:=(aZ.1 h).1
theorem xe.cell{w:World}{g:Nat}{v:Value}(h:xe w g v):w.cell? ⟨g,0,none⟩=some v:=by unfold xe at h;simp[World.cell?,h]
theorem xe.free{w:World}{g:Nat}{v:Value}(h:xe w g v):w.frozen? ⟨g,0,none⟩=false:=by unfold xe at h;simp[World.frozen?,h]
theorem xe.ag{w w':World}{g:Nat}{v:Value}(h:xe w g v)(hb:Below w.heap.size w w'):xe w' g v:=(hb.block g h.lt).t h
theorem xe.grown{w w':World}{g:Nat}{v:Value}{row:Option Nat}(h:xe w g v)(a:w.grownBy w' row)(b:row≠some g):xe w' g v:=(a.block g h.lt (λe=>b e.symm)).t h
theorem xe.set{w:World}{g:Nat}{v:Value}(h:xe w g v)(u:Value):xe (w.setCell ⟨g,0,none⟩ u) g u:=by
 unfold xe at*;simp[World.setCell,Array.getElem?_modify,h]
def EE(w:World)(K:List ByteArray)(wr:World):Prop:=
 ∃kv,xe wr w.heap.size kv/\wr.ownsRow (w.heap.size+1) 9 1 kv K.length (K.map .string)/\Below w.heap.size w wr/\w.heap.size+1<=wr.heap.size
theorem EE.ag{w:World}{K:List ByteArray}{wr a:World}(h:EE w K wr)(hb:Below wr.heap.size wr a):EE w K a:=by
 obtain⟨kv,b,c,d,e⟩:=h;exact⟨kv,b.ag hb,dz c hb,d.t (hb.m (by omega)),aD e hb.size⟩
theorem Dt(K:List ByteArray)(a:List (Int×T))(j:Nat)(h:j<a.length):lQ K (a.drop j)=if (a[j]).1<1\/4<(a[j]).1 then 61 else if (a[j]).2.FX=false then 76 else if (a[j]).1=2 then lQ (K++(a[j]).2.vars) (a.drop (j+1)) else if ((a[j]).2.vars.any λs=>!Lib.containsS K s)=true then 70 else lQ K (a.drop (j+1)):=by
 rw[dN h];rfl
theorem EE.put{w wr w8:World}{K a:List ByteArray}{kv:Value}{A8:Option Addr}{c c8:Nat}(k:xe wr w.heap.size kv)(g:∀b,kv.ownBlock=some b->w.heap.size+1<=b/\b<wr.heap.size)(hb:Below w.heap.size w wr)(m:w.heap.size+1<=wr.heap.size)
 (j:w8.ownsRow (w.heap.size+1) 9 1 (.slice A8 c c8) c (K.map .string++a.map .string)) (d:c=K.length+a.length) (f:wr.grownBy w8 kv.ownBlock):EE w (K++a) (w8.setCell ⟨w.heap.size,0,none⟩ (.slice A8 c c8)):=by
 subst d;have XI:w8.grownBy (w8.setCell ⟨w.heap.size,0,none⟩ (.slice A8 (K.length+a.length) c8)) (some w.heap.size):=
  ⟨rfl,rfl,rfl,by simp[World.setCell],λi _ d=>aM _ _ _ _ (by show i≠w.heap.size;exact λe=>d (by rw[e]))⟩
 have l:=k.grown f (λe=>by have:=(g _ e).1;omega);refine⟨_,l.set _,?_,?_,?_⟩
 ·have h:=j.kept XI (.inr λe=>by have:=(j.lt _ e).1;omega);rw[aF,fZ];exact h
 ·exact(hb.grown f (by omega) (λb h=>by have:=(g b h).1;omega)).setCell (ak _) _
 ·have:=f.size;simp[World.setCell];omega
theorem OV{w:World}{base:Nat}{e:TypeId}{v:Value}{n:Nat}{xs:List Value}(h:w.ownsRow base e 1 v n xs):∃A c,v=.slice A n c:=by
 rcases h.2 with⟨rfl,rfl⟩|⟨g,cap,a,rfl,_⟩;·exact⟨none,0,rfl⟩
 ·exact⟨_,cap,rfl⟩
theorem Wm(role:ByteArray)(a:List (Int×T))(A:Option Addr)(cap:Nat)(w:World)(hr:role.size<=maxLen)(hm:jm w A a)(bM:∀m∈a,m.2.bC<=1048576)(hl:a.length<=maxLen):
 Calls Tryz.prog 33 #[.agg #[.string role,.slice A a.length cap]] w λe w'=>e=.returned (.int .i64 (mh role a))/\Below w.heap.size w w':=by
 unfold maxLen at hl;obtain⟨i0,bN,bP,bQ,bR⟩:=dV Tryz.FW;have bS:=aa (λW=>MV role W hr);obtain⟨p,o⟩:∃r,mh role a=r:=⟨_,rfl⟩;rw[o];have av:=af w (.cells #[.string role,.slice A a.length cap] 26);obtain⟨aW,v,bU⟩:=ZR (hm.ag av) av (aK w (.cells #[.string role,.slice A a.length cap] 26));have ax:(w.alloc (.cells #[.string role,.slice A a.length cap] 26)).heap[w.heap.size]?=some (.cells #[.string role,.slice A a.length cap] 26):=bO w _;have x0:(w.alloc (.cells #[.string role,.slice A a.length cap] 26)).cell? ⟨w.heap.size,0,none⟩=some (.string role):=(by unfold World.cell?;rw[ax];rfl);have x1:(w.alloc (.cells #[.string role,.slice A a.length cap] 26)).cell? ⟨w.heap.size,1,none⟩=some (.slice A a.length cap):=(by unfold World.cell?;rw[ax];rfl);clear hm av ax;go_enter Tryz.func33,Tryz.ntmps33;go_upto_region 1 with fail;generalize w.alloc (.cells #[.string role,.slice A a.length cap] 26)=d at aW v bU x0 x1⊢;go_wp2_with fail;refine(bS.o _).m ?_;rintro e w2 ⟨rfl,rfl⟩;by_cases J:T.isName role=false
 ·have n:=aa (show(60:Int)=p by rw[<-o];unfold mh;rw[aI J]);rw[J];clear o;go_wp2_with fail;go_ret;exact⟨fG n.o,v.o⟩
 have aX:T.isName role=true:=(by simpa using J);rw[aX];unfold mh at o;rw[aG J]at o;by_cases az:a.length<1\/16<a.length
 ·have n:=aa (show(72:Int)=p by rw[<-o,aI az]);clear o;rcases az with h|h
  ·have h':(a.length:Int)<1:=(by omega);go_wp2_with fail;go_ret;exact⟨fG n.o,v.o⟩
  ·have h':¬(a.length:Int)<1:=(by omega);have dA:(16:Int)<(a.length:Int):=(by omega);go_wp2_with fail;go_ret;exact⟨fG n.o,v.o⟩
 rw[aG az]at o;have h1:(1:Int)<=(a.length:Int):=(by omega);have h2:(a.length:Int)<=16:=(by omega);have bV:=aa o;clear o J aX hr;have aY:=ae (af d (.cells #[.slice none 0 0] 53)) x1;have aZ:EE d [] (d.alloc (.cells #[.slice none 0 0] 53)):=⟨_,bO d _,gZ _ _ _ _,af d _,by rw[aK];omega⟩;have bf:=aa aZ;clear aZ;go_upto_region 6 with fail;generalize d.alloc (.cells #[.slice none 0 0] 53)=w2 at aY bf⊢;go_wp2_with fail;clear x0 x1 aY;go_loopw [24] (λi wr=>∃(j:Nat) (K:List ByteArray),j<=a.length/\i=.int .i64 j/\EE d K wr/\lQ K (a.drop j)=p/\K.length<=j*1048576) (λi _=>a.length-(intOf i).toNat);case atStart=>exact⟨0,[],aL _,rfl,bf.o,by simpa using bV.o,by simp⟩
 case round=>
  obtain⟨j,K,hj,rfl,L,c,bg⟩:=hrel;by_cases D:j<a.length
  ·rw[Dt K a j D]at c;rcases aW.o with h0|⟨b,off,rfl,hc⟩;·omega
   obtain⟨E,F,d0,d1,d2,d3,aA,bW,bX⟩:=hc j D;have aH:=bM _ (aN D);obtain⟨k,hk⟩:∃k,(a[j]'D).1=k:=⟨_,rfl⟩;obtain⟨t,ht⟩:∃t,(a[j]'D).2=t:=⟨_,rfl⟩;rw[hk]at c d0 bW bX;rw[ht]at c d1 d2 d3 aA aH;have f:Below d.heap.size d wr:=(by obtain⟨_,_,_,h,_⟩:=L;exact h);obtain⟨e0,e1,e2,e3⟩:=Z4 f d0 d1 d2 d3;have hi:(j:Int)<(a.length:Int):=(by omega);obtain⟨G,bY,P⟩:=ZR D c bg;have aM:=af wr (.cells #[.int .i64 k,.int .i64 t.aC,.string t.aJ,.slice E t.ay.length F] 31);have z:=bO wr (.cells #[.int .i64 k,.int .i64 t.aC,.string t.aJ,.slice E t.ay.length F] 31);obtain⟨HV,H,bi⟩:=ZR (L.ag aM) ((aA.ag f).ag aM) aH;clear d0 d1 d2 d3 hc c bg L aA f hk ht aH aM;go_upto_region 9 with fail;obtain⟨I,bn⟩:∃I,wr.heap.size=I:=⟨_,rfl⟩;rw[bn]at z⊢;generalize wr.alloc (.cells #[.int .i64 k,.int .i64 t.aC,.string t.aJ,.slice E t.ay.length F] 31)=M at z HV H⊢;have y0:M.cell? ⟨I,0,none⟩=some (.int .i64 k):=(by unfold World.cell?;rw[z];rfl);have y1:M.cell? ⟨I,1,none⟩=some (.int .i64 t.aC):=(by unfold World.cell?;rw[z];rfl);have y2:M.cell? ⟨I,2,none⟩=some (.string t.aJ):=(by unfold World.cell?;rw[z];rfl);have y3:M.cell? ⟨I,3,none⟩=some (.slice E t.ay.length F):=(by unfold World.cell?;rw[z];rfl);clear e0 e1 e2 e3 z bn;have bq:Below d.heap.size d M:=(by obtain⟨_,_,_,h,_⟩:=HV.o;exact h);have Q:=aa (v.o.t (bq.m v.o.size));clear bq;have c:=bY.o;by_cases R:k<1\/4<k
   ·rw[aI R]at c;have n:=aa (show(61:Int)=p from c);clear c;rcases R with h|h
    ·go_wp2_with fail;go_ret;exact⟨fG n.o,Q.o⟩
    ·have h':¬k<1:=(by omega);go_wp2_with fail;go_ret;exact⟨fG n.o,Q.o⟩
   rw[aG R]at c;have h3:1<=k:=(by omega);have h4:k<=4:=(by omega);obtain⟨S,U⟩:=ZQ (λW hW=>Ui t (.agg #[.int .i64 t.aC,.string t.aJ,.slice E t.ay.length F]) W hW bi.o) (λW hW=>Y3 t (.agg #[.int .i64 t.aC,.string t.aJ,.slice E t.ay.length F]) W hW bi.o);generalize t.aC=tk at y1 H S U⊢;generalize t.aJ=tn at y2 H S U⊢;generalize t.ay.length=tl at y3 H S U⊢;clear R;go_wp2_with fail;refine(S.o _ H.o).m ?_;rintro e w5 ⟨rfl,y⟩;obtain⟨bZ,cu,aO⟩:=ZR (HV.o.ag y) (H.o.ag y) (Q.o.t (y.m Q.o.size));obtain⟨z0,z1,z2,z3⟩:=Z4 y y0 y1 y2 y3;clear y0 y1 y2 y3 y;by_cases N:t.FX=false
   ·rw[aI N]at c;have n:=aa (show(76:Int)=p from c);rw[N];clear c;go_wp2_with fail;go_ret;exact⟨fG n.o,aO.o⟩
   rw[aG N]at c;have bu:t.FX=true:=(by simpa using N);rw[bu];have bv:=aa c;clear c N bu;go_wp2_with fail;refine(U.o _ cu.o).m ?_;rintro e V ⟨A6,c6,R6,rfl,bz,X,bA,cz,cB,bB⟩;obtain⟨aP,cO⟩:=ZQ (bZ.o.ag X) (aO.o.t (X.m aO.o.size));have q0:=ae X z0;obtain⟨g,Y⟩:∃g:List ByteArray,g=R6.map (λl=>⟨l.toArray⟩):=⟨_,rfl⟩;have aQ:g.length=R6.length:=(by rw[Y,df]);have bD:=aa (show kH V A6 g by unfold kH;rw[aQ,Y,l6];exact bz);have bE:∀x,x∈g<->x∈t.vars:=λx=>by
    rw[<-bA x,Y,dB];constructor;·rintro⟨l,hl,rfl⟩;simpa using hl
    ·intro h;exact⟨_,h,(KT x).symm⟩
   have aR:=aa bE;have Z:=aa (show g.length<=1048576 by omega);have dC:=aa bB;rw[<-aQ];clear bz X bA cz cB bB Y aQ z0 z1 z2 z3 bE;by_cases k2:k=2
   ·subst k2;have c:=bv.o;rw[aI rfl]at c;have ai:=aa (show lQ (K++g) (a.drop (j+1))=p by rw[<-c];exact nY _ (λx=>by rw[aU,aU,aR.o x]));obtain⟨kv,B,C,f,ak⟩:=aP.o;have kc:=B.cell;have kf:=B.free;have dD:K.length<=17825792:=(by have:=P.o;have:=G.o;omega);have cZ:=aa (show ∀u∈g.map Value.string,u.oneCell'=true from λu hu=>by obtain⟨b,_,rfl⟩:=dB.1 hu;rfl);obtain⟨HOWN,bF,aS,bG,bH⟩:=ZU C B f ak (show ∀b,kv.ownBlock=some b->d.heap.size+1<=b/\b<V.heap.size from C.lt);clear c C B f ak;have dh:=aa (show ∀O:World,V.grownBy O kv.ownBlock->xe O d.heap.size kv from λO hg=>bF.o.grown hg (λe=>by have:=(bH.o _ e).1;omega));go_wp2_with (at_builtin;refine bT _ rfl _ _ 53 rfl (d.heap.size+1) 9 i0 _ 1 16 eu bN bP bQ bR rfl (by omega) _ _ _ rfl HOWN.o _ g.length _ (g.map .string) rfl bD.o cZ.o (by have:=Z.o;unfold maxLen;omega) (by have:=Z.o;omega) bG.o ?_;intro A8 c8 O bI aT di;have aV:=dh.o O aT;have dm:=aV.cell;have dw:=aV.free);have bJ:=EE.put bF.o bH.o aS.o bG.o bI rfl aT;have dx:=aa bJ;clear bI aT di aV dm dw bJ kc kf q0;go_roundw;case rel=>exact⟨j+1,K++g,G.o,by go_num,dx.o,ai.o,by have:=P.o;have:=Z.o;rw[aF];omega⟩
    case measure=>have:=G.o;simp[intOf];omega
   ·have dE:(k==2)=false:=(by rw[aB];exact k2);have c:=bv.o;rw[aG k2]at c;obtain⟨kv,B,C,f,ak⟩:=aP.o;obtain⟨AK,cK,rfl⟩:=OV C;have kc:=B.cell;have bK:(g.any λs=>!Lib.containsS K s)=(t.vars.any λs=>!Lib.containsS K s):=by
     rw[jY,eU,eU];constructor;·rintro⟨x,hx,h⟩;exact⟨x,(aR.o x).1 hx,h⟩
     ·rintro⟨x,hx,h⟩;exact⟨x,(aR.o x).2 hx,h⟩
    rw[<-bK]at c;have bL:=aa (Em K AK cK d.heap.size g A6 c6 V (by have:=P.o;have:=G.o;omega) kc (Src.uD C) (by have:=Z.o;omega) bD.o);generalize(g.any λs=>!Lib.containsS K s)=q at c bL;have ai:=aa c;clear c bK B C f ak kc;go_wp2_with fail;refine bL.o.m ?_;rintro e w7 ⟨rfl,rfl⟩;cases q
    ·have dz:=aa (show lQ K (a.drop (j+1))=p by have h:=ai.o;rw[aG (by decide)]at h;exact h);go_wp2_with fail;go_roundw;case rel=>exact⟨j+1,K,G.o,by go_num,aP.o,dz.o,aD P.o (iC _ (ng j))⟩
     case measure=>have:=G.o;simp[intOf];omega
    ·have n:=aa (show(70:Int)=p by have h:=ai.o;rw[aI rfl]at h;exact h);go_wp2_with fail;go_ret;exact⟨fG n.o,cO.o⟩
  ·obtain rfl:j=a.length:=(by omega);rw[xH]at c;have n:=aa (show(0:Int)=p from c);have f:Below d.heap.size d wr:=(by obtain⟨_,_,_,h,_⟩:=L;exact h);have aS:=aa (v.o.t (f.m v.o.size));clear L c f;go_wp2_with fail;go_ret;exact⟨fG n.o,aS.o⟩
def T.Dx(n:Nat):Except Nat (T×Nat)->T×Nat×Int
 |.error e=>(.mk 0 ⟨#[]⟩ [],e,71)
 |.ok (t,j)=>if j<n then (.mk 0 ⟨#[]⟩ [],j,71) else if t.fe=true then (t,0,0) else (.mk 0 ⟨#[]⟩ [],0,76)
theorem T.RJ(s:ByteArray)(h:¬1024<s.size)(r:Except Nat (T×Nat))(a:T.oP s.data.toList (2*s.size+1) 0=some r):T.parse s=T.Dx s.size r:=by
 unfold T.parse;rw[aG h,a];rcases r with e|⟨t,j⟩<;>rfl
def xN(p:T×Nat×Int)(w:World)(e:Ending)(w':World):Prop:=
 ∃A cap,e=.returned (.tuple #[.agg #[.int .i64 p.1.aC,.string p.1.aJ,.slice A p.1.ay.length cap],.int .i64 p.2.1,.int .i64 p.2.2])/\
  bN (eG w.heap.size) w' (.agg #[.int .i64 p.1.aC,.string p.1.aJ,.slice A p.1.ay.length cap]) p.1/\Below w.heap.size w w'
theorem xN.drew{p:T×Nat×Int}{w:World}{e:Ending}{w':World}(h:xN p w e w'):xN p w e w'.drew:=by
 obtain⟨A,cap,a,c,d⟩:=h;exact⟨A,cap,a,c.aR λb hb _=>⟨hb,rfl⟩,d.drew⟩
theorem vX{w W:World}{t:T}{i:Nat}{c:Int}{A:Option Addr}{cap:Nat}(hb:Below w.heap.size w W)(h:bN (eG (w.heap.size+1)) W (.agg #[.int .i64 t.aC,.string t.aJ,.slice A t.ay.length cap]) t){e:Ending}
 (a:e=.returned (.tuple #[.agg #[.int .i64 t.aC,.string t.aJ,.slice A t.ay.length cap],.int .i64 i,.int .i64 c])):
 xN (t,i,c) w e (((W.setCell ⟨w.heap.size,0,none⟩ (.int .i64 t.aC)).setCell ⟨w.heap.size,1,none⟩ (.string t.aJ)).setCell ⟨w.heap.size,2,none⟩ (.slice A t.ay.length cap)):=by
 refine⟨A,cap,a,h.aR λb d _=>?_,hb.t (Gx _ _ _ _ _)⟩;have:=ax d;exact⟨aQ (by omega),nP _ _ _ _ _ _ (by omega)⟩
def Gj(w:World)(g:Nat)(a b c d:Value):Prop:=w.heap[g]?=some (.cells #[a,b,c,d] 31)
theorem Gj.lt{w:World}{g:Nat}{a b c d:Value}(h:Gj w g a b c d):g<w.heap.size:=(aZ.1 h).1
theorem Gj.cells{w:World}{g:Nat}{a b c d:Value}(h:Gj w g a b c d):w.cell? ⟨g,0,none⟩=some a/\w.cell? ⟨g,1,none⟩=some b/\w.cell? ⟨g,2,none⟩=some c/\w.cell? ⟨g,3,none⟩=some d:=by
 unfold Gj at h;refine⟨?_,?_,?_,?_⟩<;>simp[World.cell?,h]
theorem Gj.free{w:World}{g:Nat}{a b c d:Value}(h:Gj w g a b c d):w.frozen? ⟨g,0,none⟩=false/\w.frozen? ⟨g,1,none⟩=false/\w.frozen? ⟨g,2,none⟩=false/\w.frozen? ⟨g,3,none⟩=false:=by
 unfold Gj at h;refine⟨?_,?_,?_,?_⟩<;>simp[World.frozen?,h]
theorem Gj.ag{w w':World}{g:Nat}{a b c d:Value}(h:Gj w g a b c d)(hb:Below w.heap.size w w'):Gj w' g a b c d:=(hb.block g h.lt).t h
theorem pR(w:World)(S:Nat->Bool)(k:Nat):(only w S).heap[k]?=(w.heap[k]?).map λo=>if S k=true then o else .cells #[] 0 (0,0):=by
 simp[only,Array.getElem?_mapIdx]
theorem o9(w:World)(S:Nat->Bool):(only w S).heap.size=w.heap.size:=by simp[only]
theorem yO{w w':World}{row:Option Nat}(h:w.grownBy w' row)(S:Nat->Bool):(only w S).grownBy (only w' S) row:=
 ⟨h.os,h.tape,h.output,by rw[o9,o9];exact h.size,λk a b=>by rw[pR,pR,h.block k (by rw[o9]at a;exact a) b]⟩
theorem Ry{w:World}{base:Nat}{e:TypeId}{size n:Nat}{v:Value}{xs:List Value}(h:w.ownsRow base e size v n xs)(S:Nat->Bool)(hS:∀g,v.ownBlock=some g->S g=true):(only w S).ownsRow base e size v n xs:=by
 refine⟨h.1,?_⟩;rcases h.2 with h0|⟨g,cap,a,rfl,b,c,rest⟩;·exact .inl h0
 ·exact .inr ⟨g,cap,a,rfl,b,by rw[pR,c,jh,aI (hS g rfl)],rest⟩
theorem FD{w:World}{base:Nat}{e:TypeId}{size n:Nat}{v:Value}{xs:List Value}{S:Nat->Bool}(h:(only w S).ownsRow base e size v n xs)(c:e≠0):w.ownsRow base e size v n xs:=by
 refine⟨h.1,?_⟩;rcases h.2 with h0|⟨g,cap,d,rfl,f,b,rest⟩;·exact .inl h0
 ·refine .inr ⟨g,cap,d,rfl,f,?_,rest⟩;rw[pR]at b;obtain⟨o,i,a⟩:=nC.1 b;split at a;·rw[i,a]
  ·injection a with k j;exact absurd j.symm c
theorem Ul(w:World)(S:Nat->Bool)(p:Addr)(v:Value)(hS:S p.block=false)(k:Nat):(only (w.setCell p v) S).heap[k]?=(only w S).heap[k]?:=by
 rw[pR,pR];by_cases b:k=p.block
 ·subst b;rw[hS];have h:(w.setCell p v).heap[p.block]?.isSome=w.heap[p.block]?.isSome:=by
   simp only[World.setCell,ed];simp
  cases c:w.heap[p.block]? with
  |none=>rw[c]at h;cases a:(w.setCell p v).heap[p.block]? with
   |none=>rfl
   |some o=>rw[a]at h;cases h
  |some o=>rw[c]at h;cases a:(w.setCell p v).heap[p.block]? with
   |none=>rw[a]at h;cases h
   |some d=>rfl
 ·rw[aM _ _ _ _ b]
theorem bN.IK{S X:Nat->Bool}{w:World}{v:Value}{t:T}(h:bN S (only w X) v t):bN S w v t:=
 aO.aR h λp a=>by
  rw[fM]at a⊢;rw[fM];split at a
  ·rename_i hS;rw[aI hS];rw[fM]at a⊢;split at a;·rename_i hX;rw[aI hX];simp[hS]
   ·cases a
  ·cases a
theorem bK.IK{w:World}{X:Nat->Bool}{base:Nat}{v:Value}{L:List T}(h:bK (only w X) base v L):bK w base v L:=by
 rcases h with h|⟨g,cap,rfl,l,j,e,k,f,m,n⟩;·exact .inl h
 ·refine .inr ⟨g,cap,rfl,l,?_,e,k,f,m,λi hi=>?_⟩
  ·rw[pR]at j;obtain⟨o,p,e⟩:=nC.1 j;split at e;·rw[p,e]
   ·injection e with k f;exact absurd f (by decide)
  ·obtain⟨q,r,s,a,b,c,d⟩:=n i hi;exact⟨q,r,s,a,b,c,d.IK⟩
def yL(x:Nat):Nat->Bool:=λb=>!(b==x)
theorem Dp{x b:Nat}:yL x b=true<->b≠x:=by unfold yL;simp
theorem Rs(x:Nat):yL x x=false:=by unfold yL;simp
namespace T
def after(l:List UInt8)(f n c m:Nat):Option (Except Nat (List T×Nat)):=
 if (0<n/\c=n)\/(n=0/\now l m 44=false) then some (.ok ([],m))
 else match sZ l [44,32] m with
  |.error e=>some (.error e)
  |.ok j=>lq l f n c j
theorem zY(l:List UInt8)(f n c i:Nat)(t:T)(j:Nat)(h:oP l f i=some (.ok (t,j))):lq l (f+1) n c i=more t (after l f n (c+1) j):=by
 simp only[lq,h,after];split;·rfl
 ·cases sZ l [44,32] j<;>rfl
end T
theorem UJ(g i:Nat)(s:ByteArray)(w:World)(h:kC 188 w g s i false)(hi:i<=s.size)(hs:s.size<=4096):
 Calls Tryz.prog 178 #[.pointer (some ⟨g,0,none⟩)] w (SG 188 g i s w):=by
 obtain⟨x0,L,M⟩:=h.cells;have HW:=aa h;clear h;go_enter Tryz.func178,Tryz.ntmps178;go_wp2_with fail;clear x0 L M
 go_loopg [] 16 (λn wr=>∃m:Nat,n+m=16+i/\n<=16/\m<=s.size/\T.gN s.data.toList i=T.nM s.data.toList i n m/\kC 188 wr g s m false/\w.grownBy wr (some g))
 case atStart=>exact⟨i,by omega,ak _,hi,rfl,HW.o,sW _ _⟩
 case round=>
  obtain⟨m,ae,af,ag,N,U,hg⟩:=hrel;obtain⟨x0,L,M⟩:=U.cells;obtain⟨f0,f1,f2⟩:=U.free;obtain⟨d,hd⟩:∃d,m=i+d:=⟨m-i,by omega⟩;have q1:IntKind.i64.wrap ((m:Int)-(i:Int))=(d:Int):=(by rw[jc _ (by omega)];omega);obtain⟨HP,HG⟩:=ZQ U hg;have aH:((gk=0\/s.size<=m\/T.zU s.data.toList i m=false)/\T.gN s.data.toList i=m)\/(∃n,gk=n+1/\m<s.size/\T.zU s.data.toList i m=true/\T.gN s.data.toList i=T.nM s.data.toList i n (m+1)):=by
   cases gk with
   |zero=>left;exact⟨.inl rfl,N⟩
   |succ n=>
    simp only[T.nM]at N;split at N
    ·rename_i V;right;exact⟨n,rfl,by have:=V.1;simpa using this,V.2,N⟩
    ·rename_i V;left;refine⟨.inr ?_,N⟩;rcases cu m s.size with p|p
     ·right;rw[iX];intro hb;exact V ⟨by simpa using p,hb⟩
     ·left;exact p
  obtain⟨J,ax,u⟩:=ZR hd ae ag;have h3:(0:Int)<=(m:Int):=(by omega);clear U hg N hd;rcases aH with⟨ay,Q⟩|⟨n,az,v,R,Q⟩
  ·have k:=aa Q;have aI:s.size<=m\/(m<s.size/\d=16)\/(m<s.size/\d<16/\T.low s[m]! =false/\i=m)\/(m<s.size/\d<16/\T.low s[m]! =false/\i<m/\T.Oo s[m]! =false):=by
    rcases cu m s.size with p|p
    ·right;have av:s[m]! =s[m]:=iE s m p;rcases ay with h|h|h;·left;have:=J.o;exact⟨p,by omega⟩
     ·omega
     ·rw[T.JK s i m p,kJ]at h;obtain⟨a,b⟩:=h;by_cases d16:d=16;·left;exact⟨p,d16⟩
      ·right;have aA:=J.o;by_cases hz:i=m;·left;exact⟨p,by omega,by rw[av];exact a,hz⟩
       ·right;rw[aQ (show i<m by omega),mr]at b;exact⟨p,by omega,by rw[av];exact a,by omega,by rw[av];exact b⟩
    ·left;exact p
   clear ay Q ae af ag;have aC:∀nq,kC 188 (wr.drewN nq) g s m false/\w.grownBy (wr.drewN nq) (some g):=λnq=>⟨HP.o.drewN nq,iM HG.o nq⟩;have S:=aa aC;clear aC;rcases aI with p|⟨p,g2⟩|⟨p,g2,t,g4⟩|⟨p,g2,t,g4,g5⟩
   ·have W:(s.size:Int)<=(m:Int):=(by omega);have X:decide ((m:Int)<(s.size:Int))=false:=dh (by omega);have a3:decide (m<s.size)=false:=dh (by omega);go_upto_region 2 with fail;go_quiet (fail);go_upto_region 4 with fail;obtain⟨e,l⟩:=S.o nq;generalize wr.drewN nq=w9 at e l⊢;obtain⟨x,y,z⟩:=e.cells;obtain⟨A,B,C⟩:=e.free;obtain⟨q,r⟩:=ZQ e l;clear e l x0 L M f0 f1 f2;by_cases f:m=i
    ·have D:((m:Int)==(i:Int))=true:=(by rw[f];simp);have c:=aa f;have j:=q.o.Bv true;have o:=lF r.o 2 (.bool true);clear f;go_upto_region 6 with fail;generalize w9.setCell ⟨g,2,none⟩ (.bool true)=Y at j o⊢;obtain⟨Z,z1,z2⟩:=j.cells;obtain⟨E,F⟩:=ZQ j o;have G:(i:Int)<=(m:Int):=(by have:=c.o;omega);have H:(m:Int)<=(s.size:Int):=(by have:=u.o;omega);have I:(0:Int)<=(i:Int):=(by omega);clear j o x y z A B C;go_quiet (fail);go_wp2_with fail;go_ret;refine⟨iM F.o nq,.inl ⟨by rw[k.o,c.o],nO (tJ (by rw[c.o,mP];simp)),by have:=E.o.drewN nq;rw[c.o]at this;exact this⟩⟩
    ·have D:((m:Int)==(i:Int))=false:=(by rw[aB];omega);have c:=aa f;have G:(i:Int)<=(m:Int):=(by have:=J.o;omega);have H:(m:Int)<=(s.size:Int):=(by have:=u.o;omega);have I:(0:Int)<=(i:Int):=(by omega);clear f;go_upto_region 6 with fail;go_quiet (fail);go_wp2_with fail;go_ret;exact⟨iM r.o nq,.inr ⟨by rw[k.o];exact c.o,nO (by rw[k.o];exact T.rD s i m),by rw[k.o];exact q.o.drewN nq⟩⟩
   ·have W:(m:Int)<(s.size:Int):=(by omega);have X:decide ((d:Int)<16)=false:=dh (by omega);have a3:decide (d<16)=false:=dh (by omega);go_upto_region 2 with fail;go_quiet (fail);go_upto_region 4 with fail;obtain⟨e,l⟩:=S.o nq;generalize wr.drewN nq=w9 at e l⊢;obtain⟨x,y,z⟩:=e.cells;obtain⟨A,B,C⟩:=e.free;obtain⟨q,r⟩:=ZQ e l;clear e l x0 L M f0 f1 f2;by_cases f:m=i
    ·have D:((m:Int)==(i:Int))=true:=(by rw[f];simp);have c:=aa f;have j:=q.o.Bv true;have o:=lF r.o 2 (.bool true);clear f;go_upto_region 6 with fail;generalize w9.setCell ⟨g,2,none⟩ (.bool true)=Y at j o⊢;obtain⟨Z,z1,z2⟩:=j.cells;obtain⟨E,F⟩:=ZQ j o;have G:(i:Int)<=(m:Int):=(by have:=c.o;omega);have H:(m:Int)<=(s.size:Int):=(by have:=u.o;omega);have I:(0:Int)<=(i:Int):=(by omega);clear j o x y z A B C;go_quiet (fail);go_wp2_with fail;go_ret;refine⟨iM F.o nq,.inl ⟨by rw[k.o,c.o],nO (tJ (by rw[c.o,mP];simp)),by have:=E.o.drewN nq;rw[c.o]at this;exact this⟩⟩
    ·have D:((m:Int)==(i:Int))=false:=(by rw[aB];omega);have c:=aa f;have G:(i:Int)<=(m:Int):=(by have:=J.o;omega);have H:(m:Int)<=(s.size:Int):=(by have:=u.o;omega);have I:(0:Int)<=(i:Int):=(by omega);clear f;go_upto_region 6 with fail;go_quiet (fail);go_wp2_with fail;go_ret;exact⟨iM r.o nq,.inr ⟨by rw[k.o];exact c.o,nO (by rw[k.o];exact T.rD s i m),by rw[k.o];exact q.o.drewN nq⟩⟩
   ·have W:(m:Int)<(s.size:Int):=(by omega);have X:(d:Int)<16:=(by omega);have a4:decide ((i:Int)<(m:Int))=false:=dh (by omega);have a5:decide (i<m)=false:=dh (by omega);have hb:=NF s[m];rw[iE s m p]at t;have K:=aa t;clear t g4;go_upto_region 2 with fail;go_quiet ((go_at_call 134;exact xZ (uV _ _ hb.1 hb.2 false K.o)));go_upto_region 4 with fail;obtain⟨e,l⟩:=S.o nq;generalize wr.drewN nq=w9 at e l⊢;obtain⟨x,y,z⟩:=e.cells;obtain⟨A,B,C⟩:=e.free;obtain⟨q,r⟩:=ZQ e l;clear e l x0 L M f0 f1 f2;by_cases f:m=i
    ·have D:((m:Int)==(i:Int))=true:=(by rw[f];simp);have c:=aa f;have j:=q.o.Bv true;have o:=lF r.o 2 (.bool true);clear f;go_upto_region 6 with fail;generalize w9.setCell ⟨g,2,none⟩ (.bool true)=Y at j o⊢;obtain⟨Z,z1,z2⟩:=j.cells;obtain⟨E,F⟩:=ZQ j o;have G:(i:Int)<=(m:Int):=(by have:=c.o;omega);have H:(m:Int)<=(s.size:Int):=(by have:=u.o;omega);have I:(0:Int)<=(i:Int):=(by omega);clear j o x y z A B C;go_quiet (fail);go_wp2_with fail;go_ret;refine⟨iM F.o nq,.inl ⟨by rw[k.o,c.o],nO (tJ (by rw[c.o,mP];simp)),by have:=E.o.drewN nq;rw[c.o]at this;exact this⟩⟩
    ·have D:((m:Int)==(i:Int))=false:=(by rw[aB];omega);have c:=aa f;have G:(i:Int)<=(m:Int):=(by have:=J.o;omega);have H:(m:Int)<=(s.size:Int):=(by have:=u.o;omega);have I:(0:Int)<=(i:Int):=(by omega);clear f;go_upto_region 6 with fail;go_quiet (fail);go_wp2_with fail;go_ret;exact⟨iM r.o nq,.inr ⟨by rw[k.o];exact c.o,nO (by rw[k.o];exact T.rD s i m),by rw[k.o];exact q.o.drewN nq⟩⟩
   ·have W:(m:Int)<(s.size:Int):=(by omega);have X:(d:Int)<16:=(by omega);have a4:decide ((i:Int)<(m:Int))=true:=aQ (by omega);have a5:decide (i<m)=true:=aQ (by omega);have a6:(i:Int)<(m:Int):=(by omega);have hb:=NF s[m];rw[iE s m p]at t g5;obtain⟨K,G5⟩:=ZQ t g5;clear t g5;have O:(s[m].toNat:Int)<48\/(48<=(s[m].toNat:Int)/\57<(s[m].toNat:Int)):=(by have h:=G5.o;rw[<-T.PL]at h;simp at h;omega);rcases O with O|⟨O,aJ⟩
    ·have b1:decide (48<=(s[m].toNat:Int))=false:=dh (by omega);go_upto_region 2 with fail;go_quiet ((go_at_call 134;exact xZ (uV _ _ hb.1 hb.2 false K.o)));go_upto_region 4 with fail;obtain⟨e,l⟩:=S.o nq;generalize wr.drewN nq=w9 at e l⊢;obtain⟨x,y,z⟩:=e.cells;obtain⟨A,B,C⟩:=e.free;obtain⟨q,r⟩:=ZQ e l;clear e l x0 L M f0 f1 f2;by_cases f:m=i
     ·have D:((m:Int)==(i:Int))=true:=(by rw[f];simp);have c:=aa f;have j:=q.o.Bv true;have o:=lF r.o 2 (.bool true);clear f;go_upto_region 6 with fail;generalize w9.setCell ⟨g,2,none⟩ (.bool true)=Y at j o⊢;obtain⟨Z,z1,z2⟩:=j.cells;obtain⟨E,F⟩:=ZQ j o;have G:(i:Int)<=(m:Int):=(by have:=c.o;omega);have H:(m:Int)<=(s.size:Int):=(by have:=u.o;omega);have I:(0:Int)<=(i:Int):=(by omega);clear j o x y z A B C;go_quiet (fail);go_wp2_with fail;go_ret;refine⟨iM F.o nq,.inl ⟨by rw[k.o,c.o],nO (tJ (by rw[c.o,mP];simp)),by have:=E.o.drewN nq;rw[c.o]at this;exact this⟩⟩
     ·have D:((m:Int)==(i:Int))=false:=(by rw[aB];omega);have c:=aa f;have G:(i:Int)<=(m:Int):=(by have:=J.o;omega);have H:(m:Int)<=(s.size:Int):=(by have:=u.o;omega);have I:(0:Int)<=(i:Int):=(by omega);clear f;go_upto_region 6 with fail;go_quiet (fail);go_wp2_with fail;go_ret;exact⟨iM r.o nq,.inr ⟨by rw[k.o];exact c.o,nO (by rw[k.o];exact T.rD s i m),by rw[k.o];exact q.o.drewN nq⟩⟩
    ·have b1:decide (48<=(s[m].toNat:Int))=true:=aQ (by omega);have b2:decide ((s[m].toNat:Int)<=57)=false:=dh (by omega);go_upto_region 2 with fail;go_quiet ((go_at_call 134;exact xZ (uV _ _ hb.1 hb.2 false K.o)));go_upto_region 4 with fail;obtain⟨e,l⟩:=S.o nq;generalize wr.drewN nq=w9 at e l⊢;obtain⟨x,y,z⟩:=e.cells;obtain⟨A,B,C⟩:=e.free;obtain⟨q,r⟩:=ZQ e l;clear e l x0 L M f0 f1 f2;by_cases f:m=i
     ·have D:((m:Int)==(i:Int))=true:=(by rw[f];simp);have c:=aa f;have j:=q.o.Bv true;have o:=lF r.o 2 (.bool true);clear f;go_upto_region 6 with fail;generalize w9.setCell ⟨g,2,none⟩ (.bool true)=Y at j o⊢;obtain⟨Z,z1,z2⟩:=j.cells;obtain⟨E,F⟩:=ZQ j o;have G:(i:Int)<=(m:Int):=(by have:=c.o;omega);have H:(m:Int)<=(s.size:Int):=(by have:=u.o;omega);have I:(0:Int)<=(i:Int):=(by omega);clear j o x y z A B C;go_quiet (fail);go_wp2_with fail;go_ret;refine⟨iM F.o nq,.inl ⟨by rw[k.o,c.o],nO (tJ (by rw[c.o,mP];simp)),by have:=E.o.drewN nq;rw[c.o]at this;exact this⟩⟩
     ·have D:((m:Int)==(i:Int))=false:=(by rw[aB];omega);have c:=aa f;have G:(i:Int)<=(m:Int):=(by have:=J.o;omega);have H:(m:Int)<=(s.size:Int):=(by have:=u.o;omega);have I:(0:Int)<=(i:Int):=(by omega);clear f;go_upto_region 6 with fail;go_quiet (fail);go_wp2_with fail;go_ret;exact⟨iM r.o nq,.inr ⟨by rw[k.o];exact c.o,nO (by rw[k.o];exact T.rD s i m),by rw[k.o];exact q.o.drewN nq⟩⟩
  ·have k:=aa Q;rw[T.JK s i m v]at R;have aA:=J.o;have W:(m:Int)<(s.size:Int):=(by omega);have X:(d:Int)<16:=(by omega);have hb:=NF s[m];obtain⟨aD,P,aF⟩:=ZR v az af;clear Q aA ae af ag az;have hl:T.low (s[m]'v)=true\/(T.low (s[m]'v)=false/\i<m/\T.Oo (s[m]'v)=true):=by
    rcases bR (T.low (s[m]'v))with a|a;·exact .inl a
    ·right;rw[a,Bool.false_or,ai,bW]at R;exact⟨a,R.1,R.2⟩
   clear R;rcases hl with t|⟨t,aK,aG⟩
   ·have K:=aa t;clear t;go_upto_region 2 with fail;go_quiet ((go_at_call 134;exact xZ (uV _ _ hb.1 hb.2 true K.o)));go_wp2_with fail
    go_roundg n
    case measure=>have:=P.o;omega
    case rel=>exact⟨m+1,by have:=ax.o;have:=P.o;omega,by have:=aF.o;have:=P.o;omega,aD.o,k.o,(HP.o.drewN nq).IZ (m+1) _ (by push_cast;rfl),lF (iM HG.o nq) _ _⟩
   ·have a4:decide ((i:Int)<(m:Int))=true:=aQ (by omega);have a5:decide (i<m)=true:=aQ (by omega);have a6:(i:Int)<(m:Int):=(by omega);obtain⟨K,G5⟩:=ZQ t aG;clear t aG;have O:48<=((s[m]'v).toNat:Int)/\((s[m]'v).toNat:Int)<=57:=(by have h:=G5.o;rw[<-T.PL]at h;simp at h;omega);obtain⟨O,aJ⟩:=O;have b1:decide (48<=((s[m]'v).toNat:Int))=true:=aQ (by omega);have b2:decide (((s[m]'v).toNat:Int)<=57)=true:=aQ (by omega);go_upto_region 2 with fail;go_quiet ((go_at_call 134;exact xZ (uV _ _ hb.1 hb.2 false K.o)));go_wp2_with fail
    go_roundg n
    case measure=>have:=P.o;omega
    case rel=>exact⟨m+1,by have:=ax.o;have:=P.o;omega,by have:=aF.o;have:=P.o;omega,aD.o,k.o,(HP.o.drewN nq).IZ (m+1) _ (by push_cast;rfl),lF (iM HG.o nq) _ _⟩
end
end Go.Proofs.YtaciciokmpbkkaaGreatDoor
