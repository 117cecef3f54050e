import Derived.Test.YtaciciokmpbkkaaGreatDoorWebG7
import Derived.Test.YtaciciokmpbkkaaGreatDoorWebG9
import Derived.Lib.AppendZerosOnto
import Derived.Lib.Overlaps
set_option maxRecDepth 100000
set_option maxHeartbeats 16000000
namespace Go.Proofs.YtaciciokmpbkkaaGreatDoor
section
open Go.RowKit
def BC(w:World)(xs:List Value)(L:List Bd):Prop:=
 xs.length=L.length*4/\∀i (h:i<L.length),∃A c,xs[i*4]?=some (.string L[i].var)/\xs[i*4+1]?=some (.int .i64 L[i].t.aA)/\xs[i*4+2]?=some (.string L[i].t.aI)/\xs[i*4+3]?=some (.slice A L[i].t.ay.length c)/\
   aS w (.agg #[.int .i64 L[i].t.aA,.string L[i].t.aI,.slice A L[i].t.ay.length c]) L[i].t/\L[i].var.size<=maxLen
theorem BC.ag{w w':World}{xs:List Value}{L:List Bd}(h:BC w xs L)(hb:Below w.heap.size w w'):BC w' xs L:=
 ⟨h.1,λi hi=>by obtain⟨A,c,a0,a,b,d,e,f⟩:=h.2 i hi;exact⟨A,c,a0,a,b,d,e.ag hb,f⟩⟩
theorem BC.nil(w:World):BC w [] []:=⟨rfl,λi h=>by simp at h⟩
theorem BC.one{w:World}{s:ByteArray}{A:Option Addr}{c:Nat}{t:T}(h:aS w (.agg #[.int .i64 t.aA,.string t.aI,.slice A t.ay.length c]) t)(a:s.size<=maxLen):BC w [.string s,.int .i64 t.aA,.string t.aI,.slice A t.ay.length c] [⟨s,t⟩]:=
 ⟨rfl,λi hi=>by
   obtain rfl:i=0:=aaP;exact⟨A,c,rfl,rfl,rfl,rfl,h,a⟩⟩
theorem BC.append{w:World}{xs d:List Value}{L M:List Bd}(h:BC w xs L)(k:BC w d M):BC w (xs++d) (L++M):=by
 refine⟨by rw[aF,aF,h.1,k.1];omega,λi hi=>?_⟩;have m:=h.1;rcases bX i L.length with g|g
 ·obtain⟨A,c,a0,e,f,j,a,b⟩:=h.2 i g;rw[dH g];refine⟨A,c,?_,?_,?_,?_,a,b⟩;all_goals rw[bN aaF];assumption
 ·have l:i-L.length<M.length:=aaQ;obtain⟨A,c,a0,e,f,j,a,b⟩:=k.2 (i-L.length) l;rw[dh g];refine⟨A,c,?_,?_,?_,?_,a,b⟩;·rw[bq aar,<-a0];congr 1;omega
  ·rw[bq aar,<-e];congr 1;omega
  ·rw[bq aar,<-f];congr 1;omega
  ·rw[bq aar,<-j];congr 1;omega
theorem BC.take{w:World}{xs:List Value}{L:List Bd}(h:BC w xs L)(j:Nat):BC w (xs.take (j*4)) (L.take j):=by
 refine⟨by rw[aX,aX,h.1];omega,λi hi=>?_⟩;have hj:i<j/\i<L.length:=(by rw[aX]at hi;omega);obtain⟨A,c,a0,d,e,f,a,b⟩:=h.2 i hj.2;rw[nX];refine⟨A,c,?_,?_,?_,?_,a,b⟩;all_goals rw[gY,aJ aaF];assumption
theorem BC.drop{w:World}{xs:List Value}{L:List Bd}(h:BC w xs L)(j:Nat):BC w (xs.drop (j*4)) (L.drop j):=by
 refine⟨by rw[dO,dO,h.1];omega,λi hi=>?_⟩;have hj:j+i<L.length:=(by rw[dO]at hi;omega);obtain⟨A,c,a0,a,b,d,e,f⟩:=h.2 (j+i) hj;rw[wO];refine⟨A,c,?_,?_,?_,?_,e,f⟩;·rw[gX,<-a0];congr 1;omega
 ·rw[gX,<-a];congr 1;omega
 ·rw[gX,<-b];congr 1;omega
 ·rw[gX,<-d];congr 1;omega
theorem BC.one'{w:World}{xs:List Value}{L:List Bd}(h:BC w xs L):∀u∈xs,u.oneCell'=true:=by
 intro u hu;obtain⟨j,hj,rfl⟩:=bL hu;have f:=h.1;obtain⟨A,c,a0,a,b,d,i,k⟩:=h.2 (j / 4) aar;have e:xs[j]?=some xs[j]:=az hj;rcases(show j=j / 4*4\/j=j / 4*4+1\/j=j / 4*4+2\/j=j / 4*4+3 by omega)with g|g|g|g;·rw[<-g,e]at a0;injection a0 with a0;rw[a0];rfl
 ·rw[<-g,e]at a;injection a with a;rw[a];rfl
 ·rw[<-g,e]at b;injection b with b;rw[b];rfl
 ·rw[<-g,e]at d;injection d with d;rw[d];rfl
def gH(w:World)(v:Value)(L:List Bd):Prop:=
 (v=.slice none 0 0/\L=[])\/∃b off cap xs,v=.slice (some ⟨b,off,none⟩) L.length cap/\0<L.length/\L.length<=cap/\cap<=maxLen/\BC w xs L/\∀j u,xs[j]?=some u->w.cell? ⟨b,off+j,none⟩=some u
theorem gH.nil(w:World):gH w (.slice none 0 0) []:=.inl ⟨rfl,rfl⟩
theorem gH.ag{w w':World}{v:Value}{L:List Bd}(h:gH w v L)(hb:Below w.heap.size w w'):gH w' v L:=by
 rcases h with h|⟨b,off,cap,xs,e,h0,a,c,d,f⟩;·exact .inl h
 ·exact .inr ⟨b,off,cap,xs,e,h0,a,c,d.ag hb,λj u hu=>af hb (f j u hu)⟩
theorem gH.shape{w:World}{v:Value}{L:List Bd}(h:gH w v L):∃A cap,v=.slice A L.length cap/\L.length<=cap/\cap<=maxLen:=by
 rcases h with⟨rfl,rfl⟩|⟨b,off,cap,xs,e,_,a,c,_⟩;·exact⟨none,0,rfl,ax _,aT _⟩
 ·exact⟨_,cap,e,a,c⟩
theorem gH.get{w:World}{A:Option Addr}{cap:Nat}{L:List Bd}(h:gH w (.slice A L.length cap) L){i:Nat}(hi:i<L.length):
 ∃b off B c,A=some ⟨b,off,none⟩/\w.cell? ⟨b,off+i*4,none⟩=some (.string L[i].var)/\w.cell? ⟨b,off+i*4+1,none⟩=some (.int .i64 L[i].t.aA)/\w.cell? ⟨b,off+i*4+2,none⟩=some (.string L[i].t.aI)/\w.cell? ⟨b,off+i*4+3,none⟩=some (.slice B L[i].t.ay.length c)/\
  aS w (.agg #[.int .i64 L[i].t.aA,.string L[i].t.aI,.slice B L[i].t.ay.length c]) L[i].t/\L[i].var.size<=maxLen:=by
 rcases h with⟨_,rfl⟩|⟨b,off,o,xs,e,h0,p,q,d,a⟩;·simp at hi
 ·injection e with f r g;subst f;subst g;obtain⟨B,c,a0,j,k,l,m,n⟩:=d.2 i hi;exact⟨b,off,B,c,rfl,a _ _ a0,a _ _ j,a _ _ k,a _ _ l,m,n⟩
theorem gH.yO{w:World}{base n cap:Nat}{A:Option Addr}{xs:List Value}{L:List Bd}(h:w.ownsRow base 132 4 (.slice A n cap) n xs)(a:n=L.length)(b:BC w xs L)(h0:0<n):gH w (.slice A n cap) L:=by
 subst a;rcases h.2 with⟨_,k⟩|⟨g,l,m,e,_,_,c,d,_⟩;·omega
 ·injection e with f o i;subst f;subst i;refine .inr ⟨g,0,cap,xs,rfl,h0,c,d,b,λj u hu=>?_⟩;have:=h.cells (g:=g) rfl j u hu;rw[cz]at this;exact this
theorem tY{P:Program}(w:World)(f k ty elem:TypeId)(size g o c l:Nat)(a:Addr)(d m:Nat)(b:Array Value)(t:TypeId)(cs:List Value)
 (hu:P.underlying f=some (.slice elem)) (h:(P.info? elem).map (·.size)=some size)
 (n:w.heap[g]?=some (.cells b t (0,0))) (p:cs.length=Nat.min d c*size)
 (q:∀j v,cs[j]?=some v->w.cell? (a.add j)=some v) (r:o+cs.length<=b.size) (s:∀v∈cs,v.oneCell'=true):
 (Builtin.copy_ #[f,k] ty #[.slice (some ⟨g,o,none⟩) c l,.slice (some a) d m]).run P w=
   .ok (goInt (Nat.min d c)) (w.setRow g (b.toList.take o++cs++b.toList.drop (o+cs.length)).toArray):=by
 have u:=run_loadCells_list (P:=P) w a cs q;have x:=run_storeCells_at P g o t cs 0 b w n (by simpa using r) s;cases e:P.info? elem with
 |none=>simp[e]at h
 |some i=>
  have hi:i.size=size:=(by simpa[e]using h);simp[Builtin.copy_,run_underlying hu,Builtin.lenOf,Builtin.firstCells,sizeOf,typeInfo,e,hi,<-p,u,x]
theorem Jv{P:Program}(w:World){o:Oper}{a:Act}{K:Act->World->Prop}{Q:Exit->Act->World->Prop}(d s:Operand)(t b:TypeId)
 (e:o.op=.call { callee:=.builtin .copy,args:=#[d,s],argTypes:=#[t,b] }) (v u:Value) (hd:a.eval d=v) (f:a.eval s=u) {c:Value} {w':World}
 (g:(Builtin.copy_ #[t,b] o.type #[v,u]).run P w=.ok c w') (h:K (a.put o.dst c) w'):o.wp P a w K Q:=by
 unfold Oper.wp execOp;simp only[e,resolve,invoke,builtin,Sem.run_bind,Sem.run_pure,Result.andThen_ok,List.map_toArray,jH,qP,hd,f,g];exact h
theorem xc{P:Program}(w:World){ops:Array Oper}{rest:List Oper}{o:Oper}{a:Act}{Q:Exit->Act->World->Prop}(e:o.guard=none)(d s:Operand)(t b:TypeId)
 (f:o.op=.call { callee:=.builtin .copy,args:=#[d,s],argTypes:=#[t,b] }) (v u:Value) (hd:a.eval d=v) (g:a.eval s=u) {c:Value} {w':World}
 (i:(Builtin.copy_ #[t,b] o.type #[v,u]).run P w=.ok c w') (h:wpList P ops Q rest (a.put o.dst c) w'):wpList P ops Q (o::rest) a w:=
 wpList_plain e λ_ j=>Jv w d s t b f v u hd g i (j _ _ h)
theorem zu{P:Program}{ops:Array Oper}{o:Oper}{a:Act}{w:World}{K:Act->World->Prop}{Q:Exit->Act->World->Prop}{E:Prop}
 (f:o.guard=none) (d x:Operand) (b c:TypeId) (g:o.op=Op.call { callee:=Callee.builtin Builtin.copy,args:=#[d,x],argTypes:=#[b,c] })
 (v u:Value) (hd:a.eval d=v) (h:a.eval x=u) {e:Value} {w':World} (i:(Builtin.copy_ #[b,c] o.type #[v,u]).run P w=.ok e w') (j:K (a.put o.dst e) w'):
 if Region.wanted o (yielded ops a.tmps)=true then Oper.wp P o a w K Q else E:=by
 have k:Region.wanted o (yielded ops a.tmps)=true:=(by simp[Region.wanted,f]);rw[aJ k];unfold Oper.wp;simp[execOp,g,resolve,invoke,builtin,hd,h,i,Result.andThen];exact j
theorem DY{w:World}{base n cap g off:Nat}{e:TypeId}{size:Nat}{xs:List Value}(h:w.ownsRow base e size (.slice (some ⟨g,off,none⟩) n cap) n xs):
 off=0/\base<=g/\n<=cap/\cap<=maxLen/\∃a,w.heap[g]?=some (.cells a e (0,0))/\a.size=cap*size/\a.toList.take (n*size)=xs:=by
 rcases h.2 with⟨c,_⟩|⟨o,p,a,e,c,d,f,i,j,k⟩;·cases c
 ·injection e with b q l;injection b with b;injection b with b m;subst b;subst l;subst m;exact⟨rfl,c,f,i,a,d,j,k⟩
theorem NZ(a xs vs:List Value)(i n m:Nat)(g:a.take (n*4)=xs)(e:xs.length=n*4)(hi:i<=n)(b:vs.length=m*4)(q:(n+m)*4<=a.length)(c1 c2:List Value)
 (c:c1=a.take ((i+m)*4)++xs.drop (i*4)++a.drop ((i+m)*4+(xs.drop (i*4)).length)) (f:c2=c1.take (i*4)++vs++c1.drop (i*4+vs.length)):
 c1.length=a.length/\c2.length=a.length/\c2.take ((n+m)*4)=xs.take (i*4)++vs++xs.drop (i*4):=by
 have hd:(xs.drop (i*4)).length=(n-i)*4:=(by rw[dO,e];omega);have d:c1.length=a.length:=by
  rw[c];simp only[aF,aX,dO,e];omega
 have h:c2.length=a.length:=by
  rw[f];simp only[aF,aX,dO,b,d];omega
 refine⟨d,h,?_⟩;have j:c1.take (i*4)=xs.take (i*4):=by
  rw[c,dC,nk aaR,zL,<-g,zL];congr 1;omega
 have k:(a.take ((i+m)*4)).length=i*4+m*4:=aaR;have l:(c1.drop (i*4+vs.length)).take ((n-i)*4)=xs.drop (i*4):=by
  rw[b,c,dC,<-k,zI];rw[nk (by rw[hd];exact ax _),bG (by rw[hd];exact ax _)]
 have o:(c1.take (i*4)++vs).length=i*4+m*4:=(by rw[aF,aX,b,d];omega);have p:(n+m)*4=(c1.take (i*4)++vs).length+(n-i)*4:=(by rw[o];omega);rw[f,p,List.take_length_add_append,l,j]
theorem ME(row xs vs:List Value)(i n m G:Nat)(e:row.take (i*4)=xs.take (i*4))(f:xs.length=n*4)(hi:i<=n)(b:vs.length=m*4)(o:(n+m)*4<=row.length)(p:row.length=G*4)(c1 c2:List Value)
 (c:c1=row.take (i*4)++vs++row.drop (i*4+vs.length)) (d:c2=c1.take ((i+m)*4)++xs.drop (i*4)++c1.drop ((i+m)*4+(xs.drop (i*4)).length)):
 c1.length=G*4/\c2.length=G*4/\c2.take ((n+m)*4)=xs.take (i*4)++vs++xs.drop (i*4):=by
 have hd:(xs.drop (i*4)).length=(n-i)*4:=(by rw[dO,f];omega);have a:c1.length=G*4:=by
  rw[c];simp only[aF,aX,dO,b];omega
 have g:c2.length=G*4:=by
  rw[d];simp only[aF,aX,dO,hd,a];omega
 refine⟨a,g,?_⟩;have h:(row.take (i*4)++vs).length=(i+m)*4:=(by rw[aF,aX,b];omega);have j:c1.take ((i+m)*4)=xs.take (i*4)++vs:=by
  rw[c,<-h,vH,e]
 have k:(c1.take ((i+m)*4)).length=(i+m)*4:=(by rw[aX,a];omega);have l:(n+m)*4=(c1.take ((i+m)*4)++xs.drop (i*4)).length:=(by rw[aF,k,hd];omega);rw[d,l,vH,j]
theorem QL{w:World}{base g cap n:Nat}{a xs:List Value}{e:TypeId}(h:w.heap[g]?=some (.cells a.toArray e (0,0)))(hb:base<=g)(b:n<=cap)(f:cap<=maxLen)(c:a.length=cap*4)(d:a.take (n*4)=xs):w.ownsRow base e 4 (.slice (some ⟨g,0,none⟩) n cap) n xs:=
 ⟨by rw[<-d,aX,c];exact kg (iq _ b),.inr ⟨g,cap,a.toArray,rfl,hb,h,b,f,by simpa using c,by simpa using d⟩⟩
theorem setRow_size(w:World)(g:Nat)(cs:Array Value):(w.setRow g cs).heap.size=w.heap.size:=by simp[World.setRow]
theorem uV{B g:Nat}{a w:World}(h:Below B a w)(c:B<=g)(cs:Array Value):Below B a (w.setRow g cs):=
 ⟨h.os,h.tape,h.output,by rw[setRow_size];exact h.size,λb hb=>by rw[setRow_other w g b cs aaF];exact h.block b hb⟩
theorem Nq{base:Nat}(n cap b:Nat)(xs vs:List Value)(a:Nat)(w:World)(z:n<=1048576)(c:w.ownsRow base 132 4 (.slice (some ⟨b,0,none⟩) n cap) n xs)(f:base<=w.heap.size)
 (g:w.heap[a]?=some (.cells vs.toArray 132 (0,0))) (h:vs.length=4) (i:∀u∈vs,u.oneCell'=true):
 Calls Tryz.prog 217 #[.slice (some ⟨b,0,none⟩) n cap,.int .i64 n,.slice (some ⟨a,0,none⟩) 1 1] w λe w'=>∃A' j,e=.returned (.slice A' (n+1) j)/\w'.ownsRow base 132 4 (.slice A' (n+1) j) (n+1) (xs++vs)/\Below base w w':=by
 obtain⟨l,m,o,p,q⟩:=dU Tryz.Fu;obtain⟨_,r,A,B,_⟩:=DY c;obtain⟨HOWN,s,t,v⟩:=aad c g i h;clear c g i h;go_enter yx,xw;go_wp2_with (at_builtin;refine lK _ rfl _ _ 70 rfl base 132 l _ 4 64 fQ m o p q rfl aar _ n xs rfl HOWN.o ⟨a,0,none⟩ 1 1 vs rfl v.o (cZ s.o) t.o aar aaS aar f _ rfl ?_;intro g4 cap4 w4 x y C D);all_goals(go_ret;exact⟨_,_,rfl,x,(aC _ _).grown y f (λk d=>by injection d with d;subst d;exact r)⟩)
theorem Jk{base:Nat}(n cap i m k b:Nat)(xs vs:List Value)(a:Nat)(w:World)(hi:i<n)(hm:0<m)(T:n+m<=cap)(s:w.ownsRow base 132 4 (.slice (some ⟨b,0,none⟩) n cap) n xs)
 (l:w.heap[a]?=some (.cells vs.toArray 132 (0,0))) (o:vs.length=m*4) (H:a≠b) (U:∀u∈xs,u.oneCell'=true) (V:∀u∈vs,u.oneCell'=true):
 Calls Tryz.prog 217 #[.slice (some ⟨b,0,none⟩) n cap,.int .i64 i,.slice (some ⟨a,0,none⟩) m k] w λe w'=>∃A' I,e=.returned (.slice A' (n+m) I)/\w'.ownsRow base 132 4 (.slice A' (n+m) I) (n+m) (xs.take (i*4)++vs++xs.drop (i*4))/\Below base w w':=by
 obtain⟨i0,W,ag,X,ah⟩:=dU Tryz.Fu;obtain⟨_,x,ak,J,p,t,f,K⟩:=DY s;have y:=s.1;have L:(Tryz.prog.info? 132).map (·.size)=some 4:=(by rw[W];simp[X]);have M:∀j u,xs[j]?=some u->w.cell? ⟨b,j,none⟩=some u:=λj u hu=>by
  have:=s.cells (g:=b) rfl j u hu;rw[cz]at this;simpa using this
 have N:∀j u,vs[j]?=some u->w.cell? ⟨a,j,none⟩=some u:=λj u hu=>by
  unfold World.cell?;rw[l];simpa using hu
 have av:cap<=9223372036854775807:=(by unfold maxLen at J;omega);obtain⟨c1,z⟩:∃c1,c1=p.toList.take ((i+m)*4)++xs.drop (i*4)++p.toList.drop ((i+m)*4+(xs.drop (i*4)).length):=⟨_,rfl⟩;obtain⟨c2,A⟩:∃c2,c2=c1.take (i*4)++vs++c1.drop (i*4+vs.length):=⟨_,rfl⟩;obtain⟨O,Q,R⟩:=NZ p.toList xs vs i n m K y aar o (by simp[f];omega) c1 c2 z A;have B:(xs.drop (i*4)).length=(n-i)*4:=(by rw[dO,y];omega);have C:Nat.min (n+m-i) (n+m-(i+m))=n-i:=aaT;have D:Nat.min m (n+m-i)=m:=aaT;obtain⟨c,q⟩:∃c,c=w.drew.setRow b c1.toArray:=⟨_,rfl⟩;obtain⟨r,v⟩:∃r,r=c.setRow b c2.toArray:=⟨_,rfl⟩;have Y:∀ty d E,(Builtin.copy_ #[70,70] ty #[.slice (some ⟨b,(i+m)*4,none⟩) (n+m-(i+m)) d,.slice (some ⟨b,i*4,none⟩) (n+m-i) E]).run Tryz.prog w.drew=.ok (goInt ((n-i:Nat):Int)) c:=λty d E=>by
  have h:=tY (P:=Tryz.prog) w.drew 70 70 ty 132 4 b ((i+m)*4) (n+m-(i+m)) d ⟨b,i*4,none⟩ (n+m-i) E p 132 (xs.drop (i*4)) fQ L t (by rw[B,C])
   (λj u hu=>by rw[cz];rw[gX]at hu;exact M _ u hu) (by rw[B,f];omega) (λu hu=>U u (kM hu))
  rw[C,<-z,<-q]at h;exact h
 have F:c.heap[b]?=some (.cells c1.toArray 132 (0,0)):=(by rw[q];exact AR w.drew b p c1.toArray _ _ t);have S:∀j u,vs[j]?=some u->c.cell? ⟨a,j,none⟩=some u:=λj u hu=>by
  rw[q];exact(dB (setRow_other w.drew b a c1.toArray H)).t (N j u hu)
 have Z:∀ty d,(Builtin.copy_ #[70,70] ty #[.slice (some ⟨b,i*4,none⟩) (n+m-i) d,.slice (some ⟨a,0,none⟩) m k]).run Tryz.prog c=.ok (goInt m) r:=λty d=>by
  have h:=tY (P:=Tryz.prog) c 70 70 ty 132 4 b (i*4) (n+m-i) d ⟨a,0,none⟩ m k c1.toArray 132 vs fQ L F (by rw[o,D])
   (λj u hu=>by rw[cz,eP];exact S j u hu) (by simp[O,f,o];omega) V
  rw[D]at h;rw[<-A,<-v]at h;exact h
 have ae:=aa (show r.ownsRow base 132 4 (.slice (some ⟨b,0,none⟩) (n+m) cap) (n+m) (xs.take (i*4)++vs++xs.drop (i*4))/\Below base w r from
  ⟨QL (by rw[v];exact AR c b c1.toArray c2.toArray _ _ F) x T J (by rw[Q];simpa using f) R,by rw[v,q];exact uV (uV (aC _ _).drew x _) x _⟩)
 have af:∀lb G,(callFunc 232 #[.slice (some ⟨a,0,none⟩) m k,.slice (some ⟨b,(i+m)*4,none⟩) lb G]).run Tryz.prog w=.ok (.value (.bool false)) w:=λlb G=>by
  rw[run_callFunc_extern Tryz.func232 aas aas aas (e:=Extern.SlicesOverlaps.overlaps #[70,70] #[4]) aas,
   Lib.run_overlaps_apart w 70 4 132 fQ 4 (λw=>Tryz.sizeOf132 w) ⟨a,0,none⟩ ⟨b,(i+m)*4,none⟩ m k lb G H 132 132 (m*4) (cap*4) (by unfold World.shape?;rw[l];simp[o]) (by unfold World.shape?;rw[t];simp[f]) aar (by unfold World.frozen?;rw[l];simp) (by unfold World.frozen?;rw[l];simp)]
  rfl
 have ax:¬((m:Int)=0):=aar;have ay:¬((i:Int)=(n:Int)):=aar;have az:IntKind.i64.wrap ((i:Int)+(m:Int))=(i:Int)+(m:Int):=(by rw[mO];omega);have aA:(0:Int)<=(i:Int)+(m:Int):=aar;have aB:i<=n:=aar;have aD:((i:Int)+(m:Int)).toNat=i+m:=aar;have aF:¬(cap=i+m):=aar;have aG:(i:Int)<=(n:Int)+(m:Int):=aar;have aH:¬(cap=i):=aar;clear z A O Q R B C D F S q v M N y t f K s l o;go_enter yx,xw;go_wp2_with (simp only[af]);go_region_law (refine zu rfl _ _ 70 70 rfl _ _ aaU aaU (Y _ _ _) ?_);go_wp2_with (at_builtin;refine xc _ rfl _ _ 70 70 rfl _ _ rfl rfl (Z _ _) ?_);go_ret;exact⟨_,_,rfl,ae.o⟩
theorem Le{base:Nat}(n cap i m D b:Nat)(xs vs:List Value)(f:Nat)(w:World)(hn:n+m<=1048576)(hi:i<n)(hm:0<m)(aF:cap<n+m)(t:w.ownsRow base 132 4 (.slice (some ⟨b,0,none⟩) n cap) n xs)(x:base<=w.heap.size)
 (E:w.heap[f]?=some (.cells vs.toArray 132 (0,0))) (y:vs.length=m*4) (aG:∀u∈xs,u.oneCell'=true) (aH:∀u∈vs,u.oneCell'=true):
 Calls Tryz.prog 217 #[.slice (some ⟨b,0,none⟩) n cap,.int .i64 i,.slice (some ⟨f,0,none⟩) m D] w λe w'=>∃A' U,e=.returned (.slice A' (n+m) U)/\w'.ownsRow base 132 4 (.slice A' (n+m) U) (n+m) (xs.take (i*4)++vs++xs.drop (i*4))/\Below base w w':=by
 obtain⟨V,W,F,X,Y⟩:=dU Tryz.Fu;obtain⟨_,aR,aS,aT,aU,Z,aI,aJ⟩:=DY t;have o:=t.1;have ae:(Tryz.prog.info? 132).map (·.size)=some 4:=(by rw[W];simp[X]);have I:∀j u,xs[j]?=some u->w.cell? ⟨b,j,none⟩=some u:=λj u hu=>by
  have:=t.cells (g:=b) rfl j u hu;rw[cz]at this;simpa using this
 have af:∀j u,vs[j]?=some u->w.cell? ⟨f,j,none⟩=some u:=λj u hu=>by
  unfold World.cell?;rw[E];simpa using hu
 have aK:b<w.heap.size:=(aW.1 Z).1;have aL:f<w.heap.size:=(aW.1 E).1;have ag:(n:Int)+(m:Int)-(i:Int)=((n+m-i:Nat):Int):=aar;have J:i+(n+m-i)=n+m:=aar;have aV:(cap:Int)<(n:Int)+(m:Int):=aar;have ah:(Builtin.firstCells V.size i (.slice (some ⟨b,0,none⟩) i cap)).run Tryz.prog w.drew=.ok (xs.take (i*4)).toArray w.drew:=by
  rw[X];exact run_firstCells_some w.drew 4 i ⟨b,0,none⟩ i cap (xs.take (i*4)) aaR (λj v hj=>by
   rw[cz,eP];rw[gY]at hj;split at hj;·exact I j v hj
   ·cases hj)
 obtain⟨G,A⟩:∃G,G=grownCap w (n+m) cap 132:=⟨_,rfl⟩;obtain⟨z,ak⟩:∃z:Value,z=.agg #[.string ByteArray.empty,.int .i64 0,.string ByteArray.empty,.slice none 0 0]:=⟨_,rfl⟩;have av:z.cells.size=4:=(by rw[ak];rfl);rw[<-ak]at F;obtain⟨a,B⟩:∃a:Array Value,a=(xs.take (i*4)).toArray++Builtin.zeroCells z.cells (n+m-i)++Builtin.zeroCells z.cells (G-(n+m)):=⟨_,rfl⟩;obtain⟨c,p⟩:∃c,c=w.drew.alloc (.cells a 132):=⟨_,rfl⟩;have aM:n+m<=G:=(by rw[A];exact grownCap_ge w _ _ _);have ax:G<=maxLen:=(by rw[A];exact grownCap_le_maxLen w (n+m) cap _ aaS);have q:a.toList.length=G*4:=by
  rw[B];simp[Builtin.zeroCells,av,o];omega
 have ay:a.toList.take (i*4)=xs.take (i*4):=by
  rw[B];have:(xs.take (i*4)).length=i*4:=aaR;simp only[Array.toList_append,dC];rw[nk (by simp[o];omega)];exact bG aaV
 have aN:∀ty,(Builtin.append_ #[70,3] ty #[.slice (some ⟨b,0,none⟩) i cap,.int .i64 ((n:Int)+(m:Int)-(i:Int))]).run Tryz.prog w=
  .ok (.slice (some ⟨w.heap.size,0,none⟩) (n+m) G) c:=λty=>by
  have h:=Lib.run_append_grow_zeros w 70 3 ty 132 V z .i64 .i64 fQ gy W F (some ⟨b,0,none⟩) i cap (xs.take (i*4)) ah (n+m-i) aar aar aar aar (by rw[Y];omega) (by rw[Y,J];exact growslice_fits aF aar);rw[J,<-A]at h;rw[ag,p,B];exact h
 have K:c.heap[w.heap.size]?=some (.cells a.toList.toArray 132 (0,0)):=(by rw[p];simpa using bP w.drew (.cells a 132));have L:∀k,k<w.heap.size->c.heap[k]?=w.heap[k]?:=λk hk=>(by rw[p];exact fK w.drew _ k hk);have az:Below base w c:=(by rw[p];exact(aC _ _).drew.alloc x _);obtain⟨c1,M⟩:∃c1,c1=a.toList.take (i*4)++vs++a.toList.drop (i*4+vs.length):=⟨_,rfl⟩;obtain⟨c2,N⟩:∃c2,c2=c1.take ((i+m)*4)++xs.drop (i*4)++c1.drop ((i+m)*4+(xs.drop (i*4)).length):=⟨_,rfl⟩;obtain⟨aA,aB,aD⟩:=ME a.toList xs vs i n m G ay o aar y (by rw[q];omega) q c1 c2 M N;have O:(xs.drop (i*4)).length=(n-i)*4:=(by rw[dO,o];omega);have Q:Nat.min (n-i) (n+m-(i+m))=n-i:=aaT;have R:Nat.min m (n+m-i)=m:=aaT;obtain⟨d,r⟩:∃d,d=c.setRow w.heap.size c1.toArray:=⟨_,rfl⟩;obtain⟨s,C⟩:∃s,s=d.drew.setRow w.heap.size c2.toArray:=⟨_,rfl⟩;have S:d.heap[w.heap.size]?=some (.cells c1.toArray 132 (0,0)):=(by rw[r];exact AR c _ _ c1.toArray _ _ K);have aO:∀ty l,(Builtin.copy_ #[70,70] ty #[.slice (some ⟨w.heap.size,i*4,none⟩) (n+m-i) l,.slice (some ⟨f,0,none⟩) m D]).run Tryz.prog c=.ok (goInt m) d:=λty l=>by
  have h:=tY (P:=Tryz.prog) c 70 70 ty 132 4 w.heap.size (i*4) (n+m-i) l ⟨f,0,none⟩ m D a.toList.toArray 132 vs fQ ae K (by rw[y,R])
   (λj u hu=>by rw[cz,eP];exact(dB (L f aL)).t (af j u hu)) (by simp at q;simp[q,y];omega) aH
  rw[R]at h;rw[<-M,<-r]at h;exact h
 have aP:∀ty l T,(Builtin.copy_ #[70,70] ty #[.slice (some ⟨w.heap.size,(i+m)*4,none⟩) (n+m-(i+m)) l,.slice (some ⟨b,i*4,none⟩) (n-i) T]).run Tryz.prog d.drew=.ok (goInt ((n-i:Nat):Int)) s:=λty l T=>by
  have h:=tY (P:=Tryz.prog) d.drew 70 70 ty 132 4 w.heap.size ((i+m)*4) (n+m-(i+m)) l ⟨b,i*4,none⟩ (n-i) T c1.toArray 132 (xs.drop (i*4)) fQ ae S (by rw[O,Q])
   (λj u hu=>by
     rw[cz];rw[gX]at hu;refine(dB (w:=w) ?_).t (I _ u hu);show d.heap[b]?=_;rw[r,setRow_other c _ b _ aaF];exact L b aK) (by simp[aA,O];omega) (λu hu=>aG u (kM hu))
  rw[Q]at h;rw[<-N,<-C]at h;exact h
 have aQ:=aa (show s.ownsRow base 132 4 (.slice (some ⟨w.heap.size,0,none⟩) (n+m) G) (n+m) (xs.take (i*4)++vs++xs.drop (i*4))/\Below base w s from
  ⟨QL (by rw[C];exact AR d.drew _ c1.toArray c2.toArray _ _ S) x aM ax aB aD,by rw[C];exact uV (Below.drew (by rw[r];exact uV az x _)) x _⟩)
 have aY:G<=9223372036854775807:=(by unfold maxLen at ax;omega);have aZ:¬((m:Int)=0):=aar;have bf:¬((i:Int)=(n:Int)):=aar;have bg:¬(G=i):=aar;have bi:¬(G=i+m):=aar;have bn:¬(cap=i):=aar;have bq:IntKind.i64.wrap ((i:Int)+(m:Int))=(i:Int)+(m:Int):=(by rw[mO];omega);have bu:(0:Int)<=(i:Int)+(m:Int):=aar;have bv:i<=n:=aar;have bz:((i:Int)+(m:Int)).toNat=i+m:=aar;have bA:(i:Int)<=(n:Int):=aar;clear M N aA aB aD O Q R K S p r C I af o Z aI aJ t E y B q ay L az ag J ah A av F;generalize w.heap.size=H at*;go_enter yx,xw;go_wp2_with (first
  |(at_builtin;refine Lib.wpList_append_run _ rfl _ _ _ _ rfl _ _ rfl rfl _ _ (aN _) ?_)
  |(at_builtin;refine xc _ rfl _ _ 70 70 rfl _ _ rfl rfl (aO _ _) ?_))
 go_region_law (refine zu rfl _ _ 70 70 rfl _ _ aaU aaU (aP _ _ _) ?_);go_wp2_with fail;go_ret;exact⟨_,_,rfl,aQ.o⟩
theorem Ws{base:Nat}(n cap i b:Nat)(xs vs:List Value)(a:Nat)(w:World)(p:n<=1000000)(hi:i<=n)(c:w.ownsRow base 132 4 (.slice (some ⟨b,0,none⟩) n cap) n xs)(g:base<=w.heap.size)
 (d:w.heap[a]?=some (.cells vs.toArray 132 (0,0))) (k:vs.length=4) (l:a≠b) (h:∀u∈xs,u.oneCell'=true) (f:∀u∈vs,u.oneCell'=true):
 Calls Tryz.prog 217 #[.slice (some ⟨b,0,none⟩) n cap,.int .i64 i,.slice (some ⟨a,0,none⟩) 1 1] w λe w'=>∃A' j,e=.returned (.slice A' (n+1) j)/\w'.ownsRow base 132 4 (.slice A' (n+1) j) (n+1) (xs.take (i*4)++vs++xs.drop (i*4))/\Below base w w':=by
 by_cases m:i=n
 ·subst m;have q:=c.1;rw[bG aar,ll aar,dK];exact Nq i cap b xs vs a w aar c g d k f
 ·by_cases o:n+1<=cap;·exact Jk n cap i 1 1 b xs vs a w aar aar o c d aar l h f
  ·exact Le n cap i 1 1 b xs vs a w aar aar aar aar c g d aar h f
theorem UB(L:List Bd)(A:Option Addr)(cap:Nat)(w:World)(o:gH w (.slice A L.length cap) L)(h0:0<L.length)(p:L.length<=1000000):
 Calls Tryz.prog 149 #[.slice A L.length cap] w λe w'=>∃f c2 xs,e=.returned (.slice (some ⟨f,0,none⟩) L.length c2)/\w'.ownsRow w.heap.size 132 4 (.slice (some ⟨f,0,none⟩) L.length c2) L.length xs/\BC w xs L/\Below w.heap.size w w':=by
 obtain⟨q,r,s,t,v⟩:=dU Tryz.Fu;rcases o with⟨_,rfl⟩|⟨b,off,K,xs,e,_,x,y,a,g⟩;·simp at h0
 injection e with z M B;subst z;subst B;have h:=a.1;have c:=ae w (.cells #[] 132);obtain⟨C,D,i⟩:=aac a a.one' h;have E:=aa (show ∀j u,xs[j]?=some u->(w.alloc (.cells #[] 132)).cell? ((⟨b,off,none⟩:Addr).add j)=some u from λj u hu=>by rw[cz];exact af c (g j u hu));obtain⟨HOWN,F⟩:=aab (vT (size:=4) (e:=132) w #[] 0 (base:=w.heap.size) (ax _) (aT _) rfl) c;have G:∀W,Sem.run Tryz.prog (binOp BinOp.eql 70 (Value.slice (some ⟨b,off,none⟩) L.length cap) (Value.slice none 0 0)) W=.ok (.bool false) W:=λW=>aav;obtain⟨n,l⟩:=aay L.length;rw[l]at i h0 p G⊢;clear a g h c l x y;go_enter Tryz.func149,Tryz.ntmps149;go_wp2_with (at_builtin;refine lK _ rfl _ _ 70 rfl w.heap.size 132 q _ 4 64 fQ r s t v rfl aar _ 0 [] rfl HOWN.o ⟨b,off,none⟩ n cap xs rfl i.o E.o D.o h0 aaS aar aaW _ rfl ?_;intro N O H m I P Q);have J:Below w.heap.size w H:=(F.o.m (ax _)).grown I (jo aaW) (λk d=>by injection d with d;subst d;exact ax _);go_ret;rw[eP,jZ]at m;exact⟨_,_,rfl,xs,m,C.o,J⟩
end
section
open Go.RowKit
attribute [local go_sem ↓] Go.wp_at_zero Go.wp_at_succ
theorem PO{a b:ByteArray}(h:¬a=b):(a.toList==b.toList)=false:=by
 rw[aD];exact λe=>h (T.G6 e)
def Tq(r:Option T)(a w:World)(e:Ending)(w':World):Prop:=Below w.heap.size w w'/\match r with
 |none=>e=.returned (.tuple #[.agg #[.int .i64 0,.string ⟨#[]⟩,.slice none 0 0],.bool false])
 |some t=>∃A c,e=.returned (.tuple #[.agg #[.int .i64 t.aA,.string t.aI,.slice A t.ay.length c],.bool true])/\aS a (.agg #[.int .i64 t.aA,.string t.aI,.slice A t.ay.length c]) t
theorem J5{L:List Bd}{s:ByteArray}{j:Nat}(h:j<L.length):T.look (L.drop j) s=if L[j].var=s then some L[j].t else T.look (L.drop (j+1)) s:=by
 rw[dN h];rfl
theorem Lh(s:ByteArray)(L:List Bd)(v:Value)(q w:World)(l:gH q v L)(O:Below q.heap.size q w):
 Calls Tryz.prog 186 #[v,.string s] w (Tq (T.look L s) q w):=by
 rcases eF L.length with h0|h0
 ·rcases l with⟨rfl,rfl⟩|⟨_,_,_,_,_,P,_⟩
  ·refine(SN s w).m ?_;rintro e w' ⟨P,Y⟩;exact⟨Y,P⟩
  ·omega
 obtain⟨A,cap,rfl,Z,ah⟩:=l.shape;have y:=jy.new w (.int .i64 0) (.string ⟨#[]⟩) (.slice none 0 0);have z:=ae w (.cells #[.int .i64 0,.string ⟨#[]⟩,.slice none 0 0] 29);obtain⟨n,C⟩:=aay L.length;obtain⟨R,D⟩:=aay (T.look L s);obtain⟨E,HR⟩:=aab C D;rw[C]at l Z⊢;rw[D];obtain⟨HV,Q⟩:=aab l O;have aB:n<=9223372036854775807:=(by unfold maxLen at ah;omega);clear l C D h0 O;go_enter Tryz.func186,Tryz.ntmps186;go_upto_region 1 with fail;generalize w.alloc _=w1 at y z⊢;obtain⟨HB,HW⟩:=aab y z;clear y z;go_wp2_with fail;go_loopw [10] (λi wr=>∃j:Nat,j<=n/\i=.int .i64 j/\T.look (L.drop j) s=R/\jy wr w.heap.size (.int .i64 0) (.string ⟨#[]⟩) (.slice none 0 0)/\Below w.heap.size w wr) (λi _=>n-(intOf i).toNat);case atStart=>exact⟨0,aT _,rfl,by rw[oF];exact HR.o,HB.o,HW.o⟩
 case round=>
  obtain⟨j,hj,rfl,a,g,h⟩:=hrel;by_cases S:j<n
  ·have F:j<L.length:=(by rw[E.o];exact S);have G:=HV.o;rw[<-E.o]at G;obtain⟨b,off,B,c,rfl,H,I,J,K,M,ak⟩:=G.get F;rw[J5 F]at a;obtain⟨x,U⟩:=aay (L[j]);rw[U]at H I J K M a;have m:=Q.o.t (h.m Q.o.size);obtain⟨d0,d1,d2,d3⟩:=aal m H I J K;have hi:(j:Int)<(n:Int):=aar;have N:=ae wr (.cells #[.string x.var,.int .i64 x.t.aA,.string x.t.aI,.slice B x.t.ay.length c] 132);have d:=bP wr (.cells #[.string x.var,.int .i64 x.t.aA,.string x.t.aI,.slice B x.t.ay.length c] 132);obtain⟨f,o,HT,V,W⟩:=aae (g.ag N) (h.t (N.m h.size)) M a S;clear ak m;clear g G h M a U N F hj H I J K;go_upto_region 4 with fail;generalize wr.alloc _=r at d f o⊢;obtain⟨k,X⟩:=aay wr.heap.size;rw[X]at d⊢;have y0:r.cell? ⟨k,0,none⟩=some (.string x.var):=aaX;have y1:r.cell? ⟨k,1,none⟩=some (.int .i64 x.t.aA):=aaX;have y2:r.cell? ⟨k,2,none⟩=some (.string x.t.aI):=aaX;have y3:r.cell? ⟨k,3,none⟩=some (.slice B x.t.ay.length c):=aaX;clear d X d0 d1 d2 d3;by_cases u:x.var=s
   ·have a:=V.o;rw[aJ u]at a;subst a;subst u;obtain⟨q0,q1,q2⟩:=f.o.cells;obtain⟨f0,f1,f2⟩:=f.o.free;go_wp2_with fail;obtain⟨d0,d1,d2⟩:=(dX f.o (.int .i64 x.t.aA) (.string x.t.aI) (.slice B x.t.ay.length c)).cells;refine aV (v:=.tuple #[.agg #[.int .i64 x.t.aA,.string x.t.aI,.slice B x.t.ay.length c],.bool true]) (by simp[results,Tryz.results186,go_sem,d0,d1,d2]) rfl ?_;have av:=((o.o.setCell (p:=⟨w.heap.size,0,none⟩) (ax _) (.int .i64 x.t.aA)).setCell (p:=⟨w.heap.size,1,none⟩) (ax _) (.string x.t.aI)).setCell (p:=⟨w.heap.size,2,none⟩) (ax _) (.slice B x.t.ay.length c);exact⟨av,B,c,rfl,HT.o⟩
   ·have a:=V.o;rw[aH u]at a;have aC:=PO u;go_wp2_with fail;go_roundw;case rel=>exact⟨j+1,W.o,aaw,a,f.o,o.o⟩
    case measure=>exact aax W.o
  ·obtain rfl:j=n:=aar;have az:R=none:=by
    rw[<-a,lh (by rw[E.o];exact ax _)];rfl
   subst az;have hi:¬(j:Int)<(j:Int):=aar;obtain⟨f,o⟩:=aab g h;obtain⟨q0,q1,q2⟩:=g.cells;obtain⟨f0,f1,f2⟩:=g.free;clear g h;go_wp2_with fail;obtain⟨d0,d1,d2⟩:=(dX f.o (.int .i64 0) (.string ⟨#[]⟩) (.slice none 0 0)).cells;refine aV (v:=.tuple #[.agg #[.int .i64 0,.string ⟨#[]⟩,.slice none 0 0],.bool false]) (by simp[results,Tryz.results186,go_sem,d0,d1,d2]) rfl ?_;exact⟨((o.o.setCell (p:=⟨w.heap.size,0,none⟩) (ax _) _).setCell (p:=⟨w.heap.size,1,none⟩) (ax _) _).setCell (p:=⟨w.heap.size,2,none⟩) (ax _) _,rfl⟩
theorem OG(s:ByteArray)(w:World)(a:s.size<=maxLen):Calls Tryz.prog 72 #[.string s] w λe w'=>e=.returned (.bool (T.isName s))/\Below w.heap.size w w':=
 (Nu s w a).m λ_ _ ⟨b,c⟩=>⟨b,c▸aC _ _⟩
theorem Sq{b:List Bd}{i:Nat}(hi:i<b.length)(h:T.jJ b i b[i]=false):T.jO b=false:=by
 rw[iW];intro e;rw[T.CR e hi]at h;cases h
theorem PE{b:List Bd}(h:∀i (hi:i<b.length),T.jJ b i b[i]=true):T.jO b=true:=by
 unfold T.jO;rw[bQ];intro i hi;have a:=ed.1 hi;rw[az a];exact h i a
theorem Gj{b:List Bd}{i:Nat}{x:Bd}(h:T.isName x.var=false):T.jJ b i x=false:=by unfold T.jJ;rw[h];rfl
theorem Gl{b:List Bd}{i:Nat}{x:Bd}(h:x.t.ground=false):T.jJ b i x=false:=by unfold T.jJ T.use;rw[h];simp
theorem Gm{b:List Bd}{i:Nat}{x:Bd}(h:x.t.K5=false):T.jJ b i x=false:=by unfold T.jJ T.use;rw[h];simp
theorem Jn{b:List Bd}{x:Bd}(a:T.isName x.var=true)(c:x.t.ground=true)(d:x.t.K5=true):T.jJ b 0 x=true:=by unfold T.jJ T.use;rw[a,c,d];rfl
theorem Jm{b:List Bd}{i m:Nat}{x y:Bd}(a:i=m+1)(c:m<b.length)(hy:b[m]=y)(d:T.isName x.var=true)(e:x.t.ground=true)(f:x.t.K5=true):T.jJ b i x=T.less y.var x.var:=by
 subst a;unfold T.jJ T.use;rw[d,e,f,jQ,az c,hy];simp
theorem ab2{p:Prop}(h:p:=by
 go_wp2_with fail;go_ret;exact⟨rfl,C.o⟩):p:=h
theorem Ww(L:List Bd)(v:Value)(w:World)(N:gH w v L)(hb:∀x∈L,x.t.bE<=1048576):
 Calls Tryz.prog 152 #[v] w λe w'=>e=.returned (.bool (T.jO L))/\Below w.heap.size w w':=by
 rcases eF L.length with h0|h0
 ·rcases N with⟨rfl,rfl⟩|⟨_,_,_,_,_,h1,_⟩
  ·refine(Pz w).m ?_;rintro e w' ⟨h1,rfl⟩;exact⟨h1,aC _ _⟩
  ·omega
 obtain⟨A,cap,rfl,bi,bn⟩:=N.shape;obtain⟨n,hn⟩:=aay L.length;obtain⟨R,hR⟩:=aay (T.jO L);obtain⟨HN,HR,HB⟩:=aac hn hR hb;rw[hn]at N bi⊢;rw[hR];have HV:=aa N;have bH:n<=9223372036854775807:=(by unfold maxLen at bn;omega);clear N hn hR h0 hb;go_enter Tryz.func152,Tryz.ntmps152;go_wp2_with fail;go_loopw [7] (λi wr=>∃j:Nat,j<=n/\i=.int .i64 j/\(∀k (V:k<j) (I:k<L.length),T.jJ L k L[k]=true)/\Below w.heap.size w wr) (λi _=>n-(intOf i).toNat);case atStart=>exact⟨0,aT _,rfl,λk V=>absurd V (ji _),aC _ _⟩
 case round=>
  obtain⟨j,hj,rfl,I,E⟩:=hrel;by_cases aW:j<n
  ·have X:j<L.length:=(by rw[HN.o];exact aW);have Y:=HV.o;rw[<-HN.o]at Y;obtain⟨b,off,B,c,rfl,az,aB,aD,aF,ht,aG⟩:=Y.get X;have Z:=HB.o _ (aP X);have ah:=λh=>Sq X h;have aH:=λ(h:T.jJ L j L[j]=true)=>(show ∀k (V:k<j+1) (I:k<L.length),T.jJ L k L[k]=true from λk V bq=>by
    rcases bX k j with g|g;·exact I k g bq
    ·obtain rfl:k=j:=aar;exact h)
   have aX:∀m,j=m+1->∃y:Bd,w.cell? ⟨b,off+m*4,none⟩=some (.string y.var)/\∃F:m<L.length,L[m]=y:=λm F=>by
    have O:m<L.length:=aar;obtain⟨b',bI,B',c',e,J,_⟩:=Y.get O;injection e with e;injection e with e1 e2;subst e1;subst e2;exact⟨L[m],J,O,rfl⟩
   rw[HR.o]at ah;obtain⟨x,hx⟩:=aay (L[j]);rw[hx]at az aB aD aF ht Z ah aH aG;obtain⟨d0,d1,d2,d3⟩:=aal E az aB aD aF;have hi:(j:Int)<(n:Int):=aar;have hq:=ae wr (.cells #[.string x.var,.int .i64 x.t.aA,.string x.t.aI,.slice B x.t.ay.length c] 132);have G:=bP wr (.cells #[.string x.var,.int .i64 x.t.aA,.string x.t.aI,.slice B x.t.ay.length c] 132);obtain⟨p,ak,av,aY,bu⟩:=aae (E.t (hq.m E.size)) aW ah aH aX;obtain⟨D,H,M,P⟩:=aad (ht.ag p.o) (λW=>OG x.var W aG) (λv' W hW=>GA x.t v' W hW Z) (λv' W hW=>UG x.t v' W hW Z);have aJ:=Gj (b:=L) (i:=j) (x:=x);have aK:=Gl (b:=L) (i:=j) (x:=x);have aL:=Gm (b:=L) (i:=j) (x:=x);have Q:=Jn (b:=L) (x:=x);have aM:=λm y F bv hy=>Jm (b:=L) (i:=j) (m:=m) (x:=x) (y:=y) F bv hy;obtain⟨q1,aN⟩:=aay (T.isName x.var);obtain⟨q2,aO⟩:=aay x.t.ground;obtain⟨q3,aQ⟩:=aay x.t.K5;rw[aN]at aJ Q H;rw[aO]at aK Q M;rw[aQ]at aL Q P;rw[aN,aO,aQ]at aM;obtain⟨bz,bA,bB,bC,bD⟩:=aae aJ aK aL Q aM;clear Y E ht I hx hq X hj az aB aD aF ah aH aX aJ aK aL Q aM aN aO aQ aG Z;go_upto_region 4 with fail;generalize wr.alloc _=o at G p D⊢;obtain⟨f,aZ⟩:=aay wr.heap.size;rw[aZ]at G⊢;have r:o.cell? ⟨f,0,none⟩=some (.string x.var):=aaY;have s:o.cell? ⟨f,1,none⟩=some (.int .i64 x.t.aA):=aaY;have u:o.cell? ⟨f,2,none⟩=some (.string x.t.aI):=aaY;have z:o.cell? ⟨f,3,none⟩=some (.slice B x.t.ay.length c):=aaY;clear G aZ d0 d1 d2 d3;cases q1 with
   |false=>
    refine dm (S:=(λd=>d.cell? ⟨f,0,none⟩=some (.string x.var)/\d.cell? ⟨f,1,none⟩=some (.int .i64 x.t.aA)/\d.cell? ⟨f,2,none⟩=some (.string x.t.aI)/\d.cell? ⟨f,3,none⟩=some (.slice B x.t.ay.length c)/\Below o.heap.size o d)) aas (show _/\_/\_/\_/\_ from⟨r,s,u,z,(aC _ o).drew⟩) (λhHeld=>?_);refine dz 0 _ ?_;refine dz 1 _ ?_;(refine yR 2 λK a=>?_;go_simp;go_at_call 72;refine(H.o _).m ?_;rintro e U ⟨rfl,l⟩;refine mZ a (gW hHeld l) λhHeld=>?_;clear a K);refine dz 3 _ ?_;refine dz 4 _ ?_;(first|refine dz 5 _ ?_|refine iG 5 ?_);(first|refine dz 6 _ ?_|refine iG 6 ?_);(first|refine dz 7 _ ?_|refine iG 7 ?_);(first|refine dz 8 _ ?_|refine iG 8 ?_);refine dz 9 _ ?_;refine dz 10 _ ?_;(first|refine dz 11 _ ?_|refine iG 11 ?_);(first|refine dz 12 _ ?_|refine iG 12 ?_);(first|refine dz 13 _ ?_|refine iG 13 ?_);(first|refine dz 14 _ ?_|refine iG 14 ?_);refine dz 15 _ ?_;refine dz 16 _ ?_;(first|refine dz 17 _ ?_|refine iG 17 ?_);(first|refine dz 18 _ ?_|refine iG 18 ?_);(first|refine dz 19 _ ?_|refine iG 19 ?_);(first|refine dz 20 _ ?_|refine iG 20 ?_);(first|refine dz 21 _ ?_|refine iG 21 ?_);(first|refine dz 22 _ ?_|refine iG 22 ?_);(first|refine dz 23 _ ?_|refine iG 23 ?_);(first|refine dz 24 _ ?_|refine iG 24 ?_);(first|refine dz 25 _ ?_|refine iG 25 ?_);(first|refine dz 26 _ ?_|refine iG 26 ?_);(first|refine dz 27 _ ?_|refine iG 27 ?_);(first|refine dz 28 _ ?_|refine iG 28 ?_);(first|refine dz 29 _ ?_|refine iG 29 ?_);refine dz 30 _ ?_;refine fB aas ?_ _;have C:=aa (p.o.t (hHeld.2.2.2.2.m p.o.size));obtain rfl:R=false:=av.o (bz.o rfl);clear r s u z;exact ab2
   |true=>
   cases q2 with
   |false=>
    refine dm (S:=(λd=>d.cell? ⟨f,0,none⟩=some (.string x.var)/\d.cell? ⟨f,1,none⟩=some (.int .i64 x.t.aA)/\d.cell? ⟨f,2,none⟩=some (.string x.t.aI)/\d.cell? ⟨f,3,none⟩=some (.slice B x.t.ay.length c)/\Below o.heap.size o d)) aas (show _/\_/\_/\_/\_ from⟨r,s,u,z,(aC _ o).drew⟩) (λhHeld=>?_);refine dz 0 _ ?_;refine dz 1 _ ?_;(refine yR 2 λK a=>?_;go_simp;go_at_call 72;refine(H.o _).m ?_;rintro e U ⟨rfl,l⟩;refine mZ a (gW hHeld l) λhHeld=>?_;clear a K);refine dz 3 _ ?_;refine dz 4 _ ?_;(first|refine dz 5 _ ?_|refine iG 5 ?_);(first|refine dz 6 _ ?_|refine iG 6 ?_);(refine yR 7 λK a=>?_;go_simp;go_at_call 34;refine(M.o _ _ (D.o.ag hHeld.2.2.2.2)).m ?_;rintro e ax ⟨rfl,l⟩;refine mZ a (gW hHeld l) λhHeld=>?_;clear a K);(first|refine dz 8 _ ?_|refine iG 8 ?_);refine dz 9 _ ?_;refine dz 10 _ ?_;(first|refine dz 11 _ ?_|refine iG 11 ?_);(first|refine dz 12 _ ?_|refine iG 12 ?_);(first|refine dz 13 _ ?_|refine iG 13 ?_);(first|refine dz 14 _ ?_|refine iG 14 ?_);refine dz 15 _ ?_;refine dz 16 _ ?_;(first|refine dz 17 _ ?_|refine iG 17 ?_);(first|refine dz 18 _ ?_|refine iG 18 ?_);(first|refine dz 19 _ ?_|refine iG 19 ?_);(first|refine dz 20 _ ?_|refine iG 20 ?_);(first|refine dz 21 _ ?_|refine iG 21 ?_);(first|refine dz 22 _ ?_|refine iG 22 ?_);(first|refine dz 23 _ ?_|refine iG 23 ?_);(first|refine dz 24 _ ?_|refine iG 24 ?_);(first|refine dz 25 _ ?_|refine iG 25 ?_);(first|refine dz 26 _ ?_|refine iG 26 ?_);(first|refine dz 27 _ ?_|refine iG 27 ?_);(first|refine dz 28 _ ?_|refine iG 28 ?_);(first|refine dz 29 _ ?_|refine iG 29 ?_);refine dz 30 _ ?_;refine fB aas ?_ _;have C:=aa (p.o.t (hHeld.2.2.2.2.m p.o.size));obtain rfl:R=false:=av.o (bA.o rfl);clear r s u z;exact ab2
   |true=>
   cases q3 with
   |false=>
    refine dm (S:=(λd=>d.cell? ⟨f,0,none⟩=some (.string x.var)/\d.cell? ⟨f,1,none⟩=some (.int .i64 x.t.aA)/\d.cell? ⟨f,2,none⟩=some (.string x.t.aI)/\d.cell? ⟨f,3,none⟩=some (.slice B x.t.ay.length c)/\Below o.heap.size o d)) aas (show _/\_/\_/\_/\_ from⟨r,s,u,z,(aC _ o).drew⟩) (λhHeld=>?_);refine dz 0 _ ?_;refine dz 1 _ ?_;(refine yR 2 λK a=>?_;go_simp;go_at_call 72;refine(H.o _).m ?_;rintro e U ⟨rfl,l⟩;refine mZ a (gW hHeld l) λhHeld=>?_;clear a K);refine dz 3 _ ?_;refine dz 4 _ ?_;(first|refine dz 5 _ ?_|refine iG 5 ?_);(first|refine dz 6 _ ?_|refine iG 6 ?_);(refine yR 7 λK a=>?_;go_simp;go_at_call 34;refine(M.o _ _ (D.o.ag hHeld.2.2.2.2)).m ?_;rintro e ax ⟨rfl,l⟩;refine mZ a (gW hHeld l) λhHeld=>?_;clear a K);(first|refine dz 8 _ ?_|refine iG 8 ?_);refine dz 9 _ ?_;refine dz 10 _ ?_;(first|refine dz 11 _ ?_|refine iG 11 ?_);(first|refine dz 12 _ ?_|refine iG 12 ?_);(refine yR 13 λK a=>?_;go_simp;go_at_call 35;refine(P.o _ _ (D.o.ag hHeld.2.2.2.2)).m ?_;rintro e aR ⟨rfl,l⟩;refine mZ a (gW hHeld l) λhHeld=>?_;clear a K);(first|refine dz 14 _ ?_|refine iG 14 ?_);refine dz 15 _ ?_;refine dz 16 _ ?_;(first|refine dz 17 _ ?_|refine iG 17 ?_);(first|refine dz 18 _ ?_|refine iG 18 ?_);(first|refine dz 19 _ ?_|refine iG 19 ?_);(first|refine dz 20 _ ?_|refine iG 20 ?_);(first|refine dz 21 _ ?_|refine iG 21 ?_);(first|refine dz 22 _ ?_|refine iG 22 ?_);(first|refine dz 23 _ ?_|refine iG 23 ?_);(first|refine dz 24 _ ?_|refine iG 24 ?_);(first|refine dz 25 _ ?_|refine iG 25 ?_);(first|refine dz 26 _ ?_|refine iG 26 ?_);(first|refine dz 27 _ ?_|refine iG 27 ?_);(first|refine dz 28 _ ?_|refine iG 28 ?_);(first|refine dz 29 _ ?_|refine iG 29 ?_);refine dz 30 _ ?_;refine fB aas ?_ _;have C:=aa (p.o.t (hHeld.2.2.2.2.m p.o.size));obtain rfl:R=false:=av.o (bB.o rfl);clear r s u z;exact ab2
   |true=>
   by_cases bF:j=0
   ·subst bF;refine dm (S:=(λd=>d.cell? ⟨f,0,none⟩=some (.string x.var)/\d.cell? ⟨f,1,none⟩=some (.int .i64 x.t.aA)/\d.cell? ⟨f,2,none⟩=some (.string x.t.aI)/\d.cell? ⟨f,3,none⟩=some (.slice B x.t.ay.length c)/\Below o.heap.size o d)) aas (show _/\_/\_/\_/\_ from⟨r,s,u,z,(aC _ o).drew⟩) (λhHeld=>?_);refine dz 0 _ ?_;refine dz 1 _ ?_;(refine yR 2 λK a=>?_;go_simp;go_at_call 72;refine(H.o _).m ?_;rintro e U ⟨rfl,l⟩;refine mZ a (gW hHeld l) λhHeld=>?_;clear a K);refine dz 3 _ ?_;refine dz 4 _ ?_;(first|refine dz 5 _ ?_|refine iG 5 ?_);(first|refine dz 6 _ ?_|refine iG 6 ?_);(refine yR 7 λK a=>?_;go_simp;go_at_call 34;refine(M.o _ _ (D.o.ag hHeld.2.2.2.2)).m ?_;rintro e ax ⟨rfl,l⟩;refine mZ a (gW hHeld l) λhHeld=>?_;clear a K);(first|refine dz 8 _ ?_|refine iG 8 ?_);refine dz 9 _ ?_;refine dz 10 _ ?_;(first|refine dz 11 _ ?_|refine iG 11 ?_);(first|refine dz 12 _ ?_|refine iG 12 ?_);(refine yR 13 λK a=>?_;go_simp;go_at_call 35;refine(P.o _ _ (D.o.ag hHeld.2.2.2.2)).m ?_;rintro e aR ⟨rfl,l⟩;refine mZ a (gW hHeld l) λhHeld=>?_;clear a K);(first|refine dz 14 _ ?_|refine iG 14 ?_);refine dz 15 _ ?_;refine dz 16 _ ?_;(first|refine dz 17 _ ?_|refine iG 17 ?_);(first|refine dz 18 _ ?_|refine iG 18 ?_);(first|refine dz 19 _ ?_|refine iG 19 ?_);(first|refine dz 20 _ ?_|refine iG 20 ?_);(first|refine dz 21 _ ?_|refine iG 21 ?_);(first|refine dz 22 _ ?_|refine iG 22 ?_);(first|refine dz 23 _ ?_|refine iG 23 ?_);(first|refine dz 24 _ ?_|refine iG 24 ?_);(first|refine dz 25 _ ?_|refine iG 25 ?_);(first|refine dz 26 _ ?_|refine iG 26 ?_);(first|refine dz 27 _ ?_|refine iG 27 ?_);(first|refine dz 28 _ ?_|refine iG 28 ?_);(first|refine dz 29 _ ?_|refine iG 29 ?_);refine dz 30 _ ?_;refine fB aas ?_ _;obtain⟨C,aS⟩:=aab (p.o.t (hHeld.2.2.2.2.m p.o.size)) (aY.o (bC.o rfl rfl rfl));clear r s u z;go_wp2_with fail;go_roundw;case rel=>exact⟨0+1,ak.o,aaw,aS.o,C.o⟩
    case measure=>exact aax ak.o
   ·obtain⟨m,F⟩:∃m,j=m+1:=⟨j-1,aar⟩;obtain⟨y,bf,O,hy⟩:=bu.o m F;have J:=af p.o bf;have aU:=bD.o m y F O hy rfl rfl rfl;have bJ:0<j:=aar;have bK:(0:Int)<(j:Int):=aar;have bL:IntKind.i64.wrap ((j:Int)-1)=(m:Int):=aaZ;have bM:(0:Int)<=(m:Int):=aar;have bN:(m:Int)<(n:Int):=aar;obtain⟨q4,aV⟩:=aay (T.less y.var x.var);rw[aV]at aU;have bO:Op.bytesLess y.var.toList x.var.toList=q4:=aV;have bg:=aa aU;clear aU aV F O hy bf;cases q4 with
    |false=>
     refine dm (S:=(λd=>d.cell? ⟨b,off+m*4,none⟩=some (.string y.var)/\d.cell? ⟨f,0,none⟩=some (.string x.var)/\d.cell? ⟨f,1,none⟩=some (.int .i64 x.t.aA)/\d.cell? ⟨f,2,none⟩=some (.string x.t.aI)/\d.cell? ⟨f,3,none⟩=some (.slice B x.t.ay.length c)/\Below o.heap.size o d)) aas (show _/\_/\_/\_/\_/\_ from⟨J,r,s,u,z,(aC _ o).drew⟩) (λhHeld=>?_);refine dz 0 _ ?_;refine dz 1 _ ?_;(refine yR 2 λK a=>?_;go_simp;go_at_call 72;refine(H.o _).m ?_;rintro e U ⟨rfl,l⟩;refine mZ a (pJ hHeld l) λhHeld=>?_;clear a K);refine dz 3 _ ?_;refine dz 4 _ ?_;(first|refine dz 5 _ ?_|refine iG 5 ?_);(first|refine dz 6 _ ?_|refine iG 6 ?_);(refine yR 7 λK a=>?_;go_simp;go_at_call 34;refine(M.o _ _ (D.o.ag hHeld.2.2.2.2.2)).m ?_;rintro e ax ⟨rfl,l⟩;refine mZ a (pJ hHeld l) λhHeld=>?_;clear a K);(first|refine dz 8 _ ?_|refine iG 8 ?_);refine dz 9 _ ?_;refine dz 10 _ ?_;(first|refine dz 11 _ ?_|refine iG 11 ?_);(first|refine dz 12 _ ?_|refine iG 12 ?_);(refine yR 13 λK a=>?_;go_simp;go_at_call 35;refine(P.o _ _ (D.o.ag hHeld.2.2.2.2.2)).m ?_;rintro e aR ⟨rfl,l⟩;refine mZ a (pJ hHeld l) λhHeld=>?_;clear a K);(first|refine dz 14 _ ?_|refine iG 14 ?_);refine dz 15 _ ?_;refine dz 16 _ ?_;(first|refine dz 17 _ ?_|refine iG 17 ?_);(first|refine dz 18 _ ?_|refine iG 18 ?_);(first|refine dz 19 _ ?_|refine iG 19 ?_);(first|refine dz 20 _ ?_|refine iG 20 ?_);(first|refine dz 21 _ ?_|refine iG 21 ?_);(first|refine dz 22 _ ?_|refine iG 22 ?_);(first|refine dz 23 _ ?_|refine iG 23 ?_);(first|refine dz 24 _ ?_|refine iG 24 ?_);(first|refine dz 25 _ ?_|refine iG 25 ?_);(first|refine dz 26 _ ?_|refine iG 26 ?_);(first|refine dz 27 _ ?_|refine iG 27 ?_);(first|refine dz 28 _ ?_|refine iG 28 ?_);(first|refine dz 29 _ ?_|refine iG 29 ?_);refine dz 30 _ ?_;refine fB aas ?_ _;have C:=aa (p.o.t (hHeld.2.2.2.2.2.m p.o.size));obtain rfl:R=false:=av.o (bg.o);clear r s u z J;exact ab2
    |true=>
     refine dm (S:=(λd=>d.cell? ⟨b,off+m*4,none⟩=some (.string y.var)/\d.cell? ⟨f,0,none⟩=some (.string x.var)/\d.cell? ⟨f,1,none⟩=some (.int .i64 x.t.aA)/\d.cell? ⟨f,2,none⟩=some (.string x.t.aI)/\d.cell? ⟨f,3,none⟩=some (.slice B x.t.ay.length c)/\Below o.heap.size o d)) aas (show _/\_/\_/\_/\_/\_ from⟨J,r,s,u,z,(aC _ o).drew⟩) (λhHeld=>?_);refine dz 0 _ ?_;refine dz 1 _ ?_;(refine yR 2 λK a=>?_;go_simp;go_at_call 72;refine(H.o _).m ?_;rintro e U ⟨rfl,l⟩;refine mZ a (pJ hHeld l) λhHeld=>?_;clear a K);refine dz 3 _ ?_;refine dz 4 _ ?_;(first|refine dz 5 _ ?_|refine iG 5 ?_);(first|refine dz 6 _ ?_|refine iG 6 ?_);(refine yR 7 λK a=>?_;go_simp;go_at_call 34;refine(M.o _ _ (D.o.ag hHeld.2.2.2.2.2)).m ?_;rintro e ax ⟨rfl,l⟩;refine mZ a (pJ hHeld l) λhHeld=>?_;clear a K);(first|refine dz 8 _ ?_|refine iG 8 ?_);refine dz 9 _ ?_;refine dz 10 _ ?_;(first|refine dz 11 _ ?_|refine iG 11 ?_);(first|refine dz 12 _ ?_|refine iG 12 ?_);(refine yR 13 λK a=>?_;go_simp;go_at_call 35;refine(P.o _ _ (D.o.ag hHeld.2.2.2.2.2)).m ?_;rintro e aR ⟨rfl,l⟩;refine mZ a (pJ hHeld l) λhHeld=>?_;clear a K);(first|refine dz 14 _ ?_|refine iG 14 ?_);refine dz 15 _ ?_;refine dz 16 _ ?_;(first|refine dz 17 _ ?_|refine iG 17 ?_);(first|refine dz 18 _ ?_|refine iG 18 ?_);(first|refine dz 19 _ ?_|refine iG 19 ?_);(first|refine dz 20 _ ?_|refine iG 20 ?_);(first|refine dz 21 _ ?_|refine iG 21 ?_);(first|refine dz 22 _ ?_|refine iG 22 ?_);(first|refine dz 23 _ ?_|refine iG 23 ?_);(first|refine dz 24 _ ?_|refine iG 24 ?_);(first|refine dz 25 _ ?_|refine iG 25 ?_);(first|refine dz 26 _ ?_|refine iG 26 ?_);(first|refine dz 27 _ ?_|refine iG 27 ?_);(first|refine dz 28 _ ?_|refine iG 28 ?_);(first|refine dz 29 _ ?_|refine iG 29 ?_);refine dz 30 _ ?_;refine fB aas ?_ _;obtain⟨C,aS⟩:=aab (p.o.t (hHeld.2.2.2.2.2.m p.o.size)) (aY.o (bg.o));clear r s u z J;go_wp2_with fail;go_roundw;case rel=>exact⟨j+1,ak.o,aaw,aS.o,C.o⟩
     case measure=>exact aax ak.o
  ·obtain rfl:j=n:=aar;have bG:R=true:=by
    rw[<-HR.o];exact PE λi hi=>I i (by rw[<-HN.o];exact hi) hi
   subst bG;have hi:¬(j:Int)<(j:Int):=aar;have p:=aa E;clear E I;go_wp2_with fail;go_ret;exact⟨rfl,p.o⟩
end
section
def LP(L:List Bd):Prop:=L.Pairwise λx y=>T.less x.var y.var=true
theorem LP.at{L:List Bd}(h:LP L){i j:Nat}(hi:i<L.length)(hj:j<L.length)(a:i<j):T.less L[i].var L[j].var=true:=lV.1 h i j hi hj a
theorem LP.of{L:List Bd}(h:T.jO L=true):LP L:=lV.2 λi j hi hj a=>T.Py h j i hi hj a
namespace T
theorem VY{a b:ByteArray}(h:¬a=b)(h':less a b=false):less b a=true:=by
 rcases M4 a.toList b.toList with g|g|g;·rw[(Ad a b).2 g]at h';cases h'
 ·exact absurd (G6 g) h
 ·exact(Ad b a).2 g
theorem IB(s:ByteArray):∀L:List Bd,pos s L<=L.length
 |[]=>ax _
 |x::r=>by have:=IB s r;simp only[pos,bg];split<;>omega
theorem K3(L:List Bd)(s:ByteArray)(t:T):(ins L s t).length=L.length+1:=by
 have:=IB s L;unfold ins;simp only[aF,aX,bg,dO];omega
theorem BG:∀{L:List Bd} {s:ByteArray},look L s=none->∀x∈L,¬x.var=s
 |[],_,_,_,a=>(eX a).elim
 |y::r,s,h,x,a=>by
  simp only[look]at h;by_cases e:y.var=s;·rw[aJ e]at h;cases h
  ·rw[aH e]at h;rcases bM.1 a with rfl|a;·exact e
   ·exact BG h x a
theorem K4{L:List Bd}{s:ByteArray}{t:T}{x:Bd}(h:x∈ins L s t):x=⟨s,t⟩\/x∈L:=by
 unfold ins at h;rcases bu.1 h with h|h;·exact .inr (uf h)
 ·rcases bM.1 h with h|h;·exact .inl h
  ·exact .inr (kM h)
theorem O5:∀{L:List Bd} {s:ByteArray} (t:T),LP L->look L s=none->LP (ins L s t)
 |[],s,t,_,_=>by rw[Qk];exact List.pairwise_singleton _ _
 |x::r,s,t,hu,a=>by
  have d:=BG a;have c:=fe.1 hu;have f:look r s=none:=by
   simp only[look]at a;rw[aH (d x eu)]at a;exact a
  rw[MM];by_cases b:less x.var s=true
  ·rw[aJ b];refine fe.2 ⟨λy hy=>?_,O5 t c.2 f⟩;rcases K4 hy with rfl|hy;·exact b
   ·exact c.1 y hy
  ·rw[aH b];have e:=VY (d x eu) (iW.2 b);refine fe.2 ⟨λy hy=>?_,hu⟩;rcases bM.1 hy with rfl|hy;·exact e
   ·exact CG e (c.1 y hy)
def QV(M:Nat)(L:List Bd):Prop:=LP L/\∀x∈L,x.t.bE<=M
theorem QV.ins{M:Nat}{L:List Bd}{s:ByteArray}{t:T}(h:QV M L)(b:look L s=none)(c:t.bE<=M):QV M (ins L s t):=
 ⟨O5 t h.1 b,λx a=>by
   rcases K4 a with rfl|a;·exact c
   ·exact h.2 x a⟩
theorem wE:∀(b:List Bd) (ps left:List T) (f:ByteArray) (o:Nat) (left':List T) (d:ByteArray) (a:Nat),qH b ps left f o=some (left',d,a)->(∀x∈left',x∈left)/\o<=a/\(a=o->d=f)/\(o<a->look b d=none)/\left'.length+ps.length=left.length+(a-o)
 |b,[],left,f,o,left',d,a,h=>by
  simp only[qH,iw,mE]at h;obtain⟨rfl,rfl,rfl⟩:=h;exact⟨λ_ h=>h,ax _,λ_=>rfl,λh=>aar,aau⟩
 |b,k::ps,left,f,o,left',d,a,h=>by
  simp only[qH]at h;cases c:val b k with
  |none=>
   rw[c]at h;obtain⟨i,n,j,m,p⟩:=wE b ps _ _ _ _ _ _ h;have q:look b k.aI=none:=by
    unfold val at c;split at c;·exact c
    ·cases c
   refine⟨i,aar,λe=>aar,λ_=>?_,by simp only[bg];omega⟩;rcases bX (o+1) a with g|g;·exact m g
   ·rw[j aaF];exact q
  |some v=>
   rw[c]at h;by_cases hi:fF v left<0;·simp only[aJ hi]at h;cases h
   ·simp only[aH hi]at h;obtain⟨i,n,j,m,p⟩:=wE b ps _ _ _ _ _ _ h;obtain⟨r,_⟩:=Dh (v:=v) (l:=left) aar;have t:=jW r;exact⟨λx s=>pO (i x s),n,j,m,by simp only[bg];omega⟩
theorem Sn{M:Nat}{ps a:List T}{b x:List Bd}(hb:QV M b)(hM:∀t∈a,t.bE<=M)(h:pow ps a b=some x):QV M x/\x.length<=b.length+1:=by
 unfold pow at h;cases c:qH b ps a ⟨#[]⟩ 0 with
 |none=>rw[c]at h;cases h
 |some q=>
  obtain⟨left,f,o⟩:=q;rw[c]at h;obtain⟨d,_,_,j,_⟩:=wE b ps a _ _ _ _ _ c;simp only[rH]at h;by_cases g:o=0
  ·rw[aJ g]at h;by_cases i:left.length=0
   ·rw[aJ i]at h;obtain rfl:b=x:=aa0;exact⟨hb,aar⟩
   ·rw[aH i]at h;cases h
  ·rw[aH g]at h;by_cases e:o=1/\left.length=1
   ·rw[aJ e]at h
    match left,e.2,d with
    |[y],_,d=>
     obtain rfl:ins b f y=x:=aaD;exact⟨hb.ins (j aar) (hM y (d y eu)),by rw[K3];exact ax _⟩
   ·rw[aH e]at h;cases h
theorem BD{t:T}{M:Nat}(h:t.bE<=M):∀x∈t.ay,x.bE<=M:=λx a=>by
 cases t with
 |mk k s b=>
  obtain⟨i,hi,rfl⟩:=bL a;have:=jq b i hi;simp only[bE]at h;simp only[ay];omega
mutual
theorem BH{M:Nat}:∀(p t:T) (b x:List Bd),QV M b->t.bE<=M->FE p t b=some x->QV M x/\x.length<=b.length+p.size
 |.mk k s e,t,b,x,hb,a,h=>by
  simp only[FE]at h;simp only[size];by_cases f:k=2
  ·rw[aJ f]at h;cases c:look b s with
   |none=>
    rw[c]at h;obtain rfl:ins b s t=x:=aaD;exact⟨hb.ins c a,by rw[K3];omega⟩
   |some v=>
    rw[c]at h;by_cases g:cmp v t=0
    ·obtain rfl:b=x:=(by simpa[g]using h);exact⟨hb,aar⟩
    ·simp[g]at h
  ·rw[aH f]at h;by_cases hd:k≠t.aA\/s≠t.aI\/e.length≠t.ay.length;·rw[aJ hd]at h;cases h
   ·rw[aH hd]at h;by_cases i:k=7
    ·rw[aJ i]at h;obtain⟨d,j⟩:=Sn hb (BD a) h;exact⟨d,aar⟩
    ·rw[aH i]at h;obtain⟨d,j⟩:=DI e t.ay b x hb (BD a) h;exact⟨d,aar⟩
theorem DI{M:Nat}:∀(ps a:List T) (b x:List Bd),QV M b->(∀t∈a,t.bE<=M)->kW ps a b=some x->QV M x/\x.length<=b.length+dJ ps
 |[],_,b,x,hb,_,h=>by
  obtain rfl:b=x:=aa1;exact⟨hb,aar⟩
 |_::_,[],b,x,hb,_,h=>by
  obtain rfl:b=x:=aa1;exact⟨hb,aar⟩
 |p::ps,t::a,b,x,hb,e,h=>by
  simp only[kW]at h;cases d:FE p t b with
  |none=>rw[d]at h;cases h
  |some c=>
   rw[d]at h;obtain⟨f,i⟩:=BH p t b c hb (e t eu) d;obtain⟨g,j⟩:=DI ps a c x f (λy hy=>e y (aY _ hy)) h;exact⟨g,by simp only[dJ];omega⟩
end
end T
end
end Go.Proofs.YtaciciokmpbkkaaGreatDoor
