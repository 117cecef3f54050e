import Derived.Test.YtaciciokmpbkkaaGreatDoorAl
import Derived.WalkLawsBesides
import Derived.Lib.BufferRead
import Derived.Lib.IndexBytes
import Derived.BigQuiet
import Derived.Test.YtaciciokmpbkkaaGreatDoorRows
import Derived.ProofKit
import Derived.OpenShut
import Derived.Deep.Fields
import Derived.Deep.Cut
import Derived.StillTailTactics
set_option maxRecDepth 100000
set_option maxHeartbeats 16000000
namespace Go.Proofs.YtaciciokmpbkkaaGreatDoor
open Go.RowKit
theorem gI{a b:Int}(h:a=b):Ending.returned (.int .i64 a)=.returned (.int .i64 b):=by rw[h]
theorem cO{a b:Bool}(h:a=b):Ending.returned (.bool a)=.returned (.bool b):=by rw[h]
theorem nM{a b:ByteArray}(h:a=b):Ending.returned (.string a)=.returned (.string b):=by rw[h]
theorem yf{P:Program}{f:FuncId}{args:Array Value}{w a:World}{v:Value}(h:Calls P f args a λe w'=>e=.returned v/\a=w')(b:∃m,a=w.drewN m:=by exact⟨_,rfl⟩):
 Calls P f args a λe w''=>e=.returned v/\∃m,w''=w.drewN m:=h.m λ_ _ ⟨c,d⟩=>⟨c,by obtain⟨m,g⟩:=b;exact⟨m,by rw[<-d];exact g⟩⟩
theorem below_drewN{B:Nat}{a w:World}(h:Below B a w)(n:Nat):Below B a (w.drewN n):=⟨h.os,h.tape,h.output,h.size,h.block⟩
theorem BQ(a b:List UInt8):(⟨a.toArray⟩:ByteArray)++(⟨b.toArray⟩:ByteArray)=⟨(a++b).toArray⟩:=by
 apply Cb;simp
theorem Lt(s:ByteArray):s=⟨s.data.toList.toArray⟩:=by apply Cb;simp
theorem I9(l:List UInt8):(⟨l.toArray⟩:ByteArray).size=l.length:=by show l.toArray.size=_;simp
theorem wJ{a b:ByteArray}(h:a.data.toList=b.data.toList):a=b:=by apply Cb;exact Array.toList_inj.1 h
def b8(n:Int):UInt8:=UInt8.ofNat n.toNat
def C9(w:World)(g:Nat)(l:List UInt8):Prop:=∀i (h:i<l.length),w.cell? ⟨g,i,none⟩=some (.int .u8 (l[i].toNat:Int))/\w.frozen? ⟨g,i,none⟩=false
theorem C9.drewN{w:World}{g:Nat}{l:List UInt8}(h:C9 w g l)(n:Nat):C9 (w.drewN n) g l:=h
theorem C9.conv{P:Program}{w:World}{g:Nat}{l:List UInt8}(h:C9 w g l)(src a e:TypeId)(n c:Nat)(b:n=l.length)
 (d:P.underlying src=some (.slice e)) (f:P.underlying e=some (.int .u8)) (hd:P.underlying a=some .string):
 (convert src a (.slice (some ⟨g,0,none⟩) n c)).run P w=.ok (.string ⟨l.toArray⟩) w:=by
 subst b;refine run_convert_bytes_back w src a e ⟨g,0,none⟩ c l d f hd λj hj=>?_;have i:(⟨g,0,none⟩:Addr).add j=⟨g,j,none⟩:=(by simp[Addr.add];omega);rw[i];exact(h j hj).1
end Go.Proofs.YtaciciokmpbkkaaGreatDoor
namespace Go
section
variable {P:Program} {ops:Array Oper} {Q:Exit->Act->World->Prop} {md:Region.Mode} {S:World->Prop}
theorem dz(i:Nat){b:Oper}(v:Value){fuel:Nat}{listed l':Array Bool}{a a':Act}{w:World}(h:wpAnyH P md ops Q S fuel l' a' w)(hi:ops[i]?=some b:=by(simp only[List.getElem?_toArray,List.getElem?_cons_succ,List.getElem?_cons_zero];rfl))(d:Region.noSelect ops=true:=by kernel_rfl)(e:Region.free md ops listed i=true:=by kernel_rfl)(f:(Region.ready md ops listed).contains i=true:=by kernel_rfl)(g:∀c a w,Q (.panic c) (a.put b.dst v) w->Q (.panic c) a w:=by exact λ_ _ _ h=>h)(j:Region.wanted b (yielded ops a.tmps)=true:=by rfl)(hy:∀w,S w->(execOp a.eval b).run P w=.ok (.value v) w:=by(intro w k;(try dsimp only at k);go_simp;(try with_reducible rfl)))(hS:S w:=by assumption)(l:listed.setIfInBounds i true=l':=by((try simp only[List.setIfInBounds_toArray,List.set_cons_zero,List.set_cons_succ]);try rfl))(m:a.put b.dst v=a':=by((try simp only[Act.put,List.setIfInBounds_toArray,List.set_cons_zero,List.set_cons_succ]);try rfl)):wpAnyH P md ops Q S (fuel+1) listed a w:=
 wpAnyH_take hi d e f g (Or.inl ⟨j,hy⟩) hS (by rw[l,m];exact h)
theorem iG(i:Nat){b:Oper}{fuel:Nat}{listed l':Array Bool}{a a':Act}{w:World}(h:wpAnyH P md ops Q S fuel l' a' w)(hi:ops[i]?=some b:=by(simp only[au,aj,ai];rfl))(d:Region.noSelect ops=true:=by kernel_rfl)(e:Region.free md ops listed i=true:=by kernel_rfl)(f:(Region.ready md ops listed).contains i=true:=by kernel_rfl)(g:∀c a w,Q (.panic c) (a.put b.dst undef) w->Q (.panic c) a w:=by exact λ_ _ _ h=>h)(j:Region.wanted b (yielded ops a.tmps)=false:=by rfl)(hS:S w:=by assumption)(k:listed.setIfInBounds i true=l':=by((try simp only[di,eD,dQ]);try rfl))(l:a.put b.dst undef=a':=by((try simp only[Act.put,di,eD,dQ]);try rfl)):wpAnyH P md ops Q S (fuel+1) listed a w:=
 wpAnyH_take hi d e f g (Or.inr ⟨j,rfl⟩) hS (by rw[k,l];exact h)
theorem yR(i:Nat){b:Oper}{fuel:Nat}{listed l':Array Bool}{a:Act}{w:World}(h:∀K':Act->World->Prop,Shut (∀a w,S w->(S w->wpAnyH P md ops Q S fuel l' a w)->K' a w)->if Region.wanted b (yielded ops a.tmps)=true then Oper.wp P b a w K' Q else K' (a.put b.dst undef) w)(hi:ops[i]?=some b:=by(simp only[au,aj,ai];rfl))(d:Region.ready md ops listed=[i]:=by kernel_rfl)(e:listed.setIfInBounds i true=l':=by((try simp only[di,eD,dQ]);try rfl)):wpAnyH P md ops Q S (fuel+1) listed a w:=
 kK d aau (AllReadyH.cons hi (λK' c=>h K' (by rw[e]at c;exact c)) jV)
theorem PH(i:Nat){rs:List Nat}{b:Oper}{fuel:Nat}{listed l':Array Bool}{a:Act}{w:World}(h:∀K':Act->World->Prop,Shut (∀a w,S w->(S w->wpAnyH P md ops Q S fuel l' a w)->K' a w)->if Region.wanted b (yielded ops a.tmps)=true then Oper.wp P b a w K' Q else K' (a.put b.dst undef) w)(d:AllReadyH P md ops Q S fuel listed a w rs)(hi:ops[i]?=some b:=by(simp only[au,aj,ai];rfl))(e:listed.setIfInBounds i true=l':=by((try simp only[di,eD,dQ]);try rfl)):AllReadyH P md ops Q S fuel listed a w (i::rs):=
 AllReadyH.cons hi (λK' c=>h K' (by rw[e]at c;exact c)) d
theorem mZ{K':Act->World->Prop}{X:Act->World->Prop}(b:Shut (∀a w,S w->(S w->X a w)->K' a w)){a a':Act}{w:World}(hS:S w)(h:S w->X a' w)(c:a=a':=by((try simp only[Act.put,di,eD,dQ]);try rfl)):K' a w:=
 b.o _ _ hS (by rw[c];exact h)
end
end Go
namespace Go.RowKit
theorem kI{W W':World}(hb:Below W.heap.size W W'){p:Addr}{u:Value}(h:W.cell? p=some u):W'.cell? p=some u:=(hb.cell (eQ W p h)).t h
theorem Xn{w W W':World}{a:Addr}{v0:Value}(h:W.cell? a=some v0/\Below w.heap.size w W)(hb:Below W.heap.size W W'):W'.cell? a=some v0/\Below w.heap.size w W':=⟨kI hb h.1,h.2.t (hb.m h.2.size)⟩
theorem JY{w W W':World}{a b:Addr}{v0 c:Value}(h:W.cell? a=some v0/\W.cell? b=some c/\Below w.heap.size w W)(hb:Below W.heap.size W W'):W'.cell? a=some v0/\W'.cell? b=some c/\Below w.heap.size w W':=⟨kI hb h.1,kI hb h.2.1,h.2.2.t (hb.m h.2.2.size)⟩
theorem wV{w W W':World}{a b c:Addr}{v0 d v2:Value}(h:W.cell? a=some v0/\W.cell? b=some d/\W.cell? c=some v2/\Below w.heap.size w W)(hb:Below W.heap.size W W'):W'.cell? a=some v0/\W'.cell? b=some d/\W'.cell? c=some v2/\Below w.heap.size w W':=⟨kI hb h.1,kI hb h.2.1,kI hb h.2.2.1,h.2.2.2.t (hb.m h.2.2.2.size)⟩
theorem gW{w W W':World}{a b c d:Addr}{v0 e v2 v3:Value}(h:W.cell? a=some v0/\W.cell? b=some e/\W.cell? c=some v2/\W.cell? d=some v3/\Below w.heap.size w W)(hb:Below W.heap.size W W'):W'.cell? a=some v0/\W'.cell? b=some e/\W'.cell? c=some v2/\W'.cell? d=some v3/\Below w.heap.size w W':=⟨kI hb h.1,kI hb h.2.1,kI hb h.2.2.1,kI hb h.2.2.2.1,h.2.2.2.2.t (hb.m h.2.2.2.2.size)⟩
theorem pJ{w W W':World}{a b c d e:Addr}{v0 f v2 v3 v4:Value}(h:W.cell? a=some v0/\W.cell? b=some f/\W.cell? c=some v2/\W.cell? d=some v3/\W.cell? e=some v4/\Below w.heap.size w W)(hb:Below W.heap.size W W'):W'.cell? a=some v0/\W'.cell? b=some f/\W'.cell? c=some v2/\W'.cell? d=some v3/\W'.cell? e=some v4/\Below w.heap.size w W':=⟨kI hb h.1,kI hb h.2.1,kI hb h.2.2.1,kI hb h.2.2.2.1,kI hb h.2.2.2.2.1,h.2.2.2.2.2.t (hb.m h.2.2.2.2.2.size)⟩
theorem zo{w W W':World}{a b c d e f:Addr}{v0 g v2 v3 v4 v5:Value}(h:W.cell? a=some v0/\W.cell? b=some g/\W.cell? c=some v2/\W.cell? d=some v3/\W.cell? e=some v4/\W.cell? f=some v5/\Below w.heap.size w W)(hb:Below W.heap.size W W'):W'.cell? a=some v0/\W'.cell? b=some g/\W'.cell? c=some v2/\W'.cell? d=some v3/\W'.cell? e=some v4/\W'.cell? f=some v5/\Below w.heap.size w W':=⟨kI hb h.1,kI hb h.2.1,kI hb h.2.2.1,kI hb h.2.2.2.1,kI hb h.2.2.2.2.1,kI hb h.2.2.2.2.2.1,h.2.2.2.2.2.2.t (hb.m h.2.2.2.2.2.2.size)⟩
theorem Cm{w W W':World}{a b c d e f g:Addr}{v0 i v2 v3 v4 v5 j:Value}(h:W.cell? a=some v0/\W.cell? b=some i/\W.cell? c=some v2/\W.cell? d=some v3/\W.cell? e=some v4/\W.cell? f=some v5/\W.cell? g=some j/\Below w.heap.size w W)(hb:Below W.heap.size W W'):W'.cell? a=some v0/\W'.cell? b=some i/\W'.cell? c=some v2/\W'.cell? d=some v3/\W'.cell? e=some v4/\W'.cell? f=some v5/\W'.cell? g=some j/\Below w.heap.size w W':=⟨kI hb h.1,kI hb h.2.1,kI hb h.2.2.1,kI hb h.2.2.2.1,kI hb h.2.2.2.2.1,kI hb h.2.2.2.2.2.1,kI hb h.2.2.2.2.2.2.1,h.2.2.2.2.2.2.2.t (hb.m h.2.2.2.2.2.2.2.size)⟩
theorem YV{w W W':World}{a b c d e f g i:Addr}{v0 j v2 v3 v4 v5 k l:Value}(h:W.cell? a=some v0/\W.cell? b=some j/\W.cell? c=some v2/\W.cell? d=some v3/\W.cell? e=some v4/\W.cell? f=some v5/\W.cell? g=some k/\W.cell? i=some l/\Below w.heap.size w W)(hb:Below W.heap.size W W'):W'.cell? a=some v0/\W'.cell? b=some j/\W'.cell? c=some v2/\W'.cell? d=some v3/\W'.cell? e=some v4/\W'.cell? f=some v5/\W'.cell? g=some k/\W'.cell? i=some l/\Below w.heap.size w W':=⟨kI hb h.1,kI hb h.2.1,kI hb h.2.2.1,kI hb h.2.2.2.1,kI hb h.2.2.2.2.1,kI hb h.2.2.2.2.2.1,kI hb h.2.2.2.2.2.2.1,kI hb h.2.2.2.2.2.2.2.1,h.2.2.2.2.2.2.2.2.t (hb.m h.2.2.2.2.2.2.2.2.size)⟩
end Go.RowKit
namespace Go
section
variable {P:Program} {ops:Array Oper} {Q:Exit->Act->World->Prop} {md:Region.Mode} {S:World->Prop} {Z:Nat->Nat}
def mH(P:Program)(md:Region.Mode)(ops:Array Oper)(Q:Exit->Act->World->Prop)(S:World->Prop)(Z:Nat->Nat):Nat->Array Bool->Act->World->Prop
 |0,listed,a,w=>Region.ready md ops listed=[]/\Q .normal a w
 |fuel+1,listed,a,w=>
  (Region.ready md ops listed=[]->Q .normal a w)/\
  ∀i∈Region.ready md ops listed,wpOp P ops Q i (λa' w'=>((Z i=0->S w')/\(Z i=1->S w->S w'))/\mH P md ops Q S Z fuel (listed.setIfInBounds i true) a' w') a w
theorem Jf:∀(fuel:Nat) (listed:Array Bool) (a:Act) (w:World),mH P md ops Q S Z fuel listed a w->wpAny P md ops Q fuel listed a w
 |0,_,_,_,h=>h
 |fuel+1,_,_,_,h=>⟨h.1,λi hi=>wpOp_mono (λa' w' h'=>Jf fuel _ a' w' h'.2) (h.2 i hi)⟩
inductive Cg (md:Region.Mode) (ops:Array Oper) (listed:Array Bool) (i:Nat):Nat->Prop
 |here {j:Nat} {oj:Oper} (k:Nat) (hj:ops[j]?=some oj) (h:∃e∈oj.after,Region.binds md e=true/\e.on=k) (hk:k=i):Cg md ops listed i j
 |via {j:Nat} {oj:Oper} (k:Nat) (hj:ops[j]?=some oj) (h:∃e∈oj.after,Region.binds md e=true/\e.on=k) (hu:listed.getD k false=false) (hw:Cg md ops listed i k):Cg md ops listed i j
theorem Cg.Kc{listed:Array Bool}{i j:Nat}(hi:listed.getD i false=false)(h:Cg md ops listed i j):j∉Region.ready md ops listed:=λd=>by
 obtain⟨_,o,a,c⟩:=EM.1 d;cases h with
 |here k hj h f=>
  obtain⟨e,b,hb,rfl⟩:=h;rw[hj]at a;obtain rfl:=aB a;have:=c e b hb;rw[f,hi]at this;cases this
 |via k hj h hu g=>
  obtain⟨e,b,hb,rfl⟩:=h;rw[hj]at a;obtain rfl:=aB a;have:=c e b hb;rw[hu]at this;cases this
theorem Cg.aR{listed:Array Bool}{i j z:Nat}(hi:listed.getD i false=false)(hj:j∈Region.ready md ops listed)(h:Cg md ops listed i z):Cg md ops (listed.setIfInBounds j true) i z:=by
 induction h with
 |here k a h b=>exact .here k a h b
 |via k a h hu c d=>
  refine .via k a h ?_ d;rw[getD_set_ne false (λe=>?_)];·exact hu
  ·subst e;exact c.Kc hi hj
def LC(md:Region.Mode)(ops:Array Oper)(listed:Array Bool)(i:Nat):Nat->Nat->Bool
 |0,_=>false
 |f+1,j=>match ops[j]? with
  |none=>false
  |some a=>a.after.any λe=>Region.binds md e&&(e.on==i||(!listed.getD e.on false&&LC md ops listed i f e.on))
theorem Oq{listed:Array Bool}{i:Nat}:∀(f j:Nat),LC md ops listed i f j=true->Cg md ops listed i j
 |0,_,h=>by cases h
 |f+1,j,h=>by
  unfold LC at h;cases hj:ops[j]? with
  |none=>rw[hj]at h;cases h
  |some d=>
   rw[hj]at h;obtain⟨e,a,hb⟩:=Array.any_eq_true'.1 h;simp only[ah,eH,fD,bT]at hb;obtain⟨hb,b|⟨hu,c⟩⟩:=hb;·exact .here e.on hj ⟨e,a,hb,rfl⟩ b
   ·exact .via e.on hj ⟨e,a,hb,rfl⟩ hu (Oq f e.on c)
theorem Om{listed:Array Bool}{i:Nat}(h:i∈Region.ready md ops listed):listed.getD i false=false:=by
 have h0:=(EM.1 h).1;rw[dZ]at h0⊢;cases a:listed[i]? with
 |none=>rfl
 |some b=>rw[a]at h0;exact h0
theorem LD{i:Nat}{f:Oper}{v:Value}(hi:ops[i]?=some f)(r:∀(j:Nat) (o:Oper) cs b,ops[j]?=some o->o.op≠.select cs b)
 (A:∀c a w,Q (.panic c) (a.put f.dst v) w->Q (.panic c) a w):
 ∀(fuel:Nat) (listed:Array Bool) (a:Act) (w:World),
  (∀j g,ops[j]?=some g->j≠i->listed.getD j true=false->(∀e∈g.after,Region.binds md e=true->e.on≠i)->f.apart ops g=true)->
  (∀z,z<ops.size->2<=Z z->Cg md ops listed i z)->
  i∈Region.ready md ops listed->YieldsIf P ops S f v a->S w->
  mH P md ops Q S Z fuel (listed.setIfInBounds i true) (a.put f.dst v) w->mH P md ops Q S Z (fuel+1) listed a w:=by
 intro fuel;induction fuel with
 |zero=>
  intro listed a w _ _ l hy hS H;refine⟨λh=>aaB,λj hj=>?_⟩;by_cases d:j=i;·subst d;exact hy.wpOp hi hS ⟨⟨λ_=>hS,λ_ _=>hS⟩,H⟩
  ·have:=wF hj d;rw[H.1]at this;cases this
 |succ fuel B=>
  intro listed a w s t l hy hS H;refine⟨λh=>aaB,λj hj=>?_⟩;by_cases d:j=i;·subst d;exact hy.wpOp hi hS ⟨⟨λ_=>hS,λ_ _=>hS⟩,H⟩
  ·have n:=H.2 j (wF hj d);obtain⟨u,g,p,C⟩:=EM.1 hj;have D:j<ops.size:=(aW.1 p).1;have q:=Om l;have E:Z j=0\/Z j=1:=by
    rcases bX (Z j) 2 with h|h;·omega
    ·exact absurd hj ((t j D h).Kc q)
   have F:∀e∈g.after,Region.binds md e=true->e.on≠i:=λe G hb I=>by
    have n:=C e G hb;rw[I,q]at n;cases n
   have J:=wpOp_putIf p (s j g p d u F) (λcs b=>r i f cs b hi) (λcs b=>r j g cs b p) A hy n;have K:∀k ok,ops[k]?=some ok->k≠i->(listed.setIfInBounds j true).getD k true=false->
    (∀e∈ok.after,Region.binds md e=true->e.on≠i)->f.apart ops ok=true:=λk ok L M x N=>by
    refine s k ok L M ?_ N;by_cases y:j=k;·subst y;exact u
    ·rw[getD_set_ne true y]at x;exact x
   refine wpOp_mono (λa' w' m=>⟨m.2.1,B (listed.setIfInBounds j true) a' w' K (λz O R=>(t z O R).aR q hj) (wF l (jR d)) m.1 (E.elim (λh=>m.2.1.1 h) (λh=>m.2.1.2 h hS)) ?_⟩) J;rw[xe _ _ d];exact m.2.2
theorem fA(i:Nat){b:Oper}(v:Value){fuel:Nat}{listed l':Array Bool}{a a':Act}{w:World}(h:mH P md ops Q S Z fuel l' a' w)(hi:ops[i]?=some b:=by(simp only[List.getElem?_toArray,List.getElem?_cons_succ,List.getElem?_cons_zero];rfl))(d:Region.noSelect ops=true:=by kernel_rfl)(e:Region.free md ops listed i=true:=by kernel_rfl)(f:(Region.ready md ops listed).contains i=true:=by kernel_rfl)(g:((List.range ops.size).all λz=>Z z <= 1||LC md ops listed i ops.size z)=true:=by kernel_rfl)(j:∀c a w,Q (.panic c) (a.put b.dst v) w->Q (.panic c) a w:=by exact λ_ _ _ h=>h)(k:Region.wanted b (yielded ops a.tmps)=true:=by rfl)(hy:∀w,S w->(execOp a.eval b).run P w=.ok (.value v) w:=by(intro w l;(try dsimp only at l);go_simp;(try with_reducible rfl)))(hS:S w:=by assumption)(m:listed.setIfInBounds i true=l':=by((try simp only[List.setIfInBounds_toArray,List.set_cons_zero,List.set_cons_succ]);try rfl))(n:a.put b.dst v=a':=by((try simp only[Act.put,List.setIfInBounds_toArray,List.set_cons_zero,List.set_cons_succ]);try rfl)):mH P md ops Q S Z (fuel+1) listed a w:=
 LD hi (Region.noSelect_spec d) j fuel listed a w (Region.free_spec hi e) (λz o p=>Oq _ _ (by
  have:=bQ.1 g z (ed.2 o);rcases eH _ _▸this with h|h;·have:=ak h;omega
  ·exact h)) aaC (Or.inl ⟨k,hy⟩) hS (by rw[m,n];exact h)
theorem Ju{i:Nat}{f:Oper}{v:Value}(hi:ops[i]?=some f)(r:∀(j:Nat) (o:Oper) cs b,ops[j]?=some o->o.op≠.select cs b)
 (y:∀c a w,Q (.panic c) (a.put f.dst v) w->Q (.panic c) a w):
 ∀(fuel:Nat) (listed:Array Bool) (a:Act) (w:World),
  (∀j g,ops[j]?=some g->j≠i->listed.getD j true=false->(∀e∈g.after,Region.binds md e=true->e.on≠i)->f.apart ops g=true)->
  i∈Region.ready md ops listed->YieldsIf P ops (λ_=>True) f v a->Z i=1->
  mH P md ops Q S Z fuel (listed.setIfInBounds i true) (a.put f.dst v) w->mH P md ops Q S Z (fuel+1) listed a w:=by
 intro fuel;induction fuel with
 |zero=>
  intro listed a w _ l hy m H;refine⟨λh=>aaB,λj hj=>?_⟩;by_cases d:j=i;·subst d;exact hy.wpOp hi trivial ⟨⟨λh=>(by rw[m]at h;cases h),λ_ h=>h⟩,H⟩
  ·have:=wF hj d;rw[H.1]at this;cases this
 |succ fuel z=>
  intro listed a w s l hy m H;refine⟨λh=>aaB,λj hj=>?_⟩;by_cases d:j=i;·subst d;exact hy.wpOp hi trivial ⟨⟨λh=>(by rw[m]at h;cases h),λ_ h=>h⟩,H⟩
  ·have n:=H.2 j (wF hj d);obtain⟨t,g,p,A⟩:=EM.1 hj;have B:=Om l;have C:∀e∈g.after,Region.binds md e=true->e.on≠i:=λe D hb E=>by
    have n:=A e D hb;rw[E,B]at n;cases n
   have F:=wpOp_putIf (S:=λ_=>True) p (s j g p d t C) (λcs b=>r i f cs b hi) (λcs b=>r j g cs b p) y hy n;have G:∀k ok,ops[k]?=some ok->k≠i->(listed.setIfInBounds j true).getD k true=false->
    (∀e∈ok.after,Region.binds md e=true->e.on≠i)->f.apart ops ok=true:=λk ok I J u K=>by
    refine s k ok I J ?_ K;by_cases x:j=k;·subst x;exact t
    ·rw[getD_set_ne true x]at u;exact u
   refine wpOp_mono (λa' w' q=>⟨q.2.1,z (listed.setIfInBounds j true) a' w' G (wF l (jR d)) q.1 m ?_⟩) F;rw[xe _ _ d];exact q.2.2
theorem Zp(i:Nat){b:Oper}(v:Value){fuel:Nat}{listed l':Array Bool}{a a':Act}{w:World}(h:mH P md ops Q S Z fuel l' a' w)(hi:ops[i]?=some b:=by(simp only[au,aj,ai];rfl))(d:Region.noSelect ops=true:=by kernel_rfl)(e:Region.free md ops listed i=true:=by kernel_rfl)(f:(Region.ready md ops listed).contains i=true:=by kernel_rfl)(g:Z i=1:=by rfl)(j:∀c a w,Q (.panic c) (a.put b.dst v) w->Q (.panic c) a w:=by exact λ_ _ _ h=>h)(k:Region.wanted b (yielded ops a.tmps)=true:=by rfl)(hy:∀w,True->(execOp a.eval b).run P w=.ok (.value v) w:=by(intro w _;go_simp;(try with_reducible rfl)))(l:listed.setIfInBounds i true=l':=by((try simp only[di,eD,dQ]);try rfl))(m:a.put b.dst v=a':=by((try simp only[Act.put,di,eD,dQ]);try rfl)):mH P md ops Q S Z (fuel+1) listed a w:=
 Ju hi (Region.noSelect_spec d) j fuel listed a w (Region.free_spec hi e) aaC (Or.inl ⟨k,hy⟩) g (by rw[l,m];exact h)
def gq(P:Program)(md:Region.Mode)(ops:Array Oper)(Q:Exit->Act->World->Prop)(S:World->Prop)(Z:Nat->Nat)(fuel:Nat)(listed:Array Bool)(a:Act)(w:World)(rs:List Nat):Prop:=
 ∀i∈rs,wpOp P ops Q i (λa' w'=>((Z i=0->S w')/\(Z i=1->S w->S w'))/\mH P md ops Q S Z fuel (listed.setIfInBounds i true) a' w') a w
theorem gq.nil{fuel:Nat}{listed:Array Bool}{a:Act}{w:World}:gq P md ops Q S Z fuel listed a w []:=λ_ h=>by cases h
theorem gq.cons{fuel:Nat}{listed l':Array Bool}{a:Act}{w:World}{i:Nat}{o:Oper}{rs:List Nat}(b:ops[i]?=some o)(c:listed.setIfInBounds i true=l')
 (h:∀K':Act->World->Prop,Shut (∀a w,S w->(S w->mH P md ops Q S Z fuel l' a w)->K' a w)->if Region.wanted o (yielded ops a.tmps)=true then Oper.wp P o a w K' Q else K' (a.put o.dst undef) w)
 (d:gq P md ops Q S Z fuel listed a w rs):gq P md ops Q S Z fuel listed a w (i::rs):=λj hj=>by
 subst c;rcases bM.1 hj with rfl|hj;·exact EZ b (λK' e=>h K' (λa w hS f=>e a w ⟨⟨λ_=>hS,λ_ _=>hS⟩,f hS⟩))
 ·exact d j hj
theorem iB{rs:List Nat}{fuel:Nat}{listed:Array Bool}{a:Act}{w:World}(b:Region.ready md ops listed=rs)(c:rs≠[])
 (h:gq P md ops Q S Z fuel listed a w rs):mH P md ops Q S Z (fuel+1) listed a w:=⟨λh0=>absurd (b▸h0) c,λi hi=>h i (b▸hi)⟩
theorem uO(i:Nat){b:Oper}{fuel:Nat}{listed l':Array Bool}{a:Act}{w:World}(h:∀K':Act->World->Prop,Shut (∀a w,S w->(S w->mH P md ops Q S Z fuel l' a w)->K' a w)->if Region.wanted b (yielded ops a.tmps)=true then Oper.wp P b a w K' Q else K' (a.put b.dst undef) w)(hi:ops[i]?=some b:=by(simp only[au,aj,ai];rfl))(c:Region.ready md ops listed=[i]:=by kernel_rfl)(d:listed.setIfInBounds i true=l':=by((try simp only[di,eD,dQ]);try rfl)):mH P md ops Q S Z (fuel+1) listed a w:=
 iB c aau (gq.cons hi d h gq.nil)
theorem QQ(i:Nat){rs:List Nat}{b:Oper}{fuel:Nat}{listed l':Array Bool}{a:Act}{w:World}(h:∀K':Act->World->Prop,Shut (∀a w,S w->(S w->mH P md ops Q S Z fuel l' a w)->K' a w)->if Region.wanted b (yielded ops a.tmps)=true then Oper.wp P b a w K' Q else K' (a.put b.dst undef) w)(c:gq P md ops Q S Z fuel listed a w rs)(hi:ops[i]?=some b:=by(simp only[au,aj,ai];rfl))(d:listed.setIfInBounds i true=l':=by((try simp only[di,eD,dQ]);try rfl)):gq P md ops Q S Z fuel listed a w (i::rs):=
 gq.cons hi d h c
theorem yS(i:Nat){b:Oper}{fuel:Nat}{listed l':Array Bool}{a:Act}{w:World}(h:∀K':Act->World->Prop,Shut (∀a w,mH P md ops Q S Z fuel l' a w->K' a w)->if Region.wanted b (yielded ops a.tmps)=true then Oper.wp P b a w K' Q else K' (a.put b.dst undef) w)(hi:ops[i]?=some b:=by(simp only[au,aj,ai];rfl))(c:Region.ready md ops listed=[i]:=by kernel_rfl)(d:Z i=2:=by rfl)(e:listed.setIfInBounds i true=l':=by((try simp only[di,eD,dQ]);try rfl)):mH P md ops Q S Z (fuel+1) listed a w:=by
 subst e;refine⟨λh0=>(by rw[c]at h0;cases h0),λj hj=>?_⟩;rw[c,bD]at hj;subst hj;exact EZ hi (λK' f=>h K' (λa w g=>f a w ⟨⟨λh=>(by rw[d]at h;cases h),λh=>(by rw[d]at h;cases h)⟩,g⟩))
theorem rY{K':Act->World->Prop}{X:Act->World->Prop}(b:Shut (∀a w,X a w->K' a w)){a a':Act}{w:World}(h:X a' w)(c:a=a':=by((try simp only[Act.put,di,eD,dQ]);try rfl)):K' a w:=b.o _ _ (by rw[c];exact h)
theorem dD{listed:Array Bool}{a:Act}{w:World}(b:Region.ready md ops listed=[])(h:Q .normal a w):∀fuel,mH P md ops Q S Z fuel listed a w
 |0=>⟨b,h⟩
 |_+1=>⟨λ_=>h,by rw[b];simp⟩
theorem fT{id:Nat}{a:Act}{w:World}(Z:Nat->Nat)(b:P.follows .mixedOrders=true)(hS:S w.drew)(h:S w.drew->mH P .any ops Q S Z ops.size (Array.replicate ops.size false) a w.drew):(Code.region id ops true).wp P Q a w:=
 pY b (Jf _ _ _ _ (h hS))
end
end Go
namespace Go.Proofs.YtaciciokmpbkkaaGreatDoor
section
open Go.RowKit Go.ChangeShapes Go.WideShapes Go.Deep
inductive T where
 |mk:Int->ByteArray->List T->T
namespace T
def aA:T->Int|mk k _ _=>k
def aI:T->ByteArray|mk _ s _=>s
def ay:T->List T|mk _ _ a=>a
end T
inductive aS (w:World):Value->T->Prop
 |mk (k:Int) (s:ByteArray) (A:Option Addr) (cap:Nat) (ks:List T) (U:Nat->Value×Value×Value) (hk: -9223372036854775808<=k/\k<=9223372036854775807) (hs:s.size<=maxLen) (hc:ks.length<=cap) (hm:cap<=maxLen)
   (hA:ks.length=0\/∃b off,A=some ⟨b,off,none⟩/\∀i,i<ks.length->w.cell? ⟨b,off+i*3,none⟩=some (U i).1/\w.cell? ⟨b,off+i*3+1,none⟩=some (U i).2.1/\w.cell? ⟨b,off+i*3+2,none⟩=some (U i).2.2)
   (hU:∀i (h:i<ks.length),aS w (.agg #[(U i).1,(U i).2.1,(U i).2.2]) ks[i]):aS w (.agg #[.int .i64 k,.string s,.slice A ks.length cap]) (.mk k s ks)
theorem aS.aR{w w':World}{v:Value}{t:T}(h:aS w v t)(a:∀p:Addr,(w.cell? p).isSome=true->w'.cell? p=w.cell? p):aS w' v t:=by
 induction h with
 |mk k s A cap d U f g j l hA _ m=>
  refine .mk k s A cap d U f g j l ?_ m;rcases hA with hA|⟨b,off,e,n⟩;·exact .inl hA
  ·refine .inr ⟨b,off,e,λi hi=>?_⟩;obtain⟨c,c1,c2⟩:=n i hi;exact⟨(a _ (by rw[c];rfl)).t c,(a _ (by rw[c1];rfl)).t c1,(a _ (by rw[c2];rfl)).t c2⟩
theorem aS.ag{w w':World}{v:Value}{t:T}(h:aS w v t)(hb:Below w.heap.size w w'):aS w' v t:=by
 refine h.aR λp b=>?_;obtain⟨v,a⟩:=eO.1 b;rw[a];exact af hb a
mutual
def T.bE:T->Nat
 |.mk _ s a=>s.size+4+T.bJ a
def T.bJ:List T->Nat
 |[]=>0
 |t::r=>T.bE t+T.bJ r
end
end
section
open Go.RowKit
namespace T
mutual
def size:T->Nat
 |.mk _ _ a=>1+dJ a
def dJ:List T->Nat
 |[]=>0
 |t::r=>size t+dJ r
end
mutual
theorem size_le:∀t:T,t.size<=t.bE
 |.mk _ s a=>by have:=tJ a;simp only[size,bE];omega
theorem tJ:∀l:List T,dJ l<=bJ l
 |[]=>by simp[dJ,bJ]
 |t::r=>by have:=size_le t;have:=tJ r;simp only[dJ,bJ];omega
end
theorem jq(l:List T):∀(i:Nat) (h:i<l.length),l[i].bE<=bJ l:=by
 induction l with
 |nil=>intro i h;simp at h
 |cons t r a=>
  intro i h;cases i with
  |zero=>simp only[dI,bJ];omega
  |succ i=>have:=a i aaD;simp only[fJ,bJ];omega
theorem Ef(l:List T):∀(i:Nat) (h:i<l.length),dJ (l.take (i+1))=dJ (l.take i)+l[i].size:=by
 induction l with
 |nil=>intro i h;simp at h
 |cons t r a=>
  intro i h;cases i with
  |zero=>simp[dJ]
  |succ i=>have:=a i aaD;simp only[gJ,dJ,fJ,this];omega
theorem uX(l:List T):∀i,bJ (l.take i)<=bJ l:=by
 induction l with
 |nil=>intro i;simp
 |cons t r a=>
  intro i;cases i with
  |zero=>simp[bJ]
  |succ i=>have:=a i;simp only[gJ,bJ];omega
theorem TC(t:T):4<=t.bE:=by cases t;simp only[bE];omega
theorem lq:∀l:List T,4*l.length<=bJ l
 |[]=>by simp[bJ]
 |t::r=>by have:=TC t;have:=lq r;simp only[bJ,bg];omega
end T
theorem aS.view{w:World}{a b c:Value}{t:T}(h:aS w (.agg #[a,b,c]) t):a=.int .i64 t.aA/\b=.string t.aI/\∃A cap,c=.slice A t.ay.length cap:=by
 cases h;exact⟨rfl,rfl,_,_,rfl⟩
def Jz(w:World)(g:Nat)(a b c:Value):Prop:=w.cell? ⟨g,0,none⟩=some a/\w.cell? ⟨g,1,none⟩=some b/\w.cell? ⟨g,2,none⟩=some c
theorem Jz.ag{w w':World}{g:Nat}{a b c:Value}(h:Jz w g a b c)(hb:Below w.heap.size w w'):Jz w' g a b c:=
 ⟨af hb h.1,af hb h.2.1,af hb h.2.2⟩
theorem iQ(w:World)(a b c:Value)(t:TypeId):Jz (w.alloc (.cells #[a,b,c] t)) w.heap.size a b c:=by
 have:=bP w (.cells #[a,b,c] t);refine⟨?_,?_,?_⟩;·exact cell_of_row _ _ 0 _ _ _ this
 ·exact cell_of_row _ _ 1 _ _ _ this
 ·exact cell_of_row _ _ 2 _ _ _ this
theorem Zl:∀(N:Nat) (t:T) (v:Value) (w:World),t.bE<N->aS w v t->t.bE<=1048576->
 Calls Tryz.prog 9 #[v] w λe w'=>e=.returned (.int .i64 t.size)/\Below w.heap.size w w':=by
 intro N;induction N with
 |zero=>intro t v w h;omega
 |succ N q=>
  intro t v w r u x;cases u with
  |mk k s A cap a U J K L M hA hU=>
   simp only[T.bE]at r x;have m:=iQ w (.int .i64 k) (.string s) (.slice A a.length cap) 29;have c:=(aC w.heap.size w).alloc (ax _) (.cells #[.int .i64 k,.string s,.slice A a.length cap] 29);go_enter Tryz.func9,Tryz.ntmps9;go_wp2_with fail;have y:w.heap.size<(w.alloc (.cells #[.int .i64 k,.string s,.slice A a.length cap] 29)).heap.size:=aaE;generalize w.alloc _=n at m c y⊢;have O:T.bJ a<=1048576:=aar;have P:a.length<=1048576:=(aaz (T.lq a));have Q:=T.tJ a;go_loopw [3,4] (λsm i wr=>∃j:Nat,j<=a.length/\i=.int .i64 j/\sm=.int .i64 (1+(T.dJ (a.take j):Nat))/\Below n.heap.size n wr) (λ_ i _=>a.length-(intOf i).toNat);case atStart=>exact⟨0,aT _,rfl,by simp[T.dJ],aC _ _⟩
   case round=>
    obtain⟨j,hj,rfl,rfl,d⟩:=hrel;obtain⟨x0,R,S⟩:=m.ag d;by_cases f:j<a.length
    ·rcases hA with hA|⟨b,off,rfl,z⟩;·omega
     obtain⟨d0,d1,d2⟩:=z j f;have hu:=hU j f;have g:=c.t (d.m c.size);obtain⟨V,W,X⟩:=aak g d0 d1 d2;clear d0 d1 d2;generalize(U j).1=Y at*;generalize(U j).2.1=Z at*;generalize(U j).2.2=u2 at*;have ae:(j:Int)<(a.length:Int):=aar;have B:=T.jq a j f;have l:=T.Ef a j f;have C:=T.tJ (a.take (j+1));have D:=T.uX a (j+1);have q1:IntKind.i64.wrap (1+(T.dJ (a.take j):Nat)+(a[j].size:Nat))=1+(T.dJ (a.take (j+1)):Nat):=(by rw[l,iL _ aaF];push_cast;omega);have E:a[j].bE<N:=aar;have F:a[j].bE<=1048576:=aar;have G:=hu.ag g;obtain⟨HB,o⟩:=aab l f;clear l C D B;go_wp2_with fail;refine(q _ _ _ E G F).m ?_;rintro e w2 ⟨rfl,H⟩;go_wp2_with fail;go_roundw;case rel=>exact⟨j+1,o.o,aaw,rfl,d.t (H.m d.size)⟩
     case measure=>exact aax o.o
    ·obtain rfl:j=a.length:=aar;have p:(1+(T.dJ (a.take a.length):Nat):Int)=((T.mk k s a).size:Nat):=(by rw[lD];simp[T.size]);have I:=aa p;clear p;go_wp2_with fail;go_ret;exact⟨gI I.o,c.t (d.m c.size)⟩
theorem Zc:∀(N:Nat) (t:T) (v:Value) (w:World),t.bE<N->aS w v t->t.bE<=1048576->
 Calls Tryz.prog 129 #[v] w λe w'=>e=.returned (.int .i64 t.size)/\Below w.heap.size w w':=by
 intro N;induction N with
 |zero=>intro t v w h;omega
 |succ N r=>
  intro t v w u x y;cases x with
  |mk k s A cap a U J K L M hA hU=>
   simp only[T.bE]at u y;have n:=iQ w (.int .i64 k) (.string s) (.slice A a.length cap) 29;have c:=(aC w.heap.size w).alloc (ax _) (.cells #[.int .i64 k,.string s,.slice A a.length cap] 29);go_enter Tryz.func129,Tryz.ntmps129;go_wp2_with fail;have z:w.heap.size<(w.alloc (.cells #[.int .i64 k,.string s,.slice A a.length cap] 29)).heap.size:=aaE;generalize w.alloc _=o at n c z⊢;have O:T.bJ a<=1048576:=aar;have P:a.length<=1048576:=(aaz (T.lq a));have Q:=T.tJ a;go_loopw [3,9] (λsm i wr=>∃j:Nat,j<=a.length/\i=.int .i64 j/\sm=.int .i64 (1+(T.dJ (a.take j):Nat))/\Below o.heap.size o wr) (λ_ i _=>a.length-(intOf i).toNat);case atStart=>exact⟨0,aT _,rfl,by simp[T.dJ],aC _ _⟩
   case round=>
    obtain⟨j,hj,rfl,rfl,d⟩:=hrel;obtain⟨x0,R,S⟩:=n.ag d;by_cases f:j<a.length
    ·rcases hA with hA|⟨b,off,rfl,B⟩;·omega
     obtain⟨d0,d1,d2⟩:=B j f;have hu:=hU j f;have g:=c.t (d.m c.size);obtain⟨V,W,X⟩:=aak g d0 d1 d2;clear d0 d1 d2;generalize(U j).1=Y at*;generalize(U j).2.1=Z at*;generalize(U j).2.2=u2 at*;obtain⟨rfl,rfl,A',ae,rfl⟩:=hu.view;have ah:(j:Int)<(a.length:Int):=aar;have C:=T.jq a j f;have l:=T.Ef a j f;have D:=T.tJ (a.take (j+1));have E:=T.uX a (j+1);have q1:IntKind.i64.wrap (1+(T.dJ (a.take j):Nat)+(a[j].size:Nat))=1+(T.dJ (a.take (j+1)):Nat):=(by rw[l,iL _ aaF];push_cast;omega);have F:a[j].bE<N:=aar;have G:a[j].bE<=1048576:=aar;have H:=hu.ag g;obtain⟨HB,p⟩:=aab l f;clear l D E C;go_wp2_with fail;refine(r _ _ _ F (H.ag ((aC wr.heap.size wr).alloc (ax _) _)) G).m ?_;rintro e w2 ⟨rfl,m⟩;replace m:=((aC wr.heap.size wr).alloc (ax _) _).t (m.m (by show _<=(wr.heap.push _).size;rw[p9];omega));go_wp2_with fail;go_roundw;case rel=>exact⟨j+1,p.o,aaw,rfl,d.t (m.m d.size)⟩
     case measure=>exact aax p.o
    ·obtain rfl:j=a.length:=aar;have q:(1+(T.dJ (a.take a.length):Nat):Int)=((T.mk k s a).size:Nat):=(by rw[lD];simp[T.size]);have I:=aa q;clear q;go_wp2_with fail;go_ret;exact⟨gI I.o,c.t (d.m c.size)⟩
theorem Oj(b:UInt8):0<=(b.toNat:Int)/\(b.toNat:Int)<=255:=by have:=b.toNat_lt;omega
namespace T
def low(c:UInt8):Bool:=decide (97<=(c.toNat:Int))&&decide ((c.toNat:Int)<=122)
def OT(c:UInt8):Bool:=decide (48<=(c.toNat:Int))&&decide ((c.toNat:Int)<=57)
def zD(l:List UInt8)(k:Nat):Bool:=low (l.getD k 0)||(decide (0<k)&&OT (l.getD k 0))
def zq(l:List UInt8):Bool:=(List.range l.length).all (zD l)
def isName(s:ByteArray):Bool:=zq s.data.toList&&(decide (1<=s.size)&&decide (s.size<=16))
theorem DN{l:List UInt8}{k:Nat}(a:k<l.length)(h:zD l k=false):zq l=false:=by
 rw[iW];intro b;have:=bQ.1 b k (ed.2 a);rw[h]at this;cases this
theorem Kb{l:List UInt8}(h:∀k,k<l.length->zD l k=true):zq l=true:=
 bQ.2 λk a=>h k (ed.1 a)
theorem getD_at(s:ByteArray)(k:Nat)(a:k<s.size):s.data.toList.getD k 0=s[k]:=by
 have h:k<s.data.toList.length:=aaG;simp only[List.getD,az h,gQ];rfl
theorem mq(s:ByteArray):s.data.toList.length=s.size:=by simp
end T
theorem GI(n:Int)(w:World)(h0:0<=n)(c:n<=255)(b:Bool)(hb:(decide (97<=n)&&decide (n<=122))=b):
 Calls Tryz.prog 122 #[.int .u8 n] w λe w'=>e=.returned (.bool b)/\w=w':=by
 have a:(97<=n/\n<=122/\b=true)\/(97<=n/\122<n/\b=false)\/(n<97/\b=false):=by
  subst hb;simp;omega
 clear hb;rcases a with⟨c1,c2,rfl⟩|⟨c1,c2,rfl⟩|⟨c1,rfl⟩;all_goals
  go_enter Tryz.func122,Tryz.ntmps122;go_wp2;go_ret;exact⟨cO aaH,rfl⟩
theorem Vk(n:Int)(w:World)(h0:0<=n)(c:n<=255)(b:Bool)(hb:(decide (48<=n)&&decide (n<=57))=b):
 Calls Tryz.prog 123 #[.int .u8 n] w λe w'=>e=.returned (.bool b)/\w=w':=by
 have a:(48<=n/\n<=57/\b=true)\/(48<=n/\57<n/\b=false)\/(n<48/\b=false):=by
  subst hb;simp;omega
 clear hb;rcases a with⟨c1,c2,rfl⟩|⟨c1,c2,rfl⟩|⟨c1,rfl⟩;all_goals
  go_enter Tryz.func123,Tryz.ntmps123;go_wp2;go_ret;exact⟨cO aaH,rfl⟩
theorem vg(n:Int)(w:World)(h0:0<=n)(c:n<=255)(b:Bool)(hb:(decide (97<=n)&&decide (n<=122))=b):
 Calls Tryz.prog 134 #[.int .u8 n] w λe w'=>e=.returned (.bool b)/\w=w':=by
 have a:(97<=n/\n<=122/\b=true)\/(97<=n/\122<n/\b=false)\/(n<97/\b=false):=by
  subst hb;simp;omega
 clear hb;rcases a with⟨c1,c2,rfl⟩|⟨c1,c2,rfl⟩|⟨c1,rfl⟩;all_goals
  go_enter Tryz.func134,Tryz.ntmps134;go_wp2;go_ret;exact⟨cO aaH,rfl⟩
theorem T.Ng(s:ByteArray)(h:T.zq s.data.toList=true):(1<=(s.size:Int)/\(s.size:Int)<=16/\T.isName s=true)\/(1<=(s.size:Int)/\16<(s.size:Int)/\T.isName s=false)\/((s.size:Int)<1/\T.isName s=false):=by
 unfold T.isName;rw[h];simp;omega
theorem T.Gx(s:ByteArray)(h:T.zq s.data.toList=false):T.isName s=false:=by unfold T.isName;rw[h];rfl
theorem T.Iq(s:ByteArray)(k:Nat)(c:k<s.size):
 (T.low s[k]=true/\T.zD s.data.toList k=true)\/(T.low s[k]=false/\k=0/\T.zD s.data.toList k=false)\/
 (T.low s[k]=false/\((k:Int)==0)=false/\T.OT s[k]=true/\T.zD s.data.toList k=true)\/(T.low s[k]=false/\((k:Int)==0)=false/\T.OT s[k]=false/\T.zD s.data.toList k=false):=by
 have d:=T.getD_at s k c;unfold T.zD;rw[d];rcases bW (T.low s[k])with a|a;·left;rw[a];simp
 ·rcases eF k with h0|h0;·subst h0;right;left;rw[a];simp
  ·have e:((k:Int)==0)=false:=aaI;rcases bW (T.OT s[k])with b|b;·right;right;left;rw[a,b];simp[h0];omega
   ·right;right;right;rw[a,b];simp;omega
theorem abN{p:Prop}(h:p:=by
 rcases T.Ng s e with⟨a,b,c⟩|⟨a,b,c⟩|⟨a,c⟩;all_goals
  have C:=aa c;clear c e;go_wp2_with fail;go_ret;exact⟨cO aaJ,rfl⟩):p:=h
theorem Nu(s:ByteArray)(w:World)(v:s.size<=maxLen):
 Calls Tryz.prog 72 #[.string s] w λe w'=>e=.returned (.bool (T.isName s))/\w=w':=by
 unfold maxLen at v;go_enter Tryz.func72,Tryz.ntmps72;go_wp2_with fail
 go_loop [6] (λi=>∃k:Nat,k<=s.size/\i=.int .i64 k/\∀j,j<k->T.zD s.data.toList j=true) (λi=>s.size-(intOf i).toNat)
 case atStart=>exact⟨0,aT _,rfl,λj hj=>absurd hj aar⟩
 case round=>
  obtain⟨k,p,rfl,q⟩:=hrel;have r:=aa q;clear q;by_cases t:k<s.size
  ·have hb:=Oj s[k];have u:k<s.data.toList.length:=(by simpa using t);have next:T.zD s.data.toList k=true->∀j,j<k+1->T.zD s.data.toList j=true:=λh j hj=>by
    rcases bX j k with g|g;·exact r.o j g
    ·obtain rfl:j=k:=aar;exact h
   have NX:=aa next;clear next
   rcases T.Iq s k t with⟨d,f⟩|⟨d,rfl,f⟩|⟨d,x,n,f⟩|⟨d,x,n,f⟩
   ·obtain⟨l,m⟩:=aab d (NX.o f);clear d f;go_wp2_with (go_at_call 122;refine(GI _ _ hb.1 hb.2 true l.o).m ?_;rintro e w' ⟨rfl,rfl⟩);go_round;case rel=>exact⟨k+1,aar,aaw,m.o⟩
    case measure=>simp[intOf];omega
   ·obtain⟨l,m⟩:=aab d (T.Gx s (T.DN u f));clear d f;go_wp2_with (go_at_call 122;refine(GI _ _ hb.1 hb.2 false l.o).m ?_;rintro e w' ⟨rfl,rfl⟩);go_ret;exact⟨cO m.o.symm,rfl⟩
   ·obtain⟨l,o⟩:=aab d n;have m:=aa (NX.o f);clear d f n;go_wp2_with (first|(go_at_call 122;refine(GI _ _ hb.1 hb.2 false l.o).m ?_;rintro e w' ⟨rfl,rfl⟩)|(go_at_call 123;refine(Vk _ _ hb.1 hb.2 true o.o).m ?_;rintro e w' ⟨rfl,rfl⟩));go_round;case rel=>exact⟨k+1,aar,aaw,m.o⟩
    case measure=>simp[intOf];omega
   ·obtain⟨l,o,m⟩:=aac d n (T.Gx s (T.DN u f));clear d f n;go_wp2_with (first|(go_at_call 122;refine(GI _ _ hb.1 hb.2 false l.o).m ?_;rintro e w' ⟨rfl,rfl⟩)|(go_at_call 123;refine(Vk _ _ hb.1 hb.2 false o.o).m ?_;rintro e w' ⟨rfl,rfl⟩));go_ret;exact⟨cO m.o.symm,rfl⟩
  ·obtain rfl:k=s.size:=aar;have e:T.zq s.data.toList=true:=T.Kb λk p=>r.o k (by simpa using p);exact abN
theorem U1(s:ByteArray)(w:World)(x:s.size<=maxLen):
 Calls Tryz.prog 83 #[.string s] w λe w'=>e=.returned (.bool (T.isName s))/\w=w':=by
 unfold maxLen at x;go_enter Tryz.func83,Tryz.ntmps83;go_wp2_with fail
 go_loop [3] (λi=>∃k:Nat,k<=s.size/\i=.int .i64 k/\∀j,j<k->T.zD s.data.toList j=true) (λi=>s.size-(intOf i).toNat)
 case atStart=>exact⟨0,aT _,rfl,λj hj=>absurd hj aar⟩
 case round=>
  obtain⟨k,q,rfl,r⟩:=hrel;have t:=aa r;clear r;by_cases u:k<s.size
  ·have hb:=Oj s[k];have v:k<s.data.toList.length:=(by simpa using u);have next:T.zD s.data.toList k=true->∀j,j<k+1->T.zD s.data.toList j=true:=λh j hj=>by
    rcases bX j k with g|g;·exact t.o j g
    ·obtain rfl:j=k:=aar;exact h
   have NX:=aa next;clear next
   have p:T.OT s[k]=(decide (48<=(s[k].toNat:Int))&&decide ((s[k].toNat:Int)<=57)):=rfl;rcases T.Iq s k u with⟨d,f⟩|⟨d,rfl,f⟩|⟨d,y,l,f⟩|⟨d,y,l,f⟩
   ·obtain⟨m,n⟩:=aab d (NX.o f);clear d f;go_wp2_with (go_at_call 134;refine(vg _ _ hb.1 hb.2 true m.o).m ?_;rintro e w' ⟨rfl,rfl⟩);go_round;case rel=>exact⟨k+1,aar,aaw,n.o⟩
    case measure=>simp[intOf];omega
   ·obtain⟨m,n⟩:=aab d (T.Gx s (T.DN v f));clear d f;go_wp2_with (go_at_call 134;refine(vg _ _ hb.1 hb.2 false m.o).m ?_;rintro e w' ⟨rfl,rfl⟩);go_ret;exact⟨cO n.o.symm,rfl⟩
   ·have o:48<=(s[k].toNat:Int)/\(s[k].toNat:Int)<=57:=(by rw[p]at l;simpa using l);have A:=o.1;have z:=o.2;obtain⟨m,n⟩:=aab d (NX.o f);clear d f l p o;go_wp2_with (go_at_call 134;refine(vg _ _ hb.1 hb.2 false m.o).m ?_;rintro e w' ⟨rfl,rfl⟩);go_round;case rel=>exact⟨k+1,aar,aaw,n.o⟩
    case measure=>simp[intOf];omega
   ·have o:(s[k].toNat:Int)<48\/(48<=(s[k].toNat:Int)/\57<(s[k].toNat:Int)):=(by rw[p]at l;simp at l;omega);obtain⟨m,n⟩:=aab d (T.Gx s (T.DN v f));clear d f l p;rcases o with o|⟨o,z⟩;all_goals
     go_wp2_with (go_at_call 134;refine(vg _ _ hb.1 hb.2 false m.o).m ?_;rintro e w' ⟨rfl,rfl⟩);go_ret;exact⟨cO n.o.symm,rfl⟩
  ·obtain rfl:k=s.size:=aar;have e:T.zq s.data.toList=true:=T.Kb λk q=>t.o k (by simpa using q);exact abN
namespace T
def less(a b:ByteArray):Bool:=Op.bytesLess a.toList b.toList
mutual
def cmp:T->T->Int
 |.mk k s b,.mk k' a c=>if k<k' then -1 else if k'<k then 1 else if less s a=true then -1 else if (s.toList==a.toList)=false then 1 else iC b c
def iC:List T->List T->Int
 |[],[]=>0
 |[],_::_=>-1
 |_::_,[]=>1
 |a::r,b::c=>if cmp a b=0 then iC r c else cmp a b
end
mutual
theorem mY:∀a b:T,cmp a b= -1\/cmp a b=0\/cmp a b=1
 |.mk k s c,.mk k' e d=>by
  simp only[cmp]
  repeat' split
  all_goals first|simp|exact Fj c d
theorem Fj:∀a b:List T,iC a b= -1\/iC a b=0\/iC a b=1
 |[],[]=>by simp[iC]
 |[],_::_=>by simp[iC]
 |_::_,[]=>by simp[iC]
 |a::r,b::c=>by
  simp only[iC];split;·exact Fj r c
  ·exact mY a b
end
theorem EG:∀(l m:List T) (i:Nat) (h:i<l.length) (h':i<m.length),(∀j (g:j<i),cmp l[j] m[j]=0)->cmp l[i] m[i]≠0->iC l m=cmp l[i] m[i]:=by
 intro l;induction l with
 |nil=>intro m i h;simp at h
 |cons a r e=>
  intro m i h h' d c;cases m with
  |nil=>simp at h'
  |cons b f=>
   cases i with
   |zero=>simp only[dI]at c⊢;simp only[iC];rw[aH c]
   |succ i=>
    have h0:=d 0 aar;simp only[dI]at h0;simp only[iC,fJ]at c⊢;rw[aJ h0];exact e f i aaD (by simpa using h') (λj g=>by have:=d (j+1) aar;simpa using this) c
theorem sU:∀(l m:List T),(∀j (h:j<l.length) (h':j<m.length),cmp l[j] m[j]=0)->iC l m=if l.length<m.length then -1 else if m.length<l.length then 1 else 0:=by
 intro l;induction l with
 |nil=>intro m _;cases m<;>simp[iC]
 |cons a r d=>
  intro m c;cases m with
  |nil=>simp[iC]
  |cons b e=>
   have h0:=c 0 aau aau;simp only[dI]at h0;simp only[iC,bg];rw[aJ h0,d e (λj h h'=>by have:=c (j+1) aaD (by simpa using h');simpa using this)];simp only[Nat.add_lt_add_iff_right]
end T
theorem aS.drew{w:World}{v:Value}{t:T}(h:aS w v t):aS w.drew v t:=h.aR λ_ _=>rfl
theorem aS.cells{w:World}{A:Option Addr}{a:List T}{U:Nat->Value×Value×Value}{i:Nat}(h:i<a.length)
 (hA:a.length=0\/∃b off,A=some ⟨b,off,none⟩/\∀i,i<a.length->w.cell? ⟨b,off+i*3,none⟩=some (U i).1/\w.cell? ⟨b,off+i*3+1,none⟩=some (U i).2.1/\w.cell? ⟨b,off+i*3+2,none⟩=some (U i).2.2)
 (hU:∀i (h:i<a.length),aS w (.agg #[(U i).1,(U i).2.1,(U i).2.2]) a[i]):
 ∃b off A' c,A=some ⟨b,off,none⟩/\w.cell? ⟨b,off+i*3,none⟩=some (.int .i64 a[i].aA)/\w.cell? ⟨b,off+i*3+1,none⟩=some (.string a[i].aI)/\
  w.cell? ⟨b,off+i*3+2,none⟩=some (.slice A' a[i].ay.length c)/\aS w (.agg #[.int .i64 a[i].aA,.string a[i].aI,.slice A' a[i].ay.length c]) a[i]:=by
 rcases hA with hA|⟨b,off,rfl,g⟩;·omega
 ·obtain⟨j,c1,c2⟩:=g i h;have hu:=hU i h;obtain⟨d,e,A',c,f⟩:=hu.view;rw[d,e,f]at hu;exact⟨b,off,A',c,rfl,by rw[j,d],by rw[c1,e],by rw[c2,f],hu⟩
theorem vz(w:World)(a b c a' b' d:Value)(t:TypeId):Jz ((w.alloc (.cells #[a,b,c] t)).alloc (.cells #[a',b',d] t)) w.heap.size a b c/\Jz ((w.alloc (.cells #[a,b,c] t)).alloc (.cells #[a',b',d] t)) (w.heap.size+1) a' b' d/\
 Below w.heap.size w ((w.alloc (.cells #[a,b,c] t)).alloc (.cells #[a',b',d] t)):=by
 have e:(w.alloc (.cells #[a,b,c] t)).heap.size=w.heap.size+1:=(by show(w.heap.push _).size=_;rw[p9]);have f:=iQ (w.alloc (.cells #[a,b,c] t)) a' b' d t;rw[e]at f;exact⟨(iQ w a b c t).ag ((aC _ _).alloc (ax _) _),f,((aC _ _).alloc (ax _) _).alloc (by rw[e];omega) _⟩
theorem abO{p:Prop}(h:p:=by
 go_wp2_with fail;go_ret;exact⟨gI B.o.symm,f.t (r.m f.size)⟩):p:=h
theorem abP{p:Prop}(h:p:=by
 go_wp2_with fail;go_ret;exact⟨rfl,f⟩):p:=h
theorem Zh:∀(N:Nat) (t y:T) (v C:Value) (w:World),t.bE<N->aS w v t->aS w C y->t.bE<=1048576->y.bE<=1048576->
 Calls Tryz.prog 90 #[v,C] w λe w'=>e=.returned (.int .i64 (t.cmp y))/\Below w.heap.size w w':=by
 intro N;induction N with
 |zero=>intro t y v C w h;omega
 |succ N ih=>
  intro t y v C w hN ht az aB aD;cases ht with
  |mk k s A cap a U h1 h2 h3 h4 hA hU=>
  cases az with
  |mk k' q O P d U' bf bg bi bn aF aG=>
   simp only[T.bE]at hN aB aD;have bq:a.length<=1048576:=(aaz (T.lq a));have bu:d.length<=1048576:=(aaz (T.lq d));have l:(T.mk k s a).cmp (.mk k' q d)=if k<k' then -1 else if k'<k then 1 else if T.less s q=true then -1 else if (s.toList==q.toList)=false then 1 else T.iC a d:=rfl
   obtain⟨R,Q⟩:=aay ((T.mk k s a).cmp (.mk k' q d));rw[Q]at l⊢;clear Q;obtain⟨S,V,f⟩:=vz w (.int .i64 k) (.string s) (.slice A a.length cap) (.int .i64 k') (.string q) (.slice O d.length P) 29;go_enter Tryz.func90,Tryz.ntmps90;go_upto_region 1 with fail;generalize(w.alloc (.cells #[.int .i64 k,.string s,.slice A a.length cap] 29)).alloc (.cells #[.int .i64 k',.string q,.slice O d.length P] 29)=W at S V f⊢;obtain⟨x0,x1,x2⟩:=S;obtain⟨y0,y1,y2⟩:=V;by_cases n:k<k'
   ·rw[aJ n]at l;subst l;exact abP
   rw[aH n]at l;by_cases o:k'<k
   ·rw[aJ o]at l;subst l;exact abP
   rw[aH o]at l;rcases bW (T.less s q)with x|x
   ·rw[aJ x]at l;subst l;unfold T.less at x;exact abP
   rw[aH (by rw[x];decide)]at l;rcases bW (s.toList==q.toList)with D|D;rotate_left
   ·rw[aJ D]at l;subst l;unfold T.less at x;exact abP
   rw[aH (by rw[D];decide)]at l;unfold T.less at x;subst l;go_wp2_with fail;clear n o x D;go_loopw [5] (λi wr=>∃j:Nat,j<=a.length/\j<=d.length/\i=.int .i64 j/\(∀m (h:m<j) (h1:m<a.length) (h2:m<d.length),T.cmp a[m] d[m]=0)/\Below W.heap.size W wr) (λi _=>a.length-(intOf i).toNat);case atStart=>exact⟨0,aT _,aT _,rfl,λm h=>absurd h aar,aC _ _⟩
   case round=>
    obtain⟨j,hj,bv,rfl,X,r⟩:=hrel;have E:=aa X;clear X;obtain⟨z2,v2⟩:=aaj r x2 y2;by_cases z:j<a.length
    ·by_cases F:j<d.length
     ·have u:=f.t (r.m f.size);obtain⟨b,off,B1,C1,rfl,d0,d1,d2,hu⟩:=aS.cells z hA hU;obtain⟨b',bz,aK,aL,rfl,Y,Z,ae,ah⟩:=aS.cells F aF aG;obtain⟨e0,e1,e2,aM,aN,aO⟩:=aan u d0 d1 d2 Y Z ae;clear d0 d1 d2 Y Z ae;have hi:(j:Int)<(a.length:Int):=aar;have aP:(j:Int)<(d.length:Int):=aar;have aQ:a[j].bE<N:=(aaz (T.jq a j z));have aR:a[j].bE<=1048576:=(aaz (T.jq a j z));have aU:d[j].bE<=1048576:=(aaz (T.jq d j F));obtain⟨HU,ak,av,aV⟩:=aad (hu.ag u) (ah.ag u) z F;have aW:=T.mY a[j] d[j];have ax:=λhn=>T.EG a d j z F (λm g=>E.o m g aar aar) hn;have aX:=aa ax;clear ax hu ah;have hc:=ih a[j] d[j] (.agg #[.int .i64 a[j].aA,.string a[j].aI,.slice B1 a[j].ay.length C1]) (.agg #[.int .i64 d[j].aA,.string d[j].aI,.slice aK d[j].ay.length aL]);have HC:=aa hc;clear hc;obtain⟨c,I⟩:=aay (T.cmp a[j] d[j]);rw[I]at aW;have G:=aa I;clear I;go_wp2_with fail;have J:=r.drew;have K:=aS.drew HU.o;have L:=aS.drew ak.o;go_still_tail 10,aas;change wpList _ _ _ _ _ wr.drew;generalize wr.drew=wq at J K L⊢;obtain⟨aY,aZ⟩:=aab K L;clear K L HU ak e0 e1 e2 aM aN aO z2 v2 r;go_wp2_with fail;refine(HC.o _ aQ aY.o aZ.o aR aU).m ?_;rintro e w2 ⟨rfl,H⟩;rw[G.o];replace H:=J.t (H.m J.size);by_cases M:c=0
      ·subst M;go_wp2_with fail;go_roundw
       case rel=>
        refine⟨j+1,av.o,aV.o,aaw,λm h n o=>?_,H⟩;rcases bX m j with g|g;·exact E.o m g n o
        ·obtain rfl:m=j:=aar;exact G.o
       case measure=>exact aax av.o
      ·have bA:(c != 0)=true:=(by rw[jg];exact M);have HR:=aa (aX.o (λh=>M (G.o.symm.t h)));go_wp2_with fail;go_ret;exact⟨gI (G.o.symm.t HR.o.symm),f.t (H.m f.size)⟩
     ·have hi:(j:Int)<(a.length:Int):=aar;have aP:(d.length:Int)<=(j:Int):=aar;have p:T.iC a d=1:=(by rw[T.sU a d (λm n o=>E.o m aar n o),aH aar,aJ aaF]);have B:=aa p;clear p;have q1:(d.length:Int)<(a.length:Int):=aar;exact abO
    ·have hi:(a.length:Int)<=(j:Int):=aar;have p:=T.sU a d (λm n o=>E.o m aar n o);by_cases n:a.length<d.length
     ·rw[aJ n]at p;have B:=aa p;clear p;have q1:(a.length:Int)<(d.length:Int):=aar;exact abO
     ·rw[aH n,aH aaF]at p;have B:=aa p;clear p;have q1:(d.length:Int)<=(a.length:Int):=aar;have q2:(a.length:Int)<=(d.length:Int):=aar;exact abO
end
end Go.Proofs.YtaciciokmpbkkaaGreatDoor
