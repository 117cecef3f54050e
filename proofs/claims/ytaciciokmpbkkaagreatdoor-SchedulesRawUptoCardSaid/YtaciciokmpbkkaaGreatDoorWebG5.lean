import Derived.Test.YtaciciokmpbkkaaGreatDoorWebG4
set_option maxRecDepth 100000
set_option maxHeartbeats 16000000
namespace Go.Proofs.YtaciciokmpbkkaaGreatDoor
section
namespace T
def D8:List UInt8->Prop
 |[]=>True
 |c::_=>c=44\/c=41\/c=62
theorem D8.stop{b:List UInt8}(h:D8 b):Stop b:=by
 cases b with
 |nil=>trivial
 |cons c r=>rcases h with rfl|rfl|rfl<;>exact⟨by decide,by decide⟩
theorem yM(a q b:List UInt8)(d:UInt8):now (a++q++b) (a.length+q.length) d=(b.head?==some d):=by
 unfold now;rw[bD (by simp),aF,qQ];cases b<;>rfl
theorem D8.now{b:List UInt8}(h:D8 b)(a q:List UInt8):T.now (a++q++b) (a.length+q.length) 40=false:=by
 rw[yM];cases b with
 |nil=>rfl
 |cons c r=>rcases h with rfl|rfl|rfl<;>rfl
theorem Jq{l:List UInt8}{k:Int}{c:UInt8}{r:Option (Except Nat (List T×Nat))}{a:List T}{j:Nat}(h:r=some (.ok (a,j)))(b:sZ l [c] j=.ok (j+1)):
 close l k c r=some (.ok (.mk k ⟨#[]⟩ a,j+1)):=by
 subst h;simp only[close,b]
theorem OL{q:List UInt8}(h:zh q=true)(a:1<=q.length):∃c r,q=c::r/\low c=true:=by
 cases q with
 |nil=>simp at a
 |cons c r=>
  have:=cz.1 h 0 (dU.2 (by simp));refine⟨c,r,rfl,?_⟩;simpa[zt]using this
theorem XQ{c:UInt8}(h:low c=true):(c==60)=false/\(c==63)=false:=by
 constructor<;>
 ·rw[aB];rintro rfl;revert h;decide
theorem MN(a q b:List UInt8)(h:zh q=true)(d:1<=q.length):now (a++q++b) a.length 60=false/\now (a++q++b) a.length 63=false:=by
 obtain⟨c,r,rfl,e⟩:=OL h d;rw[dA,iT,Bg,Bg];exact XQ e
theorem GH{s:ByteArray}(h:s.toList.isEmpty=true):s=⟨#[]⟩:=Gw (by rw[List.isEmpty_iff.1 h,fV])
theorem Ow(k:Int)(b:List T)(h:il k b=true)(j:¬(k=1\/k=2))(l:k≠3):
 zh (ko k)=true/\1<=(ko k).length/\(ko k).length<=16/\vO (strOf (ko k))=k/\k≠0/\b≠[]/\(yD (strOf (ko k))=0\/0+b.length=yD (strOf (ko k))):=by
 have c:∀n,b.length=n+1->b≠[]:=λn h e=>(by rw[e]at h;simp at h);unfold il at h;by_cases i:k=5
 ·subst i;have a:b.length=2:=(by simpa using h);exact⟨by kernel_rfl,by decide,by decide,by kernel_rfl,by decide,c 1 a,.inr (by rw[a];kernel_rfl)⟩
 by_cases d:k=6
 ·subst d;have a:b.length=2:=(by simp at h;exact h.1);exact⟨by kernel_rfl,by decide,by decide,by kernel_rfl,by decide,c 1 a,.inr (by rw[a];kernel_rfl)⟩
 by_cases f:k=4
 ·subst f;have a:b.length=1:=(by simpa using h);exact⟨by kernel_rfl,by decide,by decide,by kernel_rfl,by decide,c 0 a,.inr (by rw[a];kernel_rfl)⟩
 by_cases g:k=7
 ·subst g;have a:1<=b.length:=by
   rw[aG (by decide),aG (by decide),aG (by decide),aI rfl]at h;simp only[ai,bW]at h;exact h.1.1
  exact⟨by kernel_rfl,by decide,by decide,by kernel_rfl,by decide,(λe=>by rw[e]at a;simp at a),.inl (by kernel_rfl)⟩
 rw[aG (by omega),aG d,aG f,aG g]at h;cases h
theorem U4:∀t:T,t.shape=true->1<=t.gL.length
 |.mk k s b=>λh=>by
  simp only[shape]at h;simp only[gL];by_cases a:k=1
  ·rw[aI (.inl a),ai]at h;have:=h.1;unfold isName at this;simp only[ai,bW]at this;rw[aI a,mo];exact this.2.1
  ·rw[aG a];split;·simp
   ·split;·(first|(simp;done)|(simp;omega))
    ·(first|(simp;done)|(simp;omega))
theorem Et:∀f,
  (∀t a b,t.shape=true->D8 b->2*t.gL.length<=f->oP (a++t.gL++b) f a.length=some (.ok (t,a.length+t.gL.length)))/\
  (∀d n c a b,d≠[]->dW d=true->D8 b->b.head?≠some 44->(n=0\/c+d.length=n)->2*(eX d).length+1<=f->
    lq (a++eX d++b) f n c a.length=some (.ok (d,a.length+(eX d).length)))
 |0=>⟨λt a b h _ l=>by have:=U4 t h;omega,λd n c a b _ _ _ _ _ l=>by omega⟩
 |f+1=>by
  obtain⟨K,B⟩:=Et f;refine⟨λt a b o hb l=>?_,λd n c a b V o hb L g l=>?_⟩
  ·obtain⟨k,s,d⟩:=t;simp only[shape]at o;simp only[gL]at l⊢;by_cases w:k=1\/k=2
   ·rw[aI w,ai]at o;obtain⟨C,D⟩:=o;have D:d=[]:=(by simpa using D);subst D;unfold isName at C;simp only[ai,bW]at C;obtain⟨E,A,F⟩:=C;have M:strOf s.data.toList=s:=(by simp[strOf]);rw[<-mo]at A F;rcases w with rfl|rfl
    ·rw[aI rfl];obtain⟨p,x⟩:=MN a s.data.toList b E A;have u:=zT a s.data.toList b E F hb.stop;simp only[oP];rw[aG (by rw[p];decide),aG (by rw[x];decide),u,aG (by omega),zV,aI (.inr (hb.now a _)),M]
    ·rw[aG (by decide),aI rfl];have e:a++(63::s.data.toList)++b=(a++[63])++s.data.toList++b:=(by simp);have u:=zT (a++[63]) s.data.toList b E F hb.stop;have y:=zV (a++[63]) s.data.toList b;have p:now (a++(63::s.data.toList)++b) a.length 60=false:=(by rw[dA,iT,Bg];decide);have x:now (a++(63::s.data.toList)++b) a.length 63=true:=(by rw[dA,iT,Bg];decide);simp only[aF,bu,fA]at u y;rw[<-e]at u y;simp only[oP];rw[aG (by rw[p];decide),aI x,u,aG (by omega),y,M];simp only[bu];congr 3;omega
   ·rw[aG w,ai,ai]at o;obtain⟨⟨N,W⟩,O⟩:=o;have X:=GH W;subst X;have A:¬k=1:=λe=>w (.inl e);have z:¬k=2:=λe=>w (.inr e);rw[aG A,aG z]at l⊢;by_cases G:k=3
    ·subst G;rw[aI rfl]at l⊢;have P:d.length=2:=(by simpa[il]using N);have Y:d≠[]:=λe=>(by rw[e]at P;simp at P);have e:a++([60]++eX d++[62])++b=(a++[60])++eX d++(62::b):=(by simp);have p:now (a++([60]++eX d++[62])++b) a.length 60=true:=by
      rw[show a++([60]++eX d++[62])++b=a++60::(eX d++[62]++b) by simp,Bg];decide
     have v:=B d 2 0 (a++[60]) (62::b) Y O (.inr (.inr rfl)) (by simp) (.inr (by omega)) (by simp at l;omega);have m:=Dl [62] (a++[60]++eX d) b;have H:a++[60]++eX d++[62]++b=a++([60]++eX d++[62])++b:=(by simp);rw[H]at m;rw[<-e]at v;simp only[aF,bu,fA]at v m;simp only[oP];rw[aI p,Jq v m];simp only[aF,bu,fA];congr 3;omega
    ·rw[aG G]at l⊢;obtain⟨Q,Z,g3,R,g5,g6,g7⟩:=Ow k d N w G;have e1:a++(ko k++[40]++eX d++[41])++b=a++ko k++(40::(eX d++[41]++b)):=(by simp);have I:a++(ko k++[40]++eX d++[41])++b=(a++ko k++[40])++eX d++(41::b):=(by simp);obtain⟨p,x⟩:=MN a (ko k) (40::(eX d++[41]++b)) Q Z;have u:=zT a (ko k) (40::(eX d++[41]++b)) Q g3 ⟨by decide,by decide⟩;have y:=zV a (ko k) (40::(eX d++[41]++b));have S:now (a++ko k++(40::(eX d++[41]++b))) (a.length+(ko k).length) 40=true:=(by rw[yM];simp);have v:=B d (yD (strOf (ko k))) 0 (a++ko k++[40]) (41::b) g6 O (.inr (.inl rfl)) (by simp) g7 (by simp at l;omega);have m:=Dl [41] (a++ko k++[40]++eX d) b;have H:a++ko k++[40]++eX d++[41]++b=a++(ko k++[40]++eX d++[41])++b:=(by simp);rw[H]at m;rw[<-I]at v;rw[<-e1]at p x u y S;simp only[aF,bu,fA]at v m;simp only[oP];rw[aG (by rw[p];decide),aG (by rw[x];decide),u,aG (by omega),y,aG (by rw[R,S];simp[g5]),R,Jq v m];simp only[aF,bu,fA];congr 3;omega
  ·cases d with
   |nil=>exact absurd rfl V
   |cons t r=>
    simp only[dW,ai]at o;simp only[eX]at l⊢;cases r with
    |nil=>
     simp only[jf,dS]at l⊢;have h:=K t a b o.1 hb (by omega);simp only[lq];rw[h];have J:(0<n/\c+1=n)\/(n=0/\now (a++t.gL++b) (a.length+t.gL.length) 44=false):=by
      rcases g with g|g
      ·refine .inr ⟨g,?_⟩;rw[yM,aB];exact L
      ·simp at g;exact .inl ⟨by omega,g⟩
     simp only[aI J]
    |cons i j=>
     have e:a++(t.gL++jf (i::j))++b=a++t.gL++(44::32::(eX (i::j)++b)):=(by simp[jf,eX]);have I:a++(t.gL++jf (i::j))++b=(a++t.gL)++[44,32]++(eX (i::j)++b):=(by simp[jf,eX]);have e3:a++(t.gL++jf (i::j))++b=(a++t.gL++[44,32])++eX (i::j)++b:=(by simp[jf,eX]);have T:(jf (i::j)).length=2+(eX (i::j)).length:=(by simp[jf,eX];omega);rw[aF,T]at l;have h:=K t a (44::32::(eX (i::j)++b)) o.1 (.inl rfl) (by omega);have z:=B (i::j) n (c+1) (a++t.gL++[44,32]) b (by simp) o.2 hb L (by rcases g with g|g;exact .inl g;exact .inr (by simp at g⊢;omega)) (by omega);have m:=Dl [44,32] (a++t.gL) (eX (i::j)++b);have U:now (a++t.gL++(44::32::(eX (i::j)++b))) (a.length+t.gL.length) 44=true:=(by rw[yM];simp);rw[<-e]at h U;rw[<-I]at m;rw[<-e3]at z;simp only[aF,bu,fA]at z m;simp only[lq];rw[h];have J:¬((0<n/\c+1=n)\/(n=0/\now (a++(t.gL++jf (i::j))++b) (a.length+t.gL.length) 44=false)):=by
      rintro(⟨q1,q2⟩|⟨_,q⟩)
      ·rcases g with g|g;·omega
       ·simp at g;omega
      ·rw[U]at q;cases q
     simp only[aG J];rw[m];simp only[];rw[z];simp only[more,aF,T];congr 3;omega
end T
namespace T
theorem mi(l:List T):dW l=true<->∀t∈l,t.shape=true:=by
 induction l with
 |nil=>simp[dW]
 |cons t r a=>simp[dW,a]
theorem yF(f:T->T)(a:∀t,(f t).atom=t.atom)(k:Int)(l:List T):il k (l.map f)=il k l:=by
 have b:((l.map f)[0]?).map atom=(l[0]?).map atom:=(by cases l<;>simp[a]);have c:(l.map f).any (λt=>!t.atom)=l.any (λt=>!t.atom):=by
  rw[List.any_map];congr 1;funext t;simp[a]
 unfold il;rw[b,c,df]
theorem zO{l m:List T}(h:l.Perm m):il 7 l=il 7 m:=by
 have e:l.any (λt=>!t.atom)=m.any (λt=>!t.atom):=by
  rw[jY,eU,eU];exact⟨λ⟨t,a,b⟩=>⟨t,h.mem_iff.1 a,b⟩,λ⟨t,a,b⟩=>⟨t,h.mem_iff.2 a,b⟩⟩
 unfold il;rw[e,h.length_eq];simp
theorem Ed(t:T):t.fK.atom=t.atom:=by cases t;rfl
theorem Qx(t:T):t.turn.atom=t.atom:=by cases t;rfl
theorem Az:∀l:List T,qf l=l.map turn
 |[]=>rfl
 |t::r=>by simp only[qf,gP,Az r]
theorem DL{l m:List T}(h:l.Perm m):dK l=dK m:=by
 induction h with
 |nil=>rfl
 |cons x _ a=>simp only[dK,a]
 |swap x y l=>simp only[dK];omega
 |trans _ _ b c=>exact b.t c
theorem Kb{l m:List T}(h:l.Perm m):bE l=bE m:=by
 induction h with
 |nil=>rfl
 |cons x _ a=>simp only[bE,a]
 |swap x y l=>simp only[bE];omega
 |trans _ _ b c=>exact b.t c
mutual
theorem Bl:∀t:T,t.fK.size=t.size
 |.mk k s a=>by
  simp only[fK,size];split;·rw[DL (kX _),yT a]
  ·rw[yT a]
theorem yT:∀l:List T,dK (gJ l)=dK l
 |[]=>rfl
 |t::r=>by simp only[gJ,dK,Bl t,yT r]
end
mutual
theorem R8:∀t:T,t.turn.size=t.size
 |.mk k s a=>by
  simp only[turn,size];split;·rw[DL (om _)]
  ·rw[DR a]
theorem DR:∀l:List T,dK (qf l)=dK l
 |[]=>rfl
 |t::r=>by simp only[qf,dK,R8 t,DR r]
end
mutual
theorem QG:∀t:T,t.turn.bC=t.bC
 |.mk k s a=>by
  simp only[turn,bC];split;·rw[Kb (om _)]
  ·rw[CW a]
theorem CW:∀l:List T,bE (qf l)=bE l
 |[]=>rfl
 |t::r=>by simp only[qf,bE,QG t,CW r]
end
mutual
theorem Cw:∀t:T,t.shape=true->t.fK.shape=true
 |.mk k s c=>λh=>by
  simp only[shape]at h;simp only[fK,shape];by_cases d:k=1\/k=2
  ·rw[aI d]at h⊢;have a:¬k=7:=(by omega);rw[aG a];rw[iF,df];exact h
  ·rw[aG d]at h⊢;simp only[ai]at h⊢;obtain⟨⟨g,e⟩,i⟩:=h;have b:=BR c i;have f:il k (gJ c)=true:=(by rw[iF,yF fK Ed];exact g);by_cases a:k=7
   ·subst a;rw[aI rfl];refine⟨⟨by rw[zO (kX _)];exact f,e⟩,?_⟩;rw[mi]at b⊢;exact λt j=>b t ((kX _).mem_iff.1 j)
   ·rw[aG a];exact⟨⟨f,e⟩,b⟩
theorem BR:∀l:List T,dW l=true->dW (gJ l)=true
 |[]=>λ_=>rfl
 |t::r=>λh=>by
  simp only[dW,gJ,ai]at h⊢;exact⟨Cw t h.1,BR r h.2⟩
end
mutual
theorem Pb:∀t:T,t.shape=true->t.turn.shape=true
 |.mk k s f=>λh=>by
  simp only[shape]at h;simp only[turn,shape];by_cases c:k=1\/k=2
  ·rw[aI c]at h⊢;have a:¬k=7:=(by omega);rw[aG a];rw[Az,df];exact h
  ·rw[aG c]at h⊢;simp only[ai]at h⊢;obtain⟨⟨d,e⟩,b⟩:=h;by_cases a:k=7
   ·subst a;rw[aI rfl];refine⟨⟨by rw[zO (om _)];exact d,e⟩,?_⟩;rw[mi]at b⊢;exact λt g=>b t (List.mem_reverse.1 g)
   ·rw[aG a];refine⟨⟨by rw[Az,yF turn Qx];exact d,e⟩,BS f b⟩
theorem BS:∀l:List T,dW l=true->dW (qf l)=true
 |[]=>λ_=>rfl
 |t::r=>λh=>by
  simp only[dW,qf,ai]at h⊢;exact⟨Pb t h.1,BS r h.2⟩
end
theorem Cx(t:T)(h:t.fe=true):t.fK.fe=true:=by
 unfold fe at*;rw[ai]at*;exact⟨by rw[Bl];exact h.1,Cw t h.2⟩
end T
namespace T
theorem key_inj{t b:T}(h:t.fe=true)(h':b.fe=true)(e:t.key=b.key):t=b:=by
 unfold key at e;rw[aI h,aI h']at e;have c:t.gL=b.gL:=(by rw[<-tH t.gL,e,tH]);have f:t.shape=true:=(aP.1 h).2;have g:b.shape=true:=(aP.1 h').2;have d:=(Et (2*t.gL.length)).1 t [] [] f trivial (ak _);have a:=(Et (2*t.gL.length)).1 b [] [] g trivial (by rw[c];exact ak _);rw[c]at d a;rw[d]at a;injection a with a;injection a with a;exact(zF a).1
def DU:List T->List (List T)
 |[]=>[[]]
 |a::r=>DU r++(DU r).map (a::·)
theorem Hq:∀{l m:List T},l.Sublist m->l∈DU m
 |_,_,.slnil=>by simp[DU]
 |_,_,.cons a h=>by simp only[DU];exact gQ _ (Hq h)
 |_,_,.cons_cons a h=>by simp only[DU];exact jA _ (dB.2 ⟨_,Hq h,rfl⟩)
theorem Aj:∀{m l:List T},l∈DU m->l.Sublist m
 |[],l,h=>by simp[DU]at h;subst h;exact List.Sublist.slnil
 |a::r,l,h=>by
  simp only[DU]at h;rcases aU.1 h with h|h;·exact(Aj h).cons a
  ·obtain⟨l',h',rfl⟩:=dB.1 h;exact(Aj h').cons_cons a
theorem II:∀m:List T,(DU m).length=2 ^ m.length
 |[]=>rfl
 |a::r=>by simp only[DU,aF,df,II r,bu,yo];omega
mutual
def subs:T->List T
 |.mk k s a=>.mk k s a::(iY a++if k=7 then ((DU a).filter λl=>!l.isEmpty).map (T.mk 7 ⟨#[]⟩) else [])
def iY:List T->List T
 |[]=>[]
 |t::r=>subs t++iY r
end
theorem ug{l:List T}{x:T}:x∈iY l<->∃t∈l,x∈subs t:=by
 induction l with
 |nil=>simp[iY]
 |cons a r d=>simp only[iY,aU,d,bL];constructor
              ·rintro(h|⟨t,c,b⟩);·exact⟨a,.inl rfl,h⟩
               ·exact⟨t,.inr c,b⟩
              ·rintro⟨t,rfl|c,b⟩;·exact .inl b
               ·exact .inr ⟨t,c,b⟩
theorem Bo(t:T):t∈subs t:=by cases t;simp[subs]
theorem PQ{t:T}{i:Nat}(h:i<t.ay.length):t.eQ i∈t.ay:=by
 unfold eQ;rw[dC,aH h];exact aN h
end T
structure yA (U:List T):Prop where
 eQ:∀t∈U,∀i,i<t.ay.length->t.eQ i∈U
 less:∀t∈U,t.aC=7->1<t.ay.length->∀i,i<t.ay.length->t.iI i∈U
 ok:∀t∈U,t.fe=true
 size:U.length<=1048576
mutual
theorem Ar:∀(t x:T),x∈T.subs t->(∀i,i<x.ay.length->x.eQ i∈T.subs t)/\(x.aC=7->1<x.ay.length->∀i,i<x.ay.length->x.iI i∈T.subs t)
 |.mk k s c,x,h=>by
  have f:∀y∈c,y∈T.subs (.mk k s c):=λy hy=>by
   simp only[T.subs];exact bq _ (gQ _ (T.ug.2 ⟨y,hy,T.Bo y⟩))
  have g:∀l:List T,k=7->l.Sublist c->l≠[]->T.mk 7 ⟨#[]⟩ l∈T.subs (.mk k s c):=λl a d m=>by
   simp only[T.subs];rw[aI a];exact bq _ (jA _ (dB.2 ⟨l,fB.2 ⟨T.Hq d,by cases l<;>simp at m⊢⟩,rfl⟩))
  have j:∀l:List T,1<l.length->∀i,i<l.length->l.eraseIdx i≠[]:=λl b i hi e=>by
   have:=bY List.length e;rw[jU hi]at this;simp at this;omega
  have h':=h;simp only[T.subs]at h';rcases bL.1 h' with rfl|h'
  ·refine⟨λi hi=>f _ (T.PQ hi),λa b i hi=>?_⟩;exact g _ a (og _ _) (j _ b i hi)
  ·rcases aU.1 h' with h'|h'
   ·have:=mY c x h';simp only[T.subs];exact⟨λi hi=>bq _ (gQ _ (this.1 i hi)),λa b i hi=>bq _ (gQ _ (this.2 a b i hi))⟩
   ·split at h'
    ·rename_i a;obtain⟨l,n,rfl⟩:=dB.1 h';obtain⟨b,p⟩:=fB.1 n;have d:=T.Aj b;refine⟨λi hi=>f _ (d.subset (T.PQ hi)),λ_ o i hi=>?_⟩;exact g _ a ((og _ _).t d) (j _ o i hi)
    ·cases h'
theorem mY:∀(l:List T) (x:T),x∈T.iY l->(∀i,i<x.ay.length->x.eQ i∈T.iY l)/\(x.aC=7->1<x.ay.length->∀i,i<x.ay.length->x.iI i∈T.iY l)
 |[],x,h=>by simp[T.iY]at h
 |t::r,x,h=>by
  simp only[T.iY]at h⊢;rcases aU.1 h with h|h
  ·have:=Ar t x h;exact⟨λi hi=>gQ _ (this.1 i hi),λa b i hi=>gQ _ (this.2 a b i hi)⟩
  ·have:=mY r x h;exact⟨λi hi=>jA _ (this.1 i hi),λa b i hi=>jA _ (this.2 a b i hi)⟩
end
namespace T
theorem Ns{l m:List T}(h:l.Sublist m):dK l<=dK m:=by
 induction h with
 |slnil=>exact ak _
 |cons a _ b=>simp only[dK];omega
 |cons_cons a _ b=>simp only[dK];omega
theorem oU{t:T}(h:t.shape=true):(t.aC=1\/t.aC=2)/\t.ay.length=0\/(t.aC=3\/t.aC=5\/t.aC=6)/\t.ay.length=2\/t.aC=4/\t.ay.length=1\/t.aC=7/\1<=t.ay.length/\t.ay.length<=4:=by
 obtain⟨k,s,g⟩:=t;simp only[shape]at h;split at h
 ·rename_i d;rw[ai,eY]at h;exact .inl ⟨d,h.2⟩
 ·rename_i d;rw[ai,ai]at h;have a:=h.1.1;unfold il at a;simp only[aC,ay];by_cases e:k=3\/k=5
  ·rw[aI e,eY]at a;exact .inr (.inl ⟨by omega,a⟩)
  ·rw[aG e]at a;by_cases f:k=6
   ·rw[aI f,ai,eY]at a;exact .inr (.inl ⟨by omega,a.1⟩)
   ·rw[aG f]at a;by_cases b:k=4
    ·rw[aI b,eY]at a;exact .inr (.inr (.inl ⟨b,a⟩))
    ·rw[aG b]at a;by_cases c:k=7
     ·rw[aI c,ai,ai,bW,bW]at a;exact .inr (.inr (.inr ⟨c,a.1.1,a.1.2⟩))
     ·rw[aG c]at a;cases a
theorem R7{k:Int}{s:ByteArray}{d l:List T}(h:(T.mk k s d).shape=true)(g:k=7)(a:l.Sublist d)(i:l≠[]):(T.mk 7 ⟨#[]⟩ l).shape=true:=by
 subst g;have j:=a.length_le;have m:=List.length_pos_iff.2 i;simp only[shape]at h⊢;rw[aG (by decide),ai,ai]at h;rw[aG (by decide),ai,ai];obtain⟨⟨b,_⟩,e⟩:=h;unfold il at b⊢;rw[aG (by decide),aG (by decide),aG (by decide),aI rfl,ai,ai,bW,bW]at b;rw[aG (by decide),aG (by decide),aG (by decide),aI rfl,ai,ai,bW,bW];refine⟨⟨⟨⟨by omega,by omega⟩,?_⟩,by kernel_rfl⟩,?_⟩
 ·have f:=b.2;rw[bZ,fQ]at f⊢;exact λx c=>f x (a.subset c)
 ·rw[mi]at e⊢;exact λx c=>e x (a.subset c)
mutual
theorem tK:∀(t:T),t.shape=true->∀x∈subs t,x.shape=true/\x.size<=t.size
 |.mk k s b,h,x,a=>by
  simp only[subs]at a;rcases bL.1 a with rfl|a;·exact⟨h,ak _⟩
  ·have d:dW b=true:=by
    have h':=h;simp only[shape]at h';split at h'
    ·rw[ai,eY]at h';rw[bQ h'.2];rfl
    ·rw[ai]at h';exact h'.2
   rcases aU.1 a with a|a
   ·have:=BV b d x a;exact⟨this.1,by simp only[size];omega⟩
   ·split at a
    ·rename_i e;obtain⟨l,f,rfl⟩:=dB.1 a;obtain⟨g,i⟩:=fB.1 f;have c:=Aj g;have:=Ns c;exact⟨R7 h e c (by rintro rfl;simp at i),by simp only[size];omega⟩
    ·cases a
theorem BV:∀(l:List T),dW l=true->∀x∈iY l,x.shape=true/\x.size<=dK l
 |[],_,x,a=>by simp[iY]at a
 |t::r,h,x,a=>by
  simp only[dW,ai]at h;simp only[iY]at a;rcases aU.1 a with a|a
  ·have:=tK t h.1 x a;exact⟨this.1,by simp only[dK];omega⟩
  ·have:=BV r h.2 x a;exact⟨this.1,by simp only[dK];omega⟩
end
mutual
theorem UZ:∀(t:T),t.shape=true->(subs t).length<=17*t.size
 |.mk k s a,h=>by
  have b:=oU h;have c:dW a=true:=by
   have h':=h;simp only[shape]at h';split at h'
   ·rw[ai,eY]at h';rw[bQ h'.2];rfl
   ·rw[ai]at h';exact h'.2
  have d:=Aq a c;simp only[subs,size,bu,aF];simp only[aC,ay]at b;split
  ·rename_i e;have f:(((DU a).filter λl=>!l.isEmpty).map (T.mk 7 ⟨#[]⟩)).length<=16:=by
    rw[df];refine aD (fP _ _) ?_;rw[II];exact aD (oD (by decide) (show a.length<=4 by omega)) (by decide)
   omega
  ·simp only[fA];omega
theorem Aq:∀(l:List T),dW l=true->(iY l).length<=17*dK l
 |[],_=>by simp[iY,dK]
 |t::r,h=>by
  simp only[dW,ai]at h;have a:=UZ t h.1;have b:=Aq r h.2;simp only[iY,dK,aF];omega
end
end T
theorem Fx(l:List T)(h:∀t∈l,t.size<=40):T.dK l<=40*l.length:=by
 induction l with
 |nil=>simp[T.dK]
 |cons a r b=>
  have:=b λt c=>h t (bq _ c);have:=h a (by simp);simp only[T.dK,bu];omega
theorem Yi{a:List T}(d:∀t∈a,t.fe=true)(k:a.length<=1000):yA (T.iY a):=by
 have f:T.dW a=true:=(T.mi a).2 λt b=>(aP.1 (d t b)).2;refine⟨λt b i hi=>(mY a t b).1 i hi,λt b g c i hi=>(mY a t b).2 g c i hi,λx h=>?_,?_⟩
 ·obtain⟨t,b,j⟩:=T.ug.1 h;have c:=aP.1 (d t b);have e:=T.tK t c.2 x j;have l:=ax c.1;unfold T.fe;rw[ai];exact⟨aQ (by omega),e.1⟩
 ·have c:=T.Aq a f;have e:=Fx a λt b=>ax (aP.1 (d t b)).1;omega
theorem xY{α:Type}[DecidableEq α]:∀{l m:List α},l.Nodup->(∀x∈l,x∈m)->l.length<=m.length
 |[],_,_,_=>aL _
 |a::r,m,d,h=>by
  have b:=h a (by simp);obtain⟨f,g⟩:=List.nodup_cons.1 d;have:=xY (l:=r) (m:=m.erase a) g λx c=>by
   have i:x≠a:=λe=>f (by rw[<-e];exact c);exact(List.mem_erase_of_ne i).2 (h x (bq _ c))
  rw[List.length_erase_of_mem b]at this;have:=List.length_pos_of_mem b;simp only[bu];omega
structure Inv (U:List T) (W:List fC):Prop where
 apart:(W.map λs=>s.t.key).Nodup
 mem:∀s∈W,s.t∈U
theorem Inv.nil(U:List T):Inv U []:=⟨zz,λs h=>by cases h⟩
theorem Inv.len{U:List T}{W:List fC}(h:Inv U W):W.length<=U.length:=by
 have:=xY (l:=W.map λs=>s.t.key) (m:=U.map T.key) h.apart λx a=>by
  obtain⟨s,b,rfl⟩:=dB.1 a;exact dB.2 ⟨_,h.mem s b,rfl⟩
 rwa [df,df]at this
theorem GN{W:List fC}{k:ByteArray}(h:jk W k=none):∀s∈W,s.t.key≠k:=λs a e=>by
 unfold jk at h;rw[wE]at h;have:=h s a;rw[mX]at this;exact this e
theorem QW{W:List fC}{k:ByteArray}{i:Nat}(h:jk W k=some i):∃hi:i<W.length,W[i].t.key=k:=by
 unfold jk at h;rw[jP]at h;obtain⟨hi,a,_⟩:=h;exact⟨hi,ax a⟩
theorem Inv.push{U:List T}{W:List fC}(h:Inv U W)(s:fC)(d:s.t∈U)(e:jk W s.t.key=none):Inv U (W++[s]):=by
 refine⟨?_,λx c=>?_⟩
 ·rw[fZ];refine List.nodup_append.2 ⟨h.apart,by simp,λa f b hb=>?_⟩;simp only[gP,nA,aX]at hb;obtain⟨x,c,rfl⟩:=dB.1 f;rw[hb];exact GN e x c
 ·rcases aU.1 c with c|c;·exact h.mem x c
  ·rw[aX]at c;rw[c];exact d
theorem Ky(W:List fC)(i:Nat):(Wb.mark W i).map (λs=>s.t.key)=W.map λs=>s.t.key:=by
 apply sI;·rw[df,df,ll]
 ·intro j c b;rw[gz,gz];have a:j<W.length:=(by simpa using b);rw[(yH W i j (by rw[ll];exact a) a).1]
theorem Inv.mark{U:List T}{W:List fC}(h:Inv U W)(i:Nat):Inv U (Wb.mark W i):=by
 refine⟨by rw[Ky];exact h.apart,λx b=>?_⟩;obtain⟨j,hj,rfl⟩:=bI b;have a:j<W.length:=(by rwa [ll]at hj);rw[(yH W i j hj a).1];exact h.mem _ (aN a)
namespace Wb
theorem ry{W:List fC}{t:T}{how:Nat}{jv:List Nat}{i:Nat}(h:find W t=some i):add W t how jv=(W,i):=by unfold add;rw[h]
theorem rq{W:List fC}{t:T}{how:Nat}{jv:List Nat}(h:find W t=none):add W t how jv=(W++[⟨t,how,jv,false⟩],W.length):=by unfold add;rw[h]
theorem AO{U:List T}{W:List fC}{t:T}(how:Nat)(jv:List Nat)(h:Inv U W)(b:t∈U):Inv U (add W t how jv).1:=by
 cases a:find W t with
 |some i=>rw[ry a];exact h
 |none=>rw[rq a];exact h.push _ b a
theorem ru(W:List fC)(t:T)(how:Nat)(jv:List Nat):W <+:(add W t how jv).1/\(add W t how jv).2<(add W t how jv).1.length:=by
 cases a:find W t with
 |some i=>rw[ry a];exact⟨lu _,GM a⟩
 |none=>rw[rq a];exact⟨List.prefix_append _ _,by simp⟩
theorem rR{U:List T}{W:List fC}{t:T}(how:Nat)(jv:List Nat)(h:Inv U W)(a:t∈U):Inv U (take W t how jv).1:=by
 unfold take;split;·exact AO how jv h a
 ·exact(AO how jv h a).mark _
theorem take_len(W:List fC)(t:T)(how:Nat)(jv:List Nat):W.length<=(take W t how jv).1.length:=by
 have:=(ru W t how jv).1.length_le;unfold take;split;·exact this
 ·rw[ll];exact this
def Bt(U:List T)(rec:List fC->T->List fC×Option Nat)(t:T):Prop:=∀W,Inv U W->Inv U (rec W t).1/\W <+:(rec W t).1/\∀i,(rec W t).2=some i->i<(rec W t).1.length
theorem Eg{U:List T}{rec:List fC->T->List fC×Option Nat}{t:T}(how:Nat)(k:t∈U)(h0:Bt U rec (t.eQ 0))(l:Bt U rec (t.eQ 1)):Bt U (λW t=>both rec W t how) t:=λW m=>by
 obtain⟨e,c,n⟩:=h0 W m;obtain⟨f,g,b3⟩:=l _ e;cases d:(rec W (t.eQ 0)).2 with
 |none=>
  simp only[both,d];exact⟨e,c,λi h=>by cases h⟩
 |some a=>
  cases hb:(rec (rec W (t.eQ 0)).1 (t.eQ 1)).2 with
  |none=>
   simp only[both,d,hb];exact⟨f,c.t g,λi h=>by cases h⟩
  |some b=>
   simp only[both,d,hb];have j:=ru (rec (rec W (t.eQ 0)).1 (t.eQ 1)).1 t how [a,b];exact⟨AO _ _ f k,(c.t g).t j.1,λi h=>by injection h with h;rw[<-h];exact j.2⟩
theorem M8{U:List T}{rec:List fC->T->List fC×Option Nat}{t:T}(b:t∈U)(d:∀i,i<t.ay.length->1<t.ay.length->Bt U rec (t.iI i)):∀(f i:Nat),f+i=t.ay.length->Bt U (λW _=>pow rec t f i W) t
 |0,i,_,W,a=>⟨a,lu _,λj h=>by cases h⟩
 |f+1,i,o,W,a=>by
  have e:=M8 b d f (i+1) (by omega);simp only[pow];split;·exact e W a
  ·rename_i nm q;split
   ·have c:=ru W t 11 [nm];exact⟨AO _ _ a b,c.1,λj h=>by injection h with h;rw[<-h];exact c.2⟩
   ·rename_i r;obtain⟨g,k,s⟩:=d i (by omega) (by omega) W a;split
    ·obtain⟨m,n,b3⟩:=e _ g;exact⟨m,k.t n,b3⟩
    ·rename_i p c;have l:=ru (rec W (t.iI i)).1 t 10 [p,nm];exact⟨AO _ _ g b,k.t l.1,λj h=>by injection h with h;rw[<-h];exact l.2⟩
theorem lH{U:List T}(hU:yA U):∀(n:Nat) (t:T),t∈U->Bt U (build n) t
 |0,t,_,W,a=>⟨a,lu _,λj h=>by cases h⟩
 |n+1,t,b,W,a=>by
  have l:=T.oU (aP.1 (hU.ok t b)).2;have c:∀i,i<t.ay.length->Bt U (build n) (t.eQ i):=λi hi=>lH hU n _ (hU.eQ t b i hi);simp only[build];split
  ·rename_i i hi;exact⟨a,lu _,λj h=>by injection h with h;rw[<-h];exact GM hi⟩
  ·split
   ·rename_i o;obtain⟨d,e,p⟩:=c 0 (by omega) W a;split;·exact⟨d,e,λi h=>by cases h⟩
    ·rename_i m q;have f:=ru (build n W (t.eQ 0)).1 t 7 [m];exact⟨AO _ _ d b,e.t f.1,λi h=>by injection h with h;rw[<-h];exact f.2⟩
   ·split;·exact Eg 6 b (c 0 (by omega)) (c 1 (by omega)) W a
    ·split;·exact Eg 8 b (c 0 (by omega)) (c 1 (by omega)) W a
     ·split;·exact Eg 9 b (c 0 (by omega)) (c 1 (by omega)) W a
      ·split
       ·rename_i g;exact M8 b (λi hi k=>lH hU n _ (hU.less t b g k i hi)) t.ay.length 0 rfl W a
       ·exact⟨a,lu _,λj h=>by cases h⟩
end Wb
end
section
open Go.RowKit Go.Maps
variable {X:Nat->Bool}
theorem Src.news(w:World)(cs:List Value)(e:TypeId)(size:Nat)(h:cs.length=size):Src (w.alloc (.cells cs.toArray e)) size (some ⟨w.heap.size,0,none⟩) 1 cs:=by
 refine⟨by omega,.inr ⟨_,0,rfl,λj u hu=>?_⟩⟩;rw[dJ];have e:=bO w (.cells cs.toArray e);unfold World.cell?;rw[e];simpa using hu
theorem Tryz.YN:(Tryz.prog.info? 197).map (λi=>(i.zero,i.size,i.bytes))=some (some (.agg #[.int .i64 0,.string ByteArray.empty,.slice none 0 0,.int .i64 0,.slice none 0 0]),5,80):=by kernel_rfl
theorem Tryz.XJ:(Tryz.prog.info? 4).map (λi=>(i.zero,i.size,i.bytes))=some (some (.bool false),1,1):=by kernel_rfl
theorem Yk(n:Nat)(h:n<=1048576):(Lit.int .i64 (n:Int)).wf=true:=WalkArith.wf_i64 (by omega)
theorem RH{P:Prop}{A':Option Addr}{n c:Nat}{row:Option Nat}{z:Nat}(h:A'.map (·.block)=row\/A'.map (·.block)=some z)(_:P):(Value.slice A' n c).ownBlock=row\/(Value.slice A' n c).ownBlock=some z:=by
 cases A'<;>exact h
theorem gD.told{B g M:Nat}{vs vp:Value}{W:List fC}{w:World}(h:gD X B w g M vs vp W)(K:ByteArray)(e:K.size<=3145728):∃D n w5,y9 D W/\Maps.IsMap D/\n<=W.length/\Sem.run Tryz.prog (Instr.mapUpdate 91 (.map (some M)) (.string K) (.int .i64 (W.length:Int))) w=.ok () w5/\
 w5.ownsMap Tryz.prog 9 (plainElem (H:=Unit) Tryz.prog 3) M (n+1) (D.put (kl K) (.lit (.int .i64 (W.length:Int))))/\w.mapTurned w5 M:=by
 obtain⟨D,n,d,f,i⟩:=h.map;have j:=h.size;obtain⟨w5,a,b,c⟩:=d.store Hm oq (by unfold maxLen;omega) (PO K e) (plainElem_int (H:=Unit) fU (Yk W.length j));exact⟨D,n,w5,i,d.isMap,f,a,b,c⟩
theorem tZ{w w':World}{M:Nat}{p:Addr}{v:Value}(a:w.mapTurned w' M)(h:w.cell? p=some v):w'.cell? p=some v:=by
 refine a.grown.cell h (λe=>?_);obtain⟨b,k,_,_,hb,_⟩:=a;injection e with e;unfold World.cell? at h;rw[e,hb]at h;cases h
theorem sO{w:World}{g:Nat}{a b c:Value}{e:TypeId}(h:w.heap[g]?=some (.cells #[a,b,c] e (0,0))):w.cell? ⟨g,0,none⟩=some a/\w.cell? ⟨g,1,none⟩=some b/\w.cell? ⟨g,2,none⟩=some c/\w.frozen? ⟨g,0,none⟩=false/\w.frozen? ⟨g,2,none⟩=false:=by
 refine⟨?_,?_,?_,?_,?_⟩<;>simp[World.cell?,World.frozen?,h]
theorem AR{w w8:World}{g:Nat}{o a:Obj}{row:Option Nat}(h:w.heap[g]?=some o)(c:row≠some g)(d:(w.drew.alloc a).grownBy w8 row):w8.heap[g]?=some o:=by
 have b:=(aZ.1 h).1;rw[d.block g (by rw[aK];exact Nat.lt_succ_of_lt b) (λe=>c e.symm),fF w.drew a g b];exact h
def Zk(B g n:Nat)(xs cs:List Value)(w6:World)(row:Option Nat)(W':World):Prop:=∃a c b,W'=b.setCell ⟨g,0,none⟩ (.slice (some ⟨a,0,none⟩) (n+1) c)/\b.ownsRow B 197 5 (.slice (some ⟨a,0,none⟩) (n+1) c) (n+1) (xs++cs)/\w6.grownBy b row/\(row=some a\/a=w6.heap.size)
theorem mJ.after{B g M:Nat}{vs vp vs' mK:Value}{w w1 w':World}{W':List fC}(h:Fr X B g M vs vp w vs' mK w1)(h':mJ X B g M w1 vs' mK W' w'):mJ X B g M w vs vp W' w':=by
 obtain⟨a,b,c,d⟩:=h';exact⟨a,b,c,h.t d⟩
theorem Ob{w w8:World}{g:Nat}{o:Obj}{row:Option Nat}(h:w.heap[g]?=some o)(a:row≠some g)(b:w.grownBy w8 row):w8.heap[g]?=some o:=
 (b.block g (aZ.1 h).1 (λe=>a e.symm)).t h
theorem VW{B g M:Nat}{vs vp:Value}{W:List fC}(t:T)(v:Value)(w:World)(how:Nat)(jv:List Nat)(F:Option Addr)(j:Nat)(h:gD X B w g M vs vp W)(ht:bN (nr X g M vs vp) w v t)(aI:t.bC<=1048576)
 (hF:lG (nr X g M vs vp) w F jv) (aL:jk W t.key=none->W.length<1048576):
 Calls Tryz.prog 210 #[.pointer (some ⟨g,0,none⟩),v,.int .i64 (how:Int),.slice F jv.length j] w λe w'=>e=.returned (.int .i64 ((Wb.add W t how jv).2:Int))/\mJ X B g M w vs vp (Wb.add W t how jv).1 w':=by
 obtain⟨c,d,rfl⟩:=ht.view;obtain⟨o,c1,A,c2,rfl,rfl⟩:=h.shapes;obtain⟨aN,U⟩:=ZQ ((λ(W':World) (bM:aO W' (.agg #[.int .i64 t.aC,.string t.aJ,.slice c t.ay.length d]) t)=>(show Calls Tryz.prog 95 #[.agg #[.int .i64 t.aC,.string t.aJ,.slice c t.ay.length d]] W' λe w'=>e=.returned (.string t.key)/\Below W'.heap.size W' w' from Dr t _ W' bM aI))) ((λ(W':World) (hW:gD X B W' g M (.slice o W.length c1) (.slice A W.length c2) W) (hT:aO W' (.agg #[.int .i64 t.aC,.string t.aJ,.slice c t.ay.length d]) t)=>Qc t _ W' hW hT aI));have V:=af w (.cells #[.int .i64 t.aC,.string t.aJ,.slice c t.ay.length d] 29);have E:=jM.new w (.int .i64 t.aC) (.string t.aJ) (.slice c t.ay.length d);have hz:=h.lt.2;obtain⟨N,P,ax,Y⟩:=ZT (h.ag V) (ht.aR (λb hb l=>⟨hb,V.block b l⟩)) (hF.aR (λb hb l=>⟨hb,V.block b l⟩)) (((Fr.refl (X:=X) B g M (.slice o W.length c1) (.slice A W.length c2) w).ag hz V));have dU:=h.size;clear h ht hF V;cases G:jk W t.key with
 |some i=>
  rw[Wb.ry G];rw[G]at U;clear aL G;show Calls _ _ _ _ (λe w'=>e=.returned (.int .i64 (i:Int))/\mJ X B g M w (.slice o W.length c1) (.slice A W.length c2) W w');generalize t.aC=k at*;go_enter Tryz.func210,Tryz.ntmps210;go_upto_region 1 with fail;generalize w.alloc (.cells #[.int .i64 k,.string t.aJ,.slice c t.ay.length d] 29)=w1 at E N P ax Y⊢;obtain⟨x0,Z,x2⟩:=E.cells;clear E;go_wp2_with fail;refine(U.o _ N.o P.o.at).m ?_;rintro e w2 ⟨he,q⟩;have aP:e=.returned (.int .i64 (i:Int)):=he;clear he;subst aP;have hi:(0:Int)<=(i:Int):=(by omega);have HE:=aa (show mJ X B g M w (.slice o W.length c1) (.slice A W.length c2) W w2 from⟨_,_,N.o.ag q,Y.o.ag hz q⟩);clear q x0 Z x2;go_wp2_with fail;go_ret;exact⟨rfl,HE.o⟩
 |none=>
  rw[Wb.rq G];rw[G]at U;have bP:=aL G;have HK:=aa G;clear aL G;show Calls _ _ _ _ (λe w'=>e=.returned (.int .i64 (W.length:Int))/\mJ X B g M w (.slice o W.length c1) (.slice A W.length c2) (W++[⟨t,how,jv,false⟩]) w');obtain⟨i0,aQ,aS,aT,aU⟩:=dV Tryz.YN;obtain⟨i1,bQ,bR,bS,bU⟩:=dV Tryz.XJ;obtain⟨KY,az⟩:∃KY,t.key=KY:=⟨_,rfl⟩;have bW:=aa az;have bY:=aa (show KY.size<=3145728 by rw[<-az];exact t.Ha aI);rw[az]at aN;clear az;obtain⟨k,hk⟩:∃k,t.aC=k:=⟨_,rfl⟩;obtain⟨nm,aV⟩:∃nm,t.aJ=nm:=⟨_,rfl⟩;obtain⟨kn,aW⟩:∃kn,t.ay.length=kn:=⟨_,rfl⟩;have HV:=aa (show t.aC=k/\t.aJ=nm/\t.ay.length=kn from⟨hk,aV,aW⟩);rw[hk,aV,aW]at E aN U N P ax Y⊢;clear hk aV aW;go_enter Tryz.func210,Tryz.ntmps210;go_upto_region 1 with fail;generalize w.alloc (.cells #[.int .i64 k,.string nm,.slice c kn d] 29)=w1 at E N P ax Y⊢;have BX:=aa E;obtain⟨x0,Z,x2⟩:=E.cells;clear E;go_wp2_with fail;refine(U.o _ N.o P.o.at).m ?_;rintro e w2 ⟨he,q⟩;have aP:e=.returned (.int .i64 (-1)):=he;clear he;subst aP;obtain⟨bZ,bn,bq,cu,cz⟩:=ZU (BX.o.ag q) (N.o.ag q) (P.o.aR (λb hb l=>⟨hb,q.block b l⟩)) (ax.o.aR (λb hb l=>⟨hb,q.block b l⟩)) (Y.o.ag hz q);clear q x0 Z x2;go_upto_region 4 with fail;obtain⟨x0,Z,x2⟩:=bZ.o.cells;obtain⟨d0,d1,d2,_,_⟩:=bn.o.cells;refine bX (S:=(λWq=>Wq.cell? ⟨g,1,none⟩=some (.map (some M))/\Wq.cell? ⟨g,0,none⟩=some (.slice o W.length c1)/\Wq.cell? ⟨w.heap.size,0,none⟩=some (.int .i64 k)/\Wq.cell? ⟨w.heap.size,1,none⟩=some (.string nm)/\Wq.cell? ⟨w.heap.size,2,none⟩=some (.slice c kn d))) (by kernel_rfl) (show _/\_/\_/\_/\_ from⟨d1,d0,x0,Z,x2⟩) (λhHeld=>?_);refine cB 0 _ ?_;refine cB 1 _ ?_;refine cB 2 _ ?_;refine cB 3 _ ?_;refine cB 4 _ ?_;refine cB 6 _ ?_;refine cB 7 _ ?_;refine cB 8 _ ?_;refine cB 9 _ ?_;refine cB 10 _ ?_;(refine ve 5 λK a=>?_;go_simp;go_at_call 95;refine(aN.o _ bq.o.at.drew).m ?_;rintro e w4 ⟨rfl,Q⟩;have aA:=jW Q;have O:=aa (bn.o.ag aA);obtain⟨D,n,r,bu,bv,bz,dW,bA,m⟩:=O.o.told KY bY.o;refine mH a (⟨ae Q hHeld.1,ae Q hHeld.2.1,ae Q hHeld.2.2.1,ae Q hHeld.2.2.2.1,ae Q hHeld.2.2.2.2⟩) λhHeld=>?_;clear a K);(refine ve 11 λK a=>?_;go_simp;go_simp;refine mH a (⟨tZ m hHeld.1,tZ m hHeld.2.1,tZ m hHeld.2.2.1,tZ m hHeld.2.2.2.1,tZ m hHeld.2.2.2.2⟩) λhHeld=>?_;clear a K);refine dR (by kernel_rfl) ?_ _;have I:=O.o.apart;obtain⟨dG,bB,bD⟩:=O.o.steps;have cK:=aa bB;have ai:=aa (show r.heap[g]?=_ from(m.grown.block g I.g (λe=>I.gm (by injection e))).t O.o.box);have cZ:=aa (oN bD λb e _=>m.grown.block b (I.s b e).2.1 (λx=>(I.s b e).2.2.2.1 (by injection x)));have df:=aa (oN O.o.part λb e _=>m.grown.block b (I.p b e).2.1 (λx=>(I.p b e).2.2.2.1 (by injection x)));obtain⟨dh,dm,dw,dx,dA,aY⟩:=ZV m bA bu bv bz I;have dB:=aa (show qj (nr X g M (.slice o W.length c1) (.slice A W.length c2)) w4 [.int .i64 k,.string nm,.slice c kn d,.int .i64 (how:Int),.slice F jv.length j] ⟨t,how,jv,false⟩from by
   obtain⟨v1,v2,v3⟩:=HV.o;refine⟨c,d,F,j,by rw[v1,v2,v3],?_,cu.o.aR (λb hb l=>⟨hb,aA.block b l⟩)⟩;rw[v1,v2,v3];exact bq.o.aR (λb hb l=>⟨hb,aA.block b l⟩))
  have dC:B<=r.heap.size:=aD O.o.lt.2 m.grown.size;have bf:=ai.o;have y0:r.cell? ⟨g,0,none⟩=some (.slice o W.length c1):=(by unfold World.cell?;rw[bf];rfl);have y2:r.cell? ⟨g,2,none⟩=some (.slice A W.length c2):=(by unfold World.cell?;rw[bf];rfl);have bg:=aa (show ∀u∈[Value.int .i64 k,.string nm,.slice c kn d,.int .i64 (how:Int),.slice F jv.length j],u.oneCell'=true from λu hu=>by
   simp at hu;rcases hu with rfl|rfl|rfl|rfl|rfl<;>rfl)
  clear bB bD m bA bu bv bz I bf d0 d1 d2 y0;obtain⟨_,y0,b0,b1,b2⟩:=hHeld;obtain⟨o5,bE⟩:∃o5,o5=Obj.cells #[.int .i64 k,.string nm,.slice c kn d,.int .i64 (how:Int),.slice F jv.length j] 197 (0,0):=⟨_,rfl⟩;have bi:=aa (cZ.o.drew.alloc (.cells #[.int .i64 k,.string nm,.slice c kn d,.int .i64 (how:Int),.slice F jv.length j] 197));have ak:B<=(r.drew.alloc (.cells #[.int .i64 k,.string nm,.slice c kn d,.int .i64 (how:Int),.slice F jv.length j] 197)).heap.size:=(by rw[aK];exact oo dC);have aB:=aa (show(Value.slice o W.length c1).ownBlock≠some g from λe=>(aY.o.s g e).2.2.1 rfl);have dD:=ae (af r (.cells #[.int .i64 k,.string nm,.slice c kn d,.int .i64 (how:Int),.slice F jv.length j] 197)) y0;have dX:=aa bE;clear y2 bE;go_upto_region 5 with fail;go_cut []from 27 to 40 (λW'=>Zk B g W.length dG.flatten [.int .i64 k,.string nm,.slice c kn d,.int .i64 (how:Int),.slice F jv.length j] (r.drew.alloc (.cells #[.int .i64 k,.string nm,.slice c kn d,.int .i64 (how:Int),.slice F jv.length j] 197)) (Value.slice o W.length c1).ownBlock W')
  case first=>
   refine pV (by kernel_rfl) ?_;(try(change wpAny _ _ _ _ _ _ _ (World.drew _)));(refine eH (i:=0) (v:=?_) (by simp only[au,ah];rfl) (by kernel_rfl) (by kernel_rfl) (by kernel_rfl) (by exact λ_ _ _ h=>h) (Or.inl ⟨by rfl,?_⟩) ?_;rotate_left 1;· (intro w;go_simp;(try with_reducible rfl)));(refine eH (i:=1) (v:=?_) (by simp only[au,aj,ah];rfl) (by kernel_rfl) (by kernel_rfl) (by kernel_rfl) (by exact λ_ _ _ h=>h) (Or.inl ⟨by rfl,?_⟩) ?_;rotate_left 1;· (intro w;go_simp;(try with_reducible rfl)));(refine eH (i:=2) (v:=?_) (by simp only[au,aj,ah];rfl) (by kernel_rfl) (by kernel_rfl) (by kernel_rfl) (by exact λ_ _ _ h=>h) (Or.inl ⟨by rfl,?_⟩) ?_;rotate_left 1;· (intro w;go_simp;(try with_reducible rfl)));(refine eH (i:=3) (v:=?_) (by simp only[au,aj,ah];rfl) (by kernel_rfl) (by kernel_rfl) (by kernel_rfl) (by exact λ_ _ _ h=>h) (Or.inl ⟨by rfl,?_⟩) ?_;rotate_left 1;· (intro w;go_simp;(try with_reducible rfl)));(refine eH (i:=6) (v:=?_) (by simp only[au,aj,ah];rfl) (by kernel_rfl) (by kernel_rfl) (by kernel_rfl) (by exact λ_ _ _ h=>h) (Or.inl ⟨by rfl,?_⟩) ?_;rotate_left 1;· (intro w;go_simp;(try with_reducible rfl)));(refine eH (i:=7) (v:=?_) (by simp only[au,aj,ah];rfl) (by kernel_rfl) (by kernel_rfl) (by kernel_rfl) (by exact λ_ _ _ h=>h) (Or.inl ⟨by rfl,?_⟩) ?_;rotate_left 1;· (intro w;go_simp;(try with_reducible rfl)));refine cO (rs:=[4,5]) (by kernel_rfl) (by simp) ?_;refine bF (by simp only[au,aj,ah];rfl) (λK a=>?_) ?_
   ·go_simp;(first|(refine a _ _ ?_;clear a K)|skip);refine cO (rs:=[5]) (by kernel_rfl) (by simp) ?_;refine bF (by simp only[au,aj,ah];rfl) (λK a=>?_) ?_
    ·go_simp;(first|(refine a _ _ ?_;clear a K)|skip);(refine eH (i:=8) (v:=?_) (by simp only[au,aj,ah];rfl) (by kernel_rfl) (by kernel_rfl) (by kernel_rfl) (by exact λ_ _ _ h=>h) (Or.inl ⟨by rfl,?_⟩) ?_;rotate_left 1;· (intro w;go_simp;(try with_reducible rfl)));refine cO (rs:=[9]) (by kernel_rfl) (by simp) ?_;refine bF (by simp only[au,aj,ah];rfl) (λK a=>?_) ?_
     ·go_simp;(first|(refine a _ _ ?_;clear a K)|skip);refine cO (rs:=[10]) (by kernel_rfl) (by simp) ?_;refine bF (by simp only[au,aj,ah];rfl) (λK a=>?_) ?_
      ·(refine dZ _ (by rfl) _ _ _ (by rfl) B 197 i0 _ 5 80 vH aQ aS aT aU rfl (by omega) _ _ _ (by rfl) bi.o ⟨_,0,none⟩ 1 1 _ (by rfl) (by rfl) (di (bO _ _)) bg.o (by omega) (by unfold maxLen;omega) (by omega) ak _ rfl ?_;intro y z C J f L bG;have b8:=AR ai.o aB.o f;obtain⟨bH,_,_,bI,_⟩:=sO b8;go_simp);(first|(refine a _ _ ?_;clear a K)|skip);(refine eH (i:=11) (v:=?_) (by simp only[au,aj,ah];rfl) (by kernel_rfl) (by kernel_rfl) (by kernel_rfl) (by exact λ_ _ _ h=>h) (Or.inl ⟨by rfl,?_⟩) ?_;rotate_left 1;· (intro w;go_simp;(try with_reducible rfl)));(refine eH (i:=12) (v:=?_) (by simp only[au,aj,ah];rfl) (by kernel_rfl) (by kernel_rfl) (by kernel_rfl) (by exact λ_ _ _ h=>h) (Or.inl ⟨by rfl,?_⟩) ?_;rotate_left 1;· (intro w;go_simp;(try with_reducible rfl)));refine cO (rs:=[13]) (by kernel_rfl) (by simp) ?_;refine bF (by simp only[au,aj,ah];rfl) (λK a=>?_) ?_
       ·go_simp;(first|(refine a _ _ ?_;clear a K)|skip);refine lg (by kernel_rfl) ?_ _;go_wp2_with fail;go_meet;exact⟨y,z,C,rfl,J,f,L⟩
       exact bV
      exact bV
     exact bV
    exact bV
   refine bF (by simp only[au,aj,ah];rfl) (λK a=>?_) ?_
   ·go_simp;(first|(refine a _ _ ?_;clear a K)|skip);(refine eH (i:=8) (v:=?_) (by simp only[au,aj,ah];rfl) (by kernel_rfl) (by kernel_rfl) (by kernel_rfl) (by exact λ_ _ _ h=>h) (Or.inl ⟨by rfl,?_⟩) ?_;rotate_left 1;· (intro w;go_simp;(try with_reducible rfl)));refine cO (rs:=[4,9]) (by kernel_rfl) (by simp) ?_;refine bF (by simp only[au,aj,ah];rfl) (λK a=>?_) ?_
    ·go_simp;(first|(refine a _ _ ?_;clear a K)|skip);refine cO (rs:=[9]) (by kernel_rfl) (by simp) ?_;refine bF (by simp only[au,aj,ah];rfl) (λK a=>?_) ?_
     ·go_simp;(first|(refine a _ _ ?_;clear a K)|skip);refine cO (rs:=[10]) (by kernel_rfl) (by simp) ?_;refine bF (by simp only[au,aj,ah];rfl) (λK a=>?_) ?_
      ·(refine dZ _ (by rfl) _ _ _ (by rfl) B 197 i0 _ 5 80 vH aQ aS aT aU rfl (by omega) _ _ _ (by rfl) bi.o ⟨_,0,none⟩ 1 1 _ (by rfl) (by rfl) (di (bO _ _)) bg.o (by omega) (by unfold maxLen;omega) (by omega) ak _ rfl ?_;intro y z C J f L bG;have b8:=AR ai.o aB.o f;obtain⟨bH,_,_,bI,_⟩:=sO b8;go_simp);(first|(refine a _ _ ?_;clear a K)|skip);(refine eH (i:=11) (v:=?_) (by simp only[au,aj,ah];rfl) (by kernel_rfl) (by kernel_rfl) (by kernel_rfl) (by exact λ_ _ _ h=>h) (Or.inl ⟨by rfl,?_⟩) ?_;rotate_left 1;· (intro w;go_simp;(try with_reducible rfl)));(refine eH (i:=12) (v:=?_) (by simp only[au,aj,ah];rfl) (by kernel_rfl) (by kernel_rfl) (by kernel_rfl) (by exact λ_ _ _ h=>h) (Or.inl ⟨by rfl,?_⟩) ?_;rotate_left 1;· (intro w;go_simp;(try with_reducible rfl)));refine cO (rs:=[13]) (by kernel_rfl) (by simp) ?_;refine bF (by simp only[au,aj,ah];rfl) (λK a=>?_) ?_
       ·go_simp;(first|(refine a _ _ ?_;clear a K)|skip);refine lg (by kernel_rfl) ?_ _;go_wp2_with fail;go_meet;exact⟨y,z,C,rfl,J,f,L⟩
       exact bV
      exact bV
     exact bV
    refine bF (by simp only[au,aj,ah];rfl) (λK a=>?_) ?_
    ·go_simp;(first|(refine a _ _ ?_;clear a K)|skip);refine cO (rs:=[4]) (by kernel_rfl) (by simp) ?_;refine bF (by simp only[au,aj,ah];rfl) (λK a=>?_) ?_
     ·go_simp;(first|(refine a _ _ ?_;clear a K)|skip);refine cO (rs:=[10]) (by kernel_rfl) (by simp) ?_;refine bF (by simp only[au,aj,ah];rfl) (λK a=>?_) ?_
      ·(refine dZ _ (by rfl) _ _ _ (by rfl) B 197 i0 _ 5 80 vH aQ aS aT aU rfl (by omega) _ _ _ (by rfl) bi.o ⟨_,0,none⟩ 1 1 _ (by rfl) (by rfl) (di (bO _ _)) bg.o (by omega) (by unfold maxLen;omega) (by omega) ak _ rfl ?_;intro y z C J f L bG;have b8:=AR ai.o aB.o f;obtain⟨bH,_,_,bI,_⟩:=sO b8;go_simp);(first|(refine a _ _ ?_;clear a K)|skip);(refine eH (i:=11) (v:=?_) (by simp only[au,aj,ah];rfl) (by kernel_rfl) (by kernel_rfl) (by kernel_rfl) (by exact λ_ _ _ h=>h) (Or.inl ⟨by rfl,?_⟩) ?_;rotate_left 1;· (intro w;go_simp;(try with_reducible rfl)));(refine eH (i:=12) (v:=?_) (by simp only[au,aj,ah];rfl) (by kernel_rfl) (by kernel_rfl) (by kernel_rfl) (by exact λ_ _ _ h=>h) (Or.inl ⟨by rfl,?_⟩) ?_;rotate_left 1;· (intro w;go_simp;(try with_reducible rfl)));refine cO (rs:=[13]) (by kernel_rfl) (by simp) ?_;refine bF (by simp only[au,aj,ah];rfl) (λK a=>?_) ?_
       ·go_simp;(first|(refine a _ _ ?_;clear a K)|skip);refine lg (by kernel_rfl) ?_ _;go_wp2_with fail;go_meet;exact⟨y,z,C,rfl,J,f,L⟩
       exact bV
      exact bV
     exact bV
    exact bV
   exact bV
  case rest=>
   obtain⟨y,z,C,rfl,J,f,L⟩:=hcut;have b8:=AR ai.o aB.o f;have b9:=(uS b8 (.slice (some ⟨y,0,none⟩) (W.length+1) z)).1;have R:=(af r.drew (.cells #[.int .i64 k,.string nm,.slice c kn d,.int .i64 (how:Int),.slice F jv.length j] 197));have dE:B<=(C.setCell ⟨g,0,none⟩ (.slice (some ⟨y,0,none⟩) (W.length+1) z)).heap.size:=(by rw[rO];exact aD ak f.size);have dF:=aa (show(C.setCell ⟨g,0,none⟩ (.slice (some ⟨y,0,none⟩) (W.length+1) z)).ownsRow B 4 1 (.slice A W.length c2) W.length (W.map λs=>Value.bool s.part)from oN df.o λb e hb=>by
    obtain⟨_,_,a3,_,a5⟩:=aY.o.p b e;rw[aM _ _ _ _ a3,f.block b (by rw[aK];exact Nat.lt_succ_of_lt hb) (λx=>a5 x.symm),fF r.drew _ b hb];rfl)
   have dH:=aa (show r.ownsMap Tryz.prog 9 (plainElem (H:=Unit) Tryz.prog 3) M (n+1) (D.put (kl t.key) (.lit (.int .i64 (W.length:Int))))from by rw[bW.o];exact dm.o);have dI:=aa (λmK w9 kP dJ aF av aG=>gD.X7 (t:=t) (how:=how) (jv:=jv) (mK:=mK) (w9:=w9) (kP:=kP) O.o cK.o dw.o dx.o dA.o dh.o dH.o dB.o HK.o bP ⟨R.os,R.tape,R.output,R.size,R.block⟩ J f (L.elim (λe=>.inl e.symm) (λe=>.inr (by rw[e];rfl))) dJ aF av aG);obtain⟨dK,bJ⟩:=ZQ (show(Value.slice A W.length c2).ownBlock≠some g from λe=>(aY.o.p g e).2.2.1 rfl) b9;clear b8 J f L R y0 dD ak;generalize C.setCell ⟨g,0,none⟩ (.slice (some ⟨y,0,none⟩) (W.length+1) z)=w9 at*;obtain⟨e0,_,e2,_,_⟩:=sO b9;clear b9;have aH:=af w9 (.cells #[.bool false] 4);have dL:=aa (dz dF.o aH);have dM:B<=(w9.alloc (.cells #[.bool false] 4)).heap.size:=(by rw[aK];exact oo dE);obtain⟨dN,dO⟩:=ZQ (((aH.block g (aZ.1 bJ.o).1).t bJ.o)) aH;clear aH;go_upto_region 7 with(at_builtin;refine bT _ rfl _ _ 193 rfl B 4 i1 _ 1 1 Tryz.underlying193 bQ bR bS bU rfl (by omega) _ _ _ rfl dL.o _ 1 1 [.bool false] rfl (Src.news _ _ _ 1 rfl) (by intro u hu;rw[aX]at hu;subst hu;rfl) (by unfold maxLen;omega) (by omega) dM ?_;intro bK bL kP aF av aG;have Pz:=Ob dN.o dK.o av;obtain⟨_,_,dQ,_,dS⟩:=sO Pz);have HE:=aa (mJ.after (cz.o.ag hz aA) (dI.o _ _ _ dO.o aF av (RH aG trivial)));obtain⟨q0,_,_,_,_⟩:=sO (uS Pz (.slice bK (W.length+1) bL)).2;clear Pz aF av aG dQ dS e0 e2;generalize kP.setCell ⟨g,2,none⟩ (.slice bK (W.length+1) bL)=wf at HE q0⊢;go_wp2_with fail;go_ret;exact⟨rfl,HE.o⟩
end
section
open Go.RowKit Go.Maps
variable {X:Nat->Bool}
theorem IU(W:List fC)(i:Nat):(W.map λs=>Value.bool s.part).set i (.bool true)=(Wb.mark W i).map λs=>Value.bool s.part:=by
 apply sI;·rw[kU,df,df,ll]
 ·intro j b c;rw[xK,gz,gz];have a:j<W.length:=(by simpa using b);rw[(yH W i j (by rw[ll];exact a) a).2.2.2];split<;>rfl
theorem gD.marked{B g M c d:Nat}{vs:Value}{W:List fC}{w:World}{n:Nat}(h:gD X B w g M vs (.slice (some ⟨c,0,none⟩) n d) W)(j:n=W.length)(i:Nat):
 mJ X B g M w vs (.slice (some ⟨c,0,none⟩) n d) (Wb.mark W i) (w.setCell ⟨c,i,none⟩ (.bool true)):=by
 subst j;have l:=h.apart;obtain⟨m,z,o,q,r⟩:=l.p c rfl;have F:Fr X B g M vs (.slice (some ⟨c,0,none⟩) W.length d) w vs (.slice (some ⟨c,0,none⟩) W.length d) (w.setCell ⟨c,i,none⟩ (.bool true)):=
  Fr.grown h.lt.2 (Ci w ⟨c,i,none⟩ (.bool true)) (λk f=>by injection f with f;subst f;exact⟨m,YU rfl⟩) (.inl rfl) (.inl rfl)
 obtain⟨dG,s,t⟩:=h.steps;obtain⟨D,n,u,v,y⟩:=h.map;refine⟨vs,_,⟨⟨dG,(s.aR F.aR).mark i,?_⟩,?_,⟨D,n,u.setCell (a:=⟨c,i,none⟩) (λe=>q e.symm) _,by rw[ll];exact v,y.mark i⟩,?_,h.low,by rw[ll];exact h.size,λb hb=>h.fresh b (by simpa[World.setCell]using hb)⟩,F⟩
 ·rw[ll];exact oN t λb e _=>aM _ _ _ _ (λx=>r (by rw[e,x]))
 ·rw[ll,<-IU];exact(h.part.stored i (.bool true)).1
 ·exact(aM w ⟨c,i,none⟩ (.bool true) g (λe=>o e.symm)).t h.box
theorem gD.Dy{B g M:Nat}{vs vp:Value}{W:List fC}{w:World}(h:gD X B w g M vs vp W){i:Nat}(hi:i<W.length):∃a b,vp=.slice (some ⟨a,0,none⟩) W.length b/\w.cell? ⟨a,i,none⟩=some (.bool W[i].part)/\w.frozen? ⟨a,i,none⟩=false/\a≠g:=by
 obtain⟨a,b,e,_⟩:=h.part.form (by omega);subst e;have c:=h.part;refine⟨a,b,rfl,?_,c.frozenAt i,(h.apart.p a rfl).2.2.1⟩;rw[c.cellAt i (by omega),kR,aH hi];rfl
theorem Xi{B g M:Nat}{vs vp:Value}{W:List fC}(t:T)(v:Value)(w:World)(how:Nat)(jv:List Nat)(F:Option Addr)(u:Nat)(h:gD X B w g M vs vp W)(f:bN (nr X g M vs vp) w v t)(x:t.bC<=1048576)
 (hF:lG (nr X g M vs vp) w F jv) (y:jk W t.key=none->W.length<1048576):
 Calls Tryz.prog 182 #[.pointer (some ⟨g,0,none⟩),v,.int .i64 (how:Int),.slice F jv.length u] w λe w'=>e=.returned (.bool (Wb.take W t how jv).2)/\mJ X B g M w vs vp (Wb.take W t how jv).1 w':=by
 obtain⟨j,k,rfl⟩:=f.view;have c:=af w (.cells #[.int .i64 t.aC,.string t.aJ,.slice j t.ay.length k] 29);have l:=jM.new w (.int .i64 t.aC) (.string t.aJ) (.slice j t.ay.length k);have I:=h.lt.2;obtain⟨z,m⟩:=ZQ (((Fr.refl (X:=X) B g M vs vp w).ag I c)) ((VW t _ _ how jv F u (h.ag c) (f.aR (λb hb n=>⟨hb,c.block b n⟩)) x (hF.aR (λb hb n=>⟨hb,c.block b n⟩)) y));have o:=Wb.ru W t how jv;obtain⟨a,q⟩:∃a,(Wb.add W t how jv).1=a:=⟨_,rfl⟩;obtain⟨i,hi⟩:∃i,(Wb.add W t how jv).2=i:=⟨_,rfl⟩;rw[q,hi]at m o;have A:Wb.take W t how jv=if Wb.partAt a i=true then (a,false) else (Wb.mark a i,true):=by unfold Wb.take;rw[q,hi]
 rw[A];have C:=o.2;clear h f hF y c x o q hi A;have J:=aa (show Wb.partAt a i=a[i].part from by unfold Wb.partAt;rw[aH C];rfl);obtain⟨p,r⟩:∃p,a[i].part=p:=⟨_,rfl⟩;have K:=aa r;rw[J.o,r];clear r;obtain⟨R,s⟩:∃R,(if p=true then (a,false) else (Wb.mark a i,true))=R:=⟨_,rfl⟩;rw[s];have D:=aa s;clear s;go_enter Tryz.func182,Tryz.ntmps182;go_upto_region 1 with fail;generalize w.alloc (.cells #[.int .i64 t.aC,.string t.aJ,.slice j t.ay.length k] 29)=Q at l m z⊢;obtain⟨x0,L,N⟩:=l.cells;clear l;go_wp2_with fail;refine m.o.m ?_;rintro e S ⟨rfl,U,V,d,E⟩;obtain⟨Y,Z,rfl,O,f0,ae⟩:=d.Dy C;rw[K.o]at O;have d2:=d.cells.2.2.1;obtain⟨G,H⟩:=ZQ d (z.o.t E);have P:(0:Int)<=(i:Int)/\(i:Int)<(a.length:Int):=(by omega);obtain⟨ai,ak⟩:=P;clear d E x0 L N;cases p with
 |true=>
  go_wp2_with fail;go_ret;rw[<-D.o];exact⟨rfl,_,_,G.o,H.o⟩
 |false=>
  go_wp2_with fail;go_ret;rw[<-D.o];exact⟨rfl,mJ.after H.o (G.o.marked rfl i)⟩
end
section
open Go.RowKit
theorem zi{P:Program}(w:World)(t e ty:TypeId)(z z0 a z2:Value)(f:P.underlying t=some (.slice e))(g:∀w,(zeroValue e).run P w=.ok z w)(h:z.cells=#[z0,a,z2])(i:∀u∈[z0,a,z2],u.oneCell'=true)(b o c:Nat)
 (k:∀j,j<3->(w.cell? ⟨b,o+j,none⟩).isSome=true) (l:∀j,j<3->w.frozen? ⟨b,o+j,none⟩=false):
 (Builtin.clear_ #[t] ty #[.slice (some ⟨b,o,none⟩) 1 c]).run P w=.ok (.tuple #[]) (w.setCells b o [z0,a,z2]):=by
 have m:(Builtin.zeroCells z.cells 1).toList=[z0,a,z2]:=by
  rw[h];have e:List.range 3=[0,1,2]:=rfl;simp[Builtin.zeroCells,e]
 have d:=run_storeCells_cells (P:=P) b o [z0,a,z2] 0 w (by simpa using k) (by simpa using l) i;simp only[fE]at d;simp[Builtin.clear_,run_underlying f,g,m,d]
theorem mW{a:World}(b:Nat):∀(vs:List Value) (o:Nat) {w:World},Below b a w->Below b a (w.setCells b o vs)
 |[],_,_,h=>h
 |v::r,o,_,h=>mW b r (o+1) (h.setCell (ak _) v)
theorem VZ(b n cap i j:Nat)(cs:List Value)(w:World)(r:cs.length=n*3)(z:j=i+1)(hi:i<n)(B:n<=cap)
 (f:∀j u,cs[j]?=some u->w.cell? ⟨b,j,none⟩=some u) (o:∀j,j<n*3->w.frozen? ⟨b,j,none⟩=false) (s:∀u∈cs,u.oneCell'=true):
 Calls Tryz.prog 220 #[.slice (some ⟨b,0,none⟩) n cap,.int .i64 i,.int .i64 j] w λe w'=>e=.returned (.slice (some ⟨b,0,none⟩) (n-1) cap)/\(∀k u,(cs.take (i*3)++cs.drop (j*3))[k]?=some u->w'.cell? ⟨b,k,none⟩=some u)/\Below b w w':=by
 obtain⟨C,D,N,E,O⟩:=dV Tryz.uI;have P:i<j:=(by omega);have Q:j<=n:=(by omega);have v:i+(n-j)=n-1:=(by omega);have F:=aa v;clear v;obtain⟨news,d⟩:∃news,news=cs.drop (j*3):=⟨_,rfl⟩;have g:news.length=(n-j)*3:=(by rw[d,dO,r];omega);obtain⟨A,hA,G⟩:∃A:Addr,(if cap=j then some (⟨b,0,none⟩:Addr) else some ⟨b,j*3,none⟩)=some A/\Hid (∀t u,news[t]?=some u->w.drew.cell? (A.add t)=some u):=by
  by_cases h:cap=j
  ·refine⟨⟨b,0,none⟩,by simp[h],λt u hu=>?_⟩;have h0:news.length=0:=(by rw[g];omega);rw[dQ.1 h0]at hu;simp at hu
  ·refine⟨⟨b,j*3,none⟩,by simp[h],λt u hu=>?_⟩;rw[d,ib]at hu;rw[bS];exact f _ u hu
 have H:=aa (show ∀u∈news,u.oneCell'=true from λu hu=>s u (by rw[d]at hu;exact gU hu));have p:∀k,k<n*3->(w.cell? ⟨b,k,none⟩).isSome=true:=λk m=>by
  have:=aH (l:=cs) (i:=k) (by omega);rw[f k _ this];rfl
 have x:=aa (show ∀t,t<news.length->(w.drew.cell? ⟨b,0+i*3+t,none⟩).isSome=true/\w.drew.frozen? ⟨b,0+i*3+t,none⟩=false from λt q=>by
  rw[g]at q;exact⟨p _ (by omega),o _ (by omega)⟩)
 obtain⟨a,c⟩:∃a,a=w.drew.setCells b (0+i*3) news:=⟨_,rfl⟩;have I:=aa c;have R:∀ty,(Builtin.clear_ #[23] ty #[.slice (some ⟨b,(i+(n-j))*3,none⟩) (n-(i+(n-j))) (cap-(i+(n-j)))]).run Tryz.prog a=.ok (.tuple #[]) (a.setCells b ((n-1)*3) [.int .i64 0,.string ByteArray.empty,.slice none 0 0]):=λty=>by
  rw[show n-(i+(n-j))=1 by omega,show i+(n-j)=n-1 by omega];exact zi a _ _ ty (.agg #[.int .i64 0,.string ByteArray.empty,.slice none 0 0]) _ _ _ bM xQ (by simp[Value.cells]) (by intro u hu;simp at hu;rcases hu with rfl|rfl|rfl<;>rfl) b ((n-1)*3) _
   (λk m=>by rw[c];exact World.isSome_setCells b news _ _ _ (p _ (by omega))) (λk m=>by rw[c,nK];exact o _ (by omega))
 have y:=aa (show(∀k u,(cs.take (i*3)++cs.drop (j*3))[k]?=some u->(a.setCells b ((n-1)*3) [.int .i64 0,.string ByteArray.empty,.slice none 0 0]).cell? ⟨b,k,none⟩=some u)/\Below b w (a.setCells b ((n-1)*3) [.int .i64 0,.string ByteArray.empty,.slice none 0 0]) by
  refine⟨λk u hu=>?_,mW b _ _ (by rw[c];exact mW b _ _ (az _ _).drew)⟩;have m:k<(n-1)*3:=by
   have:=(bg.1 hu).1;rw[aF,aW,dO]at this;omega
  rw[mE b _ _ _ _ (λ_ _=>.inl m),c];by_cases J:k<i*3
  ·rw[mE b _ _ _ _ (λ_ _=>.inl (by simp;omega))];rw[bP (by rw[aW];omega),xg J]at hu;exact f k u hu
  ·rw[bD (by rw[aW];omega),aW,<-d]at hu;have K:=iP (show i*3<=cs.length by omega);rw[K]at hu;obtain⟨L,M⟩:=bg.1 hu;have:=xR b news (0+i*3) w.drew (λt q=>(x.o t q).1) (k-i*3) L;rw[show 0+i*3+(k-i*3)=k by omega]at this;rw[this,M])
 clear f o s r p d c z;have S:i<=cap:=(by omega);have T:j<=cap:=(by omega);go_enter Tryz.func220,Tryz.ntmps220;go_wp2_with fail;go_region_law (refine step_append_room rfl (.tmp 22) (.tmp 25) 23 rfl 29 C 3 bM D E b 0 i cap (by simp[Act.eval,Act.put]) A (n-j) (cap-j) news (by simp[Act.eval,Act.put];done) g G.o H.o (by omega) x.o ?_;rw[<-I.o]);clear hA g;have U:i+(n-j)<=n:=(by omega);have V:n<=cap:=B;go_wp2_with fail;go_ret;exact⟨by rw[F.o];rfl,y.o.1,y.o.2⟩
end
section
open Go.RowKit
variable {X:Nat->Bool}
theorem T.OE{t:T}{i:Nat}(h:i<t.ay.length):t.eQ i=t.ay[i]:=by
 unfold T.eQ;rw[dC,aH h];rfl
theorem T.CV(t:T):t.bC=t.aJ.size+4+T.bE t.ay:=by cases t;simp[T.bC,T.aJ,T.ay]
theorem T.Dh{t:T}{i:Nat}(h:i<t.ay.length):(t.eQ i).bC+4<=t.bC:=by
 rw[T.OE h];have:=T.iQ t.ay i h;have:=t.CV;omega
theorem T.QE(t:T):4<=t.bC:=by have:=t.CV;omega
theorem T.BJ:∀(l:List T) (i:Nat),i<l.length->T.bE (l.eraseIdx i)+4<=T.bE l
 |[],i,h=>absurd h (jg _)
 |a::r,0,_=>by
  have:=a.QE;simp only[List.eraseIdx_cons_zero,T.bE];omega
 |a::r,i+1,h=>by
  have:=T.BJ r i (by simpa using h);simp only[qA,T.bE];omega
theorem T.Ba{t:T}{i:Nat}(h:i<t.ay.length):(t.iI i).bC+4<=t.bC:=by
 have d:=T.BJ t.ay i h;have e:=t.CV;have a:=(t.iI i).CV;have b:(t.iI i).aJ.size=0:=rfl;have c:(t.iI i).ay=t.ay.eraseIdx i:=rfl;rw[b,c]at a;omega
theorem bN.eQ{S:Nat->Bool}{w:World}{k:Int}{s:ByteArray}{A:Option Addr}{n cap:Nat}{t:T}(h:bN S w (.agg #[.int .i64 k,.string s,.slice A n cap]) t){i:Nat}(hi:i<t.ay.length):
 ∃b off A' a,A=some ⟨b,off,none⟩/\S b=true/\w.cell? ⟨b,off+i*3,none⟩=some (.int .i64 (t.eQ i).aC)/\w.cell? ⟨b,off+i*3+1,none⟩=some (.string (t.eQ i).aJ)/\w.cell? ⟨b,off+i*3+2,none⟩=some (.slice A' (t.eQ i).ay.length a)/\
  bN S w (.agg #[.int .i64 (t.eQ i).aC,.string (t.eQ i).aJ,.slice A' (t.eQ i).ay.length a]) (t.eQ i):=by
 rw[T.OE hi];cases h with
 |mk k s A cap f U g j l m hA hU=>
 obtain⟨b,off,A',a,e,d,c1,c2,hu⟩:=aO.cells hi hA hU;have key:∀{q:Addr} {v:Value},(only w S).cell? q=some v->S q.block=true/\w.cell? q=some v:=λ{q v} c=>by
  rw[fM]at c;split at c;·rename_i hS;exact⟨hS,c⟩
  ·cases c
 exact⟨b,off,A',a,e,(key d).1,(key d).2,(key c1).2,(key c2).2,hu⟩
theorem bN.OD{S:Nat->Bool}{w:World}{k:Int}{s:ByteArray}{A:Option Addr}{n cap:Nat}{t:T}(h:bN S w (.agg #[.int .i64 k,.string s,.slice A n cap]) t)(hi:0<t.ay.length):
 ∃b off A' a,A=some ⟨b,off,none⟩/\S b=true/\w.cell? ⟨b,off,none⟩=some (.int .i64 (t.eQ 0).aC)/\w.cell? ⟨b,off+1,none⟩=some (.string (t.eQ 0).aJ)/\w.cell? ⟨b,off+2,none⟩=some (.slice A' (t.eQ 0).ay.length a)/\
  bN S w (.agg #[.int .i64 (t.eQ 0).aC,.string (t.eQ 0).aJ,.slice A' (t.eQ 0).ay.length a]) (t.eQ 0):=h.eQ hi
theorem bN.Ra{S:Nat->Bool}{w:World}{k:Int}{s:ByteArray}{A:Option Addr}{n cap:Nat}{t:T}(h:bN S w (.agg #[.int .i64 k,.string s,.slice A n cap]) t)(hi:1<t.ay.length):
 ∃b off A' a,A=some ⟨b,off,none⟩/\S b=true/\w.cell? ⟨b,off+3,none⟩=some (.int .i64 (t.eQ 1).aC)/\w.cell? ⟨b,off+3+1,none⟩=some (.string (t.eQ 1).aJ)/\w.cell? ⟨b,off+3+2,none⟩=some (.slice A' (t.eQ 1).ay.length a)/\
  bN S w (.agg #[.int .i64 (t.eQ 1).aC,.string (t.eQ 1).aJ,.slice A' (t.eQ 1).ay.length a]) (t.eQ 1):=h.eQ hi
theorem qp{B g M:Nat}{vs vp:Value}{W:List fC}{w:World}(h:gD X B w g M vs vp W){b:Nat}(hb:w.heap.size<=b):nr X g M vs vp b=true:=by
 have a:=h.apart;exact kr.2 ⟨by have:=a.g;omega,by have:=a.m;omega,λe=>by have:=(a.s b e).2.1;omega,λe=>by have:=(a.p b e).2.1;omega,h.fresh b hb⟩
theorem jM.fr{B g M b:Nat}{vs vp vs' mK v0 a v2:Value}{w w':World}(h:jM w b v0 a v2)(c:Fr X B g M vs vp w vs' mK w')(hb:nr X g M vs vp b=true):jM w' b v0 a v2:=(c.aR b hb h.lt).2.t h
theorem Inv.room{U:List T}{W:List fC}(hU:yA U)(h:Inv U W){t:T}(b:t∈U):jk W t.key=none->W.length<1048576:=λc=>by
 have a:=(h.push ⟨t,0,[],false⟩ b c).len;have d:=hU.size;rw[aF]at a;simp only[zm]at a;omega
theorem lG.one{S:Nat->Bool}(w:World)(a:Nat)(e:TypeId)(hS:S w.heap.size=true):lG S (w.alloc (.cells #[.int .i64 (a:Int)] e)) (some ⟨w.heap.size,0,none⟩) [a]:=
 .inr ⟨_,0,rfl,hS,λi hi=>by
   obtain rfl:i=0:=(by simp at hi;omega);have h:=bO w (.cells #[.int .i64 (a:Int)] e);unfold World.cell?;rw[h];rfl⟩
theorem lG.two{S:Nat->Bool}(w:World)(a b:Nat)(e:TypeId)(hS:S w.heap.size=true):lG S (w.alloc (.cells #[.int .i64 (a:Int),.int .i64 (b:Int)] e)) (some ⟨w.heap.size,0,none⟩) [a,b]:=
 .inr ⟨_,0,rfl,hS,λi hi=>by
   have h:=bO w (.cells #[.int .i64 (a:Int),.int .i64 (b:Int)] e);unfold World.cell?;rw[h]
   match i,hi with
   |0,_=>rfl
   |1,_=>rfl⟩
theorem lG.none_{S:Nat->Bool}(w:World)(A:Option Addr):lG S w A []:=.inl rfl
end
section
open Go.RowKit
variable {X:Nat->Bool}
def Ym(X:Nat->Bool)(B g M:Nat)(w:World)(vs vp:Value)(r:List fC×Option Nat)(e:Ending)(w':World):Prop:=e=.returned (.int .i64 (fI r.2))/\mJ X B g M w vs vp r.1 w'
def FR(X:Nat->Bool)(B:Nat)(U:List T)(rec:List fC->T->List fC×Option Nat)(t:T):Prop:=∀(v:Value) (w:World) (g M:Nat) (vs vp:Value) (W:List fC),Inv U W->gD X B w g M vs vp W->bN (nr X g M vs vp) w v t->
 Calls Tryz.prog 185 #[.pointer (some ⟨g,0,none⟩),v] w (Ym X B g M w vs vp (rec W t))
theorem YW{B g M:Nat}{vs vp:Value}{W:List fC}{U:List T}{rec:List fC->T->List fC×Option Nat}(hU:yA U)(t:T)(v:Value)(w:World)(how:Nat)(I:t.ay.length=2)(ai:t∈U)(J:Inv U W)
 (h:gD X B w g M vs vp W) (A:bN (nr X g M vs vp) w v t) (av:t.bC<=1048576) (p0:Wb.Bt U rec (t.eQ 0)) (p1:Wb.Bt U rec (t.eQ 1)) (b0:FR X B U rec (t.eQ 0)) (b1:FR X B U rec (t.eQ 1)):
 Calls Tryz.prog 212 #[.pointer (some ⟨g,0,none⟩),v,.int .i64 (how:Int)] w (Ym X B g M w vs vp (Wb.both rec W t how)):=by
 obtain⟨A0,K,rfl⟩:=A.view;obtain⟨b,off,A1,c1,rfl,hS,_⟩:=A.OD (by omega);have C:=af w (.cells #[.int .i64 t.aC,.string t.aJ,.slice (some ⟨b,off,none⟩) t.ay.length K] 29);have j:=jM.new w (.int .i64 t.aC) (.string t.aJ) (.slice (some ⟨b,off,none⟩) t.ay.length K);have hz:=h.lt.2;obtain⟨HN,L,N,D⟩:=ZT (qp h (ak _)) (((Fr.refl (X:=X) B g M vs vp w).ag hz C)) (h.ag C) (A.aR (λb hb O=>⟨hb,C.block b O⟩));have ax:=p0 W J;have az:=aa (λl W' m n=>b0 l W' g M vs vp W J m n);have E:(rec W (t.eQ 0)).2=none->Wb.both rec W t how=((rec W (t.eQ 0)).1,none):=λe=>(by simp only[Wb.both,e]);have o:∀a,(rec W (t.eQ 0)).2=some a->(rec (rec W (t.eQ 0)).1 (t.eQ 1)).2=none->Wb.both rec W t how=((rec (rec W (t.eQ 0)).1 (t.eQ 1)).1,none):=λa e P=>(by simp only[Wb.both,e,P]);have p:∀a b,(rec W (t.eQ 0)).2=some a->(rec (rec W (t.eQ 0)).1 (t.eQ 1)).2=some b->Wb.both rec W t how=((Wb.add (rec (rec W (t.eQ 0)).1 (t.eQ 1)).1 t how [a,b]).1,some (Wb.add (rec (rec W (t.eQ 0)).1 (t.eQ 1)).1 t how [a,b]).2):=λa b e P=>(by simp only[Wb.both,e,P]);obtain⟨R,hR⟩:∃R,Wb.both rec W t how=R:=⟨_,rfl⟩;rw[hR]at E o p⊢;clear hR;generalize rec W (t.eQ 0)=q at ax az E o p;obtain⟨Q,_,_⟩:=ax;have aA:=p1 q.1 Q;have aB:=aa (λl W' vs' mK m n=>b1 l W' g M vs' mK q.1 Q m n);generalize rec q.1 (t.eQ 1)=V at aA aB o p;obtain⟨aD,_,_⟩:=aA;obtain⟨aV,aW,aX,aY⟩:=ZT (λl W' F fc jv vs' mK m n hF=>VW (X:=X) (W:=V.1) (g:=g) (M:=M) (B:=B) (vs:=vs') (vp:=mK) t l W' how jv F fc m n av hF (aD.room hU ai)) E o p;clear E o p p0 p1 b0 b1 J Q aD h A ai av C;obtain⟨k,hk⟩:∃k,t.aC=k:=⟨_,rfl⟩;obtain⟨nm,aF⟩:∃nm,t.aJ=nm:=⟨_,rfl⟩;rw[hk,aF,I]at j L N D⊢;have aG:=aa I;clear hk aF I;obtain⟨x0,aH⟩:∃x,fI q.2=x:=⟨_,rfl⟩;obtain⟨x1,aI⟩:∃x,fI V.2=x:=⟨_,rfl⟩;obtain⟨Y,Z⟩:=ZQ aH aI;clear aH aI;go_enter Tryz.func212,Tryz.ntmps212;go_upto_region 1 with fail;generalize w.alloc (.cells #[.int .i64 k,.string nm,.slice (some ⟨b,off,none⟩) 2 K] 29)=w1 at j L N D⊢;obtain⟨r,s,u⟩:=j.cells;obtain⟨_,_,A1,c1,d,_,d0,d1,d2,aK⟩:=D.o.OD (by rw[aG.o];decide);injection d with d;injection d with d e2;subst d;subst e2;obtain⟨aZ,BX⟩:=ZQ aK j;clear aK j;go_wp2_with fail;refine(az.o _ _ N.o aZ.o).m ?_;rintro e w2 ⟨rfl,bE,bF,aL,y⟩;rw[Y.o];obtain⟨aM,aN,aO,aP,bf⟩:=ZU aL (D.o.fr y) (L.o.t y) (BX.o.fr y HN.o) ((y.aR _ HN.o BX.o.lt).1);clear aL y r s u d0 d1 d2;cases c:q.2 with
 |none=>
  have z:=aa (aW.o c);have f:x0= -1:=(by have:=Y.o;rw[c]at this;exact this.symm);subst f;clear c;go_wp2_with fail;go_ret;rw[z.o];exact⟨rfl,_,_,aM.o,aO.o⟩
 |some a=>
  have f:x0=(a:Int):=(by have:=Y.o;rw[c]at this;exact this.symm);subst f;have HQ:=aa c;have bG:¬((a:Int)<0):=(by omega);clear c;obtain⟨r,s,u⟩:=aP.o.cells;obtain⟨_,_,A2,c2,d,_,d0,d1,d2,aQ⟩:=aN.o.Ra (by rw[aG.o];decide);injection d with d;injection d with d e2;subst d;subst e2;have bg:=aa aQ;clear aQ;go_wp2_with fail;refine(aB.o _ _ _ _ aM.o bg.o).m ?_;rintro e w3 ⟨rfl,bi,bn,aS,G⟩;rw[Z.o];obtain⟨ae,bq,aT,bu⟩:=ZT aS (aN.o.fr G) (aO.o.t G) (aP.o.fr G bf.o);clear aS G r s u d0 d1 d2;cases c:V.2 with
  |none=>
   have z:=aa (aX.o a HQ.o c);have f:x1= -1:=(by have:=Z.o;rw[c]at this;exact this.symm);subst f;clear c;go_wp2_with fail;go_ret;rw[z.o];exact⟨rfl,_,_,ae.o,aT.o⟩
  |some i=>
   have z:=aa (aY.o a i HQ.o c);have f:x1=(i:Int):=(by have:=Z.o;rw[c]at this;exact this.symm);subst f;have bH:¬((i:Int)<0):=(by omega);clear c;obtain⟨r,s,u⟩:=bu.o.cells;have H:=af w3 (.cells #[.int .i64 (a:Int),.int .i64 (i:Int)] 3);obtain⟨bv,bz,bA,bB⟩:=ZT ((lG.two (S:=nr X g M bi bn) w3 a i 3 (qp ae.o (ak _)))) (ae.o.ag H) (bq.o.aR (λb hb O=>⟨hb,H.block b O⟩)) (aT.o.ag hz H);clear H;go_wp2_with fail;refine(aV.o _ _ _ _ [a,i] _ _ bz.o bA.o bv.o).m ?_;rintro e w5 ⟨rfl,aU⟩;have bD:=aa (mJ.after bB.o aU);clear aU r s u;go_wp2_with fail;go_ret;rw[z.o];exact⟨rfl,bD.o⟩
end
end Go.Proofs.YtaciciokmpbkkaaGreatDoor
