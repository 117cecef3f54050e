import Derived.Test.YtaciciokmpbkkaaGreatDoorWebG4
set_option maxRecDepth 100000
set_option maxHeartbeats 16000000
namespace Go.Proofs.YtaciciokmpbkkaaGreatDoor
section
namespace T
def Ew:List UInt8->Prop
 |[]=>True
 |c::_=>c=44\/c=41\/c=62
theorem Ew.stop{b:List UInt8}(h:Ew b):Stop b:=by
 cases b with
 |nil=>trivial
 |cons c r=>rcases h with rfl|rfl|rfl<;>exact⟨aat,aat⟩
theorem yN(a q b:List UInt8)(d:UInt8):now (a++q++b) (a.length+q.length) d=(b.head?==some d):=by
 unfold now;rw[bq aau,aF,qR];cases b<;>rfl
theorem Ew.now{b:List UInt8}(h:Ew b)(a q:List UInt8):T.now (a++q++b) (a.length+q.length) 40=false:=by
 rw[yN];cases b with
 |nil=>rfl
 |cons c r=>rcases h with rfl|rfl|rfl<;>rfl
theorem JM{l:List UInt8}{k:Int}{c:UInt8}{r:Option (Except Nat (List T×Nat))}{a:List T}{j:Nat}(h:r=some (.ok (a,j)))(b:tq l [c] j=.ok (j+1)):
 close l k c r=some (.ok (.mk k ⟨#[]⟩ a,j+1)):=by
 subst h;simp only[close,b]
theorem Pk{q:List UInt8}(h:zq q=true)(a:1<=q.length):∃c r,q=c::r/\low c=true:=by
 cases q with
 |nil=>simp at a
 |cons c r=>
  have:=bQ.1 h 0 (ed.2 aau);refine⟨c,r,rfl,?_⟩;simpa[zD]using this
theorem X5{c:UInt8}(h:low c=true):(c==60)=false/\(c==63)=false:=by
 constructor<;>
 ·rw[aD];rintro rfl;revert h;decide
theorem Nj(a q b:List UInt8)(h:zq q=true)(d:1<=q.length):now (a++q++b) a.length 60=false/\now (a++q++b) a.length 63=false:=by
 obtain⟨c,r,rfl,e⟩:=Pk h d;rw[dC,iP,BL,BL];exact X5 e
theorem Hm{s:ByteArray}(h:s.toList.isEmpty=true):s=⟨#[]⟩:=G6 (by rw[List.isEmpty_iff.1 h,iR])
theorem O0(k:Int)(b:List T)(h:gZ k b=true)(j:¬(k=1\/k=2))(l:k≠3):
 zq (kr k)=true/\1<=(kr k).length/\(kr k).length<=16/\vV (strOf (kr k))=k/\k≠0/\b≠[]/\(yF (strOf (kr k))=0\/0+b.length=yF (strOf (kr k))):=by
 have c:∀n,b.length=n+1->b≠[]:=λn h e=>(by rw[e]at h;simp at h);unfold gZ at h;by_cases i:k=5
 ·subst i;have a:b.length=2:=aaD;exact⟨aas,aat,aat,aas,aat,c 1 a,.inr (by rw[a];kernel_rfl)⟩
 by_cases d:k=6
 ·subst d;have a:b.length=2:=(by simp at h;exact h.1);exact⟨aas,aat,aat,aas,aat,c 1 a,.inr (by rw[a];kernel_rfl)⟩
 by_cases f:k=4
 ·subst f;have a:b.length=1:=aaD;exact⟨aas,aat,aat,aas,aat,c 0 a,.inr (by rw[a];kernel_rfl)⟩
 by_cases g:k=7
 ·subst g;have a:1<=b.length:=by
   rw[aH aat,aH aat,aH aat,aJ rfl]at h;simp only[ah,bO]at h;exact h.1.1
  exact⟨aas,aat,aat,aas,aat,(λe=>by rw[e]at a;simp at a),.inl aas⟩
 rw[aH aar,aH d,aH f,aH g]at h;cases h
theorem Vl:∀t:T,t.shape=true->1<=t.gK.length
 |.mk k s b=>λh=>by
  simp only[shape]at h;simp only[gK];by_cases a:k=1
  ·rw[aJ (.inl a),ah]at h;have:=h.1;unfold isName at this;simp only[ah,bO]at this;rw[aJ a,mq];exact this.2.1
  ·rw[aH a];split;·simp
   ·split;·(first|(simp;done)|(simp;omega))
    ·(first|(simp;done)|(simp;omega))
theorem ER:∀f,
  (∀t a b,t.shape=true->Ew b->2*t.gK.length<=f->oP (a++t.gK++b) f a.length=some (.ok (t,a.length+t.gK.length)))/\
  (∀d n c a b,d≠[]->dV d=true->Ew b->b.head?≠some 44->(n=0\/c+d.length=n)->2*(eY d).length+1<=f->
    lg (a++eY d++b) f n c a.length=some (.ok (d,a.length+(eY d).length)))
 |0=>⟨λt a b h _ l=>aaz (Vl t h),λd n c a b _ _ _ _ _ l=>aar⟩
 |f+1=>by
  obtain⟨K,B⟩:=ER f;refine⟨λt a b o hb l=>?_,λd n c a b V o hb L g l=>?_⟩
  ·obtain⟨k,s,d⟩:=t;simp only[shape]at o;simp only[gK]at l⊢;by_cases w:k=1\/k=2
   ·rw[aJ w,ah]at o;obtain⟨C,D⟩:=o;have D:d=[]:=(by simpa using D);subst D;unfold isName at C;simp only[ah,bO]at C;obtain⟨E,A,F⟩:=C;have M:strOf s.data.toList=s:=(by simp[strOf]);rw[<-mq]at A F;rcases w with rfl|rfl
    ·rw[aJ rfl];obtain⟨p,x⟩:=Nj a s.data.toList b E A;have u:=Ah a s.data.toList b E F hb.stop;simp only[oP];rw[aH (by rw[p];decide),aH (by rw[x];decide),u,aH aar,Aj,aJ (.inr (hb.now a _)),M]
    ·rw[aH aat,aJ rfl];have e:a++(63::s.data.toList)++b=(a++[63])++s.data.toList++b:=aau;have u:=Ah (a++[63]) s.data.toList b E F hb.stop;have y:=Aj (a++[63]) s.data.toList b;have p:now (a++(63::s.data.toList)++b) a.length 60=false:=(by rw[dC,iP,BL];decide);have x:now (a++(63::s.data.toList)++b) a.length 63=true:=(by rw[dC,iP,BL];decide);simp only[aF,bg,fE]at u y;rw[<-e]at u y;simp only[oP];rw[aH (by rw[p];decide),aJ x,u,aH aar,y,M];simp only[bg];congr 3;omega
   ·rw[aH w,ah,ah]at o;obtain⟨⟨N,W⟩,O⟩:=o;have X:=Hm W;subst X;have A:¬k=1:=λe=>w (.inl e);have z:¬k=2:=λe=>w (.inr e);rw[aH A,aH z]at l⊢;by_cases G:k=3
    ·subst G;rw[aJ rfl]at l⊢;have P:d.length=2:=(by simpa[gZ]using N);have Y:d≠[]:=λe=>(by rw[e]at P;simp at P);have e:a++([60]++eY d++[62])++b=(a++[60])++eY d++(62::b):=aau;have p:now (a++([60]++eY d++[62])++b) a.length 60=true:=by
      rw[show a++([60]++eY d++[62])++b=a++60::(eY d++[62]++b) by simp,BL];decide
     have v:=B d 2 0 (a++[60]) (62::b) Y O (.inr (.inr rfl)) aau (.inr aar) (by simp at l;omega);have m:=DL [62] (a++[60]++eY d) b;have H:a++[60]++eY d++[62]++b=a++([60]++eY d++[62])++b:=aau;rw[H]at m;rw[<-e]at v;simp only[aF,bg,fE]at v m;simp only[oP];rw[aJ p,JM v m];simp only[aF,bg,fE];congr 3;omega
    ·rw[aH G]at l⊢;obtain⟨Q,Z,g3,R,g5,g6,g7⟩:=O0 k d N w G;have e1:a++(kr k++[40]++eY d++[41])++b=a++kr k++(40::(eY d++[41]++b)):=aau;have I:a++(kr k++[40]++eY d++[41])++b=(a++kr k++[40])++eY d++(41::b):=aau;obtain⟨p,x⟩:=Nj a (kr k) (40::(eY d++[41]++b)) Q Z;have u:=Ah a (kr k) (40::(eY d++[41]++b)) Q g3 ⟨aat,aat⟩;have y:=Aj a (kr k) (40::(eY d++[41]++b));have S:now (a++kr k++(40::(eY d++[41]++b))) (a.length+(kr k).length) 40=true:=(by rw[yN];simp);have v:=B d (yF (strOf (kr k))) 0 (a++kr k++[40]) (41::b) g6 O (.inr (.inl rfl)) aau g7 (by simp at l;omega);have m:=DL [41] (a++kr k++[40]++eY d) b;have H:a++kr k++[40]++eY d++[41]++b=a++(kr k++[40]++eY d++[41])++b:=aau;rw[H]at m;rw[<-I]at v;rw[<-e1]at p x u y S;simp only[aF,bg,fE]at v m;simp only[oP];rw[aH (by rw[p];decide),aH (by rw[x];decide),u,aH aar,y,aH (by rw[R,S];simp[g5]),R,JM v m];simp only[aF,bg,fE];congr 3;omega
  ·cases d with
   |nil=>exact absurd rfl V
   |cons t r=>
    simp only[dV,ah]at o;simp only[eY]at l⊢;cases r with
    |nil=>
     simp only[jh,dK]at l⊢;have h:=K t a b o.1 hb aar;simp only[lg];rw[h];have J:(0<n/\c+1=n)\/(n=0/\now (a++t.gK++b) (a.length+t.gK.length) 44=false):=by
      rcases g with g|g
      ·refine .inr ⟨g,?_⟩;rw[yN,aD];exact L
      ·simp at g;exact .inl ⟨aar,g⟩
     simp only[aJ J]
    |cons i j=>
     have e:a++(t.gK++jh (i::j))++b=a++t.gK++(44::32::(eY (i::j)++b)):=(by simp[jh,eY]);have I:a++(t.gK++jh (i::j))++b=(a++t.gK)++[44,32]++(eY (i::j)++b):=(by simp[jh,eY]);have e3:a++(t.gK++jh (i::j))++b=(a++t.gK++[44,32])++eY (i::j)++b:=(by simp[jh,eY]);have T:(jh (i::j)).length=2+(eY (i::j)).length:=(by simp[jh,eY];omega);rw[aF,T]at l;have h:=K t a (44::32::(eY (i::j)++b)) o.1 (.inl rfl) aar;have z:=B (i::j) n (c+1) (a++t.gK++[44,32]) b aau o.2 hb L (by rcases g with g|g;exact .inl g;exact .inr (by simp at g⊢;omega)) aar;have m:=DL [44,32] (a++t.gK) (eY (i::j)++b);have U:now (a++t.gK++(44::32::(eY (i::j)++b))) (a.length+t.gK.length) 44=true:=(by rw[yN];simp);rw[<-e]at h U;rw[<-I]at m;rw[<-e3]at z;simp only[aF,bg,fE]at z m;simp only[lg];rw[h];have J:¬((0<n/\c+1=n)\/(n=0/\now (a++(t.gK++jh (i::j))++b) (a.length+t.gK.length) 44=false)):=by
      rintro(⟨q1,q2⟩|⟨_,q⟩)
      ·rcases g with g|g;·omega
       ·simp at g;omega
      ·rw[U]at q;cases q
     simp only[aH J];rw[m];simp only[];rw[z];simp only[more,aF,T];congr 3;omega
end T
namespace T
theorem mo(l:List T):dV l=true<->∀t∈l,t.shape=true:=by
 induction l with
 |nil=>simp[dV]
 |cons t r a=>simp[dV,a]
theorem yH(f:T->T)(a:∀t,(f t).atom=t.atom)(k:Int)(l:List T):gZ k (l.map f)=gZ k l:=by
 have b:((l.map f)[0]?).map atom=(l[0]?).map atom:=(by cases l<;>simp[a]);have c:(l.map f).any (λt=>!t.atom)=l.any (λt=>!t.atom):=by
  rw[List.any_map];congr 1;funext t;simp[a]
 unfold gZ;rw[b,c,bZ]
theorem zW{l m:List T}(h:l.Perm m):gZ 7 l=gZ 7 m:=by
 have e:l.any (λt=>!t.atom)=m.any (λt=>!t.atom):=by
  rw[jK,dM,dM];exact⟨λ⟨t,a,b⟩=>⟨t,h.mem_iff.1 a,b⟩,λ⟨t,a,b⟩=>⟨t,h.mem_iff.2 a,b⟩⟩
 unfold gZ;rw[e,h.length_eq];simp
theorem EC(t:T):t.fM.atom=t.atom:=by cases t;rfl
theorem QY(t:T):t.turn.atom=t.atom:=by cases t;rfl
theorem Bc:∀l:List T,qj l=l.map turn
 |[]=>rfl
 |t::r=>by simp only[qj,jH,Bc r]
theorem Ee{l m:List T}(h:l.Perm m):dJ l=dJ m:=by
 induction h with
 |nil=>rfl
 |cons x _ a=>simp only[dJ,a]
 |swap x y l=>simp only[dJ];omega
 |trans _ _ b c=>exact b.t c
theorem KI{l m:List T}(h:l.Perm m):bJ l=bJ m:=by
 induction h with
 |nil=>rfl
 |cons x _ a=>simp only[bJ,a]
 |swap x y l=>simp only[bJ];omega
 |trans _ _ b c=>exact b.t c
mutual
theorem BP:∀t:T,t.fM.size=t.size
 |.mk k s a=>by
  simp only[fM,size];split;·rw[Ee (kG _),yZ a]
  ·rw[yZ a]
theorem yZ:∀l:List T,dJ (fV l)=dJ l
 |[]=>rfl
 |t::r=>by simp only[fV,dJ,BP t,yZ r]
end
mutual
theorem Sw:∀t:T,t.turn.size=t.size
 |.mk k s a=>by
  simp only[turn,size];split;·rw[Ee (nY _)]
  ·rw[Eg a]
theorem Eg:∀l:List T,dJ (qj l)=dJ l
 |[]=>rfl
 |t::r=>by simp only[qj,dJ,Sw t,Eg r]
end
mutual
theorem Rb:∀t:T,t.turn.bE=t.bE
 |.mk k s a=>by
  simp only[turn,bE];split;·rw[KI (nY _)]
  ·rw[Dq a]
theorem Dq:∀l:List T,bJ (qj l)=bJ l
 |[]=>rfl
 |t::r=>by simp only[qj,bJ,Rb t,Dq r]
end
mutual
theorem CV:∀t:T,t.shape=true->t.fM.shape=true
 |.mk k s c=>λh=>by
  simp only[shape]at h;simp only[fM,shape];by_cases d:k=1\/k=2
  ·rw[aJ d]at h⊢;have a:¬k=7:=aar;rw[aH a];rw[iA,bZ];exact h
  ·rw[aH d]at h⊢;simp only[ah]at h⊢;obtain⟨⟨g,e⟩,i⟩:=h;have b:=Cr c i;have f:gZ k (fV c)=true:=(by rw[iA,yH fM EC];exact g);by_cases a:k=7
   ·subst a;rw[aJ rfl];refine⟨⟨by rw[zW (kG _)];exact f,e⟩,?_⟩;rw[mo]at b⊢;exact λt j=>b t ((kG _).mem_iff.1 j)
   ·rw[aH a];exact⟨⟨f,e⟩,b⟩
theorem Cr:∀l:List T,dV l=true->dV (fV l)=true
 |[]=>λ_=>rfl
 |t::r=>λh=>by
  simp only[dV,fV,ah]at h⊢;exact⟨CV t h.1,Cr r h.2⟩
end
mutual
theorem PL:∀t:T,t.shape=true->t.turn.shape=true
 |.mk k s f=>λh=>by
  simp only[shape]at h;simp only[turn,shape];by_cases c:k=1\/k=2
  ·rw[aJ c]at h⊢;have a:¬k=7:=aar;rw[aH a];rw[Bc,bZ];exact h
  ·rw[aH c]at h⊢;simp only[ah]at h⊢;obtain⟨⟨d,e⟩,b⟩:=h;by_cases a:k=7
   ·subst a;rw[aJ rfl];refine⟨⟨by rw[zW (nY _)];exact d,e⟩,?_⟩;rw[mo]at b⊢;exact λt g=>b t (List.mem_reverse.1 g)
   ·rw[aH a];refine⟨⟨by rw[Bc,yH turn QY];exact d,e⟩,Cs f b⟩
theorem Cs:∀l:List T,dV l=true->dV (qj l)=true
 |[]=>λ_=>rfl
 |t::r=>λh=>by
  simp only[dV,qj,ah]at h⊢;exact⟨PL t h.1,Cs r h.2⟩
end
theorem CX(t:T)(h:t.eZ=true):t.fM.eZ=true:=by
 unfold eZ at*;rw[ah]at*;exact⟨by rw[BP];exact h.1,CV t h.2⟩
end T
namespace T
theorem key_inj{t b:T}(h:t.eZ=true)(h':b.eZ=true)(e:t.key=b.key):t=b:=by
 unfold key at e;rw[aJ h,aJ h']at e;have c:t.gK=b.gK:=(by rw[<-tK t.gK,e,tK]);have f:t.shape=true:=(aN.1 h).2;have g:b.shape=true:=(aN.1 h').2;have d:=(ER (2*t.gK.length)).1 t [] [] f trivial (ax _);have a:=(ER (2*t.gK.length)).1 b [] [] g trivial (by rw[c];exact ax _);rw[c]at d a;rw[d]at a;injection a with a;injection a with a;exact(Prod.mk.inj a).1
def Ej:List T->List (List T)
 |[]=>[[]]
 |a::r=>Ej r++(Ej r).map (a::·)
theorem Im:∀{l m:List T},l.Sublist m->l∈Ej m
 |_,_,.slnil=>by simp[Ej]
 |_,_,.cons a h=>by simp only[Ej];exact gM _ (Im h)
 |_,_,.cons_cons a h=>by simp only[Ej];exact jE _ (ek.2 ⟨_,Im h,rfl⟩)
theorem AX:∀{m l:List T},l∈Ej m->l.Sublist m
 |[],l,h=>by simp[Ej]at h;subst h;exact List.Sublist.slnil
 |a::r,l,h=>by
  simp only[Ej]at h;rcases bu.1 h with h|h;·exact(AX h).cons a
  ·obtain⟨l',h',rfl⟩:=ek.1 h;exact(AX h').cons_cons a
theorem Ja:∀m:List T,(Ej m).length=2 ^ m.length
 |[]=>rfl
 |a::r=>by simp only[Ej,aF,bZ,Ja r,bg,yo];omega
mutual
def subs:T->List T
 |.mk k s a=>.mk k s a::(jb a++if k=7 then ((Ej a).filter λl=>!l.isEmpty).map (T.mk 7 ⟨#[]⟩) else [])
def jb:List T->List T
 |[]=>[]
 |t::r=>subs t++jb r
end
theorem uo{l:List T}{x:T}:x∈jb l<->∃t∈l,x∈subs t:=by
 induction l with
 |nil=>simp[jb]
 |cons a r d=>simp only[jb,bu,d,bM];constructor
              ·rintro(h|⟨t,c,b⟩);·exact⟨a,.inl rfl,h⟩
               ·exact⟨t,.inr c,b⟩
              ·rintro⟨t,rfl|c,b⟩;·exact .inl b
               ·exact .inr ⟨t,c,b⟩
theorem BR(t:T):t∈subs t:=by cases t;simp[subs]
theorem Qn{t:T}{i:Nat}(h:i<t.ay.length):t.eT i∈t.ay:=by
 unfold eT;rw[dn,az h];exact aP h
end T
structure yB (U:List T):Prop where
 eT:∀t∈U,∀i,i<t.ay.length->t.eT i∈U
 less:∀t∈U,t.aA=7->1<t.ay.length->∀i,i<t.ay.length->t.iF i∈U
 ok:∀t∈U,t.eZ=true
 size:U.length<=1048576
mutual
theorem AZ:∀(t x:T),x∈T.subs t->(∀i,i<x.ay.length->x.eT i∈T.subs t)/\(x.aA=7->1<x.ay.length->∀i,i<x.ay.length->x.iF i∈T.subs t)
 |.mk k s c,x,h=>by
  have f:∀y∈c,y∈T.subs (.mk k s c):=λy hy=>by
   simp only[T.subs];exact aY _ (gM _ (T.uo.2 ⟨y,hy,T.BR y⟩))
  have g:∀l:List T,k=7->l.Sublist c->l≠[]->T.mk 7 ⟨#[]⟩ l∈T.subs (.mk k s c):=λl a d m=>by
   simp only[T.subs];rw[aJ a];exact aY _ (jE _ (ek.2 ⟨l,fU.2 ⟨T.Im d,by cases l<;>simp at m⊢⟩,rfl⟩))
  have j:∀l:List T,1<l.length->∀i,i<l.length->l.eraseIdx i≠[]:=λl b i hi e=>by
   have:=bV List.length e;rw[jW hi]at this;simp at this;omega
  have h':=h;simp only[T.subs]at h';rcases bM.1 h' with rfl|h'
  ·refine⟨λi hi=>f _ (T.Qn hi),λa b i hi=>?_⟩;exact g _ a (nU _ _) (j _ b i hi)
  ·rcases bu.1 h' with h'|h'
   ·have:=ng c x h';simp only[T.subs];exact⟨λi hi=>aY _ (gM _ (this.1 i hi)),λa b i hi=>aY _ (gM _ (this.2 a b i hi))⟩
   ·split at h'
    ·rename_i a;obtain⟨l,n,rfl⟩:=ek.1 h';obtain⟨b,p⟩:=fU.1 n;have d:=T.AX b;refine⟨λi hi=>f _ (d.subset (T.Qn hi)),λ_ o i hi=>?_⟩;exact g _ a ((nU _ _).t d) (j _ o i hi)
    ·cases h'
theorem ng:∀(l:List T) (x:T),x∈T.jb l->(∀i,i<x.ay.length->x.eT i∈T.jb l)/\(x.aA=7->1<x.ay.length->∀i,i<x.ay.length->x.iF i∈T.jb l)
 |[],x,h=>by simp[T.jb]at h
 |t::r,x,h=>by
  simp only[T.jb]at h⊢;rcases bu.1 h with h|h
  ·have:=AZ t x h;exact⟨λi hi=>gM _ (this.1 i hi),λa b i hi=>gM _ (this.2 a b i hi)⟩
  ·have:=ng r x h;exact⟨λi hi=>jE _ (this.1 i hi),λa b i hi=>jE _ (this.2 a b i hi)⟩
end
namespace T
theorem N7{l m:List T}(h:l.Sublist m):dJ l<=dJ m:=by
 induction h with
 |slnil=>exact ax _
 |cons a _ b=>simp only[dJ];omega
 |cons_cons a _ b=>simp only[dJ];omega
theorem oZ{t:T}(h:t.shape=true):(t.aA=1\/t.aA=2)/\t.ay.length=0\/(t.aA=3\/t.aA=5\/t.aA=6)/\t.ay.length=2\/t.aA=4/\t.ay.length=1\/t.aA=7/\1<=t.ay.length/\t.ay.length<=4:=by
 obtain⟨k,s,g⟩:=t;simp only[shape]at h;split at h
 ·rename_i d;rw[ah,fD]at h;exact .inl ⟨d,h.2⟩
 ·rename_i d;rw[ah,ah]at h;have a:=h.1.1;unfold gZ at a;simp only[aA,ay];by_cases e:k=3\/k=5
  ·rw[aJ e,fD]at a;exact .inr (.inl ⟨aar,a⟩)
  ·rw[aH e]at a;by_cases f:k=6
   ·rw[aJ f,ah,fD]at a;exact .inr (.inl ⟨aar,a.1⟩)
   ·rw[aH f]at a;by_cases b:k=4
    ·rw[aJ b,fD]at a;exact .inr (.inr (.inl ⟨b,a⟩))
    ·rw[aH b]at a;by_cases c:k=7
     ·rw[aJ c,ah,ah,bO,bO]at a;exact .inr (.inr (.inr ⟨c,a.1.1,a.1.2⟩))
     ·rw[aH c]at a;cases a
theorem Sv{k:Int}{s:ByteArray}{d l:List T}(h:(T.mk k s d).shape=true)(g:k=7)(a:l.Sublist d)(i:l≠[]):(T.mk 7 ⟨#[]⟩ l).shape=true:=by
 subst g;have j:=a.length_le;have m:=List.length_pos_iff.2 i;simp only[shape]at h⊢;rw[aH aat,ah,ah]at h;rw[aH aat,ah,ah];obtain⟨⟨b,_⟩,e⟩:=h;unfold gZ at b⊢;rw[aH aat,aH aat,aH aat,aJ rfl,ah,ah,bO,bO]at b;rw[aH aat,aH aat,aH aat,aJ rfl,ah,ah,bO,bO];refine⟨⟨⟨⟨aar,aar⟩,?_⟩,aas⟩,?_⟩
 ·have f:=b.2;rw[bT,fH]at f⊢;exact λx c=>f x (a.subset c)
 ·rw[mo]at e⊢;exact λx c=>e x (a.subset c)
mutual
theorem tL:∀(t:T),t.shape=true->∀x∈subs t,x.shape=true/\x.size<=t.size
 |.mk k s b,h,x,a=>by
  simp only[subs]at a;rcases bM.1 a with rfl|a;·exact⟨h,ax _⟩
  ·have d:dV b=true:=by
    have h':=h;simp only[shape]at h';split at h'
    ·rw[ah,fD]at h';rw[bR h'.2];rfl
    ·rw[ah]at h';exact h'.2
   rcases bu.1 a with a|a
   ·have:=Cu b d x a;exact⟨this.1,by simp only[size];omega⟩
   ·split at a
    ·rename_i e;obtain⟨l,f,rfl⟩:=ek.1 a;obtain⟨g,i⟩:=fU.1 f;have c:=AX g;have:=N7 c;exact⟨Sv h e c (by rintro rfl;simp at i),by simp only[size];omega⟩
    ·cases a
theorem Cu:∀(l:List T),dV l=true->∀x∈jb l,x.shape=true/\x.size<=dJ l
 |[],_,x,a=>by simp[jb]at a
 |t::r,h,x,a=>by
  simp only[dV,ah]at h;simp only[jb]at a;rcases bu.1 a with a|a
  ·have:=tL t h.1 x a;exact⟨this.1,by simp only[dJ];omega⟩
  ·have:=Cu r h.2 x a;exact⟨this.1,by simp only[dJ];omega⟩
end
mutual
theorem Vi:∀(t:T),t.shape=true->(subs t).length<=17*t.size
 |.mk k s a,h=>by
  have b:=oZ h;have c:dV a=true:=by
   have h':=h;simp only[shape]at h';split at h'
   ·rw[ah,fD]at h';rw[bR h'.2];rfl
   ·rw[ah]at h';exact h'.2
  have d:=AY a c;simp only[subs,size,bg,aF];simp only[aA,ay]at b;split
  ·rename_i e;have f:(((Ej a).filter λl=>!l.isEmpty).map (T.mk 7 ⟨#[]⟩)).length<=16:=by
    rw[bZ];refine aG (gF _ _) ?_;rw[Ja];exact aG (oG aat (show a.length<=4 by omega)) aat
   omega
  ·simp only[fE];omega
theorem AY:∀(l:List T),dV l=true->(jb l).length<=17*dJ l
 |[],_=>by simp[jb,dJ]
 |t::r,h=>by
  simp only[dV,ah]at h;have a:=Vi t h.1;have b:=AY r h.2;simp only[jb,dJ,aF];omega
end
end T
theorem FW(l:List T)(h:∀t∈l,t.size<=40):T.dJ l<=40*l.length:=by
 induction l with
 |nil=>simp[T.dJ]
 |cons a r b=>
  have:=b λt c=>h t (aY _ c);have:=h a aau;simp only[T.dJ,bg];omega
theorem Yw{a:List T}(d:∀t∈a,t.eZ=true)(k:a.length<=1000):yB (T.jb a):=by
 have f:T.dV a=true:=(T.mo a).2 λt b=>(aN.1 (d t b)).2;refine⟨λt b i hi=>(ng a t b).1 i hi,λt b g c i hi=>(ng a t b).2 g c i hi,λx h=>?_,?_⟩
 ·obtain⟨t,b,j⟩:=T.uo.1 h;have c:=aN.1 (d t b);have e:=T.tL t c.2 x j;have l:=ak c.1;unfold T.eZ;rw[ah];exact⟨aM aar,e.1⟩
 ·have c:=T.AY a f;have e:=FW a λt b=>ak (aN.1 (d t b)).1;omega
theorem yc{α:Type}[DecidableEq α]:∀{l m:List α},l.Nodup->(∀x∈l,x∈m)->l.length<=m.length
 |[],_,_,_=>aT _
 |a::r,m,d,h=>by
  have b:=h a aau;obtain⟨f,g⟩:=List.nodup_cons.1 d;have:=yc (l:=r) (m:=m.erase a) g λx c=>by
   have i:x≠a:=λe=>f (by rw[<-e];exact c);exact(List.mem_erase_of_ne i).2 (h x (aY _ c))
  rw[List.length_erase_of_mem b]at this;have:=List.length_pos_of_mem b;simp only[bg];omega
structure Inv (U:List T) (W:List fG):Prop where
 apart:(W.map λs=>s.t.key).Nodup
 mem:∀s∈W,s.t∈U
theorem Inv.nil(U:List T):Inv U []:=⟨zK,λs h=>by cases h⟩
theorem Inv.len{U:List T}{W:List fG}(h:Inv U W):W.length<=U.length:=by
 have:=yc (l:=W.map λs=>s.t.key) (m:=U.map T.key) h.apart λx a=>by
  obtain⟨s,b,rfl⟩:=ek.1 a;exact ek.2 ⟨_,h.mem s b,rfl⟩
 rwa [bZ,bZ]at this
theorem Hw{W:List fG}{k:ByteArray}(h:jl W k=none):∀s∈W,s.t.key≠k:=λs a e=>by
 unfold jl at h;rw[wK]at h;have:=h s a;rw[kR]at this;exact this e
theorem Rp{W:List fG}{k:ByteArray}{i:Nat}(h:jl W k=some i):∃hi:i<W.length,W[i].t.key=k:=by
 unfold jl at h;rw[jS]at h;obtain⟨hi,a,_⟩:=h;exact⟨hi,ak a⟩
theorem Inv.push{U:List T}{W:List fG}(h:Inv U W)(s:fG)(d:s.t∈U)(e:jl W s.t.key=none):Inv U (W++[s]):=by
 refine⟨?_,λx c=>?_⟩
 ·rw[gG];refine List.nodup_append.2 ⟨h.apart,aau,λa f b hb=>?_⟩;simp only[jH,qP,bD]at hb;obtain⟨x,c,rfl⟩:=ek.1 f;rw[hb];exact Hw e x c
 ·rcases bu.1 c with c|c;·exact h.mem x c
  ·rw[bD]at c;rw[c];exact d
theorem K9(W:List fG)(i:Nat):(Wb.mark W i).map (λs=>s.t.key)=W.map λs=>s.t.key:=by
 apply sK;·rw[bZ,bZ,kZ]
 ·intro j c b;rw[ic,ic];have a:j<W.length:=aa9;rw[(yJ W i j (by rw[kZ];exact a) a).1]
theorem Inv.mark{U:List T}{W:List fG}(h:Inv U W)(i:Nat):Inv U (Wb.mark W i):=by
 refine⟨by rw[K9];exact h.apart,λx b=>?_⟩;obtain⟨j,hj,rfl⟩:=bL b;have a:j<W.length:=abd;rw[(yJ W i j hj a).1];exact h.mem _ (aP a)
namespace Wb
theorem ry{W:List fG}{t:T}{how:Nat}{jw:List Nat}{i:Nat}(h:find W t=some i):add W t how jw=(W,i):=by unfold add;rw[h]
theorem rq{W:List fG}{t:T}{how:Nat}{jw:List Nat}(h:find W t=none):add W t how jw=(W++[⟨t,how,jw,false⟩],W.length):=by unfold add;rw[h]
theorem Bj{U:List T}{W:List fG}{t:T}(how:Nat)(jw:List Nat)(h:Inv U W)(b:t∈U):Inv U (add W t how jw).1:=by
 cases a:find W t with
 |some i=>rw[ry a];exact h
 |none=>rw[rq a];exact h.push _ b a
theorem ru(W:List fG)(t:T)(how:Nat)(jw:List Nat):W <+:(add W t how jw).1/\(add W t how jw).2<(add W t how jw).1.length:=by
 cases a:find W t with
 |some i=>rw[ry a];exact⟨lC _,Hu a⟩
 |none=>rw[rq a];exact⟨List.prefix_append _ _,aau⟩
theorem rT{U:List T}{W:List fG}{t:T}(how:Nat)(jw:List Nat)(h:Inv U W)(a:t∈U):Inv U (take W t how jw).1:=by
 unfold take;split;·exact Bj how jw h a
 ·exact(Bj how jw h a).mark _
theorem take_len(W:List fG)(t:T)(how:Nat)(jw:List Nat):W.length<=(take W t how jw).1.length:=by
 have:=(ru W t how jw).1.length_le;unfold take;split;·exact this
 ·rw[kZ];exact this
def BS(U:List T)(rec:List fG->T->List fG×Option Nat)(t:T):Prop:=∀W,Inv U W->Inv U (rec W t).1/\W <+:(rec W t).1/\∀i,(rec W t).2=some i->i<(rec W t).1.length
theorem EF{U:List T}{rec:List fG->T->List fG×Option Nat}{t:T}(how:Nat)(k:t∈U)(h0:BS U rec (t.eT 0))(l:BS U rec (t.eT 1)):BS U (λW t=>both rec W t how) t:=λW m=>by
 obtain⟨e,c,n⟩:=h0 W m;obtain⟨f,g,b3⟩:=l _ e;cases d:(rec W (t.eT 0)).2 with
 |none=>
  simp only[both,d];exact⟨e,c,λi h=>by cases h⟩
 |some a=>
  cases hb:(rec (rec W (t.eT 0)).1 (t.eT 1)).2 with
  |none=>
   simp only[both,d,hb];exact⟨f,c.t g,λi h=>by cases h⟩
  |some b=>
   simp only[both,d,hb];have j:=ru (rec (rec W (t.eT 0)).1 (t.eT 1)).1 t how [a,b];exact⟨Bj _ _ f k,(c.t g).t j.1,λi h=>by injection h with h;rw[<-h];exact j.2⟩
theorem NH{U:List T}{rec:List fG->T->List fG×Option Nat}{t:T}(b:t∈U)(d:∀i,i<t.ay.length->1<t.ay.length->BS U rec (t.iF i)):∀(f i:Nat),f+i=t.ay.length->BS U (λW _=>pow rec t f i W) t
 |0,i,_,W,a=>⟨a,lC _,λj h=>by cases h⟩
 |f+1,i,o,W,a=>by
  have e:=NH b d f (i+1) aar;simp only[pow];split;·exact e W a
  ·rename_i nm q;split
   ·have c:=ru W t 11 [nm];exact⟨Bj _ _ a b,c.1,λj h=>by injection h with h;rw[<-h];exact c.2⟩
   ·rename_i r;obtain⟨g,k,s⟩:=d i aar aar W a;split
    ·obtain⟨m,n,b3⟩:=e _ g;exact⟨m,k.t n,b3⟩
    ·rename_i p c;have l:=ru (rec W (t.iF i)).1 t 10 [p,nm];exact⟨Bj _ _ g b,k.t l.1,λj h=>by injection h with h;rw[<-h];exact l.2⟩
theorem lI{U:List T}(hU:yB U):∀(n:Nat) (t:T),t∈U->BS U (build n) t
 |0,t,_,W,a=>⟨a,lC _,λj h=>by cases h⟩
 |n+1,t,b,W,a=>by
  have l:=T.oZ (aN.1 (hU.ok t b)).2;have c:∀i,i<t.ay.length->BS U (build n) (t.eT i):=λi hi=>lI hU n _ (hU.eT t b i hi);simp only[build];split
  ·rename_i i hi;exact⟨a,lC _,λj h=>by injection h with h;rw[<-h];exact Hu hi⟩
  ·split
   ·rename_i o;obtain⟨d,e,p⟩:=c 0 aar W a;split;·exact⟨d,e,λi h=>by cases h⟩
    ·rename_i m q;have f:=ru (build n W (t.eT 0)).1 t 7 [m];exact⟨Bj _ _ d b,e.t f.1,λi h=>by injection h with h;rw[<-h];exact f.2⟩
   ·split;·exact EF 6 b (c 0 aar) (c 1 aar) W a
    ·split;·exact EF 8 b (c 0 aar) (c 1 aar) W a
     ·split;·exact EF 9 b (c 0 aar) (c 1 aar) W a
      ·split
       ·rename_i g;exact NH b (λi hi k=>lI hU n _ (hU.less t b g k i hi)) t.ay.length 0 rfl W a
       ·exact⟨a,lC _,λj h=>by cases h⟩
end Wb
end
section
open Go.RowKit Go.Maps
variable {X:Nat->Bool}
theorem Src.news(w:World)(cs:List Value)(e:TypeId)(size:Nat)(h:cs.length=size):Src (w.alloc (.cells cs.toArray e)) size (some ⟨w.heap.size,0,none⟩) 1 cs:=by
 refine⟨aar,.inr ⟨_,0,rfl,λj u hu=>?_⟩⟩;rw[eP];have e:=bP w (.cells cs.toArray e);unfold World.cell?;rw[e];simpa using hu
theorem Tryz.YZ:(Tryz.prog.info? 197).map (λi=>(i.zero,i.size,i.bytes))=some (some (.agg #[.int .i64 0,.string ByteArray.empty,.slice none 0 0,.int .i64 0,.slice none 0 0]),5,80):=by kernel_rfl
theorem Tryz.XW:(Tryz.prog.info? 4).map (λi=>(i.zero,i.size,i.bytes))=some (some (.bool false),1,1):=by kernel_rfl
theorem Yy(n:Nat)(h:n<=1048576):(Lit.int .i64 (n:Int)).wf=true:=WalkArith.wf_i64 aar
theorem Si{P:Prop}{A':Option Addr}{n c:Nat}{row:Option Nat}{z:Nat}(h:A'.map (·.block)=row\/A'.map (·.block)=some z)(_:P):(Value.slice A' n c).ownBlock=row\/(Value.slice A' n c).ownBlock=some z:=by
 cases A'<;>exact h
theorem gz.told{B g M:Nat}{vs vp:Value}{W:List fG}{w:World}(h:gz X B w g M vs vp W)(K:ByteArray)(e:K.size<=3145728):∃D n w5,zh D W/\Maps.IsMap D/\n<=W.length/\Sem.run Tryz.prog (Instr.mapUpdate 91 (.map (some M)) (.string K) (.int .i64 (W.length:Int))) w=.ok () w5/\
 w5.ownsMap Tryz.prog 9 (plainElem (H:=Unit) Tryz.prog 3) M (n+1) (D.put (kl K) (.lit (.int .i64 (W.length:Int))))/\w.mapTurned w5 M:=by
 obtain⟨D,n,d,f,i⟩:=h.map;have j:=h.size;obtain⟨w5,a,b,c⟩:=d.store Ik oh aaS (Qm K e) (plainElem_int (H:=Unit) gy (Yy W.length j));exact⟨D,n,w5,i,d.isMap,f,a,b,c⟩
theorem uk{w w':World}{M:Nat}{p:Addr}{v:Value}(a:w.mapTurned w' M)(h:w.cell? p=some v):w'.cell? p=some v:=by
 refine a.grown.cell h (λe=>?_);obtain⟨b,k,_,_,hb,_⟩:=a;injection e with e;unfold World.cell? at h;rw[e,hb]at h;cases h
theorem sP{w:World}{g:Nat}{a b c:Value}{e:TypeId}(h:w.heap[g]?=some (.cells #[a,b,c] e (0,0))):w.cell? ⟨g,0,none⟩=some a/\w.cell? ⟨g,1,none⟩=some b/\w.cell? ⟨g,2,none⟩=some c/\w.frozen? ⟨g,0,none⟩=false/\w.frozen? ⟨g,2,none⟩=false:=by
 refine⟨?_,?_,?_,?_,?_⟩<;>simp[World.cell?,World.frozen?,h]
theorem Bn{w w8:World}{g:Nat}{o a:Obj}{row:Option Nat}(h:w.heap[g]?=some o)(c:row≠some g)(d:(w.drew.alloc a).grownBy w8 row):w8.heap[g]?=some o:=by
 have b:=(aW.1 h).1;rw[d.block g (by rw[aK];exact Nat.lt_succ_of_lt b) (λe=>c e.symm),fK w.drew a g b];exact h
def ZB(B g n:Nat)(xs cs:List Value)(w6:World)(row:Option Nat)(W':World):Prop:=∃a c b,W'=b.setCell ⟨g,0,none⟩ (.slice (some ⟨a,0,none⟩) (n+1) c)/\b.ownsRow B 197 5 (.slice (some ⟨a,0,none⟩) (n+1) c) (n+1) (xs++cs)/\w6.grownBy b row/\(row=some a\/a=w6.heap.size)
theorem mI.after{B g M:Nat}{vs vp vs' mK:Value}{w w1 w':World}{W':List fG}(h:Fr X B g M vs vp w vs' mK w1)(h':mI X B g M w1 vs' mK W' w'):mI X B g M w vs vp W' w':=by
 obtain⟨a,b,c,d⟩:=h';exact⟨a,b,c,h.t d⟩
theorem OH{w w8:World}{g:Nat}{o:Obj}{row:Option Nat}(h:w.heap[g]?=some o)(a:row≠some g)(b:w.grownBy w8 row):w8.heap[g]?=some o:=
 (b.block g (aW.1 h).1 (λe=>a e.symm)).t h
theorem acW{p:Prop}(h:p:=by
 go_simp;(first|(refine a _ _ ?_;clear a K)|skip);refine bY (rs:=[10]) aas aau ?_;refine bH aa4 (λK a=>?_) ?_
 ·(refine dW _ aav _ _ _ aav B 197 i0 _ 5 80 vO aP aQ aT aU rfl aar _ _ _ aav bg.o ⟨_,0,none⟩ 1 1 _ aav aav (cZ (bP _ _)) bf.o aar aaS aar ak _ rfl ?_;intro y z C J f L bF;have b8:=Bn ah.o aC.o f;obtain⟨bG,_,_,bJ,_⟩:=sP b8;go_simp);(first|(refine a _ _ ?_;clear a K)|skip);(refine eG (i:=11) (v:=?_) aa4 aas aas aas aa3 (Or.inl ⟨aav,?_⟩) ?_;rotate_left 1;· (intro w;go_simp;(try with_reducible rfl)));(refine eG (i:=12) (v:=?_) aa4 aas aas aas aa3 (Or.inl ⟨aav,?_⟩) ?_;rotate_left 1;· (intro w;go_simp;(try with_reducible rfl)));refine bY (rs:=[13]) aas aau ?_;refine bH aa4 (λK a=>?_) ?_
  ·go_simp;(first|(refine a _ _ ?_;clear a K)|skip);refine kX aas ?_ _;go_wp2_with fail;go_meet;exact⟨y,z,C,rfl,J,f,L⟩
  exact bS
 exact bS):p:=h
theorem Wm{B g M:Nat}{vs vp:Value}{W:List fG}(t:T)(v:Value)(w:World)(how:Nat)(jw:List Nat)(F:Option Addr)(j:Nat)(h:gz X B w g M vs vp W)(ht:bI (nr X g M vs vp) w v t)(aJ:t.bE<=1048576)
 (hF:lH (nr X g M vs vp) w F jw) (aM:jl W t.key=none->W.length<1048576):
 Calls Tryz.prog 210 #[.pointer (some ⟨g,0,none⟩),v,.int .i64 (how:Int),.slice F jw.length j] w λe w'=>e=.returned (.int .i64 ((Wb.add W t how jw).2:Int))/\mI X B g M w vs vp (Wb.add W t how jw).1 w':=by
 obtain⟨c,d,rfl⟩:=ht.view;obtain⟨o,c1,A,c2,rfl,rfl⟩:=h.shapes;obtain⟨aN,U⟩:=aab ((λ(W':World) (bN:aS W' (.agg #[.int .i64 t.aA,.string t.aI,.slice c t.ay.length d]) t)=>(show Calls Tryz.prog 95 #[.agg #[.int .i64 t.aA,.string t.aI,.slice c t.ay.length d]] W' λe w'=>e=.returned (.string t.key)/\Below W'.heap.size W' w' from DV t _ W' bN aJ))) ((λ(W':World) (hW:gz X B W' g M (.slice o W.length c1) (.slice A W.length c2) W) (hT:aS W' (.agg #[.int .i64 t.aA,.string t.aI,.slice c t.ay.length d]) t)=>QF t _ W' hW hT aJ));have V:=ae w (.cells #[.int .i64 t.aA,.string t.aI,.slice c t.ay.length d] 29);have E:=jy.new w (.int .i64 t.aA) (.string t.aI) (.slice c t.ay.length d);have hz:=h.lt.2;obtain⟨N,P,ax,Y⟩:=aad (h.ag V) (ht.aR (λb hb l=>⟨hb,V.block b l⟩)) (hF.aR (λb hb l=>⟨hb,V.block b l⟩)) (((Fr.refl (X:=X) B g M (.slice o W.length c1) (.slice A W.length c2) w).ag hz V));have dR:=h.size;clear h ht hF V;cases G:jl W t.key with
 |some i=>
  rw[Wb.ry G];rw[G]at U;clear aM G;show Calls _ _ _ _ (λe w'=>e=.returned (.int .i64 (i:Int))/\mI X B g M w (.slice o W.length c1) (.slice A W.length c2) W w');generalize t.aA=k at*;go_enter Tryz.func210,Tryz.ntmps210;go_upto_region 1 with fail;generalize w.alloc _=w1 at E N P ax Y⊢;obtain⟨x0,Z,x2⟩:=E.cells;clear E;go_wp2_with fail;refine(U.o _ N.o P.o.at).m ?_;rintro e w2 ⟨he,q⟩;have aO:e=.returned (.int .i64 (i:Int)):=he;clear he;subst aO;have hi:(0:Int)<=(i:Int):=aar;have HE:=aa (show mI X B g M w (.slice o W.length c1) (.slice A W.length c2) W w2 from⟨_,_,N.o.ag q,Y.o.ag hz q⟩);clear q x0 Z x2;go_wp2_with fail;go_ret;exact⟨rfl,HE.o⟩
 |none=>
  rw[Wb.rq G];rw[G]at U;have bO:=aM G;have HK:=aa G;clear aM G;show Calls _ _ _ _ (λe w'=>e=.returned (.int .i64 (W.length:Int))/\mI X B g M w (.slice o W.length c1) (.slice A W.length c2) (W++[⟨t,how,jw,false⟩]) w');obtain⟨i0,aP,aQ,aT,aU⟩:=dU Tryz.YZ;obtain⟨i1,bQ,bR,bT,bU⟩:=dU Tryz.XW;obtain⟨KY,az⟩:=aay t.key;have bV:=aa az;have bW:=aa (show KY.size<=3145728 by rw[<-az];exact t.Ig aJ);rw[az]at aN;clear az;obtain⟨k,hk⟩:=aay t.aA;obtain⟨nm,aV⟩:=aay t.aI;obtain⟨kn,aX⟩:=aay t.ay.length;have HV:=aa (show t.aA=k/\t.aI=nm/\t.ay.length=kn from⟨hk,aV,aX⟩);rw[hk,aV,aX]at E aN U N P ax Y⊢;clear hk aV aX;go_enter Tryz.func210,Tryz.ntmps210;go_upto_region 1 with fail;generalize w.alloc _=w1 at E N P ax Y⊢;have BX:=aa E;obtain⟨x0,Z,x2⟩:=E.cells;clear E;go_wp2_with fail;refine(U.o _ N.o P.o.at).m ?_;rintro e w2 ⟨he,q⟩;have aO:e=.returned (.int .i64 (-1)):=he;clear he;subst aO;obtain⟨bX,bi,bn,bZ,cu⟩:=aae (BX.o.ag q) (N.o.ag q) (P.o.aR (λb hb l=>⟨hb,q.block b l⟩)) (ax.o.aR (λb hb l=>⟨hb,q.block b l⟩)) (Y.o.ag hz q);clear q x0 Z x2;go_upto_region 4 with fail;obtain⟨x0,Z,x2⟩:=bX.o.cells;obtain⟨d0,d1,d2,_,_⟩:=bi.o.cells;refine dm (S:=(λWq=>Wq.cell? ⟨g,1,none⟩=some (.map (some M))/\Wq.cell? ⟨g,0,none⟩=some (.slice o W.length c1)/\Wq.cell? ⟨w.heap.size,0,none⟩=some (.int .i64 k)/\Wq.cell? ⟨w.heap.size,1,none⟩=some (.string nm)/\Wq.cell? ⟨w.heap.size,2,none⟩=some (.slice c kn d))) aas (show _/\_/\_/\_/\_ from⟨d1,d0,x0,Z,x2⟩) (λhHeld=>?_);refine dz 0 _ ?_;refine dz 1 _ ?_;refine dz 2 _ ?_;refine dz 3 _ ?_;refine dz 4 _ ?_;refine dz 6 _ ?_;refine dz 7 _ ?_;refine dz 8 _ ?_;refine dz 9 _ ?_;refine dz 10 _ ?_;(refine yR 5 λK a=>?_;go_simp;go_at_call 95;refine(aN.o _ bn.o.at.drew).m ?_;rintro e w4 ⟨rfl,Q⟩;have aB:=jN Q;have O:=aa (bi.o.ag aB);obtain⟨D,n,r,bq,bu,bv,dS,bz,m⟩:=O.o.told KY bW.o;refine mZ a (⟨af Q hHeld.1,af Q hHeld.2.1,af Q hHeld.2.2.1,af Q hHeld.2.2.2.1,af Q hHeld.2.2.2.2⟩) λhHeld=>?_;clear a K);(refine yR 11 λK a=>?_;go_simp;go_simp;refine mZ a (⟨uk m hHeld.1,uk m hHeld.2.1,uk m hHeld.2.2.1,uk m hHeld.2.2.2.1,uk m hHeld.2.2.2.2⟩) λhHeld=>?_;clear a K);refine fB aas ?_ _;have I:=O.o.apart;obtain⟨dE,bA,bB⟩:=O.o.steps;have cz:=aa bA;have ah:=aa (show r.heap[g]?=_ from(m.grown.block g I.g (λe=>I.gm abb)).t O.o.box);have cB:=aa (oN bB λb e _=>m.grown.block b (I.s b e).2.1 (λx=>(I.s b e).2.2.2.1 (by injection x)));have cK:=aa (oN O.o.part λb e _=>m.grown.block b (I.p b e).2.1 (λx=>(I.p b e).2.2.2.1 (by injection x)));obtain⟨cO,df,dh,dn,dw,aY⟩:=aaf m bz bq bu bv I;have dx:=aa (show qo (nr X g M (.slice o W.length c1) (.slice A W.length c2)) w4 [.int .i64 k,.string nm,.slice c kn d,.int .i64 (how:Int),.slice F jw.length j] ⟨t,how,jw,false⟩from by
   obtain⟨v1,v2,v3⟩:=HV.o;refine⟨c,d,F,j,by rw[v1,v2,v3],?_,bZ.o.aR (λb hb l=>⟨hb,aB.block b l⟩)⟩;rw[v1,v2,v3];exact bn.o.aR (λb hb l=>⟨hb,aB.block b l⟩))
  have dA:B<=r.heap.size:=aG O.o.lt.2 m.grown.size;have aZ:=ah.o;have y0:r.cell? ⟨g,0,none⟩=some (.slice o W.length c1):=(by unfold World.cell?;rw[aZ];rfl);have y2:r.cell? ⟨g,2,none⟩=some (.slice A W.length c2):=(by unfold World.cell?;rw[aZ];rfl);have bf:=aa (show ∀u∈[Value.int .i64 k,.string nm,.slice c kn d,.int .i64 (how:Int),.slice F jw.length j],u.oneCell'=true from λu hu=>by
   simp at hu;rcases hu with rfl|rfl|rfl|rfl|rfl<;>rfl)
  clear bA bB m bz bq bu bv I aZ d0 d1 d2 y0;obtain⟨_,y0,b0,b1,b2⟩:=hHeld;obtain⟨o5,bC⟩:∃o5,o5=Obj.cells #[.int .i64 k,.string nm,.slice c kn d,.int .i64 (how:Int),.slice F jw.length j] 197 (0,0):=⟨_,rfl⟩;have bg:=aa (cB.o.drew.alloc (.cells #[.int .i64 k,.string nm,.slice c kn d,.int .i64 (how:Int),.slice F jw.length j] 197));have ak:B<=(r.drew.alloc (.cells #[.int .i64 k,.string nm,.slice c kn d,.int .i64 (how:Int),.slice F jw.length j] 197)).heap.size:=(by rw[aK];exact nZ dA);have aC:=aa (show(Value.slice o W.length c1).ownBlock≠some g from λe=>(aY.o.s g e).2.2.1 rfl);have dB:=af (ae r (.cells #[.int .i64 k,.string nm,.slice c kn d,.int .i64 (how:Int),.slice F jw.length j] 197)) y0;have dV:=aa bC;clear y2 bC;go_upto_region 5 with fail;go_cut []from 27 to 40 (λW'=>ZB B g W.length dE.flatten [.int .i64 k,.string nm,.slice c kn d,.int .i64 (how:Int),.slice F jw.length j] (r.drew.alloc (.cells #[.int .i64 k,.string nm,.slice c kn d,.int .i64 (how:Int),.slice F jw.length j] 197)) (Value.slice o W.length c1).ownBlock W')
  case first=>
   refine pY aas ?_;(try(change wpAny _ _ _ _ _ _ _ (World.drew _)));(refine eG (i:=0) (v:=?_) aa2 aas aas aas aa3 (Or.inl ⟨aav,?_⟩) ?_;rotate_left 1;· (intro w;go_simp;(try with_reducible rfl)));(refine eG (i:=1) (v:=?_) aa4 aas aas aas aa3 (Or.inl ⟨aav,?_⟩) ?_;rotate_left 1;· (intro w;go_simp;(try with_reducible rfl)));(refine eG (i:=2) (v:=?_) aa4 aas aas aas aa3 (Or.inl ⟨aav,?_⟩) ?_;rotate_left 1;· (intro w;go_simp;(try with_reducible rfl)));(refine eG (i:=3) (v:=?_) aa4 aas aas aas aa3 (Or.inl ⟨aav,?_⟩) ?_;rotate_left 1;· (intro w;go_simp;(try with_reducible rfl)));(refine eG (i:=6) (v:=?_) aa4 aas aas aas aa3 (Or.inl ⟨aav,?_⟩) ?_;rotate_left 1;· (intro w;go_simp;(try with_reducible rfl)));(refine eG (i:=7) (v:=?_) aa4 aas aas aas aa3 (Or.inl ⟨aav,?_⟩) ?_;rotate_left 1;· (intro w;go_simp;(try with_reducible rfl)));refine bY (rs:=[4,5]) aas aau ?_;refine bH aa4 (λK a=>?_) ?_
   ·go_simp;(first|(refine a _ _ ?_;clear a K)|skip);refine bY (rs:=[5]) aas aau ?_;refine bH aa4 (λK a=>?_) ?_
    ·go_simp;(first|(refine a _ _ ?_;clear a K)|skip);(refine eG (i:=8) (v:=?_) aa4 aas aas aas aa3 (Or.inl ⟨aav,?_⟩) ?_;rotate_left 1;· (intro w;go_simp;(try with_reducible rfl)));refine bY (rs:=[9]) aas aau ?_;refine bH aa4 (λK a=>?_) ?_
     ·exact acW
     exact bS
    exact bS
   refine bH aa4 (λK a=>?_) ?_
   ·go_simp;(first|(refine a _ _ ?_;clear a K)|skip);(refine eG (i:=8) (v:=?_) aa4 aas aas aas aa3 (Or.inl ⟨aav,?_⟩) ?_;rotate_left 1;· (intro w;go_simp;(try with_reducible rfl)));refine bY (rs:=[4,9]) aas aau ?_;refine bH aa4 (λK a=>?_) ?_
    ·go_simp;(first|(refine a _ _ ?_;clear a K)|skip);refine bY (rs:=[9]) aas aau ?_;refine bH aa4 (λK a=>?_) ?_
     ·exact acW
     exact bS
    refine bH aa4 (λK a=>?_) ?_
    ·go_simp;(first|(refine a _ _ ?_;clear a K)|skip);refine bY (rs:=[4]) aas aau ?_;refine bH aa4 (λK a=>?_) ?_
     ·exact acW
     exact bS
    exact bS
   exact bS
  case rest=>
   obtain⟨y,z,C,rfl,J,f,L⟩:=hcut;have b8:=Bn ah.o aC.o f;have b9:=(uY b8 (.slice (some ⟨y,0,none⟩) (W.length+1) z)).1;have R:=(ae r.drew (.cells #[.int .i64 k,.string nm,.slice c kn d,.int .i64 (how:Int),.slice F jw.length j] 197));have dC:B<=(C.setCell ⟨g,0,none⟩ (.slice (some ⟨y,0,none⟩) (W.length+1) z)).heap.size:=(by rw[rQ];exact aG ak f.size);have dD:=aa (show(C.setCell ⟨g,0,none⟩ (.slice (some ⟨y,0,none⟩) (W.length+1) z)).ownsRow B 4 1 (.slice A W.length c2) W.length (W.map λs=>Value.bool s.part)from oN cK.o λb e hb=>by
    obtain⟨_,_,a3,_,a5⟩:=aY.o.p b e;rw[aL _ _ _ _ a3,f.block b (by rw[aK];exact Nat.lt_succ_of_lt hb) (λx=>a5 x.symm),fK r.drew _ b hb];rfl)
   have dF:=aa (show r.ownsMap Tryz.prog 9 (plainElem (H:=Unit) Tryz.prog 3) M (n+1) (D.put (kl t.key) (.lit (.int .i64 (W.length:Int))))from by rw[bV.o];exact df.o);have dH:=aa (λmK w9 kJ dI aD av aF=>gz.Yj (t:=t) (how:=how) (jw:=jw) (mK:=mK) (w9:=w9) (kJ:=kJ) O.o cz.o dh.o dn.o dw.o cO.o dF.o dx.o HK.o bO ⟨R.os,R.tape,R.output,R.size,R.block⟩ J f (L.elim (λe=>.inl e.symm) (λe=>.inr (by rw[e];rfl))) dI aD av aF);obtain⟨dJ,bK⟩:=aab (show(Value.slice A W.length c2).ownBlock≠some g from λe=>(aY.o.p g e).2.2.1 rfl) b9;clear b8 J f L R y0 dB ak;generalize C.setCell ⟨g,0,none⟩ (.slice (some ⟨y,0,none⟩) (W.length+1) z)=w9 at*;obtain⟨e0,_,e2,_,_⟩:=sP b9;clear b9;have aH:=ae w9 (.cells #[.bool false] 4);have dK:=aa (dG dD.o aH);have dL:B<=(w9.alloc (.cells #[.bool false] 4)).heap.size:=(by rw[aK];exact nZ dC);obtain⟨dM,dN⟩:=aab (((aH.block g (aW.1 bK.o).1).t bK.o)) aH;clear aH;go_upto_region 7 with(at_builtin;refine fq _ rfl _ _ 193 rfl B 4 i1 _ 1 1 Tryz.underlying193 bQ bR bT bU rfl aar _ _ _ rfl dK.o _ 1 1 [.bool false] rfl (Src.news _ _ _ 1 rfl) (by intro u hu;rw[bD]at hu;subst hu;rfl) aaS aar dL ?_;intro bL bM kJ aD av aF;have Qb:=OH dM.o dJ.o av;obtain⟨_,_,dO,_,dP⟩:=sP Qb);have HE:=aa (mI.after (cu.o.ag hz aB) (dH.o _ _ _ dN.o aD av (Si aF trivial)));obtain⟨q0,_,_,_,_⟩:=sP (uY Qb (.slice bL (W.length+1) bM)).2;clear Qb aD av aF dO dP e0 e2;generalize kJ.setCell ⟨g,2,none⟩ (.slice bL (W.length+1) bM)=wf at HE q0⊢;go_wp2_with fail;go_ret;exact⟨rfl,HE.o⟩
end
section
open Go.RowKit Go.Maps
variable {X:Nat->Bool}
theorem Jj(W:List fG)(i:Nat):(W.map λs=>Value.bool s.part).set i (.bool true)=(Wb.mark W i).map λs=>Value.bool s.part:=by
 apply sK;·rw[kT,bZ,bZ,kZ]
 ·intro j b c;rw[xM,ic,ic];have a:j<W.length:=aa9;rw[(yJ W i j (by rw[kZ];exact a) a).2.2.2];split<;>rfl
theorem gz.marked{B g M c d:Nat}{vs:Value}{W:List fG}{w:World}{n:Nat}(h:gz X B w g M vs (.slice (some ⟨c,0,none⟩) n d) W)(j:n=W.length)(i:Nat):
 mI X B g M w vs (.slice (some ⟨c,0,none⟩) n d) (Wb.mark W i) (w.setCell ⟨c,i,none⟩ (.bool true)):=by
 subst j;have l:=h.apart;obtain⟨m,z,o,q,r⟩:=l.p c rfl;have F:Fr X B g M vs (.slice (some ⟨c,0,none⟩) W.length d) w vs (.slice (some ⟨c,0,none⟩) W.length d) (w.setCell ⟨c,i,none⟩ (.bool true)):=
  Fr.grown h.lt.2 (CF w ⟨c,i,none⟩ (.bool true)) (λk f=>by injection f with f;subst f;exact⟨m,Y5 rfl⟩) (.inl rfl) (.inl rfl)
 obtain⟨dE,s,t⟩:=h.steps;obtain⟨D,n,u,v,y⟩:=h.map;refine⟨vs,_,⟨⟨dE,(s.aR F.aR).mark i,?_⟩,?_,⟨D,n,u.setCell (a:=⟨c,i,none⟩) (λe=>q e.symm) _,by rw[kZ];exact v,y.mark i⟩,?_,h.low,by rw[kZ];exact h.size,λb hb=>h.fresh b abu⟩,F⟩
 ·rw[kZ];exact oN t λb e _=>aL _ _ _ _ (λx=>r (by rw[e,x]))
 ·rw[kZ,<-Jj];exact(h.part.stored i (.bool true)).1
 ·exact(aL w ⟨c,i,none⟩ (.bool true) g (λe=>o e.symm)).t h.box
theorem gz.D5{B g M:Nat}{vs vp:Value}{W:List fG}{w:World}(h:gz X B w g M vs vp W){i:Nat}(hi:i<W.length):∃a b,vp=.slice (some ⟨a,0,none⟩) W.length b/\w.cell? ⟨a,i,none⟩=some (.bool W[i].part)/\w.frozen? ⟨a,i,none⟩=false/\a≠g:=by
 obtain⟨a,b,e,_⟩:=h.part.form aar;subst e;have c:=h.part;refine⟨a,b,rfl,?_,c.frozenAt i,(h.apart.p a rfl).2.2.1⟩;rw[c.cellAt i aar,kQ,az hi];rfl
theorem Xx{B g M:Nat}{vs vp:Value}{W:List fG}(t:T)(v:Value)(w:World)(how:Nat)(jw:List Nat)(F:Option Addr)(u:Nat)(h:gz X B w g M vs vp W)(f:bI (nr X g M vs vp) w v t)(x:t.bE<=1048576)
 (hF:lH (nr X g M vs vp) w F jw) (y:jl W t.key=none->W.length<1048576):
 Calls Tryz.prog 182 #[.pointer (some ⟨g,0,none⟩),v,.int .i64 (how:Int),.slice F jw.length u] w λe w'=>e=.returned (.bool (Wb.take W t how jw).2)/\mI X B g M w vs vp (Wb.take W t how jw).1 w':=by
 obtain⟨j,k,rfl⟩:=f.view;have c:=ae w (.cells #[.int .i64 t.aA,.string t.aI,.slice j t.ay.length k] 29);have l:=jy.new w (.int .i64 t.aA) (.string t.aI) (.slice j t.ay.length k);have I:=h.lt.2;obtain⟨z,m⟩:=aab (((Fr.refl (X:=X) B g M vs vp w).ag I c)) ((Wm t _ _ how jw F u (h.ag c) (f.aR (λb hb n=>⟨hb,c.block b n⟩)) x (hF.aR (λb hb n=>⟨hb,c.block b n⟩)) y));have o:=Wb.ru W t how jw;obtain⟨a,q⟩:=aay ((Wb.add W t how jw).1);obtain⟨i,hi⟩:=aay ((Wb.add W t how jw).2);rw[q,hi]at m o;have A:Wb.take W t how jw=if Wb.partAt a i=true then (a,false) else (Wb.mark a i,true):=by unfold Wb.take;rw[q,hi]
 rw[A];have C:=o.2;clear h f hF y c x o q hi A;have J:=aa (show Wb.partAt a i=a[i].part from by unfold Wb.partAt;rw[az C];rfl);obtain⟨p,r⟩:=aay (a[i].part);have K:=aa r;rw[J.o,r];clear r;obtain⟨R,s⟩:=aay (if p=true then (a,false) else (Wb.mark a i,true));rw[s];have D:=aa s;clear s;go_enter Tryz.func182,Tryz.ntmps182;go_upto_region 1 with fail;generalize w.alloc _=Q at l m z⊢;obtain⟨x0,L,N⟩:=l.cells;clear l;go_wp2_with fail;refine m.o.m ?_;rintro e S ⟨rfl,U,V,d,E⟩;obtain⟨Y,Z,rfl,O,f0,af⟩:=d.D5 C;rw[K.o]at O;have d2:=d.cells.2.2.1;obtain⟨G,H⟩:=aab d (z.o.t E);have P:(0:Int)<=(i:Int)/\(i:Int)<(a.length:Int):=aar;obtain⟨ah,ak⟩:=P;clear d E x0 L N;cases p with
 |true=>
  go_wp2_with fail;go_ret;rw[<-D.o];exact⟨rfl,_,_,G.o,H.o⟩
 |false=>
  go_wp2_with fail;go_ret;rw[<-D.o];exact⟨rfl,mI.after H.o (G.o.marked rfl i)⟩
end
section
open Go.RowKit
theorem zt{P:Program}(w:World)(t e ty:TypeId)(z z0 a z2:Value)(f:P.underlying t=some (.slice e))(g:∀w,(zeroValue e).run P w=.ok z w)(h:z.cells=#[z0,a,z2])(i:∀u∈[z0,a,z2],u.oneCell'=true)(b o c:Nat)
 (k:∀j,j<3->(w.cell? ⟨b,o+j,none⟩).isSome=true) (l:∀j,j<3->w.frozen? ⟨b,o+j,none⟩=false):
 (Builtin.clear_ #[t] ty #[.slice (some ⟨b,o,none⟩) 1 c]).run P w=.ok (.tuple #[]) (w.setCells b o [z0,a,z2]):=by
 have m:(Builtin.zeroCells z.cells 1).toList=[z0,a,z2]:=by
  rw[h];have e:List.range 3=[0,1,2]:=rfl;simp[Builtin.zeroCells,e]
 have d:=run_storeCells_cells (P:=P) b o [z0,a,z2] 0 w (by simpa using k) abr i;simp only[fC]at d;simp[Builtin.clear_,run_underlying f,g,m,d]
theorem mX{a:World}(b:Nat):∀(vs:List Value) (o:Nat) {w:World},Below b a w->Below b a (w.setCells b o vs)
 |[],_,_,h=>h
 |v::r,o,_,h=>mX b r (o+1) (h.setCell (ax _) v)
theorem Wo(b n cap i j:Nat)(cs:List Value)(w:World)(r:cs.length=n*3)(z:j=i+1)(hi:i<n)(B:n<=cap)
 (f:∀j u,cs[j]?=some u->w.cell? ⟨b,j,none⟩=some u) (o:∀j,j<n*3->w.frozen? ⟨b,j,none⟩=false) (s:∀u∈cs,u.oneCell'=true):
 Calls Tryz.prog 220 #[.slice (some ⟨b,0,none⟩) n cap,.int .i64 i,.int .i64 j] w λe w'=>e=.returned (.slice (some ⟨b,0,none⟩) (n-1) cap)/\(∀k u,(cs.take (i*3)++cs.drop (j*3))[k]?=some u->w'.cell? ⟨b,k,none⟩=some u)/\Below b w w':=by
 obtain⟨C,D,M,E,N⟩:=dU Tryz.uN;have O:i<j:=aar;have P:j<=n:=aar;have v:i+(n-j)=n-1:=aar;have F:=aa v;clear v;obtain⟨news,d⟩:∃news,news=cs.drop (j*3):=⟨_,rfl⟩;have g:news.length=(n-j)*3:=(by rw[d,dO,r];omega);obtain⟨A,hA,G⟩:∃A:Addr,(if cap=j then some (⟨b,0,none⟩:Addr) else some ⟨b,j*3,none⟩)=some A/\Hid (∀t u,news[t]?=some u->w.drew.cell? (A.add t)=some u):=by
  by_cases h:cap=j
  ·refine⟨⟨b,0,none⟩,by simp[h],λt u hu=>?_⟩;have h0:news.length=0:=(by rw[g];omega);rw[dS.1 h0]at hu;simp at hu
  ·refine⟨⟨b,j*3,none⟩,by simp[h],λt u hu=>?_⟩;rw[d,gX]at hu;rw[cz];exact f _ u hu
 have s2:=aa (show ∀u∈news,u.oneCell'=true from λu hu=>s u (by rw[d]at hu;exact kM hu));have p:∀k,k<n*3->(w.cell? ⟨b,k,none⟩).isSome=true:=λk m=>by
  have:=az (l:=cs) (i:=k) aar;rw[f k _ this];rfl
 have x:=aa (show ∀t,t<news.length->(w.drew.cell? ⟨b,0+i*3+t,none⟩).isSome=true/\w.drew.frozen? ⟨b,0+i*3+t,none⟩=false from λt q=>by
  rw[g]at q;exact⟨p _ aar,o _ aar⟩)
 obtain⟨a,c⟩:∃a,a=w.drew.setCells b (0+i*3) news:=⟨_,rfl⟩;have H:=aa c;have Q:∀ty,(Builtin.clear_ #[23] ty #[.slice (some ⟨b,(i+(n-j))*3,none⟩) (n-(i+(n-j))) (cap-(i+(n-j)))]).run Tryz.prog a=.ok (.tuple #[]) (a.setCells b ((n-1)*3) [.int .i64 0,.string ByteArray.empty,.slice none 0 0]):=λty=>by
  rw[show n-(i+(n-j))=1 by omega,show i+(n-j)=n-1 by omega];exact zt a _ _ ty (.agg #[.int .i64 0,.string ByteArray.empty,.slice none 0 0]) _ _ _ cB xS (by simp[Value.cells]) aa6 b ((n-1)*3) _
   (λk m=>by rw[c];exact World.isSome_setCells b news _ _ _ (p _ aar)) (λk m=>by rw[c,nJ];exact o _ aar)
 have y:=aa (show(∀k u,(cs.take (i*3)++cs.drop (j*3))[k]?=some u->(a.setCells b ((n-1)*3) [.int .i64 0,.string ByteArray.empty,.slice none 0 0]).cell? ⟨b,k,none⟩=some u)/\Below b w (a.setCells b ((n-1)*3) [.int .i64 0,.string ByteArray.empty,.slice none 0 0]) by
  refine⟨λk u hu=>?_,mX b _ _ (by rw[c];exact mX b _ _ (aC _ _).drew)⟩;have m:k<(n-1)*3:=by
   have:=(aU.1 hu).1;rw[aF,aX,dO]at this;omega
  rw[mG b _ _ _ _ (λ_ _=>.inl m),c];by_cases I:k<i*3
  ·rw[mG b _ _ _ _ (λ_ _=>.inl aaV)];rw[bN aaR,xm I]at hu;exact f k u hu
  ·rw[bq aaR,aX,<-d]at hu;have J:=kg (show i*3<=cs.length by omega);rw[J]at hu;obtain⟨K,L⟩:=aU.1 hu;have:=xU b news (0+i*3) w.drew (λt q=>(x.o t q).1) (k-i*3) K;rw[show 0+i*3+(k-i*3)=k by omega]at this;rw[this,L])
 clear f o s r p d c z;have R:i<=cap:=aar;have S:j<=cap:=aar;go_enter Tryz.func220,Tryz.ntmps220;go_wp2_with fail;go_region_law (refine step_append_room rfl (.tmp 22) (.tmp 25) 23 rfl 29 C 3 cB D E b 0 i cap aaU A (n-j) (cap-j) news (by simp[Act.eval,Act.put];done) g G.o s2.o aar x.o ?_;rw[<-H.o]);clear hA g;have T:i+(n-j)<=n:=aar;have U:n<=cap:=B;go_wp2_with fail;go_ret;exact⟨by rw[F.o];rfl,y.o.1,y.o.2⟩
end
section
open Go.RowKit
variable {X:Nat->Bool}
theorem T.O9{t:T}{i:Nat}(h:i<t.ay.length):t.eT i=t.ay[i]:=by
 unfold T.eT;rw[dn,az h];rfl
theorem T.Dp(t:T):t.bE=t.aI.size+4+T.bJ t.ay:=by cases t;simp[T.bE,T.aI,T.ay]
theorem T.DF{t:T}{i:Nat}(h:i<t.ay.length):(t.eT i).bE+4<=t.bE:=by
 rw[T.O9 h];have:=T.jq t.ay i h;have:=t.Dp;omega
theorem T.Q9(t:T):4<=t.bE:=by have:=t.Dp;omega
theorem T.Cj:∀(l:List T) (i:Nat),i<l.length->T.bJ (l.eraseIdx i)+4<=T.bJ l
 |[],i,h=>absurd h (ji _)
 |a::r,0,_=>by
  have:=a.Q9;simp only[List.eraseIdx_cons_zero,T.bJ];omega
 |a::r,i+1,h=>by
  have:=T.Cj r i aaD;simp only[qC,T.bJ];omega
theorem T.BF{t:T}{i:Nat}(h:i<t.ay.length):(t.iF i).bE+4<=t.bE:=by
 have d:=T.Cj t.ay i h;have e:=t.Dp;have a:=(t.iF i).Dp;have b:(t.iF i).aI.size=0:=rfl;have c:(t.iF i).ay=t.ay.eraseIdx i:=rfl;rw[b,c]at a;omega
theorem bI.eT{S:Nat->Bool}{w:World}{k:Int}{s:ByteArray}{A:Option Addr}{n cap:Nat}{t:T}(h:bI S w (.agg #[.int .i64 k,.string s,.slice A n cap]) t){i:Nat}(hi:i<t.ay.length):
 ∃b off A' a,A=some ⟨b,off,none⟩/\S b=true/\w.cell? ⟨b,off+i*3,none⟩=some (.int .i64 (t.eT i).aA)/\w.cell? ⟨b,off+i*3+1,none⟩=some (.string (t.eT i).aI)/\w.cell? ⟨b,off+i*3+2,none⟩=some (.slice A' (t.eT i).ay.length a)/\
  bI S w (.agg #[.int .i64 (t.eT i).aA,.string (t.eT i).aI,.slice A' (t.eT i).ay.length a]) (t.eT i):=by
 rw[T.O9 hi];cases h with
 |mk k s A cap f U g j l m hA hU=>
 obtain⟨b,off,A',a,e,d,c1,c2,hu⟩:=aS.cells hi hA hU;have key:∀{q:Addr} {v:Value},(only w S).cell? q=some v->S q.block=true/\w.cell? q=some v:=λ{q v} c=>by
  rw[fO]at c;split at c;·rename_i hS;exact⟨hS,c⟩
  ·cases c
 exact⟨b,off,A',a,e,(key d).1,(key d).2,(key c1).2,(key c2).2,hu⟩
theorem bI.O8{S:Nat->Bool}{w:World}{k:Int}{s:ByteArray}{A:Option Addr}{n cap:Nat}{t:T}(h:bI S w (.agg #[.int .i64 k,.string s,.slice A n cap]) t)(hi:0<t.ay.length):
 ∃b off A' a,A=some ⟨b,off,none⟩/\S b=true/\w.cell? ⟨b,off,none⟩=some (.int .i64 (t.eT 0).aA)/\w.cell? ⟨b,off+1,none⟩=some (.string (t.eT 0).aI)/\w.cell? ⟨b,off+2,none⟩=some (.slice A' (t.eT 0).ay.length a)/\
  bI S w (.agg #[.int .i64 (t.eT 0).aA,.string (t.eT 0).aI,.slice A' (t.eT 0).ay.length a]) (t.eT 0):=h.eT hi
theorem bI.RF{S:Nat->Bool}{w:World}{k:Int}{s:ByteArray}{A:Option Addr}{n cap:Nat}{t:T}(h:bI S w (.agg #[.int .i64 k,.string s,.slice A n cap]) t)(hi:1<t.ay.length):
 ∃b off A' a,A=some ⟨b,off,none⟩/\S b=true/\w.cell? ⟨b,off+3,none⟩=some (.int .i64 (t.eT 1).aA)/\w.cell? ⟨b,off+3+1,none⟩=some (.string (t.eT 1).aI)/\w.cell? ⟨b,off+3+2,none⟩=some (.slice A' (t.eT 1).ay.length a)/\
  bI S w (.agg #[.int .i64 (t.eT 1).aA,.string (t.eT 1).aI,.slice A' (t.eT 1).ay.length a]) (t.eT 1):=h.eT hi
theorem qA{B g M:Nat}{vs vp:Value}{W:List fG}{w:World}(h:gz X B w g M vs vp W){b:Nat}(hb:w.heap.size<=b):nr X g M vs vp b=true:=by
 have a:=h.apart;exact kz.2 ⟨aaz a.g,aaz a.m,λe=>aaz ((a.s b e).2.1),λe=>aaz ((a.p b e).2.1),h.fresh b hb⟩
theorem jy.fr{B g M b:Nat}{vs vp vs' mK v0 a v2:Value}{w w':World}(h:jy w b v0 a v2)(c:Fr X B g M vs vp w vs' mK w')(hb:nr X g M vs vp b=true):jy w' b v0 a v2:=(c.aR b hb h.lt).2.t h
theorem Inv.room{U:List T}{W:List fG}(hU:yB U)(h:Inv U W){t:T}(b:t∈U):jl W t.key=none->W.length<1048576:=λc=>by
 have a:=(h.push ⟨t,0,[],false⟩ b c).len;have d:=hU.size;rw[aF]at a;simp only[zz]at a;omega
theorem lH.one{S:Nat->Bool}(w:World)(a:Nat)(e:TypeId)(hS:S w.heap.size=true):lH S (w.alloc (.cells #[.int .i64 (a:Int)] e)) (some ⟨w.heap.size,0,none⟩) [a]:=
 .inr ⟨_,0,rfl,hS,λi hi=>by
   obtain rfl:i=0:=aaQ;have h:=bP w (.cells #[.int .i64 (a:Int)] e);unfold World.cell?;rw[h];rfl⟩
theorem lH.two{S:Nat->Bool}(w:World)(a b:Nat)(e:TypeId)(hS:S w.heap.size=true):lH S (w.alloc (.cells #[.int .i64 (a:Int),.int .i64 (b:Int)] e)) (some ⟨w.heap.size,0,none⟩) [a,b]:=
 .inr ⟨_,0,rfl,hS,λi hi=>by
   have h:=bP w (.cells #[.int .i64 (a:Int),.int .i64 (b:Int)] e);unfold World.cell?;rw[h]
   match i,hi with
   |0,_=>rfl
   |1,_=>rfl⟩
theorem lH.none_{S:Nat->Bool}(w:World)(A:Option Addr):lH S w A []:=.inl rfl
end
section
open Go.RowKit
variable {X:Nat->Bool}
def Yz(X:Nat->Bool)(B g M:Nat)(w:World)(vs vp:Value)(r:List fG×Option Nat)(e:Ending)(w':World):Prop:=e=.returned (.int .i64 (fI r.2))/\mI X B g M w vs vp r.1 w'
def Gs(X:Nat->Bool)(B:Nat)(U:List T)(rec:List fG->T->List fG×Option Nat)(t:T):Prop:=∀(v:Value) (w:World) (g M:Nat) (vs vp:Value) (W:List fG),Inv U W->gz X B w g M vs vp W->bI (nr X g M vs vp) w v t->
 Calls Tryz.prog 185 #[.pointer (some ⟨g,0,none⟩),v] w (Yz X B g M w vs vp (rec W t))
theorem Y7{B g M:Nat}{vs vp:Value}{W:List fG}{U:List T}{rec:List fG->T->List fG×Option Nat}(hU:yB U)(t:T)(v:Value)(w:World)(how:Nat)(I:t.ay.length=2)(ah:t∈U)(J:Inv U W)
 (h:gz X B w g M vs vp W) (A:bI (nr X g M vs vp) w v t) (ak:t.bE<=1048576) (p0:Wb.BS U rec (t.eT 0)) (p1:Wb.BS U rec (t.eT 1)) (b0:Gs X B U rec (t.eT 0)) (b1:Gs X B U rec (t.eT 1)):
 Calls Tryz.prog 212 #[.pointer (some ⟨g,0,none⟩),v,.int .i64 (how:Int)] w (Yz X B g M w vs vp (Wb.both rec W t how)):=by
 obtain⟨A0,K,rfl⟩:=A.view;obtain⟨b,off,A1,c1,rfl,hS,_⟩:=A.O8 aar;have C:=ae w (.cells #[.int .i64 t.aA,.string t.aI,.slice (some ⟨b,off,none⟩) t.ay.length K] 29);have j:=jy.new w (.int .i64 t.aA) (.string t.aI) (.slice (some ⟨b,off,none⟩) t.ay.length K);have hz:=h.lt.2;obtain⟨HN,L,N,D⟩:=aad (qA h (ax _)) (((Fr.refl (X:=X) B g M vs vp w).ag hz C)) (h.ag C) (A.aR (λb hb O=>⟨hb,C.block b O⟩));have av:=p0 W J;have az:=aa (λl W' m n=>b0 l W' g M vs vp W J m n);have E:(rec W (t.eT 0)).2=none->Wb.both rec W t how=((rec W (t.eT 0)).1,none):=λe=>(by simp only[Wb.both,e]);have o:∀a,(rec W (t.eT 0)).2=some a->(rec (rec W (t.eT 0)).1 (t.eT 1)).2=none->Wb.both rec W t how=((rec (rec W (t.eT 0)).1 (t.eT 1)).1,none):=λa e P=>(by simp only[Wb.both,e,P]);have p:∀a b,(rec W (t.eT 0)).2=some a->(rec (rec W (t.eT 0)).1 (t.eT 1)).2=some b->Wb.both rec W t how=((Wb.add (rec (rec W (t.eT 0)).1 (t.eT 1)).1 t how [a,b]).1,some (Wb.add (rec (rec W (t.eT 0)).1 (t.eT 1)).1 t how [a,b]).2):=λa b e P=>(by simp only[Wb.both,e,P]);obtain⟨R,hR⟩:=aay (Wb.both rec W t how);rw[hR]at E o p⊢;clear hR;generalize rec W (t.eT 0)=q at av az E o p;obtain⟨Q,_,_⟩:=av;have aB:=p1 q.1 Q;have aC:=aa (λl W' vs' mK m n=>b1 l W' g M vs' mK q.1 Q m n);generalize rec q.1 (t.eT 1)=V at aB aC o p;obtain⟨aD,_,_⟩:=aB;obtain⟨aV,aW,aX,aY⟩:=aad (λl W' F fc jw vs' mK m n hF=>Wm (X:=X) (W:=V.1) (g:=g) (M:=M) (B:=B) (vs:=vs') (vp:=mK) t l W' how jw F fc m n ak hF (aD.room hU ah)) E o p;clear E o p p0 p1 b0 b1 J Q aD h A ah ak C;obtain⟨k,hk⟩:=aay t.aA;obtain⟨nm,aF⟩:=aay t.aI;rw[hk,aF,I]at j L N D⊢;have aG:=aa I;clear hk aF I;obtain⟨x0,aH⟩:=aay (fI q.2);obtain⟨x1,aJ⟩:=aay (fI V.2);obtain⟨Y,Z⟩:=aab aH aJ;clear aH aJ;go_enter Tryz.func212,Tryz.ntmps212;go_upto_region 1 with fail;generalize w.alloc _=w1 at j L N D⊢;obtain⟨r,s,u⟩:=j.cells;obtain⟨_,_,A1,c1,d,_,d0,d1,d2,aK⟩:=D.o.O8 (by rw[aG.o];decide);injection d with d;injection d with d e2;subst d;subst e2;obtain⟨aZ,BX⟩:=aab aK j;clear aK j;go_wp2_with fail;refine(az.o _ _ N.o aZ.o).m ?_;rintro e w2 ⟨rfl,bD,bF,aL,y⟩;rw[Y.o];obtain⟨aM,aN,aO,aP,bf⟩:=aae aL (D.o.fr y) (L.o.t y) (BX.o.fr y HN.o) ((y.aR _ HN.o BX.o.lt).1);clear aL y r s u d0 d1 d2;cases c:q.2 with
 |none=>
  have z:=aa (aW.o c);have f:x0= -1:=(by have:=Y.o;rw[c]at this;exact this.symm);subst f;clear c;go_wp2_with fail;go_ret;rw[z.o];exact⟨rfl,_,_,aM.o,aO.o⟩
 |some a=>
  have f:x0=(a:Int):=(by have:=Y.o;rw[c]at this;exact this.symm);subst f;have HQ:=aa c;have bG:¬((a:Int)<0):=aar;clear c;obtain⟨r,s,u⟩:=aP.o.cells;obtain⟨_,_,A2,c2,d,_,d0,d1,d2,aQ⟩:=aN.o.RF (by rw[aG.o];decide);injection d with d;injection d with d e2;subst d;subst e2;have bg:=aa aQ;clear aQ;go_wp2_with fail;refine(aC.o _ _ _ _ aM.o bg.o).m ?_;rintro e w3 ⟨rfl,bi,bn,aS,G⟩;rw[Z.o];obtain⟨af,bq,aT,bu⟩:=aad aS (aN.o.fr G) (aO.o.t G) (aP.o.fr G bf.o);clear aS G r s u d0 d1 d2;cases c:V.2 with
  |none=>
   have z:=aa (aX.o a HQ.o c);have f:x1= -1:=(by have:=Z.o;rw[c]at this;exact this.symm);subst f;clear c;go_wp2_with fail;go_ret;rw[z.o];exact⟨rfl,_,_,af.o,aT.o⟩
  |some i=>
   have z:=aa (aY.o a i HQ.o c);have f:x1=(i:Int):=(by have:=Z.o;rw[c]at this;exact this.symm);subst f;have bH:¬((i:Int)<0):=aar;clear c;obtain⟨r,s,u⟩:=bu.o.cells;have H:=ae w3 (.cells #[.int .i64 (a:Int),.int .i64 (i:Int)] 3);obtain⟨bv,bz,bA,bB⟩:=aad ((lH.two (S:=nr X g M bi bn) w3 a i 3 (qA af.o (ax _)))) (af.o.ag H) (bq.o.aR (λb hb O=>⟨hb,H.block b O⟩)) (aT.o.ag hz H);clear H;go_wp2_with fail;refine(aV.o _ _ _ _ [a,i] _ _ bz.o bA.o bv.o).m ?_;rintro e w5 ⟨rfl,aU⟩;have bC:=aa (mI.after bB.o aU);clear aU r s u;go_wp2_with fail;go_ret;rw[z.o];exact⟨rfl,bC.o⟩
end
end Go.Proofs.YtaciciokmpbkkaaGreatDoor
