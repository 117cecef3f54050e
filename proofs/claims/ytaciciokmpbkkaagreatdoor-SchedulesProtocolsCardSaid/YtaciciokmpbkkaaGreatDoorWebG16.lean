import Derived.Test.YtaciciokmpbkkaaGreatDoorWebG15
set_option maxRecDepth 100000
set_option maxHeartbeats 16000000
namespace Go.Proofs.YtaciciokmpbkkaaGreatDoor
section
def FO(l next:List T)(t:T):List T:=
 if t.aA=3 then zF (zF next (t.eT 0)) (t.eT 1)
 else if t.aA=6 then zF next (t.eT 1)
 else if t.aA=5 then (if uI ((t.eT 0).bE+1) l (t.eT 0)=true then zF next (t.eT 1) else next)
 else next
def CU(l:List T):List T:=l.foldl (FO l) l
theorem GH(l:List T)(t:T):l.length<=(zF l t).length/\((zF l t).length=l.length->zF l t=l):=by
 unfold zF;cases Km l t l.length with
 |none=>exact⟨ax _,λ_=>rfl⟩
 |some q=>
  have:((l.take q++[t])++l.drop q).length=l.length+1:=aaV;show l.length<=((l.take q++[t])++l.drop q).length/\_;exact⟨aar,λh=>absurd (this.symm.t h) aar⟩
def Tm(l:List T)(t x:T):Prop:=t.aA=3/\(x=t.eT 0\/x=t.eT 1)\/t.aA=6/\x=t.eT 1\/t.aA=5/\uI ((t.eT 0).bE+1) l (t.eT 0)=true/\x=t.eT 1
theorem NQ(l:List T){next:List T}(a:CY next)(t:T):CY (FO l next t)/\next.length<=(FO l next t).length/\∀x,x∈FO l next t<->x∈next\/Tm l t x:=by
 unfold FO Tm;by_cases d:t.aA=3
 ·rw[aJ d];obtain⟨b,c⟩:=vC a (t.eT 0);obtain⟨g,i⟩:=vC b (t.eT 1);refine⟨g,aG (GH next _).1 (GH _ _).1,λx=>?_⟩;rw[i,c];constructor
  ·rintro((h|h)|h);·exact .inl h
   ·exact .inr (.inl ⟨d,.inl h⟩)
   ·exact .inr (.inl ⟨d,.inr h⟩)
  ·rintro(h|⟨_,h|h⟩|⟨h,_⟩|⟨h,_⟩);·exact .inl (.inl h)
   ·exact .inl (.inr h)
   ·exact .inr h
   ·omega
   ·omega
 ·rw[aH d];by_cases e:t.aA=6
  ·rw[aJ e];obtain⟨b,c⟩:=vC a (t.eT 1);refine⟨b,(GH next _).1,λx=>?_⟩;rw[c];constructor
   ·rintro(h|h);·exact .inl h
    ·exact .inr (.inr (.inl ⟨e,h⟩))
   ·rintro(h|⟨h,_⟩|⟨_,h⟩|⟨h,_⟩);·exact .inl h
    ·omega
    ·exact .inr h
    ·omega
  ·rw[aH e];by_cases f:t.aA=5
   ·rw[aJ f];by_cases hb:uI ((t.eT 0).bE+1) l (t.eT 0)=true
    ·rw[aJ hb];obtain⟨b,c⟩:=vC a (t.eT 1);refine⟨b,(GH next _).1,λx=>?_⟩;rw[c];constructor
     ·rintro(h|h);·exact .inl h
      ·exact .inr (.inr (.inr ⟨f,hb,h⟩))
     ·rintro(h|⟨h,_⟩|⟨h,_⟩|⟨_,_,h⟩);·exact .inl h
      ·omega
      ·omega
      ·exact .inr h
    ·rw[aH hb];refine⟨a,ax _,λx=>⟨.inl,?_⟩⟩;rintro(h|⟨h,_⟩|⟨h,_⟩|⟨_,h,_⟩);·exact h
     ·omega
     ·omega
     ·exact absurd h hb
   ·rw[aH f];refine⟨a,ax _,λx=>⟨.inl,?_⟩⟩;rintro(h|⟨h,_⟩|⟨h,_⟩|⟨h,_⟩);·exact h
    ·omega
    ·omega
    ·omega
theorem AP(l:List T):∀(a next:List T),CY next->CY (a.foldl (FO l) next)/\next.length<=(a.foldl (FO l) next).length/\∀x,x∈a.foldl (FO l) next<->x∈next\/∃t∈a,Tm l t x
 |[],next,b=>⟨b,ax _,λx=>aau⟩
 |t::r,next,b=>by
  obtain⟨c,a2,a3⟩:=NQ l b t;obtain⟨d,e,b3⟩:=AP l r _ c;refine⟨d,aG a2 e,λx=>?_⟩;rw[lW,b3,a3];constructor
  ·rintro((h|h)|⟨u,hu,h⟩);·exact .inl h
   ·exact .inr ⟨t,aau,h⟩
   ·exact .inr ⟨u,aY _ hu,h⟩
  ·rintro(h|⟨u,hu,h⟩);·exact .inl (.inl h)
   ·rcases bM.1 hu with rfl|hu;·exact .inl (.inr h)
    ·exact .inr ⟨u,hu,h⟩
open Classical in
theorem Tw{l m:List T}(a:CY l)(c:CY m)(h:∀x∈l,x∈m)(i:m.length=l.length):m=l:=by
 have nd:∀{k:List T},CY k->k.Nodup:=λd=>List.Pairwise.imp (λh e=>by subst e;exact Bu _ h) d;refine Df c a λx=>⟨λf=>?_,h x⟩;by_cases b:x∈l;·exact b
 ·have g:(x::l).Nodup:=List.nodup_cons.2 ⟨b,nd a⟩;have:=yc g (m:=m) λy hy=>by
   rcases bM.1 hy with rfl|hy;·exact f
   ·exact h y hy
  simp only[bg]at this;omega
def NR:Nat->List T->List T
 |0,l=>l
 |f+1,l=>if (CU l).length=l.length then l else NR f (CU l)
def ES(K:List T):List T:=K.foldl zF []
theorem Fs:∀(K l:List T),CY l->CY (K.foldl zF l)/\∀x,x∈K.foldl zF l<->x∈l\/x∈K
 |[],l,a=>⟨a,λx=>aau⟩
 |t::r,l,a=>by
  obtain⟨b,a2⟩:=vC a t;obtain⟨c,d⟩:=Fs r _ b;exact⟨c,λx=>by rw[lW,d,a2,bM,DW]⟩
structure Kz (U:List T) (K:T->Prop) (l:List T):Prop where
 VA:CY l
 use:∀x∈l,x.use=true
 mem:∀x∈l,x∈U
 an:∀x∈l,An K x
theorem WN{U l:List T}{K:T->Prop}(h:Kz U K l)(hU:yB U){t x:T}(a:t∈l)(d:Tm l t x):x.use=true/\x∈U/\An K x:=by
 have hu:=h.use t a;have g:=T.oZ (aN.1 (T.ik hu)).2;have b:=VJ K t (h.an t a);rcases d with⟨c,rfl|rfl⟩|⟨e,rfl⟩|⟨f,hb,rfl⟩;·exact⟨rW hu aar aar,hU.eT t (h.mem t a) 0 aar,(b.1 c).1⟩
 ·exact⟨rW hu aar aar,hU.eT t (h.mem t a) 1 aar,(b.1 c).2⟩
 ·exact⟨rW hu aar aar,hU.eT t (h.mem t a) 1 aar,b.2.1 e⟩
 ·refine⟨rW hu aar aar,hU.eT t (h.mem t a) 1 aar,b.2.2 f ?_⟩;exact(CS h.use _ _ (rW hu aar aar) hb).m λy hy=>h.an y hy
theorem Kz.round{U l:List T}{K:T->Prop}(h:Kz U K l)(hU:yB U):Kz U K (CU l)/\l.length<=(CU l).length/\∀x∈l,x∈CU l:=by
 obtain⟨c,d,b⟩:=AP l l l h.VA;have key:∀x∈CU l,x.use=true/\x∈U/\An K x:=λx a=>by
  rcases(b x).1 a with a|⟨t,e,f⟩;·exact⟨h.use x a,h.mem x a,h.an x a⟩
  ·exact WN h hU e f
 exact⟨⟨c,λx a=>(key x a).1,λx a=>(key x a).2.1,λx a=>(key x a).2.2⟩,d,λx a=>(b x).2 (.inl a)⟩
open Classical in
theorem Kz.len{U l:List T}{K:T->Prop}(h:Kz U K l):l.length<=U.length:=
 yc (List.Pairwise.imp (λh e=>by subst e;exact Bu _ h) h.VA) h.mem
theorem IU{U:List T}{K:T->Prop}(hU:yB U):∀(f:Nat) (l:List T),Kz U K l->U.length<f+l.length->Kz U K (NR f l)/\(∀x∈l,x∈NR f l)/\Ox (· ∈NR f l)
 |0,l,h,k=>by have:=h.len;omega
 |f+1,l,h,k=>by
  obtain⟨g,s,i⟩:=h.round hU;simp only[NR];by_cases b:(CU l).length=l.length
  ·rw[aJ b];refine⟨h,λx c=>c,λt d=>?_⟩;have e:=Tw h.VA g.VA i b;have a:∀x,Tm l t x->x∈l:=λx m=>by
    rw[<-e];exact((AP l l l h.VA).2.2 x).2 (.inr ⟨t,d,m⟩)
   have u:=T.oZ (aN.1 (T.ik (h.use t d))).2;refine⟨λj=>⟨a _ (.inl ⟨j,.inl rfl⟩),a _ (.inl ⟨j,.inr rfl⟩)⟩,λn=>a _ (.inr (.inl ⟨n,rfl⟩)),λo p=>a _ (.inr (.inr ⟨o,?_,rfl⟩))⟩;exact wZ hU _ _ (hU.eT t (h.mem t d) 0 aar) (dF _) p
  ·rw[aH b];obtain⟨q,r,b3⟩:=IU hU f _ g aar;exact⟨q,λx c=>r x (i x c),b3⟩
theorem Ll{U K:List T}(hU:yB U)(d:∀t∈K,t∈U)(hu:∀t∈K,t.use=true){f:Nat}(k:U.length<f):CY (NR f (ES K))/\∀x,x∈NR f (ES K)<->An (· ∈K) x:=by
 obtain⟨e,g⟩:=Fs K [] List.Pairwise.nil;have b:∀x,x∈ES K<->x∈K:=λx=>(g x).t ⟨λh=>by rcases h with h|h;cases h;exact h,.inr⟩;have hi:Kz U (· ∈K) (ES K):=⟨e,λx a=>hu x ((b x).1 a),λx a=>d x ((b x).1 a),λx a=>An.bF ((b x).1 a)⟩;obtain⟨c,i,b3⟩:=IU hU f _ hi aar;exact⟨c.VA,λx=>⟨c.an x,λj=>j _ b3 λy hy=>i y ((b y).2 hy)⟩⟩
theorem Rf{K L:List T}(h:PW K L):CY L:=by
 obtain⟨_,c,d⟩:=h;refine List.Pairwise.imp₂ (λa b f e=>?_) c d;have i:=T.oL a b;rcases T.mY a b with g|g|g;·exact g
 ·exact absurd (T.cmp_eq _ _ g) e
 ·omega
end
section
structure oD where
 fF:Nat
 b:List Bd
structure jf where
 aO:List oD
 bF:List T
structure mg where
 df:Nat
 bC:T
abbrev iN:=ByteArray×List (Int×T)
namespace aQ
open T
def Gr(l:List T):List T:=ES l
def moves(s:List iN):Nat:=(s.map λx=>x.2.length).sum
def err:List iN->Int
 |[]=>0
 |x::r=>if rG x.1 x.2=0 then err r else rG x.1 x.2
def nW(s:List iN)(bF:List T):Int:=if s.length=0\/16<moves s\/32<bF.length then 72 else err s
def iJ(s:List iN)(bF:List T):jf:=⟨s.map λ_=>⟨0,[]⟩,Gr (bF.filter T.use)⟩
def next(s:List iN)(x:jf)(i:Nat):Option (Int×T):=
 match s[i]?,x.aO[i]? with
 |some st,some q=>st.2[q.fF]?
 |_,_=>none
mutual
def zT:T->List ByteArray
 |.mk k _ a=>lT k a
def lT:Int->List T->List ByteArray
 |_,[]=>[]
 |k,t::r=>(if k=7/\t.aA=2 then [t.aI] else [])++(zT t++lT k r)
end
def parts(K:List T):List T:=NR ((jb K).length+1) (ES K)
def can(P:List T)(t:T):Bool:=t.use&&uI (t.bE+1) P t
def oM(l:List ByteArray)(v:ByteArray):Bool:=l.any λy=>decide (y=v)
def fills(pat:T)(names:List ByteArray)(P:List T):List ByteArray->List Bd->List T
 |[],b=>(jP pat b).toList
 |v::vs,b=>P.flatMap λp=>if oM names v=true/\p.aA≠1 then [] else fills pat names P vs (b++[⟨v,p⟩])
def accept(pat:T)(b:List Bd)(P:List T)(t:T):Bool:=(oz pat t b).isSome&&can P t
def once(l:List ByteArray):List ByteArray:=l.foldr (λv r=>if oM r v=true then r else v::r) []
def left(pat:T)(b:List Bd):List ByteArray:=(once (vars pat)).filter λv=>!b.any λy=>decide (y.var=v)
def mJ(pat:T)(b:List Bd)(K:List T):List T:=
 Gr (((parts K)++fills pat (zT pat) (parts K) (left pat b) b).filter (accept pat b (parts K)))
def Zq(x:jf)(i:Nat)(f:oD->oD):List oD:=x.aO.modify i f
def move(x:jf)(m:Int×T)(t:mg):jf:=
 let q:=(x.aO[t.df]?).getD ⟨0,[]⟩
 ⟨Zq x t.df λq=>⟨q.fF+1,if m.1=2 then (oz m.2 t.bC q.b).getD [] else q.b⟩,
  if m.1=1 then (match jP m.2 q.b with
   |some v=>Gr (x.bF++[v])
   |none=>x.bF) else x.bF⟩
def turnsOf(s:List iN)(x:jf)(i:Nat):List mg:=
 match next s x i with
 |none=>[]
 |some m=>if m.1=2 then (mJ m.2 ((x.aO[i]?).map oD.b |>.getD []) x.bF).map λt=>⟨i,t⟩ else [⟨i,qz⟩]
def gB(s:List iN)(x:jf):List mg:=(List.range s.length).flatMap (turnsOf s x)
def itoa(n:Nat):List UInt8:=Lib.decDigits n
def pK(b:List Bd):List UInt8:=b.flatMap λy=>y.var.data.toList++61::(y.t.gK++[10])
def uP(l:List oD):List UInt8:=l.flatMap λq=>itoa q.fF++10::pK q.b
def rV(l:List T):List UInt8:=l.flatMap λt=>43::(t.gK++[10])
def iT(x:jf):List UInt8:=uP x.aO++rV x.bF
def mW(s:List iN)(x:jf)(i:Nat)(claim:T):Bool:=
 match jP claim ((x.aO[i]?).map oD.b |>.getD [])with
 |none=>true
 |some c=>!(List.range x.aO.length).any λj=>j != i&&(((s[j]?).map Prod.snd |>.getD []).take ((x.aO[j]?).map oD.fF |>.getD 0)).any λm=>decide (m.1=4)&&
   (match jP m.2 ((x.aO[j]?).map oD.b |>.getD [])with
    |some d=>decide (cmp c d=0)
    |none=>false)
structure LU where
 x:jf
 before:Nat
 turn:mg
structure xH where
 jc:List LU
 all:Bool
 oo:List ((Nat×Nat)×List mg)
def back(jc:List LU):Nat->Nat->List mg
 |0,_=>[]
 |f+1,i=>if 0<i then (match jc[i]? with
  |some v=>v.turn::back jc f v.before
  |none=>[]) else []
def schedule(jc:List LU)(i:Nat)(a:mg):List mg:=(a::back jc i i).reverse
def turn(s:List iN)(i:Nat)(v:xH)(t:mg):xH:=
 match v.jc[i]? with
 |none=>v
 |some p=>
  match next s p.x t.df with
  |none=>v
  |some m=>
   let place:=(t.df,(p.x.aO[t.df]?).map oD.fF |>.getD 0)
   let oo:=if m.1=3/\mW s p.x t.df m.2=true/\v.oo.lookup place=none then (place,schedule v.jc i t)::v.oo else v.oo
   let y:=move p.x m t
   if (v.jc.any λq=>decide (iT q.x=iT y))=true then ⟨v.jc,v.all,oo⟩
   else if 1000<=v.jc.length then ⟨v.jc,false,oo⟩
   else ⟨v.jc++[⟨y,i,t⟩],v.all,oo⟩
def search(s:List iN):Nat->Nat->xH->xH
 |0,_,v=>v
 |f+1,i,v=>
  match v.jc[i]? with
  |none=>v
  |some p=>search s f (i+1) ((gB s p.x).foldl (turn s i) v)
def Xr(l:List ((Nat×Nat)×List mg))(i k:Nat):Option (List mg):=l.lookup (i,k)
def ni(s:List iN)(bF:List T):xH:=search s 1000 0 ⟨[⟨iJ s bF,0,⟨0,qz⟩⟩],true,[]⟩
def wU(s:List iN)(v:xH):List (List mg):=
 (List.range s.length).flatMap λi=>(List.range (((s[i]?).map λx=>x.2.length).getD 0)).filterMap λk=>v.oo.lookup (i,k)
end aQ
end
section
open Go.RowKit
def Da:El oD where
 ty:=72
 size:=2
 fF S w xs q:=q.fF<=1048576/\∃v,xs=[.int .i64 (q.fF:Int),v]/\Bf S w v q.b
 len:=λ⟨_,_,e,_⟩=>by rw[e];rfl
 one:=λ⟨_,v,e,h⟩ u hu=>by
  rw[e]at hu;simp at hu;rcases hu with rfl|rfl;·rfl
  ·obtain⟨A,c,rfl,_⟩:=h.Gh.shape;rfl
 aR:=λ⟨a,v,e,h⟩ d=>⟨a,v,e,h.aR d⟩
 pos:=by decide
def zG:El mg where
 ty:=61
 size:=4
 fF S w xs q:=q.df<=1048576/\∃A c,xs=[.int .i64 (q.df:Int),.int .i64 q.bC.aA,.string q.bC.aI,.slice A q.bC.ay.length c]/\bI S w (.agg #[.int .i64 q.bC.aA,.string q.bC.aI,.slice A q.bC.ay.length c]) q.bC
 len:=λ⟨_,_,_,e,_⟩=>by rw[e];rfl
 one:=λ⟨_,A,c,e,h⟩ u hu=>by rw[e]at hu;simp at hu;rcases hu with rfl|rfl|rfl|rfl<;>rfl
 aR:=λ⟨a,A,c,e,h⟩ b=>⟨a,A,c,e,h.aR b⟩
 pos:=by decide
def Zz:El (Int×T) where
 ty:=31
 size:=4
 fF S w xs m:=∃A c,xs=[.int .i64 m.1,.int .i64 m.2.aA,.string m.2.aI,.slice A m.2.ay.length c]/\bI S w (.agg #[.int .i64 m.2.aA,.string m.2.aI,.slice A m.2.ay.length c]) m.2
 len:=λ⟨_,_,e,_⟩=>by rw[e];rfl
 one:=λ⟨A,c,e,h⟩ u hu=>by rw[e]at hu;simp at hu;rcases hu with rfl|rfl|rfl|rfl<;>rfl
 aR:=λ⟨A,c,e,h⟩ a=>⟨A,c,e,h.aR a⟩
 pos:=by decide
def mV(S:Nat->Bool)(w:World)(v:Value)(x:jf):Prop:=∃A c B d,v=.agg #[.slice A x.aO.length c,.slice B x.bF.length d]/\jU Da S w (.slice A x.aO.length c) x.aO/\jU oC S w (.slice B x.bF.length d) x.bF
theorem mV.aR{S S':Nat->Bool}{w w':World}{v:Value}{x:jf}(h:mV S w v x)(a:∀b,S b=true->b<w.heap.size->S' b=true/\w'.heap[b]?=w.heap[b]?):mV S' w' v x:=by
 obtain⟨A,c,B,d,e,f,g⟩:=h;exact⟨A,c,B,d,e,f.aR a,g.aR a⟩
theorem mV.ag{S:Nat->Bool}{w w':World}{v:Value}{x:jf}(h:mV S w v x)(hb:Below w.heap.size w w'):mV S w' v x:=h.aR λb hS a=>⟨hS,hb.block b a⟩
theorem mV.any{S:Nat->Bool}{w:World}{v:Value}{x:jf}(h:mV S w v x):mV ku w v x:=h.aR λ_ _ _=>⟨rfl,rfl⟩
theorem mV.low{S:Nat->Bool}{w:World}{v:Value}{x:jf}(h:mV S w v x):mV (jT w.heap.size) w v x:=h.aR λ_ _ a=>⟨aM a,rfl⟩
theorem iI.get{w:World}{A:Option Addr}{a:List (Int×T)}(h:iI w A a){i:Nat}(hi:i<a.length):∃b o A' c,A=some ⟨b,o,none⟩/\w.cell? ⟨b,o+i*4,none⟩=some (.int .i64 a[i].1)/\w.cell? ⟨b,o+i*4+1,none⟩=some (.int .i64 a[i].2.aA)/\
 w.cell? ⟨b,o+i*4+2,none⟩=some (.string a[i].2.aI)/\w.cell? ⟨b,o+i*4+3,none⟩=some (.slice A' a[i].2.ay.length c)/\aS w (.agg #[.int .i64 a[i].2.aA,.string a[i].2.aI,.slice A' a[i].2.ay.length c]) a[i].2:=by
 rcases h with h|⟨b,o,e,h⟩;·omega
 ·obtain⟨A',c,d,f,g,j,k,_⟩:=h i hi;exact⟨b,o,A',c,e,d,f,g,j,k⟩
theorem jU.stand{S:Nat->Bool}{w:World}{A:Option Addr}{n cap:Nat}{L:List oD}(h:jU Da S w (.slice A n cap) L){i:Nat}(hi:i<L.length):
 ∃b o v,A=some ⟨b,o,none⟩/\w.cell? ⟨b,o+i*2,none⟩=some (.int .i64 (L[i].fF:Int))/\w.cell? ⟨b,o+i*2+1,none⟩=some v/\Bf S w v L[i].b/\L[i].fF<=1048576:=by
 obtain⟨b,o,cs,e,⟨c,v,rfl,d⟩,a⟩:=h.get hi;exact⟨b,o,v,e,a 0 _ rfl,a 1 _ rfl,d,c⟩
theorem jU.turn{S:Nat->Bool}{w:World}{A:Option Addr}{n cap:Nat}{L:List mg}(h:jU zG S w (.slice A n cap) L){i:Nat}(hi:i<L.length):
 ∃b o B c,A=some ⟨b,o,none⟩/\w.cell? ⟨b,o+i*4,none⟩=some (.int .i64 (L[i].df:Int))/\w.cell? ⟨b,o+i*4+1,none⟩=some (.int .i64 L[i].bC.aA)/\w.cell? ⟨b,o+i*4+2,none⟩=some (.string L[i].bC.aI)/\
  w.cell? ⟨b,o+i*4+3,none⟩=some (.slice B L[i].bC.ay.length c)/\bI S w (.agg #[.int .i64 L[i].bC.aA,.string L[i].bC.aI,.slice B L[i].bC.ay.length c]) L[i].bC/\L[i].df<=1048576:=by
 obtain⟨b,o,cs,e,⟨d,B,c,rfl,f⟩,a⟩:=h.get hi;exact⟨b,o,B,c,e,a 0 _ rfl,a 1 _ rfl,a 2 _ rfl,a 3 _ rfl,f,d⟩
def uA(w:World)(v:Value)(l:List iN):Prop:=∃A c,v=.slice A l.length c/\vo w A l/\l.length<=c/\c<=maxLen
theorem uA.ag{w w':World}{v:Value}{l:List iN}(h:uA w v l)(hb:Below w.heap.size w w'):uA w' v l:=by
 obtain⟨A,c,e,a,b⟩:=h;exact⟨A,c,e,a.ag hb,b⟩
theorem vo.get{w:World}{A:Option Addr}{l:List iN}(h:vo w A l){i:Nat}(hi:i<l.length):∃b o A' a,A=some ⟨b,o,none⟩/\w.cell? ⟨b,o+i*2,none⟩=some (.string l[i].1)/\w.cell? ⟨b,o+i*2+1,none⟩=some (.slice A' l[i].2.length a)/\iI w A' l[i].2:=by
 rcases h with h|⟨b,o,e,h⟩;·omega
 ·obtain⟨A',a,c⟩:=h i hi;exact⟨b,o,A',a,e,c⟩
end
section
open Go.RowKit
def gU(w:World)(g:Nat)(ty:TypeId)(xs:List Value):Prop:=w.heap[g]?=some (.cells xs.toArray ty (0,0))
namespace gU
variable {w w':World} {g:Nat} {ty:TypeId} {xs:List Value}
theorem cell(h:gU w g ty xs)(i:Nat){u:Value}(hu:xs[i]?=some u):w.cell? ⟨g,i,none⟩=some u:=by
 unfold gU at h;simp[World.cell?,h,hu]
theorem free(h:gU w g ty xs)(i:Nat):w.frozen? ⟨g,i,none⟩=false:=by
 unfold gU at h;simp[World.frozen?,h]
theorem lt(h:gU w g ty xs):g<w.heap.size:=(aW.1 h).1
theorem set(h:gU w g ty xs)(i:Nat)(u:Value):gU (w.setCell ⟨g,i,none⟩ u) g ty (xs.set i u):=by
 unfold gU at*;simp[World.setCell,Array.getElem?_modify,h]
theorem setOther(h:gU w g ty xs){p:Addr}(a:g≠p.block)(v:Value):gU (w.setCell p v) g ty xs:=by
 unfold gU at*;rw[aL _ _ _ _ a];exact h
theorem ag(h:gU w g ty xs)(hb:Below w.heap.size w w'):gU w' g ty xs:=(hb.block g h.lt).t h
theorem grown{row:Option Nat}(h:gU w g ty xs)(a:w.grownBy w' row)(b:row≠some g):gU w' g ty xs:=(a.block g h.lt (λe=>b e.symm)).t h
theorem new(w:World)(xs:List Value)(ty:TypeId):gU (w.alloc (.cells xs.toArray ty)) w.heap.size ty xs:=bP w _
theorem two{a b:Value}(h:gU w g ty [a,b]):w.cell? ⟨g,0,none⟩=some a/\w.cell? ⟨g,1,none⟩=some b/\w.frozen? ⟨g,0,none⟩=false/\w.frozen? ⟨g,1,none⟩=false:=⟨h.cell 0 rfl,h.cell 1 rfl,h.free 0,h.free 1⟩
end gU
theorem qw{B:Nat}{a w:World}{g:Nat}(hb:Below B a w)(b:B<=g)(x y:Value):Below B a ((w.setCell ⟨g,0,none⟩ x).setCell ⟨g,1,none⟩ y):=
 (hb.setCell (show B<=(⟨g,0,none⟩:Addr).block from b) x).setCell (show B<=(⟨g,1,none⟩:Addr).block from b) y
theorem oV(w:World)(g:Nat)(x y:Value)(b:Nat)(h:b≠g):((w.setCell ⟨g,0,none⟩ x).setCell ⟨g,1,none⟩ y).heap[b]?=w.heap[b]?:=
 (aL _ _ _ _ h).t (aL _ _ _ _ h)
theorem Tryz.JZ:(Tryz.prog.info? 72).map (λi=>(i.zero,i.size,i.bytes))=some (some (.agg #[.int .i64 0,.slice none 0 0]),2,32):=by kernel_rfl
theorem VI{S:Nat->Bool}{w:World}:∀n:Nat,Da.all S w (List.replicate n [.int .i64 0,.slice none 0 0]) (List.replicate n ⟨0,[]⟩):=λn=>
 ⟨aau,λi a b=>by
   rw[yn,yn];exact⟨aT _,.slice none 0 0,rfl,Bf.nil _ _⟩⟩
theorem J6(a b:Value):∀n:Nat,(List.range (n*2)).map (λj=>(#[a,b]:Array Value)[j % 2]!)=(List.replicate n [a,b]).flatten
 |0=>rfl
 |n+1=>by
  have e:(n+1)*2=n*2+1+1:=aar;rw[e,lX,lX,gG,gG,J6 a b n,List.replicate_succ',pM];have c:n*2 % 2=0:=aar;have d:(n*2+1) % 2=1:=aar;simp[c,d]
theorem Nb(w:World)(n:Nat)(l:n<=1048576):∃w',Sem.run Tryz.prog (Instr.makeSlice 33 (.int .i64 (n:Int)) (.int .i64 (n:Int))) w=.ok (.slice (some ⟨w.heap.size,0,none⟩) n n) w'/\Below w.heap.size w w'/\jU Da (dP w.heap.size) w' (.slice (some ⟨w.heap.size,0,none⟩) n n) (List.replicate n ⟨0,[]⟩):=by
 obtain⟨b,hi,c,d,f⟩:=dU Tryz.JZ;obtain⟨w',g,a,h⟩:=run_make_full (P:=Tryz.prog) w w.heap.size 33 72 b (.agg #[.int .i64 0,.slice none 0 0]) 2 Tryz.underlying33 hi c d .i64 .i64 n (by rw[f];omega) aaS (ax _);refine⟨w',g,(aC _ _).grown h (ax _) (λj e=>by cases e),?_⟩;have i:(List.replicate n (⟨0,[]⟩:oD)).length=n:=zy;have k:fZ Da (dP w.heap.size) w.heap.size w' (.slice (some ⟨w.heap.size,0,none⟩) n n) (List.replicate n ⟨0,[]⟩):=by
  refine⟨List.replicate n [.int .i64 0,.slice none 0 0],VI n,?_⟩;rw[i];have e:(madeCells (Value.agg #[.int .i64 0,.slice none 0 0]).cells (n*2)).toList=(List.replicate n [.int .i64 0,.slice none 0 0]).flatten:=by
   rw[<-J6];simp[madeCells,Value.cells]
  rw[e]at a;exact a
 exact k.list
end
section
open Go.RowKit T
attribute [local go_sem ↓] Go.wp_at_zero Go.wp_at_succ
def xP(r:Option (Int×T))(a w:World)(e:Ending)(w':World):Prop:=Below w.heap.size w w'/\match r with
 |none=>e=.returned (.tuple #[.agg #[.int .i64 0,.int .i64 0,.string ⟨#[]⟩,.slice none 0 0],.bool false])
 |some m=>∃A c,e=.returned (.tuple #[.agg #[.int .i64 m.1,.int .i64 m.2.aA,.string m.2.aI,.slice A m.2.ay.length c],.bool true])/\aS a (.agg #[.int .i64 m.2.aA,.string m.2.aI,.slice A m.2.ay.length c]) m.2
def P7(r:Option (Int×T))(w:World)(e:Ending)(w':World):Prop:=xP r w w e w'
theorem Qx{s:List iN}{x:jf}{i:Nat}(h:s.length<=i):aQ.next s x i=none:=by
 unfold aQ.next;rw[gD h]
theorem V8{s:List iN}{x:jf}{i:Nat}(h:x.aO.length<=i):aQ.next s x i=none:=by
 unfold aQ.next;rw[gD h];cases s[i]?<;>rfl
theorem Qy{s:List iN}{x:jf}{i:Nat}(a:i<s.length)(b:i<x.aO.length):aQ.next s x i=(s[i]).2[(x.aO[i]).fF]?:=by
 unfold aQ.next;rw[az a,az b]
theorem oK{B:Nat}{b w:World}{g:Nat}(hb:Below B b w)(a:B<=g)(x y z u:Value):Below B b ((((w.setCell ⟨g,0,none⟩ x).setCell ⟨g,1,none⟩ y).setCell ⟨g,2,none⟩ z).setCell ⟨g,3,none⟩ u):=
 (((hb.setCell (show B<=(⟨g,0,none⟩:Addr).block from a) x).setCell (show B<=(⟨g,1,none⟩:Addr).block from a) y).setCell (show B<=(⟨g,2,none⟩:Addr).block from a) z).setCell (show B<=(⟨g,3,none⟩:Addr).block from a) u
theorem rz{B:Nat}{w w':World}(n:Nat)(h:Below B w w'):Below B w (w'.drewN n):=⟨h.os,h.tape,h.output,h.size,h.block⟩
theorem Dk{w:World}{g:Nat}{ty:TypeId}{a b c d:Value}(h:gU w g ty [a,b,c,d])(x y z u:Value):let w':=(((w.setCell ⟨g,0,none⟩ x).setCell ⟨g,1,none⟩ y).setCell ⟨g,2,none⟩ z).setCell ⟨g,3,none⟩ u
 w'.cell? ⟨g,0,none⟩=some x/\w'.cell? ⟨g,1,none⟩=some y/\w'.cell? ⟨g,2,none⟩=some z/\w'.cell? ⟨g,3,none⟩=some u:=by
 have e:=(((h.set 0 x).set 1 y).set 2 z).set 3 u;exact⟨e.cell 0 rfl,e.cell 1 rfl,e.cell 2 rfl,e.cell 3 rfl⟩
theorem ab9{p:Prop}(h:p:=by
 go_quiet (fail);go_wp2_with fail;obtain⟨d,e,f,g⟩:=o.o nq;refine aV (v:=.tuple #[.agg #[.int .i64 0,.int .i64 0,.string ⟨#[]⟩,.slice none 0 0],.bool false]) (by simp[results,Tryz.results61,go_sem,d,e,f,g]) rfl (C.o nq k.o)):p:=h
theorem Ps(s:List iN)(x:jf)(i:Int)(vs Q:Value)(r w:World)(hs:uA r vs s)(S:Below r.heap.size r w)(hx:mV ku w Q x)(t:∀st∈s,st.2.length<=1048576)(bq: -9223372036854775808<=i/\i<=9223372036854775807):
 Calls Tryz.prog 61 #[vs,Q,.int .i64 i] w (xP (if i<0 then none else aQ.next s x i.toNat) r w):=by
 obtain⟨As,cs,rfl,T,aR,aS⟩:=hs;obtain⟨Ax,cx,Bx,dx,rfl,U,aT⟩:=hx;clear aT;obtain⟨R,u⟩:=aay (if i<0 then none else aQ.next s x i.toNat);rw[u];obtain⟨kl,V⟩:=aay x.bF.length;rw[V];clear V;have A:=ae w (.cells #[.slice Ax x.aO.length cx,.slice Bx kl dx] 35);have h:=gU.new w [.slice Ax x.aO.length cx,.slice Bx kl dx] 35;change gU (w.alloc (.cells #[.slice Ax x.aO.length cx,.slice Bx kl dx] 35)) w.heap.size _ _ at h;have a:=gU.new (w.alloc (.cells #[.slice Ax x.aO.length cx,.slice Bx kl dx] 35)) [.int .i64 0,.int .i64 0,.string ⟨#[]⟩,.slice none 0 0] 31;have B:=ae (w.alloc (.cells #[.slice Ax x.aO.length cx,.slice Bx kl dx] 35)) (.cells #[.int .i64 0,.int .i64 0,.string ⟨#[]⟩,.slice none 0 0] 31);have W:=aK w (.cells #[.slice Ax x.aO.length cx,.slice Bx kl dx] 35);rw[W]at a;change gU ((w.alloc (.cells #[.slice Ax x.aO.length cx,.slice Bx kl dx] 35)).alloc (.cells #[.int .i64 0,.int .i64 0,.string ⟨#[]⟩,.slice none 0 0] 31)) (w.heap.size+1) _ _ at a;have h:=h.ag B;have y:=A.t (B.m A.size);obtain⟨n,F⟩:=aay s.length;obtain⟨m,G⟩:=aay x.aO.length;obtain⟨X,Y,HS,aU,Z,aW⟩:=aaf F G T U u t;rw[F];rw[G]at h a A B y⊢;clear T U F G aR aS u t A B W;go_enter Tryz.func61,Tryz.ntmps61;go_upto_region 1 with fail;generalize(w.alloc (.cells #[.slice Ax m cx,.slice Bx kl dx] 35)).alloc (.cells #[.int .i64 0,.int .i64 0,.string ⟨#[]⟩,.slice none 0 0] 31)=H at h a y⊢;obtain⟨I,ah,z⟩:=aac y a (S.t (y.m S.size));have c0:=h.cell 0 rfl;have r0:=a.cell 0 rfl;have r1:=a.cell 1 rfl;have r2:=a.cell 2 rfl;have r3:=a.cell 3 rfl;have f0:=a.free 0;have f1:=a.free 1;have f2:=a.free 2;have f3:=a.free 3;clear h a y;have C:=aa (λ(nq:Nat) (u:R=none)=>show xP R r w (.returned (.tuple #[.agg #[.int .i64 0,.int .i64 0,.string ⟨#[]⟩,.slice none 0 0],.bool false])) (((((H.drewN nq).setCell ⟨w.heap.size+1,0,none⟩ (.int .i64 0)).setCell ⟨w.heap.size+1,1,none⟩ (.int .i64 0)).setCell ⟨w.heap.size+1,2,none⟩ (.string ⟨#[]⟩)).setCell ⟨w.heap.size+1,3,none⟩ (.slice none 0 0))from by
  subst u;exact⟨oK (rz nq I.o) aar _ _ _ _,rfl⟩)
 have o:=aa (λnq=>Dk (w:=H.drewN nq) ah.o (.int .i64 0) (.int .i64 0) (.string ⟨#[]⟩) (.slice none 0 0));by_cases h0:i<0
 ·have k:=aa (show R=none by rw[<-Z.o,aJ h0]);exact ab9
 ·obtain⟨j,rfl⟩:∃j:Nat,i=(j:Int):=⟨i.toNat,aar⟩;have b:=Z.o;rw[aH h0,iX]at b;by_cases h1:j<n
  ·by_cases h2:j<m
   ·have D:j<s.length:=(by rw[X.o];exact h1);have J:j<x.aO.length:=(by rw[Y.o];exact h2);rw[Qy D J]at b;obtain⟨b1,o1,v1,rfl,ak,aX,aY,hq⟩:=aU.o.stand J;clear aY;obtain⟨b2,o2,A2,c2,rfl,aZ,av,K⟩:=HS.o.get D;have t:=aW.o _ (aP D);have d0:=af I.o ak;have g1:=af z.o av;obtain⟨q,ax⟩:=aay (x.aO[j].fF);obtain⟨p,aB⟩:=aay ((s[j]).2);rw[ax]at d0 b hq;rw[aB]at g1 K b t;obtain⟨l,L⟩:=aay p.length;rw[L]at g1 t;have aC:¬(n:Int)<=(j:Int):=aar;have bf:¬(m:Int)<=(j:Int):=aar;have bu:(j:Int)<(n:Int):=aar;have bv:(j:Int)<(m:Int):=aar;have bz:¬(q:Int)<0:=aar;obtain⟨E,aD,bg⟩:=aac L b K;clear ax aB L b K ak aX aZ av D J;by_cases M:q<l
    ·have bi:¬(l:Int)<=(q:Int):=aar;have bA:(q:Int)<(l:Int):=aar;obtain⟨b3,o3,N,c3,rfl,aF,aG,aL,aM,O⟩:=bg.o.get (i:=q) (by rw[E.o];exact M);obtain⟨k0,k1,k2,k3⟩:=aal z.o aF aG aL aM;have P:p[q]?=some (p[q]'(by rw[E.o];exact M)):=az _;obtain⟨c,aN⟩:∃c,p[q]'(by rw[E.o];exact M)=c:=⟨_,rfl⟩;rw[aN]at k0 k1 k2 k3 O P;obtain⟨bn,HT⟩:=aab (aD.o.symm.t P) O;clear aN P O aF aG aL aM;have o:=aa (λnq=>Dk (w:=H.drewN nq) ah.o (.int .i64 c.1) (.int .i64 c.2.aA) (.string c.2.aI) (.slice N c.2.ay.length c3));go_quiet (fail);go_wp2_with fail
     go_region
     go_wp2_with fail;obtain⟨d,e,f,g⟩:=o.o (nq+1);refine aV (v:=.tuple #[.agg #[.int .i64 c.1,.int .i64 c.2.aA,.string c.2.aI,.slice N c.2.ay.length c3],.bool true]) (by simp[results,Tryz.results61,go_sem,d,e,f,g]) rfl ?_;rw[bn.o];exact⟨oK (rz (nq+1) I.o) aar _ _ _ _,N,c3,rfl,HT.o⟩
    ·have bi:(l:Int)<=(q:Int):=aar;have k:=aa (show R=none by rw[<-aD.o];exact gD (by rw[E.o];omega));exact ab9
   ·have k:=aa (show R=none by rw[<-b];exact V8 (by rw[Y.o];omega));have aC:¬(n:Int)<=(j:Int):=aar;have bf:(m:Int)<=(j:Int):=aar;clear b;exact ab9
  ·have k:=aa (show R=none by rw[<-b];exact Qx (by rw[X.o];omega));have aC:(n:Int)<=(j:Int):=aar;clear b;exact ab9
theorem Xw(s:List iN)(x:jf)(i:Int)(vs a:Value)(w:World)(b:uA w vs s)(c:mV ku w a x)(d:∀st∈s,st.2.length<=1048576)(e: -9223372036854775808<=i/\i<=9223372036854775807):
 Calls Tryz.prog 61 #[vs,a,.int .i64 i] w (P7 (if i<0 then none else aQ.next s x i.toNat) w):=Ps s x i vs a w w b (aC _ _) c d e
end
section
open Go.RowKit
theorem iZ{w W:World}(h:Below w.heap.size w W)(o:Obj):Below w.heap.size w (W.alloc o):=h.t ((ae W o).m h.size)
theorem iD{w W:World}(h:Below w.heap.size w W.drew)(o:Obj):Below w.heap.size w (W.alloc o).drew:=(iZ (W:=W) ⟨h.os,h.tape,h.output,h.size,h.block⟩ o).drew
section
variable {S:World->Prop} {K':Act->World->Prop} {X:Act->World->Prop}
theorem wH(b:Shut (∀a w,S w->(S w->X a w)->K' a w)){a a':Act}{W:World}{xs:List Value}{ty:TypeId}(hS:S (W.alloc (.cells xs.toArray ty)))(h:∀g,W.heap.size=g->gU (W.alloc (.cells xs.toArray ty)) g ty xs->S (W.alloc (.cells xs.toArray ty))->X a' (W.alloc (.cells xs.toArray ty)))(c:a=a':=by((try simp only[Act.put,di,eD,dQ]);try rfl)):K' a (W.alloc (.cells xs.toArray ty)):=
 b.o _ _ hS (by rw[c];exact h _ rfl (gU.new _ _ _))
theorem oW(b:Shut (∀a w,S w->(S w->X a w)->K' a w)){a a':Act}{W:World}{xs:List Value}{ty:TypeId}(hS:S (W.alloc (.cells xs.toArray ty)).drew)(h:∀g,W.heap.size=g->gU (W.alloc (.cells xs.toArray ty)).drew g ty xs->S (W.alloc (.cells xs.toArray ty)).drew->X a' (W.alloc (.cells xs.toArray ty)).drew)(c:a=a':=by((try simp only[Act.put,di,eD,dQ]);try rfl)):K' a (W.alloc (.cells xs.toArray ty)).drew:=
 b.o _ _ hS (by rw[c];exact h _ rfl (gU.new W xs ty))
theorem NY(b:Shut (∀a w,S w->(S w->X a w)->K' a w)){a a':Act}{W:World}{g:Nat}{ty:TypeId}{xs:List Value}{x y z:Value}(c:gU W g ty xs)(hS:S (((W.setCell ⟨g,0,none⟩ x).setCell ⟨g,1,none⟩ y).setCell ⟨g,2,none⟩ z))(h:gU (((W.setCell ⟨g,0,none⟩ x).setCell ⟨g,1,none⟩ y).setCell ⟨g,2,none⟩ z) g ty (((xs.set 0 x).set 1 y).set 2 z)->S (((W.setCell ⟨g,0,none⟩ x).setCell ⟨g,1,none⟩ y).setCell ⟨g,2,none⟩ z)->X a' (((W.setCell ⟨g,0,none⟩ x).setCell ⟨g,1,none⟩ y).setCell ⟨g,2,none⟩ z))(d:a=a':=by((try simp only[Act.put,di,eD,dQ]);try rfl)):K' a (((W.setCell ⟨g,0,none⟩ x).setCell ⟨g,1,none⟩ y).setCell ⟨g,2,none⟩ z):=b.o _ _ hS (by rw[d];exact h (((c.set 0 x).set 1 y).set 2 z))
theorem WR(b:Shut (∀a w,S w->(S w->X a w)->K' a w)){a a':Act}{W:World}{g:Nat}{ty:TypeId}{xs:List Value}{x y z u:Value}(c:gU W g ty xs)(hS:S ((((W.setCell ⟨g,0,none⟩ x).setCell ⟨g,1,none⟩ y).setCell ⟨g,2,none⟩ z).setCell ⟨g,3,none⟩ u))(h:gU ((((W.setCell ⟨g,0,none⟩ x).setCell ⟨g,1,none⟩ y).setCell ⟨g,2,none⟩ z).setCell ⟨g,3,none⟩ u) g ty ((((xs.set 0 x).set 1 y).set 2 z).set 3 u)->S ((((W.setCell ⟨g,0,none⟩ x).setCell ⟨g,1,none⟩ y).setCell ⟨g,2,none⟩ z).setCell ⟨g,3,none⟩ u)->X a' ((((W.setCell ⟨g,0,none⟩ x).setCell ⟨g,1,none⟩ y).setCell ⟨g,2,none⟩ z).setCell ⟨g,3,none⟩ u))(d:a=a':=by((try simp only[Act.put,di,eD,dQ]);try rfl)):K' a ((((W.setCell ⟨g,0,none⟩ x).setCell ⟨g,1,none⟩ y).setCell ⟨g,2,none⟩ z).setCell ⟨g,3,none⟩ u):=b.o _ _ hS (by rw[d];exact h ((((c.set 0 x).set 1 y).set 2 z).set 3 u))
end
theorem qD{B:Nat}{a w:World}{g:Nat}(hb:Below B a w)(b:B<=g)(x y z:Value):Below B a (((w.setCell ⟨g,0,none⟩ x).setCell ⟨g,1,none⟩ y).setCell ⟨g,2,none⟩ z):=(qw hb b x y).setCell (show B<=(⟨g,2,none⟩:Addr).block from b) z
theorem LH{P:Program}{md:Region.Mode}{ops:Array Oper}{Q:Exit->Act->World->Prop}{S:World->Prop}{Z:Nat->Nat}(i:Nat){rs:List Nat}{b:Oper}{fuel:Nat}{listed l':Array Bool}{a:Act}{w:World}(h:∀K':Act->World->Prop,Shut (∀a w,mH P md ops Q S Z fuel l' a w->K' a w)->if Region.wanted b (yielded ops a.tmps)=true then Oper.wp P b a w K' Q else K' (a.put b.dst undef) w)(d:gq P md ops Q S Z fuel listed a w rs)(hi:ops[i]?=some b:=by(simp only[au,aj,ai];rfl))(c:Z i=2:=by rfl)(e:listed.setIfInBounds i true=l':=by((try simp only[di,eD,dQ]);try rfl)):gq P md ops Q S Z fuel listed a w (i::rs):=λj hj=>by
 subst e;rcases bM.1 hj with rfl|hj;·exact EZ hi (λK' f=>h K' (λa w g=>f a w ⟨⟨λh=>(by rw[c]at h;cases h),λh=>(by rw[c]at h;cases h)⟩,g⟩))
 ·exact d j hj
end
section
open Go.RowKit Go.Maps
def YN(v:Value):Option (DataW Value×List MemPlace):=some (.held v,[])
def qK(P:Program)(kt:TypeId)(w:World)(M n:Nat)(F:Lit->Option Value):Prop:=∃D:DataW Value,w.ownsMap P kt YN M n D/\∀k a,D.atKey k a=((F k).map DataW.held).getD a
namespace qK
variable {P:Program} {kt:TypeId} {w w':World} {M n:Nat} {F:Lit->Option Value}
theorem made(w:World)(P:Program)(kt:TypeId):qK P kt (w.alloc (.map #[] 0)) w.heap.size 0 (λ_=>none):=⟨.map [],World.ownsMap_made w P kt YN,λ_ _=>rfl⟩
theorem lt(h:qK P kt w M n F):M<w.heap.size:=by
 obtain⟨D,a,_⟩:=h;exact a.lt
theorem kept{row:Option Nat}(h:qK P kt w M n F)(a:w.grownBy w' row)(b:some M≠row):qK P kt w' M n F:=by
 obtain⟨D,c,d⟩:=h;exact⟨D,c.kept a b,d⟩
theorem aR(h:qK P kt w M n F)(a:w'.heap[M]?=w.heap[M]?):qK P kt w' M n F:=by
 obtain⟨D,⟨b,clock,hb,r⟩,c⟩:=h;exact⟨D,⟨b,clock,a.t hb,r⟩,c⟩
theorem ag(h:qK P kt w M n F)(hb:Below w.heap.size w w'):qK P kt w' M n F:=h.aR (hb.block M h.lt)
theorem setCell(h:qK P kt w M n F){a:Addr}(b:M≠a.block)(u:Value):qK P kt (w.setCell a u) M n F:=h.aR (aL _ _ _ _ b)
theorem yG{D:DataW Value}(h:∀k zd,D.atKey k zd=((F k).map DataW.held).getD zd)(k:Lit):Maps.has D k=(F k).isSome:=by
 cases a:F k with
 |none=>exact Maps.has_false_of_atKey λz=>by rw[h k z,a];rfl
 |some v=>exact Maps.has_true_of_atKey (y:=.held v) λz=>by rw[h k z,a];rfl
theorem look(h:qK P kt w M n F){t e:TypeId}(K:Keyed P kt)(d:P.underlying t=some (.map kt e)){z:Value}(f:(zeroValue e).run P w=.ok z w){key:Value}{kl:Lit}(g:keyOf P kt key=some kl):
 (Instr.lookup t (.map (some M)) key false).run P w=.ok ((F kl).getD z) w:=by
 obtain⟨D,i,j⟩:=h;obtain⟨v,l,k,b⟩:=i.lookup K d f (zd:=.held z) (zp:=[]) rfl g;rw[j]at b;have a:(DataW.held v:DataW Value)=((F kl).map DataW.held).getD (.held z):=bV Prod.fst (aB b);have e:v=(F kl).getD z:=by
  cases c:F kl with
  |none=>rw[c]at a;exact vF a
  |some u=>rw[c]at a;exact vF a
 rw[k,e]
theorem look_ok(h:qK P kt w M n F){t e:TypeId}(K:Keyed P kt)(f:P.underlying t=some (.map kt e)){z:Value}(g:(zeroValue e).run P w=.ok z w){key:Value}{kl:Lit}(i:keyOf P kt key=some kl):
 (Instr.lookup t (.map (some M)) key true).run P w=.ok (.tuple #[(F kl).getD z,.bool (F kl).isSome]) w:=by
 obtain⟨D,j,b⟩:=h;obtain⟨v,l,k,c⟩:=j.look_ok K f g (zd:=.held z) (zp:=[]) rfl i;rw[b]at c;have a:(DataW.held v:DataW Value)=((F kl).map DataW.held).getD (.held z):=bV Prod.fst (aB c);have e:v=(F kl).getD z:=by
  cases d:F kl with
  |none=>rw[d]at a;exact vF a
  |some u=>rw[d]at a;exact vF a
 rw[k,e,yG b]
theorem put(h:qK P kt w M n F){t e:TypeId}(K:Keyed P kt)(f:P.underlying t=some (.map kt e))(g:n<maxLen){key:Value}{kl:Lit}(i:keyOf P kt key=some kl)(j:WideAt.IsKeyLit kl)(val:Value):
 ∃w',(Instr.mapUpdate t (.map (some M)) key val).run P w=.ok () w'/\(∀a:Lit->Option Value,a kl=some val->(∀k,k≠kl->a k=F k)->qK P kt w' M (n+1) a)/\w.grownBy w' (some M):=by
 obtain⟨D,c,l⟩:=h;obtain⟨w',m,o,p⟩:=c.update K f g i (d:=.held val) (ps:=[]) (val:=val) rfl;refine⟨w',m,λa q r=>⟨_,o,λk s=>?_⟩,p⟩;by_cases b:k=kl
 ·subst b;rw[uL c.isMap j,q];rfl
 ·rw[uh b,l k s,r k b]
end qK
theorem vX:Keyed Tryz.prog 9:=string_keyed ig
def zZ(k:ByteArray):Lit:=.string k.data.toList
theorem Gv{a b:ByteArray}(h:zZ a=zZ b):a=b:=by
 unfold zZ at h;injection h with h;exact wJ h
theorem Ih(k:ByteArray)(h:k.size<=maxLen):keyOf Tryz.prog 9 (.string k)=some (zZ k):=xy (P:=Tryz.prog) ig h
theorem K7(k:ByteArray):WideAt.IsKeyLit (zZ k):=trivial
end
section
open Go.RowKit T
attribute [local go_sem ↓] Go.wp_at_zero Go.wp_at_succ
theorem Bw{l:List ByteArray}{v:ByteArray}:aQ.oM l v=true<->v∈l:=by
 unfold aQ.oM;rw[dM];exact⟨λ⟨x,h,e⟩=>by rw[<-ak e];exact h,λh=>⟨v,h,aM rfl⟩⟩
def ou(w:World)(M:Nat)(K:List ByteArray):Prop:=∃n F,qK Tryz.prog 9 w M n F/\n<=K.length/\∀k:ByteArray,F (zZ k)=if aQ.oM K k=true then some (.bool true) else none
theorem ou.ag{w w':World}{M:Nat}{K:List ByteArray}(h:ou w M K)(hb:Below w.heap.size w w'):ou w' M K:=by
 obtain⟨n,F,a,b⟩:=h;exact⟨n,F,a.ag hb,b⟩
theorem ou.lt{w:World}{M:Nat}{K:List ByteArray}(h:ou w M K):M<w.heap.size:=by
 obtain⟨n,F,a,_⟩:=h;exact a.lt
theorem ou.aR{w w':World}{M:Nat}{K:List ByteArray}(h:ou w M K)(a:w'.heap[M]?=w.heap[M]?):ou w' M K:=by
 obtain⟨n,F,b,c⟩:=h;exact⟨n,F,b.aR a,c⟩
theorem ou.made(w:World):ou (w.alloc (.map #[] 0)) w.heap.size []:=⟨0,_,qK.made w _ _,ax _,λk=>by rw[aH (by rw[Bw];simp)]⟩
theorem ou.look{w:World}{M:Nat}{K:List ByteArray}(h:ou w M K)(k:ByteArray)(a:k.size<=maxLen):(Instr.lookup 101 (.map (some M)) (.string k) false).run Tryz.prog w=.ok (.bool (aQ.oM K k)) w:=by
 obtain⟨n,F,b,_,c⟩:=h;rw[b.look vX Tryz.underlying101 (ko w) (Ih k a),c k];cases aQ.oM K k<;>rfl
open Classical in
theorem ou.put{w:World}{M:Nat}{K:List ByteArray}(h:ou w M K)(j:K.length<maxLen)(v:ByteArray)(b:v.size<=maxLen):
 ∃w',(Instr.mapUpdate 101 (.map (some M)) (.string v) (.bool true)).run Tryz.prog w=.ok () w'/\ou w' M (v::K)/\w.grownBy w' (some M):=by
 obtain⟨n,F,c,l,d⟩:=h;obtain⟨w',f,g,i⟩:=c.put vX Tryz.underlying101 aar (Ih v b) (K7 v) (.bool true);refine⟨w',f,⟨n+1,λk=>if k=zZ v then some (.bool true) else F k,g _ (aJ rfl) (λk a=>aH a),by rw[bg];omega,λk=>?_⟩,i⟩;by_cases e:k=v
 ·subst e;show(if zZ k=zZ k then _ else _)=_;rw[aJ rfl,aJ (Bw.2 eu)]
 ·show(if zZ k=zZ v then _ else _)=_;rw[aH (λh=>e (Gv h)),d k];by_cases a:aQ.oM K k=true;·rw[aJ a,aJ (Bw.2 (aY _ (Bw.1 a)))]
  ·rw[aH a,aH (λh=>a (Bw.2 (by rcases bM.1 (Bw.1 h)with h|h;exact absurd h e;exact h)))]
theorem qE{w w1 a:World}{r:Option Nat}(h:w.grownBy w1 r)(h':w1.grownBy a r):w.grownBy a r:=
 ⟨h'.os.t h.os,h'.tape.t h.tape,h'.output.t h.output,aG h.size h'.size,λk b c=>(h'.block k (dw b h.size) c).t (h.block k b c)⟩
theorem below_grown{w w1:World}{r:Option Nat}(h:Below w.heap.size w w1):w.grownBy w1 r:=⟨h.os,h.tape,h.output,h.size,λk a _=>h.block k a⟩
theorem Dv(k:Int):∀(l:List T) (t:T) (x:ByteArray),x∈aQ.lT k (l++[t])<->x∈aQ.lT k l\/((k=7/\t.aA=2/\x=t.aI)\/x∈aQ.zT t)
 |[],t,x=>by
  simp only[jZ,aQ.lT,dK,bu,eX,false_or];by_cases h:k=7/\t.aA=2;·rw[aJ h];simp[h.1,h.2]
  ·rw[aH h];refine or_congr_left ?_;simp only[eX,false_iff];exact λe=>h ⟨e.1,e.2.1⟩
 |a::r,t,x=>by
  simp only[iP,aQ.lT,bu,Dv k r t x,DW]
theorem Dm(l:List T)(t:T):bJ (l++[t])=bJ l+t.bE:=by
 induction l with
 |nil=>simp[bJ]
 |cons a r b=>simp only[iP,bJ,b];omega
theorem Ra(l:List T):∀i:Nat,bJ (l.take i)<=bJ l:=by
 induction l with
 |nil=>intro i;simp
 |cons a r b=>intro i;cases i with
  |zero=>simp[bJ]
  |succ i=>simp only[gJ,bJ];have:=b i;omega
def XB(M:Nat)(K:List ByteArray)(t:T)(w:World)(e:Ending)(w':World):Prop:=
 e=.returned (.tuple #[])/\w.grownBy w' (some M)/\∃K',ou w' M K'/\(∀x,x∈K'<->x∈K\/x∈aQ.zT t)/\K'.length<=K.length+bJ t.ay
theorem aca{p:Prop}(h:p:=by
 go_wp2_with fail;refine H.o.m ?_;rintro e w4 ⟨rfl,l,a,m,f,d⟩;obtain⟨p,q⟩:=aO.o a f d;obtain⟨I,J,L,O⟩:=aad (qE B.o l) m p q;clear l m f d p q W y1 y2 z0 z1 z2;go_wp2_with fail;go_roundw;case rel=>exact⟨j+1,a,C.o,aaw,J.o,L.o,O.o,I.o⟩
 case measure=>exact aax C.o):p:=h
theorem Y9(M:Nat):∀(N:Nat) (t:T) (v:Value) (w:World) (K:List ByteArray),t.bE<N->ou w M K->bI (off ku (some M)) w v t->K.length+t.bE<=2097152->
 Calls Tryz.prog 112 #[.map (some M),v] w (XB M K t w):=by
 intro N;induction N with
 |zero=>intro t v w K h;omega
 |succ N ih=>
  intro t v w K Y g P Z;obtain⟨A,cap,rfl⟩:=P.view;obtain⟨k,s,c⟩:=t;simp only[T.aA,T.aI,T.ay]at P⊢;simp only[T.bE]at Y Z;have aB:=T.lq c;have i:=bI.Gh P;have u:=ae w (.cells #[.int .i64 k,.string s,.slice A c.length cap] 29);have D:=jy.new w (.int .i64 k) (.string s) (.slice A c.length cap);obtain⟨n,hn⟩:=aay c.length;have hm:=g.lt;obtain⟨IH,HN,af,HS,HL⟩:=aae ih hn (And.intro Y Z) (g.ag u) (i.ag u);rw[hn]at aB D u HS HL⊢;clear Y Z i P g ih;go_enter Tryz.func112,Tryz.ntmps112;go_upto_region 1 with fail;generalize w.alloc _=w1 at D u HS HL⊢;obtain⟨aP,BX⟩:=aab u D;have bq:n<=2097152:=(aaz af.o);obtain⟨x0,x1,x2⟩:=D.cells;clear u D aB hn;go_wp2_with fail;clear x0 x1 x2;go_loopw [9] (λiv wr=>∃(j:Nat) (K':List ByteArray),j<=n/\iv=.int .i64 j/\ou wr M K'/\(∀x,x∈K'<->x∈K\/x∈aQ.lT k (c.take j))/\K'.length<=K.length+bJ (c.take j)/\w1.grownBy wr (some M)) (λiv _=>n-(intOf iv).toNat);case atStart=>exact⟨0,K,aT _,rfl,HS.o,λx=>by rw[iM];simp[aQ.lT],aar,below_grown (aC _ _)⟩
  case round=>
   obtain⟨j,K',hj,rfl,g,E,Q,z⟩:=hrel;by_cases aD:j<n
   ·have R:j<c.length:=(by rw[HN.o];exact aD);have d:jU oC (off ku (some M)) wr (.slice A n cap) c:=HL.o.aR λb hb i=>⟨hb,z.block b i (λe=>(dL.1 hb).2 e.symm)⟩;obtain⟨b,o,cs,rfl,⟨A',c',rfl,S⟩,U⟩:=d.get R;have d0:=U 0 _ rfl;have d1:=U 1 _ rfl;have d2:=U 2 _ rfl;have aF:oC.size=3:=rfl;rw[aF]at d0 d1 d2;rw[fC]at d0;rw[<-gN]at d1 d2;have aG:=T.jq c j R;have F:=aZ R;have ah:(c[j]).aI.size<=maxLen:=S.at.La;have ak:=Ra c (j+1);obtain⟨x,aH⟩:=aay (c[j]);rw[aH]at d0 d1 d2 S aG F ah;have aJ:=BX.o.grown z (by intro e;injection e with e;omega);have G:=ae wr (.cells #[.int .i64 x.aA,.string x.aI,.slice A' x.ay.length c'] 29);have V:=jy.new wr (.int .i64 x.aA) (.string x.aI) (.slice A' x.ay.length c');obtain⟨HX,aK,av,B⟩:=aad (((bI.aR S (S':=off ku (some M)) λb hb i=>⟨hb,G.block b i⟩))) (aJ.ag G) (g.ag G) (qE z (below_grown G));have bu:=g.lt;rw[F]at ak;rw[Dm]at ak;have aL:=aa (show ∀(a:List ByteArray),(∀y,y∈a<->y∈K'\/((k=7/\x.aA=2/\y=x.aI)\/y∈aQ.zT x))->a.length<=K'.length+x.bE->(∀y,y∈a<->y∈K\/y∈aQ.lT k (c.take (j+1)))/\a.length<=K.length+bJ (c.take (j+1))from λa h1 h2=>by
     refine⟨λy=>?_,?_⟩;·rw[F,Dv,h1 y,E y,DW]
     ·rw[F,Dm];omega)
    have aM:x.bE=x.aI.size+4+bJ x.ay:=(by cases x;rfl);have r:=aa (show x.bE<N/\K'.length+1+x.bE<=2097152/\x.bE=x.aI.size+4+bJ x.ay from⟨aaz af.o,aaz af.o,aM⟩);have hi:(j:Int)<(n:Int):=aar;obtain⟨C,aS⟩:=aab aD ah;clear aM ak F aG S aH E Q g z G aJ U d R aF ah hj;go_upto_region 4 with fail;generalize wr.alloc _=w2 at HX aK av B V⊢;obtain⟨W,y1,y2⟩:=V.cells;obtain⟨z0,z1,z2⟩:=aK.o.cells;have BY:=aa V;clear d0 d1 d2 V;by_cases hk:k=7/\x.aA=2
    ·obtain⟨rfl,az⟩:=hk;obtain⟨w3,aU,aN,X⟩:=av.o.put (by have:=r.o;unfold maxLen;omega) x.aI aS.o;have aV:=aa (HX.o.aR (S':=off ku (some M)) λb hb i=>⟨hb,X.block b i (λe=>(dL.1 hb).2 e.symm)⟩);obtain⟨u0,u1,u2⟩:=(BY.o.grown X (by intro e;injection e with e;omega)).cells;have aW:=aa (qE B.o X);have H:=aa (IH.o x _ w3 (x.aI::K') (aaz r.o) aN aV.o (by have:=r.o;rw[bg];omega));have aX:=aa az;rw[az]at W u0 H;clear aN X az;go_wp2_with fail;refine H.o.m ?_;rintro e w4 ⟨rfl,l,a,m,f,d⟩;obtain⟨p,q⟩:=aL.o a (λy=>by
      rw[f y,bM];constructor
      ·rintro((h|h)|h);·exact .inr (.inl ⟨by trivial,aX.o,h⟩)
       ·exact .inl h
       ·exact .inr (.inr h)
      ·rintro(h|⟨_,_,h⟩|h);·exact .inl (.inr h)
       ·exact .inl (.inl h)
       ·exact .inr h) (by have:=r.o;rw[bg]at d;omega)
     obtain⟨I,J,L,O⟩:=aad (qE aW.o l) m p q;clear l m f d p q W y1 y2 z0 z1 z2 u0 u1 u2 aU;go_wp2_with fail;go_roundw;case rel=>exact⟨j+1,a,C.o,aaw,J.o,L.o,O.o,I.o⟩
     case measure=>exact aax C.o
    ·have H:=aa (IH.o x _ w2 K' (aaz r.o) av.o HX.o (aaz r.o));have HK:=aa hk;have aO:=aa (λa (f:∀y,y∈a<->y∈K'\/y∈aQ.zT x) (d:a.length<=K'.length+bJ x.ay)=>aL.o a (λy=>(f y).t (or_congr_right ⟨.inr,λh=>h.elim (λh=>absurd ⟨h.1,h.2.1⟩ HK.o) id⟩)) (aaz r.o));clear hk;by_cases aY:k=7
     ·subst aY;have bv:¬x.aA=2:=λe=>HK.o ⟨rfl,e⟩;exact aca
     ·exact aca
   ·obtain rfl:j=n:=aar;rw[bG abg]at E Q;have hi:¬(j:Int)<(j:Int):=aar;obtain⟨B,bf,bi,bn⟩:=aad (qE (below_grown aP.o) z) g E Q;clear z g E Q;go_wp2_with fail;go_end0;exact⟨rfl,B.o,K',bf.o,λy=>(bi.o y).t (by simp only[aQ.zT]),bn.o⟩
end
section
open Go.RowKit
variable {X:Nat->Bool}
def He(W:List fG)(t:T):List fG:=if t.use=true then (Wb.Ci W t).1 else W
theorem TD{W:List fG}{t:T}(h:t.use=false):He W t=W:=by unfold He;rw[h];rfl
theorem TE{W:List fG}{t:T}(h:t.use=true):He W t=(Wb.Ci W t).1:=by unfold He;rw[h];rfl
theorem Wl{X:List fG}(h:Wb.np X=0):∀s∈X,s.part=false:=λs a=>by
 unfold Wb.np at h;rw[List.countP_eq_zero]at h;have:=h s a;simpa using this
theorem VM{U:List T}(hU:yB U){W:List fG}{t:T}(h:t.use=true->t∈U)(d:Inv U W)(hS:Wb.Sound (Wb.Part W) W):Inv U (He W t)/\Wb.Sound (Wb.Part (He W t)) (He W t)/\∀x,Wb.Part (He W t) x<->Wb.Part W x:=by
 by_cases hu:t.use=true
 ·rw[TE hu];obtain⟨f,⟨X,i⟩,_⟩:=Wb.lI hU (t.bE+1) t (h hu) W d;have g:=(Wb.sQ hU (P:=Wb.Part W) (t.bE+1) t (h hu) W d hS).1;have c:=Wb.nP (t.bE+1) t W;change Inv U (Wb.Ci W t).1 at f;change W++X=(Wb.Ci W t).1 at i;change Wb.Sound (Wb.Part W) (Wb.Ci W t).1 at g;change Wb.np (Wb.Ci W t).1=Wb.np W at c;rw[<-i]at f g c⊢;have j:Wb.np X=0:=by
   unfold Wb.np at c⊢;rw[List.countP_append]at c;omega
  have a:∀x,Wb.Part (W++X) x<->Wb.Part W x:=λx=>by
   constructor
   ·rintro⟨s,b,a,e⟩;rcases bu.1 b with b|b;·exact⟨s,b,a,e⟩
    ·rw[Wl j s b]at a;cases a
   ·rintro⟨s,b,a,e⟩;exact⟨s,gM _ b,a,e⟩
  have k:Wb.Part (W++X)=Wb.Part W:=funext λx=>propext (a x);exact⟨f,by rw[k];exact g,a⟩
 ·rw[sH]at hu;rw[TD hu];exact⟨d,hS,λ_=>tQ⟩
theorem acb{p:Prop}(h:p:=by
 clear d;go_wp2_with fail;go_ret;exact⟨cO f.o.symm,by rw[j.o];exact⟨_,_,aD.o,aF.o⟩⟩):p:=h
theorem X9{U:List T}(hU:yB U)(aG:∀t∈U,t.bE<=1048576){B g M:Nat}{vs vp:Value}{W:List fG}(t:T)(v:Value)(w:World)(L:Inv U W)(h:gz X B w g M vs vp W)(s:bI (nr X g M vs vp) w v t)(N:t.bE<=1048576)(O:t.use=true->t∈U):
 Calls Tryz.prog 147 #[.agg #[.pointer (some ⟨g,0,none⟩)],v] w λe w'=>e=.returned (.bool (Hd W t))/\mI X B g M w vs vp (He W t) w':=by
 obtain⟨u,x,rfl⟩:=s.view;obtain⟨R,P⟩:=aay (Hd W t);have y:=YP (W:=W) (t:=t);have z:=YQ (W:=W) (t:=t);have A:=λi=>YR (W:=W) (t:=t) (i:=i);obtain⟨Y,hX⟩:=aay (He W t);have C:=TD (W:=W) (t:=t);have D:=TE (W:=W) (t:=t);rw[hX]at C D⊢;obtain⟨aH,aJ⟩:=aab C D;rw[P]at y z A⊢;obtain⟨aL,Q,aM⟩:=aac y z A;have E:=ae w (.cells #[.pointer (some ⟨g,0,none⟩)] 162);have a:=ae (w.alloc (.cells #[.pointer (some ⟨g,0,none⟩)] 162)) (.cells #[.int .i64 t.aA,.string t.aI,.slice u t.ay.length x] 29);have S:=h.lt.2;have l:=E.t (a.m E.size);obtain⟨F,m,H,aN⟩:=aad (h.ag l) (s.aR (S':=nr X g M vs vp) (λb hb G=>⟨hb,l.block b G⟩)) (((Fr.refl (X:=X) B g M vs vp w).ag S l)) (λI W' J=>QJ t I W' J N);have aO:=aa (λI W' (hu:t.use=true) J aP=>Uy (X:=X) (B:=B) hU aG (t.bE+1) t aar (O hu) I W' g M vs vp W L J aP);have c:=jy.new (w.alloc (.cells #[.pointer (some ⟨g,0,none⟩)] 162)) (.int .i64 t.aA) (.string t.aI) (.slice u t.ay.length x);have V:(w.alloc (.cells #[.pointer (some ⟨g,0,none⟩)] 162)).cell? ⟨w.heap.size,0,none⟩=some (.pointer (some ⟨g,0,none⟩)):=by
  have:=bP w (.cells #[.pointer (some ⟨g,0,none⟩)] 162);unfold World.cell?;rw[this];rfl
 have n:=af a V;rw[aK]at c;clear y z A P hX C D E a l h s L N O V;obtain⟨k,Z⟩:=aay t.aA;obtain⟨nm,ah⟩:=aay t.aI;obtain⟨kn,ak⟩:=aay t.ay.length;rw[Z,ah,ak]at c F m H n⊢;clear Z ah ak;go_enter Tryz.func147,Tryz.ntmps147;go_upto_region 1 with fail;generalize(w.alloc (.cells #[.pointer (some ⟨g,0,none⟩)] 162)).alloc (.cells #[.int .i64 k,.string nm,.slice u kn x] 29)=w1 at c F m H n⊢;obtain⟨x0,x1,x2⟩:=c.cells;obtain⟨BX,aQ⟩:=aab c n;clear c;go_wp2_with fail;refine(aN.o _ _ m.o.at).m ?_;rintro e w2 ⟨rfl,a⟩;obtain⟨av,aS,ax⟩:=aac (F.o.ag a) (m.o.aR (S':=nr X g M vs vp) (λb hb G=>⟨hb,a.block b G⟩)) (H.o.ag S a);obtain⟨y0,y1,y2⟩:=(BX.o.ag a).cells;have aT:=af a aQ.o;clear a x0 x1 x2 n;cases hu:t.use with
 |false=>
  obtain⟨f,j⟩:=aab (aL.o hu) (aH.o hu);clear hu;go_wp2_with fail;go_ret;exact⟨cO f.o.symm,by rw[j.o];exact⟨_,_,av.o,ax.o⟩⟩
 |true=>
  have o:=aO.o _ _ hu av.o aS.o;change Calls _ _ _ _ (Yz X B g M _ vs vp (Wb.Ci W t))at o;obtain⟨az,j⟩:=aab (λi=>aM.o i hu) (aJ.o hu);clear hu;generalize Wb.Ci W t=q at o Q az j;have aU:=aa o;clear o;go_wp2_with fail;refine aU.o.m ?_;rintro e w3 ⟨r,aV,aW,aB,aC⟩;obtain⟨aD,aF⟩:=aab aB (ax.o.t aC);clear aB aC y0 y1 y2 aT;cases d:q.2 with
  |none=>
   have K:e=.returned (.int .i64 (-1)):=(by rw[r,d];rfl);clear r;subst K;have f:=aa (Q.o d);exact acb
  |some p=>
   have K:e=.returned (.int .i64 (p:Int)):=(by rw[r,d];rfl);clear r;subst K;have aX:(0:Int)<=(p:Int):=aar;have f:=aa (az.o p d);exact acb
end
end Go.Proofs.YtaciciokmpbkkaaGreatDoor
