import Derived.Test.YtaciciokmpbkkaaGreatDoorWebG15
set_option maxRecDepth 100000
set_option maxHeartbeats 16000000
namespace Go.Proofs.YtaciciokmpbkkaaGreatDoor
section
def Fq(l next:List T)(t:T):List T:=
 if t.aC=3 then qw (qw next (t.eQ 0)) (t.eQ 1)
 else if t.aC=6 then qw next (t.eQ 1)
 else if t.aC=5 then (if uE ((t.eQ 0).bC+1) l (t.eQ 0)=true then qw next (t.eQ 1) else next)
 else next
def Cu(l:List T):List T:=l.foldl (Fq l) l
theorem Gf(l:List T)(t:T):l.length<=(qw l t).length/\((qw l t).length=l.length->qw l t=l):=by
 unfold qw;cases yg l t l.length with
 |none=>exact⟨ak _,λ_=>rfl⟩
 |some q=>
  have:((l.take q++[t])++l.drop q).length=l.length+1:=(by simp;omega);show l.length<=((l.take q++[t])++l.drop q).length/\_;exact⟨by omega,λh=>absurd (this.symm.t h) (by omega)⟩
def SI(l:List T)(t x:T):Prop:=t.aC=3/\(x=t.eQ 0\/x=t.eQ 1)\/t.aC=6/\x=t.eQ 1\/t.aC=5/\uE ((t.eQ 0).bC+1) l (t.eQ 0)=true/\x=t.eQ 1
theorem Nj(l:List T){next:List T}(a:Cy next)(t:T):Cy (Fq l next t)/\next.length<=(Fq l next t).length/\∀x,x∈Fq l next t<->x∈next\/SI l t x:=by
 unfold Fq SI;by_cases d:t.aC=3
 ·rw[aI d];obtain⟨b,c⟩:=uZ a (t.eQ 0);obtain⟨g,i⟩:=uZ b (t.eQ 1);refine⟨g,aD (Gf next _).1 (Gf _ _).1,λx=>?_⟩;rw[i,c];constructor
  ·rintro((h|h)|h);·exact .inl h
   ·exact .inr (.inl ⟨d,.inl h⟩)
   ·exact .inr (.inl ⟨d,.inr h⟩)
  ·rintro(h|⟨_,h|h⟩|⟨h,_⟩|⟨h,_⟩);·exact .inl (.inl h)
   ·exact .inl (.inr h)
   ·exact .inr h
   ·omega
   ·omega
 ·rw[aG d];by_cases e:t.aC=6
  ·rw[aI e];obtain⟨b,c⟩:=uZ a (t.eQ 1);refine⟨b,(Gf next _).1,λx=>?_⟩;rw[c];constructor
   ·rintro(h|h);·exact .inl h
    ·exact .inr (.inr (.inl ⟨e,h⟩))
   ·rintro(h|⟨h,_⟩|⟨_,h⟩|⟨h,_⟩);·exact .inl h
    ·omega
    ·exact .inr h
    ·omega
  ·rw[aG e];by_cases f:t.aC=5
   ·rw[aI f];by_cases hb:uE ((t.eQ 0).bC+1) l (t.eQ 0)=true
    ·rw[aI hb];obtain⟨b,c⟩:=uZ a (t.eQ 1);refine⟨b,(Gf next _).1,λx=>?_⟩;rw[c];constructor
     ·rintro(h|h);·exact .inl h
      ·exact .inr (.inr (.inr ⟨f,hb,h⟩))
     ·rintro(h|⟨h,_⟩|⟨h,_⟩|⟨_,_,h⟩);·exact .inl h
      ·omega
      ·omega
      ·exact .inr h
    ·rw[aG hb];refine⟨a,ak _,λx=>⟨.inl,?_⟩⟩;rintro(h|⟨h,_⟩|⟨h,_⟩|⟨_,h,_⟩);·exact h
     ·omega
     ·omega
     ·exact absurd h hb
   ·rw[aG f];refine⟨a,ak _,λx=>⟨.inl,?_⟩⟩;rintro(h|⟨h,_⟩|⟨h,_⟩|⟨h,_⟩);·exact h
    ·omega
    ·omega
    ·omega
theorem Ae(l:List T):∀(a next:List T),Cy next->Cy (a.foldl (Fq l) next)/\next.length<=(a.foldl (Fq l) next).length/\∀x,x∈a.foldl (Fq l) next<->x∈next\/∃t∈a,SI l t x
 |[],next,b=>⟨b,ak _,λx=>by simp⟩
 |t::r,next,b=>by
  obtain⟨c,a2,a3⟩:=Nj l b t;obtain⟨d,e,b3⟩:=Ae l r _ c;refine⟨d,aD a2 e,λx=>?_⟩;rw[kT,b3,a3];constructor
  ·rintro((h|h)|⟨u,hu,h⟩);·exact .inl h
   ·exact .inr ⟨t,by simp,h⟩
   ·exact .inr ⟨u,bq _ hu,h⟩
  ·rintro(h|⟨u,hu,h⟩);·exact .inl (.inl h)
   ·rcases bL.1 hu with rfl|hu;·exact .inl (.inr h)
    ·exact .inr ⟨u,hu,h⟩
open Classical in
theorem SX{l m:List T}(a:Cy l)(c:Cy m)(h:∀x∈l,x∈m)(i:m.length=l.length):m=l:=by
 have nd:∀{k:List T},Cy k->k.Nodup:=λd=>List.Pairwise.imp (λh e=>by subst e;exact AU _ h) d;refine CP c a λx=>⟨λf=>?_,h x⟩;by_cases b:x∈l;·exact b
 ·have g:(x::l).Nodup:=List.nodup_cons.2 ⟨b,nd a⟩;have:=xY g (m:=m) λy hy=>by
   rcases bL.1 hy with rfl|hy;·exact f
   ·exact h y hy
  simp only[bu]at this;omega
def Nk:Nat->List T->List T
 |0,l=>l
 |f+1,l=>if (Cu l).length=l.length then l else Nk f (Cu l)
def mG(K:List T):List T:=K.foldl qw []
theorem zL:∀(K l:List T),Cy l->Cy (K.foldl qw l)/\∀x,x∈K.foldl qw l<->x∈l\/x∈K
 |[],l,a=>⟨a,λx=>by simp⟩
 |t::r,l,a=>by
  obtain⟨b,a2⟩:=uZ a t;obtain⟨c,d⟩:=zL r _ b;exact⟨c,λx=>by rw[kT,d,a2,bL,uh]⟩
structure J4 (U:List T) (K:T->Prop) (l:List T):Prop where
 Vi:Cy l
 use:∀x∈l,x.use=true
 mem:∀x∈l,x∈U
 an:∀x∈l,An K x
theorem Wy{U l:List T}{K:T->Prop}(h:J4 U K l)(hU:yA U){t x:T}(a:t∈l)(d:SI l t x):x.use=true/\x∈U/\An K x:=by
 have hu:=h.use t a;have g:=T.oU (aP.1 (T.iJ hu)).2;have b:=Vs K t (h.an t a);rcases d with⟨c,rfl|rfl⟩|⟨e,rfl⟩|⟨f,hb,rfl⟩;·exact⟨rV hu (by omega) (by omega),hU.eQ t (h.mem t a) 0 (by omega),(b.1 c).1⟩
 ·exact⟨rV hu (by omega) (by omega),hU.eQ t (h.mem t a) 1 (by omega),(b.1 c).2⟩
 ·exact⟨rV hu (by omega) (by omega),hU.eQ t (h.mem t a) 1 (by omega),b.2.1 e⟩
 ·refine⟨rV hu (by omega) (by omega),hU.eQ t (h.mem t a) 1 (by omega),b.2.2 f ?_⟩;exact(Ct h.use _ _ (rV hu (by omega) (by omega)) hb).m λy hy=>h.an y hy
theorem J4.round{U l:List T}{K:T->Prop}(h:J4 U K l)(hU:yA U):J4 U K (Cu l)/\l.length<=(Cu l).length/\∀x∈l,x∈Cu l:=by
 obtain⟨c,d,b⟩:=Ae l l l h.Vi;have key:∀x∈Cu l,x.use=true/\x∈U/\An K x:=λx a=>by
  rcases(b x).1 a with a|⟨t,e,f⟩;·exact⟨h.use x a,h.mem x a,h.an x a⟩
  ·exact Wy h hU e f
 exact⟨⟨c,λx a=>(key x a).1,λx a=>(key x a).2.1,λx a=>(key x a).2.2⟩,d,λx a=>(b x).2 (.inl a)⟩
open Classical in
theorem J4.len{U l:List T}{K:T->Prop}(h:J4 U K l):l.length<=U.length:=
 xY (List.Pairwise.imp (λh e=>by subst e;exact AU _ h) h.Vi) h.mem
theorem Iq{U:List T}{K:T->Prop}(hU:yA U):∀(f:Nat) (l:List T),J4 U K l->U.length<f+l.length->J4 U K (Nk f l)/\(∀x∈l,x∈Nk f l)/\NS (· ∈Nk f l)
 |0,l,h,k=>by have:=h.len;omega
 |f+1,l,h,k=>by
  obtain⟨g,s,i⟩:=h.round hU;simp only[Nk];by_cases b:(Cu l).length=l.length
  ·rw[aI b];refine⟨h,λx c=>c,λt d=>?_⟩;have e:=SX h.Vi g.Vi i b;have a:∀x,SI l t x->x∈l:=λx m=>by
    rw[<-e];exact((Ae l l l h.Vi).2.2 x).2 (.inr ⟨t,d,m⟩)
   have u:=T.oU (aP.1 (T.iJ (h.use t d))).2;refine⟨λj=>⟨a _ (.inl ⟨j,.inl rfl⟩),a _ (.inl ⟨j,.inr rfl⟩)⟩,λn=>a _ (.inr (.inl ⟨n,rfl⟩)),λo p=>a _ (.inr (.inr ⟨o,?_,rfl⟩))⟩;exact wX hU _ _ (hU.eQ t (h.mem t d) 0 (by omega)) (dI _) p
  ·rw[aG b];obtain⟨q,r,b3⟩:=Iq hU f _ g (by omega);exact⟨q,λx c=>r x (i x c),b3⟩
theorem KJ{U K:List T}(hU:yA U)(d:∀t∈K,t∈U)(hu:∀t∈K,t.use=true){f:Nat}(k:U.length<f):Cy (Nk f (mG K))/\∀x,x∈Nk f (mG K)<->An (· ∈K) x:=by
 obtain⟨e,g⟩:=zL K [] List.Pairwise.nil;have b:∀x,x∈mG K<->x∈K:=λx=>(g x).t ⟨λh=>by rcases h with h|h;cases h;exact h,.inr⟩;have hi:J4 U (· ∈K) (mG K):=⟨e,λx a=>hu x ((b x).1 a),λx a=>d x ((b x).1 a),λx a=>An.bH ((b x).1 a)⟩;obtain⟨c,i,b3⟩:=Iq hU f _ hi (by omega);exact⟨c.Vi,λx=>⟨c.an x,λj=>j _ b3 λy hy=>i y ((b y).2 hy)⟩⟩
theorem QK{K L:List T}(h:Po K L):Cy L:=by
 obtain⟨_,c,d⟩:=h;refine List.Pairwise.imp₂ (λa b f e=>?_) c d;have i:=T.oK a b;rcases T.mg a b with g|g|g;·exact g
 ·exact absurd (T.cmp_eq _ _ g) e
 ·omega
end
section
structure pF where
 gq:Nat
 b:List Bd
structure jZ where
 aS:List pF
 bH:List T
structure oF where
 dM:Nat
 bJ:T
abbrev iZ:=ByteArray×List (Int×T)
namespace aT
open T
def FQ(l:List T):List T:=mG l
def moves(s:List iZ):Nat:=(s.map λx=>x.2.length).sum
def err:List iZ->Int
 |[]=>0
 |x::r=>if mh x.1 x.2=0 then err r else mh x.1 x.2
def lU(s:List iZ)(bH:List T):Int:=if s.length=0\/16<moves s\/32<bH.length then 72 else err s
def jV(s:List iZ)(bH:List T):jZ:=⟨s.map λ_=>⟨0,[]⟩,FQ (bH.filter T.use)⟩
def next(s:List iZ)(x:jZ)(i:Nat):Option (Int×T):=
 match s[i]?,x.aS[i]? with
 |some st,some q=>st.2[q.gq]?
 |_,_=>none
mutual
def zJ:T->List ByteArray
 |.mk k _ a=>lM k a
def lM:Int->List T->List ByteArray
 |_,[]=>[]
 |k,t::r=>(if k=7/\t.aC=2 then [t.aJ] else [])++(zJ t++lM k r)
end
def parts(K:List T):List T:=Nk ((iY K).length+1) (mG K)
def can(P:List T)(t:T):Bool:=t.use&&uE (t.bC+1) P t
def oL(l:List ByteArray)(v:ByteArray):Bool:=l.any λy=>decide (y=v)
def fills(pat:T)(names:List ByteArray)(P:List T):List ByteArray->List Bd->List T
 |[],b=>(kz pat b).toList
 |v::vs,b=>P.flatMap λp=>if oL names v=true/\p.aC≠1 then [] else fills pat names P vs (b++[⟨v,p⟩])
def accept(pat:T)(b:List Bd)(P:List T)(t:T):Bool:=(oM pat t b).isSome&&can P t
def once(l:List ByteArray):List ByteArray:=l.foldr (λv r=>if oL r v=true then r else v::r) []
def left(pat:T)(b:List Bd):List ByteArray:=(once (vars pat)).filter λv=>!b.any λy=>decide (y.var=v)
def rC(pat:T)(b:List Bd)(K:List T):List T:=
 FQ (((parts K)++fills pat (zJ pat) (parts K) (left pat b) b).filter (accept pat b (parts K)))
def Zb(x:jZ)(i:Nat)(f:pF->pF):List pF:=x.aS.modify i f
def move(x:jZ)(m:Int×T)(t:oF):jZ:=
 let q:=(x.aS[t.dM]?).getD ⟨0,[]⟩
 ⟨Zb x t.dM λq=>⟨q.gq+1,if m.1=2 then (oM m.2 t.bJ q.b).getD [] else q.b⟩,
  if m.1=1 then (match kz m.2 q.b with
   |some v=>FQ (x.bH++[v])
   |none=>x.bH) else x.bH⟩
def turnsOf(s:List iZ)(x:jZ)(i:Nat):List oF:=
 match next s x i with
 |none=>[]
 |some m=>if m.1=2 then (rC m.2 ((x.aS[i]?).map pF.b |>.getD []) x.bH).map λt=>⟨i,t⟩ else [⟨i,uC⟩]
def jG(s:List iZ)(x:jZ):List oF:=(List.range s.length).flatMap (turnsOf s x)
def itoa(n:Nat):List UInt8:=Lib.decDigits n
def pG(b:List Bd):List UInt8:=b.flatMap λy=>y.var.data.toList++61::(y.t.gL++[10])
def uJ(l:List pF):List UInt8:=l.flatMap λq=>itoa q.gq++10::pG q.b
def rU(l:List T):List UInt8:=l.flatMap λt=>43::(t.gL++[10])
def iU(x:jZ):List UInt8:=uJ x.aS++rU x.bH
def pJ(s:List iZ)(x:jZ)(i:Nat)(claim:T):Bool:=
 match kz claim ((x.aS[i]?).map pF.b |>.getD [])with
 |none=>true
 |some c=>!(List.range x.aS.length).any λj=>j != i&&(((s[j]?).map Prod.snd |>.getD []).take ((x.aS[j]?).map pF.gq |>.getD 0)).any λm=>decide (m.1=4)&&
   (match kz m.2 ((x.aS[j]?).map pF.b |>.getD [])with
    |some d=>decide (cmp c d=0)
    |none=>false)
structure Lc where
 x:jZ
 before:Nat
 turn:oF
structure xD where
 jb:List Lc
 all:Bool
 ow:List ((Nat×Nat)×List oF)
def back(jb:List Lc):Nat->Nat->List oF
 |0,_=>[]
 |f+1,i=>if 0<i then (match jb[i]? with
  |some v=>v.turn::back jb f v.before
  |none=>[]) else []
def schedule(jb:List Lc)(i:Nat)(a:oF):List oF:=(a::back jb i i).reverse
def turn(s:List iZ)(i:Nat)(v:xD)(t:oF):xD:=
 match v.jb[i]? with
 |none=>v
 |some p=>
  match next s p.x t.dM with
  |none=>v
  |some m=>
   let place:=(t.dM,(p.x.aS[t.dM]?).map pF.gq |>.getD 0)
   let ow:=if m.1=3/\pJ s p.x t.dM m.2=true/\v.ow.lookup place=none then (place,schedule v.jb i t)::v.ow else v.ow
   let y:=move p.x m t
   if (v.jb.any λq=>decide (iU q.x=iU y))=true then ⟨v.jb,v.all,ow⟩
   else if 1000<=v.jb.length then ⟨v.jb,false,ow⟩
   else ⟨v.jb++[⟨y,i,t⟩],v.all,ow⟩
def search(s:List iZ):Nat->Nat->xD->xD
 |0,_,v=>v
 |f+1,i,v=>
  match v.jb[i]? with
  |none=>v
  |some p=>search s f (i+1) ((jG s p.x).foldl (turn s i) v)
def Xe(l:List ((Nat×Nat)×List oF))(i k:Nat):Option (List oF):=l.lookup (i,k)
def qz(s:List iZ)(bH:List T):xD:=search s 1000 0 ⟨[⟨jV s bH,0,⟨0,uC⟩⟩],true,[]⟩
def AP(s:List iZ)(v:xD):List (List oF):=
 (List.range s.length).flatMap λi=>(List.range (((s[i]?).map λx=>x.2.length).getD 0)).filterMap λk=>v.ow.lookup (i,k)
end aT
end
section
open Go.RowKit
def Cz:El pF where
 ty:=72
 size:=2
 gq S w xs q:=q.gq<=1048576/\∃v,xs=[.int .i64 (q.gq:Int),v]/\Cb S w v q.b
 len:=λ⟨_,_,e,_⟩=>by rw[e];rfl
 one:=λ⟨_,v,e,h⟩ u hu=>by
  rw[e]at hu;simp at hu;rcases hu with rfl|rfl;·rfl
  ·obtain⟨A,c,rfl,_⟩:=h.Hg.shape;rfl
 aR:=λ⟨a,v,e,h⟩ d=>⟨a,v,e,h.aR d⟩
 pos:=by decide
def CG:El oF where
 ty:=61
 size:=4
 gq S w xs q:=q.dM<=1048576/\∃A c,xs=[.int .i64 (q.dM:Int),.int .i64 q.bJ.aC,.string q.bJ.aJ,.slice A q.bJ.ay.length c]/\bN S w (.agg #[.int .i64 q.bJ.aC,.string q.bJ.aJ,.slice A q.bJ.ay.length c]) q.bJ
 len:=λ⟨_,_,_,e,_⟩=>by rw[e];rfl
 one:=λ⟨_,A,c,e,h⟩ u hu=>by rw[e]at hu;simp at hu;rcases hu with rfl|rfl|rfl|rfl<;>rfl
 aR:=λ⟨a,A,c,e,h⟩ b=>⟨a,A,c,e,h.aR b⟩
 pos:=by decide
def Zi:El (Int×T) where
 ty:=31
 size:=4
 gq S w xs m:=∃A c,xs=[.int .i64 m.1,.int .i64 m.2.aC,.string m.2.aJ,.slice A m.2.ay.length c]/\bN S w (.agg #[.int .i64 m.2.aC,.string m.2.aJ,.slice A m.2.ay.length c]) m.2
 len:=λ⟨_,_,e,_⟩=>by rw[e];rfl
 one:=λ⟨A,c,e,h⟩ u hu=>by rw[e]at hu;simp at hu;rcases hu with rfl|rfl|rfl|rfl<;>rfl
 aR:=λ⟨A,c,e,h⟩ a=>⟨A,c,e,h.aR a⟩
 pos:=by decide
def qi(S:Nat->Bool)(w:World)(v:Value)(x:jZ):Prop:=∃A c B d,v=.agg #[.slice A x.aS.length c,.slice B x.bH.length d]/\jK Cz S w (.slice A x.aS.length c) x.aS/\jK oC S w (.slice B x.bH.length d) x.bH
theorem qi.aR{S S':Nat->Bool}{w w':World}{v:Value}{x:jZ}(h:qi S w v x)(a:∀b,S b=true->b<w.heap.size->S' b=true/\w'.heap[b]?=w.heap[b]?):qi S' w' v x:=by
 obtain⟨A,c,B,d,e,f,g⟩:=h;exact⟨A,c,B,d,e,f.aR a,g.aR a⟩
theorem qi.ag{S:Nat->Bool}{w w':World}{v:Value}{x:jZ}(h:qi S w v x)(hb:Below w.heap.size w w'):qi S w' v x:=h.aR λb hS a=>⟨hS,hb.block b a⟩
theorem qi.any{S:Nat->Bool}{w:World}{v:Value}{x:jZ}(h:qi S w v x):qi mf w v x:=h.aR λ_ _ _=>⟨rfl,rfl⟩
theorem qi.low{S:Nat->Bool}{w:World}{v:Value}{x:jZ}(h:qi S w v x):qi (jQ w.heap.size) w v x:=h.aR λ_ _ a=>⟨aQ a,rfl⟩
theorem jm.get{w:World}{A:Option Addr}{a:List (Int×T)}(h:jm w A a){i:Nat}(hi:i<a.length):∃b o A' c,A=some ⟨b,o,none⟩/\w.cell? ⟨b,o+i*4,none⟩=some (.int .i64 a[i].1)/\w.cell? ⟨b,o+i*4+1,none⟩=some (.int .i64 a[i].2.aC)/\
 w.cell? ⟨b,o+i*4+2,none⟩=some (.string a[i].2.aJ)/\w.cell? ⟨b,o+i*4+3,none⟩=some (.slice A' a[i].2.ay.length c)/\aO w (.agg #[.int .i64 a[i].2.aC,.string a[i].2.aJ,.slice A' a[i].2.ay.length c]) a[i].2:=by
 rcases h with h|⟨b,o,e,h⟩;·omega
 ·obtain⟨A',c,d,f,g,j,k,_⟩:=h i hi;exact⟨b,o,A',c,e,d,f,g,j,k⟩
theorem jK.stand{S:Nat->Bool}{w:World}{A:Option Addr}{n cap:Nat}{L:List pF}(h:jK Cz S w (.slice A n cap) L){i:Nat}(hi:i<L.length):
 ∃b o v,A=some ⟨b,o,none⟩/\w.cell? ⟨b,o+i*2,none⟩=some (.int .i64 (L[i].gq:Int))/\w.cell? ⟨b,o+i*2+1,none⟩=some v/\Cb S w v L[i].b/\L[i].gq<=1048576:=by
 obtain⟨b,o,cs,e,⟨c,v,rfl,d⟩,a⟩:=h.get hi;exact⟨b,o,v,e,a 0 _ rfl,a 1 _ rfl,d,c⟩
theorem jK.turn{S:Nat->Bool}{w:World}{A:Option Addr}{n cap:Nat}{L:List oF}(h:jK CG S w (.slice A n cap) L){i:Nat}(hi:i<L.length):
 ∃b o B c,A=some ⟨b,o,none⟩/\w.cell? ⟨b,o+i*4,none⟩=some (.int .i64 (L[i].dM:Int))/\w.cell? ⟨b,o+i*4+1,none⟩=some (.int .i64 L[i].bJ.aC)/\w.cell? ⟨b,o+i*4+2,none⟩=some (.string L[i].bJ.aJ)/\
  w.cell? ⟨b,o+i*4+3,none⟩=some (.slice B L[i].bJ.ay.length c)/\bN S w (.agg #[.int .i64 L[i].bJ.aC,.string L[i].bJ.aJ,.slice B L[i].bJ.ay.length c]) L[i].bJ/\L[i].dM<=1048576:=by
 obtain⟨b,o,cs,e,⟨d,B,c,rfl,f⟩,a⟩:=h.get hi;exact⟨b,o,B,c,e,a 0 _ rfl,a 1 _ rfl,a 2 _ rfl,a 3 _ rfl,f,d⟩
def yu(w:World)(v:Value)(l:List iZ):Prop:=∃A c,v=.slice A l.length c/\sJ w A l/\l.length<=c/\c<=maxLen
theorem yu.ag{w w':World}{v:Value}{l:List iZ}(h:yu w v l)(hb:Below w.heap.size w w'):yu w' v l:=by
 obtain⟨A,c,e,a,b⟩:=h;exact⟨A,c,e,a.ag hb,b⟩
theorem sJ.get{w:World}{A:Option Addr}{l:List iZ}(h:sJ w A l){i:Nat}(hi:i<l.length):∃b o A' a,A=some ⟨b,o,none⟩/\w.cell? ⟨b,o+i*2,none⟩=some (.string l[i].1)/\w.cell? ⟨b,o+i*2+1,none⟩=some (.slice A' l[i].2.length a)/\jm w A' l[i].2:=by
 rcases h with h|⟨b,o,e,h⟩;·omega
 ·obtain⟨A',a,c⟩:=h i hi;exact⟨b,o,A',a,e,c⟩
end
section
open Go.RowKit
def iy(w:World)(g:Nat)(ty:TypeId)(xs:List Value):Prop:=w.heap[g]?=some (.cells xs.toArray ty (0,0))
namespace iy
variable {w w':World} {g:Nat} {ty:TypeId} {xs:List Value}
theorem cell(h:iy w g ty xs)(i:Nat){u:Value}(hu:xs[i]?=some u):w.cell? ⟨g,i,none⟩=some u:=by
 unfold iy at h;simp[World.cell?,h,hu]
theorem free(h:iy w g ty xs)(i:Nat):w.frozen? ⟨g,i,none⟩=false:=by
 unfold iy at h;simp[World.frozen?,h]
theorem lt(h:iy w g ty xs):g<w.heap.size:=(aZ.1 h).1
theorem set(h:iy w g ty xs)(i:Nat)(u:Value):iy (w.setCell ⟨g,i,none⟩ u) g ty (xs.set i u):=by
 unfold iy at*;simp[World.setCell,Array.getElem?_modify,h]
theorem setOther(h:iy w g ty xs){p:Addr}(a:g≠p.block)(v:Value):iy (w.setCell p v) g ty xs:=by
 unfold iy at*;rw[aM _ _ _ _ a];exact h
theorem ag(h:iy w g ty xs)(hb:Below w.heap.size w w'):iy w' g ty xs:=(hb.block g h.lt).t h
theorem grown{row:Option Nat}(h:iy w g ty xs)(a:w.grownBy w' row)(b:row≠some g):iy w' g ty xs:=(a.block g h.lt (λe=>b e.symm)).t h
theorem new(w:World)(xs:List Value)(ty:TypeId):iy (w.alloc (.cells xs.toArray ty)) w.heap.size ty xs:=bO w _
theorem two{a b:Value}(h:iy w g ty [a,b]):w.cell? ⟨g,0,none⟩=some a/\w.cell? ⟨g,1,none⟩=some b/\w.frozen? ⟨g,0,none⟩=false/\w.frozen? ⟨g,1,none⟩=false:=⟨h.cell 0 rfl,h.cell 1 rfl,h.free 0,h.free 1⟩
end iy
theorem qm{B:Nat}{a w:World}{g:Nat}(hb:Below B a w)(b:B<=g)(x y:Value):Below B a ((w.setCell ⟨g,0,none⟩ x).setCell ⟨g,1,none⟩ y):=
 (hb.setCell (show B<=(⟨g,0,none⟩:Addr).block from b) x).setCell (show B<=(⟨g,1,none⟩:Addr).block from b) y
theorem oQ(w:World)(g:Nat)(x y:Value)(b:Nat)(h:b≠g):((w.setCell ⟨g,0,none⟩ x).setCell ⟨g,1,none⟩ y).heap[b]?=w.heap[b]?:=
 (aM _ _ _ _ h).t (aM _ _ _ _ h)
theorem Tryz.JB:(Tryz.prog.info? 72).map (λi=>(i.zero,i.size,i.bytes))=some (some (.agg #[.int .i64 0,.slice none 0 0]),2,32):=by kernel_rfl
theorem Vr{S:Nat->Bool}{w:World}:∀n:Nat,Cz.all S w (List.replicate n [.int .i64 0,.slice none 0 0]) (List.replicate n ⟨0,[]⟩):=λn=>
 ⟨by simp,λi a b=>by
   rw[yn,yn];exact⟨aL _,.slice none 0 0,rfl,Cb.nil _ _⟩⟩
theorem JG(a b:Value):∀n:Nat,(List.range (n*2)).map (λj=>(#[a,b]:Array Value)[j % 2]!)=(List.replicate n [a,b]).flatten
 |0=>rfl
 |n+1=>by
  have e:(n+1)*2=n*2+1+1:=(by omega);rw[e,lV,lV,fZ,fZ,JG a b n,List.replicate_succ',pI];have c:n*2 % 2=0:=(by omega);have d:(n*2+1) % 2=1:=(by omega);simp[c,d]
theorem E5(w:World)(n:Nat)(l:n<=1048576):∃w',Sem.run Tryz.prog (Instr.makeSlice 33 (.int .i64 (n:Int)) (.int .i64 (n:Int))) w=.ok (.slice (some ⟨w.heap.size,0,none⟩) n n) w'/\Below w.heap.size w w'/\jK Cz (eG w.heap.size) w' (.slice (some ⟨w.heap.size,0,none⟩) n n) (List.replicate n ⟨0,[]⟩):=by
 obtain⟨b,hi,c,d,f⟩:=dV Tryz.JB;obtain⟨w',g,a,h⟩:=run_make_full (P:=Tryz.prog) w w.heap.size 33 72 b (.agg #[.int .i64 0,.slice none 0 0]) 2 Tryz.underlying33 hi c d .i64 .i64 n (by rw[f];omega) (by unfold maxLen;omega) (ak _);refine⟨w',g,(az _ _).grown h (ak _) (λj e=>by cases e),?_⟩;have i:(List.replicate n (⟨0,[]⟩:pF)).length=n:=r9;have k:gV Cz (eG w.heap.size) w.heap.size w' (.slice (some ⟨w.heap.size,0,none⟩) n n) (List.replicate n ⟨0,[]⟩):=by
  refine⟨List.replicate n [.int .i64 0,.slice none 0 0],Vr n,?_⟩;rw[i];have e:(madeCells (Value.agg #[.int .i64 0,.slice none 0 0]).cells (n*2)).toList=(List.replicate n [.int .i64 0,.slice none 0 0]).flatten:=by
   rw[<-JG];simp[madeCells,Value.cells]
  rw[e]at a;exact a
 exact k.list
end
section
open Go.RowKit T
attribute [local go_sem ↓] Go.wp_at_zero Go.wp_at_succ
def Gn(r:Option (Int×T))(a w:World)(e:Ending)(w':World):Prop:=Below w.heap.size w w'/\match r with
 |none=>e=.returned (.tuple #[.agg #[.int .i64 0,.int .i64 0,.string ⟨#[]⟩,.slice none 0 0],.bool false])
 |some m=>∃A c,e=.returned (.tuple #[.agg #[.int .i64 m.1,.int .i64 m.2.aC,.string m.2.aJ,.slice A m.2.ay.length c],.bool true])/\aO a (.agg #[.int .i64 m.2.aC,.string m.2.aJ,.slice A m.2.ay.length c]) m.2
theorem VQ{s:List iZ}{x:jZ}{i:Nat}(h:s.length<=i):aT.next s x i=none:=by
 unfold aT.next;rw[ig h]
theorem VR{s:List iZ}{x:jZ}{i:Nat}(h:x.aS.length<=i):aT.next s x i=none:=by
 unfold aT.next;rw[ig h];cases s[i]?<;>rfl
theorem VS{s:List iZ}{x:jZ}{i:Nat}(a:i<s.length)(b:i<x.aS.length):aT.next s x i=(s[i]).2[(x.aS[i]).gq]?:=by
 unfold aT.next;rw[aH a,aH b]
theorem sN{B:Nat}{b w:World}{g:Nat}(hb:Below B b w)(a:B<=g)(x y z u:Value):Below B b ((((w.setCell ⟨g,0,none⟩ x).setCell ⟨g,1,none⟩ y).setCell ⟨g,2,none⟩ z).setCell ⟨g,3,none⟩ u):=
 (((hb.setCell (show B<=(⟨g,0,none⟩:Addr).block from a) x).setCell (show B<=(⟨g,1,none⟩:Addr).block from a) y).setCell (show B<=(⟨g,2,none⟩:Addr).block from a) z).setCell (show B<=(⟨g,3,none⟩:Addr).block from a) u
theorem vL{B:Nat}{w w':World}(n:Nat)(h:Below B w w'):Below B w (w'.drewN n):=⟨h.os,h.tape,h.output,h.size,h.block⟩
theorem Lj{w:World}{g:Nat}{ty:TypeId}{a b c d:Value}(h:iy w g ty [a,b,c,d])(x y z u:Value):let w':=(((w.setCell ⟨g,0,none⟩ x).setCell ⟨g,1,none⟩ y).setCell ⟨g,2,none⟩ z).setCell ⟨g,3,none⟩ u
 w'.cell? ⟨g,0,none⟩=some x/\w'.cell? ⟨g,1,none⟩=some y/\w'.cell? ⟨g,2,none⟩=some z/\w'.cell? ⟨g,3,none⟩=some u:=by
 have e:=(((h.set 0 x).set 1 y).set 2 z).set 3 u;exact⟨e.cell 0 rfl,e.cell 1 rfl,e.cell 2 rfl,e.cell 3 rfl⟩
theorem Uk(s:List iZ)(x:jZ)(i:Int)(vs Q:Value)(r w:World)(hs:yu r vs s)(S:Below r.heap.size r w)(hx:qi mf w Q x)(t:∀st∈s,st.2.length<=1048576)(bn: -9223372036854775808<=i/\i<=9223372036854775807):
 Calls Tryz.prog 61 #[vs,Q,.int .i64 i] w (Gn (if i<0 then none else aT.next s x i.toNat) r w):=by
 obtain⟨As,cs,rfl,T,aP,aQ⟩:=hs;obtain⟨Ax,cx,Bx,dx,rfl,U,aR⟩:=hx;clear aR;obtain⟨R,u⟩:∃R,(if i<0 then none else aT.next s x i.toNat)=R:=⟨_,rfl⟩;rw[u];obtain⟨kl,V⟩:∃kl,x.bH.length=kl:=⟨_,rfl⟩;rw[V];clear V;have A:=af w (.cells #[.slice Ax x.aS.length cx,.slice Bx kl dx] 35);have h:=iy.new w [.slice Ax x.aS.length cx,.slice Bx kl dx] 35;change iy (w.alloc (.cells #[.slice Ax x.aS.length cx,.slice Bx kl dx] 35)) w.heap.size _ _ at h;have a:=iy.new (w.alloc (.cells #[.slice Ax x.aS.length cx,.slice Bx kl dx] 35)) [.int .i64 0,.int .i64 0,.string ⟨#[]⟩,.slice none 0 0] 31;have B:=af (w.alloc (.cells #[.slice Ax x.aS.length cx,.slice Bx kl dx] 35)) (.cells #[.int .i64 0,.int .i64 0,.string ⟨#[]⟩,.slice none 0 0] 31);have W:=aK w (.cells #[.slice Ax x.aS.length cx,.slice Bx kl dx] 35);rw[W]at a;change iy ((w.alloc (.cells #[.slice Ax x.aS.length cx,.slice Bx kl dx] 35)).alloc (.cells #[.int .i64 0,.int .i64 0,.string ⟨#[]⟩,.slice none 0 0] 31)) (w.heap.size+1) _ _ at a;have h:=h.ag B;have y:=A.t (B.m A.size);obtain⟨n,F⟩:∃n,s.length=n:=⟨_,rfl⟩;obtain⟨m,G⟩:∃m,x.aS.length=m:=⟨_,rfl⟩;obtain⟨X,Y,HS,aU,Z,aV⟩:=ZV F G T U u t;rw[F];rw[G]at h a A B y⊢;clear T U F G aP aQ u t A B W;go_enter Tryz.func61,Tryz.ntmps61;go_upto_region 1 with fail;generalize(w.alloc (.cells #[.slice Ax m cx,.slice Bx kl dx] 35)).alloc (.cells #[.int .i64 0,.int .i64 0,.string ⟨#[]⟩,.slice none 0 0] 31)=H at h a y⊢;obtain⟨I,ai,z⟩:=ZR y a (S.t (y.m S.size));have c0:=h.cell 0 rfl;have r0:=a.cell 0 rfl;have r1:=a.cell 1 rfl;have r2:=a.cell 2 rfl;have r3:=a.cell 3 rfl;have f0:=a.free 0;have f1:=a.free 1;have f2:=a.free 2;have f3:=a.free 3;clear h a y;have C:=aa (λ(nq:Nat) (u:R=none)=>show Gn R r w (.returned (.tuple #[.agg #[.int .i64 0,.int .i64 0,.string ⟨#[]⟩,.slice none 0 0],.bool false])) (((((H.drewN nq).setCell ⟨w.heap.size+1,0,none⟩ (.int .i64 0)).setCell ⟨w.heap.size+1,1,none⟩ (.int .i64 0)).setCell ⟨w.heap.size+1,2,none⟩ (.string ⟨#[]⟩)).setCell ⟨w.heap.size+1,3,none⟩ (.slice none 0 0))from by
  subst u;exact⟨sN (vL nq I.o) (by omega) _ _ _ _,rfl⟩)
 have o:=aa (λnq=>Lj (w:=H.drewN nq) ai.o (.int .i64 0) (.int .i64 0) (.string ⟨#[]⟩) (.slice none 0 0));by_cases h0:i<0
 ·have k:=aa (show R=none by rw[<-Z.o,aI h0]);go_quiet (fail);go_wp2_with fail;obtain⟨d,e,f,g⟩:=o.o nq;refine bG (v:=.tuple #[.agg #[.int .i64 0,.int .i64 0,.string ⟨#[]⟩,.slice none 0 0],.bool false]) (by simp[results,Tryz.results61,go_sem,d,e,f,g]) rfl (C.o nq k.o)
 ·obtain⟨j,rfl⟩:∃j:Nat,i=(j:Int):=⟨i.toNat,by omega⟩;have b:=Z.o;rw[aG h0,oh]at b;by_cases h1:j<n
  ·by_cases h2:j<m
   ·have D:j<s.length:=(by rw[X.o];exact h1);have J:j<x.aS.length:=(by rw[Y.o];exact h2);rw[VS D J]at b;obtain⟨b1,o1,v1,rfl,ak,aW,aX,hq⟩:=aU.o.stand J;clear aX;obtain⟨b2,o2,A2,c2,rfl,aY,av,K⟩:=HS.o.get D;have t:=aV.o _ (aN D);have d0:=ae I.o ak;have g1:=ae z.o av;obtain⟨q,ax⟩:∃q,x.aS[j].gq=q:=⟨_,rfl⟩;obtain⟨p,az⟩:∃p,(s[j]).2=p:=⟨_,rfl⟩;rw[ax]at d0 b hq;rw[az]at g1 K b t;obtain⟨l,L⟩:∃l,p.length=l:=⟨_,rfl⟩;rw[L]at g1 t;have aA:¬(n:Int)<=(j:Int):=(by omega);have aZ:¬(m:Int)<=(j:Int):=(by omega);have bq:(j:Int)<(n:Int):=(by omega);have bu:(j:Int)<(m:Int):=(by omega);have bv:¬(q:Int)<0:=(by omega);obtain⟨E,aB,bf⟩:=ZR L b K;clear ax az L b K ak aW aY av D J;by_cases M:q<l
    ·have bg:¬(l:Int)<=(q:Int):=(by omega);have bz:(q:Int)<(l:Int):=(by omega);obtain⟨b3,o3,N,c3,rfl,aD,aF,aL,aM,O⟩:=bf.o.get (i:=q) (by rw[E.o];exact M);obtain⟨k0,k1,k2,k3⟩:=Z4 z.o aD aF aL aM;have P:p[q]?=some (p[q]'(by rw[E.o];exact M)):=aH _;obtain⟨c,aO⟩:∃c,p[q]'(by rw[E.o];exact M)=c:=⟨_,rfl⟩;rw[aO]at k0 k1 k2 k3 O P;obtain⟨bi,HT⟩:=ZQ (aB.o.symm.t P) O;clear aO P O aD aF aL aM;have o:=aa (λnq=>Lj (w:=H.drewN nq) ai.o (.int .i64 c.1) (.int .i64 c.2.aC) (.string c.2.aJ) (.slice N c.2.ay.length c3));go_quiet (fail);go_wp2_with fail
     go_region
     go_wp2_with fail;obtain⟨d,e,f,g⟩:=o.o (nq+1);refine bG (v:=.tuple #[.agg #[.int .i64 c.1,.int .i64 c.2.aC,.string c.2.aJ,.slice N c.2.ay.length c3],.bool true]) (by simp[results,Tryz.results61,go_sem,d,e,f,g]) rfl ?_;rw[bi.o];exact⟨sN (vL (nq+1) I.o) (by omega) _ _ _ _,N,c3,rfl,HT.o⟩
    ·have bg:(l:Int)<=(q:Int):=(by omega);have k:=aa (show R=none by rw[<-aB.o];exact ig (by rw[E.o];omega));go_quiet (fail);go_wp2_with fail;obtain⟨d,e,f,g⟩:=o.o nq;refine bG (v:=.tuple #[.agg #[.int .i64 0,.int .i64 0,.string ⟨#[]⟩,.slice none 0 0],.bool false]) (by simp[results,Tryz.results61,go_sem,d,e,f,g]) rfl (C.o nq k.o)
   ·have k:=aa (show R=none by rw[<-b];exact VR (by rw[Y.o];omega));have aA:¬(n:Int)<=(j:Int):=(by omega);have aZ:(m:Int)<=(j:Int):=(by omega);clear b;go_quiet (fail);go_wp2_with fail;obtain⟨d,e,f,g⟩:=o.o nq;refine bG (v:=.tuple #[.agg #[.int .i64 0,.int .i64 0,.string ⟨#[]⟩,.slice none 0 0],.bool false]) (by simp[results,Tryz.results61,go_sem,d,e,f,g]) rfl (C.o nq k.o)
  ·have k:=aa (show R=none by rw[<-b];exact VQ (by rw[X.o];omega));have aA:(n:Int)<=(j:Int):=(by omega);clear b;go_quiet (fail);go_wp2_with fail;obtain⟨d,e,f,g⟩:=o.o nq;refine bG (v:=.tuple #[.agg #[.int .i64 0,.int .i64 0,.string ⟨#[]⟩,.slice none 0 0],.bool false]) (by simp[results,Tryz.results61,go_sem,d,e,f,g]) rfl (C.o nq k.o)
end
section
open Go.RowKit
theorem jL{w W:World}(h:Below w.heap.size w W)(o:Obj):Below w.heap.size w (W.alloc o):=h.t ((af W o).m h.size)
theorem jq{w W:World}(h:Below w.heap.size w W.drew)(o:Obj):Below w.heap.size w (W.alloc o).drew:=(jL (W:=W) ⟨h.os,h.tape,h.output,h.size,h.block⟩ o).drew
section
variable {S:World->Prop} {K':Act->World->Prop} {X:Act->World->Prop}
theorem yS(b:Shut (∀a w,S w->(S w->X a w)->K' a w)){a a':Act}{W:World}{xs:List Value}{ty:TypeId}(hS:S (W.alloc (.cells xs.toArray ty)))(h:∀g,W.heap.size=g->iy (W.alloc (.cells xs.toArray ty)) g ty xs->S (W.alloc (.cells xs.toArray ty))->X a' (W.alloc (.cells xs.toArray ty)))(c:a=a':=by((try simp only[Act.put,dn,eF,dP]);try rfl)):K' a (W.alloc (.cells xs.toArray ty)):=
 b.o _ _ hS (by rw[c];exact h _ rfl (iy.new _ _ _))
theorem rP(b:Shut (∀a w,S w->(S w->X a w)->K' a w)){a a':Act}{W:World}{xs:List Value}{ty:TypeId}(hS:S (W.alloc (.cells xs.toArray ty)).drew)(h:∀g,W.heap.size=g->iy (W.alloc (.cells xs.toArray ty)).drew g ty xs->S (W.alloc (.cells xs.toArray ty)).drew->X a' (W.alloc (.cells xs.toArray ty)).drew)(c:a=a':=by((try simp only[Act.put,dn,eF,dP]);try rfl)):K' a (W.alloc (.cells xs.toArray ty)).drew:=
 b.o _ _ hS (by rw[c];exact h _ rfl (iy.new W xs ty))
theorem WA(b:Shut (∀a w,S w->(S w->X a w)->K' a w)){a a':Act}{W:World}{g:Nat}{ty:TypeId}{xs:List Value}{x y z:Value}(c:iy W g ty xs)(hS:S (((W.setCell ⟨g,0,none⟩ x).setCell ⟨g,1,none⟩ y).setCell ⟨g,2,none⟩ z))(h:iy (((W.setCell ⟨g,0,none⟩ x).setCell ⟨g,1,none⟩ y).setCell ⟨g,2,none⟩ z) g ty (((xs.set 0 x).set 1 y).set 2 z)->S (((W.setCell ⟨g,0,none⟩ x).setCell ⟨g,1,none⟩ y).setCell ⟨g,2,none⟩ z)->X a' (((W.setCell ⟨g,0,none⟩ x).setCell ⟨g,1,none⟩ y).setCell ⟨g,2,none⟩ z))(d:a=a':=by((try simp only[Act.put,dn,eF,dP]);try rfl)):K' a (((W.setCell ⟨g,0,none⟩ x).setCell ⟨g,1,none⟩ y).setCell ⟨g,2,none⟩ z):=b.o _ _ hS (by rw[d];exact h (((c.set 0 x).set 1 y).set 2 z))
theorem WB(b:Shut (∀a w,S w->(S w->X a w)->K' a w)){a a':Act}{W:World}{g:Nat}{ty:TypeId}{xs:List Value}{x y z u:Value}(c:iy W g ty xs)(hS:S ((((W.setCell ⟨g,0,none⟩ x).setCell ⟨g,1,none⟩ y).setCell ⟨g,2,none⟩ z).setCell ⟨g,3,none⟩ u))(h:iy ((((W.setCell ⟨g,0,none⟩ x).setCell ⟨g,1,none⟩ y).setCell ⟨g,2,none⟩ z).setCell ⟨g,3,none⟩ u) g ty ((((xs.set 0 x).set 1 y).set 2 z).set 3 u)->S ((((W.setCell ⟨g,0,none⟩ x).setCell ⟨g,1,none⟩ y).setCell ⟨g,2,none⟩ z).setCell ⟨g,3,none⟩ u)->X a' ((((W.setCell ⟨g,0,none⟩ x).setCell ⟨g,1,none⟩ y).setCell ⟨g,2,none⟩ z).setCell ⟨g,3,none⟩ u))(d:a=a':=by((try simp only[Act.put,dn,eF,dP]);try rfl)):K' a ((((W.setCell ⟨g,0,none⟩ x).setCell ⟨g,1,none⟩ y).setCell ⟨g,2,none⟩ z).setCell ⟨g,3,none⟩ u):=b.o _ _ hS (by rw[d];exact h ((((c.set 0 x).set 1 y).set 2 z).set 3 u))
end
theorem AQ{B:Nat}{a w:World}{g:Nat}(hb:Below B a w)(b:B<=g)(x y z:Value):Below B a (((w.setCell ⟨g,0,none⟩ x).setCell ⟨g,1,none⟩ y).setCell ⟨g,2,none⟩ z):=(qm hb b x y).setCell (show B<=(⟨g,2,none⟩:Addr).block from b) z
theorem K6{P:Program}{md:Region.Mode}{ops:Array Oper}{Q:Exit->Act->World->Prop}{S:World->Prop}{Z:Nat->Nat}(i:Nat){rs:List Nat}{b:Oper}{fuel:Nat}{listed l':Array Bool}{a:Act}{w:World}(h:∀K':Act->World->Prop,Shut (∀a w,mI P md ops Q S Z fuel l' a w->K' a w)->if Region.wanted b (yielded ops a.tmps)=true then Oper.wp P b a w K' Q else K' (a.put b.dst undef) w)(d:gY P md ops Q S Z fuel listed a w rs)(hi:ops[i]?=some b:=by(simp only[au,aj,ah];rfl))(c:Z i=2:=by rfl)(e:listed.setIfInBounds i true=l':=by((try simp only[dn,eF,dP]);try rfl)):gY P md ops Q S Z fuel listed a w (i::rs):=λj hj=>by
 subst e;rcases bL.1 hj with rfl|hj;·exact Ey hi (λK' f=>h K' (λa w g=>f a w ⟨⟨λh=>(by rw[c]at h;cases h),λh=>(by rw[c]at h;cases h)⟩,g⟩))
 ·exact d j hj
end
section
open Go.RowKit Go.Maps
def YB(v:Value):Option (DataW Value×List MemPlace):=some (.held v,[])
def qI(P:Program)(kt:TypeId)(w:World)(M n:Nat)(F:Lit->Option Value):Prop:=∃D:DataW Value,w.ownsMap P kt YB M n D/\∀k a,D.atKey k a=((F k).map DataW.held).getD a
namespace qI
variable {P:Program} {kt:TypeId} {w w':World} {M n:Nat} {F:Lit->Option Value}
theorem made(w:World)(P:Program)(kt:TypeId):qI P kt (w.alloc (.map #[] 0)) w.heap.size 0 (λ_=>none):=⟨.map [],World.ownsMap_made w P kt YB,λ_ _=>rfl⟩
theorem lt(h:qI P kt w M n F):M<w.heap.size:=by
 obtain⟨D,a,_⟩:=h;exact a.lt
theorem kept{row:Option Nat}(h:qI P kt w M n F)(a:w.grownBy w' row)(b:some M≠row):qI P kt w' M n F:=by
 obtain⟨D,c,d⟩:=h;exact⟨D,c.kept a b,d⟩
theorem aR(h:qI P kt w M n F)(a:w'.heap[M]?=w.heap[M]?):qI P kt w' M n F:=by
 obtain⟨D,⟨b,clock,hb,r⟩,c⟩:=h;exact⟨D,⟨b,clock,a.t hb,r⟩,c⟩
theorem ag(h:qI P kt w M n F)(hb:Below w.heap.size w w'):qI P kt w' M n F:=h.aR (hb.block M h.lt)
theorem setCell(h:qI P kt w M n F){a:Addr}(b:M≠a.block)(u:Value):qI P kt (w.setCell a u) M n F:=h.aR (aM _ _ _ _ b)
theorem yE{D:DataW Value}(h:∀k zd,D.atKey k zd=((F k).map DataW.held).getD zd)(k:Lit):Maps.has D k=(F k).isSome:=by
 cases a:F k with
 |none=>exact Maps.has_false_of_atKey λz=>by rw[h k z,a];rfl
 |some v=>exact Maps.has_true_of_atKey (y:=.held v) λz=>by rw[h k z,a];rfl
theorem look(h:qI P kt w M n F){t e:TypeId}(K:Keyed P kt)(d:P.underlying t=some (.map kt e)){z:Value}(f:(zeroValue e).run P w=.ok z w){key:Value}{kl:Lit}(g:keyOf P kt key=some kl):
 (Instr.lookup t (.map (some M)) key false).run P w=.ok ((F kl).getD z) w:=by
 obtain⟨D,i,j⟩:=h;obtain⟨v,l,k,b⟩:=i.lookup K d f (zd:=.held z) (zp:=[]) rfl g;rw[j]at b;have a:(DataW.held v:DataW Value)=((F kl).map DataW.held).getD (.held z):=bY Prod.fst (aA b);have e:v=(F kl).getD z:=by
  cases c:F kl with
  |none=>rw[c]at a;exact vo a
  |some u=>rw[c]at a;exact vo a
 rw[k,e]
theorem look_ok(h:qI P kt w M n F){t e:TypeId}(K:Keyed P kt)(f:P.underlying t=some (.map kt e)){z:Value}(g:(zeroValue e).run P w=.ok z w){key:Value}{kl:Lit}(i:keyOf P kt key=some kl):
 (Instr.lookup t (.map (some M)) key true).run P w=.ok (.tuple #[(F kl).getD z,.bool (F kl).isSome]) w:=by
 obtain⟨D,j,b⟩:=h;obtain⟨v,l,k,c⟩:=j.look_ok K f g (zd:=.held z) (zp:=[]) rfl i;rw[b]at c;have a:(DataW.held v:DataW Value)=((F kl).map DataW.held).getD (.held z):=bY Prod.fst (aA c);have e:v=(F kl).getD z:=by
  cases d:F kl with
  |none=>rw[d]at a;exact vo a
  |some u=>rw[d]at a;exact vo a
 rw[k,e,yE b]
theorem put(h:qI P kt w M n F){t e:TypeId}(K:Keyed P kt)(f:P.underlying t=some (.map kt e))(g:n<maxLen){key:Value}{kl:Lit}(i:keyOf P kt key=some kl)(j:WideAt.IsKeyLit kl)(val:Value):
 ∃w',(Instr.mapUpdate t (.map (some M)) key val).run P w=.ok () w'/\(∀a:Lit->Option Value,a kl=some val->(∀k,k≠kl->a k=F k)->qI P kt w' M (n+1) a)/\w.grownBy w' (some M):=by
 obtain⟨D,c,l⟩:=h;obtain⟨w',m,o,p⟩:=c.update K f g i (d:=.held val) (ps:=[]) (val:=val) rfl;refine⟨w',m,λa q r=>⟨_,o,λk s=>?_⟩,p⟩;by_cases b:k=kl
 ·subst b;rw[uH c.isMap j,q];rfl
 ·rw[tX b,l k s,r k b]
end qI
theorem vR:Keyed Tryz.prog 9:=string_keyed gB
def zQ(k:ByteArray):Lit:=.string k.data.toList
theorem FY{a b:ByteArray}(h:zQ a=zQ b):a=b:=by
 unfold zQ at h;injection h with h;exact tJ h
theorem He(k:ByteArray)(h:k.size<=maxLen):keyOf Tryz.prog 9 (.string k)=some (zQ k):=xw (P:=Tryz.prog) gB h
theorem Kv(k:ByteArray):WideAt.IsKeyLit (zQ k):=trivial
end
section
open Go.RowKit T
attribute [local go_sem ↓] Go.wp_at_zero Go.wp_at_succ
theorem AX{l:List ByteArray}{v:ByteArray}:aT.oL l v=true<->v∈l:=by
 unfold aT.oL;rw[eU];exact⟨λ⟨x,h,e⟩=>by rw[<-ax e];exact h,λh=>⟨v,h,aQ rfl⟩⟩
def oz(w:World)(M:Nat)(K:List ByteArray):Prop:=∃n F,qI Tryz.prog 9 w M n F/\n<=K.length/\∀k:ByteArray,F (zQ k)=if aT.oL K k=true then some (.bool true) else none
theorem oz.ag{w w':World}{M:Nat}{K:List ByteArray}(h:oz w M K)(hb:Below w.heap.size w w'):oz w' M K:=by
 obtain⟨n,F,a,b⟩:=h;exact⟨n,F,a.ag hb,b⟩
theorem oz.lt{w:World}{M:Nat}{K:List ByteArray}(h:oz w M K):M<w.heap.size:=by
 obtain⟨n,F,a,_⟩:=h;exact a.lt
theorem oz.aR{w w':World}{M:Nat}{K:List ByteArray}(h:oz w M K)(a:w'.heap[M]?=w.heap[M]?):oz w' M K:=by
 obtain⟨n,F,b,c⟩:=h;exact⟨n,F,b.aR a,c⟩
theorem oz.made(w:World):oz (w.alloc (.map #[] 0)) w.heap.size []:=⟨0,_,qI.made w _ _,ak _,λk=>by rw[aG (by rw[AX];simp)]⟩
theorem oz.look{w:World}{M:Nat}{K:List ByteArray}(h:oz w M K)(k:ByteArray)(a:k.size<=maxLen):(Instr.lookup 101 (.map (some M)) (.string k) false).run Tryz.prog w=.ok (.bool (aT.oL K k)) w:=by
 obtain⟨n,F,b,_,c⟩:=h;rw[b.look vR Tryz.underlying101 (kg w) (He k a),c k];cases aT.oL K k<;>rfl
open Classical in
theorem oz.put{w:World}{M:Nat}{K:List ByteArray}(h:oz w M K)(j:K.length<maxLen)(v:ByteArray)(b:v.size<=maxLen):
 ∃w',(Instr.mapUpdate 101 (.map (some M)) (.string v) (.bool true)).run Tryz.prog w=.ok () w'/\oz w' M (v::K)/\w.grownBy w' (some M):=by
 obtain⟨n,F,c,l,d⟩:=h;obtain⟨w',f,g,i⟩:=c.put vR Tryz.underlying101 (by omega) (He v b) (Kv v) (.bool true);refine⟨w',f,⟨n+1,λk=>if k=zQ v then some (.bool true) else F k,g _ (aI rfl) (λk a=>aG a),by rw[bu];omega,λk=>?_⟩,i⟩;by_cases e:k=v
 ·subst e;show(if zQ k=zQ k then _ else _)=_;rw[aI rfl,aI (AX.2 eD)]
 ·show(if zQ k=zQ v then _ else _)=_;rw[aG (λh=>e (FY h)),d k];by_cases a:aT.oL K k=true;·rw[aI a,aI (AX.2 (bq _ (AX.1 a)))]
  ·rw[aG a,aG (λh=>a (AX.2 (by rcases bL.1 (AX.1 h)with h|h;exact absurd h e;exact h)))]
theorem qB{w w1 a:World}{r:Option Nat}(h:w.grownBy w1 r)(h':w1.grownBy a r):w.grownBy a r:=
 ⟨h'.os.t h.os,h'.tape.t h.tape,h'.output.t h.output,aD h.size h'.size,λk b c=>(h'.block k (dF b h.size) c).t (h.block k b c)⟩
theorem below_grown{w w1:World}{r:Option Nat}(h:Below w.heap.size w w1):w.grownBy w1 r:=⟨h.os,h.tape,h.output,h.size,λk a _=>h.block k a⟩
theorem C8(k:Int):∀(l:List T) (t:T) (x:ByteArray),x∈aT.lM k (l++[t])<->x∈aT.lM k l\/((k=7/\t.aC=2/\x=t.aJ)\/x∈aT.zJ t)
 |[],t,x=>by
  simp only[gH,aT.lM,dS,aU,dY,false_or];by_cases h:k=7/\t.aC=2;·rw[aI h];simp[h.1,h.2]
  ·rw[aG h];refine or_congr_left ?_;simp only[dY,false_iff];exact λe=>h ⟨e.1,e.2.1⟩
 |a::r,t,x=>by
  simp only[iT,aT.lM,aU,C8 k r t x,uh]
theorem CU(l:List T)(t:T):bE (l++[t])=bE l+t.bC:=by
 induction l with
 |nil=>simp[bE]
 |cons a r b=>simp only[iT,bE,b];omega
theorem QF(l:List T):∀i:Nat,bE (l.take i)<=bE l:=by
 induction l with
 |nil=>intro i;simp
 |cons a r b=>intro i;cases i with
  |zero=>simp[bE]
  |succ i=>simp only[gK,bE];have:=b i;omega
def Xm(M:Nat)(K:List ByteArray)(t:T)(w:World)(e:Ending)(w':World):Prop:=
 e=.returned (.tuple #[])/\w.grownBy w' (some M)/\∃K',oz w' M K'/\(∀x,x∈K'<->x∈K\/x∈aT.zJ t)/\K'.length<=K.length+bE t.ay
theorem YY(M:Nat):∀(N:Nat) (t:T) (v:Value) (w:World) (K:List ByteArray),t.bC<N->oz w M K->bN (off mf (some M)) w v t->K.length+t.bC<=2097152->
 Calls Tryz.prog 112 #[.map (some M),v] w (Xm M K t w):=by
 intro N;induction N with
 |zero=>intro t v w K h;omega
 |succ N ih=>
  intro t v w K Y g P Z;obtain⟨A,cap,rfl⟩:=P.view;obtain⟨k,s,c⟩:=t;simp only[T.aC,T.aJ,T.ay]at P⊢;simp only[T.bC]at Y Z;have aB:=T.kN c;have i:=bN.Hg P;have u:=af w (.cells #[.int .i64 k,.string s,.slice A c.length cap] 29);have D:=jM.new w (.int .i64 k) (.string s) (.slice A c.length cap);obtain⟨n,hn⟩:∃n,c.length=n:=⟨_,rfl⟩;have hm:=g.lt;obtain⟨IH,HN,ae,HS,HL⟩:=ZU ih hn (And.intro Y Z) (g.ag u) (i.ag u);rw[hn]at aB D u HS HL⊢;clear Y Z i P g ih;go_enter Tryz.func112,Tryz.ntmps112;go_upto_region 1 with fail;generalize w.alloc (.cells #[.int .i64 k,.string s,.slice A n cap] 29)=w1 at D u HS HL⊢;obtain⟨aQ,BX⟩:=ZQ u D;have bq:n<=2097152:=(by have:=ae.o;omega);obtain⟨x0,x1,x2⟩:=D.cells;clear u D aB hn;go_wp2_with fail;clear x0 x1 x2;go_loopw [9] (λiv wr=>∃(j:Nat) (K':List ByteArray),j<=n/\iv=.int .i64 j/\oz wr M K'/\(∀x,x∈K'<->x∈K\/x∈aT.lM k (c.take j))/\K'.length<=K.length+bE (c.take j)/\w1.grownBy wr (some M)) (λiv _=>n-(intOf iv).toNat);case atStart=>exact⟨0,K,aL _,rfl,HS.o,λx=>by rw[iH];simp[aT.lM],by omega,below_grown (az _ _)⟩
  case round=>
   obtain⟨j,K',hj,rfl,g,E,Q,z⟩:=hrel;by_cases aD:j<n
   ·have R:j<c.length:=(by rw[HN.o];exact aD);have d:jK oC (off mf (some M)) wr (.slice A n cap) c:=HL.o.aR λb hb i=>⟨hb,z.block b i (λe=>(dX.1 hb).2 e.symm)⟩;obtain⟨b,o,cs,rfl,⟨A',c',rfl,S⟩,U⟩:=d.get R;have d0:=U 0 _ rfl;have d1:=U 1 _ rfl;have d2:=U 2 _ rfl;have aF:oC.size=3:=rfl;rw[aF]at d0 d1 d2;rw[fE]at d0;rw[<-iw]at d1 d2;have aG:=T.iQ c j R;have F:=aV R;have ai:(c[j]).aJ.size<=maxLen:=S.at.Kz;have av:=QF c (j+1);obtain⟨x,aH⟩:∃x,c[j]=x:=⟨_,rfl⟩;rw[aH]at d0 d1 d2 S aG F ai;have aI:=BX.o.grown z (by intro e;injection e with e;omega);have G:=af wr (.cells #[.int .i64 x.aC,.string x.aJ,.slice A' x.ay.length c'] 29);have V:=jM.new wr (.int .i64 x.aC) (.string x.aJ) (.slice A' x.ay.length c');obtain⟨HX,aK,ax,B⟩:=ZT (((bN.aR S (S':=off mf (some M)) λb hb i=>⟨hb,G.block b i⟩))) (aI.ag G) (g.ag G) (qB z (below_grown G));have bv:=g.lt;rw[F]at av;rw[CU]at av;have aM:=aa (show ∀(a:List ByteArray),(∀y,y∈a<->y∈K'\/((k=7/\x.aC=2/\y=x.aJ)\/y∈aT.zJ x))->a.length<=K'.length+x.bC->(∀y,y∈a<->y∈K\/y∈aT.lM k (c.take (j+1)))/\a.length<=K.length+bE (c.take (j+1))from λa h1 h2=>by
     refine⟨λy=>?_,?_⟩;·rw[F,C8,h1 y,E y,uh]
     ·rw[F,CU];omega)
    have aN:x.bC=x.aJ.size+4+bE x.ay:=(by cases x;rfl);have r:=aa (show x.bC<N/\K'.length+1+x.bC<=2097152/\x.bC=x.aJ.size+4+bE x.ay from⟨by have:=ae.o;omega,by have:=ae.o;omega,aN⟩);have hi:(j:Int)<(n:Int):=(by omega);obtain⟨C,aS⟩:=ZQ aD ai;clear aN av F aG S aH E Q g z G aI U d R aF ai hj;go_upto_region 4 with fail;generalize wr.alloc (.cells #[.int .i64 x.aC,.string x.aJ,.slice A' x.ay.length c'] 29)=w2 at HX aK ax B V⊢;obtain⟨W,y1,y2⟩:=V.cells;obtain⟨z0,z1,z2⟩:=aK.o.cells;have BY:=aa V;clear d0 d1 d2 V;by_cases hk:k=7/\x.aC=2
    ·obtain⟨rfl,aA⟩:=hk;obtain⟨w3,aU,aO,X⟩:=ax.o.put (by have:=r.o;unfold maxLen;omega) x.aJ aS.o;have aW:=aa (HX.o.aR (S':=off mf (some M)) λb hb i=>⟨hb,X.block b i (λe=>(dX.1 hb).2 e.symm)⟩);obtain⟨u0,u1,u2⟩:=(BY.o.grown X (by intro e;injection e with e;omega)).cells;have aX:=aa (qB B.o X);have H:=aa (IH.o x _ w3 (x.aJ::K') (by have:=r.o;omega) aO aW.o (by have:=r.o;rw[bu];omega));have aZ:=aa aA;rw[aA]at W u0 H;clear aO X aA;go_wp2_with fail;refine H.o.m ?_;rintro e w4 ⟨rfl,l,a,m,f,d⟩;obtain⟨p,q⟩:=aM.o a (λy=>by
      rw[f y,bL];constructor
      ·rintro((h|h)|h);·exact .inr (.inl ⟨by trivial,aZ.o,h⟩)
       ·exact .inl h
       ·exact .inr (.inr h)
      ·rintro(h|⟨_,_,h⟩|h);·exact .inl (.inr h)
       ·exact .inl (.inl h)
       ·exact .inr h) (by have:=r.o;rw[bu]at d;omega)
     obtain⟨I,J,L,O⟩:=ZT (qB aX.o l) m p q;clear l m f d p q W y1 y2 z0 z1 z2 u0 u1 u2 aU;go_wp2_with fail;go_roundw;case rel=>exact⟨j+1,a,C.o,by go_num,J.o,L.o,O.o,I.o⟩
     case measure=>have:=C.o;simp[intOf];omega
    ·have H:=aa (IH.o x _ w2 K' (by have:=r.o;omega) ax.o HX.o (by have:=r.o;omega));have HK:=aa hk;have aP:=aa (λa (f:∀y,y∈a<->y∈K'\/y∈aT.zJ x) (d:a.length<=K'.length+bE x.ay)=>aM.o a (λy=>(f y).t (or_congr_right ⟨.inr,λh=>h.elim (λh=>absurd ⟨h.1,h.2.1⟩ HK.o) id⟩)) (by have:=r.o;omega));clear hk;by_cases bf:k=7
     ·subst bf;have bz:¬x.aC=2:=λe=>HK.o ⟨rfl,e⟩;go_wp2_with fail;refine H.o.m ?_;rintro e w4 ⟨rfl,l,a,m,f,d⟩;obtain⟨p,q⟩:=aP.o a f d;obtain⟨I,J,L,O⟩:=ZT (qB B.o l) m p q;clear l m f d p q W y1 y2 z0 z1 z2;go_wp2_with fail;go_roundw;case rel=>exact⟨j+1,a,C.o,by go_num,J.o,L.o,O.o,I.o⟩
      case measure=>have:=C.o;simp[intOf];omega
     ·go_wp2_with fail;refine H.o.m ?_;rintro e w4 ⟨rfl,l,a,m,f,d⟩;obtain⟨p,q⟩:=aP.o a f d;obtain⟨I,J,L,O⟩:=ZT (qB B.o l) m p q;clear l m f d p q W y1 y2 z0 z1 z2;go_wp2_with fail;go_roundw;case rel=>exact⟨j+1,a,C.o,by go_num,J.o,L.o,O.o,I.o⟩
      case measure=>have:=C.o;simp[intOf];omega
   ·obtain rfl:j=n:=(by omega);rw[aY (by rw[HN.o];exact ak _)]at E Q;have hi:¬(j:Int)<(j:Int):=(by omega);obtain⟨B,bg,bi,bn⟩:=ZT (qB (below_grown aQ.o) z) g E Q;clear z g E Q;go_wp2_with fail;go_end0;exact⟨rfl,B.o,K',bg.o,λy=>(bi.o y).t (by simp only[aT.zJ]),bn.o⟩
end
section
open Go.RowKit
variable {X:Nat->Bool}
def GA(W:List fC)(t:T):List fC:=if t.use=true then (Wb.BI W t).1 else W
theorem Tf{W:List fC}{t:T}(h:t.use=false):GA W t=W:=by unfold GA;rw[h];rfl
theorem Tg{W:List fC}{t:T}(h:t.use=true):GA W t=(Wb.BI W t).1:=by unfold GA;rw[h];rfl
theorem VV{X:List fC}(h:Wb.np X=0):∀s∈X,s.part=false:=λs a=>by
 unfold Wb.np at h;rw[List.countP_eq_zero]at h;have:=h s a;simpa using this
theorem Vv{U:List T}(hU:yA U){W:List fC}{t:T}(h:t.use=true->t∈U)(d:Inv U W)(hS:Wb.Sound (Wb.Part W) W):Inv U (GA W t)/\Wb.Sound (Wb.Part (GA W t)) (GA W t)/\∀x,Wb.Part (GA W t) x<->Wb.Part W x:=by
 by_cases hu:t.use=true
 ·rw[Tg hu];obtain⟨f,⟨X,i⟩,_⟩:=Wb.lH hU (t.bC+1) t (h hu) W d;have g:=(Wb.sP hU (P:=Wb.Part W) (t.bC+1) t (h hu) W d hS).1;have c:=Wb.nU (t.bC+1) t W;change Inv U (Wb.BI W t).1 at f;change W++X=(Wb.BI W t).1 at i;change Wb.Sound (Wb.Part W) (Wb.BI W t).1 at g;change Wb.np (Wb.BI W t).1=Wb.np W at c;rw[<-i]at f g c⊢;have j:Wb.np X=0:=by
   unfold Wb.np at c⊢;rw[List.countP_append]at c;omega
  have a:∀x,Wb.Part (W++X) x<->Wb.Part W x:=λx=>by
   constructor
   ·rintro⟨s,b,a,e⟩;rcases aU.1 b with b|b;·exact⟨s,b,a,e⟩
    ·rw[VV j s b]at a;cases a
   ·rintro⟨s,b,a,e⟩;exact⟨s,gQ _ b,a,e⟩
  have k:Wb.Part (W++X)=Wb.Part W:=funext λx=>propext (a x);exact⟨f,by rw[k];exact g,a⟩
 ·rw[oV]at hu;rw[Tf hu];exact⟨d,hS,λ_=>tL⟩
theorem XV{U:List T}(hU:yA U)(aG:∀t∈U,t.bC<=1048576){B g M:Nat}{vs vp:Value}{W:List fC}(t:T)(v:Value)(w:World)(L:Inv U W)(h:gD X B w g M vs vp W)(s:bN (nr X g M vs vp) w v t)(N:t.bC<=1048576)(O:t.use=true->t∈U):
 Calls Tryz.prog 147 #[.agg #[.pointer (some ⟨g,0,none⟩)],v] w λe w'=>e=.returned (.bool (Gz W t))/\mJ X B g M w vs vp (GA W t) w':=by
 obtain⟨u,x,rfl⟩:=s.view;obtain⟨R,P⟩:∃R,Gz W t=R:=⟨_,rfl⟩;have y:=YF (W:=W) (t:=t);have z:=YG (W:=W) (t:=t);have A:=λi=>YH (W:=W) (t:=t) (i:=i);obtain⟨Y,hX⟩:∃Y,GA W t=Y:=⟨_,rfl⟩;have C:=Tf (W:=W) (t:=t);have D:=Tg (W:=W) (t:=t);rw[hX]at C D⊢;obtain⟨aH,aI⟩:=ZQ C D;rw[P]at y z A⊢;obtain⟨aL,Q,aM⟩:=ZR y z A;have E:=af w (.cells #[.pointer (some ⟨g,0,none⟩)] 162);have a:=af (w.alloc (.cells #[.pointer (some ⟨g,0,none⟩)] 162)) (.cells #[.int .i64 t.aC,.string t.aJ,.slice u t.ay.length x] 29);have S:=h.lt.2;have l:=E.t (a.m E.size);obtain⟨F,m,H,aN⟩:=ZT (h.ag l) (s.aR (S':=nr X g M vs vp) (λb hb G=>⟨hb,l.block b G⟩)) (((Fr.refl (X:=X) B g M vs vp w).ag S l)) (λI W' J=>Qf t I W' J N);have aO:=aa (λI W' (hu:t.use=true) J aP=>Ua (X:=X) (B:=B) hU aG (t.bC+1) t (by omega) (O hu) I W' g M vs vp W L J aP);have c:=jM.new (w.alloc (.cells #[.pointer (some ⟨g,0,none⟩)] 162)) (.int .i64 t.aC) (.string t.aJ) (.slice u t.ay.length x);have V:(w.alloc (.cells #[.pointer (some ⟨g,0,none⟩)] 162)).cell? ⟨w.heap.size,0,none⟩=some (.pointer (some ⟨g,0,none⟩)):=by
  have:=bO w (.cells #[.pointer (some ⟨g,0,none⟩)] 162);unfold World.cell?;rw[this];rfl
 have n:=ae a V;rw[aK]at c;clear y z A P hX C D E a l h s L N O V;obtain⟨k,Z⟩:∃k,t.aC=k:=⟨_,rfl⟩;obtain⟨nm,ai⟩:∃nm,t.aJ=nm:=⟨_,rfl⟩;obtain⟨kn,ak⟩:∃kn,t.ay.length=kn:=⟨_,rfl⟩;rw[Z,ai,ak]at c F m H n⊢;clear Z ai ak;go_enter Tryz.func147,Tryz.ntmps147;go_upto_region 1 with fail;generalize(w.alloc (.cells #[.pointer (some ⟨g,0,none⟩)] 162)).alloc (.cells #[.int .i64 k,.string nm,.slice u kn x] 29)=w1 at c F m H n⊢;obtain⟨x0,x1,x2⟩:=c.cells;obtain⟨BX,aQ⟩:=ZQ c n;clear c;go_wp2_with fail;refine(aN.o _ _ m.o.at).m ?_;rintro e w2 ⟨rfl,a⟩;obtain⟨av,aS,ax⟩:=ZR (F.o.ag a) (m.o.aR (S':=nr X g M vs vp) (λb hb G=>⟨hb,a.block b G⟩)) (H.o.ag S a);obtain⟨y0,y1,y2⟩:=(BX.o.ag a).cells;have aT:=ae a aQ.o;clear a x0 x1 x2 n;cases hu:t.use with
 |false=>
  obtain⟨f,j⟩:=ZQ (aL.o hu) (aH.o hu);clear hu;go_wp2_with fail;go_ret;exact⟨cZ f.o.symm,by rw[j.o];exact⟨_,_,av.o,ax.o⟩⟩
 |true=>
  have o:=aO.o _ _ hu av.o aS.o;change Calls _ _ _ _ (Ym X B g M _ vs vp (Wb.BI W t))at o;obtain⟨az,j⟩:=ZQ (λi=>aM.o i hu) (aI.o hu);clear hu;generalize Wb.BI W t=q at o Q az j;have aU:=aa o;clear o;go_wp2_with fail;refine aU.o.m ?_;rintro e w3 ⟨r,aV,aW,aA,aB⟩;obtain⟨aD,aF⟩:=ZQ aA (ax.o.t aB);clear aA aB y0 y1 y2 aT;cases d:q.2 with
  |none=>
   have K:e=.returned (.int .i64 (-1)):=(by rw[r,d];rfl);clear r;subst K;have f:=aa (Q.o d);clear d;go_wp2_with fail;go_ret;exact⟨cZ f.o.symm,by rw[j.o];exact⟨_,_,aD.o,aF.o⟩⟩
  |some p=>
   have K:e=.returned (.int .i64 (p:Int)):=(by rw[r,d];rfl);clear r;subst K;have aX:(0:Int)<=(p:Int):=(by omega);have f:=aa (az.o p d);clear d;go_wp2_with fail;go_ret;exact⟨cZ f.o.symm,by rw[j.o];exact⟨_,_,aD.o,aF.o⟩⟩
end
end Go.Proofs.YtaciciokmpbkkaaGreatDoor
