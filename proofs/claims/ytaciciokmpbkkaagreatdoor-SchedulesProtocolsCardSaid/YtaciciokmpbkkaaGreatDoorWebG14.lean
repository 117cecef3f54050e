import Derived.Test.YtaciciokmpbkkaaGreatDoorWebG13
set_option maxRecDepth 100000
set_option maxHeartbeats 16000000
namespace Go.Proofs.YtaciciokmpbkkaaGreatDoor
section
def JC(P:T->Prop)(t:T):Prop:=(t.aA=3->P (t.eT 0)/\P (t.eT 1))/\(t.aA=6->P (t.eT 1))/\(t.aA=5->sD P (t.eT 0)->P (t.eT 1))
def Ox(P:T->Prop):Prop:=∀t,P t->JC P t
def An(K:T->Prop)(t:T):Prop:=∀Q:T->Prop,Ox Q->(∀x,K x->Q x)->Q t
theorem JC.iff{P Q:T->Prop}(h:∀x,P x<->Q x){t:T}(b:JC P t):JC Q t:=
 ⟨λa=>⟨(h _).1 (b.1 a).1,(h _).1 (b.1 a).2⟩,λa=>(h _).1 (b.2.1 a),λa c=>(h _).1 (b.2.2 a ((sD.iff h _).2 c))⟩
theorem An.bF{K:T->Prop}{t:T}(h:K t):An K t:=λ_ _ a=>a t h
theorem An.m{K K':T->Prop}(h:∀t,K t->K' t){t:T}(a:An K t):An K' t:=λQ b c=>a Q b λx d=>c x (h x d)
theorem VJ(K:T->Prop):Ox (An K):=λt d=>by
 refine⟨λc=>⟨λQ a b=>((a t (d Q a b)).1 c).1,λQ a b=>((a t (d Q a b)).1 c).2⟩,λc Q a b=>(a t (d Q a b)).2.1 c,λc e Q a b=>(a t (d Q a b)).2.2 c (e.m λx f=>f Q a b)⟩
namespace Wb
theorem Sl(W:List fG)(i:Nat)(hi:i<W.length)(x:T):Part (mark W i) x<->Part W x\/x=W[i].t:=by
 constructor
 ·rintro⟨s,f,g,d⟩;obtain⟨j,hj,rfl⟩:=bL f;have a:j<W.length:=abd;have b:=yJ W i j hj a;by_cases e:i=j;·subst e;right;rw[<-d,b.1]
  ·left;refine⟨W[j],aP a,?_,by rw[<-d,b.1]⟩;have:=b.2.2.2;rw[aH e]at this;rw[<-this];exact g
 ·intro h;have key:∀j (a:j<W.length),(W[j].part=true\/i=j)->Part (mark W i) W[j].t:=λj a c=>by
   have hj:j<(mark W i).length:=(by rw[kZ];exact a);have b:=yJ W i j hj a;refine⟨(mark W i)[j],aP hj,?_,b.1⟩;rw[b.2.2.2];by_cases e:i=j;·rw[aJ e]
   ·rw[aH e];rcases c with c|c;·exact c
    ·exact absurd c e
  rcases h with⟨s,f,g,d⟩|h
  ·obtain⟨j,a,rfl⟩:=bL f;rw[<-d];exact key j a (.inl g)
  ·rw[h];exact key i hi (.inr rfl)
theorem XH{U:List T}(hU:yB U){W:List fG}(b:Inv U W){t:T}(c:t∈U)(how:Nat)(jw:List Nat):∃h:(add W t how jw).2<(add W t how jw).1.length,(add W t how jw).1[(add W t how jw).2].t=t:=by
 cases a:find W t with
 |some i=>
  obtain⟨hi,e⟩:=find_eq hU b c a;rw[ry a];exact⟨hi,e⟩
 |none=>rw[rq a];exact⟨aau,aau⟩
theorem pF{U:List T}(hU:yB U){W:List fG}(b:Inv U W){t:T}(c:t∈U)(how:Nat)(jw:List Nat):
 (∀x,Part (take W t how jw).1 x<->Part W x\/x=t)/\((take W t how jw).2=false->Part W t/\(take W t how jw).1=(add W t how jw).1):=by
 obtain⟨hi,e⟩:=XH hU b c how jw;have d:=wX hi;unfold take;split
 ·rename_i h;rw[d]at h;have a:Part W t:=(wC W t how jw t).1 ⟨_,aP hi,h,e⟩;refine⟨λx=>(wC _ _ _ _ x).t ⟨.inl,λh=>?_⟩,λ_=>⟨a,rfl⟩⟩;rcases h with h|h;·exact h
  ·rw[h];exact a
 ·refine⟨λx=>?_,λh=>by cases h⟩;rw[Sl _ _ hi,e,wC]
theorem OB{U:List T}(hU:yB U){W:List fG}(f:Inv U W){i:Nat}(hi:i<W.length):
 (∀x,Part W x->Part (apart W i).1 x)/\(∀Q,Ox Q->Sound Q W->(∀x,Part W x->Q x)->Q W[i].t->Sound Q (apart W i).1/\∀x,Part (apart W i).1 x->Q x)/\
 ((apart W i).2=false->Sound (Part W) W->W <+:(apart W i).1/\(∀x,Part (apart W i).1 x<->Part W x)/\JC (Part W) W[i].t):=by
 have o:W[i].t∈U:=f.mem _ (aP hi);have E:=T.oZ (aN.1 (hU.ok _ o)).2;unfold apart;rw[vk hi];generalize W[i].t=t at o E⊢;dsimp only
 split
 ·rename_i F;have p:=hU.eT t o 0 aar;have q:=hU.eT t o 1 aar;obtain⟨b,s⟩:=pF hU f p 2 [i];have G:=rT 2 [i] f p;obtain⟨u,v⟩:=pF hU G q 3 [i];refine⟨λx a=>(u x).2 (.inl ((b x).2 (.inl a))),λQ g hS c j=>?_,λd hS=>?_⟩
  ·obtain⟨z,l⟩:=(g t j).1 F;refine⟨(hS.take (.base z) 2 [i]).take (.base l) 3 [i],λx a=>?_⟩;rcases(u x).1 a with h|h
   ·rcases(b x).1 h with h|h;·exact c x h
    ·rw[h];exact z
   ·rw[h];exact l
  ·rw[kL]at d;obtain⟨c1,c2⟩:=s d.2;obtain⟨d1,d2⟩:=v d.1;have A:Part W (t.eT 1):=by
    rcases(b _).1 d1 with h|h;·exact h
    ·rw[h];exact c1
   refine⟨?_,λx=>(u x).t ⟨λh=>?_,λh=>.inl ((b x).2 (.inl h))⟩,λ_=>⟨c1,A⟩,λh=>aar,λh=>aar⟩
   ·rw[d2];refine List.IsPrefix.t ?_ (ru _ _ _ _).1;rw[c2];exact(ru _ _ _ _).1
   ·rcases h with h|h
    ·rcases(b x).1 h with h|h;·exact h
     ·rw[h];exact c1
    ·rw[h];exact A
 ·split
  ·rename_i H;have q:=hU.eT t o 1 aar;obtain⟨b,s⟩:=pF hU f q 5 [i];refine⟨λx a=>(b x).2 (.inl a),λQ g hS c j=>?_,λd hS=>?_⟩
   ·have l:=(g t j).2.1 H;refine⟨hS.take (.base l) 5 [i],λx a=>?_⟩;rcases(b x).1 a with h|h;·exact c x h
    ·rw[h];exact l
   ·obtain⟨c1,c2⟩:=s d;refine⟨by rw[c2];exact(ru _ _ _ _).1,λx=>(b x).t ⟨λh=>?_,.inl⟩,λh=>aar,λ_=>c1,λh=>aar⟩;rcases h with h|h;·exact h
    ·rw[h];exact c1
  ·split
   ·rename_i I;have p:=hU.eT t o 0 aar;have q:=hU.eT t o 1 aar;split
    ·rename_i w;refine⟨λx a=>a,λQ g hS c j=>⟨hS,c⟩,λ_ hS=>⟨lC _,λx=>tQ,λh=>aar,λh=>aar,λ_ _=>?_⟩⟩;cases d:find W (t.eT 1)with
     |none=>rw[d]at w;cases w
     |some m=>
      rw[d]at w;obtain⟨B,e⟩:=find_eq hU f q d;have C:partAt W m=true:=w;rw[wX B]at C;exact⟨_,aP B,C,e⟩
    ·obtain⟨u,v,_⟩:=Gt hU p f;have n:∀x,Part (Ci W (t.eT 0)).1 x<->Part W x:=kH _ _ W;split
     ·rename_i D;refine⟨λx a=>(n x).2 a,λQ g hS c j=>⟨(sQ hU Q _ _ p W f hS).1,λx a=>c x ((n x).1 a)⟩,λ_ hS=>⟨v,n,λh=>aar,λh=>aar,λ_ y=>?_⟩⟩;obtain⟨r,J⟩:=(Qd hU p f hS).2 y;rw[J]at D;cases D
     ·rename_i k y;obtain⟨b,s⟩:=pF hU u q 4 [i,k];refine⟨λx a=>(b x).2 (.inl ((n x).2 a)),λQ g hS c j=>?_,λd hS=>?_⟩
      ·obtain⟨c1,c2⟩:=sQ hU Q _ _ p W f hS;have l:=(g t j).2.2 I (c2 k y);refine⟨Sound.take c1 (.base l) 4 [i,k],λx a=>?_⟩;rcases(b x).1 a with h|h;·exact c x ((n x).1 h)
       ·rw[h];exact l
      ·obtain⟨c1,c2⟩:=s d;have c3:=(n _).1 c1;refine⟨by rw[c2];exact v.t (ru _ _ _ _).1,λx=>(b x).t ⟨λh=>?_,λh=>.inl ((n x).2 h)⟩,λh=>aar,λh=>aar,λ_ _=>c3⟩;rcases h with h|h;·exact(n x).1 h
       ·rw[h];exact c3
   ·refine⟨λx a=>a,λQ g hS c j=>⟨hS,c⟩,λ_ hS=>⟨lC _,λx=>tQ,λh=>aar,λh=>aar,λh=>aar⟩⟩
theorem LV{U:List T}(hU:yB U){W:List fG}(c:Inv U W){i:Nat}(hi:i<W.length)(Q:T->Prop)(a:∀x,Part (apart W i).1 x->Q x)(hS:Sound Q W):Sound Q (apart W i).1:=by
 have b:W[i].t∈U:=c.mem _ (aP hi);have l:=T.oZ (aN.1 (hU.ok _ b)).2;unfold apart at a⊢;rw[vk hi]at a⊢;generalize W[i].t=t at b l a⊢;dsimp only at a⊢;split
 ·rename_i h;rw[aJ h]at a;have d:=hU.eT t b 0 aar;have e:=hU.eT t b 1 aar;have f:=(pF hU c d 2 [i]).1;have g:=(pF hU (rT 2 [i] c d) e 3 [i]).1;exact(hS.take (.base (a _ ((g _).2 (.inl ((f _).2 (.inr rfl)))))) 2 [i]).take (.base (a _ ((g _).2 (.inr rfl)))) 3 [i]
 ·rename_i h;rw[aH h]at a;split
  ·rename_i j;rw[aJ j]at a;have e:=hU.eT t b 1 aar;have f:=(pF hU c e 5 [i]).1;exact hS.take (.base (a _ ((f _).2 (.inr rfl)))) 5 [i]
  ·rename_i j;rw[aH j]at a;split
   ·rename_i m;rw[aJ m]at a;have d:=hU.eT t b 0 aar;have e:=hU.eT t b 1 aar;split;·exact hS
    ·rename_i n;rw[aH n]at a;obtain⟨g,p,_⟩:=Gt hU d c;have c1:Sound Q (Ci W (t.eT 0)).1:=(sQ hU Q _ _ d W c hS).1;cases o:(Ci W (t.eT 0)).2 with
     |none=>exact c1
     |some k=>
      rw[o]at a;have f:=(pF hU g e 4 [i,k]).1;exact Sound.take c1 (.base (a _ ((f _).2 (.inr rfl)))) 4 [i,k]
   ·exact hS
theorem IP:∀(f i:Nat) (W:List fG),(yh f i true W).2=true
 |0,_,_=>rfl
 |f+1,i,W=>by
  simp only[yh];split
  ·split;·rw[Bool.true_or];exact IP f _ _
   ·exact IP f _ _
  ·rfl
theorem IM {U:List T} (hU:yB U):∀(f i:Nat) (m:Bool) (W:List fG),Inv U W->Sound (Part W) W->
  Inv U (yh f i m W).1/\Sound (Part (yh f i m W).1) (yh f i m W).1/\(∀x,Part W x->Part (yh f i m W).1 x)/\(∀Q,Ox Q->(∀x,Part W x->Q x)->∀x,Part (yh f i m W).1 x->Q x)/\
  (U.length<=f+i->(yh f i m W).2=false->(∀x,Part (yh f i m W).1 x<->Part W x)/\∀j (h:j<W.length),i<=j->W[j].part=true->JC (Part W) W[j].t)
 |0,i,m,W,a,hS=>⟨a,hS,λ_ h=>h,λ_ _ h=>h,λg _=>⟨λ_=>tQ,λj h hj _=>by have:=a.len;simp only[eP]at g;omega⟩⟩
 |f+1,i,m,W,a,hS=>by
  simp only[yh];split
  ·rename_i hi;split
   ·rename_i b;obtain⟨r,a2,a3⟩:=OB hU a hi;have w:=(JD hU a hi).1;have y:Sound (Part (apart W i).1) (apart W i).1:=LV hU a hi _ (λx k=>k) (λs l=>(hS s l).m r);obtain⟨n,o,b3,b4,p⟩:=IM hU f (i+1) (m||(apart W i).2) _ w y;have z:W[i].part=true:=(by rw[wX hi]at b;exact b);refine⟨n,o,λx k=>b3 x (r x k),λQ u q=>b4 Q u (a2 Q u (λs l=>(hS s l).m q) q (q _ ⟨_,aP hi,z,rfl⟩)).2,λg c=>?_⟩;have A:(apart W i).2=false:=by
     cases h:(apart W i).2 with
     |false=>rfl
     |true=>rw[h,Bool.or_true,IP]at c;cases c
    obtain⟨c1,c2,c3⟩:=a3 A hS;obtain⟨d1,d2⟩:=p aar c;refine⟨λx=>(d1 x).t (c2 x),λj h hj d=>?_⟩;by_cases e:j=i;·subst e;exact c3
    ·have B:j<(apart W i).1.length:=dw h c1.length_le;have v:(apart W i).1[j]=W[j]:=(c1.getElem h).symm;have:=d2 j B aar (by rw[v];exact d);rw[v]at this;exact this.iff c2
   ·rename_i b;obtain⟨n,o,b3,b4,p⟩:=IM hU f (i+1) m W a hS;refine⟨n,o,b3,b4,λg c=>?_⟩;obtain⟨d1,d2⟩:=p aar c;refine⟨d1,λj h hj d=>?_⟩;by_cases e:j=i;·subst e;rw[wX hi]at b;exact absurd d b
    ·exact d2 j h aar d
  ·rename_i hi;exact⟨a,hS,λ_ h=>h,λ_ _ h=>h,λ_ _=>⟨λ_=>tQ,λj h hj _=>aar⟩⟩
theorem NS {U:List T} (hU:yB U):∀(f:Nat) (W:List fG),Inv U W->Sound (Part W) W->U.length<f+np W->
  Inv U (run U.length f W)/\Sound (Part (run U.length f W)) (run U.length f W)/\(∀x,Part W x->Part (run U.length f W) x)/\(∀Q,Ox Q->(∀x,Part W x->Q x)->∀x,Part (run U.length f W) x->Q x)/\Ox (Part (run U.length f W))
 |0,W,a,_,i=>by have:=Xu W;have:=a.len;omega
 |f+1,W,a,hS,i=>by
  obtain⟨c,d,b3,b4,k⟩:=IM hU U.length 0 false W a hS;have l:=Ld U.length 0 false W;simp only[run];split
  ·rename_i b;have e:np W+1<=np (yh U.length 0 false W).1:=by
    rcases l.2 b with h|h;·cases h
    ·exact h
   obtain⟨c1,c2,c3,c4,c5⟩:=NS hU f _ c d aar;exact⟨c1,c2,λx m=>c3 x (b3 x m),λQ g n=>c4 Q g (b4 Q g n),c5⟩
  ·rename_i b;have o:(yh U.length 0 false W).2=false:=by cases h:(yh U.length 0 false W).2 with
    |false=>rfl
    |true=>exact absurd h b
   obtain⟨d1,d2⟩:=k aar o;refine⟨c,d,b3,b4,λt p=>?_⟩;obtain⟨s,q,r,e⟩:=(d1 t).1 p;obtain⟨j,hj,rfl⟩:=bL q;rw[<-e];exact(d2 j hj (aT _) r).iff λx=>(d1 x).symm
theorem I8 {U:List T} (hU:yB U):∀(a:List T) (W:List fG),(∀t∈a,t∈U)->Inv U W->Sound (Part W) W->Inv U (a.foldl (λW t=>(take W t 1 []).1) W)/\Sound (Part (a.foldl (λW t=>(take W t 1 []).1) W)) (a.foldl (λW t=>(take W t 1 []).1) W)/\
  ∀x,Part (a.foldl (λW t=>(take W t 1 []).1) W) x<->Part W x\/x∈a
 |[],W,_,b,hS=>⟨b,hS,λx=>aau⟩
 |t::r,W,h,b,hS=>by
  have e:=h t aau;have c:=(pF hU b e 1 []).1;have f:Sound (Part (take W t 1 []).1) (take W t 1 []).1:=Sound.take (λs g=>(hS s g).m λx d=>(c x).2 (.inl d)) (.base ((c t).2 (.inr rfl))) 1 [];obtain⟨i,j,b3⟩:=I8 hU r _ (λx d=>h x (aY _ d)) (rT 1 [] b e) f;exact⟨i,j,λx=>by rw[lW,b3,c,bM,DW]⟩
theorem Rm{U K:List T}(hU:yB U)(d:∀t∈K,t∈U):Inv U (fill U.length K)/\Sound (Part (fill U.length K)) (fill U.length K)/\∀t,Part (fill U.length K) t<->An (· ∈K) t:=by
 obtain⟨e,f,g⟩:=I8 hU K [] d (Inv.nil U) (λs a=>by cases a);obtain⟨i,j,b3,b4,k⟩:=NS hU (U.length+1) (start K) e f aar;have c:∀x,Part (start K) x<->x∈K:=λx=>(g x).t ⟨λh=>by
  rcases h with⟨s,a,_⟩|h;·cases a
  ·exact h,.inr⟩
 refine⟨i,j,λt=>⟨λl Q m n=>b4 Q m (λx b=>n x ((c x).1 b)) t l,λo=>o _ k λx b=>b3 x ((c x).2 b)⟩⟩
end Wb
end
section
open Go.RowKit
variable {X:Nat->Bool}
def xD(W:List fG)(j:Nat):List T:=((W.take j).filter fG.part).map fG.t
theorem UX(W:List fG)(j:Nat)(h:j<W.length):xD W (j+1)=if W[j].part=true then xD W j++[W[j].t] else xD W j:=by
 unfold xD;rw[aZ h,ql,gG];by_cases hu:W[j].part=true;·rw[aJ hu];simp[hu]
 ·rw[aH hu];simp[hu]
theorem QO(W:List fG)(j:Nat):(xD W j).length<=W.length:=by
 unfold xD;rw[bZ];exact aG (gF _ _) aaR
theorem WH(W:List fG)(x:T):x∈xD W W.length<->Wb.Part W x:=by
 unfold xD;rw[lD,ek];constructor
 ·rintro⟨s,c,rfl⟩;obtain⟨a,b⟩:=fU.1 c;exact⟨s,a,b,rfl⟩
 ·rintro⟨s,a,b,rfl⟩;exact⟨s,fU.2 ⟨a,b⟩,rfl⟩
theorem Sr{U:List T}{W:List fG}(h:Inv U W):(xD W W.length).Nodup:=by
 unfold xD;rw[lD];have c:W.Pairwise λa b=>a.t≠b.t:=List.Pairwise.of_map (S:=λa b=>a≠b) (λs=>s.t.key) (λa b d e=>d abf) h.apart;exact List.pairwise_map.2 (zw List.filter_sublist c)
def PW(K L:List T):Prop:=(∀x,x∈L<->An (· ∈K) x)/\(L.Pairwise λa b=>0<=T.cmp b a)/\L.Nodup
end
section
open Go.RowKit
theorem aS.eT{w:World}{k:Int}{s:ByteArray}{A:Option Addr}{n cap:Nat}{t:T}(h:aS w (.agg #[.int .i64 k,.string s,.slice A n cap]) t){i:Nat}(hi:i<t.ay.length):
 ∃b off A' a,A=some ⟨b,off,none⟩/\w.cell? ⟨b,off+i*3,none⟩=some (.int .i64 (t.eT i).aA)/\w.cell? ⟨b,off+i*3+1,none⟩=some (.string (t.eT i).aI)/\w.cell? ⟨b,off+i*3+2,none⟩=some (.slice A' (t.eT i).ay.length a)/\
  aS w (.agg #[.int .i64 (t.eT i).aA,.string (t.eT i).aI,.slice A' (t.eT i).ay.length a]) (t.eT i):=by
 obtain⟨b,off,A',c,e,_,d,c1,c2,f⟩:=(aS.uM h).eT hi;exact⟨b,off,A',c,e,d,c1,c2,f.at⟩
end
section
theorem KW{a:List T}{t:T}(h:t∈a):t∈T.jb a:=T.uo.2 ⟨t,h,T.BR t⟩
end
section
open Go.RowKit
theorem nA.drew{B g:Nat}{w:World}(h:nA B g w):nA B g w.drew:=h
def Xg(c B g:Nat)(w:World)(L:List T)(wr:World):Prop:=
 ∃kv,jy wr c (.int .i64 7) (.string ⟨#[]⟩) kv/\jy wr w.heap.size (.int .i64 0) (.string ⟨#[]⟩) (.slice none 0 0)/\bK wr (c+1) kv L/\nA B g wr/\w.grownBy wr (some g)
theorem Xg.step{c B g:Nat}{w:World}{L:List T}{wr w3 w4:World}{kv u0 u1 u2:Value}{t:T}{xs:List Value}{m cap:Nat}(aa:g<w.heap.size)(hc:w.heap.size<c)
 (x:jy wr c (.int .i64 7) (.string ⟨#[]⟩) kv) (y:jy wr w.heap.size (.int .i64 0) (.string ⟨#[]⟩) (.slice none 0 0)) (P:bK wr (c+1) kv L) (o:w.grownBy wr (some g))
 (Q:∀i (h:i<L.length),∃u0 u1 u2,xs[i*3]?=some u0/\xs[i*3+1]?=some u1/\xs[i*3+2]?=some u2/\bI (but (c+1) kv.ownBlock) wr (.agg #[u0,u1,u2]) L[i]) (r:xs.length=L.length*3)
 (K:nA B g w3) (a:wr.grownBy w3 (some g)) (R:∀S W,bI S W (.agg #[u0,u1,u2]) t)
 (U:w4.ownsRow (c+1) 29 3 (.slice (some ⟨m,0,none⟩) (L.length+1) cap) (L.length+1) (xs++[u0,u1,u2])) (d:(w3.alloc (.cells #[u0,u1,u2] 29)).grownBy w4 kv.ownBlock)
 (V:kv.ownBlock=some m\/m=w3.heap.size+1):Xg c B g w (L++[t]) (w4.setCell ⟨c,2,none⟩ (.slice (some ⟨m,0,none⟩) (L.length+1) cap)):=by
 have hB:=K.1;have s:∀b,b<c+1->kv.ownBlock≠some b:=λb M e=>(aaz ((P.block b e).1));have f:=ae w3 (.cells #[u0,u1,u2] 29);have af:=aK w3 (.cells #[u0,u1,u2] 29);have N:∀b,g<b->some g≠some b:=λb hb e=>(by have X:=aB e;omega);have ah:=x.lt;have ak:=a.size;have u:∀b,b<c+1->b<w3.heap.size->w4.heap[b]?=w3.heap[b]?:=λb hb r=>(d.block b aar (λe=>s b hb e.symm)).t (f.block b r);have Y:nA B g w4:=by
  obtain⟨h0,A,n,v,k,p,C,D,E,l⟩:=K;refine⟨h0,A,n,v,k,(u g aar aar).t p,C,D,E,?_⟩;rcases l with l|⟨b,off,F,e,G⟩;·exact .inl l
  ·refine .inr ⟨b,off,F,e,λj hj=>?_⟩;obtain⟨z,I,J⟩:=G j hj;refine⟨z,?_,J⟩;rw[<-I];exact dB (u b aar aar)
 have q:∀b,b≠c->(w4.setCell ⟨c,2,none⟩ (.slice (some ⟨m,0,none⟩) (L.length+1) cap)).heap[b]?=w4.heap[b]?:=λb hb=>aL _ _ _ _ (by show b≠c;exact hb);refine⟨_,((((x.grown a (N _ aar)).ag f).grown d (s _ aar)).AQ _),?_,?_,?_,?_⟩;·exact(((y.grown a (N _ aar)).ag f).grown d (s _ aar)).setOther aaV _
 ·have p:=bK.snoc (w:=w3.alloc (.cells #[u0,u1,u2] 29)) (H:=w3.heap.size+1) (t:=t) (λi hi=>by
   obtain⟨a0,Z,a2,b0,b1,b2,b3⟩:=Q i hi;exact⟨a0,Z,a2,b0,b1,b2,b3.aR λb hb M=>⟨hb,(f.block b aar).t (a.block b M (λe=>by have X:b=g:=aB e;have:=(jd.1 hb).1;omega))⟩⟩) r
   (R _ _) U d V aba
  exact p.aR λb av _=>q b aar
 ·obtain⟨h0,A,n,v,k,p,C,D,E,l⟩:=Y;refine⟨h0,A,n,v,k,(q g aar).t p,C,D,E,?_⟩;rcases l with l|⟨b,off,F,e,G⟩;·exact .inl l
  ·refine .inr ⟨b,off,F,e,λj hj=>?_⟩;obtain⟨z,I,J⟩:=G j hj;refine⟨z,?_,J⟩;rw[<-I];exact dB (q b aar)
 ·have e3:=o.size;have e4:=d.size;refine⟨d.os.t (f.os.t (a.os.t o.os)),d.tape.t (f.tape.t (a.tape.t o.tape)),d.output.t (f.output.t (a.output.t o.output)),?_,λi hi O=>?_⟩;·simp only[World.setCell,l6];omega
  ·rw[q i aar,u i aar aar,a.block i aar O,o.block i hi O]
end
end Go.Proofs.YtaciciokmpbkkaaGreatDoor
