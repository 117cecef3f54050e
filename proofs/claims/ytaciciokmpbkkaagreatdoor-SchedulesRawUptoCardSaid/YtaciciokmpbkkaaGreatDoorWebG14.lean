import Derived.Test.YtaciciokmpbkkaaGreatDoorWebG13
set_option maxRecDepth 100000
set_option maxHeartbeats 16000000
namespace Go.Proofs.YtaciciokmpbkkaaGreatDoor
section
def Jb(P:T->Prop)(t:T):Prop:=(t.aC=3->P (t.eQ 0)/\P (t.eQ 1))/\(t.aC=6->P (t.eQ 1))/\(t.aC=5->sw P (t.eQ 0)->P (t.eQ 1))
def NS(P:T->Prop):Prop:=∀t,P t->Jb P t
def An(K:T->Prop)(t:T):Prop:=∀Q:T->Prop,NS Q->(∀x,K x->Q x)->Q t
theorem Jb.iff{P Q:T->Prop}(h:∀x,P x<->Q x){t:T}(b:Jb P t):Jb Q t:=
 ⟨λa=>⟨(h _).1 (b.1 a).1,(h _).1 (b.1 a).2⟩,λa=>(h _).1 (b.2.1 a),λa c=>(h _).1 (b.2.2 a ((sw.iff h _).2 c))⟩
theorem An.bH{K:T->Prop}{t:T}(h:K t):An K t:=λ_ _ a=>a t h
theorem An.m{K K':T->Prop}(h:∀t,K t->K' t){t:T}(a:An K t):An K' t:=λQ b c=>a Q b λx d=>c x (h x d)
theorem Vs(K:T->Prop):NS (An K):=λt d=>by
 refine⟨λc=>⟨λQ a b=>((a t (d Q a b)).1 c).1,λQ a b=>((a t (d Q a b)).1 c).2⟩,λc Q a b=>(a t (d Q a b)).2.1 c,λc e Q a b=>(a t (d Q a b)).2.2 c (e.m λx f=>f Q a b)⟩
namespace Wb
theorem RL(W:List fC)(i:Nat)(hi:i<W.length)(x:T):Part (mark W i) x<->Part W x\/x=W[i].t:=by
 constructor
 ·rintro⟨s,f,g,d⟩;obtain⟨j,hj,rfl⟩:=bI f;have a:j<W.length:=(by rwa [ll]at hj);have b:=yH W i j hj a;by_cases e:i=j;·subst e;right;rw[<-d,b.1]
  ·left;refine⟨W[j],aN a,?_,by rw[<-d,b.1]⟩;have:=b.2.2.2;rw[aG e]at this;rw[<-this];exact g
 ·intro h;have key:∀j (a:j<W.length),(W[j].part=true\/i=j)->Part (mark W i) W[j].t:=λj a c=>by
   have hj:j<(mark W i).length:=(by rw[ll];exact a);have b:=yH W i j hj a;refine⟨(mark W i)[j],aN hj,?_,b.1⟩;rw[b.2.2.2];by_cases e:i=j;·rw[aI e]
   ·rw[aG e];rcases c with c|c;·exact c
    ·exact absurd c e
  rcases h with⟨s,f,g,d⟩|h
  ·obtain⟨j,a,rfl⟩:=bI f;rw[<-d];exact key j a (.inl g)
  ·rw[h];exact key i hi (.inr rfl)
theorem Xt{U:List T}(hU:yA U){W:List fC}(b:Inv U W){t:T}(c:t∈U)(how:Nat)(jv:List Nat):∃h:(add W t how jv).2<(add W t how jv).1.length,(add W t how jv).1[(add W t how jv).2].t=t:=by
 cases a:find W t with
 |some i=>
  obtain⟨hi,e⟩:=find_eq hU b c a;rw[ry a];exact⟨hi,e⟩
 |none=>rw[rq a];exact⟨by simp,by simp⟩
theorem pq{U:List T}(hU:yA U){W:List fC}(b:Inv U W){t:T}(c:t∈U)(how:Nat)(jv:List Nat):
 (∀x,Part (take W t how jv).1 x<->Part W x\/x=t)/\((take W t how jv).2=false->Part W t/\(take W t how jv).1=(add W t how jv).1):=by
 obtain⟨hi,e⟩:=Xt hU b c how jv;have d:=wV hi;unfold take;split
 ·rename_i h;rw[d]at h;have a:Part W t:=(vY W t how jv t).1 ⟨_,aN hi,h,e⟩;refine⟨λx=>(vY _ _ _ _ x).t ⟨.inl,λh=>?_⟩,λ_=>⟨a,rfl⟩⟩;rcases h with h|h;·exact h
  ·rw[h];exact a
 ·refine⟨λx=>?_,λh=>by cases h⟩;rw[RL _ _ hi,e,vY]
theorem NY{U:List T}(hU:yA U){W:List fC}(f:Inv U W){i:Nat}(hi:i<W.length):
 (∀x,Part W x->Part (apart W i).1 x)/\(∀Q,NS Q->Sound Q W->(∀x,Part W x->Q x)->Q W[i].t->Sound Q (apart W i).1/\∀x,Part (apart W i).1 x->Q x)/\
 ((apart W i).2=false->Sound (Part W) W->W <+:(apart W i).1/\(∀x,Part (apart W i).1 x<->Part W x)/\Jb (Part W) W[i].t):=by
 have o:W[i].t∈U:=f.mem _ (aN hi);have E:=T.oU (aP.1 (hU.ok _ o)).2;unfold apart;rw[uW hi];generalize W[i].t=t at o E⊢;dsimp only
 split
 ·rename_i F;have p:=hU.eQ t o 0 (by omega);have q:=hU.eQ t o 1 (by omega);obtain⟨b,s⟩:=pq hU f p 2 [i];have G:=rR 2 [i] f p;obtain⟨u,v⟩:=pq hU G q 3 [i];refine⟨λx a=>(u x).2 (.inl ((b x).2 (.inl a))),λQ g hS c j=>?_,λd hS=>?_⟩
  ·obtain⟨z,l⟩:=(g t j).1 F;refine⟨(hS.take (.base z) 2 [i]).take (.base l) 3 [i],λx a=>?_⟩;rcases(u x).1 a with h|h
   ·rcases(b x).1 h with h|h;·exact c x h
    ·rw[h];exact z
   ·rw[h];exact l
  ·rw[kJ]at d;obtain⟨c1,c2⟩:=s d.2;obtain⟨d1,d2⟩:=v d.1;have A:Part W (t.eQ 1):=by
    rcases(b _).1 d1 with h|h;·exact h
    ·rw[h];exact c1
   refine⟨?_,λx=>(u x).t ⟨λh=>?_,λh=>.inl ((b x).2 (.inl h))⟩,λ_=>⟨c1,A⟩,λh=>by omega,λh=>by omega⟩
   ·rw[d2];refine List.IsPrefix.t ?_ (ru _ _ _ _).1;rw[c2];exact(ru _ _ _ _).1
   ·rcases h with h|h
    ·rcases(b x).1 h with h|h;·exact h
     ·rw[h];exact c1
    ·rw[h];exact A
 ·split
  ·rename_i H;have q:=hU.eQ t o 1 (by omega);obtain⟨b,s⟩:=pq hU f q 5 [i];refine⟨λx a=>(b x).2 (.inl a),λQ g hS c j=>?_,λd hS=>?_⟩
   ·have l:=(g t j).2.1 H;refine⟨hS.take (.base l) 5 [i],λx a=>?_⟩;rcases(b x).1 a with h|h;·exact c x h
    ·rw[h];exact l
   ·obtain⟨c1,c2⟩:=s d;refine⟨by rw[c2];exact(ru _ _ _ _).1,λx=>(b x).t ⟨λh=>?_,.inl⟩,λh=>by omega,λ_=>c1,λh=>by omega⟩;rcases h with h|h;·exact h
    ·rw[h];exact c1
  ·split
   ·rename_i I;have p:=hU.eQ t o 0 (by omega);have q:=hU.eQ t o 1 (by omega);split
    ·rename_i w;refine⟨λx a=>a,λQ g hS c j=>⟨hS,c⟩,λ_ hS=>⟨lu _,λx=>tL,λh=>by omega,λh=>by omega,λ_ _=>?_⟩⟩;cases d:find W (t.eQ 1)with
     |none=>rw[d]at w;cases w
     |some m=>
      rw[d]at w;obtain⟨B,e⟩:=find_eq hU f q d;have C:partAt W m=true:=w;rw[wV B]at C;exact⟨_,aN B,C,e⟩
    ·obtain⟨u,v,_⟩:=FU hU p f;have n:∀x,Part (BI W (t.eQ 0)).1 x<->Part W x:=kF _ _ W;split
     ·rename_i D;refine⟨λx a=>(n x).2 a,λQ g hS c j=>⟨(sP hU Q _ _ p W f hS).1,λx a=>c x ((n x).1 a)⟩,λ_ hS=>⟨v,n,λh=>by omega,λh=>by omega,λ_ y=>?_⟩⟩;obtain⟨r,J⟩:=(PD hU p f hS).2 y;rw[J]at D;cases D
     ·rename_i k y;obtain⟨b,s⟩:=pq hU u q 4 [i,k];refine⟨λx a=>(b x).2 (.inl ((n x).2 a)),λQ g hS c j=>?_,λd hS=>?_⟩
      ·obtain⟨c1,c2⟩:=sP hU Q _ _ p W f hS;have l:=(g t j).2.2 I (c2 k y);refine⟨Sound.take c1 (.base l) 4 [i,k],λx a=>?_⟩;rcases(b x).1 a with h|h;·exact c x ((n x).1 h)
       ·rw[h];exact l
      ·obtain⟨c1,c2⟩:=s d;have c3:=(n _).1 c1;refine⟨by rw[c2];exact v.t (ru _ _ _ _).1,λx=>(b x).t ⟨λh=>?_,λh=>.inl ((n x).2 h)⟩,λh=>by omega,λh=>by omega,λ_ _=>c3⟩;rcases h with h|h;·exact(n x).1 h
       ·rw[h];exact c3
   ·refine⟨λx a=>a,λQ g hS c j=>⟨hS,c⟩,λ_ hS=>⟨lu _,λx=>tL,λh=>by omega,λh=>by omega,λh=>by omega⟩⟩
theorem Ld{U:List T}(hU:yA U){W:List fC}(c:Inv U W){i:Nat}(hi:i<W.length)(Q:T->Prop)(a:∀x,Part (apart W i).1 x->Q x)(hS:Sound Q W):Sound Q (apart W i).1:=by
 have b:W[i].t∈U:=c.mem _ (aN hi);have l:=T.oU (aP.1 (hU.ok _ b)).2;unfold apart at a⊢;rw[uW hi]at a⊢;generalize W[i].t=t at b l a⊢;dsimp only at a⊢;split
 ·rename_i h;rw[aI h]at a;have d:=hU.eQ t b 0 (by omega);have e:=hU.eQ t b 1 (by omega);have f:=(pq hU c d 2 [i]).1;have g:=(pq hU (rR 2 [i] c d) e 3 [i]).1;exact(hS.take (.base (a _ ((g _).2 (.inl ((f _).2 (.inr rfl)))))) 2 [i]).take (.base (a _ ((g _).2 (.inr rfl)))) 3 [i]
 ·rename_i h;rw[aG h]at a;split
  ·rename_i j;rw[aI j]at a;have e:=hU.eQ t b 1 (by omega);have f:=(pq hU c e 5 [i]).1;exact hS.take (.base (a _ ((f _).2 (.inr rfl)))) 5 [i]
  ·rename_i j;rw[aG j]at a;split
   ·rename_i m;rw[aI m]at a;have d:=hU.eQ t b 0 (by omega);have e:=hU.eQ t b 1 (by omega);split;·exact hS
    ·rename_i n;rw[aG n]at a;obtain⟨g,p,_⟩:=FU hU d c;have c1:Sound Q (BI W (t.eQ 0)).1:=(sP hU Q _ _ d W c hS).1;cases o:(BI W (t.eQ 0)).2 with
     |none=>exact c1
     |some k=>
      rw[o]at a;have f:=(pq hU g e 4 [i,k]).1;exact Sound.take c1 (.base (a _ ((f _).2 (.inr rfl)))) 4 [i,k]
   ·exact hS
theorem Ip:∀(f i:Nat) (W:List fC),(yf f i true W).2=true
 |0,_,_=>rfl
 |f+1,i,W=>by
  simp only[yf];split
  ·split;·rw[Bool.true_or];exact Ip f _ _
   ·exact Ip f _ _
  ·rfl
theorem Io {U:List T} (hU:yA U):∀(f i:Nat) (m:Bool) (W:List fC),Inv U W->Sound (Part W) W->
  Inv U (yf f i m W).1/\Sound (Part (yf f i m W).1) (yf f i m W).1/\(∀x,Part W x->Part (yf f i m W).1 x)/\(∀Q,NS Q->(∀x,Part W x->Q x)->∀x,Part (yf f i m W).1 x->Q x)/\
  (U.length<=f+i->(yf f i m W).2=false->(∀x,Part (yf f i m W).1 x<->Part W x)/\∀j (h:j<W.length),i<=j->W[j].part=true->Jb (Part W) W[j].t)
 |0,i,m,W,a,hS=>⟨a,hS,λ_ h=>h,λ_ _ h=>h,λg _=>⟨λ_=>tL,λj h hj _=>by have:=a.len;simp only[dJ]at g;omega⟩⟩
 |f+1,i,m,W,a,hS=>by
  simp only[yf];split
  ·rename_i hi;split
   ·rename_i b;obtain⟨r,a2,a3⟩:=NY hU a hi;have w:=(Jc hU a hi).1;have y:Sound (Part (apart W i).1) (apart W i).1:=Ld hU a hi _ (λx k=>k) (λs l=>(hS s l).m r);obtain⟨n,o,b3,b4,p⟩:=Io hU f (i+1) (m||(apart W i).2) _ w y;have z:W[i].part=true:=(by rw[wV hi]at b;exact b);refine⟨n,o,λx k=>b3 x (r x k),λQ u q=>b4 Q u (a2 Q u (λs l=>(hS s l).m q) q (q _ ⟨_,aN hi,z,rfl⟩)).2,λg c=>?_⟩;have A:(apart W i).2=false:=by
     cases h:(apart W i).2 with
     |false=>rfl
     |true=>rw[h,Bool.or_true,Ip]at c;cases c
    obtain⟨c1,c2,c3⟩:=a3 A hS;obtain⟨d1,d2⟩:=p (by omega) c;refine⟨λx=>(d1 x).t (c2 x),λj h hj d=>?_⟩;by_cases e:j=i;·subst e;exact c3
    ·have B:j<(apart W i).1.length:=dF h c1.length_le;have v:(apart W i).1[j]=W[j]:=(c1.getElem h).symm;have:=d2 j B (by omega) (by rw[v];exact d);rw[v]at this;exact this.iff c2
   ·rename_i b;obtain⟨n,o,b3,b4,p⟩:=Io hU f (i+1) m W a hS;refine⟨n,o,b3,b4,λg c=>?_⟩;obtain⟨d1,d2⟩:=p (by omega) c;refine⟨d1,λj h hj d=>?_⟩;by_cases e:j=i;·subst e;rw[wV hi]at b;exact absurd d b
    ·exact d2 j h (by omega) d
  ·rename_i hi;exact⟨a,hS,λ_ h=>h,λ_ _ h=>h,λ_ _=>⟨λ_=>tL,λj h hj _=>by omega⟩⟩
theorem Nl {U:List T} (hU:yA U):∀(f:Nat) (W:List fC),Inv U W->Sound (Part W) W->U.length<f+np W->
  Inv U (run U.length f W)/\Sound (Part (run U.length f W)) (run U.length f W)/\(∀x,Part W x->Part (run U.length f W) x)/\(∀Q,NS Q->(∀x,Part W x->Q x)->∀x,Part (run U.length f W) x->Q x)/\NS (Part (run U.length f W))
 |0,W,a,_,i=>by have:=Xg W;have:=a.len;omega
 |f+1,W,a,hS,i=>by
  obtain⟨c,d,b3,b4,k⟩:=Io hU U.length 0 false W a hS;have l:=KD U.length 0 false W;simp only[run];split
  ·rename_i b;have e:np W+1<=np (yf U.length 0 false W).1:=by
    rcases l.2 b with h|h;·cases h
    ·exact h
   obtain⟨c1,c2,c3,c4,c5⟩:=Nl hU f _ c d (by omega);exact⟨c1,c2,λx m=>c3 x (b3 x m),λQ g n=>c4 Q g (b4 Q g n),c5⟩
  ·rename_i b;have o:(yf U.length 0 false W).2=false:=by cases h:(yf U.length 0 false W).2 with
    |false=>rfl
    |true=>exact absurd h b
   obtain⟨d1,d2⟩:=k (by omega) o;refine⟨c,d,b3,b4,λt p=>?_⟩;obtain⟨s,q,r,e⟩:=(d1 t).1 p;obtain⟨j,hj,rfl⟩:=bI q;rw[<-e];exact(d2 j hj (aL _) r).iff λx=>(d1 x).symm
theorem IE {U:List T} (hU:yA U):∀(a:List T) (W:List fC),(∀t∈a,t∈U)->Inv U W->Sound (Part W) W->Inv U (a.foldl (λW t=>(take W t 1 []).1) W)/\Sound (Part (a.foldl (λW t=>(take W t 1 []).1) W)) (a.foldl (λW t=>(take W t 1 []).1) W)/\
  ∀x,Part (a.foldl (λW t=>(take W t 1 []).1) W) x<->Part W x\/x∈a
 |[],W,_,b,hS=>⟨b,hS,λx=>by simp⟩
 |t::r,W,h,b,hS=>by
  have e:=h t (by simp);have c:=(pq hU b e 1 []).1;have f:Sound (Part (take W t 1 []).1) (take W t 1 []).1:=Sound.take (λs g=>(hS s g).m λx d=>(c x).2 (.inl d)) (.base ((c t).2 (.inr rfl))) 1 [];obtain⟨i,j,b3⟩:=IE hU r _ (λx d=>h x (bq _ d)) (rR 1 [] b e) f;exact⟨i,j,λx=>by rw[kT,b3,c,bL,uh]⟩
theorem QT{U K:List T}(hU:yA U)(d:∀t∈K,t∈U):Inv U (fill U.length K)/\Sound (Part (fill U.length K)) (fill U.length K)/\∀t,Part (fill U.length K) t<->An (· ∈K) t:=by
 obtain⟨e,f,g⟩:=IE hU K [] d (Inv.nil U) (λs a=>by cases a);obtain⟨i,j,b3,b4,k⟩:=Nl hU (U.length+1) (start K) e f (by omega);have c:∀x,Part (start K) x<->x∈K:=λx=>(g x).t ⟨λh=>by
  rcases h with⟨s,a,_⟩|h;·cases a
  ·exact h,.inr⟩
 refine⟨i,j,λt=>⟨λl Q m n=>b4 Q m (λx b=>n x ((c x).1 b)) t l,λo=>o _ k λx b=>b3 x ((c x).2 b)⟩⟩
end Wb
end
section
open Go.RowKit
variable {X:Nat->Bool}
def xA(W:List fC)(j:Nat):List T:=((W.take j).filter fC.part).map fC.t
theorem UA(W:List fC)(j:Nat)(h:j<W.length):xA W (j+1)=if W[j].part=true then xA W j++[W[j].t] else xA W j:=by
 unfold xA;rw[aV h,qg,fZ];by_cases hu:W[j].part=true;·rw[aI hu];simp[hu]
 ·rw[aG hu];simp[hu]
theorem Qk(W:List fC)(j:Nat):(xA W j).length<=W.length:=by
 unfold xA;rw[df];exact aD (fP _ _) (by rw[aW];omega)
theorem Wp(W:List fC)(x:T):x∈xA W W.length<->Wb.Part W x:=by
 unfold xA;rw[lC,dB];constructor
 ·rintro⟨s,c,rfl⟩;obtain⟨a,b⟩:=fB.1 c;exact⟨s,a,b,rfl⟩
 ·rintro⟨s,a,b,rfl⟩;exact⟨s,fB.2 ⟨a,b⟩,rfl⟩
theorem RQ{U:List T}{W:List fC}(h:Inv U W):(xA W W.length).Nodup:=by
 unfold xA;rw[lC];have c:W.Pairwise λa b=>a.t≠b.t:=List.Pairwise.of_map (S:=λa b=>a≠b) (λs=>s.t.key) (λa b d e=>d (by rw[e])) h.apart;exact List.pairwise_map.2 (zl List.filter_sublist c)
def Po(K L:List T):Prop:=(∀x,x∈L<->An (· ∈K) x)/\(L.Pairwise λa b=>0<=T.cmp b a)/\L.Nodup
end
section
open Go.RowKit
theorem aO.eQ{w:World}{k:Int}{s:ByteArray}{A:Option Addr}{n cap:Nat}{t:T}(h:aO w (.agg #[.int .i64 k,.string s,.slice A n cap]) t){i:Nat}(hi:i<t.ay.length):
 ∃b off A' a,A=some ⟨b,off,none⟩/\w.cell? ⟨b,off+i*3,none⟩=some (.int .i64 (t.eQ i).aC)/\w.cell? ⟨b,off+i*3+1,none⟩=some (.string (t.eQ i).aJ)/\w.cell? ⟨b,off+i*3+2,none⟩=some (.slice A' (t.eQ i).ay.length a)/\
  aO w (.agg #[.int .i64 (t.eQ i).aC,.string (t.eQ i).aJ,.slice A' (t.eQ i).ay.length a]) (t.eQ i):=by
 obtain⟨b,off,A',c,e,_,d,c1,c2,f⟩:=(aO.uf h).eQ hi;exact⟨b,off,A',c,e,d,c1,c2,f.at⟩
end
section
theorem Ko{a:List T}{t:T}(h:t∈a):t∈T.iY a:=T.ug.2 ⟨t,h,T.Bo t⟩
end
section
open Go.RowKit
theorem ny.drew{B g:Nat}{w:World}(h:ny B g w):ny B g w.drew:=h
def WS(c B g:Nat)(w:World)(L:List T)(wr:World):Prop:=
 ∃kv,jM wr c (.int .i64 7) (.string ⟨#[]⟩) kv/\jM wr w.heap.size (.int .i64 0) (.string ⟨#[]⟩) (.slice none 0 0)/\bK wr (c+1) kv L/\ny B g wr/\w.grownBy wr (some g)
theorem WS.step{c B g:Nat}{w:World}{L:List T}{wr w3 w4:World}{kv u0 u1 u2:Value}{t:T}{xs:List Value}{m cap:Nat}(aa:g<w.heap.size)(hc:w.heap.size<c)
 (x:jM wr c (.int .i64 7) (.string ⟨#[]⟩) kv) (y:jM wr w.heap.size (.int .i64 0) (.string ⟨#[]⟩) (.slice none 0 0)) (P:bK wr (c+1) kv L) (o:w.grownBy wr (some g))
 (Q:∀i (h:i<L.length),∃u0 u1 u2,xs[i*3]?=some u0/\xs[i*3+1]?=some u1/\xs[i*3+2]?=some u2/\bN (but (c+1) kv.ownBlock) wr (.agg #[u0,u1,u2]) L[i]) (r:xs.length=L.length*3)
 (K:ny B g w3) (a:wr.grownBy w3 (some g)) (R:∀S W,bN S W (.agg #[u0,u1,u2]) t)
 (U:w4.ownsRow (c+1) 29 3 (.slice (some ⟨m,0,none⟩) (L.length+1) cap) (L.length+1) (xs++[u0,u1,u2])) (d:(w3.alloc (.cells #[u0,u1,u2] 29)).grownBy w4 kv.ownBlock)
 (V:kv.ownBlock=some m\/m=w3.heap.size+1):WS c B g w (L++[t]) (w4.setCell ⟨c,2,none⟩ (.slice (some ⟨m,0,none⟩) (L.length+1) cap)):=by
 have hB:=K.1;have s:∀b,b<c+1->kv.ownBlock≠some b:=λb M e=>(by have:=(P.block b e).1;omega);have f:=af w3 (.cells #[u0,u1,u2] 29);have ae:=aK w3 (.cells #[u0,u1,u2] 29);have N:∀b,g<b->some g≠some b:=λb hb e=>(by have X:=aA e;omega);have ai:=x.lt;have ak:=a.size;have u:∀b,b<c+1->b<w3.heap.size->w4.heap[b]?=w3.heap[b]?:=λb hb r=>(d.block b (by omega) (λe=>s b hb e.symm)).t (f.block b r);have Y:ny B g w4:=by
  obtain⟨h0,A,n,v,k,p,C,D,E,l⟩:=K;refine⟨h0,A,n,v,k,(u g (by omega) (by omega)).t p,C,D,E,?_⟩;rcases l with l|⟨b,off,F,e,G⟩;·exact .inl l
  ·refine .inr ⟨b,off,F,e,λj hj=>?_⟩;obtain⟨z,I,J⟩:=G j hj;refine⟨z,?_,J⟩;rw[<-I];exact dD (u b (by omega) (by omega))
 have q:∀b,b≠c->(w4.setCell ⟨c,2,none⟩ (.slice (some ⟨m,0,none⟩) (L.length+1) cap)).heap[b]?=w4.heap[b]?:=λb hb=>aM _ _ _ _ (by show b≠c;exact hb);refine⟨_,((((x.grown a (N _ (by omega))).ag f).grown d (s _ (by omega))).Bv _),?_,?_,?_,?_⟩;·exact(((y.grown a (N _ (by omega))).ag f).grown d (s _ (by omega))).setOther (by simp;omega) _
 ·have p:=bK.snoc (w:=w3.alloc (.cells #[u0,u1,u2] 29)) (H:=w3.heap.size+1) (t:=t) (λi hi=>by
   obtain⟨a0,Z,a2,b0,b1,b2,b3⟩:=Q i hi;exact⟨a0,Z,a2,b0,b1,b2,b3.aR λb hb M=>⟨hb,(f.block b (by omega)).t (a.block b M (λe=>by have X:b=g:=aA e;have:=(ja.1 hb).1;omega))⟩⟩) r
   (R _ _) U d V (by rw[aK])
  exact p.aR λb av _=>q b (by omega)
 ·obtain⟨h0,A,n,v,k,p,C,D,E,l⟩:=Y;refine⟨h0,A,n,v,k,(q g (by omega)).t p,C,D,E,?_⟩;rcases l with l|⟨b,off,F,e,G⟩;·exact .inl l
  ·refine .inr ⟨b,off,F,e,λj hj=>?_⟩;obtain⟨z,I,J⟩:=G j hj;refine⟨z,?_,J⟩;rw[<-I];exact dD (q b (by omega))
 ·have e3:=o.size;have e4:=d.size;refine⟨d.os.t (f.os.t (a.os.t o.os)),d.tape.t (f.tape.t (a.tape.t o.tape)),d.output.t (f.output.t (a.output.t o.output)),?_,λi hi O=>?_⟩;·simp only[World.setCell,lY];omega
  ·rw[q i (by omega),u i (by omega) (by omega),a.block i (by omega) O,o.block i hi O]
end
end Go.Proofs.YtaciciokmpbkkaaGreatDoor
