import Derived.Test.YtaciciokmpbkkaaGreatDoorWebG16
set_option maxRecDepth 100000
set_option maxHeartbeats 16000000
namespace Go.Proofs.YtaciciokmpbkkaaGreatDoor
section
open Go.RowKit T
attribute [local go_sem ↓] Go.wp_at_zero Go.wp_at_succ
theorem TJ{p t:T}{L:List Bd}(h:p.fe=false):oM p t L=none:=by unfold oM;rw[h];rfl
theorem TL{p t:T}{L:List Bd}(h:t.ground=false):oM p t L=none:=by
 unfold oM T.use;rw[h];simp
theorem TM{p t:T}{L:List Bd}(h:t.FX=false):oM p t L=none:=by
 unfold oM T.use;rw[h];simp
theorem TN{p t:T}{L:List Bd}(h:jH L=false):oM p t L=none:=by
 unfold oM;rw[h];simp
theorem TP{p t:T}{L:List Bd}(a:p.fe=true)(b:t.ground=true)(c:t.FX=true)(d:jH L=true):oM p t L=E8 p t L:=by
 unfold oM T.use;rw[a,b,c,d];rfl
theorem Qa(L:List Bd)(v:Value)(w:World)(hv:gu w v L)(hb:∀x∈L,x.t.bC<=1048576)(hn:L.length<=1000000):
 Calls Tryz.prog 104 #[v] w λe w'=>∃v',e=.returned v'/\yj w.heap.size w' v' L/\Below w.heap.size w w':=by
 obtain⟨A,cap,rfl,bq,bu⟩:=hv.shape;obtain⟨i0,ai,av,ax,aA⟩:=dV Tryz.ES;obtain⟨n,aB⟩:∃n,L.length=n:=⟨_,rfl⟩;obtain⟨HN,HB,HV⟩:=ZR aB hb hv;rw[aB]at hn bq⊢;clear hv hb aB;go_enter Tryz.func104,Tryz.ntmps104;go_wp2_with fail;go_loopw [8,3] (λi o wr=>∃j:Nat,j<=n/\i=.int .i64 j/\yj w.heap.size wr o (L.take j)/\Below w.heap.size w wr) (λi _ _=>n-(intOf i).toNat);case atStart=>exact⟨0,aL _,rfl,by rw[iH];exact yj.nil _ _,az _ _⟩
 case round=>
  obtain⟨j,hj,rfl,O,m⟩:=hrel;by_cases aD:j<n
  ·have X:j<L.length:=(by rw[HN.o];exact aD);obtain⟨b,off,B,c,rfl,aF,aG,aH,aI,ht,aM⟩:=HV.o.get X;have aO:=HB.o _ (aN X);have aP:L.take (j+1)=L.take j++[⟨L[j].var,L[j].t⟩]:=aV X;obtain⟨x,hx⟩:∃x,L[j]=x:=⟨_,rfl⟩;rw[hx]at aF aG aH aI ht aO aM aP;obtain⟨d0,d1,d2,d3⟩:=Z4 m aF aG aH aI;obtain⟨Ao,co,xs,rfl,aQ,aS⟩:=O.cells;have aT:(L.take j).length=j:=(by rw[aW];omega);rw[aT]at aQ aS⊢;have hi:(j:Int)<(n:Int):=(by omega);have P:=af wr (.cells #[.string x.var,.int .i64 x.t.aC,.string x.t.aJ,.slice B x.t.ay.length c] 132);have E:=bO wr (.cells #[.string x.var,.int .i64 x.t.aC,.string x.t.aJ,.slice B x.t.ay.length c] 132);have bg:=aK wr (.cells #[.string x.var,.int .i64 x.t.aC,.string x.t.aJ,.slice B x.t.ay.length c] 132);obtain⟨f,Y,G,aU,aX,aZ,HOWN,Z,bf⟩:=ZY (m.t (P.m m.size)) ((ht.ag (m.t (P.m m.size)))) aD aO aP aM (dz aQ P) ((show JX (but w.heap.size (Value.slice Ao j co).ownBlock) _ xs (L.take j)from aS.aR λb hb F=>⟨hb,P.block b F⟩)) aT;clear m ht hx P X hj aF aG aH aI aO aP aM aQ aS O aT aD;go_upto_region 5 with fail;generalize wr.alloc (.cells #[.string x.var,.int .i64 x.t.aC,.string x.t.aJ,.slice B x.t.ay.length c] 132)=w2 at E bg f Y HOWN Z⊢;obtain⟨H,bi⟩:∃H,wr.heap.size=H:=⟨_,rfl⟩;rw[bi]at E⊢;have I:w2.cell? ⟨H,0,none⟩=some (.string x.var):=(by unfold World.cell?;rw[E];rfl);have J:w2.cell? ⟨H,1,none⟩=some (.int .i64 x.t.aC):=(by unfold World.cell?;rw[E];rfl);have M:w2.cell? ⟨H,2,none⟩=some (.string x.t.aJ):=(by unfold World.cell?;rw[E];rfl);have N:w2.cell? ⟨H,3,none⟩=some (.slice B x.t.ay.length c):=(by unfold World.cell?;rw[E];rfl);clear E bi d0 d1 d2 d3 bg;refine pV (by kernel_rfl) ?_;(try(change wpAny _ _ _ _ _ _ _ (World.drew _)));(refine eH (i:=0) (v:=?_) (by simp only[au,ah];rfl) (by kernel_rfl) (by kernel_rfl) (by kernel_rfl) (by exact λ_ _ _ h=>h) (Or.inl ⟨by rfl,?_⟩) ?_;rotate_left 1;· (intro w;go_simp;(try with_reducible rfl)));(refine eH (i:=1) (v:=?_) (by simp only[au,aj,ah];rfl) (by kernel_rfl) (by kernel_rfl) (by kernel_rfl) (by exact λ_ _ _ h=>h) (Or.inl ⟨by rfl,?_⟩) ?_;rotate_left 1;· (intro w;go_simp;(try with_reducible rfl)));(refine eH (i:=3) (v:=?_) (by simp only[au,aj,ah];rfl) (by kernel_rfl) (by kernel_rfl) (by kernel_rfl) (by exact λ_ _ _ h=>h) (Or.inl ⟨by rfl,?_⟩) ?_;rotate_left 1;· (intro w;go_simp;(try with_reducible rfl)));refine cO (rs:=[2,4]) (by kernel_rfl) (by simp) ?_;refine bF (by simp only[au,aj,ah];rfl) (λK a=>?_) ?_
   ·go_simp;(first|(refine a _ _ ?_;clear a K)|skip);refine cO (rs:=[4]) (by kernel_rfl) (by simp) ?_;refine bF (by simp only[au,aj,ah];rfl) (λK a=>?_) ?_
    ·go_simp;(first|(refine a _ _ ?_;clear a K)|skip);refine cO (rs:=[5]) (by kernel_rfl) (by simp) ?_;refine bF (by simp only[au,aj,ah];rfl) (λK a=>?_) ?_
     ·(go_simp;go_at_call 36;refine(wU (x.t.bC+1) x.t _ _ (by omega) Y.o.drew aU.o).m ?_;rintro e w3 ⟨l,C3,rfl,r,s⟩;have d:=jW s;obtain⟨z0,Q,z2,z3⟩:=Z4 d I J M N;obtain⟨R,S⟩:=ZQ ((dz HOWN.o d).alloc (.cells #[.string x.var,.int .i64 x.t.aC,.string x.t.aJ,.slice l x.t.ay.length C3] 132)) (CR x.var x.t l C3);have u:=aa (show w.heap.size<=(w3.alloc (.cells #[.string x.var,.int .i64 x.t.aC,.string x.t.aJ,.slice l x.t.ay.length C3] 132)).heap.size by rw[aK];have:=d.size;have:=f.o.size;omega));(first|(refine a _ _ ?_;clear a K)|skip);(refine eH (i:=6) (v:=?_) (by simp only[au,aj,ah];rfl) (by kernel_rfl) (by kernel_rfl) (by kernel_rfl) (by exact λ_ _ _ h=>h) (Or.inl ⟨by rfl,?_⟩) ?_;rotate_left 1;· (intro w;go_simp;(try with_reducible rfl)));refine cO (rs:=[7]) (by kernel_rfl) (by simp) ?_;refine bF (by simp only[au,aj,ah];rfl) (λK a=>?_) ?_
      ·go_simp;(first|(refine a _ _ ?_;clear a K)|skip);refine cO (rs:=[8]) (by kernel_rfl) (by simp) ?_;refine bF (by simp only[au,aj,ah];rfl) (λK a=>?_) ?_
       ·(refine dZ _ (by rfl) _ _ _ (by rfl) w.heap.size 132 i0 _ 4 64 fT ai av ax aA rfl (by omega) _ j _ (by rfl) R.o ⟨_,0,none⟩ 1 1 _ (by rfl) (by rfl) (di (bO _ _)) S.o (by omega) (by unfold maxLen;omega) (by omega) u.o _ rfl ?_;intro g bn w4 y p z T;go_simp);(first|(refine a _ _ ?_;clear a K)|skip);(refine eH (i:=9) (v:=?_) (by simp only[au,aj,ah];rfl) (by kernel_rfl) (by kernel_rfl) (by kernel_rfl) (by exact λ_ _ _ h=>h) (Or.inl ⟨by rfl,?_⟩) ?_;rotate_left 1;· (intro w;go_simp;(try with_reducible rfl)));refine lg (by kernel_rfl) ?_ _;have q:=yj.push (base:=w.heap.size) HOWN.o bf.o.symm Z.o aZ.o (λb _ F=>d.block b F) d.size f.o.size r y p z;have C:=d.t ((af w3 (.cells #[.string x.var,.int .i64 x.t.aC,.string x.t.aJ,.slice l x.t.ay.length C3] 132)).m d.size);have D:=(f.o.t (C.m f.o.size)).grown p u.o (λk U=>(HOWN.o.lt k U).1);rw[<-aX.o]at q;obtain⟨V,W⟩:=ZQ q D;clear q D C y p z T r s d z0 Q z2 z3 I J M N;go_wp2_with fail;go_roundw;case rel=>exact⟨j+1,G.o,by go_num,V.o,W.o⟩
        case measure=>have:=G.o;simp[intOf];omega
       exact bV
      exact bV
     exact bV
    exact bV
   refine bF (by simp only[au,aj,ah];rfl) (λK a=>?_) ?_
   ·go_simp;(first|(refine a _ _ ?_;clear a K)|skip);refine cO (rs:=[2,5]) (by kernel_rfl) (by simp) ?_;refine bF (by simp only[au,aj,ah];rfl) (λK a=>?_) ?_
    ·go_simp;(first|(refine a _ _ ?_;clear a K)|skip);refine cO (rs:=[5]) (by kernel_rfl) (by simp) ?_;refine bF (by simp only[au,aj,ah];rfl) (λK a=>?_) ?_
     ·(go_simp;go_at_call 36;refine(wU (x.t.bC+1) x.t _ _ (by omega) Y.o.drew aU.o).m ?_;rintro e w3 ⟨l,C3,rfl,r,s⟩;have d:=jW s;obtain⟨z0,Q,z2,z3⟩:=Z4 d I J M N;obtain⟨R,S⟩:=ZQ ((dz HOWN.o d).alloc (.cells #[.string x.var,.int .i64 x.t.aC,.string x.t.aJ,.slice l x.t.ay.length C3] 132)) (CR x.var x.t l C3);have u:=aa (show w.heap.size<=(w3.alloc (.cells #[.string x.var,.int .i64 x.t.aC,.string x.t.aJ,.slice l x.t.ay.length C3] 132)).heap.size by rw[aK];have:=d.size;have:=f.o.size;omega));(first|(refine a _ _ ?_;clear a K)|skip);(refine eH (i:=6) (v:=?_) (by simp only[au,aj,ah];rfl) (by kernel_rfl) (by kernel_rfl) (by kernel_rfl) (by exact λ_ _ _ h=>h) (Or.inl ⟨by rfl,?_⟩) ?_;rotate_left 1;· (intro w;go_simp;(try with_reducible rfl)));refine cO (rs:=[7]) (by kernel_rfl) (by simp) ?_;refine bF (by simp only[au,aj,ah];rfl) (λK a=>?_) ?_
      ·go_simp;(first|(refine a _ _ ?_;clear a K)|skip);refine cO (rs:=[8]) (by kernel_rfl) (by simp) ?_;refine bF (by simp only[au,aj,ah];rfl) (λK a=>?_) ?_
       ·(refine dZ _ (by rfl) _ _ _ (by rfl) w.heap.size 132 i0 _ 4 64 fT ai av ax aA rfl (by omega) _ j _ (by rfl) R.o ⟨_,0,none⟩ 1 1 _ (by rfl) (by rfl) (di (bO _ _)) S.o (by omega) (by unfold maxLen;omega) (by omega) u.o _ rfl ?_;intro g bn w4 y p z T;go_simp);(first|(refine a _ _ ?_;clear a K)|skip);(refine eH (i:=9) (v:=?_) (by simp only[au,aj,ah];rfl) (by kernel_rfl) (by kernel_rfl) (by kernel_rfl) (by exact λ_ _ _ h=>h) (Or.inl ⟨by rfl,?_⟩) ?_;rotate_left 1;· (intro w;go_simp;(try with_reducible rfl)));refine lg (by kernel_rfl) ?_ _;have q:=yj.push (base:=w.heap.size) HOWN.o bf.o.symm Z.o aZ.o (λb _ F=>d.block b F) d.size f.o.size r y p z;have C:=d.t ((af w3 (.cells #[.string x.var,.int .i64 x.t.aC,.string x.t.aJ,.slice l x.t.ay.length C3] 132)).m d.size);have D:=(f.o.t (C.m f.o.size)).grown p u.o (λk U=>(HOWN.o.lt k U).1);rw[<-aX.o]at q;obtain⟨V,W⟩:=ZQ q D;clear q D C y p z T r s d z0 Q z2 z3 I J M N;go_wp2_with fail;go_roundw;case rel=>exact⟨j+1,G.o,by go_num,V.o,W.o⟩
        case measure=>have:=G.o;simp[intOf];omega
       exact bV
      exact bV
     exact bV
    refine bF (by simp only[au,aj,ah];rfl) (λK a=>?_) ?_
    ·(go_simp;go_at_call 36;refine(wU (x.t.bC+1) x.t _ _ (by omega) Y.o.drew aU.o).m ?_;rintro e w3 ⟨l,C3,rfl,r,s⟩;have d:=jW s;obtain⟨z0,Q,z2,z3⟩:=Z4 d I J M N;obtain⟨R,S⟩:=ZQ ((dz HOWN.o d).alloc (.cells #[.string x.var,.int .i64 x.t.aC,.string x.t.aJ,.slice l x.t.ay.length C3] 132)) (CR x.var x.t l C3);have u:=aa (show w.heap.size<=(w3.alloc (.cells #[.string x.var,.int .i64 x.t.aC,.string x.t.aJ,.slice l x.t.ay.length C3] 132)).heap.size by rw[aK];have:=d.size;have:=f.o.size;omega));(first|(refine a _ _ ?_;clear a K)|skip);refine cO (rs:=[2]) (by kernel_rfl) (by simp) ?_;refine bF (by simp only[au,aj,ah];rfl) (λK a=>?_) ?_
     ·go_simp;(first|(refine a _ _ ?_;clear a K)|skip);(refine eH (i:=6) (v:=?_) (by simp only[au,aj,ah];rfl) (by kernel_rfl) (by kernel_rfl) (by kernel_rfl) (by exact λ_ _ _ h=>h) (Or.inl ⟨by rfl,?_⟩) ?_;rotate_left 1;· (intro w;go_simp;(try with_reducible rfl)));refine cO (rs:=[7]) (by kernel_rfl) (by simp) ?_;refine bF (by simp only[au,aj,ah];rfl) (λK a=>?_) ?_
      ·go_simp;(first|(refine a _ _ ?_;clear a K)|skip);refine cO (rs:=[8]) (by kernel_rfl) (by simp) ?_;refine bF (by simp only[au,aj,ah];rfl) (λK a=>?_) ?_
       ·(refine dZ _ (by rfl) _ _ _ (by rfl) w.heap.size 132 i0 _ 4 64 fT ai av ax aA rfl (by omega) _ j _ (by rfl) R.o ⟨_,0,none⟩ 1 1 _ (by rfl) (by rfl) (di (bO _ _)) S.o (by omega) (by unfold maxLen;omega) (by omega) u.o _ rfl ?_;intro g bn w4 y p z T;go_simp);(first|(refine a _ _ ?_;clear a K)|skip);(refine eH (i:=9) (v:=?_) (by simp only[au,aj,ah];rfl) (by kernel_rfl) (by kernel_rfl) (by kernel_rfl) (by exact λ_ _ _ h=>h) (Or.inl ⟨by rfl,?_⟩) ?_;rotate_left 1;· (intro w;go_simp;(try with_reducible rfl)));refine lg (by kernel_rfl) ?_ _;have q:=yj.push (base:=w.heap.size) HOWN.o bf.o.symm Z.o aZ.o (λb _ F=>d.block b F) d.size f.o.size r y p z;have C:=d.t ((af w3 (.cells #[.string x.var,.int .i64 x.t.aC,.string x.t.aJ,.slice l x.t.ay.length C3] 132)).m d.size);have D:=(f.o.t (C.m f.o.size)).grown p u.o (λk U=>(HOWN.o.lt k U).1);rw[<-aX.o]at q;obtain⟨V,W⟩:=ZQ q D;clear q D C y p z T r s d z0 Q z2 z3 I J M N;go_wp2_with fail;go_roundw;case rel=>exact⟨j+1,G.o,by go_num,V.o,W.o⟩
        case measure=>have:=G.o;simp[intOf];omega
       exact bV
      exact bV
     exact bV
    exact bV
   exact bV
  ·obtain rfl:j=n:=(by omega);rw[aY (by rw[HN.o];exact ak _)]at O;have hi:¬(j:Int)<(j:Int):=(by omega);obtain⟨HR,f⟩:=ZQ O m;clear O m;go_wp2_with fail;go_ret;exact⟨_,rfl,HR.o,f.o⟩
def SE(r:Option (List Bd))(w:World)(e:Ending)(w':World):Prop:=Below w.heap.size w w'/\match r with
 |none=>∃v,e=.returned (.tuple #[v,.bool false])
 |some x=>∃v,e=.returned (.tuple #[v,.bool true])/\Cb (eG w.heap.size) w' v x
theorem P8(p t:T)(L:List Bd)(pv tv bv:Value)(w:World)(P:aO w pv p)(Q:aO w tv t)(hb:gu w bv L)(hL:L.length<=900000)(H:∀x∈L,x.t.bC<=1048576)(S:p.bC<=1048576)(C:t.bC<=1048576):
 Calls Tryz.prog 118 #[pv,tv,bv] w (SE (oM p t L) w):=by
 obtain⟨ak,aM,aN,aS⟩:=ZT (λv W h=>zX p v W h S) (λv W h=>Gb t v W h C) (λv W h=>Ui t v W h C) (λW h=>V8 L bv W h H);have aT:=aa (λv1 v2 v3 W h1 h2 h3 (i:p.fe=true) (U:jH L=true)=>XX (p.bC+1) p t L v1 v2 v3 W (by omega) h1 h2 h3 ⟨La.of U,H⟩ (by have h5:p.size<=40:=ax (aP.1 i).1;omega) S C (mq i));have aU:=aa (λx (i:p.fe=true) (U:jH L=true) (h:E8 p t L=some x)=>show(∀y∈x,y.t.bC<=1048576)/\x.length<=1000000 from by
  have h5:p.size<=40:=ax (aP.1 i).1;have h6:=Bc (M:=1048576) p t L x ⟨La.of U,H⟩ C h;exact⟨h6.1.2,by omega⟩)
 have V:=TJ (p:=p) (t:=t) (L:=L);have X:=TL (p:=p) (t:=t) (L:=L);have Y:=TM (p:=p) (t:=t) (L:=L);have Z:=TN (p:=p) (t:=t) (L:=L);have hy:=TP (p:=p) (t:=t) (L:=L);obtain⟨R,hR⟩:∃R,oM p t L=R:=⟨_,rfl⟩;rw[hR]at V X Y Z hy⊢;obtain⟨aV,aW,aX,aY,HY⟩:=ZU V X Y Z hy;clear hR V X Y Z hy;obtain⟨A,c,rfl⟩:=bN.view P.uf;obtain⟨B,d,rfl⟩:=bN.view Q.uf;obtain⟨I,J,z,av⟩:=rz w (.int .i64 p.aC) (.string p.aJ) (.slice A p.ay.length c) (.int .i64 t.aC) (.string t.aJ) (.slice B t.ay.length d);obtain⟨K,HT,HB⟩:=ZR (P.ag z) (Q.ag z) (hb.ag z);clear P Q hb S C H;go_enter Tryz.func118,Tryz.ntmps118;go_upto_region 1 with fail;generalize(w.alloc (.cells #[.int .i64 p.aC,.string p.aJ,.slice A p.ay.length c] 29)).alloc (.cells #[.int .i64 t.aC,.string t.aJ,.slice B t.ay.length d] 29)=w1 at I J z av K HT HB⊢;obtain⟨x0,j,k⟩:=I.cells;obtain⟨l,m,n⟩:=J.cells;obtain⟨BX,BY,N⟩:=ZR I J z;clear I J z av;cases i:p.fe with
 |false=>
  obtain rfl:R=none:=aV.o i;have f:=aa (ak.o _ w1 K.o false 76 i (.inr ⟨rfl,rfl⟩));clear i;go_wp2_with fail;refine f.o.m ?_;rintro e w2 ⟨rfl,g⟩;have O:=aa (N.o.t (g.m N.o.size));clear g x0 j k l m n;go_wp2_with fail;go_ret2;exact⟨O.o,_,rfl⟩
 |true=>
  obtain⟨ae,f⟩:=ZQ i (ak.o _ w1 K.o true 0 i (.inl ⟨rfl,rfl⟩));clear i;go_wp2_with fail;refine f.o.m ?_;rintro e w2 ⟨rfl,g⟩;have O:=aa (N.o.t (g.m N.o.size));obtain⟨u0,u1,u2⟩:=(BX.o.ag g).cells;obtain⟨z0,z1,z2⟩:=(BY.o.ag g).cells;obtain⟨aZ,bf,bg,az,bi⟩:=ZU (BX.o.ag g) (BY.o.ag g) (K.o.ag g) (HT.o.ag g) (HB.o.ag g);clear g x0 j k l m n f;have f:=aa (aM.o _ w2 az.o);obtain⟨q,a⟩:∃q,t.ground=q:=⟨_,rfl⟩;rw[a]at f;go_wp2_with fail;refine f.o.m ?_;rintro e w3 ⟨rfl,o⟩;obtain⟨af,aA,aB,bn,aF,bq⟩:=ZV (O.o.t (o.m O.o.size)) (aZ.o.ag o) (bf.o.ag o) (bg.o.ag o) (az.o.ag o) (bi.o.ag o);clear o u0 u1 u2 z0 z1 z2 f;obtain⟨x0,j,k⟩:=aA.o.cells;obtain⟨l,m,n⟩:=aB.o.cells;cases q with
  |false=>
   obtain rfl:R=none:=aW.o a;clear a;go_wp2_with fail;go_ret2;exact⟨af.o,_,rfl⟩
  |true=>
   have bu:=aa a;clear a;have f:=aa (aN.o _ w3 aF.o);obtain⟨q,a⟩:∃q,t.FX=q:=⟨_,rfl⟩;rw[a]at f;go_wp2_with fail;refine f.o.m ?_;rintro e w4 ⟨rfl,s⟩;obtain⟨ai,bz,bA,bB,bD,aG⟩:=ZV (af.o.t (s.m af.o.size)) (aA.o.ag s) (aB.o.ag s) (bn.o.ag s) (aF.o.ag s) (bq.o.ag s);clear s x0 j k l m n f;cases q with
   |false=>
    obtain rfl:R=none:=aX.o a;clear a;go_wp2_with fail;go_ret2;exact⟨ai.o,_,rfl⟩
   |true=>
    have bE:=aa a;clear a;have f:=aa (aS.o w4 aG.o);obtain⟨q,a⟩:∃q,jH L=q:=⟨_,rfl⟩;rw[a]at f;go_wp2_with fail;refine f.o.m ?_;rintro e w5 ⟨rfl,u⟩;have D:=aa (ai.o.t (u.m ai.o.size));obtain⟨x0,j,k⟩:=(bz.o.ag u).cells;obtain⟨l,m,n⟩:=(bA.o.ag u).cells;obtain⟨bF,bG,bH⟩:=ZR (bB.o.ag u) (bD.o.ag u) (aG.o.ag u);clear u f;cases q with
    |false=>
     obtain rfl:R=none:=aY.o a;clear a;go_wp2_with fail;go_ret2;exact⟨D.o,_,rfl⟩
    |true=>
     obtain⟨aH,HM,HK⟩:=ZR (HY.o ae.o bu.o bE.o a) (aT.o _ _ _ w5 bF.o bG.o bH.o ae.o a) (λx=>aU.o x ae.o a);clear a;obtain⟨r,hr⟩:∃r,E8 p t L=r:=⟨_,rfl⟩;rw[hr]at HM aH HK;obtain rfl:R=r:=aH.o;clear hr;cases R with
     |none=>
      go_wp2_with fail;refine HM.o.m ?_;rintro e w6 ⟨E,F⟩;obtain⟨v6,rfl⟩:=(show ∃v,e=.returned (.tuple #[v,.bool false])from F);have G:=aa (D.o.t (E.m D.o.size));clear F E x0 j k l m n;go_wp2_with fail;go_ret2;exact⟨G.o,_,rfl⟩
     |some x=>
      go_wp2_with fail;refine HM.o.m ?_;rintro e w6 ⟨E,F⟩;obtain⟨v6,rfl,aI⟩:=(show ∃v,e=.returned (.tuple #[v,.bool true])/\gu w6 v x from F);obtain⟨G,bI⟩:=ZQ (D.o.t (E.m D.o.size)) aI;clear F E x0 j k l m n aI;go_wp2_with fail;refine(Qa x _ _ bI.o (HK.o x rfl).1 (HK.o x rfl).2).m ?_;rintro e w7 ⟨v7,rfl,aK,aL⟩;obtain⟨bJ,bK⟩:=ZQ (G.o.t (aL.m G.o.size)) aK;clear aK aL;go_wp2_with fail;go_ret2;exact⟨bJ.o,_,rfl,bK.o.bin.aR λb hb _=>⟨aQ (aD G.o.size (ax hb)),rfl⟩⟩
end
section
open T
theorem jC(l:List T):Cy (aT.FQ l)/\∀x,x∈aT.FQ l<->x∈l:=by
 have h:∀(r m:List T),Cy m->Cy (r.foldl qw m)/\∀x,x∈r.foldl qw m<->x∈m\/x∈r:=by
  intro r;induction r with
  |nil=>exact λm a=>⟨a,λx=>by simp⟩
  |cons t r b=>
   intro m a;obtain⟨c,d⟩:=uZ a t;obtain⟨e,f⟩:=b _ c;refine⟨e,λx=>?_⟩;show x∈r.foldl qw (qw m t)<->_;rw[f,d,bL,uh]
 obtain⟨g,i⟩:=h l [] List.Pairwise.nil;exact⟨g,λx=>(i x).t (by simp)⟩
theorem WE{l m:List T}(h:∀x,x∈l<->x∈m):aT.FQ l=aT.FQ m:=CP (jC l).1 (jC m).1 λx=>((jC l).2 x).t ((h x).t ((jC m).2 x).symm)
theorem UW{l m:List T}(a:Cy l)(h:∀x,x∈l<->x∈m):l=aT.FQ m:=CP a (jC m).1 λx=>(h x).t ((jC m).2 x).symm
theorem kM{l:List ByteArray}{v:ByteArray}:aT.oL l v=true<->v∈l:=by
 unfold aT.oL;rw[eU];constructor;·rintro⟨x,a,e⟩;rw[<-ax e];exact a
 ·exact λh=>⟨v,h,aQ rfl⟩
theorem TR{l:List ByteArray}{v:ByteArray}:v∈aT.once l<->v∈l:=by
 induction l with
 |nil=>exact tL
 |cons x r a=>
  show v∈(if aT.oL (aT.once r) x=true then aT.once r else x::aT.once r)<->_;by_cases h:aT.oL (aT.once r) x=true
  ·rw[aI h,a,bL];refine⟨.inr,?_⟩;rintro(rfl|h');·exact a.1 (kM.1 h)
   ·exact h'
  ·rw[aG h,bL,bL,a]
structure K5 where
 met:List ByteArray
 gW:List T
namespace aT
def offer(pat:T)(b:List Bd)(P:List T)(h:K5)(t:T):K5:=
 if oL h.met t.key=true then h else ⟨t.key::h.met,if accept pat b P t=true then h.gW++[t] else h.gW⟩
end aT
theorem zW {pat:T} {b:List Bd} {P:List T}:∀(i seen:List T) (h:K5),(∀t∈seen++i,t.fe=true)->(∀k,k∈h.met<->∃t∈seen,t.key=k)->(∀t,t∈h.gW<->t∈seen/\aT.accept pat b P t=true)->h.gW.Nodup->
  (∀k,k∈(i.foldl (aT.offer pat b P) h).met<->∃t∈seen++i,t.key=k)/\(∀t,t∈(i.foldl (aT.offer pat b P) h).gW<->t∈seen++i/\aT.accept pat b P t=true)/\(i.foldl (aT.offer pat b P) h).gW.Nodup
 |[],seen,h,_,j,l,m=>by rw[dS];exact⟨j,l,m⟩
 |t::r,seen,h,p,j,l,m=>by
  have u:∀x∈(seen++[t])++r,x.fe=true:=(by rw[dA];exact p);have w:t.fe=true:=p t (by simp);have z:∀x∈seen,x.fe=true:=λx n=>p x (by simp[n]);have A:seen++t::r=(seen++[t])++r:=(by rw[dA];rfl);show(∀k,k∈(r.foldl (aT.offer pat b P) (aT.offer pat b P h t)).met<->_)/\_;rw[A];by_cases o:aT.oL h.met t.key=true
  ·obtain⟨x,n,B⟩:=(j _).1 (kM.1 o);have C:x=t:=key_inj (z x n) w B;subst C;have q:aT.offer pat b P h x=h:=(by unfold aT.offer;rw[aI o]);show(∀k,k∈(r.foldl (aT.offer pat b P) (aT.offer pat b P h x)).met<->_)/\(∀t,t∈(r.foldl (aT.offer pat b P) (aT.offer pat b P h x)).gW<->_)/\(r.foldl (aT.offer pat b P) (aT.offer pat b P h x)).gW.Nodup;rw[q];refine zW r (seen++[x]) h u (λk=>(j k).t ?_) (λy=>(l y).t ?_) m
   ·constructor;·rintro⟨y,hy,e⟩;exact⟨y,by simp[hy],e⟩
    ·rintro⟨y,hy,e⟩;rcases aU.1 hy with hy|hy;·exact⟨y,hy,e⟩
     ·rw[aX]at hy;subst hy;exact⟨y,n,e⟩
   ·constructor;·rintro⟨hy,e⟩;exact⟨by simp[hy],e⟩
    ·rintro⟨hy,e⟩;rcases aU.1 hy with hy|hy;·exact⟨hy,e⟩
     ·rw[aX]at hy;subst hy;exact⟨n,e⟩
  ·have s:t∉seen:=λs=>o (kM.2 ((j _).2 ⟨t,s,rfl⟩));have q:aT.offer pat b P h t=⟨t.key::h.met,if aT.accept pat b P t=true then h.gW++[t] else h.gW⟩:=(by unfold aT.offer;rw[aG o]);show(∀k,k∈(r.foldl (aT.offer pat b P) (aT.offer pat b P h t)).met<->_)/\(∀D,D∈(r.foldl (aT.offer pat b P) (aT.offer pat b P h t)).gW<->_)/\(r.foldl (aT.offer pat b P) (aT.offer pat b P h t)).gW.Nodup;rw[q];refine zW r (seen++[t]) _ u (λk=>?_) (λy=>?_) ?_
   ·rw[bL,j];constructor
    ·rintro(rfl|⟨y,hy,e⟩);·exact⟨t,by simp,rfl⟩
     ·exact⟨y,by simp[hy],e⟩
    ·rintro⟨y,hy,e⟩;rcases aU.1 hy with hy|hy;·exact .inr ⟨y,hy,e⟩
     ·rw[aX]at hy;subst hy;exact .inl e.symm
   ·show y∈(if aT.accept pat b P t=true then h.gW++[t] else h.gW)<->_;by_cases f:aT.accept pat b P t=true
    ·rw[aI f,aU,l,aU,aX];constructor
     ·rintro(⟨g,d⟩|rfl);·exact⟨.inl g,d⟩
      ·exact⟨.inr rfl,f⟩
     ·rintro⟨g|rfl,d⟩;·exact .inl ⟨g,d⟩
      ·exact .inr rfl
    ·rw[aG f,l,aU,aX];constructor;·rintro⟨g,d⟩;exact⟨.inl g,d⟩
     ·rintro⟨g|rfl,d⟩;·exact⟨g,d⟩
      ·exact absurd d f
   ·show List.Nodup (if aT.accept pat b P t=true then h.gW++[t] else h.gW);by_cases f:aT.accept pat b P t=true
    ·rw[aI f];exact List.nodup_append.2 ⟨m,by simp,λa E c v=>by
      rw[aX]at v;intro e;subst e;subst v;exact s ((l _).1 E).1⟩
    ·rw[aG f];exact m
def bf(f:ByteArray->T)(vs:List ByteArray):List Bd:=vs.map λv=>⟨v,f v⟩
theorem rF(b c:List Bd)(n:ByteArray):T.look (b++c) n=(T.look b n).or (T.look c n):=by
 induction b with
 |nil=>rfl
 |cons x r a=>
  show(if x.var=n then some x.t else T.look (r++c) n)=((if x.var=n then some x.t else T.look r n).or (T.look c n));by_cases h:x.var=n;·rw[aI h,aI h];rfl
  ·rw[aG h,aG h,a]
theorem FZ(f:ByteArray->T)(vs:List ByteArray)(n:ByteArray):T.look (bf f vs) n=if aT.oL vs n=true then some (f n) else none:=by
 induction vs with
 |nil=>rfl
 |cons v r a=>
  show(if v=n then some (f v) else T.look (bf f r) n)=_;by_cases h:v=n;·subst h;rw[aI rfl,aI (kM.2 (by simp))]
  ·rw[aG h,a];by_cases h':aT.oL r n=true;·rw[aI h',aI (kM.2 (bq _ (kM.1 h')))]
   ·rw[aG h',aG (λk=>h' (kM.2 ((bL.1 (kM.1 k)).resolve_left (jN h))))]
mutual
theorem Nf:∀(p:T) (b c:List Bd),(∀n,T.look b n=T.look c n)->put p b=put p c
 |.mk k s a,b,c,h=>by
  simp only[put];rw[h,Fg a b c h]
theorem Fg:∀(ps:List T) (b c:List Bd),(∀n,T.look b n=T.look c n)->eZ ps b=eZ ps c
 |[],_,_,_=>rfl
 |p::r,b,c,h=>by
  simp only[eZ];rw[Nf p b c h,Fg r b c h]
end
theorem GJ{p:T}{b c:List Bd}(h:∀n,T.look b n=T.look c n):kz p b=kz p c:=by unfold kz;rw[Nf p b c h]
theorem xX {pat:T} {names:List ByteArray} {P:List T} {t:T}:∀(vs:List ByteArray) (b:List Bd),
  t∈aT.fills pat names P vs b<->∃f:ByteArray->T,(∀v∈vs,f v∈P/\(v∈names->(f v).aC=1))/\kz pat (b++bf f vs)=some t
 |[],b=>by
  simp only[aT.fills,bf,nA,dS,Option.mem_toList];exact⟨λh=>⟨λ_=>uC,λv g=>(by cases g),h⟩,λ⟨_,_,h⟩=>h⟩
 |v::r,b=>by
  simp only[aT.fills,oW];constructor
  ·rintro⟨p,i,h⟩;by_cases a:aT.oL names v=true/\p.aC≠1;·rw[aI a]at h;cases h
   ·rw[aG a]at h;obtain⟨f,c,d⟩:=(xX r (b++[⟨v,p⟩])).1 h;refine⟨λn=>if n=v then p else f n,λu hu=>?_,?_⟩
    ·by_cases e:u=v
     ·subst e;simp only[aI];refine⟨i,λj=>?_⟩;exact Classical.byContradiction λk=>a ⟨kM.2 j,k⟩
     ·simp only[aG e];exact c u ((bL.1 hu).resolve_left e)
    ·rw[<-d];refine GJ λn=>?_;rw[rF,rF,rF,FZ,FZ];show(T.look b n).or _=((T.look b n).or (if v=n then some p else none)).or _;cases T.look b n with
     |some y=>rfl
     |none=>
      by_cases e:v=n
      ·subst e;rw[aI rfl,aI (kM.2 (by simp))];simp
      ·rw[aG e];have l:aT.oL (v::r) n=aT.oL r n:=jY.2 (kM.t ((bL.t (or_iff_right (jN e))).t kM.symm));rw[l];by_cases h':aT.oL r n=true;·rw[aI h',aI h',aG (jN e)];rfl
       ·rw[aG h',aG h'];rfl
  ·rintro⟨f,c,d⟩;refine⟨f v,(c v (by simp)).1,?_⟩;rw[aG (λa=>a.2 ((c v (by simp)).2 (kM.1 a.1)))];refine(xX r _).2 ⟨f,λu hu=>c u (bq _ hu),?_⟩;rw[dA];exact d
theorem GL{pat:T}{names names':List ByteArray}{P:List T}{vs e:List ByteArray}{b:List Bd}(a:∀v,v∈vs<->v∈e)(g:∀v,v∈names<->v∈names')(t:T):t∈aT.fills pat names P vs b<->t∈aT.fills pat names' P e b:=by
 rw[xX,xX];refine exists_congr λf=>and_congr ⟨λh v d=>?_,λh v d=>?_⟩ ?_;·exact⟨(h v ((a v).2 d)).1,λh'=>(h v ((a v).2 d)).2 ((g v).2 h')⟩
 ·exact⟨(h v ((a v).1 d)).1,λh'=>(h v ((a v).1 d)).2 ((g v).1 h')⟩
 ·rw[GJ (c:=b++bf f e) λn=>by
   rw[rF,rF,FZ,FZ];have i:aT.oL vs n=aT.oL e n:=jY.2 (kM.t ((a n).t kM.symm));rw[i]]
theorem Ws{t:T}{b:List Bd}(h:t.aC=2):put t b=T.look b t.aJ:=by
 cases t with
 |mk k s a=>
  have h':k=2:=h;simp only[put];rw[aI h'];rfl
mutual
theorem QO:∀(p:T) (b:List Bd) (u:T),p.shape=true->put p b=some u->u.shape=true->∀v∈aT.zJ p,∀x,T.look b v=some x->x.atom=true
 |.mk k s a,b,u,c,h,e,v,d,x,j=>by
  rw[show aT.zJ (.mk k s a)=aT.lM k a by unfold aT.zJ;rfl]at d;by_cases f:k=1\/k=2
  ·simp only[T.shape,aI f,ai,eY]at c;have m:=dQ.1 c.2;subst m;rw[show aT.lM k []=[] by unfold aT.lM;rfl]at d;cases d
  ·simp only[put]at h;rw[aG (by omega)]at h;simp only[T.shape,aG f,ai]at c;cases g:eZ a b with
   |none=>rw[g]at h;cases h
   |some l=>
    rw[g]at h;injection h with h;subst h;simp only[T.shape,aG f,ai]at e;refine CZ k a b l c.2 g e.2 (λn=>?_) v d x j;have i:=e.1.1;unfold il at i;rw[aG (by omega),aG (by omega),aG (by omega),aI n,ai,bZ]at i;intro t o;have:=fQ.1 i.2 t o;simpa using this
theorem CZ:∀(k:Int) (ps:List T) (b:List Bd) (l:List T),dW ps=true->eZ ps b=some l->dW l=true->(k=7->∀t∈l,t.atom=true)->∀v∈aT.lM k ps,∀x,T.look b v=some x->x.atom=true
 |k,[],_,_,_,_,_,_,v,a,_,_=>by
  rw[show aT.lM k []=[] by unfold aT.lM;rfl]at a;cases a
 |k,t::r,b,l,f,h,g,m,v,a,x,i=>by
  simp only[eZ]at h;simp only[T.dW,ai]at f;cases c:put t b with
  |none=>rw[c]at h;cases h
  |some y=>
   rw[c]at h;cases j:eZ r b with
   |none=>rw[j]at h;cases h
   |some z=>
    rw[j]at h;injection h with h;subst h;simp only[T.dW,ai]at g;rw[show aT.lM k (t::r)=(if k=7/\t.aC=2 then [t.aJ] else [])++(aT.zJ t++aT.lM k r) by conv=>lhs;unfold aT.lM]at a;rw[aU,aU]at a;rcases a with a|a|a
    ·by_cases d:k=7/\t.aC=2
     ·rw[aI d,aX]at a;subst a;rw[Ws d.2,i]at c;injection c with c;subst c;exact m d.1 _ (by simp)
     ·rw[aG d]at a;cases a
    ·exact QO t b y f.1 c g.1 v a x i
    ·exact CZ k r b z f.2 j g.2 (λe t n=>m e t (by simp[n])) v a x i
end
theorem Qw{t:T}(h:t.atom=true):t.aC=1\/t.aC=2:=by
 cases t with
 |mk k s a=>
  show k=1\/k=2;simpa[atom]using h
def NP(c:UInt8):Bool:=c != 10&&(c != 61&&c != 43)
theorem VL{c:UInt8}(h:low c=true):NP c=true:=by
 unfold low at h;unfold NP;simp only[ai,bW]at h;simp only[ai,jd,ne_eq];refine⟨?_,?_,?_⟩<;>(rintro rfl;revert h;decide)
theorem VB{c:UInt8}(h:Oo c=true):NP c=true:=by
 unfold Oo at h;unfold NP;simp only[ai,bW]at h;simp only[ai,jd,ne_eq];refine⟨?_,?_,?_⟩<;>(rintro rfl;revert h;decide)
theorem Dk{s:ByteArray}(h:isName s=true):∀c∈s.data.toList,NP c=true:=by
 unfold isName at h;simp only[ai]at h;intro c a;obtain⟨i,hi,rfl⟩:=bI a;have:=cz.1 h.1 i (dU.2 hi);unfold zt at this;rw[show s.data.toList.getD i 0=s.data.toList[i] by rw[dC,aH hi];rfl]at this;simp only[fH,ai]at this;rcases this with g|⟨_,g⟩;·exact VL g
 ·exact VB g
theorem TC(k:Int):∀c∈ko k,NP c=true:=by
 unfold ko
 repeat' split
 all_goals decide
mutual
theorem DZ:∀t:T,t.shape=true->∀c∈t.gL,NP c=true
 |.mk k s g,h,c,a=>by
  by_cases b:k=1\/k=2
  ·simp only[T.shape,aI b,ai]at h;simp only[gL]at a;by_cases d:k=1;·rw[aI d]at a;exact Dk h.1 c a
   ·rw[aG d,aI (by omega)]at a;rcases bL.1 a with rfl|a;·decide
    ·exact Dk h.1 c a
  ·simp only[T.shape,aG b,ai]at h;simp only[gL]at a;rw[aG (by omega),aG (by omega)]at a;have e:=Nz g h.2;by_cases f:k=3
   ·rw[aI f]at a;simp only[aU,aX]at a;rcases a with(rfl|a)|rfl;·decide
    ·exact e c a
    ·decide
   ·rw[aG f]at a;simp only[aU,aX]at a;rcases a with((a|rfl)|a)|rfl;·exact TC k c a
    ·decide
    ·exact e c a
    ·decide
theorem Nz:∀l:List T,T.dW l=true->∀c∈eX l,NP c=true
 |[],_,c,a=>by simp[eX]at a
 |t::r,h,c,a=>by
  simp only[T.dW,ai]at h;simp only[eX,aU]at a;rcases a with a|a;·exact DZ t h.1 c a
  ·exact DY r h.2 c a
theorem DY:∀l:List T,T.dW l=true->∀c∈jf l,NP c=true
 |[],_,c,a=>by simp[jf]at a
 |t::r,h,c,a=>by
  simp only[T.dW,ai]at h;simp only[jf,aU,bL,dY,H8]at a;rcases a with((rfl|rfl)|a)|a;·decide
  ·decide
  ·exact DZ t h.1 c a
  ·exact DY r h.2 c a
end
inductive mD where
 |num (n:Nat)
 |wF (y:Bd)
 |kn (t:T)
def mD.txt:mD->List UInt8
 |.num n=>aT.itoa n
 |.wF y=>y.var.data.toList++61::y.t.gL
 |.kn t=>43::t.gL
def mD.ok:mD->Prop
 |.num n=>n<100
 |.wF y=>isName y.var=true/\y.t.fe=true
 |.kn t=>t.fe=true
def wG(l:List pF):List mD:=l.flatMap λq=>.num q.gq::q.b.map .wF
def XO(x:jZ):List mD:=wG x.aS++x.bH.map .kn
def rX(l:List mD):List UInt8:=l.flatMap λy=>y.txt++[10]
theorem MB(l m:List mD):rX (l++m)=rX l++rX m:=jw ..
theorem Sg(b:List Bd):aT.pG b=rX (b.map .wF):=by
 unfold aT.pG rX;rw[List.flatMap_map];congr 1;funext y;show _=(y.var.data.toList++61::y.t.gL)++[10];simp
theorem Sk(l:List pF):aT.uJ l=rX (wG l):=by
 induction l with
 |nil=>rfl
 |cons q r a=>
  show(aT.itoa q.gq++10::aT.pG q.b)++aT.uJ r=rX ((.num q.gq::q.b.map .wF)++wG r);rw[MB,a,Sg];show _=((aT.itoa q.gq++[10])++rX (q.b.map .wF))++rX (wG r);simp
theorem Si(l:List T):aT.rU l=rX (l.map .kn):=by
 unfold aT.rU rX;rw[List.flatMap_map];rfl
theorem JW(x:jZ):aT.iU x=rX (XO x):=by
 unfold aT.iU XO;rw[MB,Sk,Si]
theorem G9:((List.range 100).all λn=>(aT.itoa n).all (λc=>NP c&&c != 45)&&(List.range 100).all λm=>!decide (aT.itoa n=aT.itoa m)||decide (n=m))=true:=by kernel_rfl
theorem Mh{n:Nat}(h:n<100):∀c∈aT.itoa n,NP c=true:=λc a=>by
 have:=cz.1 G9 n (dU.2 h);rw[ai]at this;exact(aP.1 (cz.1 this.1 c a)).1
theorem Mf{n m:Nat}(h:n<100)(h':m<100)(e:aT.itoa n=aT.itoa m):n=m:=by
 have:=cz.1 G9 n (dU.2 h);rw[ai]at this;have:=cz.1 this.2 m (dU.2 h');rw[aQ e]at this;simpa using this
theorem KU:NP 10=false:=by decide
theorem KW:NP 61=false:=by decide
theorem KV:NP 43=false:=by decide
theorem PV{y:mD}(h:y.ok):∀c∈y.txt,c≠10:=by
 intro c a e;subst e;cases y with
 |num n=>have:=Mh h _ a;simp[KU]at this
 |wF y=>
  rcases aU.1 a with a|a;·have:=Dk h.1 _ a;simp[KU]at this
  ·rcases bL.1 a with a|a;·exact absurd a (by decide)
   ·have:=DZ _ (mq h.2) _ a;simp[KU]at this
 |kn t=>
  rcases bL.1 a with a|a;·exact absurd a (by decide)
  ·have:=DZ _ (mq h) _ a;simp[KU]at this
theorem Kg{c:UInt8}:∀{a b a' b':List UInt8},(∀x∈a,x≠c)->(∀x∈a',x≠c)->a++c::b=a'++c::b'->a=a'/\b=b'
 |[],_,[],_,_,_,h=>⟨rfl,by simpa using h⟩
 |[],_,x::r,_,_,h',h=>by
  injection h with h _;exact absurd h.symm (h' x (by simp))
 |x::r,_,[],_,d,_,h=>by
  injection h with h _;exact absurd h (d x (by simp))
 |x::r,b,k::l,b',d,e,h=>by
  injection h with f g;obtain⟨i,j⟩:=Kg (λy hy=>d y (bq _ hy)) (λy hy=>e y (bq _ hy)) g;exact⟨by rw[f,i],j⟩
theorem NB{t u:T}(h:t.fe=true)(h':u.fe=true)(e:t.gL=u.gL):t=u:=key_inj h h' (by unfold key;rw[aI h,aI h',e])
theorem XN{y z:mD}(h:y.ok)(h':z.ok)(e:y.txt=z.txt):y=z:=by
 have g:∀{n:Nat} {c:UInt8},n<100->NP c=false->c∉aT.itoa n:=λk i l=>(by have:=Mh k _ l;rw[i]at this;cases this);have nm:∀{s:ByteArray} {c:UInt8},isName s=true->NP c=false->∀x∈s.data.toList,x≠c:=λo i x p e=>(by subst e;have:=Dk o _ p;rw[i]at this;cases this);cases y with
 |num n=>
  cases z with
  |num m=>rw[Mf h h' e]
  |wF b=>exact absurd (by rw[show aT.itoa n=_ from e];show(61:UInt8)∈b.var.data.toList++61::b.t.gL;simp) (g h KW)
  |kn t=>exact absurd (by rw[show aT.itoa n=_ from e];show(43:UInt8)∈43::t.gL;simp) (g h KV)
 |wF a=>
  cases z with
  |num m=>exact absurd (by rw[show aT.itoa m=_ from e.symm];show(61:UInt8)∈a.var.data.toList++61::a.t.gL;simp) (g h' KW)
  |wF b=>
   obtain⟨q,v⟩:=Kg (nm h.1 KW) (nm h'.1 KW) (show a.var.data.toList++61::a.t.gL=b.var.data.toList++61::b.t.gL from e);obtain⟨j,w⟩:=a;obtain⟨bv,A⟩:=b;obtain rfl:w=A:=NB h.2 h'.2 v;obtain rfl:j=bv:=by
    cases j with
    |mk x=>
     cases bv with
     |mk y=>exact bY ByteArray.mk (Array.toList_inj.1 q)
   rfl
  |kn t=>
   have d:a.var.data.toList++61::a.t.gL=43::t.gL:=e;cases f:a.var.data.toList with
   |nil=>rw[f]at d;injection d with d _;exact absurd d (by decide)
   |cons x r=>rw[f]at d;injection d with d _;exact absurd d (nm h.1 KV x (by rw[f];simp))
 |kn t=>
  cases z with
  |num m=>exact absurd (by rw[show aT.itoa m=_ from e.symm];show(43:UInt8)∈43::t.gL;simp) (g h' KV)
  |wF b=>
   have d:b.var.data.toList++61::b.t.gL=43::t.gL:=e.symm;cases f:b.var.data.toList with
   |nil=>rw[f]at d;injection d with d _;exact absurd d (by decide)
   |cons x r=>rw[f]at d;injection d with d _;exact absurd d (nm h'.1 KV x (by rw[f];simp))
  |kn u=>
   injection (show 43::t.gL=43::u.gL from e)with _ e;rw[NB h h' e]
theorem PX:∀{l m:List mD},(∀y∈l,y.ok)->(∀y∈m,y.ok)->rX l=rX m->l=m
 |[],[],_,_,_=>rfl
 |[],y::r,_,_,e=>by
  have:rX (y::r)=(y.txt++[10])++rX r:=rfl;rw[this]at e;have:=bY List.length e;simp[rX]at this
 |y::r,[],_,_,e=>by
  have:rX (y::r)=(y.txt++[10])++rX r:=rfl;rw[this]at e;have:=bY List.length e;simp[rX]at this
 |y::r,z::q,h,h',e=>by
  have d:y.txt++10::rX r=z.txt++10::rX q:=by
   have a:rX (y::r)=y.txt++10::rX r:=(by show(y.txt++[10])++rX r=_;simp);have b:rX (z::q)=z.txt++10::rX q:=(by show(z.txt++[10])++rX q=_;simp);rw[<-a,<-b];exact e
  obtain⟨a,b⟩:=Kg (PV (h y (by simp))) (PV (h' z (by simp))) d;rw[XN (h y (by simp)) (h' z (by simp)) a,PX (λx c=>h x (bq _ c)) (λx c=>h' x (bq _ c)) b]
theorem PE:∀{b c:List Bd} {l m:List mD},(∀x∈l.head?,∀y,x≠.wF y)->(∀x∈m.head?,∀y,x≠.wF y)->b.map mD.wF++l=c.map mD.wF++m->b=c/\l=m
 |[],[],_,_,_,_,e=>⟨rfl,by simpa using e⟩
 |[],z::r,l,m,h,_,e=>by
  have a:l=.wF z::(r.map mD.wF++m):=e;exact absurd rfl (h (.wF z) (by rw[a];rfl) z)
 |z::r,[],l,m,_,h,e=>by
  have a:m=.wF z::(r.map mD.wF++l):=e.symm;exact absurd rfl (h (.wF z) (by rw[a];rfl) z)
 |y::b,z::c,l,m,h,h',e=>by
  have a:mD.wF y::(b.map mD.wF++l)=.wF z::(c.map mD.wF++m):=e;injection a with d f;injection d with d;obtain⟨g,i⟩:=PE h h' f;exact⟨by rw[d,g],i⟩
theorem VE(K:List T):∀x∈(K.map mD.kn).head?,∀y,x≠.wF y:=λx a y e=>by
 subst e;cases K with
 |nil=>cases a
 |cons t r=>simp at a
theorem LX(l:List pF)(K:List T):∀x∈(wG l++K.map mD.kn).head?,∀y,x≠.wF y:=by
 cases l with
 |nil=>exact VE K
 |cons q r=>
  intro x a y e;subst e;have:(wG (q::r)++K.map mD.kn).head?=some (.num q.gq):=rfl;rw[this]at a;simp at a
theorem TG:∀{K L:List T},K.map mD.kn=L.map mD.kn->K=L
 |[],[],_=>rfl
 |[],_::_,e=>by simp at e
 |_::_,[],e=>by simp at e
 |t::r,u::q,e=>by
  simp only[gP,y8,mD.kn.injEq]at e;rw[e.1,TG e.2]
theorem MC:∀{l m:List pF} {K L:List T},wG l++K.map mD.kn=wG m++L.map mD.kn->l=m/\K=L
 |[],[],K,L,e=>⟨rfl,TG e⟩
 |[],q::r,K,L,e=>by
  have a:K.map mD.kn=.num q.gq::(q.b.map mD.wF++wG r++L.map mD.kn):=by
   have:wG (q::r)=.num q.gq::(q.b.map mD.wF++wG r):=rfl;rw[this]at e;simpa[wG]using e
  cases K<;>simp at a
 |q::r,[],K,L,e=>by
  have a:L.map mD.kn=.num q.gq::(q.b.map mD.wF++wG r++K.map mD.kn):=by
   have:wG (q::r)=.num q.gq::(q.b.map mD.wF++wG r):=rfl;rw[this]at e;simpa[wG]using e.symm
  cases L<;>simp at a
 |q::l,p::m,K,L,e=>by
  have d:wG (q::l)++K.map mD.kn=.num q.gq::(q.b.map mD.wF++(wG l++K.map mD.kn)):=by
   show(.num q.gq::q.b.map mD.wF++wG l)++_=_;simp
  have f:wG (p::m)++L.map mD.kn=.num p.gq::(p.b.map mD.wF++(wG m++L.map mD.kn)):=by
   show(.num p.gq::p.b.map mD.wF++wG m)++_=_;simp
  rw[d,f]at e;injection e with c g;injection c with c;obtain⟨h,i⟩:=PE (LX l K) (LX m L) g;obtain⟨j,k⟩:=MC i;refine⟨?_,k⟩;rw[j];obtain⟨n,o⟩:=q;obtain⟨s,t⟩:=p;obtain rfl:n=s:=c;obtain rfl:o=t:=h;rfl
def pF.ok(q:pF):Prop:=q.gq<100/\∀y∈q.b,isName y.var=true/\y.t.fe=true
structure jZ.Ok (x:jZ):Prop where
 aS:∀q∈x.aS,q.ok
 bH:∀t∈x.bH,t.fe=true
theorem PW{x:jZ}(h:x.Ok):∀y∈XO x,y.ok:=by
 intro y hy;rcases aU.1 hy with hy|hy
 ·obtain⟨q,a,hy⟩:=oW.1 hy;rcases bL.1 hy with rfl|hy;·exact(h.aS q a).1
  ·obtain⟨z,b,rfl⟩:=dB.1 hy;exact(h.aS q a).2 z b
 ·obtain⟨t,c,rfl⟩:=dB.1 hy;exact h.bH t c
theorem Sl{x y:jZ}(h:x.Ok)(h':y.Ok)(e:aT.iU x=aT.iU y):x=y:=by
 rw[JW,JW]at e;obtain⟨f,g⟩:=MC (PX (PW h) (PW h') e);obtain⟨a,b⟩:=x;obtain⟨c,d⟩:=y;obtain rfl:a=c:=f;obtain rfl:b=d:=g;rfl
end
end Go.Proofs.YtaciciokmpbkkaaGreatDoor
