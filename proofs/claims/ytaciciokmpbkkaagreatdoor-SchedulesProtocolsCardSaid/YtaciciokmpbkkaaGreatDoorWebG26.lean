import Derived.Test.YtaciciokmpbkkaaGreatDoorShelfD
import Derived.Test.YtaciciokmpbkkaaGreatDoorWebG25
import Derived.Test.YtaciciokmpbkkaaGreatDoorShelfR
set_option maxRecDepth 100000
set_option maxHeartbeats 16000000
namespace Go.Proofs.YtaciciokmpbkkaaGreatDoor
section
open Go.Shelf Go.RowKit
theorem TA:(Tryz.prog.info? 137).map (·.size)=some 2:=by kernel_rfl
theorem Tz:liesAt Tryz.prog Tryz.prog.depth 137 (2 / Tryz.prog.cellsOf 137) 0 137 1=true:=by kernel_rfl
theorem Rc:(Tryz.prog.info? 5).map (λi=>(i.zero,i.size,i.bytes))=some (some (.int .u8 0),1,1):=by kernel_rfl
theorem Po(B b:Nat)(a:List Value)(w:World)(h:Lib.IsBuilder 137 5 B b a w):
 Calls Tryz.prog 136 #[.pointer (some ⟨b,0,none⟩)] w λe w'=>e=.returned (.tuple #[])/\(Lib.BuilderAt 137 5 B b (.pointer (some ⟨b,0,none⟩)) a w'/\Below B w w'/\∀k,k≠b->w'.heap[k]?=w.heap[k]?):=by
 obtain⟨j,hj,d⟩:=nC.1 TA;rcases h with h|h
 ·have h0:=h.cell0;have c:=h.shape;have g:=h.frozen0;have H:=aa h;clear h;go_enter Tryz.func136,Tryz.ntmps136;go_wp2;rw[Lib.run_to_unsafe w ⟨b,0,none⟩ nI vS hj (by rw[d];decide) c (Nat.zero_lt_succ 1)];simp only[Result.andThen];rw[zi];go_wp2;rw[run_callFunc_extern Tryz.func172 aas aas aas (e:=Extern.AbiNoEscape.same) (by kernel_rfl)];rw[Lib.run_noEscape];simp only[Result.andThen];rw[zi];go_wp2;rw[Lib.run_from_unsafe w ⟨b,0,none⟩ vS nI hj c Tz];simp only[Result.andThen];rw[zi];go_wp2;go_end0;exact⟨rfl,H.o.used _,(aC B w).setCell (p:=⟨b,0,none⟩) H.o.1 _,λk f=>aL _ _ _ _ f⟩
 ·have h0:=h.cell0;have H:=aa h;clear h;go_enter Tryz.func136,Tryz.ntmps136;go_wp2;rw[Lib.run_neq_ptr_same w _ nI hj];go_wp2;go_end0;exact⟨rfl,H.o,aC B _,λ_ _=>rfl⟩
theorem Lj(B b:Nat)(a:List Value)(s:ByteArray)(w:World)(h:Lib.IsBuilder 137 5 B b a w)(L:a.length+s.size<=140737488355328)(M:B<=w.heap.size):
 Calls Tryz.prog 93 #[.pointer (some ⟨b,0,none⟩),.string s] w λe w'=>e=.returned (.tuple #[.int .i64 s.size,.nilIface])/\(Lib.BuilderAt 137 5 B b (.pointer (some ⟨b,0,none⟩)) (a++Lib.strCells s) w'/\Below B w w'/\∀k cs ty q,k≠b->w.heap[k]?=some (.cells cs ty q)->ty≠5->w'.heap[k]?=w.heap[k]?):=by
 obtain⟨z,hi,A,C,D⟩:=dU Rc;go_enter Tryz.func93,Tryz.ntmps93;go_wp2_with fail;refine(Po B b a _ h).m ?_;rintro e w1 ⟨rfl,d,c⟩;obtain⟨c,E⟩:=c;obtain⟨r,v,f,m,F⟩:=d;have c0:w1.cell? ⟨b,0,none⟩=some (.pointer (some ⟨b,0,none⟩)):=(by rw[sI f];rfl);have c1:w1.cell? ⟨b,1,none⟩=some v:=(by rw[sI f];rfl);go_wp2_with (at_builtin;refine Lib.wpList_append_own_string _ rfl _ _ 135 9 rfl B 5 z qp ig hi A C D _ _ _ rfl m s rfl ?c3 ?c4 ?c5 ?_);case c3=>unfold maxLen;omega
 case c4=>omega
 case c5=>have:=c.size;omega
 intro G i t n _;have H:b<w1.heap.size:=by
  rcases bX b w1.heap.size with h'|h';·exact h'
  ·simp[Array.getElem?_eq_none h']at f
 have j:i.heap[b]?=some (.cells #[.pointer (some ⟨b,0,none⟩),v] 137 (0,0)):=by
  rw[n.block b H (λe=>F e.symm)];exact f
 have d0:i.cell? ⟨b,0,none⟩=some (.pointer (some ⟨b,0,none⟩)):=(by rw[sI j];rfl);have d1:i.cell? ⟨b,1,none⟩=some v:=(by rw[sI j];rfl);have f1:i.frozen? ⟨b,1,none⟩=false:=Lib.frozen_of_heap j 1;obtain⟨u,x,cap,rfl⟩:∃u x cap,G=.slice u x cap:=by
  rcases t.2 with⟨o,_⟩|⟨g,cap,N,o,_⟩;·exact⟨_,_,_,o⟩
  ·exact⟨_,_,_,o⟩
 go_wp2;go_ret2;refine⟨rfl,?_,?_,λk cs ty q l I J=>?_⟩;·exact Lib.BuilderAt.put (T:=137) (e:=5) r j (bs':=a++Lib.strCells s) (by simpa[Lib.strCells_length]using t) aat
 ·exact(c.grown n (aaz c.size) (λk l=>(m.lt k l).1)).setCell (p:=⟨b,1,none⟩) r _
 ·have d:=E k l;have y:=d.t I;have K:k<w1.heap.size:=(aW.1 y).1;exact(aL _ _ _ _ l).t ((n.block k K (λe=>Lib.ownBlock_ne m y J e.symm)).t d)
end
section
open Go.RowKit T
attribute [local go_sem ↓] Go.wp_at_zero Go.wp_at_succ
theorem xz{α β:Type}(f:α->List β)(l:List α)(j:Nat):((l.take j).flatMap f).length<=(l.flatMap f).length:=by
 have e:l.flatMap f=(l.take j).flatMap f++(l.drop j).flatMap f:=(by rw[<-jA,lN]);rw[e,aF];omega
theorem uF{α β:Type}(f:α->List β)(l:List α){j:Nat}(h:j<l.length):(l.take (j+1)).flatMap f=(l.take j).flatMap f++f l[j]:=by
 rw[aZ h,jA,ma,xL,dK]
def Ta(B:Nat)(l:List UInt8)(w:World):Prop:=Lib.IsBuilder 137 5 B B (Lib.byteCells l) w
theorem Ta.ag{B:Nat}{l:List UInt8}{w w':World}(h:Ta B l w)(hb:Below w.heap.size w w'):Ta B l w':=by
 have key:∀p,Lib.BuilderAt 137 5 B B p (Lib.byteCells l) w->Lib.BuilderAt 137 5 B B p (Lib.byteCells l) w':=λp k=>by
  have a:=k.lt;obtain⟨b,v,c,d,e⟩:=k;exact⟨b,v,(hb.block B a).t c,dG d hb,e⟩
 exact h.imp (key _) (key _)
theorem Ta.lt{B:Nat}{l:List UInt8}{w:World}(h:Ta B l w):B<w.heap.size:=h.elim Lib.BuilderAt.lt Lib.BuilderAt.lt
theorem QC(B:Nat)(l:List UInt8)(s:ByteArray)(w:World)(h:Ta B l w)(k:l.length+s.size<=1099511627776)(b:B<=w.heap.size):
 Calls Tryz.prog 93 #[.pointer (some ⟨B,0,none⟩),.string s] w λe w'=>e=.returned (.tuple #[.int .i64 s.size,.nilIface])/\Ta B (l++s.data.toList) w'/\Below B w w'/\∀g ty xs,g≠B->gU w g ty xs->ty≠5->gU w' g ty xs:=by
 refine(Lj B B (Lib.byteCells l) s w h (by rw[Lib.byteCells_length];omega) b).m ?_;rintro e w' ⟨rfl,c,d,f⟩;refine⟨rfl,.inr ?_,d,λg ty xs i a j=>(f g _ _ _ i a j).t a⟩;have e:Lib.byteCells (l++s.data.toList)=Lib.byteCells l++Lib.strCells s:=(by rw[Lib.strCells_eq];unfold Lib.byteCells;rw[gG]);rw[e];exact c
theorem nQ(a b:ByteArray):(a++b).data.toList=a.data.toList++b.data.toList:=by simp
theorem nT(a:ByteArray):a.size=a.data.toList.length:=by rw[kY];rfl
theorem Mc(l:List UInt8):(⟨l.toArray⟩:ByteArray).data.toList=l:=by simp
theorem Ze(x:jf)(vx:Value)(w:World)(hx:mV ku w vx x)(bZ:∀q∈x.aO,q.fF<100)(hb:∀q∈x.aO,q.b.length<=1048576/\∀y∈q.b,y.t.eZ=true/\y.var.size<=64)(hk:∀t∈x.bF,t.eZ=true)
 (dP:x.aO.length<=1048576) (Z:x.bF.length<=1048576) (cu:(aQ.iT x).length<=1099511627776):
 Calls Tryz.prog 46 #[vx] w λe w'=>e=.returned (.string ⟨(aQ.iT x).toArray⟩)/\Below w.heap.size w w':=by
 obtain⟨Ax,cx,Bx,dx,rfl,cz,cB⟩:=hx;have M:=ae w (.cells #[.slice Ax x.aO.length cx,.slice Bx x.bF.length dx] 35);have af:=gU.new w [.slice Ax x.aO.length cx,.slice Bx x.bF.length dx] 35;have aD:=aK w (.cells #[.slice Ax x.aO.length cx,.slice Bx x.bF.length dx] 35);change gU (w.alloc (.cells #[.slice Ax x.aO.length cx,.slice Bx x.bF.length dx] 35)) w.heap.size _ _ at af;obtain⟨ah,av⟩:=aab (cz.ag M) (cB.ag M);obtain⟨n,hn⟩:=aay x.aO.length;obtain⟨kn,bE⟩:=aay x.bF.length;obtain⟨HN,HK,dR,HB,dS,HLEN⟩:=aaf hn bE bZ hb hk cu;rw[hn]at dP af M aD ah av⊢;rw[bE]at Z af M aD ah av⊢;clear cz cB hn bE bZ hb hk cu;go_enter Tryz.func46,Tryz.ntmps46;go_upto_region 2 with fail;generalize w.alloc _=C at af M aD ah av⊢;have aH:=ae C (.cells #[.pointer none,.slice none 0 0] 137);have bB:=gU.new C [.pointer none,.slice none 0 0] 137;obtain⟨B,hB⟩:=aay C.heap.size;have cK:w.heap.size<B:=aar;rw[<-aD,hB];rw[hB]at bB aH;change gU (C.alloc (.cells #[.pointer none,.slice none 0 0] 137)) B _ _ at bB;have bf:=af.ag (aH.m aar);have cO:=aa (show Ta B [] (C.alloc (.cells #[.pointer none,.slice none 0 0] 137))from .inl ⟨ax _,_,bB,gV _ _ _ _,by intro e;cases e⟩);generalize C.alloc _=w2 at aH bf cO⊢;have ah:=aa ((jU.low ah.o).aR (S':=jT B) (w':=C) λb hb _=>⟨by rw[<-hB];exact hb,rfl⟩);have av:=aa ((jU.low av.o).aR (S':=jT B) (w':=C) λb hb _=>⟨by rw[<-hB];exact hb,rfl⟩);obtain⟨cZ,dU,dV,df,bi⟩:=aae aH (M.m (ax _)) hB bf cK;obtain⟨z0,z1,_,_⟩:=bf.two;obtain⟨q0,bH⟩:=aay w.heap.size;rw[bH]at z0 z1 df bi⊢;have HQ:=aa bH;clear af bf bB M aH aD hB cK bH z1;go_upto_region 3 with fail;go_loopw [13] (λv wr=>∃j:Nat,j<=n/\v=.int .i64 j/\Ta B (aQ.uP (x.aO.take j)) wr/\Below B C wr) (λv _=>n-(intOf v).toNat);case atStart=>exact⟨0,aT _,rfl,cO.o,cZ.o⟩
 case round=>
  obtain⟨j,hj,rfl,c,f⟩:=hrel;have dh:B<=wr.heap.size:=(aaA dV.o f.size);by_cases N:j<n
  ·have D:j<x.aO.length:=(by rw[HN.o];exact N);obtain⟨b1,o1,vB,hA,e0,e1,aL,-⟩:=jU.stand (jU.aR ah.o (S':=jT B) (w':=wr) λb hb _=>⟨hb,f.block b (ak hb)⟩) D;subst hA;have H:=dR.o _ (aP D);obtain⟨J,bI⟩:=HB.o _ (aP D);have aM:aQ.uP (x.aO.take (j+1))=aQ.uP (x.aO.take j)++(aQ.itoa (x.aO[j]).fF++10::aQ.pK (x.aO[j]).b):=uF _ _ D;have bn:=xz (λq:oD=>aQ.itoa q.fF++10::aQ.pK q.b) x.aO (j+1);change(aQ.uP (x.aO.take (j+1))).length<=(aQ.uP x.aO).length at bn;have dm:(aQ.uP x.aO).length<=1099511627776:=(by have:=HLEN.o;unfold aQ.iT at this;rw[aF]at this;omega);obtain⟨q,hq⟩:=aay (x.aO[j]);rw[hq]at e0 aL H J bI aM;obtain⟨Ab,cb,rfl,dW,fw⟩:=aL.Gh.shape;obtain⟨m,hm⟩:=aay q.b.length;rw[hm]at e1 aL J dW;have HM:=aa hm;obtain⟨l1,dn⟩:=aay (aQ.uP (x.aO.take j));rw[dn]at c aM;rw[aM]at bn;have bJ:=aa aM;have bq:(l1++(aQ.itoa q.fF++10::aQ.pK q.b)).length<=1099511627776:=aG bn dm;obtain⟨fF,dw⟩:=aay q.fF;rw[dw]at e0 H bq bJ;obtain⟨I,hI⟩:∃I:ByteArray,(⟨(Lib.decDigits fF).toArray⟩:ByteArray)=I:=⟨_,rfl⟩;have aN:I.data.toList=aQ.itoa fF:=(by rw[<-hI];exact Mc _);have fB:I.size<=2:=(by have h2:=Ic H;rw[<-aN,kY]at h2;exact h2);have dz:=aa (λW=>Tryz.strconv_Itoa_small fF H W);rw[hI]at dz;have r:=ae wr (.cells #[.int .i64 fF,.slice Ab m cb] 72);have bx:=gU.new wr [.int .i64 fF,.slice Ab m cb] 72;obtain⟨bK,dA,dB,dE,fD,dX,dY,dF,HG⟩:=aai (c.ag r) (f.t (r.m dh)) N (aL.aR (S':=jT B) λb hb hl=>⟨hb,r.block b hl⟩) aN J bI bq c.lt;have dZ:=aa (show l1.length+(I++(⟨#[10]⟩:ByteArray)).size<=1099511627776 by rw[nT,nQ,aN];simp only[aF,bg]at bq⊢;simp;omega);have d9:=aa (show(I++(⟨#[10]⟩:ByteArray)).data.toList=aQ.itoa fF++[10] by rw[nQ,aN]);have hi:(j:Int)<(n:Int):=aar;clear hm c f aL H J bI aM bn dm hq dn bq dw hI aN r D N hj dh;go_upto_region 5 with fail;generalize wr.alloc _=w3 at bx bK dA dE⊢;obtain⟨g5,dG⟩:=aay wr.heap.size;rw[dG]at bx HG⊢;clear e0 e1 dG;obtain⟨y0,y1,_,_⟩:=bx.two;have ed:=aa bx;have fG:I.size+1<=9223372036854775807:=aar;clear bx;have bu:=aa (λl s W h1 h2 h3=>QC B l s W h1 h2 h3);go_wp2_with fail;refine(dz.o _).m ?_;rintro e w4 ⟨rfl,rfl⟩;go_wp2_with fail;refine(bu.o l1 _ _ bK.o dZ.o (aaA HG.o bK.o.lt)).m ?_;rintro e w4 ⟨rfl,bL,bM,dH⟩;rw[d9.o]at bL;have dI:=dH g5 _ _ (aaz HG.o) ed.o aat;obtain⟨dJ,ek,eu⟩:=aac bL (dA.o.t bM) (dE.o.aR (S':=jT B) λb hb _=>⟨hb,bM.block b (ak hb)⟩);clear y0 y1 bL bM dH;obtain⟨y0,y1,_,_⟩:=dI.two;clear dI y0;go_upto_region 7 with fail;obtain⟨O,bN⟩:=aay (l1++(aQ.itoa fF++[10]));have eB:=aa (show l1++(aQ.itoa fF++10::aQ.pK q.b)=O++aQ.pK q.b by rw[<-bN];simp);rw[bN]at dJ;rw[eB.o]at dF bJ;clear bN;have fH:(m:Int)<=1048576:=(aaz dX.o);go_loopw [25] (λv aS=>∃i:Nat,i<=m/\v=.int .i64 i/\Ta B (O++aQ.pK (q.b.take i)) aS/\Below B w4 aS) (λv _=>m-(intOf v).toNat);case atStart=>exact⟨0,aT _,rfl,by have:=dJ.o;simpa[aQ.pK]using this,aC _ _⟩
   case round=>
    obtain⟨i,eF,rfl,c,f⟩:=hrel;by_cases bO:i<m
    ·have D:i<q.b.length:=(by rw[HM.o];exact bO);obtain⟨b2,o2,eG,bP,⟨h,o,rfl,P,bQ⟩,E⟩:=jU.get (eu.o.Gh.aR (S':=jT B) (w':=wr) λb hb _=>⟨hb,f.block b (ak hb)⟩) D;subst bP;have d0:=E 0 _ rfl;have d1:=E 1 _ rfl;have d2:=E 2 _ rfl;have d3:=E 3 _ rfl;have dK:LK.size=4:=rfl;rw[dK]at d0 d1 d2 d3;rw[fC]at d0;rw[<-gN]at d1 d2 d3;obtain⟨z,bR⟩:=dY.o _ (aP D);have Q:aQ.pK (q.b.take (i+1))=aQ.pK (q.b.take i)++((q.b[i]).var.data.toList++61::((q.b[i]).t.gK++[10])):=uF _ _ D;have aU:=xz (λy:Bd=>y.var.data.toList++61::(y.t.gK++[10])) q.b (i+1);change(aQ.pK (q.b.take (i+1))).length<=(aQ.pK q.b).length at aU;obtain⟨y,hy⟩:=aay (q.b[i]);rw[hy]at d0 d1 d2 d3 P bQ z bR Q;have aV:=dF.o;obtain⟨p,R⟩:=aay (O++aQ.pK (q.b.take i));have L:O++aQ.pK (q.b.take (i+1))=p++(y.var.data.toList++61::(y.t.gK++[10])):=(by rw[Q,<-R,dC]);have az:(p++(y.var.data.toList++61::(y.t.gK++[10]))).length<=1099511627776:=(by rw[<-L,aF];rw[aF]at aV;omega);rw[R]at c;obtain⟨d,U⟩:∃d:ByteArray,strOf y.t.gK=d:=⟨_,rfl⟩;have F:d.data.toList=y.t.gK:=(by rw[<-U];exact tK _);have aW:=za z;have eH:d.size<=2400:=(by rw[nT,F];exact aW);obtain⟨V,hV⟩:=aay y.var;rw[hV]at d0 bQ bR L az;have H:V.data.toList.length=V.size:=(nT V).symm;have J:d.size=y.t.gK.length:=(by rw[nT,F]);have bS:=aa (show p.length+((V++(⟨#[61]⟩:ByteArray))++d++(⟨#[10]⟩:ByteArray)).size<=1099511627776 by
      rw[iU,iU,iU];show p.length+(V.size+1+d.size+1)<=_;simp only[aF,bg,fE,H]at az;omega)
     have bT:=aa (show p++((V++(⟨#[61]⟩:ByteArray))++d++(⟨#[10]⟩:ByteArray)).data.toList=O++aQ.pK (q.b.take (i+1)) by rw[L,nQ,nQ,nQ,F];simp);have r:=ae wr (.cells #[.string V,.int .i64 y.t.aA,.string y.t.aI,.slice h y.t.ay.length o] 132);have u:=gU.new wr [.string V,.int .i64 y.t.aA,.string y.t.aI,.slice h y.t.ay.length o] 132;obtain⟨X,bv⟩:=aab (c.ag r) ((f.t (r.m (jo c.lt))));have aX:=aa (show ∀W,Below (wr.alloc (.cells #[.string V,.int .i64 y.t.aA,.string y.t.aI,.slice h y.t.ay.length o] 132)).heap.size (wr.alloc (.cells #[.string V,.int .i64 y.t.aA,.string y.t.aI,.slice h y.t.ay.length o] 132)) W->
      Calls Tryz.prog 95 #[.agg #[.int .i64 y.t.aA,.string y.t.aI,.slice h y.t.ay.length o]] W λe w'=>e=.returned (.string d)/\Below W.heap.size W w' from λW hW=>by
      have:=DV y.t (.agg #[.int .i64 y.t.aA,.string y.t.aI,.slice h y.t.ay.length o]) W ((P.at.ag r).ag hW) (aG (jD z) aat);rw[aJ z,U]at this;exact this)
     have eO:¬9223372036854775807<V.size+1:=aar;have eP:¬9223372036854775807<V.size+1+d.size:=aar;have fI:¬9223372036854775807<V.size+1+d.size+1:=aar;have aY:=aa bO;have bU:(i:Int)<(m:Int):=aar;clear H J E P bQ z bR Q aU hy aV R L az U F aW hV r c f D bO eF dK;go_upto_region 9 with fail;generalize wr.alloc _=A at u X bv aX⊢;generalize wr.heap.size=G at u⊢;clear d0 d1 d2 d3;have x0:=u.cell 0 rfl;have x1:=u.cell 1 rfl;have x2:=u.cell 2 rfl;have x3:=u.cell 3 rfl;clear u;have HC:=aa (show A.cell? ⟨G,0,none⟩=some (.string V)/\A.cell? ⟨G,1,none⟩=some (.int .i64 y.t.aA)/\A.cell? ⟨G,2,none⟩=some (.string y.t.aI)/\A.cell? ⟨G,3,none⟩=some (.slice h y.t.ay.length o)/\Below A.heap.size A A from⟨x0,x1,x2,x3,aC _ _⟩);clear x0 x1 x2 x3;refine fT (S:=(λWq=>Wq.cell? ⟨G,0,none⟩=some (.string V)/\Wq.cell? ⟨G,1,none⟩=some (.int .i64 y.t.aA)/\Wq.cell? ⟨G,2,none⟩=some (.string y.t.aI)/\Wq.cell? ⟨G,3,none⟩=some (.slice h y.t.ay.length o)/\Below A.heap.size A Wq)) (λi=>if [8].contains i then 2 else 0) aas (show _/\_/\_/\_/\_ from⟨HC.o.1,HC.o.2.1,HC.o.2.2.1,HC.o.2.2.2.1,(aC _ A).drew⟩) (λhHeld=>?_);refine fA 0 _ ?_;refine fA 1 _ ?_;refine fA 2 _ ?_;refine fA 3 _ ?_;refine fA 4 _ ?_;refine uO 5 λK hK=>?_;(go_simp;go_at_call 95;refine(aX.o _ hHeld.2.2.2.2).m ?_;rintro e w9 ⟨rfl,dL⟩;(try replace eQ:=aa (eQ.o.ag dL));refine mZ hK (gW HC.o (hHeld.2.2.2.2.t (dL.m hHeld.2.2.2.2.size))) λhHeld=>?_;clear hK K);refine fA 6 _ ?_;refine fA 7 _ ?_;refine yS 8 λK hK=>?_;((go_simp;go_at_call 93;refine(bu.o p _ _ (X.o.ag hHeld.2.2.2.2) bS.o (jo (X.o.ag hHeld.2.2.2.2).lt)).m ?_;rintro e eT ⟨rfl,Y,aZ,bV⟩);refine rY hK ?_;clear hK K);refine dD aas ?_ _;rw[bT.o]at Y;obtain⟨bW,bX⟩:=aab Y (((bv.o.t (hHeld.2.2.2.2.m (jo X.o.lt))).t aZ));clear Y aZ bV hHeld;go_wp2_with fail;go_roundw;case rel=>exact⟨i+1,aY.o,aaw,bW.o,bX.o⟩
     case measure=>exact aax aY.o
    ·obtain rfl:i=m:=aar;have bU:(i:Int)<=(i:Int):=il _;rw[bG (by rw[HM.o];exact ax _)]at c;rw[<-bJ.o]at c;obtain⟨aB,bA⟩:=aab c (ek.o.t f);clear c f;go_wp2_with fail;go_roundw;case rel=>exact⟨j+1,dB.o,aaw,aB.o,bA.o⟩
     case measure=>exact aax dB.o
  ·obtain rfl:j=n:=aar;have hi:(j:Int)<=(j:Int):=il _;rw[bG abg]at c;obtain⟨_,z1,_,_⟩:=(show gU wr q0 35 [.slice Ax j cx,.slice Bx kn dx]from(f.block q0 bi.o).t ((cZ.o.block q0 bi.o).symm.t df.o)).two;obtain⟨X,bv⟩:=aab c f;obtain⟨lS,bC⟩:=aay (aQ.uP x.aO);have eU:=aa (show(lS++aQ.rV x.bF).length<=1099511627776 from by have:=HLEN.o;unfold aQ.iT at this;rw[bC]at this;exact this);have eX:=aa (show aQ.iT x=lS++aQ.rV x.bF by unfold aQ.iT;rw[bC]);rw[bC]at X;obtain⟨wo,eY⟩:∃wo:World,wo=wr:=⟨_,rfl⟩;subst eY;have bu:=aa (λl s W h1 h2 h3=>QC B l s W h1 h2 h3);clear c f z0 bC;go_upto_region 13 with fail;go_loopw [43] (λv aS=>∃k:Nat,k<=kn/\v=.int .i64 k/\Ta B (lS++aQ.rV (x.bF.take k)) aS/\Below B C aS) (λv _=>kn-(intOf v).toNat);case atStart=>exact⟨0,aT _,rfl,by have:=X.o;simpa[aQ.rV]using this,bv.o⟩
   case round=>
    obtain⟨k,fe,rfl,c,f⟩:=hrel;by_cases N:k<kn
    ·have Z:k<x.bF.length:=(by rw[HK.o];exact N);obtain⟨b2,o2,eG,bP,⟨h,o,rfl,P⟩,E⟩:=jU.get (jU.aR av.o (S':=jT B) (w':=wr) λb hb _=>⟨hb,f.block b (ak hb)⟩) Z;subst bP;have d0:=E 0 _ rfl;have d1:=E 1 _ rfl;have d2:=E 2 _ rfl;have dM:oC.size=3:=rfl;rw[dM]at d0 d1 d2;rw[fC]at d0;rw[<-gN]at d1 d2;have z:=dS.o _ (aP Z);have Q:aQ.rV (x.bF.take (k+1))=aQ.rV (x.bF.take k)++(43::((x.bF[k]).gK++[10])):=uF _ _ Z;have aU:=xz (λt:T=>43::(t.gK++[10])) x.bF (k+1);change(aQ.rV (x.bF.take (k+1))).length<=(aQ.rV x.bF).length at aU;obtain⟨y,hy⟩:=aay (x.bF[k]);rw[hy]at d0 d1 d2 P z Q;have aV:=eU.o;obtain⟨p,R⟩:=aay (lS++aQ.rV (x.bF.take k));have L:lS++aQ.rV (x.bF.take (k+1))=p++(43::(y.gK++[10])):=(by rw[Q,<-R,dC]);have az:(p++(43::(y.gK++[10]))).length<=1099511627776:=(by rw[<-L,aF];rw[aF]at aV;omega);rw[R]at c;obtain⟨d,U⟩:∃d:ByteArray,strOf y.gK=d:=⟨_,rfl⟩;have F:d.data.toList=y.gK:=(by rw[<-U];exact tK _);have aW:=za z;have eH:d.size<=2400:=(by rw[nT,F];exact aW);have J:d.size=y.gK.length:=(by rw[nT,F]);have bS:=aa (show p.length+((⟨#[43]⟩:ByteArray)++d++(⟨#[10]⟩:ByteArray)).size<=1099511627776 by
      rw[iU,iU];show p.length+(1+d.size+1)<=_;simp only[aF,bg,fE]at az;omega)
     have bT:=aa (show p++((⟨#[43]⟩:ByteArray)++d++(⟨#[10]⟩:ByteArray)).data.toList=lS++aQ.rV (x.bF.take (k+1)) by rw[L,nQ,nQ,F];simp);have r:=ae wr (.cells #[.int .i64 y.aA,.string y.aI,.slice h y.ay.length o] 29);have u:=gU.new wr [.int .i64 y.aA,.string y.aI,.slice h y.ay.length o] 29;obtain⟨aB,bA⟩:=aab (c.ag r) ((f.t (r.m (jo c.lt))));have aX:=aa (show Calls Tryz.prog 95 #[.agg #[.int .i64 y.aA,.string y.aI,.slice h y.ay.length o]] (wr.alloc (.cells #[.int .i64 y.aA,.string y.aI,.slice h y.ay.length o] 29)) λe w'=>e=.returned (.string d)/\Below (wr.alloc (.cells #[.int .i64 y.aA,.string y.aI,.slice h y.ay.length o] 29)).heap.size (wr.alloc (.cells #[.int .i64 y.aA,.string y.aI,.slice h y.ay.length o] 29)) w' by
      have:=DV y (.agg #[.int .i64 y.aA,.string y.aI,.slice h y.ay.length o]) (wr.alloc (.cells #[.int .i64 y.aA,.string y.aI,.slice h y.ay.length o] 29)) (P.at.ag r) (aG (jD z) aat);rw[aJ z,U]at this;exact this)
     have eO:¬9223372036854775807<1+d.size:=aar;have eP:¬9223372036854775807<1+d.size+1:=aar;have aY:=aa N;have bU:(k:Int)<(kn:Int):=aar;clear J E P z Q aU hy aV R L az U F aW r c f Z N fe dM;go_upto_region 15 with fail;generalize wr.alloc _=A at u aB bA aX⊢;generalize wr.heap.size=G at u⊢;clear d0 d1 d2;have x1:=u.cell 0 rfl;have x2:=u.cell 1 rfl;have x3:=u.cell 2 rfl;clear u;go_wp2_with fail;refine aX.o.m ?_;rintro e w9 ⟨rfl,bD⟩;go_wp2_with fail;refine(bu.o p _ _ (aB.o.ag bD) bS.o (jo (aB.o.ag bD).lt)).m ?_;rintro e eT ⟨rfl,Y,aZ,bV⟩;rw[bT.o]at Y;obtain⟨bW,bX⟩:=aab Y (((bA.o.t (bD.m (jo aB.o.lt))).t aZ));clear Y aZ bV bD x1 x2 x3;go_wp2_with fail;go_roundw;case rel=>exact⟨k+1,aY.o,aaw,bW.o,bX.o⟩
     case measure=>exact aax aY.o
    ·obtain rfl:k=kn:=aar;have bU:(k:Int)<=(k:Int):=il _;rw[bG (by rw[HK.o];exact ax _),<-eX.o]at c;have dN:=aa (Tryz.Builder_String_any B B (aQ.iT x) wr c (jo c.lt));obtain⟨TX,bY⟩:∃TX:ByteArray,(⟨(aQ.iT x).toArray⟩:ByteArray)=TX:=⟨_,rfl⟩;rw[bY]at dN;obtain⟨fo,fq⟩:=aab f bY;clear c f bY z1;go_wp2_with fail;refine dN.o.m ?_;rintro e w6 ⟨rfl,dO⟩;have fu:=aa (fo.o.t dO);clear dO;go_wp2_with fail;go_ret;exact⟨by rw[fq.o];rfl,(dU.o.t (fu.o.m (aaA HQ.o bi.o)))⟩
end
section
open Go.RowKit T
structure Cf (x:jf):Prop where
 fF:∀q∈x.aO,q.fF<100
 b:∀q∈x.aO,q.b.length<=1048576/\∀y∈q.b,y.t.eZ=true/\y.var.size<=64
 bF:∀t∈x.bF,t.eZ=true
 sl:x.aO.length<=1048576
 kl:x.bF.length<=1048576
 len:(aQ.iT x).length<=1099511627776
theorem Mx{α β:Type}(f:α->List β){l:List α}{a:α}(h:a∈l):(f a).length<=(l.flatMap f).length:=by
 induction l with
 |nil=>cases h
 |cons b r c=>
  rw[ma,aF];rcases bM.1 h with rfl|h;·omega
  ·have:=c h;omega
theorem Cf.kn{x:jf}(h:Cf x):Cf ⟨[],x.bF⟩:=by
 refine⟨λq a=>absurd a eX,λq a=>absurd a eX,h.bF,aT _,h.kl,?_⟩;have b:=h.len;have e:aQ.iT ⟨[],x.bF⟩=aQ.rV x.bF:=rfl;rw[e];unfold aQ.iT at b;rw[aF]at b;omega
theorem Cf.one{x:jf}(h:Cf x){q:oD}(a:q∈x.aO):Cf ⟨[q],[]⟩:=by
 refine⟨λp c=>by rw[bD.1 c];exact h.fF q a,λp c=>by rw[bD.1 c];exact h.b q a,λt f=>absurd f eX,by show 1<=_;omega,aT _,?_⟩;have d:=h.len;have g:=Mx (λq:oD=>aQ.itoa q.fF++10::aQ.pK q.b) a;have e:(aQ.iT ⟨[q],[]⟩).length=(aQ.itoa q.fF++10::aQ.pK q.b).length:=(by simp[aQ.iT,aQ.uP,aQ.rV]);rw[e];unfold aQ.iT at d;rw[aF]at d;unfold aQ.uP at d;omega
theorem GG(x:jf)(a:Value)(w:World)(h:Cf x)(c:mV ku w a x):Calls Tryz.prog 46 #[a] w λe w'=>e=.returned (.string ⟨(aQ.iT x).toArray⟩)/\Below w.heap.size w w':=
 Ze x a w c h.fF h.b h.bF h.sl h.kl h.len
structure zl (s:List iN):Prop where
 sl:s.length<=16
 ml:∀st∈s,st.2.length<=16
 pat:∀st∈s,∀m∈st.2,m.2.bE<=1048576/\(vars m.2).length<=100000/\∀v∈vars m.2,v.size<=64
structure zP (s:List iN) (x:jf):Prop where
 fit:x.Fit s
 few:aQ.GJ s x
 Z4:Xi x
 kl:x.bF.length<=64
theorem zl.next{s:List iN}(a:zl s){x:jf}{i:Nat}{m:Int×T}(h:aQ.next s x i=some m):m.2.bE<=1048576/\(vars m.2).length<=100000/\∀v∈vars m.2,v.size<=64:=by
 obtain⟨st,q,b,_,c⟩:=kS h;exact a.pat st (dA b) m (dA c)
theorem zP.fF{s:List iN}{x:jf}(h:zP s x)(b:zl s):∀q∈x.aO,q.fF<=16:=λq c=>by
 obtain⟨i,hi,rfl⟩:=bL c;have a:i<s.length:=(by rw[<-h.fit.len];exact hi);have d:=h.fit.fF i _ _ (az hi) (az a);have e:=b.ml _ (aP a);omega
theorem zP.Qc{s:List iN}{x:jf}(h:zP s x)(d:zl s):∀q∈x.aO,q.b.length<=640/\∀y∈q.b,y.t.eZ=true/\y.t.bE<=800/\y.var.size<=64:=λq a=>by
 have e:=h.Z4 q a;have f:=h.fF d q a;refine⟨aar,λy hy=>?_⟩;have c:=qI (h.fit.b q a) y hy;have g:=Ni c.1;exact⟨T.ik c.2,jD (T.ik c.2),by rw[nT];omega⟩
theorem zP.ZI{s:List iN}{x:jf}(h:zP s x)(a:zl s):JA s x where
 fit:=h.fit
 few:=h.few
 Qc q b:=by
  obtain⟨f,c⟩:=h.Qc a q b;exact⟨aar,λy hy=>aaz ((c y hy).2.1)⟩
 pat i m d:=a.next d
 ml st e:=by have:=a.ml st e;omega
 sl:=by have:=a.sl;omega
theorem zP.txt{s:List iN}{x:jf}(h:zP s x)(a:zl s):Cf x where
 fF q c:=by have:=h.fF a q c;omega
 b q c:=by
   obtain⟨f,d⟩:=h.Qc a q c;exact⟨aar,λy hy=>⟨(d y hy).1,(d y hy).2.2⟩⟩
 bF t e:=T.ik (h.fit.bF t e)
 sl:=by have:=h.fit.len;have:=a.sl;omega
 kl:=by have:=h.kl;omega
 len:=by have:=SK h.fit h.Z4 a.ml a.sl h.kl;omega
theorem jU.one{α:Type}{E:El α}{S:Nat->Bool}{w:World}{b o n cap c:Nat}{L:List α}(h:jU E S w (.slice (some ⟨b,o,none⟩) n cap) L){i:Nat}(hi:i<L.length)(k:1<=c)(l:c<=maxLen):jU E S w (.slice (some ⟨b,o+i*E.size,none⟩) 1 c) [L[i]]:=by
 obtain⟨r,s,e,t,v,m⟩:=h;injection e with a x y;subst a;rcases m with h0|⟨b',z,dE,a,hS,d,p⟩;·omega
 ·injection a with a;injection a with a q;subst a;subst q;have f:i<dE.length:=(by rw[d.1];exact hi);refine⟨_,c,rfl,k,l,.inr ⟨b,o+i*E.size,[dE[i]],rfl,hS,El.all.push El.all.nil (d.2 i f hi),λj u hu=>?_⟩⟩;have g:dE[i][j]?=some u:=(by simpa using hu);have hj:j<E.size:=(by rw[<-E.len (d.2 i f hi)];exact(aU.1 g).1);have:=p (i*E.size+j) u (by rw[d.flat f hj];exact g);rw[gN];exact this
def xu(R:Option (Int×T))(ok:Bool)(mk k:Int)(nm:ByteArray)(A:Option Addr)(l c:Nat)(w:World):Prop:=match R with
 |none=>ok=false
 |some m=>ok=true/\mk=m.1/\k=m.2.aA/\nm=m.2.aI/\l=m.2.ay.length/\aS w (.agg #[.int .i64 k,.string nm,.slice A l c]) m.2
theorem Gz{R:Option (Int×T)}{a w:World}{e:Ending}{w':World}(h:xP R a w e w'):∃(mk k:Int) (nm:ByteArray) (A:Option Addr) (l c:Nat) (ok:Bool),e=.returned (.tuple #[.agg #[.int .i64 mk,.int .i64 k,.string nm,.slice A l c],.bool ok])/\Below w.heap.size w w'/\xu R ok mk k nm A l c a:=by
 obtain⟨hb,h⟩:=h;cases R with
 |none=>exact⟨_,_,_,_,_,_,_,h,hb,rfl⟩
 |some m=>
  obtain⟨A,c,e,b⟩:=h;exact⟨_,_,_,A,_,c,_,e,hb,rfl,rfl,rfl,rfl,rfl,b⟩
theorem xu.ag{R:Option (Int×T)}{ok:Bool}{mk k:Int}{nm:ByteArray}{A:Option Addr}{l c:Nat}{w w':World}(h:xu R ok mk k nm A l c w)(hb:Below w.heap.size w w'):xu R ok mk k nm A l c w':=by
 cases R with
 |none=>exact h
 |some m=>
  obtain⟨a,b,d,e,f,g⟩:=h;exact⟨a,b,d,e,f,g.ag hb⟩
theorem xu.none_{R:Option (Int×T)}{mk k:Int}{nm:ByteArray}{A:Option Addr}{l c:Nat}{w:World}(h:xu R false mk k nm A l c w):R=none:=by
 cases R with
 |none=>rfl
 |some m=>obtain⟨a,_⟩:=h;cases a
theorem xu.some_{R:Option (Int×T)}{mk k:Int}{nm:ByteArray}{A:Option Addr}{l c:Nat}{w:World}(h:xu R true mk k nm A l c w):∃m,R=some m/\mk=m.1/\k=m.2.aA/\nm=m.2.aI/\l=m.2.ay.length/\aS w (.agg #[.int .i64 k,.string nm,.slice A l c]) m.2:=by
 cases R with
 |none=>cases h
 |some m=>obtain⟨_,h⟩:=h;exact⟨m,rfl,h⟩
def YJ(R:Option (Int×T))(B:Nat)(w:World)(p a:Value):Prop:=∃(g:Nat) (mk k:Int) (nm:ByteArray) (A:Option Addr) (l c:Nat) (ok:Bool),p=.pointer (some ⟨g,0,none⟩)/\a=.bool ok/\B<=g/\gU w g 31 [.int .i64 mk,.int .i64 k,.string nm,.slice A l c]/\xu R ok mk k nm A l c w
def xo(v:Value):Nat->Bool:=λb=>!(v.ownBlock==some b)
theorem zb{v:Value}{b:Nat}:xo v b=true<->v.ownBlock≠some b:=by
 unfold xo;rw[bT,aD]
end
section
open Go.RowKit Go.Maps T
section
variable {X:Nat->Bool} {s:List iN} {sv:Value} {B g Mn Ma Mg N NA:Nat} {w w' w'':World} {fv Dx Rw:Value} {v:aQ.xH} {KS:List (List UInt8)}
theorem kN.look(h:kN X s sv B g Mn Ma Mg N NA w fv v KS)(k:ByteArray)(b:k.size<=maxLen):∃(A:Option Addr) (n c:Nat) (ok:Bool),(Instr.lookup 93 (.map (some Mg)) (.string k) true).run Tryz.prog w=.ok (.tuple #[.slice A n c,.bool ok]) w/\(ok=true->∃l,Tg s k.data.toList l/\jU oC (sx X g Mn Ma Mg fv) w (.slice A n c) l):=by
 obtain⟨n,F,d,m,f⟩:=h.bC;have a:=d.look_ok vX Tryz.underlying93 (z:=.slice none 0 0) (xR w) (Ih k b);cases hF:F (zZ k)with
 |none=>exact⟨none,0,0,false,by rw[a,hF];rfl,λe=>by cases e⟩
 |some u=>
  obtain⟨l,i,hi⟩:=f k u hF;obtain⟨A,c,rfl,j⟩:=hi;exact⟨A,_,c,true,by rw[a,hF];rfl,λ_=>⟨l,i,A,c,rfl,j⟩⟩
theorem kN.Xr(h:kN X s sv B g Mn Ma Mg N NA w fv v KS){i k:Nat}(hi:i<=1048576)(d:k<=1048576):∃(A:Option Addr) (n c:Nat),∀W,Below w.heap.size w W->(Instr.lookup 92 (.map (some Ma)) (.agg #[.int .i64 i,.int .i64 k]) true).run Tryz.prog W=.ok (.tuple #[.slice A n c,.bool (v.oo.lookup (i,k)).isSome]) W:=by
 obtain⟨n,F,f,o,j⟩:=h.oo;have b:=j i k hi d;cases a:v.oo.lookup (i,k)with
 |none=>
  rw[a]at b;refine⟨none,0,0,λW e=>?_⟩;have a:=(f.ag e).look_ok Ae om (z:=.slice none 0 0) (o8 W) (MS hi d);rw[a,b];rfl
 |some l=>
  rw[a]at b;obtain⟨u,m,A,c,rfl,_⟩:=b;refine⟨A,l.length,c,λW e=>?_⟩;have a:=(f.ag e).look_ok Ae om (z:=.slice none 0 0) (o8 W) (MS hi d);rw[a,m];rfl
theorem kN.Y3(h:kN X s sv B g Mn Ma Mg N NA w fv v KS)(k:ByteArray)(a:k.size<=maxLen):∃u,(Instr.lookup 91 (.map (some Mn)) (.string k) true).run Tryz.prog w=.ok (.tuple #[u,.bool (KS.any λq=>decide (q=k.data.toList))]) w:=by
 obtain⟨n,F,b,e,c⟩:=h.nums;have d:=b.look_ok vX oh (z:=.int .i64 0) (jk w) (Ih k a);exact⟨_,by rw[d,c]⟩
theorem Wx{base:Nat}{o:Value}{L:List mg}(h:fZ zG (uw g Mn Ma Mg fv) base w o L)(a:∀b,base<=b->uw g Mn Ma Mg fv b=true)(k:xG B g Mn Ma Mg w fv w' fv):fZ zG (uw g Mn Ma Mg fv) base w' o L:=
 h.aR λb hb c=>(k.aR b (hb.elim (λe=>e) (λe=>a b (h.block b e).1)) c).2
theorem xG.grown{own:Option Nat}(k:xG B g Mn Ma Mg w fv w' fv)(a:B<=w.heap.size)(c:w'.grownBy w'' own)(d:∀q,own=some q->w.heap.size<=q):xG B g Mn Ma Mg w fv w'' fv:=
 ⟨k.below.grown c (aG a k.below.size) (λq h=>aG a (d q h)),λb hb f=>by
   obtain⟨i,j⟩:=k.aR b hb f;exact⟨i,(c.block b (dw f k.below.size) (λe=>aaz (d b e.symm))).t j⟩⟩
theorem Li(A:Option Addr)(n c:Nat):(Value.slice A n c).ownBlock=A.map (·.block):=by cases A<;>rfl
theorem kN.app{ov DX:Value}{base:Nat}(h:kN (xo ov) s sv B g Mn Ma Mg N NA w fv v KS)(o:∀b,base<=b->uw g Mn Ma Mg fv b=true)(z:B<=base)(j:∀q,ov.ownBlock=some q->base<=q)(k:w.grownBy w' ov.ownBlock)(l:DX.ownBlock=ov.ownBlock\/DX.ownBlock=some w.heap.size)(hb:base<=w.heap.size)(p:∀q,DX.ownBlock=some q->q<w'.heap.size):
 kN (xo DX) s sv B g Mn Ma Mg N NA w' fv v KS/\∀b,sx (xo ov) g Mn Ma Mg fv b=true->b<w.heap.size->sx (xo DX) g Mn Ma Mg fv b=true/\w'.heap[b]?=w.heap[b]?:=by
 have m:∀b,xo ov b=true->b<w.heap.size->xo DX b=true/\w'.heap[b]?=w.heap[b]?:=λb n c=>by
  refine⟨zb.2 λe=>?_,k.block b c (λe=>zb.1 n e.symm)⟩;rcases l with d|d;·exact zb.1 n (d.symm.t e)
  ·rw[d]at e;injection e with e;omega
 have d:∀q,DX.ownBlock=some q->base<=q:=λq e=>by
  rcases l with f|f;·exact j q (f.symm.t e)
  ·rw[f]at e;injection e with e;omega
 have f:∀b,uw g Mn Ma Mg fv b=false->b<w.heap.size->w'.heap[b]?=w.heap[b]?:=λb a c=>k.block b c λe=>by
  rw[o b (j b e.symm)]at a;cases a
 have r:∀b,(b=g\/b=Mn\/b=Ma\/b=Mg\/fv.ownBlock=some b)->uw g Mn Ma Mg fv b=false:=λb hb=>by
  cases a:uw g Mn Ma Mg fv b with
  |false=>rfl
  |true=>
   obtain⟨_,t,a2,a3,a4,a5⟩:=nN.1 a;rcases hb with e|e|e|e|e;·exact absurd e t
   ·exact absurd e a2
   ·exact absurd e a3
   ·exact absurd e a4
   ·exact absurd e a5
 have u:∀b,(b=g\/b=Mn\/b=Ma\/b=Mg\/fv.ownBlock=some b)->b<w.heap.size:=λb hb=>by
  rcases hb with rfl|rfl|rfl|rfl|e;·exact h.box.lt
  ·exact h.nums.lt
  ·exact h.oo.lt
  ·exact h.bC.lt
  ·exact(h.jc.block b e).2
 refine⟨h.turn (λb a c=>m b (nN.1 a).1 c) (λb i=>f b (r b i) (u b i)) (λb i=>zb.2 λe=>aaz (p b e)) (λb i=>zb.2 λe=>aaz (d b e)),λb a c=>?_⟩;obtain⟨x,y⟩:=m b (nN.1 a).1 c;exact⟨nN.2 ⟨x,(nN.1 a).2⟩,y⟩
end
end
section
open Go.RowKit Go.Sort
def C4:Type:={ xs:List Value // xs.length=4/\∀u∈xs,u.oneCell'=true }
instance:Inhabited C4:=⟨⟨[.int .i64 0,.int .i64 0,.int .i64 0,.int .i64 0],rfl,λu hu=>by simp at hu;rw[hu];rfl⟩⟩
def C4.enc(x:C4):List Value:=x.1
theorem Rs(l:List C4){i r:Nat}(hi:i<l.length)(a:r<4):((l.map C4.enc).flatten)[i*4+r]?=(l[i].enc)[r]?:=by
 have:=Bv (l.map C4.enc) (λcs b=>by obtain⟨x,_,rfl⟩:=ek.1 b;exact x.2.1) i (by rw[bZ];exact hi) r a;rw[this,ic]
theorem JS:∀l:List C4,((l.map C4.enc).flatten).length=l.length*4
 |[]=>rfl
 |x::r=>by
  have a:x.enc.length=4:=x.2.1;rw[jH,gu,aF,JS r,bg,a];omega
theorem Hy(l:List C4):(flatK C4.enc 4 l.toArray).toList=(l.map C4.enc).flatten:=by
 apply qM;intro t;rcases bX t (l.length*4)with h|h
 ·have a:t<(flatK C4.enc 4 l.toArray).size:=(by rw[size_flatK];simpa using h);have hi:t / 4<l.length:=aar;have e:t / 4*4+t % 4=t:=aar;have b:=Rs l hi (show t % 4<4 by omega);rw[e]at b;rw[b,lL,fP a];have c:=get_flatK C4.enc 4 l.toArray t aaD;rw[iy _ t a]at c;rw[c,iy l.toArray (t / 4) aaP];have d:l[t / 4].enc.length=4:=l[t / 4].2.1;rw[az aaF];simp only[List.getElem_toArray];rw[iy _ _ aaF]
 ·rw[gD (by rw[kY,size_flatK];simpa using h),gD (by rw[JS];exact h)]
theorem UK{S:Nat->Bool}{base cap:Nat}{A:Option Addr}{L:List mg}(w:World)(h:fZ zG S base w (.slice A L.length cap) L)(h0:0<L.length)(X:L.length<=1048576):
 Calls Tryz.prog 139 #[.slice A L.length cap] w λe w'=>e=.returned (.tuple #[])/\fZ zG S base w' (.slice A L.length cap) L.reverse/\w.grownBy w' (Value.slice A L.length cap).ownBlock:=by
 obtain⟨dE,d,q⟩:=h;have r:=q;obtain⟨Y,Z|⟨g,aa,s,e,hb,J,t,K,m,M⟩⟩:=q;·omega
 ·injection e with N e2 O;subst N;subst O;have v:∀i:Fin dE.length,∃x:C4,x.enc=dE[i]:=λi=>⟨⟨dE[i],d.len _ (aP _),λu hu=>zG.one (d.2 i.1 i.2 (by rw[<-d.1];exact i.2)) u hu⟩,rfl⟩;obtain⟨c,y⟩:∃c:List C4,c=List.ofFn (λi:Fin dE.length=>(v i).choose):=⟨_,rfl⟩;have l:c.length=L.length:=(by rw[y,List.length_ofFn,d.1]);have z:c.map C4.enc=dE:=by
   apply sK;·rw[bZ,l,d.1]
   ·intro j h1 Q;rw[ic];subst y;rw[List.getElem_ofFn];exact(v ⟨j,Q⟩).choose_spec
  have B:=Hy c;rw[z]at B;have hH:HoldsK C4.enc 4 w g 0 c.toArray:=λj hj=>by
   rw[size_flatK]at hj;have R:j<L.length*4:=(by simpa[l]using hj);refine⟨?_,by rw[eP];exact r.frozenAt j⟩;rw[eP,r.cellAt j R,<-B,lL];have C:j<(flatK C4.enc 4 c.toArray).size:=(by rw[size_flatK];exact hj);rw[fP C,id,iy _ j C]
  have D:c.toArray.size=L.length:=(by simp[l]);have E:=AnyQ.slices_Reverse (P:=Tryz.prog) Tryz.Y2 4 (λw=>Tryz.isAgg61 w) (λw=>Tryz.sizeOf61 w) C4.enc (λx=>x.2.1) (λx=>x.2.2) g 0 cap c.toArray w hH (by rw[D];omega);rw[D]at E;refine E.m ?_;rintro e w' ⟨rfl,n,rfl⟩;have T:(putRowK C4.enc 4 (Sort.ahead w n) g 0 c.toArray.reverse).heap[g]?=some (.cells (putCells id 0 (flatK C4.enc 4 c.toArray.reverse) s) 61 (0,0)):=by
   show(w.heap.modify g _)[g]?=_;rw[dY,aJ rfl,J];rfl
  have F:∀k,k≠g->(putRowK C4.enc 4 (Sort.ahead w n) g 0 c.toArray.reverse).heap[k]?=w.heap[k]?:=λk o=>by
   show(w.heap.modify g _)[k]?=_;rw[dY,aH (jR o)]
  have G:c.toArray.reverse=c.reverse.toArray:=aau;have U:w.grownBy (putRowK C4.enc 4 (Sort.ahead w n) g 0 c.toArray.reverse) (some g):=⟨rfl,rfl,rfl,by rw[size_putRowK];exact ax _,λk _ o=>F k (λe=>o abf)⟩;have p:=Hy c.reverse;rw[List.map_reverse,z]at p;have H:dE.length=L.length:=d.1;refine⟨rfl,⟨dE.reverse,?_,?_⟩,U⟩
  ·refine El.all.aR (w:=w) (S:=off S (some g)) ⟨by rw[ib,ib,H],λi a b=>?_⟩ λb I ae=>⟨I,F b (λe=>(dL.1 I).2 abf)⟩;rw[zJ,zJ];have:=d.2 (dE.length-1-i) (by rw[ib]at a;omega) (by rw[ib]at a;omega);simp only[H]at this⊢;exact this
  ·rw[ib];have f:(flatK C4.enc 4 c.toArray.reverse).size=L.length*4:=(by rw[size_flatK];simp[l]);refine⟨?_,.inr ⟨g,cap,_,rfl,hb,T,t,K,?_,?_⟩⟩;·rw[<-p,kY,<-G];exact f
   ·unfold putCells;rw[Array.size_mapIdx];exact m
   ·have V:zG.size=4:=rfl;rw[V]at m M⊢;rw[<-p,<-G];apply qM;intro j;rw[gY];split
    ·rename_i hj;rw[lL,lL];have W:j<s.size:=(by rw[m];exact dw hj (iq 4 t));unfold putCells;rw[rZ,fP W,jL,aJ ⟨aT _,by rw[f];omega⟩,Nat.sub_zero,id,fP (by rw[f];exact hj),iy _ j (by rw[f];exact hj)]
    ·rename_i hj;rw[gD (by rw[kY,f];omega)]
end
section
open Go.RowKit T
attribute [local go_sem ↓] Go.wp_at_zero Go.wp_at_succ
theorem Iw{w:World}{base g:Nat}{ty:TypeId}{xs:List Value}{size:Nat}(h:gU w g ty xs)(a:xs.length=size)(hb:base<=g):w.ownsRow base ty size (.slice (some ⟨g,0,none⟩) 1 1) 1 xs:=by
 refine⟨aar,.inr ⟨g,1,xs.toArray,rfl,hb,h,ax _,by unfold maxLen;omega,by simp[a],?_⟩⟩;subst a;simp
theorem QZ{s:List iN}{x0:jf}{v:aQ.xH}(h:v.Ok s x0){k:Nat}(b:0<k){y:aQ.LU}(hy:v.jc[k]?=some y):y.before<k/\aQ.back v.jc k k=y.turn::aQ.back v.jc y.before y.before:=by
 obtain⟨a,_⟩:=(h.link k y hy).resolve_left aar;refine⟨a,?_⟩;obtain⟨n,rfl⟩:∃n,k=n+1:=⟨k-1,aar⟩;have:aQ.back v.jc (n+1) (n+1)=y.turn::aQ.back v.jc n y.before:=by
  simp only[aQ.back];rw[aJ aar,hy]
 rw[this,JI h n y.before y.before aar (ax _)]
def VF(L:List mg)(w:World)(e:Ending)(w':World):Prop:=∃A c,e=.returned (.slice A L.length c)/\jU zG (dP w.heap.size) w' (.slice A L.length c) L/\Below w.heap.size w w'
theorem Sg{X:Nat->Bool}{s:List iN}{x0:jf}{sv fv:Value}{B g Mn Ma Mg N NA:Nat}{v:aQ.xH}{KS:List (List UInt8)}(i:Nat)(c:mg)(t:Option Addr)(cl:Nat)(w:World)(hv:kN X s sv B g Mn Ma Mg N NA w fv v KS)(bF:v.Ok s x0)(h:aS w (.agg #[.int .i64 c.bC.aA,.string c.bC.aI,.slice t c.bC.ay.length cl]) c.bC)
 (hi:i<v.jc.length) (T:v.jc.length<=1000) (bG:c.bC.bE<=1048576) (bH:c.df<=1048576) (bI:∀y∈v.jc,y.turn.bC.bE<=1048576):
 Calls Tryz.prog 98 #[.pointer (some ⟨g,0,none⟩),.int .i64 i,.agg #[.int .i64 c.df,.int .i64 c.bC.aA,.string c.bC.aI,.slice t c.bC.ay.length cl]] w (VF (aQ.schedule v.jc i c) w):=by
 obtain⟨i0,bZ,cu,cz,cB⟩:=dU Tryz.Ia;obtain⟨Af,cf,rfl⟩:=hv.jc.shape;obtain⟨nv,aV⟩:=aay v.jc.length;have cK:=aa aV;rw[aV]at hv hi T;clear aV;obtain⟨R,hR⟩:=aay (aQ.schedule v.jc i c);have HR:=aa (show R=(c::aQ.back v.jc i i).reverse from hR.symm);rw[hR];have aD:=ae w (.cells #[.int .i64 c.df,.int .i64 c.bC.aA,.string c.bC.aI,.slice t c.bC.ay.length cl] 61);have j:=gU.new w [.int .i64 c.df,.int .i64 c.bC.aA,.string c.bC.aI,.slice t c.bC.ay.length cl] 61;obtain⟨HV,HL,cO,bJ,dh,HI,dm,dn,aW⟩:=aai (hv.ag aD) (h.ag aD) bF T bI hi bG bH aD;have aH:=aK w (.cells #[.int .i64 c.df,.int .i64 c.bC.aA,.string c.bC.aI,.slice t c.bC.ay.length cl] 61);clear hv h bF T bI hi bG bH aD hR;go_enter Tryz.func98,Tryz.ntmps98;go_upto_region 1 with fail;generalize w.alloc _=d at j HV HL aW aH⊢;obtain⟨G,aX⟩:=aay w.heap.size;rw[aX]at j aH⊢;obtain⟨dx,dz,dA⟩:=aac aX aH (λW (hW:Below d.heap.size d W)=>wW (c.bC.bE+1) c.bC (.agg #[.int .i64 c.bC.aA,.string c.bC.aI,.slice t c.bC.ay.length cl]) W (dF _) (HL.o.ag hW) dm.o);have bK:=j.cell 0 (u:=.int .i64 c.df) rfl;have x1:=j.cell 1 (u:=.int .i64 c.bC.aA) rfl;have x2:=j.cell 2 (u:=.string c.bC.aI) rfl;have x3:=j.cell 3 (u:=.slice t c.bC.ay.length cl) rfl;clear j aX aH;go_cut [7]from 9 to 15 (λov wc=>fZ zG (dP d.heap.size) d.heap.size wc ov [c]/\Below d.heap.size d wc)
 case first=>
  have m:=aa (show d.cell? ⟨G,0,none⟩=some (.int .i64 c.df)/\d.cell? ⟨G,1,none⟩=some (.int .i64 c.bC.aA)/\d.cell? ⟨G,2,none⟩=some (.string c.bC.aI)/\d.cell? ⟨G,3,none⟩=some (.slice t c.bC.ay.length cl)/\Below d.heap.size d d from⟨bK,x1,x2,x3,aC _ _⟩);clear x1 x2 x3;refine fT (S:=(λr=>r.cell? ⟨G,0,none⟩=some (.int .i64 c.df)/\r.cell? ⟨G,1,none⟩=some (.int .i64 c.bC.aA)/\r.cell? ⟨G,2,none⟩=some (.string c.bC.aI)/\r.cell? ⟨G,3,none⟩=some (.slice t c.bC.ay.length cl)/\Below d.heap.size d r)) (λ_=>0) aas (show _/\_/\_/\_/\_ from⟨m.o.1,m.o.2.1,m.o.2.2.1,m.o.2.2.2.1,(aC _ d).drew⟩) (λhHeld=>?_);refine fA 0 _ ?_;refine fA 1 _ ?_;refine fA 2 _ ?_;refine fA 3 _ ?_;refine uO 4 λK f=>?_;(go_simp;go_at_call 36;refine(dA.o _ hHeld.2.2.2.2).m ?_;rintro e w9 ⟨Z,C3,rfl,ah,av⟩;have aY:=aa ah;clear ah;(try replace O:=aa (O.o.ag av));refine mZ f (gW m.o (hHeld.2.2.2.2.t (av.m hHeld.2.2.2.2.size))) λhHeld=>?_;clear f K);refine fA 5 _ ?_;refine uO 6 λK f=>?_;(go_simp;(first|refine wH f (gW m.o (iZ hHeld.2.2.2.2 _)) λH o P Q=>?_|refine oW f (gW m.o (iD hHeld.2.2.2.2 _)) λH o P Q=>?_);have bL:=aa (show d.heap.size<=H by rw[<-o];exact hHeld.2.2.2.2.size);replace hHeld:=Q;have O:=aa P;(first|rw[o]|(change d.heap.size=H at o;subst o));(try have bM:=aa o);(try clear o);clear f K P Q);refine fA 7 _ ?_;refine dD aas ?_ _;go_wp2_with fail;go_meet;refine⟨⟨[[.int .i64 c.df,.int .i64 c.bC.aA,.string c.bC.aI,.slice Z c.bC.ay.length C3]],El.all.push El.all.nil ⟨dn.o,Z,C3,rfl,aY.o.aR λb hb h=>⟨dL.2 ⟨hb,λe=>?_⟩,(ae w9 _).block b h⟩⟩,Iw O.o rfl bL.o⟩,hHeld.2.2.2.2⟩;have e':=aB e;have h9:=bM.o;have x:H=b:=e';omega
 case rest=>
  obtain⟨z,A⟩:=hcut;obtain⟨dC,dH⟩:=aab z A;clear z A bK x1 x2 x3;go_upto_region 2 with fail;go_loopw [1,7] (λiv ov wr=>∃(k:Nat) (L:List mg),iv=.int .i64 k/\k<nv/\fZ zG (dP d.heap.size) d.heap.size wr ov L/\L++aQ.back v.jc k k=c::aQ.back v.jc i i/\L.length+k<=i+1/\Below d.heap.size d wr) (λiv _ _=>(intOf iv).toNat);case atStart=>exact⟨i,[c],rfl,HI.o,dC.o,rfl,by simp;omega,dH.o⟩
  case round=>
   obtain⟨k,L,rfl,hk,z,ax,aJ,A⟩:=hrel;obtain⟨A9,c9,dE,dI,aL,aN⟩:=z.cells;subst dI;by_cases h0:0<k
   ·have aO:k<v.jc.length:=(by rw[cK.o];exact hk);have aZ:=HV.o.ag A;have T:=aZ.jc.Gh (S':=ku) (λ_ _=>rfl) (λ_ _=>rfl);obtain⟨b2,o2,ek,dJ,⟨bN,bf,Aa,ca,Ab,cb,C,D,rfl,-,-,bg⟩,U⟩:=T.get aO;subst dJ;obtain⟨bi,bn⟩:=QZ cO.o h0 (az aO);have bq:=dh.o _ (aP aO);have x:=U 2 _ rfl;have e3:=U 3 _ rfl;have e4:=U 4 _ rfl;have e5:=U 5 _ rfl;have e6:=U 6 _ rfl;have bO:Xe.size=7:=rfl;rw[bO]at x e3 e4 e5 e6;rw[<-gN]at x e3 e4 e5 e6;obtain⟨y,hy⟩:=aay (v.jc[k]);rw[hy]at x e3 e4 e5 e6 bg bq bi bn bN bf;have V:=aZ.box.cell 1 (u:=.slice (some ⟨b2,o2,none⟩) nv cf) rfl;have dM:L.length<=1000:=(aaA HI.o bJ.o);obtain⟨l,h⟩:=aay L.length;have aT:=z.block;rw[h]at aN aL dM aJ aT⊢;have I:=ae wr (.cells #[.int .i64 y.turn.df,.int .i64 y.turn.bC.aA,.string y.turn.bC.aI,.slice C y.turn.bC.ay.length D] 61);have j:=gU.new wr [.int .i64 y.turn.df,.int .i64 y.turn.bC.aA,.string y.turn.bC.aI,.slice C y.turn.bC.ay.length D] 61;obtain⟨bP,bQ,HOWN,Y,F,aU⟩:=aaf ((λW (hW:Below (wr.alloc (.cells #[.int .i64 y.turn.df,.int .i64 y.turn.bC.aA,.string y.turn.bC.aI,.slice C y.turn.bC.ay.length D] 61)).heap.size (wr.alloc (.cells #[.int .i64 y.turn.df,.int .i64 y.turn.bC.aA,.string y.turn.bC.aI,.slice C y.turn.bC.ay.length D] 61)) W)=>wW (y.turn.bC.bE+1) y.turn.bC (.agg #[.int .i64 y.turn.bC.aA,.string y.turn.bC.aI,.slice C y.turn.bC.ay.length D]) W (dF _) ((bg.at.ag I).ag hW) bq)) (El.all.aR aL λb hb h=>⟨hb,I.block b h⟩) (dG aN I) ((λq J=>(⟨(aT q J).1,dw (aT q J).2 I.size⟩:_/\_))) (A.t (I.m A.size)) h;have HE:=aa (show(L++[y.turn])++aQ.back v.jc y.before y.before=c::aQ.back v.jc i i by rw[<-ax,bn];simp);obtain⟨dN,bu,HLEN,dO⟩:=aad bf bi aJ hk;obtain⟨V,x⟩:=aaj I V x;have eu:(0:Int)<(k:Int):=aar;have eB:(k:Int)<(nv:Int):=aar;clear z ax aJ A aL aN h aT bg bq bi bn bN bf hy U T aZ I aO bO hk;obtain⟨dR,dS⟩:=aab HV.o.box.lt (show b2<d.heap.size from(HV.o.jc.block b2 rfl).2);go_upto_region 5 with fail;generalize wr.alloc _=p at j bP bQ HOWN Y F V x⊢;generalize wr.heap.size=M at j⊢;clear e3 e4 e5 e6;have y0:=j.cell 0 (u:=.int .i64 y.turn.df) rfl;have y1:=j.cell 1 (u:=.int .i64 y.turn.bC.aA) rfl;have y2:=j.cell 2 (u:=.string y.turn.bC.aI) rfl;have y3:=j.cell 3 (u:=.slice C y.turn.bC.ay.length D) rfl;have bR:=aa (And.intro V x);clear j V x;have m:=aa (show p.cell? ⟨M,0,none⟩=some (.int .i64 y.turn.df)/\p.cell? ⟨M,1,none⟩=some (.int .i64 y.turn.bC.aA)/\p.cell? ⟨M,2,none⟩=some (.string y.turn.bC.aI)/\p.cell? ⟨M,3,none⟩=some (.slice C y.turn.bC.ay.length D)/\Below p.heap.size p p from⟨y0,y1,y2,y3,aC _ _⟩);clear y0 y1 y2 y3;refine fT (S:=(λr=>r.cell? ⟨M,0,none⟩=some (.int .i64 y.turn.df)/\r.cell? ⟨M,1,none⟩=some (.int .i64 y.turn.bC.aA)/\r.cell? ⟨M,2,none⟩=some (.string y.turn.bC.aI)/\r.cell? ⟨M,3,none⟩=some (.slice C y.turn.bC.ay.length D)/\Below p.heap.size p r)) (λi=>if [8,9].contains i then 2 else 0) aas (show _/\_/\_/\_/\_ from⟨m.o.1,m.o.2.1,m.o.2.2.1,m.o.2.2.2.1,(aC _ p).drew⟩) (λhHeld=>?_);refine fA 0 _ ?_;refine fA 1 _ ?_;refine fA 2 _ ?_;refine fA 3 _ ?_;refine fA 4 _ ?_;refine uO 5 λK f=>?_;(go_simp;go_at_call 36;refine(bP.o _ hHeld.2.2.2.2).m ?_;rintro e w9 ⟨Z,C3,rfl,ah,av⟩;have aY:=aa ah;clear ah;(try replace O:=aa (O.o.ag av));refine mZ f (gW m.o (hHeld.2.2.2.2.t (av.m hHeld.2.2.2.2.size))) λhHeld=>?_;clear f K);refine fA 6 _ ?_;refine uO 7 λK f=>?_;(go_simp;(first|refine wH f (gW m.o (iZ hHeld.2.2.2.2 _)) λH o P Q=>?_|refine oW f (gW m.o (iD hHeld.2.2.2.2 _)) λH o P Q=>?_);have bL:=aa (show p.heap.size<=H by rw[<-o];exact hHeld.2.2.2.2.size);replace hHeld:=Q;have O:=aa P;(first|rw[o]|(change p.heap.size=H at o;subst o));(try have bM:=aa o);(try clear o);clear f K P Q);refine yS 8 λK f=>?_;((have dV:=aa (dG HOWN.o hHeld.2.2.2.2);have bv:=aG F.o.size hHeld.2.2.2.2.size;refine dW _ aav _ _ _ aav d.heap.size 61 i0 _ 4 56 mi bZ cu cz cB rfl aar _ l _ aav dV.o ⟨_,0,none⟩ 1 1 [.int .i64 y.turn.df,.int .i64 y.turn.bC.aA,.string y.turn.bC.aI,.slice Z y.turn.bC.ay.length C3] aav aav (cZ O.o) (λu hu=>by simp at hu;rcases hu with rfl|rfl|rfl|rfl<;>rfl) aar aaS aar bv _ rfl ?_;intro gn eF kJ bS bz bT dX);refine rY f ?_;clear f K);refine yS 9 λK f=>?_;(go_simp;refine rY f ?_;clear f K);refine dD aas ?_ _;have bU:=fZ.push (E:=zG) (S:=dP d.heap.size) (w:=p) (a:=y.turn) bQ.o aU.o (λb hb=>hHeld.2.2.2.2.block b hb) ⟨dN.o,Z,C3,rfl,aY.o.aR λb hb h=>⟨dL.2 ⟨aM (aG F.o.size (ak hb)),λe=>absurd (Y.o b e).2 (Nat.not_lt.2 (ak hb))⟩,(ae w9 _).block b h⟩⟩ bS bz (bT.imp (λe=>e.symm) (λe=>by rw[e];rfl));have bA:Below d.heap.size d kJ:=(F.o.t (hHeld.2.2.2.2.m F.o.size)).grown bz bv (λq J=>(Y.o q J).1);have bB:∀b,b<d.heap.size->kJ.heap[b]?=p.heap[b]?:=λb hb=>(bA.block b hb).t (F.o.block b hb).symm;have V:=(dB (a:=⟨g,1,none⟩) (bB g dR.o)).t bR.o.1;have x:=(dB (a:=⟨b2,o2+k*7+2,none⟩) (bB b2 dS.o)).t bR.o.2;obtain⟨dY,dZ⟩:=aab bU bA;clear bU bA bB bS bz bT dX bv hHeld;go_wp2_with fail;go_roundw;case rel=>exact⟨y.before,_,rfl,aaA bu.o dO.o,dY.o,HE.o,by rw[aF,aU.o];have:=bu.o;have:=HLEN.o;simp;omega,dZ.o⟩
    case measure=>exact aax bu.o
   ·obtain rfl:k=0:=aar;have hL:L=c::aQ.back v.jc i i:=by
     have:aQ.back v.jc 0 0=[]:=rfl;rw[this,dK]at ax;exact ax
    have bV:=aa (UK wr z (by rw[hL];simp) (aaA HI.o bJ.o));have bW:=aa (show L.reverse=R by rw[hL,HR.o]);obtain⟨l,h⟩:=aay L.length;obtain⟨aU,F,Y⟩:=aac h A z.block;rw[h]at bV Y⊢;clear z ax aJ A aL aN hL h hk h0;go_wp2_with fail;refine bV.o.m ?_;rintro e w6 ⟨rfl,bD,bX⟩;rw[bW.o]at bD;obtain⟨d9,ed⟩:=aab bD (((F.o.grown bX F.o.size (λq J=>(Y.o q J).1))));clear bD bX;go_wp2_with fail;go_ret;have bY:R.length=l:=(by rw[<-bW.o,ib,aU.o]);refine⟨A9,c9,by rw[bY];rfl,?_,?_⟩
    ·rw[bY];exact d9.o.list.aR λq J _=>⟨aM (by have:=ak J;have:=dz.o;have:=dx.o;omega),rfl⟩
    ·exact aW.o.t (ed.o.m aW.o.size)
end
end Go.Proofs.YtaciciokmpbkkaaGreatDoor
