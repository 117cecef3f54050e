/- Short names of theorems of the library. -/
import Derived.Deep.AppendLies
import Derived.Deep.Onto
import Derived.Deep.OwnRows
import Derived.Deep.RegionHeld
import Derived.Lib.Hide
import Derived.Lib.OthersKept
import Derived.Lib.RowBridge
import Derived.Lib.Strings
import Derived.Sort.OwnSorted
import Derived.Test.YtaciciokmpbkkaaGreatDoorCheckedLf0
import Derived.Test.YtaciciokmpbkkaaGreatDoorCheckedLf1
import Derived.Test.YtaciciokmpbkkaaGreatDoorCheckedLf2
import Derived.Test.YtaciciokmpbkkaaGreatDoorCheckedLf3
import Derived.WalkSpells
import Derived.IntWalk
import Derived.KernelRfl
import Derived.Below
namespace Go
abbrev AR := @Go.setRow_heap
abbrev Bb := @true_and
abbrev Be := @Go.wp_loop_rounds
abbrev Ca := @Go.Addr.mk.injEq
abbrev Cb := @ByteArray.ext
abbrev Cc := @List.any_cons
abbrev Ce := @List.sum_cons
abbrev DW := @or_assoc
abbrev EM := @Go.mem_ready
abbrev EZ := @Go.wpOp_step
abbrev GY := @and_true
abbrev Iu := @or_false
abbrev aB := @Option.some.inj
abbrev aC := @Go.RowKit.Below.refl
abbrev aD := @beq_eq_false_iff_ne
abbrev aF := @List.length_append
abbrev aG := @Nat.le_trans
abbrev aH := @if_neg
abbrev aJ := @if_pos
abbrev aL := @Go.RowKit.Below.heap_setCell
abbrev aM := @decide_eq_true
abbrev aN := @Bool.and_eq_true_iff
abbrev aP := @List.getElem_mem
abbrev aT := @Nat.zero_le
abbrev aU := @List.getElem?_eq_some_iff
abbrev aV := @Go.bodyPost_ret
abbrev aW := @Array.getElem?_eq_some_iff
abbrev aX := @List.length_take
abbrev aY := @List.mem_cons_of_mem
abbrev aZ := @List.take_succ_eq_append_getElem
abbrev aa := @Go.Lib.hid
abbrev af := @Go.cell_later
abbrev ah := @Bool.and_eq_true
abbrev ai := @List.getElem?_cons_zero
abbrev aj := @List.getElem?_cons_succ
abbrev ak := @of_decide_eq_true
abbrev au := @List.getElem?_toArray
abbrev ax := @Nat.le_refl
abbrev az := @List.getElem?_eq_getElem
abbrev bD := @List.mem_singleton
abbrev bG := @List.take_of_length_le
abbrev bH := @Go.AllReady.cons
abbrev bL := @List.getElem_of_mem
abbrev bM := @List.mem_cons
abbrev bN := @List.getElem?_append_left
abbrev bO := @decide_eq_true_eq
abbrev bP := @Go.heap_alloc_new
abbrev bQ := @List.all_eq_true
abbrev bR := @List.eq_nil_of_length_eq_zero
abbrev bS := @Go.AllReady.nil
abbrev bT := @Bool.not_eq_true'
abbrev bV := @congrArg
abbrev bW := @Bool.eq_false_or_eq_true
abbrev bX := @Nat.lt_or_ge
abbrev bY := @Go.wpAny_ready
abbrev bZ := @List.length_map
abbrev bg := @List.length_cons
abbrev bq := @List.getElem?_append_right
abbrev bu := @List.mem_append
abbrev cB := @Go.Proofs.Tryz.underlying23
abbrev cZ := @Go.World.news_of_block
abbrev cu := @decide_eq_false
abbrev cz := @Go.WideShapes.add_plain
abbrev dA := @List.mem_of_getElem?
abbrev dB := @Go.World.cell?_of_block
abbrev dC := @List.append_assoc
abbrev dF := @Nat.lt_succ_self
abbrev dH := @List.getElem_append_left
abbrev dI := @List.getElem_cons_zero
abbrev dK := @List.append_nil
abbrev dM := @List.any_eq_true
abbrev dN := @List.drop_eq_getElem_cons
abbrev dO := @List.length_drop
abbrev dQ := @List.set_cons_succ
abbrev dS := @List.length_eq_zero_iff
abbrev dU := @Go.info_parts
abbrev dW := @Go.step_append_lies
abbrev dY := @Array.getElem?_modify
abbrev dZ := @Array.getD_eq_getD_getElem?
abbrev dh := @List.getElem_append_right
abbrev di := @List.setIfInBounds_toArray
abbrev dm := @Go.wp_region_held_drew
abbrev dn := @List.getD_eq_getElem?_getD
abbrev dw := @Nat.lt_of_lt_of_le
abbrev eD := @List.set_cons_zero
abbrev eF := @Nat.eq_zero_or_pos
abbrev eG := @Go.wpAny_take
abbrev eH := @Bool.or_eq_true
abbrev eO := @Option.isSome_iff_exists
abbrev eP := @Nat.zero_add
abbrev eQ := @Go.World.block_lt_of_cell?
abbrev eX := @List.not_mem_nil
abbrev ed := @List.mem_range
abbrev ek := @List.mem_map
abbrev eu := @List.mem_cons_self
abbrev fB := @Go.wpAnyH_done
abbrev fC := @Nat.add_zero
abbrev fD := @beq_iff_eq
abbrev fE := @List.length_nil
abbrev fH := @List.any_eq_false
abbrev fJ := @List.getElem_cons_succ
abbrev fK := @Go.RowKit.Below.heap_alloc
abbrev fP := @Array.getElem?_eq_getElem
abbrev fQ := @Go.Proofs.Tryz.underlying70
abbrev fU := @List.mem_filter
abbrev fe := @List.pairwise_cons
abbrev gD := @List.getElem?_eq_none
abbrev gF := @List.length_filter_le
abbrev gG := @List.map_append
abbrev gJ := @List.take_succ_cons
abbrev gM := @List.mem_append_left
abbrev gN := @Nat.add_assoc
abbrev gQ := @Option.getD_some
abbrev gV := @Go.World.ownsRow_nil
abbrev gX := @List.getElem?_drop
abbrev gY := @List.getElem?_take
abbrev gu := @List.flatten_cons
abbrev gy := @Go.Proofs.Tryz.underlying3
abbrev iK := @Array.getElem?_setIfInBounds
abbrev iL := @Go.IntWalk.i64_in
abbrev iM := @List.take_zero
abbrev iO := @Array.size_setIfInBounds
abbrev iP := @List.cons_append
abbrev iR := @Go.ByteArray.toList_eq
abbrev iU := @ByteArray.size_append
abbrev iV := @Go.Lib.compact_length_le
abbrev iW := @Bool.eq_false_iff
abbrev iX := @Int.toNat_natCast
abbrev ib := @List.length_reverse
abbrev ic := @List.getElem_map
abbrev ig := @Go.Proofs.Tryz.underlying9
abbrev il := @Int.le_refl
abbrev iq := @Nat.mul_le_mul_right
abbrev iw := @Option.some.injEq
abbrev iy := @getElem!_pos
abbrev jA := @List.flatMap_append
abbrev jE := @List.mem_append_right
abbrev jF := @UInt8.lt_iff_toNat_lt
abbrev jH := @List.map_cons
abbrev jK := @Bool.eq_iff_iff
abbrev jL := @Option.map_some
abbrev jM := @Go.Proofs.Tryz.results143
abbrev jQ := @Nat.add_sub_cancel
abbrev jR := @Ne.symm
abbrev jS := @List.findIdx?_eq_some_iff_getElem
abbrev jV := @Go.AllReadyH.nil
abbrev jW := @List.length_eraseIdx_of_lt
abbrev jX := @Go.Proofs.Tryz.underlying53
abbrev jZ := @List.nil_append
abbrev jg := @bne_iff_ne
abbrev ji := @Nat.not_lt_zero
abbrev jk := @Go.Proofs.Tryz.zeroValue3
abbrev jo := @Nat.le_of_lt
abbrev kE := @Go.Proofs.Tryz.underlying0
abbrev kF := @Go.Proofs.Tryz.underlying4
abbrev kK := @Go.wpAnyH_ready
abbrev kL := @Bool.or_eq_false_iff
abbrev kM := @List.mem_of_mem_drop
abbrev kQ := @List.getElem?_map
abbrev kR := @decide_eq_false_iff_not
abbrev kT := @List.length_set
abbrev kU := @Go.Proofs.Tryz.zeroValue0
abbrev kV := @Go.Proofs.Tryz.zeroValue9
abbrev kX := @Go.wpAny_done
abbrev kY := @Array.length_toList
abbrev kg := @Nat.min_eq_left
abbrev ko := @Go.Proofs.Tryz.zeroValue4
abbrev l6 := @Array.size_modify
abbrev lC := @List.prefix_refl
abbrev lD := @List.take_length
abbrev lF := @and_assoc
abbrev lK := @Go.wpList_append_lies
abbrev lL := @Array.getElem?_toList
abbrev lM := @List.set_append_right
abbrev lN := @List.take_append_drop
abbrev lQ := @Nat.le_of_ble_eq_true
abbrev lV := @List.pairwise_iff_getElem
abbrev lW := @List.foldl_cons
abbrev lX := @List.range_succ
abbrev lY := @Option.some_inj
abbrev lZ := @Array.all_eq_true_iff_forall_mem
abbrev lh := @List.drop_eq_nil_of_le
abbrev ll := @List.drop_of_length_le
abbrev lu := @Bool.true_and
abbrev mE := @Prod.mk.injEq
abbrev mG := @Go.World.cell?_setCells_out
abbrev mO := @Go.IntKind.wrap_i64
abbrev mP := @Go.Lib.extract_data
abbrev mQ := @List.Perm.refl
abbrev mR := @List.perm_cons
abbrev mU := @Nat.add_sub_cancel_left
abbrev ma := @List.flatMap_cons
abbrev mf := @List.foldl_append
abbrev mh := @Go.Proofs.Tryz.sizeOf3
abbrev mi := @Go.Proofs.Tryz.underlying57
abbrev nC := @Option.map_eq_some_iff
abbrev nD := @Go.Proofs.Tryz.sizeOf0
abbrev nE := @Go.Proofs.Tryz.sizeOf4
abbrev nH := @Go.Proofs.Tryz.sizeOf9
abbrev nI := @Go.Proofs.Tryz.underlying134
abbrev nJ := @Go.World.frozen?_setCells
abbrev nL := @of_decide_eq_false
abbrev nU := @List.eraseIdx_sublist
abbrev nX := @List.getElem_take
abbrev nY := @List.reverse_perm
abbrev nZ := @Nat.le_succ_of_le
abbrev nk := @List.take_append_of_le_length
abbrev nu := @Go.Proofs.Tryz.isAgg3
abbrev ny := @Array.getElem?_eq_none
abbrev nz := @Bool.false_eq_true
abbrev o6 := @List.mem_flatMap
abbrev o7 := @Go.Proofs.Tryz.underlying5
abbrev o8 := @Go.Proofs.Tryz.zeroValue57
abbrev oF := @List.drop_zero
abbrev oG := @Nat.pow_le_pow_right
abbrev oH := @Go.Proofs.Tryz.isAgg0
abbrev oI := @Go.Proofs.Tryz.isAgg4
abbrev oJ := @Go.Proofs.Tryz.isAgg9
abbrev oh := @Go.Proofs.Tryz.underlying91
abbrev om := @Go.Proofs.Tryz.underlying92
abbrev p9 := @Array.size_push
abbrev pI := @Decidable.byContradiction
abbrev pM := @List.flatten_append
abbrev pO := @List.mem_of_mem_eraseIdx
abbrev pY := @Go.wp_region_any
abbrev q9 := @Go.Proofs.Tryz.results61
abbrev qC := @List.eraseIdx_cons_succ
abbrev qM := @List.ext_getElem?
abbrev qN := @List.lt_irrefl
abbrev qO := @List.map_map
abbrev qP := @List.map_nil
abbrev qQ := @List.reverse_cons
abbrev qR := @Nat.sub_self
abbrev qU := @Nat.succ_mul
abbrev qV := @Nat.zero_mul
abbrev qX := @Go.Proofs.Tryz.results11
abbrev qY := @Go.Proofs.Tryz.results19
abbrev qZ := @Go.Proofs.Tryz.results26
abbrev qc := @Except.ok.injEq
abbrev qd := @Go.Proofs.Tryz.results101
abbrev qf := @Go.Proofs.Tryz.zeroValue5
abbrev qg := @UInt8.toNat_inj
abbrev ql := @List.filter_append
abbrev qm := @List.findIdx?_cons
abbrev qp := @Go.Proofs.Tryz.underlying135
abbrev r9 := @List.cons_lt_cons_iff
abbrev rD := @if_true
abbrev rP := @Go.run_underlying
abbrev rZ := @Array.getElem?_mapIdx
abbrev rf := @Go.Value.slice.injEq
abbrev sH := @Bool.not_eq_true
abbrev sI := @Go.Lib.cell_of_heap
abbrev sJ := @List.countP_cons
abbrev sK := @List.ext_getElem
abbrev sN := @Go.Proofs.Tryz.zeroValue53
abbrev sj := @List.modify_succ_cons
abbrev su := @List.modify_zero_cons
abbrev tO := @Bool.or_false
abbrev tQ := @Iff.rfl
abbrev tT := @Go.Proofs.Tryz.ntmps109
abbrev tV := @Go.Proofs.Tryz.ntmps180
abbrev tZ := @List.getElem?_modify
abbrev uB := @Go.Proofs.Tryz.results117
abbrev uC := @Go.Proofs.Tryz.results119
abbrev uD := @Go.Proofs.Tryz.results150
abbrev uE := @Go.Proofs.Tryz.results179
abbrev uJ := @List.drop_succ_cons
abbrev uK := @List.map_congr_left
abbrev uL := @Go.Maps.atKey_put_same
abbrev uQ := @And.imp
abbrev uS := @Go.Proofs.Tryz.func109
abbrev uT := @Go.Proofs.Tryz.func180
abbrev uU := @Go.Proofs.Tryz.sizeOf5
abbrev uf := @List.mem_of_mem_take
abbrev ug := @List.pairwise_append
abbrev uh := @Go.Maps.atKey_put_other
abbrev ui := @Nat.le_succ
abbrev uj := @Nat.not_succ_le_self
abbrev uz := @List.prefix_rfl
abbrev vD := @Array.getElem?_append_left
abbrev vE := @Bool.not_false
abbrev vF := @Go.DataW.held.inj
abbrev vG := @List.Perm.cons_inv
abbrev vH := @List.take_left
abbrev vL := @Go.Proofs.Tryz.results50
abbrev vM := @Go.Proofs.Tryz.results68
abbrev vN := @Go.Proofs.Tryz.underlying182
abbrev vO := @Go.Proofs.Tryz.underlying192
abbrev vQ := @Go.Proofs.Tryz.underlying211
abbrev vR := @Go.Proofs.Tryz.underlying213
abbrev vS := @Go.Proofs.Tryz.underlying214
abbrev vT := @Go.World.ownsRow_made
abbrev vU := @decide_eq_true_iff
abbrev vW := @Go.holds_of_block
abbrev wF := @Go.ready_mono
abbrev wK := @List.findIdx?_eq_none_iff
abbrev wO := @List.getElem_drop
abbrev wP := @Go.Proofs.Tryz.isAgg5
abbrev wQ := @Go.Proofs.Tryz.zeroValue135
abbrev wR := @Go.Proofs.Tryz.zeroValue182
abbrev wS := @Go.Proofs.Tryz.zeroValue211
abbrev wT := @Go.Proofs.Tryz.zeroValue213
abbrev wu := @Go.ownsRow_sorted
abbrev xK := @List.filter_cons
abbrev xL := @List.flatMap_nil
abbrev xM := @List.getElem_set
abbrev xN := @List.lookup_cons
abbrev xO := @List.perm_middle
abbrev xR := @Go.Proofs.Tryz.zeroValue23
abbrev xS := @Go.Proofs.Tryz.zeroValue29
abbrev xU := @Go.World.cell?_setCells_in
abbrev xW := @beq_self_eq_true
abbrev xe := @Array.setIfInBounds_comm
abbrev xg := @Bool.and_true
abbrev xm := @List.getElem?_take_of_lt
abbrev xn := @List.lt_trans
abbrev xw := @Go.Proofs.Tryz.ntmps217
abbrev xx := @Go.Proofs.Tryz.sizeOf53
abbrev xy := @Go.WideMaps.keyOf_string_mk
abbrev yA := @Go.Proofs.Tryz.ntmps64
abbrev yn := @List.getElem_replicate
abbrev yo := @Nat.pow_succ
abbrev yx := @Go.Proofs.Tryz.func217
abbrev yz := @Go.Proofs.Tryz.isAgg53
abbrev zA := @List.perm_append_comm
abbrev zH := @Bool.and_false
abbrev zI := @List.drop_left
abbrev zJ := @List.getElem_reverse
abbrev zK := @List.nodup_nil
abbrev zL := @List.take_take
abbrev zM := @Nat.add_le_add_right
abbrev zN := @Nat.min_def
abbrev zX := @if_false
abbrev ze := @Int.emod_nonneg
abbrev zf := @List.any_append
abbrev zg := @List.cons.injEq
abbrev zi := @Go.Oper.upon_value
abbrev zm := @and_congr_right
abbrev zw := @List.Pairwise.sublist
abbrev zy := @List.length_replicate
abbrev zz := @List.length_singleton
theorem aaj {w W:World}(b:RowKit.Below w.heap.size w W){p0 p1:Addr}{v0 v1:Value}(h0:w.cell? p0=some v0)(h1:w.cell? p1=some v1):W.cell? p0=some v0∧W.cell? p1=some v1:=⟨cell_later b h0,cell_later b h1⟩
theorem aak {w W:World}(b:RowKit.Below w.heap.size w W){p0 p1 p2:Addr}{v0 v1 v2:Value}(h0:w.cell? p0=some v0)(h1:w.cell? p1=some v1)(h2:w.cell? p2=some v2):W.cell? p0=some v0∧W.cell? p1=some v1∧W.cell? p2=some v2:=⟨cell_later b h0,cell_later b h1,cell_later b h2⟩
theorem aal {w W:World}(b:RowKit.Below w.heap.size w W){p0 p1 p2 p3:Addr}{v0 v1 v2 v3:Value}(h0:w.cell? p0=some v0)(h1:w.cell? p1=some v1)(h2:w.cell? p2=some v2)(h3:w.cell? p3=some v3):W.cell? p0=some v0∧W.cell? p1=some v1∧W.cell? p2=some v2∧W.cell? p3=some v3:=⟨cell_later b h0,cell_later b h1,cell_later b h2,cell_later b h3⟩
theorem aan {w W:World}(b:RowKit.Below w.heap.size w W){p0 p1 p2 p3 p4 p5:Addr}{v0 v1 v2 v3 v4 v5:Value}(h0:w.cell? p0=some v0)(h1:w.cell? p1=some v1)(h2:w.cell? p2=some v2)(h3:w.cell? p3=some v3)(h4:w.cell? p4=some v4)(h5:w.cell? p5=some v5):W.cell? p0=some v0∧W.cell? p1=some v1∧W.cell? p2=some v2∧W.cell? p3=some v3∧W.cell? p4=some v4∧W.cell? p5=some v5:=⟨cell_later b h0,cell_later b h1,cell_later b h2,cell_later b h3,cell_later b h4,cell_later b h5⟩
theorem aab {p0 p1:Prop}(h0:p0)(h1:p1):RowKit.Hid p0∧RowKit.Hid p1:=⟨h0,h1⟩
theorem aac {p0 p1 p2:Prop}(h0:p0)(h1:p1)(h2:p2):RowKit.Hid p0∧RowKit.Hid p1∧RowKit.Hid p2:=⟨h0,h1,h2⟩
theorem aad {p0 p1 p2 p3:Prop}(h0:p0)(h1:p1)(h2:p2)(h3:p3):RowKit.Hid p0∧RowKit.Hid p1∧RowKit.Hid p2∧RowKit.Hid p3:=⟨h0,h1,h2,h3⟩
theorem aae {p0 p1 p2 p3 p4:Prop}(h0:p0)(h1:p1)(h2:p2)(h3:p3)(h4:p4):RowKit.Hid p0∧RowKit.Hid p1∧RowKit.Hid p2∧RowKit.Hid p3∧RowKit.Hid p4:=⟨h0,h1,h2,h3,h4⟩
theorem aaf {p0 p1 p2 p3 p4 p5:Prop}(h0:p0)(h1:p1)(h2:p2)(h3:p3)(h4:p4)(h5:p5):RowKit.Hid p0∧RowKit.Hid p1∧RowKit.Hid p2∧RowKit.Hid p3∧RowKit.Hid p4∧RowKit.Hid p5:=⟨h0,h1,h2,h3,h4,h5⟩
theorem aag {p0 p1 p2 p3 p4 p5 p6:Prop}(h0:p0)(h1:p1)(h2:p2)(h3:p3)(h4:p4)(h5:p5)(h6:p6):RowKit.Hid p0∧RowKit.Hid p1∧RowKit.Hid p2∧RowKit.Hid p3∧RowKit.Hid p4∧RowKit.Hid p5∧RowKit.Hid p6:=⟨h0,h1,h2,h3,h4,h5,h6⟩
theorem aah {p0 p1 p2 p3 p4 p5 p6 p7:Prop}(h0:p0)(h1:p1)(h2:p2)(h3:p3)(h4:p4)(h5:p5)(h6:p6)(h7:p7):RowKit.Hid p0∧RowKit.Hid p1∧RowKit.Hid p2∧RowKit.Hid p3∧RowKit.Hid p4∧RowKit.Hid p5∧RowKit.Hid p6∧RowKit.Hid p7:=⟨h0,h1,h2,h3,h4,h5,h6,h7⟩
theorem aai {p0 p1 p2 p3 p4 p5 p6 p7 p8:Prop}(h0:p0)(h1:p1)(h2:p2)(h3:p3)(h4:p4)(h5:p5)(h6:p6)(h7:p7)(h8:p8):RowKit.Hid p0∧RowKit.Hid p1∧RowKit.Hid p2∧RowKit.Hid p3∧RowKit.Hid p4∧RowKit.Hid p5∧RowKit.Hid p6∧RowKit.Hid p7∧RowKit.Hid p8:=⟨h0,h1,h2,h3,h4,h5,h6,h7,h8⟩
theorem aar{p:Prop}(h:p:=by omega):p:=h
theorem aas{p:Prop}(h:p:=by kernel_rfl):p:=h
theorem aat{p:Prop}(h:p:=by decide):p:=h
theorem aau{p:Prop}(h:p:=by simp):p:=h
theorem aav{p:Prop}(h:p:=by rfl):p:=h
theorem aaw{p:Prop}(h:p:=by go_num):p:=h
theorem aaB{p:Prop}(h:p:=by rw[h]at l;cases l):p:=h
theorem aaC{p:Prop}(h:p:=by simpa using f):p:=h
theorem aaD{p:Prop}(h:p:=by simpa using h):p:=h
theorem aaE{p:Prop}(h:p:=by show _<(w.heap.push _).size;rw[p9];omega):p:=h
theorem aaF{p:Prop}(h:p:=by omega):p:=h
theorem aaG{p:Prop}(h:p:=by simpa using a):p:=h
theorem aaH{p:Prop}(h:p:=by first|rfl|(simp;omega)):p:=h
theorem aaI{p:Prop}(h:p:=by rw[aD];omega):p:=h
theorem aaJ{p:Prop}(h:p:=by first|(rw[C.o];done)|(rw[C.o];simp;omega)):p:=h
theorem aaK{p:Prop}(h:p:=by assumption):p:=h
theorem aaL{p:Prop}(h:p:=by first|assumption|exact aC _ _):p:=h
theorem aaM{p:Prop}(h:p:=by rw[<-d.o,x.o]):p:=h
theorem aaN{p:Prop}(h:p:=by rw[jg];omega):p:=h
theorem aaO{p:Prop}(h:p:=by unfold T.gZ;simp[m]):p:=h
theorem aaP{p:Prop}(h:p:=by simpa using hi):p:=h
theorem aaQ{p:Prop}(h:p:=by simp at hi;omega):p:=h
theorem aaR{p:Prop}(h:p:=by rw[aX];omega):p:=h
theorem aaS{p:Prop}(h:p:=by unfold maxLen;omega):p:=h
theorem aaT{p:Prop}(h:p:=by simp only[zN];split<;>omega):p:=h
theorem aaU{p:Prop}(h:p:=by simp[Act.eval,Act.put]):p:=h
theorem aaV{p:Prop}(h:p:=by simp;omega):p:=h
theorem aaW{p:Prop}(h:p:=by rw[aK];omega):p:=h
theorem aaX{p:Prop}(h:p:=by unfold World.cell?;rw[d];rfl):p:=h
theorem aaY{p:Prop}(h:p:=by unfold World.cell?;rw[G];rfl):p:=h
theorem aaZ{p:Prop}(h:p:=by rw[iL _ (by omega)];omega):p:=h
theorem aa0{p:Prop}(h:p:=by injection h):p:=h
theorem aa1{p:Prop}(h:p:=by simpa[kW]using h):p:=h
theorem aa2{p:Prop}(h:p:=by simp only[au,ai];rfl):p:=h
theorem aa3{p:Prop}(h:p:=by exact λ_ _ _ h=>h):p:=h
theorem aa4{p:Prop}(h:p:=by simp only[au,aj,ai];rfl):p:=h
theorem aa5{p:Prop}(h:p:=by rw[a];rfl):p:=h
theorem aa6{p:Prop}(h:p:=by intro u hu;simp at hu;rcases hu with rfl|rfl|rfl<;>rfl):p:=h
theorem aa7{p:Prop}(h:p:=by rw[<-h.1];exact hi):p:=h
theorem aa8{p:Prop}(h:p:=by rw[<-E.len (a.2 i d hi)];exact(aU.1 hu).1):p:=h
theorem aa9{p:Prop}(h:p:=by simpa using b):p:=h
theorem aba{p:Prop}(h:p:=by rw[aK]):p:=h
theorem abb{p:Prop}(h:p:=by injection e):p:=h
theorem abd{p:Prop}(h:p:=by rwa [kZ]at hj):p:=h
theorem abe{p:Prop}(h:p:=by decide):p:=h
theorem abf{p:Prop}(h:p:=by rw[e]):p:=h
theorem abg{p:Prop}(h:p:=by rw[HN.o];exact ax _):p:=h
theorem abh{p:Prop}(h:p:=by unfold World.cell?;rw[E];rfl):p:=h
theorem abj{p:Prop}(h:p:=by rw[f];simp):p:=h
theorem abk{p:Prop}(h:p:=by simpa using hj):p:=h
theorem abl{p:Prop}(h:p:=by rw[dh (by omega)];simp[<-f]):p:=h
theorem abm{p:Prop}(h:p:=by rw[hb];exact e):p:=h
theorem abn{p:Prop}(h:p:=by trivial):p:=h
theorem abo{p:Prop}(h:p:=by first|exact .inl rfl|exact .inr rfl):p:=h
theorem abp{p:Prop}(h:p:=by simpa[eU]using h):p:=h
theorem abq{p:Prop}(h:p:=by first|exact λb hb=>(ae w4 _).block b hb|exact λ_ _=>rfl):p:=h
theorem abr{p:Prop}(h:p:=by simpa using l):p:=h
theorem abt{p:Prop}(h:p:=by rw[k.o];exact V.o):p:=h
theorem abu{p:Prop}(h:p:=by simpa[World.setCell]using hb):p:=h
theorem abv{p:Prop}(h:p:=by have:=bV List.length B.o.1;rw[r.o]at this;simp at this;omega):p:=h
theorem abw{p:Prop}(h:p:=by have:=M.o;rw[Y]at this;simp at this;rw[<-this];rfl):p:=h
theorem abx{p:Prop}(h:p:=by rw[C.block b (by rw[aK];omega) (λe=>by have e':b=wt.heap.size:=aB e;omega),aQ b hb]):p:=h
theorem aby{p:Prop}(h:p:=by rw[d];split<;>simp<;>omega):p:=h
theorem abz{p:Prop}(h:p:=by push_cast;rfl):p:=h
theorem abA{p:Prop}(h:p:=by rw[P.o];decide):p:=h
theorem abB{p:Prop}(h:p:=by simpa using J):p:=h
theorem abC{p:Prop}(h:p:=by unfold World.cell?;rw[z];rfl):p:=h
theorem abD{p:Prop}(h:p:=by rw[c.o,mP];simp):p:=h
theorem abE{p:Prop}(h:p:=by rw[k.o];exact T.rC s i m):p:=h
theorem abF{p:Prop}(h:p:=by have h:=G5.o;rw[<-T.Qj]at h;simp at h;omega):p:=h
theorem abG{p:Prop}(h:p:=by have h:=bD.o;unfold T.after at h;rw[aJ dz.o]at h;simpa[T.pre]using h):p:=h
theorem abH{p:Prop}(h:p:=by rw[aO.o];exact lQ rfl):p:=h
theorem abI{p:Prop}(h:p:=by have:=(T.yK _ _ _ aW.o).2 aau;rw[T.mq]at this;exact this):p:=h
theorem abJ{p:Prop}(h:p:=by have:=av.block b hb;rw[pz]at this;exact this):p:=h
theorem abK{p:Prop}(h:p:=by rcases hh:kv.ownBlock with _|b;exact .inl rfl;right;intro e;have:=(dM.o b hh).1;have:=o.o;have S:=aB e;omega):p:=h
theorem abL{p:Prop}(h:p:=by have h:=K.o;rw[aJ n]at h;simpa using h.symm):p:=h
theorem abM{p:Prop}(h:p:=by have:=L.o;unfold maxLen;omega):p:=h
theorem aax{a p:Prop}(x:a)(h:a→p:=by(intro this;simp[intOf];omega)):p:=h x
theorem aay{α:Sort _}(e:α):∃q,e=q:=⟨_,rfl⟩
theorem aaz{a p:Prop}(x:a)(h:a→p:=by(intro this;omega)):p:=h x
theorem aaA{a b p:Prop}(x:a)(y:b)(h:a→b→p:=by(intro this that;omega)):p:=h x y
abbrev _root_.Go.RowKit.Hid.o := @Go.RowKit.Hid.out
abbrev _root_.Go.Shut.o := @Go.Shut.out
abbrev _root_.Eq.t := @Eq.trans
abbrev _root_.Iff.t := @Iff.trans
abbrev _root_.List.Perm.t := @List.Perm.trans
abbrev _root_.List.Sublist.t := @List.Sublist.trans
abbrev _root_.List.IsPrefix.t := @List.IsPrefix.trans
abbrev _root_.Go.World.Since.t := @Go.World.Since.trans
abbrev _root_.Go.World.grownBy.t := @Go.World.grownBy.trans
abbrev _root_.Go.RowKit.Below.t := @Go.RowKit.Below.trans
abbrev _root_.Go.World.Extends.t := @Go.World.Extends.trans
abbrev _root_.Go.World.mapTurned.t := @Go.World.mapTurned.trans
abbrev _root_.Go.Lib.OthersKept.t := @Go.Lib.OthersKept.trans
abbrev _root_.Go.Calls.m := @Go.Calls.mono
abbrev _root_.Go.RowKit.Below.m := @Go.RowKit.Below.mono
abbrev _root_.Go.World.ownsRow.m := @Go.World.ownsRow.mono
abbrev _root_.Go.World.ownsMap.m := @Go.World.ownsMap.mono
end Go
