/- Chapter 12: a choice, cut into lines and handed to the loop's body: the innermost call of texts' closure. -/
import Derived.Test.YtafbhadfeemppaaGreatDoorRdGW
import Derived.Test.YtafbhadfeemppaaGreatDoorRdCount
namespace Go.Proofs.YtafbhadfeemppaaGreatDoor
open Go.RowKit Go.Shelf
attribute [local go_sem] Oper.semAt_some

/-- A text's lines. -/
def lineS (H Wd : Nat) (t : List UInt8) : List ByteArray := (Rd.cut Wd H t).map fun l => ⟨l.toArray⟩
theorem lineS_len (H Wd : Nat) (t : List UInt8) : (lineS H Wd t).length = H := by unfold lineS; rw [List.length_map, Rd.cut_length]
theorem lineS_get {H Wd : Nat} {t : List UInt8} {k : Nat} (h : k < H) : (lineS H Wd t)[k]? = some ⟨((t.drop (k * Wd)).take Wd).toArray⟩ := by
  unfold lineS
  rw [List.getElem?_map, Rd.cut_get Wd H t k h]; rfl
def choice (L : List (List UInt8)) (k : Nat) : List UInt8 := (Rd.prod L).getD k []
def RArg (L : List (List UInt8)) (H Wd HT k : Nat) (v : Value) (W : World) : Prop := W.ownsRow HT 9 1 v H ((lineS H Wd (choice L k)).map Value.string)
theorem conv_mid {w : World} {T q n : Nat} {t : List UInt8} (h : BytesAt w T t) (hq : q + n ≤ t.length) (c : Nat) :
    (convert 59 9 (.slice (some ⟨T, q, none⟩) n c)).run Tryz.prog w = .ok (.string ⟨((t.drop q).take n).toArray⟩) w := by
  have hl : ((t.drop q).take n).length = n := by rw [List.length_take, List.length_drop]; omega
  have := run_convert_bytes_back (P := Tryz.prog) w 59 9 5 ⟨T, q, none⟩ c ((t.drop q).take n) Tryz.underlying59 Tryz.underlying5 Tryz.underlying9 (fun j hj => by
    have hj' : j < n := by rw [hl] at hj; exact hj
    have e0 : (⟨T, q, none⟩ : Addr).add j = ⟨T, q + j, none⟩ := by simp [Addr.add]
    rw [e0, (h (q + j) (by omega)).1]
    simp)
  rwa [hl] at this
/-- What has been cut off so far: the box of lines. -/
def LI (Ws : World) (Bl H Wd : Nat) (t : List UInt8) (HT k : Nat) (W : World) : Prop :=
  (∃ v, Boxed W Bl 29 v ∧ W.ownsRow HT 9 1 v k (((lineS H Wd t).take k).map Value.string)) ∧ Below Ws.heap.size Ws W
theorem LI.below {Ws : World} {Bl H Wd : Nat} {t : List UInt8} {HT k : Nat} {W W' : World} (h : LI Ws Bl H Wd t HT k W) (hb : Below W.heap.size W W') : LI Ws Bl H Wd t HT k W' := by
  obtain ⟨⟨v, h1, h2⟩, h3⟩ := h
  exact ⟨⟨v, (hb.block _ h1.lt).trans h1, ownsRow_later h2 hb⟩, h3.trans (hb.mono h3.size)⟩
theorem own_set_other {w : World} {base e size n : Nat} {v : Value} {xs : List Value} (h : w.ownsRow base e size v n xs) {T i : Nat} (hT : T < base) (u : Value) : (w.setCell ⟨T, i, none⟩ u).ownsRow base e size v n xs := ownsRow_setCell_below h (a := ⟨T, i, none⟩) hT u
/-- Behind an append to a row whose slice lies in a box ahead of it. -/
theorem boxed_app {W w1 : World} {n₀ B : Nat} {t e : TypeId} {size : Nat} {v v' : Value} {k m : Nat} {xs ys : List Value} {tmp : Obj}
    (hv : Boxed W B t v) (hte : t ≠ e) (hrow : W.ownsRow n₀ e size v k xs) (hn₀ : n₀ ≤ W.heap.size) (hB : B < n₀)
    (hown' : w1.ownsRow n₀ e size v' m ys) (hgrow : (W.alloc tmp).grownBy w1 v.ownBlock) :
    Boxed w1 B t v ∧ Boxed (w1.setCell ⟨B, 0, none⟩ v') B t v' ∧ (w1.setCell ⟨B, 0, none⟩ v').ownsRow n₀ e size v' m ys ∧ KeepsOthers W (w1.setCell ⟨B, 0, none⟩ v') ∧ Kept n₀ B W (w1.setCell ⟨B, 0, none⟩ v') ∧ Below B W (w1.setCell ⟨B, 0, none⟩ v') := by
  have hv1 : Boxed w1 B t v := (hv.alloc tmp).kept hgrow (hv.not_row hte hrow)
  have hle : ∀ j, v.ownBlock = some j → n₀ ≤ j := fun j hj => (hrow.lt j hj).1
  refine ⟨hv1, hv1.set v', hown'.kept (grownBy_setCell' w1 B v') (.inr (hv1.not_row hte hown').symm), ?_, fun b hb hbB => ?_, ?_⟩
  · refine ((KeepsOthers.alloc W tmp).trans (KeepsOthers.of_grownBy hgrow fun j o ej hj => ?_)).trans (KeepsOthers.setCell _ _ _)
    rcases (hrow.alloc tmp).2 with ⟨rfl, _⟩ | ⟨g, cap, cur, rfl, _, hgb, _⟩
    · simp [Value.ownBlock] at ej
    · obtain rfl : g = j := by simpa [Value.ownBlock] using ej
      rw [hgb] at hj; cases hj; rfl
  · have e1 : (W.alloc tmp).heap[b]? = W.heap[b]? := Below.heap_alloc _ _ _ (by omega)
    have e2 : w1.heap[b]? = (W.alloc tmp).heap[b]? := hgrow.block b (by simp; omega) (fun e => by have := hle b e.symm; omega)
    exact (Below.heap_setCell _ _ _ _ (by exact hbB)).trans (e2.trans e1)
  · exact (((Below.refl B W).alloc (by omega) tmp).grown hgrow (by simp; omega) fun j ej => by have := hle j ej; omega).setCell (p := ⟨B, 0, none⟩) (Nat.le_refl _) v'
theorem Tryz.infoStr : (Tryz.prog.info? 9).map (fun i => (i.zero, i.size, i.bytes)) = some (some (.string ByteArray.empty), 1, 16) := by kernel_rfl
set_option maxRecDepth 100000 in
set_option maxHeartbeats 4000000 in
theorem from_leaf (m l B T HT n Wd H k N Ba Bt Bf Bw By ca : Nat) (Aa : Option Addr) (L : List (List UInt8)) (J : Nat → Nat → World → Prop) (t : List UInt8) (W : World)
    (hJb : ∀ H k W W', J H k W → Below W.heap.size W W' → J H k W') (hJp : ∀ k W l' o o', J HT k W → HT ≤ l' → W.heap[l']? = some o → o.isCells = false → J HT k (W.putObj l' o'))
    (hY : ∀ k v W2, HT ≤ W2.heap.size → k < N → RArg L H Wd HT k v W2 → J HT k W2 → YieldAt Fence.wide m Tryz.prog l #[v] W2 fun e W' => e = .returned (.bool true) ∧ J HT (k + 1) W' ∧ Kept HT B W2 W' ∧ KeepsOthers W2 W')
    (hHT : HT ≤ W.heap.size) (hca : W.cell? ⟨Ba, 0, none⟩ = some (.slice Aa n ca)) (hct : W.cell? ⟨Bt, 0, none⟩ = some (.slice (some ⟨T, 0, none⟩) n n)) (hcw : W.cell? ⟨Bw, 0, none⟩ = some (.int .i64 Wd)) (hcy : W.cell? ⟨By, 0, none⟩ = some (.func (.yield l) #[] #[]))
    (hb : BytesAt W T t) (ht : t.length = n) (hn : n = H * Wd) (hW : 1 ≤ Wd) (hW2 : Wd ≤ 1000) (hH : H ≤ 1000) (hk : choice L k = t) (hkN : k < N) (hj : J HT k W) :
    Calls Tryz.prog 77 #[.int .i64 n, .pointer (some ⟨Ba, 0, none⟩), .pointer (some ⟨Bt, 0, none⟩), .pointer (some ⟨Bf, 0, none⟩), .pointer (some ⟨Bw, 0, none⟩), .pointer (some ⟨By, 0, none⟩)] W fun e W' =>
      e = .returned (.bool true) ∧ J HT (k + 1) W' ∧ Kept HT B W W' ∧ W.heap.size ≤ W'.heap.size := by
  have HJB := Lib.hid hJb; have HJP := Lib.hid hJp; have HY := Lib.hid hY; have HB := Lib.hid hb; have HTL := Lib.hid ht; have HN := Lib.hid hn; have HK := Lib.hid hk; have HJ := Lib.hid hj
  have HH := Lib.hid (show H * Wd ≤ 1000 * 1000 from Nat.mul_le_mul hH hW2)
  have hn2 : n ≤ 1000000 := by rw [hn]; exact HH.out
  clear hJb hJp hY hb ht hn hk hj
  refine (callsIn_wide (n := m + 2)).1 (callsIn_of_wp_marks Tryz.func77 rfl trivial ?_ rfl)
  refine wpIn_wide.2 ?_
  simp only [Tryz.ntmps77, List.size_toArray, List.length_cons, List.length_nil, Nat.reduceAdd, Nat.reduceSub, Array.replicate_succ, Array.replicate_zero, List.push_toArray, List.append_toArray, List.nil_append, List.cons_append]
  have bl := Boxed.new W 29 (.slice none 0 0)
  have b1 := below_alloc1 W (.cells #[.slice none 0 0] 29)
  go_upto_region 11 with fail
  generalize W.alloc (.cells #[.slice none 0 0] 29) = Wa at bl b1 ⊢
  have ct1 := cell_later b1 hct
  have cw1 := cell_later b1 hcw
  have HBL := Lib.hid bl; have HB1 := Lib.hid b1
  have hcy1 := Lib.hid (cell_later b1 hcy)
  clear bl b1
  have hWi : (1 : Int) ≤ (Wd : Int) := by omega
  go_wp2_with fail
  refine (ochunk _ _ _ hWi ⟨_, _, _, rfl⟩).mono ?_; rintro e w2 ⟨rfl, rfl⟩
  have bs := (Boxed.new Wa 59 (.slice (some ⟨T, 0, none⟩) n n)).alloc (.cells #[.int .i64 Wd] 3)
  have bn := Boxed.new (Wa.alloc (.cells #[.slice (some ⟨T, 0, none⟩) n n] 59)) 3 (.int .i64 Wd)
  rw [World.size_alloc] at bn
  have b2 : Below Wa.heap.size Wa ((Wa.alloc (.cells #[.slice (some ⟨T, 0, none⟩) n n] 59)).alloc (.cells #[.int .i64 Wd] 3)) := ((Below.refl _ Wa).alloc (Nat.le_refl _) _).alloc (by simp) _
  have bz : ((Wa.alloc (.cells #[.slice (some ⟨T, 0, none⟩) n n] 59)).alloc (.cells #[.int .i64 Wd] 3)).heap.size = Wa.heap.size + 2 := by simp
  generalize (Wa.alloc (.cells #[.slice (some ⟨T, 0, none⟩) n n] 59)).alloc (.cells #[.int .i64 Wd] 3) = Wb at bs bn b2 bz ⊢
  have bl2 : Boxed Wb W.heap.size 29 (.slice none 0 0) := (b2.block _ HBL.out.lt).trans HBL.out
  have HBW := Lib.hid (show Below W.heap.size W Wb from HB1.out.trans (b2.mono HB1.out.size))
  have HBZ := Lib.hid bz
  have HBS := Lib.hid (And.intro bs bn); have HBL2 := Lib.hid bl2
  have hbl := HBL.out.lt
  clear bs bn b2 bz bl2 ct1 cw1 hbl
  go_wp2_with fail
  refine wp_range (m + 2) (gf := 110) (lb := #[.pointer (some ⟨Wa.heap.size, 0, none⟩), .pointer (some ⟨Wa.heap.size + 1, 0, none⟩)]) rfl (enters_of Tryz.func110 (by kernel_rfl) rfl)
    H W.heap.size (by have := HBL2.out.lt; exact this) (fun _ k v _ => v = .slice (some ⟨T, k * Wd, none⟩) Wd Wd) (LI W W.heap.size H Wd t)
    ?seq ?arg ?ib ?is ?ip ?i0 ?round ?done
  case seq =>
    intro W1 hb1 _
    have hsz := hb1.size
    have hz := HBZ.out
    exact chunk_iter (m + 2) _ Wa.heap.size (Wa.heap.size + 1) W.heap.size T Wd H n W1 hW hW2 hH (by rw [← HN.out]; exact Nat.le_refl _)
      (by rw [← HN.out]; exact cell_later hb1 HBS.out.1.cell) (cell_later hb1 HBS.out.2.cell) (by omega) (by omega) (by have := HBL.out.lt; omega) (by have := HBL.out.lt; omega)
  case arg => exact fun _ k v W W' h _ => h
  case ib => exact fun H k W W' h hb => h.below hb
  case is =>
    rintro H' k' W' T' i u ⟨⟨v, h1, h2⟩, h3⟩ hT hTH
    have hbb := HBW.out.size
    exact ⟨⟨v, (Below.heap_setCell _ _ _ _ (by show W.heap.size ≠ T'; have := HBL2.out.lt; omega)).trans h1, own_set_other h2 hTH u⟩, h3.setCell (p := ⟨T', i, none⟩) (by show W.heap.size ≤ T'; omega) u⟩
  case ip =>
    rintro H' k' W' l' o o' ⟨⟨v, h1, h2⟩, h3⟩ hl ho hc
    have hbb := HBW.out.size
    exact ⟨⟨v, h1.kept (grownBy_putObj' W' l' o') (fun e => by injection e with e; have := HBL2.out.lt; omega), ownsRow_putObj h2 o' ho hc⟩,
      h3.grown (grownBy_putObj' W' l' o') h3.size (fun k e => by injection e with e; omega)⟩
  case i0 =>
    intro H' W' hb hH hH'
    exact ⟨⟨_, (hb.block _ HBL2.out.lt).trans HBL2.out, World.ownsRow_nil _ _ _ _⟩, HBW.out.trans (hb.mono HBW.out.size)⟩
  case round =>
    intro H' k' v W2 W2' hH' hHW hkN hA hI hs
    subst hA
    have HI := Lib.hid hI
    clear hI
    gi_wp2
    refine ⟨trivial, ?_⟩
    rintro - ⟨⟨v, h1, h2⟩, h3⟩
    have hkW : k' * Wd + Wd ≤ t.length := by rw [HTL.out, HN.out, ← Nat.succ_mul]; exact Nat.mul_le_mul_right Wd hkN
    have hT : T < W.heap.size := World.block_lt_of_cell? _ _ (HB.out 0 (by omega)).1
    have hcv := conv_mid (HB.out.later h3 hT) hkW Wd
    obtain ⟨S, hS⟩ : ∃ S : ByteArray, ⟨((t.drop (k' * Wd)).take Wd).toArray⟩ = S := ⟨_, rfl⟩
    rw [hS] at hcv
    have HSS := Lib.hid (show (lineS H Wd t)[k']? = some S by rw [lineS_get hkN, hS])
    have hlt := HBL2.out.lt
    have hbz := HBW.out.size
    have hbH : W.heap.size < H' := by omega
    obtain ⟨q, hq⟩ : ∃ q, k' * Wd = q := ⟨_, rfl⟩
    rw [hq] at hcv ⊢
    have hc := h1.cell
    have hHW2 : H' ≤ W2'.heap.size := by omega
    have hk6 : k' ≤ 1000 := by omega
    obtain ⟨xs, hxs⟩ : ∃ xs, ((lineS H Wd t).take k').map Value.string = xs := ⟨_, rfl⟩
    rw [hxs] at h2
    have HXS := Lib.hid hxs; have H3 := Lib.hid h3; have HKN := Lib.hid hkN
    obtain ⟨i0, hi, hz0, hz1, hz2⟩ := info_parts Tryz.infoStr
    clear hS hq hxs h3 hkW hT hs
    gi_wp2_with (gi_at_builtin; refine wpListIn_append_own _ rfl _ _ 29 rfl H' 9 i0 (.string ByteArray.empty) 1 16 Tryz.underlying29 hi hz0 hz1 hz2 rfl (by decide) _ _ _ rfl (h2.alloc _) ⟨W2'.heap.size, 0, none⟩ 1 1 [.string S] rfl rfl (cell_one_new _ _ _) (by simp [Value.oneCell']) (by unfold maxLen; omega) (by omega) (by simp; omega) ?_; intro v' w1 hown' hgrow _; obtain ⟨g', cap', rfl⟩ := ownsRow_succ hown'; obtain ⟨hv1, hv2, hr2, hk2, hkk2, hb2⟩ := boxed_app h1 (by decide) h2 hHW2 hbH hown' hgrow; have hc1 := hv1.cell; have hf1 := hv1.frozen)
    refine ⟨hkk2, hk2, ⟨_, hv2, ?_⟩, H3.out.trans hb2⟩
    have e : ((lineS H Wd t).take (k' + 1)).map Value.string = xs ++ [.string S] := by
      have hl := lineS_len H Wd t
      have h4 := HSS.out
      rw [List.getElem?_eq_getElem (by rw [hl]; exact HKN.out)] at h4
      injection h4 with h4
      rw [List.take_succ_eq_append_getElem (by rw [hl]; exact HKN.out), List.map_append, HXS.out, h4]; rfl
    rw [e]; exact hr2
  case done =>
    rintro D HT' W3 hD hDH hHW ⟨⟨v, h1, h2⟩, h3⟩ hK
    have hjv := HJB.out _ _ _ _ HJ.out h3
    have hl := lineS_len H Wd t
    rw [List.take_of_length_le (by rw [hl]; exact Nat.le_refl _)] at h2
    have h2b : W3.ownsRow HT 9 1 v H ((lineS H Wd t).map Value.string) := by
      refine ⟨h2.1, ?_⟩
      rcases h2.2 with h0 | ⟨g, cap, cur, q0, q1, q2, q3⟩
      · exact .inl h0
      · exact .inr ⟨g, cap, cur, q0, by have := HBW.out.size; omega, q2, q3⟩
    obtain ⟨A, c, rfl, _, _⟩ := own_form h2
    have hsz3 := h3.size
    obtain ⟨fn, tmps, assign, body, hy, hR⟩ := yield_any (m' := m + 2 - 1) (HY.out k (.slice A H c) W3 (by omega) hkN (by unfold RArg; rw [HK.out]; exact h2b) hjv)
    have hcl := h1.cell
    have hcy3 := cell_later h3 hcy
    have H3 := Lib.hid h3; have HKK := Lib.hid hK
    clear h1 h2 h2b hjv hK
    go_upto_region 14 with fail
    refine (wpIn_wide (n := m + 2)).1 ?_
    gi_wp2
    refine hR.mono ?_
    rintro e W4 ⟨rfl, hj4, hk4, hko4⟩
    have hK4 := hko4.same D _ HKK.out rfl
    have HJ4 := Lib.hid hj4; have HK4 := Lib.hid hk4; have HO4 := Lib.hid hko4
    clear hR hj4 hk4 hko4 hy
    gi_wp2
    go_wp2_with fail
    have hbz := HBW.out.size
    have hHD : HT ≤ D := by omega
    have hsz4 := HO4.out.size
    refine ⟨by simp, .inl ⟨_, _, rfl, run_takeDeferred hK4, ?_⟩⟩
    refine ⟨_, results_tmp rfl _ _ _, rfl, HJP.out _ _ D _ _ HJ4.out hHD hK4 rfl, fun b hb hbB => ?_, by simp [World.putObj]; omega⟩
    refine (World.putObj_heap_other (by omega)).trans ((HK4.out b hb hbB).trans (H3.out.block b (by omega)))
end Go.Proofs.YtafbhadfeemppaaGreatDoor
