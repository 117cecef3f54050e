/- Chapter 12: several texts in one (RdReads, RdOnly). -/
import Derived.Test.YtafbhadfeemppaaGreatDoorRdGT
namespace Go.Proofs.YtafbhadfeemppaaGreatDoor
open Go.RowKit Go.Shelf
attribute [local go_sem] Oper.semAt_some

set_option maxRecDepth 100000 in
set_option maxHeartbeats 2000000 in
theorem reads_iter (m l B n Wd H ga oa ca Bal Bwd : Nat) (L : List (List UInt8)) (W1 : World)
    (hal : W1.cell? ⟨Bal, 0, none⟩ = some (.slice (some ⟨ga, oa, none⟩) n ca)) (hwd : W1.cell? ⟨Bwd, 0, none⟩ = some (.int .i64 Wd))
    (hBW : B < W1.heap.size) (hga : ga ≠ B) (hgl : ga < W1.heap.size) (hrows : ∀ i (h : i < L.length), ∃ r cap, r < W1.heap.size ∧ r ≠ B ∧ W1.cell? ⟨ga, oa + i, none⟩ = some (.slice (some ⟨r, 0, none⟩) L[i].length cap) ∧ BytesAt W1 r L[i])
    (hn : n = H * Wd) (hn0 : 0 < n) (hL : L.length = n) (hW : 1 ≤ Wd) (hW2 : Wd ≤ 1000) (hH : H ≤ 1000) (hle : ∀ b ∈ L, b.length ≤ 256) :
    IterN m Tryz.prog 40 #[.pointer (some ⟨Bal, 0, none⟩), .pointer (some ⟨Bwd, 0, none⟩)] (Rd.size L) B (RArg L H Wd) l W1 := by
  intro J hJb hJs hJp hJ0 hY
  refine callsIn_wide.2 ?_
  have HT := Lib.hid (otexts m l B n Wd H ga oa ca L J W1 hJb hJs hJp hJ0 hY hBW hga hgl hrows hn hn0 hL hW hW2 hH hle)
  clear hJb hJs hJp hJ0 hY hga hgl hrows hn hL hle hBW
  go_enter Tryz.func40, Tryz.ntmps40
  go_wp2_with fail
  refine HT.out.mono ?_; rintro e W2 ⟨rfl, HH, h1, h2, h3⟩
  have H3 := Lib.hid (And.intro h1 (And.intro h2 h3))
  clear h1 h2 h3
  go_wp2_with fail
  go_end0
  exact ⟨⟨_, rfl⟩, HH, H3.out⟩
/-- The lines that are zones, of the first choices. -/
noncomputable def KS (L : List (List UInt8)) (H Wd k : Nat) : List (List ByteArray) := ((List.range k).map fun i => lineS H Wd (choice L i)).filter fun R => decide (Zn.prsE (txts R) = 0)
theorem KS_succ (L : List (List UInt8)) (H Wd k : Nat) : KS L H Wd (k + 1) = KS L H Wd k ++ if Zn.prsE (txts (lineS H Wd (choice L k))) = 0 then [lineS H Wd (choice L k)] else [] := by
  unfold KS
  rw [List.range_succ, List.map_append, List.filter_append]
  congr 1
  by_cases h : Zn.prsE (txts (lineS H Wd (choice L k))) = 0
  · rw [if_pos h]; simp [h]
  · rw [if_neg h]; simp [h]
theorem KS_le (L : List (List UInt8)) (H Wd k : Nat) : (KS L H Wd k).length ≤ k := by
  unfold KS
  refine Nat.le_trans (List.length_filter_le _ _) (by simp)
/-- What Readings has collected. -/
def RI (w : World) (B9 H Wd : Nat) (L : List (List UInt8)) (HT k : Nat) (W : World) : Prop :=
  (∃ v vs, Boxed W B9 31 v ∧ W.ownsRow HT 29 1 v (KS L H Wd k).length vs ∧ vs.length = (KS L H Wd k).length ∧
    ∀ i (h : i < vs.length) (h' : i < (KS L H Wd k).length), W.ownsRow HT 9 1 vs[i] H ((KS L H Wd k)[i].map Value.string)) ∧ Below w.heap.size w W
theorem RI.below {w : World} {B9 H Wd : Nat} {L : List (List UInt8)} {HT k : Nat} {W W' : World} (h : RI w B9 H Wd L HT k W) (hb : Below W.heap.size W W') : RI w B9 H Wd L HT k W' := by
  obtain ⟨⟨v, vs, h1, h2, h3, h4⟩, h5⟩ := h
  exact ⟨⟨v, vs, (hb.block _ h1.lt).trans h1, ownsRow_later h2 hb, h3, fun i h h' => ownsRow_later (h4 i h h') hb⟩, h5.trans (hb.mono h5.size)⟩
theorem own_cells_kept {W W' : World} {base e size n : Nat} {v : Value} {xs : List Value} (h : W.ownsRow base e size v n xs) (hk : ∀ (b : Nat) (c : Array Value) (e : TypeId) (f : Nat × Nat), W.heap[b]? = some (Obj.cells c e f) → W'.heap[b]? = W.heap[b]?) : W'.ownsRow base e size v n xs := by
  refine ⟨h.1, ?_⟩
  rcases h.2 with h0 | ⟨g, cap, cur, q0, q1, q2, q3⟩
  · exact .inl h0
  · exact .inr ⟨g, cap, cur, q0, q1, (hk g _ _ _ q2).trans q2, q3⟩
/-- What Readings returns. -/
noncomputable def rdK (G : List (List ByteArray)) : List (List ByteArray) := KS (flatG G) G.length (G.headD []).length (Rd.size (flatG G))
/-- Rows of texts in blocks of their own. -/
def OwnGrid (w : World) (base : Nat) (A : Option Addr) (c : Nat) (K : List (List ByteArray)) (H : Nat) : Prop :=
  ∃ vs, w.ownsRow base 29 1 (.slice A K.length c) K.length vs ∧ vs.length = K.length ∧ ∀ i (h : i < vs.length) (h' : i < K.length), w.ownsRow base 9 1 vs[i] H (K[i].map Value.string)
theorem own_less {w : World} {base b0 e size n : Nat} {v : Value} {xs : List Value} (h : w.ownsRow base e size v n xs) (hb : b0 ≤ base) : w.ownsRow b0 e size v n xs := by
  obtain ⟨h1, h2⟩ := h
  refine ⟨h1, ?_⟩
  rcases h2 with h2 | ⟨g, cap, cur, h0, h3, h4⟩
  · exact .inl h2
  · exact .inr ⟨g, cap, cur, h0, Nat.le_trans hb h3, h4⟩
def RdPost (G : List (List ByteArray)) (w : World) (e : Ending) (w' : World) : Prop :=
  (cntE G ≠ 0 → e = .returned (.tuple #[.slice none 0 0, .int .i64 (cntE G)])) ∧ (cntE G = 0 → ∃ A c, e = .returned (.tuple #[.slice A (rdK G).length c, .int .i64 0]) ∧ GridAt w' A (rdK G) ∧ OwnGrid w' w.heap.size A c (rdK G) G.length) ∧ Below w.heap.size w w'
theorem flat_all {G : List (List ByteArray)} {m : Nat} (h : ∀ r ∈ G, r.length = m) : G.flatten.length = G.length * m := by
  induction G with
  | nil => simp
  | cons r g ih => rw [List.flatten_cons, List.length_append, h r (List.mem_cons_self ..), ih fun x hx => h x (List.mem_cons_of_mem _ hx), List.length_cons, Nat.succ_mul, Nat.add_comm]
/-- The shape of a complete reading. -/
theorem okG_shape {G : List (List ByteArray)} (h : okG G = true) : ((G.length = 3 ∧ (G.headD []).length = 30) ∨ (G.length = 2 ∧ (G.headD []).length = 36) ∨ (G.length = 2 ∧ (G.headD []).length = 44)) ∧ (∀ r ∈ G, r.length = (G.headD []).length) ∧ (flatG G).length = G.length * (G.headD []).length := by
  have hf : fmN (G.map List.length) ≠ 0 := by
    unfold okG at h
    rw [Bool.and_eq_true] at h
    exact of_decide_eq_true h.2
  have hh : (G.map List.length).headD 0 = (G.headD []).length := by cases G <;> rfl
  have hall : ∀ r ∈ G, r.length = (G.headD []).length := by
    intro r hr
    unfold fmN at hf
    split at hf
    · rename_i ha
      have := of_decide_eq_true (List.all_eq_true.1 ha r.length (List.mem_map.2 ⟨r, hr, rfl⟩))
      rw [this, hh]
    · exact absurd rfl hf
  refine ⟨?_, hall, by unfold flatG; rw [List.length_map]; exact flat_all hall⟩
  unfold fmN at hf
  split at hf
  · rw [hh, List.length_map] at hf
    unfold fm at hf
    split at hf
    · rename_i g; exact .inl g
    · split at hf
      · rename_i g; exact .inr (.inl g)
      · split at hf
        · rename_i g; exact .inr (.inr g)
        · exact absurd rfl hf
  · exact absurd rfl hf
theorem Tryz.infoRow : (Tryz.prog.info? 29).map (fun i => (i.zero, i.size, i.bytes)) = some (some (.slice none 0 0), 1, 24) := by kernel_rfl
theorem KS_len {L : List (List UInt8)} {H Wd k : Nat} {R : List ByteArray} (h : R ∈ KS L H Wd k) : R.length = H := by
  unfold KS at h
  obtain ⟨i, _, rfl⟩ := List.mem_map.1 (List.mem_filter.1 h).1
  exact lineS_len _ _ _
/-- Rows of texts that the call owns, in a row that it owns. -/
theorem own_grid {W : World} {base e : Nat} {A : Option Addr} {c H : Nat} {vs : List Value} {K : List (List ByteArray)} (h : W.ownsRow base e 1 (.slice A K.length c) K.length vs) (h3 : vs.length = K.length)
    (h4 : ∀ i (h : i < vs.length) (h' : i < K.length), W.ownsRow base 9 1 vs[i] H (K[i].map Value.string)) (hK : ∀ R ∈ K, R.length = H) : GridAt W A K := by
  rcases (Src.of_own h).2 with h0 | ⟨g, off, e, hc⟩
  · exact .inl h0
  · refine .inr ⟨g, off, e, fun i hi => ?_⟩
    have hi' : i < vs.length := by omega
    have ho := h4 i hi' hi
    obtain ⟨Ai, ci, e1, _, _⟩ := own_form ho
    have hl := hK _ (List.getElem_mem hi)
    refine ⟨Ai, ci, ?_, ?_⟩
    · rw [hc i _ (List.getElem?_eq_getElem hi'), e1, hl]
    · rw [e1] at ho
      have := Src.of_own ho
      rw [← hl] at this
      exact this
theorem keeps_of_below {W W' : World} (h : Below W.heap.size W W') : KeepsOthers W W' := ⟨h.size, fun k _ hk _ => (h.block k (Array.getElem?_eq_some_iff.1 hk).1).trans hk⟩
theorem RI.skip {w : World} {B9 H Wd : Nat} {L : List (List UInt8)} {HT k : Nat} {W : World} (h : RI w B9 H Wd L HT k W) (e : KS L H Wd (k + 1) = KS L H Wd k) : RI w B9 H Wd L HT (k + 1) W := by
  unfold RI at *
  rw [e]; exact h
theorem own_over {W w1 : World} {n₀ e1 e2 s1 s2 n1 n2 B : Nat} {v1 v2 u : Value} {x1 x2 : List Value} {tmp : Obj} (h : W.ownsRow n₀ e1 s1 v1 n1 x1) (h2 : W.ownsRow n₀ e2 s2 v2 n2 x2) (he : e1 ≠ e2)
    (hgrow : (W.alloc tmp).grownBy w1 v2.ownBlock) (hB : B < n₀) : (w1.setCell ⟨B, 0, none⟩ u).ownsRow n₀ e1 s1 v1 n1 x1 :=
  own_set_other ((h.alloc tmp).kept hgrow (own_ne_type (h.alloc tmp) (h2.alloc tmp) he)) hB u
theorem lineS_size (H Wd : Nat) : ∀ (t : List UInt8), ∀ s ∈ lineS H Wd t, s.size ≤ Wd := by
  intro t s hs
  unfold lineS at hs
  obtain ⟨l, hl, rfl⟩ := List.mem_map.1 hs
  rw [arr_size]
  obtain ⟨i, hi, rfl⟩ := List.getElem_of_mem hl
  rw [Rd.cut_length] at hi
  have := Rd.cut_get Wd H t i hi
  rw [List.getElem?_eq_getElem (by rw [Rd.cut_length]; exact hi)] at this
  injection this with this
  rw [this, List.length_take]; omega
set_option maxRecDepth 100000 in
set_option maxHeartbeats 4000000 in
theorem oreadings (G : List (List ByteArray)) (A : Option Addr) (c : Nat) (w : World) (hG : GridAt w A G) (hn : G.length ≤ 4194304) (hN : G.flatten.length ≤ 4194304) (hs : ∀ r ∈ G, ∀ s ∈ r, s.size ≤ 140737488351232) (hd : Dat.At w) (hx : Opt.Lax w) :
    Calls Tryz.prog 17 #[.slice A G.length c] w (RdPost G w) := by
  have HCN := Lib.hid (ocount G A c w hG hn hN hs)
  have HCH := Lib.hid (fun W (hW : GridAt W A G) => ochoices G A c W hW hn hN hs)
  have HG := Lib.hid hG; have HDX := Lib.hid (And.intro hd hx)
  clear hG hN hs hd hx
  obtain ⟨E, hE⟩ : ∃ E, cntE G = E := ⟨_, rfl⟩
  obtain ⟨CN, hCN⟩ : ∃ CN, cntN G = CN := ⟨_, rfl⟩
  rw [hE, hCN] at HCN
  have HE := Lib.hid hE
  clear hE hCN
  by_cases h0 : E = 0
  · subst h0
    refine (callsIn_wide (n := 9)).1 (callsIn_of_wp_marks Tryz.func17 rfl trivial ?_ rfl)
    refine wpIn_wide.2 ?_
    simp only [Tryz.ntmps17, List.size_toArray, List.length_cons, List.length_nil, Nat.reduceAdd, Nat.reduceSub, Array.replicate_succ, Array.replicate_zero, List.push_toArray, List.append_toArray, List.nil_append, List.cons_append]
    go_wp2_with fail
    refine HCN.out.mono ?_; rintro e w1 ⟨rfl, hb1⟩
    have HB1 := Lib.hid hb1
    clear hb1
    have hok : okG G = true := by
      have h := HE.out
      unfold cntE at h
      by_cases ho : okG G = false
      · rw [if_pos ho] at h; cases h
      · simpa using ho
    go_wp2_with fail
    refine (HCH.out w1 (HG.out.later HB1.out)).mono ?_; rintro e w2 hp
    obtain ⟨v, rows, rfl, hl, ht⟩ := hp.2.1 hok
    obtain ⟨A1, c1, rfl, hc1, hm1⟩ := own_form hl.1
    have HB2 := Lib.hid (HB1.out.trans (hp.2.2.mono HB1.out.size))
    have HL := Lib.hid hl; have HTX := Lib.hid ht
    obtain ⟨Wd, hWd⟩ : ∃ Wd, (G.headD []).length = Wd := ⟨_, rfl⟩
    rw [hWd]
    have HWD := Lib.hid hWd
    obtain ⟨hsh, hall, hfl⟩ := okG_shape hok
    rw [hWd] at hsh hfl
    obtain ⟨L, hLL⟩ : ∃ L, flatG G = L := ⟨_, rfl⟩
    rw [hLL] at ht hfl
    have hrl := txt_len ht
    have hNS : Rd.size L ≤ 4096 := by
      have h := HE.out
      unfold cntE at h
      rw [if_neg (by rw [hok]; decide), hLL] at h
      by_cases hb : 4096 < Rd.size L
      · rw [if_pos hb] at h; cases h
      · omega
    have hle : ∀ b ∈ L, b.length ≤ 256 := by
      intro b hb
      rw [← hLL] at hb
      obtain ⟨s, _, rfl⟩ := List.mem_map.1 hb
      exact Rd.srt_len _
    have HLE := Lib.hid hle; have HLN := Lib.hid hfl; have HSH := Lib.hid hsh; have HLG := Lib.hid hLL; have HRL := Lib.hid hrl
    have bal := ((Boxed.new w2 65 (.slice A1 rows.length c1)).alloc (.cells #[.int .i64 (Wd : Int)] 3)).alloc (.cells #[.slice none 0 0] 31)
    have bwd := (Boxed.new (w2.alloc (.cells #[.slice A1 rows.length c1] 65)) 3 (.int .i64 (Wd : Int))).alloc (.cells #[.slice none 0 0] 31)
    have b9 := Boxed.new ((w2.alloc (.cells #[.slice A1 rows.length c1] 65)).alloc (.cells #[.int .i64 (Wd : Int)] 3)) 31 (.slice none 0 0)
    simp only [World.size_alloc] at bwd b9
    have hb3 : Below w2.heap.size w2 (((w2.alloc (.cells #[.slice A1 rows.length c1] 65)).alloc (.cells #[.int .i64 (Wd : Int)] 3)).alloc (.cells #[.slice none 0 0] 31)) := (((Below.refl _ w2).alloc (Nat.le_refl _) _).alloc (by simp) _).alloc (by simp; omega) _
    have hz3 : (((w2.alloc (.cells #[.slice A1 rows.length c1] 65)).alloc (.cells #[.int .i64 (Wd : Int)] 3)).alloc (.cells #[.slice none 0 0] 31)).heap.size = w2.heap.size + 3 := by simp
    clear hp hl ht hc1 hm1 hWd hok hsh hall hfl hLL hrl hle
    go_upto_region 6 with fail
    generalize ((w2.alloc (.cells #[.slice A1 rows.length c1] 65)).alloc (.cells #[.int .i64 (Wd : Int)] 3)).alloc (.cells #[.slice none 0 0] 31) = w3 at bal bwd b9 hb3 hz3 ⊢
    have HBX := Lib.hid (And.intro bal (And.intro bwd b9)); have HB3 := Lib.hid hb3; have HZ3 := Lib.hid hz3
    clear bal bwd b9 hb3 hz3
    go_wp2_with fail
    refine wp_range 8 (gf := 40) (lb := #[.pointer (some ⟨w2.heap.size, 0, none⟩), .pointer (some ⟨w2.heap.size + 1, 0, none⟩)]) rfl (enters_of Tryz.func40 (by kernel_rfl) rfl)
      (Rd.size L) (w2.heap.size + 1 + 1) (by have := HZ3.out; omega) (RArg L G.length Wd) (RI w (w2.heap.size + 1 + 1) G.length Wd L) ?seq ?arg ?ib ?is ?ip ?i0 ?round ?done
    case seq =>
      intro W1 hb1' _
      have hz := HZ3.out
      have hsz := hb1'.size
      have hsh := HSH.out
      have hn0 : 0 < rows.length := by rw [HRL.out, HLN.out]; rcases hsh with ⟨a, b⟩ | ⟨a, b⟩ | ⟨a, b⟩ <;> rw [a, b] <;> decide
      obtain ⟨ga, oa, rfl, _, _⟩ := HL.out.get rfl hn0
      have hb2' : Below w2.heap.size w2 W1 := HB3.out.trans (hb1'.mono HB3.out.size)
      have hgl : ga < w2.heap.size := by
        obtain ⟨g', o', e, hc, _⟩ := HL.out.get rfl hn0
        injection e with e; injection e with e1 e2
        subst e1; subst e2
        exact World.block_lt_of_cell? _ _ hc
      refine reads_iter 8 _ (w2.heap.size + 1 + 1) rows.length Wd G.length ga oa c1 w2.heap.size (w2.heap.size + 1) L W1 (cell_later hb1' HBX.out.1.cell) (cell_later hb1' HBX.out.2.1.cell) (by omega) (by omega) (by omega) (fun i hi => ?_)
        (by rw [HRL.out, HLN.out]) hn0 HRL.out.symm (by omega) (by omega) (by omega) HLE.out
      have hi' : i < rows.length := by rw [HRL.out]; exact hi
      obtain ⟨g', o', e, hc, hby⟩ := HL.out.get rfl hi'
      injection e with e; injection e with e1 e2
      subst e1; subst e2
      have hr := (HL.out.2.2 _ (List.getElem_mem hi')).2.1
      have e3 : rows[i].2.2 = L[i] := by
        have h2 : (Ln.txt rows)[i]? = some L[i] := by rw [HTX.out, HLG.out, List.getElem?_eq_getElem hi]
        unfold Ln.txt at h2
        rw [List.getElem?_map, List.getElem?_eq_getElem hi'] at h2
        injection h2
      rw [e3] at hc hby
      exact ⟨rows[i].1, rows[i].2.1, by omega, by omega, cell_later hb2' hc, hby.later hb2' hr⟩
    case arg => exact fun H k v W W' h hk => own_cells_kept h hk
    case ib => exact fun H k W W' h hb => h.below hb
    case is =>
      rintro H' k' W' T' i u ⟨⟨v, vs, h1, h2, h3, h4⟩, h5⟩ hT hTH
      have hz := HZ3.out
      have hb0 := HB2.out.size
      exact ⟨⟨v, vs, (Below.heap_setCell _ _ _ _ (by show w2.heap.size + 1 + 1 ≠ T'; omega)).trans h1, own_set_other h2 hTH u, h3, fun i h h' => own_set_other (h4 i h h') hTH u⟩, h5.setCell (p := ⟨T', _, none⟩) (by show w.heap.size ≤ T'; omega) u⟩
    case ip =>
      rintro H' k' W' l' o o' ⟨⟨v, vs, h1, h2, h3, h4⟩, h5⟩ hl' ho hc
      have hz := HZ3.out
      have hb0 := HB2.out.size
      exact ⟨⟨v, vs, h1.kept (grownBy_putObj' W' l' o') (fun e => by injection e with e; omega), ownsRow_putObj h2 o' ho hc, h3, fun i h h' => ownsRow_putObj (h4 i h h') o' ho hc⟩,
        h5.grown (grownBy_putObj' W' l' o') h5.size (fun k e => by injection e with e; omega)⟩
    case i0 =>
      intro H' W' hb hH hH'
      exact ⟨⟨_, [], (hb.block _ HBX.out.2.2.lt).trans HBX.out.2.2, World.ownsRow_nil _ _ _ _, rfl, fun i h => absurd h (by simp)⟩, HB2.out.trans ((HB3.out.trans (hb.mono HB3.out.size)).mono HB2.out.size)⟩
    case round =>
      intro H' k' v W2 W2' hH' hHW hkN hA hI hs
      have HA := Lib.hid hA; have HI := Lib.hid hI
      clear hA hI
      gi_wp2
      refine ⟨trivial, ?_⟩
      rintro hA2 hI2
      have HI2 := Lib.hid hI2
      obtain ⟨⟨v9, vs, h1, h2, h3, h4⟩, h5⟩ := hI2
      obtain ⟨A2, c2, rfl, _, _⟩ := own_form hA2
      have hz := HZ3.out
      have hb0 := HB2.out.size
      have hsh := HSH.out
      have hWd : Wd ≤ 44 ∧ 30 ≤ Wd ∧ G.length ≤ 3 := by omega
      obtain ⟨R, hR⟩ : ∃ R, lineS G.length Wd (choice L k') = R := ⟨_, rfl⟩
      have hRl : R.length = G.length := by rw [← hR]; exact lineS_len _ _ _
      have hRs : ∀ s ∈ R, s.size ≤ 140737488351232 := by intro s hs; rw [← hR] at hs; have := lineS_size _ _ _ s hs; omega
      unfold RArg at hA2
      rw [hR] at hA2
      have hTA : TextsAt W2' A2 R := by have := Src.of_own hA2; rw [← hRl] at this; exact this
      obtain ⟨V, hV⟩ : ∃ V, Zn.prsV (txts R) = V := ⟨_, rfl⟩
      obtain ⟨E, hEE⟩ : ∃ E, Zn.prsE (txts R) = E := ⟨_, rfl⟩
      have HP := Lib.hid (show Calls Tryz.prog 26 #[.slice A2 G.length c2] W2' fun e w' => e = .returned (.tuple #[.agg #[.int .i64 V.fmt, .string V.kind, .string V.state, .string V.sur, .string V.giv, .string V.num, .string V.nat, .string V.birth, .string V.sex, .string V.exp, .string V.opt, .string V.sec], .int .i64 E]) ∧ Below W2'.heap.size W2' w' from by
        have h := zparse R A2 c2 W2' (by omega) hRs hTA (HDX.out.1.below h5) (HDX.out.2.below h5)
        rw [hV, hEE, hRl] at h
        exact h)
      have hks := KS_succ L G.length Wd k'
      rw [hR, hEE] at hks
      have hkl := KS_le L G.length Wd k'
      have HKS := Lib.hid hks; have HA2 := Lib.hid hA2; have H4 := Lib.hid h4; have H5 := Lib.hid h5; have H3 := Lib.hid h3; have HR' := Lib.hid hR
      obtain ⟨KN, hKN⟩ : ∃ KN, (KS L G.length Wd k').length = KN := ⟨_, rfl⟩
      rw [hKN] at h2 hkl
      have HKN := Lib.hid hKN; have HHW := Lib.hid hHW; have HHS := Lib.hid hs; have HHH := Lib.hid hH'
      clear hks hA2 h4 h5 h3 hR hRl hRs hTA hV hEE hsh hWd hKN hHW hs hH'
      by_cases hE0 : E = 0
      · subst hE0
        gi_wp2_with fail
        refine ⟨trivial, (CallsIn.inRound _ (callsIn_wide.2 HP.out)).mono ?_⟩
        rintro e Wp ⟨rfl, hbp⟩
        have h1p : Boxed Wp (w2.heap.size + 1 + 1) 31 v9 := (hbp.block _ h1.lt).trans h1
        have h2p := ownsRow_later h2 hbp
        have c9 := (h1p.alloc (.cells #[.int .i64 V.fmt, .string V.kind, .string V.state, .string V.sur, .string V.giv, .string V.num, .string V.nat, .string V.birth, .string V.sex, .string V.exp, .string V.opt, .string V.sec] 42)).cell
        have HBP := Lib.hid hbp
        clear h1 h2 hbp
        obtain ⟨i0, hi, hz0, hz1, hz2⟩ := info_parts Tryz.infoRow
        have hbs := HBP.out.size
        have hHH := HHH.out; have hHWo := HHW.out; have hHSo := HHS.out
        gi_wp2_with (gi_at_builtin; refine wpListIn_append_own _ rfl _ _ 31 rfl H' 29 i0 (.slice none 0 0) 1 24 Tryz.underlying31 hi hz0 hz1 hz2 rfl (by decide) _ _ _ rfl ((h2p.alloc _).alloc _) ⟨Wp.heap.size + 1, 0, none⟩ 1 1 [.slice A2 G.length c2] rfl rfl ?c1 ?c2 ?c3 ?c4 ?c5 ?_)
        case c1 => have hcc := cell_one_new (Wp.alloc (.cells #[.int .i64 V.fmt, .string V.kind, .string V.state, .string V.sur, .string V.giv, .string V.num, .string V.nat, .string V.birth, .string V.sex, .string V.exp, .string V.opt, .string V.sec] 42)) (.slice A2 G.length c2) 29; rw [size_alloc1] at hcc; exact hcc
        case c2 => simp [Value.oneCell']
        case c3 => unfold maxLen; omega
        case c4 => omega
        case c5 => simp; omega
        · intro v' w1 hown' hgrow _
          obtain ⟨g', cap', rfl⟩ := ownsRow_succ hown'
          have hBH : w2.heap.size + 1 + 1 < H' := by omega
          have hpZ := HBP.out.alloc HBP.out.size (.cells #[.int .i64 V.fmt, .string V.kind, .string V.state, .string V.sur, .string V.giv, .string V.num, .string V.nat, .string V.birth, .string V.sex, .string V.exp, .string V.opt, .string V.sec] 42)
          obtain ⟨hv1, hv2, hr2, hk2, hkk2, hb2⟩ := boxed_app (h1p.alloc (.cells #[.int .i64 V.fmt, .string V.kind, .string V.state, .string V.sur, .string V.giv, .string V.num, .string V.nat, .string V.birth, .string V.sex, .string V.exp, .string V.opt, .string V.sec] 42)) (by decide) (h2p.alloc (.cells #[.int .i64 V.fmt, .string V.kind, .string V.state, .string V.sur, .string V.giv, .string V.num, .string V.nat, .string V.birth, .string V.sex, .string V.exp, .string V.opt, .string V.sec] 42)) (by simp; omega) hBH hown' hgrow
          have hc1 := hv1.cell
          have hf1 := hv1.frozen
          have hks : KS L G.length Wd (k' + 1) = KS L G.length Wd k' ++ [R] := by rw [HKS.out]; simp
          have HOV := Lib.hid (fun (v1 : Value) (n1 : Nat) (x1 : List Value) (h : W2'.ownsRow H' 9 1 v1 n1 x1) => own_over (u := .slice (some ⟨g', 0, none⟩) (KN + 1) cap') (ownsRow_later h hpZ) (h2p.alloc (.cells #[.int .i64 V.fmt, .string V.kind, .string V.state, .string V.sur, .string V.giv, .string V.num, .string V.nat, .string V.birth, .string V.sex, .string V.exp, .string V.opt, .string V.sec] 42)) (by decide) hgrow hBH)
          have HKK := Lib.hid ((Kept.of_below (B := w2.heap.size + 1 + 1) hpZ (by omega)).trans hkk2)
          have HKO := Lib.hid ((keeps_of_below hpZ).trans hk2)
          have HBB := Lib.hid (H5.out.trans ((hpZ.mono H5.out.size).trans (hb2.mono (by omega))))
          have HV2 := Lib.hid (And.intro hv2 hr2)
          have HKS2 := Lib.hid hks
          clear hown' hgrow hv1 hv2 hr2 hk2 hkk2 hb2 hks hpZ h1p h2p hi hz0 hz1 hz2
          gi_wp2
          refine ⟨HKK.out, HKO.out, ⟨_, vs ++ [.slice A2 G.length c2], HV2.out.1, ?_, ?_, fun i h h' => ?_⟩, HBB.out⟩
          · rw [HKS2.out, List.length_append, HKN.out]; exact HV2.out.2
          · rw [HKS2.out, List.length_append, List.length_append, H3.out]; rfl
          · refine HOV.out _ _ _ ?_
            simp only [HKS2.out] at h' ⊢
            by_cases hlt : i < vs.length
            · have h3 := H3.out
              rw [List.getElem_append_left hlt, List.getElem_append_left (by omega)]
              exact H4.out i hlt (by omega)
            · have h3 := H3.out
              have e1 : i = vs.length := by simp at h; omega
              subst e1
              have e2 : (vs ++ [Value.slice A2 G.length c2])[vs.length]'h = .slice A2 G.length c2 := by simp
              have e3 : (KS L G.length Wd k' ++ [R])[vs.length]'(h') = R := by
                rw [List.getElem_append_right (by omega)]
                simp
              rw [e2, e3]
              exact HA2.out
      · gi_wp2_with fail
        refine ⟨trivial, (CallsIn.inRound _ (callsIn_wide.2 HP.out)).mono ?_⟩
        rintro e Wp ⟨rfl, hbp⟩
        have hpZ := hbp.alloc hbp.size (.cells #[.int .i64 V.fmt, .string V.kind, .string V.state, .string V.sur, .string V.giv, .string V.num, .string V.nat, .string V.birth, .string V.sex, .string V.exp, .string V.opt, .string V.sec] 42)
        have HPZ := Lib.hid hpZ
        have HE0 := Lib.hid hE0
        clear hbp hpZ h1 h2
        gi_wp2_with fail
        exact ⟨Kept.of_below HPZ.out (by have := HHW.out; have := HHS.out; omega), keeps_of_below HPZ.out, (HI2.out.below HPZ.out).skip (by rw [HKS.out, if_neg HE0.out, List.append_nil])⟩
    case done =>
      rintro D H' W3 hD hDH hHW ⟨⟨v, vs, h1, h2, h3, h4⟩, h5⟩ hK
      obtain ⟨A3, c3, rfl, _, _⟩ := own_form h2
      have c9 := h1.cell
      have hz := HZ3.out
      have hb0 := HB2.out.size
      have hrd : rdK G = KS L G.length Wd (Rd.size L) := by unfold rdK; rw [HLG.out, HWD.out]
      have HBE := Lib.hid (h5.grown (grownBy_putObj' W3 D (.deferred none)) h5.size (fun k e => by injection e with e; omega))
      have HGR := Lib.hid (show GridAt (W3.putObj D (.deferred none)) A3 (rdK G) from by
        rw [hrd]
        exact own_grid (ownsRow_putObj h2 _ hK rfl) h3 (fun i h h' => ownsRow_putObj (h4 i h h') _ hK rfl) (fun R hR => KS_len hR))
      have hbH : w.heap.size ≤ H' := by omega
      have HOG := Lib.hid (show OwnGrid (W3.putObj D (.deferred none)) w.heap.size A3 c3 (rdK G) G.length from by
        rw [hrd]
        exact ⟨vs, own_less (ownsRow_putObj h2 _ hK rfl) hbH, h3, fun i h h' => own_less (ownsRow_putObj (h4 i h h') _ hK rfl) hbH⟩)
      obtain ⟨KN, hKN⟩ : ∃ KN, (KS L G.length Wd (Rd.size L)).length = KN := ⟨_, rfl⟩
      have HKN := Lib.hid (show (rdK G).length = KN by rw [hrd]; exact hKN)
      rw [hKN] at c9
      have HKD := Lib.hid hK
      clear h1 h2 h3 h4 h5 hrd hKN hK
      go_wp2_with fail
      refine ⟨by simp, .inl ⟨_, _, rfl, run_takeDeferred HKD.out, ?_⟩⟩
      refine ⟨_, results_tmp2 rfl _ _ _, fun h => absurd HE.out h, fun _ => ⟨A3, c3, ?_, HGR.out, HOG.out⟩, HBE.out⟩
      rw [HKN.out]; rfl
  · have h1 : ((E : Int) != 0) = true := by rw [bne_iff_ne]; exact h0
    have HE0 := Lib.hid h0
    clear h0
    go_enter Tryz.func17, Tryz.ntmps17
    go_wp2_with fail
    refine HCN.out.mono ?_; rintro e w1 ⟨rfl, hb1⟩
    have HB1 := Lib.hid hb1
    clear hb1
    go_wp2_with fail
    go_ret2
    refine ⟨fun _ => by rw [HE.out]; rfl, fun h => absurd (HE.out.symm.trans h) HE0.out, HB1.out⟩
end Go.Proofs.YtafbhadfeemppaaGreatDoor

namespace Go.Proofs.YtafbhadfeemppaaGreatDoor
open Go.RowKit

/-- What Only returns. -/
noncomputable def onlE (G : List (List ByteArray)) : Int := if cntE G ≠ 0 then cntE G else if (rdK G).length = 0 then 16 else if 1 < (rdK G).length then 25 else 0
noncomputable def onlV (G : List (List ByteArray)) : List ByteArray := if onlE G = 0 then (rdK G).headD [] else []
def OnlyPost (G : List (List ByteArray)) (w : World) (e : Ending) (w' : World) : Prop :=
  ∃ A c, e = .returned (.tuple #[.slice A (onlV G).length c, .int .i64 (onlE G)]) ∧ TextsAt w' A (onlV G) ∧ Below w.heap.size w w'
theorem onlyPost_no {G : List (List ByteArray)} {w w' : World} {E : Int} (h : onlE G = E) (h0 : E ≠ 0) (hb : Below w.heap.size w w') : OnlyPost G w (.returned (.tuple #[.slice none 0 0, .int .i64 E])) w' := by
  have hv : onlV G = [] := by unfold onlV; rw [if_neg (by rw [h]; exact h0)]
  exact ⟨none, 0, by rw [hv, h]; rfl, by rw [hv]; exact ⟨by simp, .inl rfl⟩, hb⟩
theorem rdK_le {G : List (List ByteArray)} (h : cntE G = 0) : (rdK G).length ≤ 4096 := by
  unfold rdK
  refine Nat.le_trans (KS_le _ _ _ _) ?_
  unfold cntE at h
  split at h
  · cases h
  · split at h
    · cases h
    · omega
set_option maxRecDepth 100000 in
set_option maxHeartbeats 1000000 in
theorem oonly (G : List (List ByteArray)) (A : Option Addr) (c : Nat) (w : World) (hG : GridAt w A G) (hn : G.length ≤ 4194304) (hN : G.flatten.length ≤ 4194304) (hs : ∀ r ∈ G, ∀ s ∈ r, s.size ≤ 140737488351232) (hd : Dat.At w) (hx : Opt.Lax w) :
    Calls Tryz.prog 19 #[.slice A G.length c] w (OnlyPost G w) := by
  have HR := Lib.hid (oreadings G A c w hG hn hN hs hd hx)
  clear hG hN hs hd hx
  go_enter Tryz.func19, Tryz.ntmps19
  go_wp2_with fail
  refine HR.out.mono ?_; rintro e w1 hp
  have HB := Lib.hid hp.2.2
  by_cases h0 : cntE G = 0
  · obtain ⟨A1, c1, rfl, hg, _⟩ := hp.2.1 h0
    have hle := rdK_le h0
    have HG := Lib.hid hg; have H0 := Lib.hid h0
    obtain ⟨K, hK⟩ : ∃ K, rdK G = K := ⟨_, rfl⟩
    rw [hK] at HG hle ⊢
    have HK := Lib.hid hK
    clear hp hg h0 hK
    by_cases h1 : K.length = 0
    · have d1 : ((K.length : Int) == 0) = true := by rw [h1]; rfl
      have HE := Lib.hid (show onlE G = 16 by unfold onlE; rw [if_neg (by rw [H0.out]; decide), if_pos (by rw [HK.out]; exact h1)])
      obtain ⟨kl, hkl⟩ : ∃ kl, K.length = kl := ⟨_, rfl⟩
      rw [hkl] at h1 hle d1 ⊢
      subst h1
      clear hkl d1
      go_wp2_with fail
      go_ret2
      exact onlyPost_no HE.out (by decide) HB.out
    · by_cases h2 : 1 < K.length
      · have HE := Lib.hid (show onlE G = 25 by unfold onlE; rw [if_neg (by rw [H0.out]; decide), if_neg (by rw [HK.out]; exact h1), if_pos (by rw [HK.out]; exact h2)])
        have g1 : ¬ ((K.length : Int) = 0) := by omega
        have g2 : 1 < (K.length : Int) := by omega
        clear h1 h2
        go_wp2_with fail
        go_ret2
        exact onlyPost_no HE.out (by decide) HB.out
      · have h3 : K.length = 1 := by omega
        have HE := Lib.hid (show onlE G = 0 by unfold onlE; rw [if_neg (by rw [H0.out]; decide), if_neg (by rw [HK.out]; exact h1), if_neg (by rw [HK.out]; exact h2)])
        obtain ⟨b, off, rfl, hc⟩ : ∃ b off, A1 = some ⟨b, off, none⟩ ∧ ∀ i (h : i < K.length), ∃ Ai ci, w1.cell? ⟨b, off + i, none⟩ = some (.slice Ai K[i].length ci) ∧ TextsAt w1 Ai K[i] := by
          rcases HG.out with h | h
          · omega
          · exact h
        obtain ⟨A0, c0, e0, ht⟩ := hc 0 (by omega)
        rw [Nat.add_zero] at e0
        have HV := Lib.hid (show onlV G = K[0]'(by omega) by
          unfold onlV
          rw [if_pos HE.out, HK.out]
          cases K with
          | nil => simp at h3
          | cons a r => rfl)
        obtain ⟨R, hR⟩ : ∃ R, K[0]'(by omega) = R := ⟨_, rfl⟩
        rw [hR] at e0 ht HV
        have HT := Lib.hid ht
        obtain ⟨kl, hkl⟩ : ∃ kl, K.length = kl := ⟨_, rfl⟩
        rw [hkl] at h3 ⊢
        subst h3
        clear h1 h2 hc ht hR hkl hle
        go_wp2_with fail
        go_ret2
        exact ⟨A0, c0, by rw [HV.out, HE.out]; rfl, by rw [HV.out]; exact HT.out, HB.out⟩
  · rw [hp.1 h0]
    have HE := Lib.hid (show onlE G = cntE G by unfold onlE; rw [if_pos h0])
    obtain ⟨E, hE⟩ : ∃ E, cntE G = E := ⟨_, rfl⟩
    rw [hE] at h0 HE ⊢
    have h1 : ((E : Int) != 0) = true := by rw [bne_iff_ne]; exact h0
    have H0 := Lib.hid h0
    clear hp h0 hE
    go_wp2_with fail
    go_ret2
    exact onlyPost_no HE.out H0.out HB.out
end Go.Proofs.YtafbhadfeemppaaGreatDoor
