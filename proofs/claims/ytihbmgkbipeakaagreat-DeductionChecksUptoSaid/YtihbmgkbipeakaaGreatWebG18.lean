/- Several texts in one: WebPt, WebZ, WebCk, WebAw, TermROnly. -/
import Derived.Test.YtihbmgkbipeakaaGreatWebG17
import Derived.Test.YtihbmgkbipeakaaGreatWebG14
import Derived.Test.YtihbmgkbipeakaaGreatWebG0
import Derived.Deep.RegionHeld
import Derived.StillTailTactics
import Derived.Test.YtihbmgkbipeakaaGreatWebG10
namespace Go.Proofs.YtihbmgkbipeakaaGreat
open Go.RowKit

end Go.Proofs.YtihbmgkbipeakaaGreat

namespace Go.Proofs.YtihbmgkbipeakaaGreat
open Go.RowKit

theorem oterms {A : Option Addr} {cap : Nat} {K : List T} (s : T) (bs : Nat) (As : Option Addr) (c : Nat) (w : World) (h : KnownAt w A cap K) (h0 : 0 < K.length) (hb : ∀ t ∈ K, t.bulk ≤ 1048576) (c0 : w.cell? ⟨bs, 0, none⟩ = some (.int .i64 s.kind)) (c1 : w.cell? ⟨bs, 1, none⟩ = some (.string s.name)) (c2 : w.cell? ⟨bs, 2, none⟩ = some (.slice As s.kids.length c))
    (hs : TermAt w (.agg #[.int .i64 s.kind, .string s.name, .slice As s.kids.length c]) s) (hsb : s.bulk ≤ 1048576) :
    Calls Tryz.prog 84 #[.slice A K.length cap, .func (.func 85) #[] #[.pointer (some ⟨bs, 0, none⟩)]] w fun e w' => e = .returned (.bool (K.any fun t => sameB t s)) ∧ Below w.heap.size w w' := by
  obtain ⟨b, off, _, _, rfl, q0, _⟩ := h.get (i := 0) h0
  have hbl := World.block_lt_of_cell? w _ q0
  have hx : ∀ i : Fin K.length, ∃ x : TCell w, x.1.2 = K[i] ∧ ∀ r v, x.enc[r]? = some v → w.cell? ⟨b, off + i * 3 + r, none⟩ = some v := fun i => by
    obtain ⟨b', off', A', cap', e, d0, d1, d2, ht⟩ := h.get (i := i.1) i.2
    injection e with e; injection e with e1 e2; subst e1; subst e2
    refine ⟨⟨((K[i].kind, K[i].name, A', K[i].kids.length, cap'), K[i]), ht, hb _ (List.getElem_mem _)⟩, rfl, fun r v hv => ?_⟩
    match r, hv with
    | 0, hv => injection hv with hv; subst hv; exact d0
    | 1, hv => injection hv with hv; subst hv; exact d1
    | 2, hv => injection hv with hv; subst hv; exact d2
    | r + 3, hv => simp [TCell.enc] at hv
  obtain ⟨zs, hzs⟩ : ∃ zs : List (TCell w), zs = List.ofFn (fun i : Fin K.length => (hx i).choose) := ⟨_, rfl⟩
  have hlen : zs.length = K.length := by rw [hzs, List.length_ofFn]
  have hz : ∀ j (hj : j < K.length), zs[j]! = (hx ⟨j, hj⟩).choose := fun j hj => by
    rw [getElem!_pos zs j (by rw [hlen]; exact hj)]
    subst hzs
    rw [List.getElem_ofFn]
  have eg : ∀ args w, (callFunc 85 args).run Tryz.prog w = .ok (.enter 85 args) w := enters_of Tryz.func85 (by kernel_rfl) rfl
  have hcap := h.cap_le
  unfold maxLen at hcap
  have hcon := AnyQ.slices_ContainsFunc (P := Tryz.prog) Tryz.layCf 3 (fun w => Tryz.isAgg29 w) (fun w => Tryz.sizeOf29 w) (TCell.enc (w := w)) (fun _ => rfl) (fun x => sameB x.1.2 s) 85 #[.pointer (some ⟨bs, 0, none⟩)] eg b off K.length cap zs w
    (same_gives s bs As c w c0 c1 c2 hs hsb) (by omega) (by omega) hbl (fun j hj i v hv => by
      rw [hlen] at hj
      rw [hz j hj] at hv
      exact (hx ⟨j, hj⟩).choose_spec.2 i v hv)
  change Calls Tryz.prog 84 _ _ _ at hcon
  refine hcon.mono ?_
  rintro e w' ⟨rfl, hb'⟩
  refine ⟨?_, hb'⟩
  rw [List.take_of_length_le (by omega)]
  have hmap : zs.map (fun x => x.1.2) = K := by
    apply List.ext_getElem
    · rw [List.length_map, hlen]
    · intro j h1 h2
      rw [List.getElem_map]
      have := hz j h2
      rw [getElem!_pos zs j (by omega)] at this
      rw [this]
      exact (hx ⟨j, h2⟩).choose_spec.1
  rw [← hmap, List.any_map]
  rfl

/-- A sealed term is opened. -/
def openB (t a b : T) : Bool := decide (a.kind = 5) && (sameB (a.kid 0) b && sameB (a.kid 1) t)
theorem open_f {t a b : T} (h : a.kind ≠ 5) : openB t a b = false := by unfold openB; rw [decide_eq_false h]; rfl
theorem open_1 {t a b : T} (h : sameB (a.kid 0) b = false) : openB t a b = false := by unfold openB; rw [h]; simp
theorem open_2 {t a b : T} {q : Bool} (h5 : a.kind = 5) (h : sameB (a.kid 0) b = true) (h' : sameB (a.kid 1) t = q) : openB t a b = q := by unfold openB; rw [decide_eq_true h5, h, h']; rfl
theorem TermAt.kid {w : World} {k : Int} {s : ByteArray} {A : Option Addr} {n cap : Nat} {t : T} (h : TermAt w (.agg #[.int .i64 k, .string s, .slice A n cap]) t) {i : Nat} (hi : i < t.kids.length) :
    ∃ b off A' cap', A = some ⟨b, off, none⟩ ∧ w.cell? ⟨b, off + i * 3, none⟩ = some (.int .i64 (t.kid i).kind) ∧ w.cell? ⟨b, off + i * 3 + 1, none⟩ = some (.string (t.kid i).name) ∧ w.cell? ⟨b, off + i * 3 + 2, none⟩ = some (.slice A' (t.kid i).kids.length cap') ∧
      TermAt w (.agg #[.int .i64 (t.kid i).kind, .string (t.kid i).name, .slice A' (t.kid i).kids.length cap']) (t.kid i) := by
  obtain ⟨b, off, A', c', e, _, c0, c1, c2, ht⟩ := (TermAt.inAll h).kid hi
  exact ⟨b, off, A', c', e, c0, c1, c2, ht.at⟩
theorem three_boxes (w : World) (a0 a1 a2 b0 b1 b2 c0 c1 c2 : Value) : Box (((w.alloc (.cells #[a0, a1, a2] 29)).alloc (.cells #[b0, b1, b2] 29)).alloc (.cells #[c0, c1, c2] 29)) w.heap.size a0 a1 a2 ∧
    Box (((w.alloc (.cells #[a0, a1, a2] 29)).alloc (.cells #[b0, b1, b2] 29)).alloc (.cells #[c0, c1, c2] 29)) (w.heap.size + 1) b0 b1 b2 ∧
    Box (((w.alloc (.cells #[a0, a1, a2] 29)).alloc (.cells #[b0, b1, b2] 29)).alloc (.cells #[c0, c1, c2] 29)) (w.heap.size + 1 + 1) c0 c1 c2 ∧
    Below w.heap.size w (((w.alloc (.cells #[a0, a1, a2] 29)).alloc (.cells #[b0, b1, b2] 29)).alloc (.cells #[c0, c1, c2] 29)) := by
  have h1 := below_alloc1 w (.cells #[a0, a1, a2] 29)
  have h2 := below_alloc1 (w.alloc (.cells #[a0, a1, a2] 29)) (.cells #[b0, b1, b2] 29)
  have h3 := below_alloc1 ((w.alloc (.cells #[a0, a1, a2] 29)).alloc (.cells #[b0, b1, b2] 29)) (.cells #[c0, c1, c2] 29)
  refine ⟨((Box.new w a0 a1 a2).later h2).later h3, ?_, ?_, (h1.trans (h2.mono h1.size)).trans (h3.mono (Nat.le_trans h1.size h2.size))⟩
  · have := (Box.new (w.alloc (.cells #[a0, a1, a2] 29)) b0 b1 b2).later h3
    rw [size_alloc1] at this; exact this
  · have := Box.new ((w.alloc (.cells #[a0, a1, a2] 29)).alloc (.cells #[b0, b1, b2] 29)) c0 c1 c2
    rw [size_alloc1, size_alloc1] at this; exact this

set_option maxRecDepth 100000 in
set_option maxHeartbeats 8000000 in
theorem opair4 (t a b : T) (vt va vb : Value) (w : World) (ht : TermAt w vt t) (ha : TermAt w va a) (hb : TermAt w vb b) (htb : t.bulk ≤ 1048576) (hab : a.bulk ≤ 1048576) (hbb : b.bulk ≤ 1048576) (hk : a.kind = 5 → a.kids.length = 2) :
    Calls Tryz.prog 88 #[vt, .int .i64 4, va, vb] w fun e w' => e = .returned (.bool (openB t a b)) ∧ Below w.heap.size w w' := by
  obtain ⟨At, ct, rfl⟩ := ht.inAll.view
  obtain ⟨Aa, ca, rfl⟩ := ha.inAll.view
  obtain ⟨Ab, cb, rfl⟩ := hb.inAll.view
  obtain ⟨R, hR⟩ : ∃ R, openB t a b = R := ⟨_, rfl⟩
  have hf := open_f (t := t) (a := a) (b := b); have h1 := open_1 (t := t) (a := a) (b := b); have h2 := fun q => open_2 (t := t) (a := a) (b := b) (q := q)
  rw [hR] at hf h1 h2 ⊢
  have HF := Lib.hid hf; have H1 := Lib.hid h1; have H2 := Lib.hid h2
  obtain ⟨bt, ba, bb, hbw⟩ := three_boxes w (.int .i64 t.kind) (.string t.name) (.slice At t.kids.length ct) (.int .i64 a.kind) (.string a.name) (.slice Aa a.kids.length ca) (.int .i64 b.kind) (.string b.name) (.slice Ab b.kids.length cb)
  have HT := Lib.hid (ht.later hbw); have HA := Lib.hid (ha.later hbw); have HB := Lib.hid (hb.later hbw); have HBW := Lib.hid hbw
  clear ht ha hb hbw hf h1 h2 hR
  obtain ⟨ka, hka⟩ : ∃ k, a.kind = k := ⟨_, rfl⟩
  have HKA := Lib.hid hka
  obtain ⟨na, hna⟩ : ∃ n, a.kids.length = n := ⟨_, rfl⟩
  have HNA := Lib.hid hna
  rw [hka, hna] at bt ba bb HT HA HB HBW ⊢
  rw [hka, hna] at hk
  clear hka hna
  go_enter Tryz.func88, Tryz.ntmps88
  go_upto_region 3 with fail
  generalize ((w.alloc (.cells #[.int .i64 t.kind, .string t.name, .slice At t.kids.length ct] 29)).alloc (.cells #[.int .i64 ka, .string a.name, .slice Aa na ca] 29)).alloc (.cells #[.int .i64 b.kind, .string b.name, .slice Ab b.kids.length cb] 29) = w1 at bt ba bb HT HA HB HBW ⊢
  obtain ⟨t0, t1, t2⟩ := bt.cells
  obtain ⟨a0, a1, a2⟩ := ba.cells
  obtain ⟨b0, b1, b2⟩ := bb.cells
  clear bt ba bb
  by_cases h5 : ka = 5
  · subst h5
    have hn2 := hk rfl
    subst hn2
    clear hk
    obtain ⟨kb, off, A0, c0, rfl, d0, d1, d2, hk0⟩ := HA.out.kid (i := 0) (by rw [HNA.out]; decide)
    obtain ⟨_, _, A1, c1, e1, f0, f1, f2, hk1⟩ := HA.out.kid (i := 1) (by rw [HNA.out]; decide)
    injection e1 with e1; injection e1 with e1 e2; subst e1; subst e2
    simp only [Nat.zero_mul, Nat.add_zero, Nat.one_mul] at d0 d1 d2 f0 f1 f2
    have hkb0 := T.kid_bulk (t := a) (i := 0) (by rw [HNA.out]; decide)
    have hkb1 := T.kid_bulk (t := a) (i := 1) (by rw [HNA.out]; decide)
    have HK0 := Lib.hid hk0; have HK1 := Lib.hid hk1
    have HS0 := Lib.hid (fun v v' W' (h1 : TermAt W' v (a.kid 0)) (h2 : TermAt W' v' b) => osame (a.kid 0) b v v' W' h1 h2 (by omega) hbb)
    have HS1 := Lib.hid (fun v v' W' (h1 : TermAt W' v (a.kid 1)) (h2 : TermAt W' v' t) => osame (a.kid 1) t v v' W' h1 h2 (by omega) htb)
    clear hk0 hk1 hkb0 hkb1
    cases hs : sameB (a.kid 0) b with
    | false =>
      have HE := Lib.hid (H1.out hs)
      rw [hs] at HS0
      clear hs
      (refine wp_region_held_drew (S := (fun Wq => Wq.cell? ⟨w.heap.size, 0, none⟩ = some (.int .i64 t.kind) ∧ Wq.cell? ⟨w.heap.size, 1, none⟩ = some (.string t.name) ∧ Wq.cell? ⟨w.heap.size, 2, none⟩ = some (.slice At t.kids.length ct) ∧ Wq.cell? ⟨w.heap.size + 1, 0, none⟩ = some (.int .i64 5) ∧ Wq.cell? ⟨w.heap.size + 1, 1, none⟩ = some (.string a.name) ∧ Wq.cell? ⟨w.heap.size + 1, 2, none⟩ = some (.slice (some ⟨kb, off, none⟩) 2 ca) ∧ Wq.cell? ⟨w.heap.size + 1 + 1, 0, none⟩ = some (.int .i64 b.kind) ∧ Wq.cell? ⟨w.heap.size + 1 + 1, 1, none⟩ = some (.string b.name) ∧ Wq.cell? ⟨w.heap.size + 1 + 1, 2, none⟩ = some (.slice Ab b.kids.length cb) ∧ Wq.cell? ⟨kb, off, none⟩ = some (.int .i64 (a.kid 0).kind) ∧ Wq.cell? ⟨kb, off + 1, none⟩ = some (.string (a.kid 0).name) ∧ Wq.cell? ⟨kb, off + 2, none⟩ = some (.slice A0 (a.kid 0).kids.length c0) ∧ Wq.cell? ⟨kb, off + 3, none⟩ = some (.int .i64 (a.kid 1).kind) ∧ Wq.cell? ⟨kb, off + 3 + 1, none⟩ = some (.string (a.kid 1).name) ∧ Wq.cell? ⟨kb, off + 3 + 2, none⟩ = some (.slice A1 (a.kid 1).kids.length c1) ∧ Below w1.heap.size w1 Wq)) (by kernel_rfl) (show _ ∧ _ ∧ _ ∧ _ ∧ _ ∧ _ ∧ _ ∧ _ ∧ _ ∧ _ ∧ _ ∧ _ ∧ _ ∧ _ ∧ _ ∧ _ from ⟨t0, t1, t2, a0, a1, a2, b0, b1, b2, d0, d1, d2, f0, f1, f2, (Below.refl _ w1).drew⟩) (fun hHeld => ?_))
      (refine tkJ 0 _ (h := ?_))
      (refine tkJ 1 _ (h := ?_))
      (refine tkJ 2 _ (h := ?_))
      (refine tkJ 3 _ (h := ?_))
      (first | (refine tkJ 4 _ (h := ?_)) | (refine tkM 4 (h := ?_)))
      (first | (refine tkJ 5 _ (h := ?_)) | (refine tkM 5 (h := ?_)))
      (first | (refine tkJ 6 _ (h := ?_)) | (refine tkM 6 (h := ?_)))
      (first | (refine tkJ 7 _ (h := ?_)) | (refine tkM 7 (h := ?_)))
      (first | (refine tkJ 8 _ (h := ?_)) | (refine tkM 8 (h := ?_)))
      (refine rdJ 9 (h := fun K hK => ?_); go_simp; go_at_call 86; refine (HS0.out _ _ _ (HK0.out.later hHeld.2.2.2.2.2.2.2.2.2.2.2.2.2.2.2) (HB.out.later hHeld.2.2.2.2.2.2.2.2.2.2.2.2.2.2.2)).mono ?_; rintro e w4 ⟨rfl, hb4⟩; have HBF := Lib.hid (HBW.out.trans ((hHeld.2.2.2.2.2.2.2.2.2.2.2.2.2.2.2.trans (hb4.mono hHeld.2.2.2.2.2.2.2.2.2.2.2.2.2.2.2.size)).mono HBW.out.size)); refine shK hK (⟨cell_later hb4 hHeld.1, cell_later hb4 hHeld.2.1, cell_later hb4 hHeld.2.2.1, cell_later hb4 hHeld.2.2.2.1, cell_later hb4 hHeld.2.2.2.2.1, cell_later hb4 hHeld.2.2.2.2.2.1, cell_later hb4 hHeld.2.2.2.2.2.2.1, cell_later hb4 hHeld.2.2.2.2.2.2.2.1, cell_later hb4 hHeld.2.2.2.2.2.2.2.2.1, cell_later hb4 hHeld.2.2.2.2.2.2.2.2.2.1, cell_later hb4 hHeld.2.2.2.2.2.2.2.2.2.2.1, cell_later hb4 hHeld.2.2.2.2.2.2.2.2.2.2.2.1, cell_later hb4 hHeld.2.2.2.2.2.2.2.2.2.2.2.2.1, cell_later hb4 hHeld.2.2.2.2.2.2.2.2.2.2.2.2.2.1, cell_later hb4 hHeld.2.2.2.2.2.2.2.2.2.2.2.2.2.2.1, hHeld.2.2.2.2.2.2.2.2.2.2.2.2.2.2.2.trans (hb4.mono hHeld.2.2.2.2.2.2.2.2.2.2.2.2.2.2.2.size)⟩) (h := fun hHeld => ?_); clear hK K)
      (refine tkJ 10 _ (h := ?_))
      (refine tkJ 11 _ (h := ?_))
      (first | (refine tkJ 12 _ (h := ?_)) | (refine tkM 12 (h := ?_)))
      (first | (refine tkJ 13 _ (h := ?_)) | (refine tkM 13 (h := ?_)))
      (first | (refine tkJ 14 _ (h := ?_)) | (refine tkM 14 (h := ?_)))
      (first | (refine tkJ 15 _ (h := ?_)) | (refine tkM 15 (h := ?_)))
      (first | (refine tkJ 16 _ (h := ?_)) | (refine tkM 16 (h := ?_)))
      (first | (refine tkJ 17 _ (h := ?_)) | (refine tkM 17 (h := ?_)))
      (refine tkJ 18 _ (h := ?_))
      (refine tkJ 19 _ (h := ?_))
      (refine wpAnyH_done (by kernel_rfl) ?_ _)
      go_wp2_with fail
      go_ret
      rw [HE.out]
      exact ⟨rfl, HBF.out⟩
    | true =>
      obtain ⟨q, hq⟩ : ∃ q, sameB (a.kid 1) t = q := ⟨_, rfl⟩
      have HE := Lib.hid (H2.out q HKA.out hs hq)
      rw [hs] at HS0
      rw [hq] at HS1
      clear hs hq
      (refine wp_region_held_drew (S := (fun Wq => Wq.cell? ⟨w.heap.size, 0, none⟩ = some (.int .i64 t.kind) ∧ Wq.cell? ⟨w.heap.size, 1, none⟩ = some (.string t.name) ∧ Wq.cell? ⟨w.heap.size, 2, none⟩ = some (.slice At t.kids.length ct) ∧ Wq.cell? ⟨w.heap.size + 1, 0, none⟩ = some (.int .i64 5) ∧ Wq.cell? ⟨w.heap.size + 1, 1, none⟩ = some (.string a.name) ∧ Wq.cell? ⟨w.heap.size + 1, 2, none⟩ = some (.slice (some ⟨kb, off, none⟩) 2 ca) ∧ Wq.cell? ⟨w.heap.size + 1 + 1, 0, none⟩ = some (.int .i64 b.kind) ∧ Wq.cell? ⟨w.heap.size + 1 + 1, 1, none⟩ = some (.string b.name) ∧ Wq.cell? ⟨w.heap.size + 1 + 1, 2, none⟩ = some (.slice Ab b.kids.length cb) ∧ Wq.cell? ⟨kb, off, none⟩ = some (.int .i64 (a.kid 0).kind) ∧ Wq.cell? ⟨kb, off + 1, none⟩ = some (.string (a.kid 0).name) ∧ Wq.cell? ⟨kb, off + 2, none⟩ = some (.slice A0 (a.kid 0).kids.length c0) ∧ Wq.cell? ⟨kb, off + 3, none⟩ = some (.int .i64 (a.kid 1).kind) ∧ Wq.cell? ⟨kb, off + 3 + 1, none⟩ = some (.string (a.kid 1).name) ∧ Wq.cell? ⟨kb, off + 3 + 2, none⟩ = some (.slice A1 (a.kid 1).kids.length c1) ∧ Below w1.heap.size w1 Wq)) (by kernel_rfl) (show _ ∧ _ ∧ _ ∧ _ ∧ _ ∧ _ ∧ _ ∧ _ ∧ _ ∧ _ ∧ _ ∧ _ ∧ _ ∧ _ ∧ _ ∧ _ from ⟨t0, t1, t2, a0, a1, a2, b0, b1, b2, d0, d1, d2, f0, f1, f2, (Below.refl _ w1).drew⟩) (fun hHeld => ?_))
      (refine tkJ 0 _ (h := ?_))
      (refine tkJ 1 _ (h := ?_))
      (refine tkJ 2 _ (h := ?_))
      (refine tkJ 3 _ (h := ?_))
      (first | (refine tkJ 4 _ (h := ?_)) | (refine tkM 4 (h := ?_)))
      (first | (refine tkJ 5 _ (h := ?_)) | (refine tkM 5 (h := ?_)))
      (first | (refine tkJ 6 _ (h := ?_)) | (refine tkM 6 (h := ?_)))
      (first | (refine tkJ 7 _ (h := ?_)) | (refine tkM 7 (h := ?_)))
      (first | (refine tkJ 8 _ (h := ?_)) | (refine tkM 8 (h := ?_)))
      (refine rdJ 9 (h := fun K hK => ?_); go_simp; go_at_call 86; refine (HS0.out _ _ _ (HK0.out.later hHeld.2.2.2.2.2.2.2.2.2.2.2.2.2.2.2) (HB.out.later hHeld.2.2.2.2.2.2.2.2.2.2.2.2.2.2.2)).mono ?_; rintro e w4 ⟨rfl, hb4⟩; have HBF := Lib.hid (HBW.out.trans ((hHeld.2.2.2.2.2.2.2.2.2.2.2.2.2.2.2.trans (hb4.mono hHeld.2.2.2.2.2.2.2.2.2.2.2.2.2.2.2.size)).mono HBW.out.size)); refine shK hK (⟨cell_later hb4 hHeld.1, cell_later hb4 hHeld.2.1, cell_later hb4 hHeld.2.2.1, cell_later hb4 hHeld.2.2.2.1, cell_later hb4 hHeld.2.2.2.2.1, cell_later hb4 hHeld.2.2.2.2.2.1, cell_later hb4 hHeld.2.2.2.2.2.2.1, cell_later hb4 hHeld.2.2.2.2.2.2.2.1, cell_later hb4 hHeld.2.2.2.2.2.2.2.2.1, cell_later hb4 hHeld.2.2.2.2.2.2.2.2.2.1, cell_later hb4 hHeld.2.2.2.2.2.2.2.2.2.2.1, cell_later hb4 hHeld.2.2.2.2.2.2.2.2.2.2.2.1, cell_later hb4 hHeld.2.2.2.2.2.2.2.2.2.2.2.2.1, cell_later hb4 hHeld.2.2.2.2.2.2.2.2.2.2.2.2.2.1, cell_later hb4 hHeld.2.2.2.2.2.2.2.2.2.2.2.2.2.2.1, hHeld.2.2.2.2.2.2.2.2.2.2.2.2.2.2.2.trans (hb4.mono hHeld.2.2.2.2.2.2.2.2.2.2.2.2.2.2.2.size)⟩) (h := fun hHeld => ?_); clear hK K)
      (refine tkJ 10 _ (h := ?_))
      (refine tkJ 11 _ (h := ?_))
      (first | (refine tkJ 12 _ (h := ?_)) | (refine tkM 12 (h := ?_)))
      (first | (refine tkJ 13 _ (h := ?_)) | (refine tkM 13 (h := ?_)))
      (first | (refine tkJ 14 _ (h := ?_)) | (refine tkM 14 (h := ?_)))
      (first | (refine tkJ 15 _ (h := ?_)) | (refine tkM 15 (h := ?_)))
      (first | (refine tkJ 16 _ (h := ?_)) | (refine tkM 16 (h := ?_)))
      (refine rdJ 17 (h := fun K hK => ?_); go_simp; go_at_call 86; refine (HS1.out _ _ _ (HK1.out.later hHeld.2.2.2.2.2.2.2.2.2.2.2.2.2.2.2) (HT.out.later hHeld.2.2.2.2.2.2.2.2.2.2.2.2.2.2.2)).mono ?_; rintro e w5 ⟨rfl, hb4⟩; have HBF := Lib.hid (HBW.out.trans ((hHeld.2.2.2.2.2.2.2.2.2.2.2.2.2.2.2.trans (hb4.mono hHeld.2.2.2.2.2.2.2.2.2.2.2.2.2.2.2.size)).mono HBW.out.size)); refine shK hK (⟨cell_later hb4 hHeld.1, cell_later hb4 hHeld.2.1, cell_later hb4 hHeld.2.2.1, cell_later hb4 hHeld.2.2.2.1, cell_later hb4 hHeld.2.2.2.2.1, cell_later hb4 hHeld.2.2.2.2.2.1, cell_later hb4 hHeld.2.2.2.2.2.2.1, cell_later hb4 hHeld.2.2.2.2.2.2.2.1, cell_later hb4 hHeld.2.2.2.2.2.2.2.2.1, cell_later hb4 hHeld.2.2.2.2.2.2.2.2.2.1, cell_later hb4 hHeld.2.2.2.2.2.2.2.2.2.2.1, cell_later hb4 hHeld.2.2.2.2.2.2.2.2.2.2.2.1, cell_later hb4 hHeld.2.2.2.2.2.2.2.2.2.2.2.2.1, cell_later hb4 hHeld.2.2.2.2.2.2.2.2.2.2.2.2.2.1, cell_later hb4 hHeld.2.2.2.2.2.2.2.2.2.2.2.2.2.2.1, hHeld.2.2.2.2.2.2.2.2.2.2.2.2.2.2.2.trans (hb4.mono hHeld.2.2.2.2.2.2.2.2.2.2.2.2.2.2.2.size)⟩) (h := fun hHeld => ?_); clear hK K)
      (refine tkJ 18 _ (h := ?_))
      (refine tkJ 19 _ (h := ?_))
      (refine wpAnyH_done (by kernel_rfl) ?_ _)
      go_wp2_with fail
      go_ret
      rw [HE.out]
      exact ⟨rfl, HBF.out⟩
  · have h5' : (ka == 5) = false := by rw [beq_eq_false_iff_ne]; exact h5
    have HE := Lib.hid (HF.out (by rw [HKA.out]; exact h5))
    clear hk
    (refine wp_region_held_drew (S := (fun Wq => Wq.cell? ⟨w.heap.size + 1, 0, none⟩ = some (.int .i64 ka) ∧ Below w1.heap.size w1 Wq)) (by kernel_rfl) (show _ ∧ _ from ⟨a0, (Below.refl _ w1).drew⟩) (fun hHeld => ?_))
    (refine tkJ 0 _ (h := ?_))
    (refine tkJ 1 _ (h := ?_))
    (refine tkJ 2 _ (h := ?_))
    (refine tkJ 3 _ (h := ?_))
    (first | (refine tkJ 4 _ (h := ?_)) | (refine tkM 4 (h := ?_)))
    (first | (refine tkJ 5 _ (h := ?_)) | (refine tkM 5 (h := ?_)))
    (first | (refine tkJ 6 _ (h := ?_)) | (refine tkM 6 (h := ?_)))
    (first | (refine tkJ 7 _ (h := ?_)) | (refine tkM 7 (h := ?_)))
    (first | (refine tkJ 8 _ (h := ?_)) | (refine tkM 8 (h := ?_)))
    (first | (refine tkJ 9 _ (h := ?_)) | (refine tkM 9 (h := ?_)))
    (refine tkJ 10 _ (h := ?_))
    (refine tkJ 11 _ (h := ?_))
    (first | (refine tkJ 12 _ (h := ?_)) | (refine tkM 12 (h := ?_)))
    (first | (refine tkJ 13 _ (h := ?_)) | (refine tkM 13 (h := ?_)))
    (first | (refine tkJ 14 _ (h := ?_)) | (refine tkM 14 (h := ?_)))
    (first | (refine tkJ 15 _ (h := ?_)) | (refine tkM 15 (h := ?_)))
    (first | (refine tkJ 16 _ (h := ?_)) | (refine tkM 16 (h := ?_)))
    (first | (refine tkJ 17 _ (h := ?_)) | (refine tkM 17 (h := ?_)))
    (refine tkJ 18 _ (h := ?_))
    (refine tkJ 19 _ (h := ?_))
    (refine wpAnyH_done (by kernel_rfl) ?_ _)
    go_wp2_with fail
    go_ret
    rw [HE.out]
    exact ⟨rfl, HBW.out.trans (hHeld.2.mono HBW.out.size)⟩
end Go.Proofs.YtihbmgkbipeakaaGreat

namespace Go.Proofs.YtihbmgkbipeakaaGreat
open Go.RowKit

def OneOk (t : T) (how : Int) (a : T) (q : Bool) : Prop := ∀ (v va : Value) (W : World), TermAt W v t → TermAt W va a → Calls Tryz.prog 87 #[v, .int .i64 how, va] W fun e w' => e = .returned (.bool q) ∧ Below W.heap.size W w'
def PairOk (t : T) (how : Int) (a b : T) (q : Bool) : Prop := ∀ (v va vb : Value) (W : World), TermAt W v t → TermAt W va a → TermAt W vb b → Calls Tryz.prog 88 #[v, .int .i64 how, va, vb] W fun e w' => e = .returned (.bool q) ∧ Below W.heap.size W w'
/-- The term that a place of a deduction holds. -/
def tAt (L : List Rsn) (x : Int) : T := (L[x.toNat]?.map Rsn.t).getD T.nil_
def lastB (oneF : T → Int → T → Bool) (pairF : T → Int → T → T → Bool) (K : List T) (L : List Rsn) (s : Rsn) : Bool :=
  match s.frm with
  | [] => decide (s.how = 1) && K.any fun t => sameB t s.t
  | [x] => oneF s.t s.how (tAt L x)
  | [x, y] => pairF s.t s.how (tAt L x) (tAt L y)
  | _ => false
/-- Is a step right. -/
def rightB (oneF : T → Int → T → Bool) (pairF : T → Int → T → T → Bool) (K : List T) (L : List Rsn) (i : Nat) : Bool :=
  match L[i]? with
  | none => false
  | some s => s.t.use && (!(s.frm.any (offB i)) && lastB oneF pairF K L s)
theorem off_false {i : Nat} {x : Int} (h : offB i x = false) : ∃ j : Nat, x = (j : Int) ∧ j < i := by
  unfold offB at h
  rw [Bool.or_eq_false_iff, decide_eq_false_iff_not, decide_eq_false_iff_not] at h
  exact ⟨x.toNat, by omega, by omega⟩
theorem t_at {L : List Rsn} {j : Nat} (h : j < L.length) : tAt L (j : Int) = L[j].t := by
  unfold tAt
  rw [Int.toNat_natCast, List.getElem?_eq_getElem h]; rfl

set_option maxRecDepth 100000 in
set_option maxHeartbeats 8000000 in
theorem oright {oneF : T → Int → T → Bool} {pairF : T → Int → T → T → Bool} {Ak A : Option Addr} {ck c : Nat} {K : List T} {L : List Rsn} (i : Nat) (w : World) (hK : KnownAt w Ak ck K) (h0 : 0 < K.length) (hKb : ∀ t ∈ K, t.bulk ≤ 1048576) (hL : DedAt w A L) (hi : i < L.length) (hLb : ∀ s ∈ L, s.t.bulk ≤ 1048576 ∧ s.frm.length ≤ 1048576)
    (H1 : L[i].t.use = true → ∀ x, L[i].frm = [x] → offB i x = false → OneOk L[i].t L[i].how (tAt L x) (oneF L[i].t L[i].how (tAt L x))) (H2 : L[i].t.use = true → ∀ x y, L[i].frm = [x, y] → offB i x = false → offB i y = false → PairOk L[i].t L[i].how (tAt L x) (tAt L y) (pairF L[i].t L[i].how (tAt L x) (tAt L y))) :
    Calls Tryz.prog 40 #[.slice Ak K.length ck, .slice A L.length c, .int .i64 (i : Int)] w fun e w' => e = .returned (.bool (rightB oneF pairF K L i)) ∧ Below w.heap.size w w' := by
  have HLL := Lib.hid hL
  rcases hL with h0' | ⟨lb, lo, rfl, hrow⟩
  · omega
  obtain ⟨A1, c1, F, fc, d0, d1, d2, d3, d4, ht, hf⟩ := hrow i hi
  have hR : rightB oneF pairF K L i = (L[i].t.use && (!(L[i].frm.any (offB i)) && lastB oneF pairF K L L[i])) := by unfold rightB; rw [List.getElem?_eq_getElem hi]
  have hsb := hLb _ (List.getElem_mem hi)
  rw [hR]
  generalize L[i] = s at hR hsb H1 H2 d0 d1 d2 d3 d4 ht hf ⊢
  obtain ⟨t, how, frm⟩ := s
  dsimp only at hsb H1 H2 d0 d1 d2 d3 d4 ht hf ⊢
  obtain ⟨hb1, hfl⟩ := hsb
  have HRF := Lib.hid (fun (h : t.use = false) => (show (t.use && (!(frm.any (offB i)) && lastB oneF pairF K L ⟨t, how, frm⟩)) = false by rw [h]; rfl))
  have HRA := Lib.hid (fun (h : frm.any (offB i) = true) => (show (t.use && (!(frm.any (offB i)) && lastB oneF pairF K L ⟨t, how, frm⟩)) = false by rw [h]; simp))
  have HRL := Lib.hid (fun (h : t.use = true) (h' : frm.any (offB i) = false) => (show (t.use && (!(frm.any (offB i)) && lastB oneF pairF K L ⟨t, how, frm⟩)) = lastB oneF pairF K L ⟨t, how, frm⟩ by rw [h, h']; rfl))
  generalize (t.use && (!(frm.any (offB i)) && lastB oneF pairF K L ⟨t, how, frm⟩)) = R at HRF HRA HRL ⊢
  have hw1 := below_alloc1 w (.cells #[.int .i64 (i : Int)] 3)
  have hw2 := below_alloc1 (w.alloc (.cells #[.int .i64 (i : Int)] 3)) (.cells #[.int .i64 t.kind, .string t.name, .slice A1 t.kids.length c1, .int .i64 how, .slice F frm.length fc] 31)
  have hbw := hw1.trans (hw2.mono hw1.size)
  have bx := Box5.new (w.alloc (.cells #[.int .i64 (i : Int)] 3)) (.int .i64 t.kind) (.string t.name) (.slice A1 t.kids.length c1) (.int .i64 how) (.slice F frm.length fc)
  rw [size_alloc1] at bx
  have hic : (w.alloc (.cells #[.int .i64 (i : Int)] 3)).cell? ⟨w.heap.size, 0, none⟩ = some (.int .i64 (i : Int)) := by
    have := heap_alloc_new w (.cells #[.int .i64 (i : Int)] 3)
    unfold World.cell?; rw [this]; rfl
  have hic2 := cell_later hw2 hic
  have HB := Lib.hid hbw; have HT := Lib.hid (ht.later hbw); have HFN := Lib.hid (hf.keep (S' := fun _ => true) fun b _ hl => ⟨rfl, hbw.block b hl⟩); have HKN := Lib.hid (hK.later hbw); have HDD := Lib.hid (HLL.out.later hbw)
  have HUS := Lib.hid (fun v' W' hW => ousable t v' W' hW hb1)
  have e0 := cell_later hw1 d0; have e1 := cell_later hw1 d1; have e2 := cell_later hw1 d2; have e3 := cell_later hw1 d3; have e4 := cell_later hw1 d4
  have H1H := Lib.hid H1; have H2H := Lib.hid H2; have HRW := Lib.hid hrow; have HKB := Lib.hid hKb
  have hib : (0 : Int) ≤ (i : Int) ∧ (i : Int) < (L.length : Int) := by omega
  obtain ⟨hib1, hib2⟩ := hib
  clear hR hw2 hbw hic ht hf hK hrow hKb d0 d1 d2 d3 d4 H1 H2
  go_enter Tryz.func40, Tryz.ntmps40
  go_upto_region 2 with fail
  clear hw1 e0 e1 e2 e3 e4
  generalize (w.alloc (.cells #[.int .i64 (i : Int)] 3)).alloc (.cells #[.int .i64 t.kind, .string t.name, .slice A1 t.kids.length c1, .int .i64 how, .slice F frm.length fc] 31) = w1 at bx hic2 HB HT HFN HKN HDD ⊢
  obtain ⟨x0, x1, x2, x3, x4⟩ := bx.cells
  have BX := Lib.hid bx; have HIC := Lib.hid hic2
  clear bx hic2
  go_wp2_with fail
  refine (HUS.out _ _ HT.out).mono ?_; rintro e w2 ⟨rfl, hb2⟩
  have HB2 := Lib.hid (HB.out.trans (hb2.mono HB.out.size)); have HT2 := Lib.hid (HT.out.later hb2); have BX2 := Lib.hid (BX.out.later hb2); have HIC2 := Lib.hid (cell_later hb2 HIC.out); have HFN2 := Lib.hid (HFN.out.keep (S' := fun _ => true) fun b _ hl => ⟨rfl, hb2.block b hl⟩); have HKN2 := Lib.hid (HKN.out.later hb2); have HDD2 := Lib.hid (HDD.out.later hb2)
  clear hb2 x0 x1 x2 x3 x4
  cases hu : t.use with
  | false =>
    have HE := Lib.hid (HRF.out hu)
    clear hu
    go_wp2_with fail
    go_ret
    exact ⟨ret_bool HE.out.symm, HB2.out⟩
  | true =>
    have HU := Lib.hid hu
    clear hu
    obtain ⟨x0, x1, x2, x3, x4⟩ := BX2.out.cells
    go_wp2_with fail
    refine (oints w2 HFN2.out HIC2.out hfl).mono ?_; rintro e w3 ⟨rfl, hb3⟩
    have HB3 := Lib.hid (HB2.out.trans (hb3.mono HB2.out.size)); have HT3 := Lib.hid (HT2.out.later hb3); have BX3 := Lib.hid (BX2.out.later hb3); have HFN3 := Lib.hid (HFN2.out.keep (S' := fun _ => true) fun b _ hl => ⟨rfl, hb3.block b hl⟩); have HKN3 := Lib.hid (HKN2.out.later hb3); have HDD3 := Lib.hid (HDD2.out.later hb3)
    clear hb3 x0 x1 x2 x3 x4
    cases ha : frm.any (offB i) with
    | true =>
      have HE := Lib.hid (HRA.out ha)
      clear ha
      go_wp2_with fail
      go_ret
      exact ⟨ret_bool HE.out.symm, HB3.out⟩
    | false =>
      have HA := Lib.hid ha
      have HL := Lib.hid (HRL.out HU.out ha)
      clear ha
      obtain ⟨x0, x1, x2, x3, x4⟩ := BX3.out.cells
      rcases frm with _ | ⟨fa, _ | ⟨fb, _ | ⟨fd, fr⟩⟩⟩
      · by_cases h1 : how = 1
        · subst h1
          go_wp2_with fail
          refine (oterms t (w.heap.size + 1) A1 c1 w3 HKN3.out h0 HKB.out x0 x1 x2 HT3.out hb1).mono ?_; rintro e w4 ⟨rfl, hb4⟩
          have HB4 := Lib.hid (HB3.out.trans (hb4.mono HB3.out.size))
          clear hb4 x0 x1 x2 x3 x4
          have HE := Lib.hid (show R = K.any fun t_1 => sameB t_1 t from HL.out.trans (by simp [lastB]))
          go_wp2_with fail
          go_ret
          exact ⟨ret_bool HE.out.symm, HB4.out⟩
        · have h1' : (how == 1) = false := by rw [beq_eq_false_iff_ne]; exact h1
          have HE := Lib.hid (show R = false from HL.out.trans (by unfold lastB; dsimp only; rw [decide_eq_false h1]; rfl))
          go_wp2_with fail
          go_ret
          exact ⟨ret_bool HE.out.symm, HB3.out⟩
      · have hoa : offB i fa = false := by have := HA.out; simp at this; exact this
        obtain ⟨j, rfl, hj⟩ := off_false hoa
        have hone := H1H.out HU.out _ rfl hoa
        rw [t_at (Nat.lt_trans hj hi)] at hone
        have HE := Lib.hid (show R = oneF t how (L[j]'(Nat.lt_trans hj hi)).t from HL.out.trans (by rw [← t_at (Nat.lt_trans hj hi)]; rfl))
        rcases HDD3.out with h9 | ⟨_, _, e9, hrow⟩
        · omega
        injection e9 with e9; injection e9 with e9 e9'; subst e9; subst e9'
        obtain ⟨A2, c2, _, _, g0, g1, g2, _, _, htj, _⟩ := hrow j (Nat.lt_trans hj hi)
        have hfc : ∃ fbk fo, F = some ⟨fbk, fo, none⟩ ∧ w3.cell? ⟨fbk, fo, none⟩ = some (.int .i64 (j : Int)) := by
          rcases HFN3.out with h9 | ⟨fbk, fo, e, _, hc⟩
          · simp at h9
          · exact ⟨fbk, fo, e, hc 0 (by simp)⟩
        obtain ⟨fbk, fo, rfl, f0⟩ := hfc
        generalize (L[j]'(Nat.lt_trans hj hi)).t = a at hone HE g0 g1 g2 htj
        have hjb : (0 : Int) ≤ (j : Int) ∧ (j : Int) < (L.length : Int) := by omega
        obtain ⟨hjb1, hjb2⟩ := hjb
        have HO := Lib.hid hone; have HTJ := Lib.hid htj
        clear hoa hone hrow htj
        go_upto_region 8 with fail
        go_still_tail 12, (by kernel_rfl)
        change wpList _ _ _ _ _ w3.drew
        go_wp2_with fail
        refine (HO.out _ _ _ HT3.out.drew HTJ.out.drew).mono ?_; rintro e w4 ⟨rfl, hb4⟩
        have HB4 := Lib.hid (HB3.out.trans ((below_undrew hb4).mono HB3.out.size))
        clear hb4 x0 x1 x2 x3 x4 g0 g1 g2 f0
        go_wp2_with fail
        go_ret
        exact ⟨ret_bool HE.out.symm, HB4.out⟩
      · have hoa : offB i fa = false ∧ offB i fb = false := by have := HA.out; simp at this; exact this
        obtain ⟨hoa, hob⟩ := hoa
        obtain ⟨j, rfl, hj⟩ := off_false hoa
        obtain ⟨j2, rfl, hj2⟩ := off_false hob
        have hone := H2H.out HU.out _ _ rfl hoa hob
        rw [t_at (Nat.lt_trans hj hi), t_at (Nat.lt_trans hj2 hi)] at hone
        have HE := Lib.hid (show R = pairF t how (L[j]'(Nat.lt_trans hj hi)).t (L[j2]'(Nat.lt_trans hj2 hi)).t from HL.out.trans (by rw [← t_at (Nat.lt_trans hj hi), ← t_at (Nat.lt_trans hj2 hi)]; rfl))
        rcases HDD3.out with h9 | ⟨_, _, e9, hrow⟩
        · omega
        injection e9 with e9; injection e9 with e9 e9'; subst e9; subst e9'
        obtain ⟨A2, c2, _, _, g0, g1, g2, _, _, htj, _⟩ := hrow j (Nat.lt_trans hj hi)
        obtain ⟨A3, c3, _, _, k0, k1, k2, _, _, htj2, _⟩ := hrow j2 (Nat.lt_trans hj2 hi)
        have hfc : ∃ fbk fo, F = some ⟨fbk, fo, none⟩ ∧ w3.cell? ⟨fbk, fo, none⟩ = some (.int .i64 (j : Int)) ∧ w3.cell? ⟨fbk, fo + 1, none⟩ = some (.int .i64 (j2 : Int)) := by
          rcases HFN3.out with h9 | ⟨fbk, fo, e, _, hc⟩
          · simp at h9
          · exact ⟨fbk, fo, e, hc 0 (by simp), hc 1 (by simp)⟩
        obtain ⟨fbk, fo, rfl, f0, f1⟩ := hfc
        generalize (L[j]'(Nat.lt_trans hj hi)).t = a at hone HE g0 g1 g2 htj
        generalize (L[j2]'(Nat.lt_trans hj2 hi)).t = b at hone HE k0 k1 k2 htj2
        have hjb : (0 : Int) ≤ (j : Int) ∧ (j : Int) < (L.length : Int) ∧ (0 : Int) ≤ (j2 : Int) ∧ (j2 : Int) < (L.length : Int) := by omega
        obtain ⟨hjb1, hjb2, hjb3, hjb4⟩ := hjb
        have HO := Lib.hid hone; have HTJ := Lib.hid htj; have HTK := Lib.hid htj2
        clear hoa hob hone hrow htj htj2
        go_upto_region 10 with fail
        go_still_tail 20, (by kernel_rfl)
        change wpList _ _ _ _ _ w3.drew
        go_wp2_with fail
        refine (HO.out _ _ _ _ HT3.out.drew HTJ.out.drew HTK.out.drew).mono ?_; rintro e w4 ⟨rfl, hb4⟩
        have HB4 := Lib.hid (HB3.out.trans ((below_undrew hb4).mono HB3.out.size))
        clear hb4 x0 x1 x2 x3 x4 g0 g1 g2 f0 f1 k0 k1 k2
        go_wp2_with fail
        go_ret
        exact ⟨ret_bool HE.out.symm, HB4.out⟩
      · have hl3 : ((fa :: fb :: fd :: fr).length : Int) = (fr.length : Int) + 3 := by simp; omega
        obtain ⟨n, hn⟩ : ∃ n, (fa :: fb :: fd :: fr).length = n := ⟨_, rfl⟩
        rw [hn] at x4 hl3 ⊢
        have q0 : ((n : Int) == 0) = false := by rw [beq_eq_false_iff_ne]; omega
        have q1 : ((n : Int) == 1) = false := by rw [beq_eq_false_iff_ne]; omega
        have q2 : ((n : Int) == 2) = false := by rw [beq_eq_false_iff_ne]; omega
        have HE := Lib.hid (show R = false from HL.out.trans rfl)
        clear hl3 hn
        go_wp2_with fail
        go_ret
        exact ⟨ret_bool HE.out.symm, HB3.out⟩
/-- Is a deduction right. -/
def chkB (oneF : T → Int → T → Bool) (pairF : T → Int → T → T → Bool) (K : List T) (L : List Rsn) : Bool := decide (1 ≤ L.length) && (decide (L.length ≤ 4096) && (List.range L.length).all (rightB oneF pairF K L))
set_option maxRecDepth 100000 in
set_option maxHeartbeats 8000000 in
theorem ocheck {oneF : T → Int → T → Bool} {pairF : T → Int → T → T → Bool} {Ak A : Option Addr} {ck c : Nat} {K : List T} {L : List Rsn} (w : World) (hK : KnownAt w Ak ck K) (h0 : 0 < (cnt K).length) (hKb : ∀ t ∈ K, t.bulk ≤ 1048576) (hL : DedAt w A L) (hLb : ∀ s ∈ L, s.t.bulk ≤ 1048576 ∧ s.frm.length ≤ 1048576)
    (H1 : ∀ i (hi : i < L.length), (∀ j, j < i → rightB oneF pairF (cnt K) L j = true) → L[i].t.use = true → ∀ x, L[i].frm = [x] → offB i x = false → OneOk L[i].t L[i].how (tAt L x) (oneF L[i].t L[i].how (tAt L x)))
    (H2 : ∀ i (hi : i < L.length), (∀ j, j < i → rightB oneF pairF (cnt K) L j = true) → L[i].t.use = true → ∀ x y, L[i].frm = [x, y] → offB i x = false → offB i y = false → PairOk L[i].t L[i].how (tAt L x) (tAt L y) (pairF L[i].t L[i].how (tAt L x) (tAt L y))) :
    Calls Tryz.prog 14 #[.slice Ak K.length ck, .slice A L.length c] w fun e w' => e = .returned (.bool (chkB oneF pairF (cnt K) L)) ∧ Below w.heap.size w w' := by
  obtain ⟨n, hn⟩ : ∃ n, L.length = n := ⟨_, rfl⟩
  have HN := Lib.hid hn
  obtain ⟨R, hR⟩ : ∃ R, chkB oneF pairF (cnt K) L = R := ⟨_, rfl⟩
  have HRN := Lib.hid (fun (h : ¬ (1 ≤ L.length ∧ L.length ≤ 4096)) => (show R = false by
    rw [← hR]; unfold chkB
    by_cases h1 : 1 ≤ L.length
    · rw [decide_eq_false (p := L.length ≤ 4096) (by omega)]; simp
    · rw [decide_eq_false h1]; rfl))
  have HRX := Lib.hid (fun (i : Nat) (hi : i < L.length) (h : rightB oneF pairF (cnt K) L i = false) => (show R = false by
    rw [← hR]; unfold chkB
    have : (List.range L.length).all (rightB oneF pairF (cnt K) L) = false := by
      rw [List.all_eq_false]
      exact ⟨i, List.mem_range.2 hi, by rw [h]; simp⟩
    rw [this]; simp))
  have HRT := Lib.hid (fun (h1 : 1 ≤ L.length) (h2 : L.length ≤ 4096) (h : ∀ i, i < L.length → rightB oneF pairF (cnt K) L i = true) => (show R = true by
    rw [← hR]; unfold chkB
    rw [decide_eq_true h1, decide_eq_true h2]
    exact List.all_eq_true.2 fun i hi => h i (List.mem_range.1 hi)))
  have HC := Lib.hid (ocounted K Ak ck w hK hKb)
  have HD := Lib.hid hL
  have HO := Lib.hid (fun i w' A5 c5 (hK5 : KnownAt w' A5 c5 (cnt K)) (hL5 : DedAt w' A L) (hi : i < L.length) (hp : ∀ j, j < i → rightB oneF pairF (cnt K) L j = true) => oright (oneF := oneF) (pairF := pairF) (c := c) i w' hK5 h0 (fun t ht => hKb t (List.mem_of_mem_take (List.mem_filter.1 ht).1)) hL5 hi hLb (H1 i hi hp) (H2 i hi hp))
  rw [hR, hn]
  clear hR hK hKb hL hn H1 H2 h0
  go_enter Tryz.func14, Tryz.ntmps14
  by_cases h1 : n < 1
  · have h1' : (n : Int) < 1 := by omega
    have HE := Lib.hid (HRN.out (by rw [HN.out]; omega))
    clear h1
    go_wp2_with fail
    go_ret
    exact ⟨ret_bool HE.out.symm, Below.refl _ _⟩
  · have h1' : ¬ ((n : Int) < 1) := by omega
    by_cases h2 : 4096 < n
    · have h2' : (4096 : Int) < (n : Int) := by omega
      have HE := Lib.hid (HRN.out (by rw [HN.out]; omega))
      clear h1 h2
      go_wp2_with fail
      go_ret
      exact ⟨ret_bool HE.out.symm, Below.refl _ _⟩
    · have h2' : ¬ ((4096 : Int) < (n : Int)) := by omega
      have H12 := Lib.hid (show 1 ≤ n ∧ n ≤ 4096 by omega)
      clear h1 h2
      go_wp2_with fail
      refine HC.out.mono ?_; rintro e w2 ⟨v', rfl, hrow, hb2⟩
      obtain ⟨A5, c5, rfl, _, _⟩ := hrow.shape
      have HK5 := Lib.hid (show KnownAt w2 A5 c5 (cnt K) from (hrow.term 0 ⟨#[]⟩ (by omega) (Nat.zero_le _)).at)
      have HD5 := Lib.hid (HD.out.later hb2); have HB := Lib.hid hb2
      clear hrow hb2 h1' h2'
      have hn4 : (n : Int) ≤ 4096 := by have := H12.out; omega
      go_wp2_with fail
      go_loopw [19] (fun s19 wr => ∃ j : Nat, j ≤ n ∧ s19 = .int .i64 j ∧ (∀ i, i < j → rightB oneF pairF (cnt K) L i = true) ∧ KnownAt wr A5 c5 (cnt K) ∧ DedAt wr A L ∧ Below w.heap.size w wr) (fun i _ => n - (intOf i).toNat)
      case atStart => exact ⟨0, Nat.zero_le _, rfl, fun i h => absurd h (Nat.not_lt_zero _), HK5.out, HD5.out, HB.out⟩
      case round =>
        obtain ⟨j, hj, rfl, hall, hk, hd, hb⟩ := hrel
        have HA := Lib.hid hall; have HKK := Lib.hid hk; have HDD := Lib.hid hd; have HBB := Lib.hid hb
        by_cases hlt : j < n
        · have hi : (j : Int) < (n : Int) := by omega
          have HLT := Lib.hid (show j < L.length by rw [HN.out]; exact hlt)
          have hcall := HO.out j wr A5 c5 hk hd HLT.out hall
          rw [HN.out] at hcall
          have HRJ := Lib.hid (HRX.out j HLT.out)
          obtain ⟨q, hq⟩ : ∃ q, rightB oneF pairF (cnt K) L j = q := ⟨_, rfl⟩
          have HQ := Lib.hid hq
          rw [hq] at hcall
          have HCL := Lib.hid hcall; have HL2 := Lib.hid hlt
          clear hall hk hd hb hcall hq hlt
          go_wp2_with fail
          refine HCL.out.mono ?_; rintro e w3 ⟨rfl, hb3⟩
          have HK3 := Lib.hid (HKK.out.later hb3); have HD3 := Lib.hid (HDD.out.later hb3); have HB3 := Lib.hid (HBB.out.trans (hb3.mono HBB.out.size))
          clear hb3
          cases q with
          | false =>
            have HE := Lib.hid (HRJ.out HQ.out)
            go_wp2_with fail
            go_ret
            exact ⟨ret_bool HE.out.symm, HB3.out⟩
          | true =>
            go_wp2_with fail
            go_roundw
            case rel => exact ⟨j + 1, HL2.out, by go_num, fun i hi => by
              rcases Nat.lt_or_ge i j with h | h
              · exact HA.out i h
              · obtain rfl : i = j := by omega
                exact HQ.out, HK3.out, HD3.out, HB3.out⟩
            case measure => have := HL2.out; simp [intOf]; omega
        · obtain rfl : j = n := by omega
          have HE := Lib.hid (HRT.out (by rw [HN.out]; exact H12.out.1) (by rw [HN.out]; exact H12.out.2) (fun i hi => HA.out i (by rw [HN.out] at hi; exact hi)))
          clear hall hk hd hb
          go_wp2_with fail
          go_ret
          exact ⟨ret_bool HE.out.symm, HBB.out⟩
end Go.Proofs.YtihbmgkbipeakaaGreat

namespace Go.Proofs.YtihbmgkbipeakaaGreat

def w_k : T := .mk 1 ⟨#[107]⟩ []
def w_m : T := .mk 1 ⟨#[109]⟩ []
def w_x : T := .mk 1 ⟨#[120]⟩ []
def w_y : T := .mk 1 ⟨#[121]⟩ []
def w_seal : T := .mk 5 ⟨#[]⟩ [w_k, w_m]
def w_px : T := .mk 7 ⟨#[]⟩ [w_x]
def w_py : T := .mk 7 ⟨#[]⟩ [w_y]
def w_pxy : T := .mk 7 ⟨#[]⟩ [w_x, w_y]
def w_U1 : List T := T.subsAll [w_seal, w_k, w_m]
def w_U2 : List T := T.subsAll [w_px, w_y, w_pxy]
def w_U3 : List T := T.subsAll [w_px, w_py, w_pxy]
def w_L1 : List Rsn := [⟨w_seal, 1, []⟩, ⟨w_k, 1, []⟩, ⟨w_m, 4, [0, 1]⟩]
def noOne : T → Int → T → Bool := fun _ _ _ => false
def onlyOpen : T → Int → T → T → Bool := fun t how a b => decide (how = 4) && openB t a b
set_option maxRecDepth 100000 in
theorem w_cnt1 : cnt [w_seal, w_k] = [w_seal, w_k] := by kernel_rfl
set_option maxRecDepth 100000 in
theorem w_cnt2 : cnt [w_px, w_y] = [w_px, w_y] := by kernel_rfl
set_option maxRecDepth 100000 in
theorem w_cnt3 : cnt [w_px, w_py] = [w_px, w_py] := by kernel_rfl
set_option maxRecDepth 100000 in
theorem w_can1 : canB (Wb.fill w_U1.length (cnt [w_seal, w_k])) w_m = true := by kernel_rfl
set_option maxRecDepth 100000 in
theorem w_can2 : canB (Wb.fill w_U2.length (cnt [w_px, w_y])) w_pxy = true := by kernel_rfl
set_option maxRecDepth 100000 in
theorem w_can3 : canB (Wb.fill w_U3.length (cnt [w_px, w_py])) w_pxy = false := by kernel_rfl
set_option maxRecDepth 100000 in
theorem w_der1 : derV (Wb.fill w_U1.length (cnt [w_seal, w_k])) w_m = some w_L1 := by kernel_rfl
set_option maxRecDepth 100000 in
theorem w_chk1 : chkB noOne onlyOpen (cnt [w_seal, w_k]) w_L1 = true := by kernel_rfl
theorem w_uni1 : Uni w_U1 := uni_of (fun t ht => List.all_eq_true.1 (show ([w_seal, w_k, w_m].all T.valid) = true by kernel_rfl) t ht) (by decide)
theorem w_uni2 : Uni w_U2 := uni_of (fun t ht => List.all_eq_true.1 (show ([w_px, w_y, w_pxy].all T.valid) = true by kernel_rfl) t ht) (by decide)
theorem w_uni3 : Uni w_U3 := uni_of (fun t ht => List.all_eq_true.1 (show ([w_px, w_py, w_pxy].all T.valid) = true by kernel_rfl) t ht) (by decide)
theorem bulk_all {U : List T} (h : (U.all fun t => decide (t.bulk ≤ 1048576)) = true) : ∀ t ∈ U, t.bulk ≤ 1048576 := fun t ht => of_decide_eq_true (List.all_eq_true.1 h t ht)
theorem w_bulk1 : ∀ t ∈ w_U1, t.bulk ≤ 1048576 := bulk_all (by kernel_rfl)
theorem w_bulk2 : ∀ t ∈ w_U2, t.bulk ≤ 1048576 := bulk_all (by kernel_rfl)
theorem w_bulk3 : ∀ t ∈ w_U3, t.bulk ≤ 1048576 := bulk_all (by kernel_rfl)
theorem in_subs {ts : List T} {t : T} (h : t ∈ ts) : t ∈ T.subsAll ts := T.mem_subsAll.2 ⟨t, h, T.subs_self t⟩
end Go.Proofs.YtihbmgkbipeakaaGreat

namespace Go.Proofs.YtihbmgkbipeakaaGreat
open Go.RowKit

theorem only_get (w : World) (S : Nat → Bool) (k : Nat) : (only w S).heap[k]? = (w.heap[k]?).map fun o => if S k = true then o else .cells #[] 0 (0, 0) := by
  simp [only, Array.getElem?_mapIdx]
theorem only_size (w : World) (S : Nat → Bool) : (only w S).heap.size = w.heap.size := by simp [only]
theorem only_grown {w w' : World} {row : Option Nat} (h : w.grownBy w' row) (S : Nat → Bool) : (only w S).grownBy (only w' S) row :=
  ⟨h.os, h.tape, h.output, by rw [only_size, only_size]; exact h.size, fun k hk hn => by rw [only_get, only_get, h.block k (by rw [only_size] at hk; exact hk) hn]⟩
theorem only_owns {w : World} {base : Nat} {e : TypeId} {size n : Nat} {v : Value} {xs : List Value} (h : w.ownsRow base e size v n xs) (S : Nat → Bool) (hS : ∀ g, v.ownBlock = some g → S g = true) : (only w S).ownsRow base e size v n xs := by
  refine ⟨h.1, ?_⟩
  rcases h.2 with h0 | ⟨g, cap, cur, rfl, h5, h1, rest⟩
  · exact .inl h0
  · exact .inr ⟨g, cap, cur, rfl, h5, by rw [only_get, h1, Option.map_some, if_pos (hS g rfl)], rest⟩
theorem unonly_owns {w : World} {base : Nat} {e : TypeId} {size n : Nat} {v : Value} {xs : List Value} {S : Nat → Bool} (h : (only w S).ownsRow base e size v n xs) (he : e ≠ 0) : w.ownsRow base e size v n xs := by
  refine ⟨h.1, ?_⟩
  rcases h.2 with h0 | ⟨g, cap, cur, rfl, h5, h1, rest⟩
  · exact .inl h0
  · refine .inr ⟨g, cap, cur, rfl, h5, ?_, rest⟩
    rw [only_get] at h1
    obtain ⟨o, ho, h2⟩ := Option.map_eq_some_iff.1 h1
    split at h2
    · rw [ho, h2]
    · injection h2 with h3 h4; exact absurd h4.symm he
theorem only_set (w : World) (S : Nat → Bool) (p : Addr) (v : Value) (hS : S p.block = false) (k : Nat) : (only (w.setCell p v) S).heap[k]? = (only w S).heap[k]? := by
  rw [only_get, only_get]
  by_cases hk : k = p.block
  · subst hk
    rw [hS]
    have h : (w.setCell p v).heap[p.block]?.isSome = w.heap[p.block]?.isSome := by
      simp only [World.setCell, Array.getElem?_modify]
      simp
    cases h1 : w.heap[p.block]? with
    | none => rw [h1] at h; cases h2 : (w.setCell p v).heap[p.block]? with
      | none => rfl
      | some o => rw [h2] at h; cases h
    | some o => rw [h1] at h; cases h2 : (w.setCell p v).heap[p.block]? with
      | none => rw [h2] at h; cases h
      | some o' => rfl
  · rw [Below.heap_setCell _ _ _ _ hk]
theorem TermIn.unonly {S X : Nat → Bool} {w : World} {v : Value} {t : T} (h : TermIn S (only w X) v t) : TermIn S w v t :=
  TermAt.keep h fun p hp => by
    rw [cell_only] at hp ⊢
    rw [cell_only]
    split at hp
    · rename_i hS
      rw [if_pos hS]
      rw [cell_only] at hp ⊢
      split at hp
      · rename_i hX; rw [if_pos hX]; simp [hS]
      · cases hp
    · cases hp
theorem TermsRow.unonly {w : World} {X : Nat → Bool} {base : Nat} {v : Value} {L : List T} (h : TermsRow (only w X) base v L) : TermsRow w base v L := by
  rcases h with h | ⟨g, cap, rfl, cur, h1, h2, h3, h4, h5, h6⟩
  · exact .inl h
  · refine .inr ⟨g, cap, rfl, cur, ?_, h2, h3, h4, h5, fun i hi => ?_⟩
    · rw [only_get] at h1
      obtain ⟨o, ho, h2⟩ := Option.map_eq_some_iff.1 h1
      split at h2
      · rw [ho, h2]
      · injection h2 with h3 h4; exact absurd h4 (by decide)
    · obtain ⟨u0, u1, u2, a, b, c, d⟩ := h6 i hi
      exact ⟨u0, u1, u2, a, b, c, d.unonly⟩
/-- All blocks but x. -/
def notB (x : Nat) : Nat → Bool := fun b => !(b == x)
theorem notB_iff {x b : Nat} : notB x b = true ↔ b ≠ x := by unfold notB; simp
theorem notB_self (x : Nat) : notB x x = false := by unfold notB; simp

namespace T
/-- What is left to read behind c kids. -/
def after (l : List UInt8) (f n c m : Nat) : Option (Except Nat (List T × Nat)) :=
  if (0 < n ∧ c = n) ∨ (n = 0 ∧ now l m 44 = false) then some (.ok ([], m))
  else match need l [44, 32] m with
    | .error e => some (.error e)
    | .ok j => pkids l f n c j
theorem pkids_after (l : List UInt8) (f n c i : Nat) (t : T) (j : Nat) (h : pterm l f i = some (.ok (t, j))) : pkids l (f + 1) n c i = more t (after l f n (c + 1) j) := by
  simp only [pkids, h, after]
  split
  · rfl
  · cases need l [44, 32] j <;> rfl
end T
end Go.Proofs.YtihbmgkbipeakaaGreat
