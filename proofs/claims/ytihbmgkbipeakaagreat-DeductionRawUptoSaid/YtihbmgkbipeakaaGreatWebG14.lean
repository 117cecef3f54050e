/- Several texts in one: WebI, WebJ. -/
import Derived.Test.YtihbmgkbipeakaaGreatWebG13
import Derived.Deep.RegionHeld
namespace Go.Proofs.YtihbmgkbipeakaaGreat
open Go.RowKit

/-- Is a value of the kinds that terms are made of. -/
def flatV : Value → Bool
  | .int _ _ => true
  | .string _ => true
  | .slice _ _ _ => true
  | _ => false
theorem TermAt.flat {w : World} {a b c : Value} {t : T} (h : TermAt w (.agg #[a, b, c]) t) : flatV a = true ∧ flatV b = true ∧ flatV c = true := by
  obtain ⟨A, cap, U, e, _⟩ := TermAt.inv h
  injection e with e; injection e with e; injection e with e0 e; injection e with e1 e; injection e with e2 _
  rw [e0, e1, e2]; exact ⟨rfl, rfl, rfl⟩
theorem TermAt.keepV {w w' : World} {v : Value} {t : T} (h : TermAt w v t) (hk : ∀ p u, w.cell? p = some u → flatV u = true → w'.cell? p = some u) : TermAt w' v t := by
  induction h with
  | mk k s A cap ks U h1 h2 h3 h4 hA hU ih =>
    refine .mk k s A cap ks U h1 h2 h3 h4 ?_ ih
    rcases hA with hA | ⟨b, off, e, hc⟩
    · exact .inl hA
    · refine .inr ⟨b, off, e, fun i hi => ?_⟩
      obtain ⟨c0, c1, c2⟩ := hc i hi
      obtain ⟨f0, f1, f2⟩ := (hU i hi).flat
      exact ⟨hk _ _ c0 f0, hk _ _ c1 f1, hk _ _ c2 f2⟩
theorem TermIn.keepV {S : Nat → Bool} {w w' : World} {v : Value} {t : T} (h : TermIn S w v t) (hk : ∀ p u, w.cell? p = some u → flatV u = true → w'.cell? p = some u) : TermIn S w' v t :=
  TermAt.keepV h fun p u hp hf => by
    rw [cell_only] at hp ⊢
    split at hp
    · rename_i hS; rw [if_pos hS]; exact hk p u hp hf
    · cases hp
theorem cell_point {w : World} {b : Nat} {p : Option Addr} {e : TypeId} (hb : w.heap[b]? = some (.cells #[.pointer p] e (0, 0))) (v : Value) : ∀ q u, w.cell? q = some u → flatV u = true → (w.setCell ⟨b, 0, none⟩ v).cell? q = some u := fun q u hq hf => by
  by_cases e : q.block = b
  · exfalso
    unfold World.cell? at hq
    rw [e, hb] at hq
    dsimp only at hq
    split at hq
    · cases hq
    · have : (#[Value.pointer p] : Array Value)[q.off]? = some u := hq
      rcases Nat.eq_zero_or_pos q.off with h0 | h0
      · rw [h0] at this; injection this with this; subst this; cases hf
      · rw [Array.getElem?_eq_none (by simp; omega)] at this; cases this
  · rw [World.cell?_setCell_other _ _ _ _ (by intro h; exact e (by rw [← h]))]
    exact hq
theorem StepAt.keepV {S : Nat → Bool} {w w' : World} {cs : List Value} {s : Stp} (h : StepAt S w cs s) (hk : ∀ p u, w.cell? p = some u → flatV u = true → w'.cell? p = some u) : StepAt S w' cs s := by
  obtain ⟨A, cap, F, fc, e, h1, h2⟩ := h
  refine ⟨A, cap, F, fc, e, h1.keepV hk, ?_⟩
  rcases h2 with h2 | ⟨b, off, e, hS, hc⟩
  · exact .inl h2
  · exact .inr ⟨b, off, e, hS, fun i hi => hk _ _ (hc i hi) rfl⟩
theorem WebAt.point {B g M b : Nat} {vs vp : Value} {W : List Stp} {w : World} {p : Option Addr} {e : TypeId} (h : WebAt B w g M vs vp W) (hb : w.heap[b]? = some (.cells #[.pointer p] e (0, 0))) (hB : b < B) (v : Value) : WebAt B (w.setCell ⟨b, 0, none⟩ v) g M vs vp W := by
  have ap := h.apart
  obtain ⟨css, h1, h2⟩ := h.steps
  obtain ⟨D, n, h4, h5, h6⟩ := h.map
  have l := h.low
  refine ⟨⟨css, ⟨h1.1, fun i a b => (h1.2 i a b).keepV (cell_point hb v)⟩, ?_⟩, ?_, ⟨D, n, h4.setCell (a := ⟨b, 0, none⟩) (fun e => by have : M = b := e; omega) _, h5, h6⟩, ?_, l, h.size⟩
  · exact own_keep h2 fun b' e _ => Below.heap_setCell _ _ _ _ (fun x => by have := (ap.s b' e).1; have : b' = b := x; omega)
  · exact own_keep h.part fun b' e _ => Below.heap_setCell _ _ _ _ (fun x => by have := (ap.p b' e).1; have : b' = b := x; omega)
  · exact (Below.heap_setCell w ⟨b, 0, none⟩ v g (fun e => by have : g = b := e; omega)).trans h.box
/-- What lies below the web lies outside it. -/
theorem nr_low {B g M : Nat} {vs vp : Value} {W : List Stp} {w : World} (h : WebAt B w g M vs vp W) {b : Nat} (hb : b < B) : nr g M vs vp b = true := by
  have ap := h.apart
  have l := h.low
  exact nr_iff.2 ⟨by omega, by omega, fun e => by have := (ap.s b e).1; omega, fun e => by have := (ap.p b e).1; omega⟩
theorem TermAt.low {B g M : Nat} {vs vp : Value} {W : List Stp} {w0 w : World} {v : Value} {t : T} (ht : TermAt w0 v t) (h : WebAt B w g M vs vp W) (hB : w0.heap.size ≤ B) (hb : Below w0.heap.size w0 w) : TermIn (nr g M vs vp) w v t :=
  ht.inAll.keep fun b _ hl => ⟨nr_low h (Nat.lt_of_lt_of_le hl hB), hb.block b hl⟩
/-- What is known is in memory. -/
def LearnAt (w w' : World) (g : Nat) (W : List Stp) : Prop := ∃ B M vs vp, w.heap.size < B ∧ WebAt B w' g M vs vp W
set_option maxRecDepth 100000 in
set_option maxHeartbeats 4000000 in
theorem olearn {U : List T} (hU : Uni U) (hbU : ∀ t ∈ U, t.bulk ≤ 1048576) (L : List T) (A : Option Addr) (cap : Nat) (w : World) (h : KnownAt w A cap L) (hb : ∀ t ∈ L, t.bulk ≤ 1048576) (hK : ∀ t ∈ cnt L, t ∈ U) :
    Calls Tryz.prog 48 #[.slice A L.length cap] w fun e w' => ∃ g, e = .returned (.agg #[.pointer (some ⟨g, 0, none⟩)]) ∧ LearnAt w w' g (Wb.fill U.length (cnt L)) ∧ Below w.heap.size w w' := by
  have hw := below_alloc1 w (.cells #[.pointer none] 84)
  have HF := Lib.hid (ofill hU hbU L A cap _ (h.later hw) hb hK)
  have bn : (w.alloc (.cells #[.pointer none] 84)).heap[w.heap.size]? = some (.cells #[.pointer none] 84 (0, 0)) := heap_alloc_new w _
  have hsz := size_alloc1 w (.cells #[.pointer none] 84)
  have HB1 := Lib.hid hw; have HSZ := Lib.hid hsz
  clear h hb hK hw hsz
  go_enter Tryz.func48, Tryz.ntmps48
  go_upto_region 1 with fail
  generalize w.alloc (.cells #[.pointer none] 84) = w1 at HF bn HB1 HSZ ⊢
  have HBN := Lib.hid bn
  clear bn
  go_wp2_with fail
  refine HF.out.mono ?_; rintro e w2 ⟨g, M, vs, vp, rfl, hw2, hb2⟩
  have bn2 : w2.heap[w.heap.size]? = some (.cells #[.pointer none] 84 (0, 0)) := (hb2.block _ (by have := HSZ.out; omega)).trans HBN.out
  have hlt : w.heap.size < w1.heap.size := by have := HSZ.out; omega
  have hw3 := hw2.point bn2 hlt (.pointer (some ⟨g, 0, none⟩))
  have hb3 := (HB1.out.trans (hb2.mono (Nat.le_of_lt hlt))).setCell (show w.heap.size ≤ (⟨w.heap.size, 0, none⟩ : Addr).block from Nat.le_refl _) (.pointer (some ⟨g, 0, none⟩))
  have c0 : w2.cell? ⟨w.heap.size, 0, none⟩ = some (.pointer none) := by unfold World.cell?; rw [bn2]; rfl
  have f0 : w2.frozen? ⟨w.heap.size, 0, none⟩ = false := by simp [World.frozen?, bn2]
  have c1 : (w2.setCell ⟨w.heap.size, 0, none⟩ (.pointer (some ⟨g, 0, none⟩))).cell? ⟨w.heap.size, 0, none⟩ = some (.pointer (some ⟨g, 0, none⟩)) := World.cell?_setCell_same _ _ _ c0
  have HE := Lib.hid (show LearnAt w (w2.setCell ⟨w.heap.size, 0, none⟩ (.pointer (some ⟨g, 0, none⟩))) g (Wb.fill U.length (cnt L)) from ⟨_, M, vs, vp, hlt, hw3⟩)
  have HB3 := Lib.hid hb3
  clear hw2 hb2 bn2 hw3 hb3 hlt
  go_wp2_with fail
  refine bodyPost_ret (v := .agg #[.pointer (some ⟨g, 0, none⟩)]) (by simp [results, Tryz.results48, go_sem, c1]) rfl ?_
  exact ⟨g, rfl, HE.out, HB3.out⟩

/-- Can a term be derived. -/
def canB (W : List Stp) (t : T) : Bool := t.use && (Wb.bld W t).2.isSome
theorem can_f {W : List Stp} {t : T} (h : t.use = false) : canB W t = false := by unfold canB; rw [h]; rfl
theorem can_n {W : List Stp} {t : T} (h : (Wb.bld W t).2 = none) : canB W t = false := by unfold canB; rw [h]; simp
theorem can_s {W : List Stp} {t : T} {i : Nat} (hu : t.use = true) (h : (Wb.bld W t).2 = some i) : canB W t = true := by unfold canB; rw [hu, h]; rfl
set_option maxRecDepth 100000 in
set_option maxHeartbeats 4000000 in
theorem okcan {U : List T} (hU : Uni U) (hbU : ∀ t ∈ U, t.bulk ≤ 1048576) {B g M : Nat} {vs vp : Value} {W : List Stp} (t : T) (v : Value) (w : World) (hI : Inv U W) (h : WebAt B w g M vs vp W) (hT : TermIn (nr g M vs vp) w v t) (hbk : t.bulk ≤ 1048576) (ht : t.use = true → t ∈ U) :
    Calls Tryz.prog 49 #[.agg #[.pointer (some ⟨g, 0, none⟩)], v] w fun e w' => e = .returned (.bool (canB W t)) ∧ ∃ W', WebTo B g M w vs vp W' w' := by
  obtain ⟨A0, cap0, rfl⟩ := hT.view
  obtain ⟨R, hR⟩ : ∃ R, canB W t = R := ⟨_, rfl⟩
  have hcf := can_f (W := W) (t := t); have hcn := can_n (W := W) (t := t); have hcs := fun i => can_s (W := W) (t := t) (i := i)
  rw [hR] at hcf hcn hcs ⊢
  have HCF := Lib.hid hcf; have HCN := Lib.hid hcn; have HCS := Lib.hid hcs
  have hb1 := below_alloc1 w (.cells #[.pointer (some ⟨g, 0, none⟩)] 84)
  have hb2 := below_alloc1 (w.alloc (.cells #[.pointer (some ⟨g, 0, none⟩)] 84)) (.cells #[.int .i64 t.kind, .string t.name, .slice A0 t.kids.length cap0] 29)
  have hz := h.lt.2
  have hbb := hb1.trans (hb2.mono hb1.size)
  have HW := Lib.hid (h.later hbb); have HT := Lib.hid (hT.keep (S' := nr g M vs vp) (fun b hb hl => ⟨hb, hbb.block b hl⟩)); have HF := Lib.hid ((Fr.refl B g M vs vp w).later hz hbb)
  have HUS := Lib.hid (fun v' W' hW => ousable t v' W' hW hbk)
  have HBU := Lib.hid (fun v' W' (hu : t.use = true) hW hT' => obuild (B := B) hU hbU (t.bulk + 1) t (by omega) (ht hu) v' W' g M vs vp W hI hW hT')
  have bx := Box.new (w.alloc (.cells #[.pointer (some ⟨g, 0, none⟩)] 84)) (.int .i64 t.kind) (.string t.name) (.slice A0 t.kids.length cap0)
  have hkb : (w.alloc (.cells #[.pointer (some ⟨g, 0, none⟩)] 84)).cell? ⟨w.heap.size, 0, none⟩ = some (.pointer (some ⟨g, 0, none⟩)) := by
    have := heap_alloc_new w (.cells #[.pointer (some ⟨g, 0, none⟩)] 84)
    unfold World.cell?; rw [this]; rfl
  have hka := cell_later hb2 hkb
  rw [size_alloc1] at bx
  clear hcf hcn hcs hR hb1 hb2 hbb h hT hI hbk ht hkb
  obtain ⟨k, hk⟩ : ∃ k, t.kind = k := ⟨_, rfl⟩
  obtain ⟨nm, hnm⟩ : ∃ nm, t.name = nm := ⟨_, rfl⟩
  obtain ⟨kn, hkn⟩ : ∃ kn, t.kids.length = kn := ⟨_, rfl⟩
  rw [hk, hnm, hkn] at bx HW HT HF hka ⊢
  clear hk hnm hkn
  go_enter Tryz.func49, Tryz.ntmps49
  go_upto_region 1 with fail
  generalize (w.alloc (.cells #[.pointer (some ⟨g, 0, none⟩)] 84)).alloc (.cells #[.int .i64 k, .string nm, .slice A0 kn cap0] 29) = w1 at bx HW HT HF hka ⊢
  obtain ⟨x0, x1, x2⟩ := bx.cells
  have BX := Lib.hid bx; have HKA := Lib.hid hka
  clear bx
  go_wp2_with fail
  refine (HUS.out _ _ HT.out.at).mono ?_; rintro e w2 ⟨rfl, hb2⟩
  have HW2 := Lib.hid (HW.out.later hb2); have HT2 := Lib.hid (HT.out.keep (S' := nr g M vs vp) (fun b hb hl => ⟨hb, hb2.block b hl⟩)); have HF2 := Lib.hid (HF.out.later hz hb2)
  obtain ⟨y0, y1, y2⟩ := (BX.out.later hb2).cells
  have hka2 := cell_later hb2 HKA.out
  clear hb2 x0 x1 x2 hka
  cases hu : t.use with
  | false =>
    have HE := Lib.hid (HCF.out hu)
    clear hu
    go_wp2_with fail
    go_ret
    exact ⟨ret_bool HE.out.symm, W, _, _, HW2.out, HF2.out⟩
  | true =>
    have hbl := HBU.out _ _ hu HW2.out HT2.out
    change Calls _ _ _ _ (BTo B g M _ vs vp (Wb.bld W t)) at hbl
    have HCSU := Lib.hid (fun i => HCS.out i hu)
    clear hu
    generalize Wb.bld W t = q at hbl HCN HCSU
    have HBLQ := Lib.hid hbl
    clear hbl
    go_wp2_with fail
    refine HBLQ.out.mono ?_; rintro e w3 ⟨he, vs3, vp3, hw3, hf3⟩
    have HW3 := Lib.hid hw3; have HF3 := Lib.hid (HF2.out.trans hf3)
    clear hw3 hf3 y0 y1 y2 hka2
    cases hq : q.2 with
    | none =>
      have he2 : e = .returned (.int .i64 (-1)) := by rw [he, hq]; rfl
      clear he; subst he2
      have HE := Lib.hid (HCN.out hq)
      clear hq
      go_wp2_with fail
      go_ret
      exact ⟨ret_bool HE.out.symm, q.1, _, _, HW3.out, HF3.out⟩
    | some p =>
      have he2 : e = .returned (.int .i64 (p : Int)) := by rw [he, hq]; rfl
      clear he; subst he2
      have hpos : (0 : Int) ≤ (p : Int) := by omega
      have HE := Lib.hid (HCSU.out p hq)
      clear hq
      go_wp2_with fail
      go_ret
      exact ⟨ret_bool HE.out.symm, q.1, _, _, HW3.out, HF3.out⟩

theorem fill_inv {U K : List T} (hU : Uni U) (hK : ∀ t ∈ K, t ∈ U) (N : Nat) : Inv U (Wb.fill N K) := by
  have h := Wb.start_inv hK K.length
  rw [List.take_of_length_le (Nat.le_refl _)] at h
  exact (Wb.run_facts hU ⟨#[]⟩ N (N + 1) _ h).1
set_option maxRecDepth 100000 in
set_option maxHeartbeats 4000000 in
theorem ocan {U : List T} (hU : Uni U) (hbU : ∀ t ∈ U, t.bulk ≤ 1048576) (L : List T) (A : Option Addr) (cap : Nat) (t : T) (v : Value) (w : World) (h : KnownAt w A cap L) (hb : ∀ t ∈ L, t.bulk ≤ 1048576) (hK : ∀ t ∈ cnt L, t ∈ U) (hT : TermAt w v t) (hbk : t.bulk ≤ 1048576) (ht : t.use = true → t ∈ U) :
    Calls Tryz.prog 19 #[.slice A L.length cap, v] w fun e w' => e = .returned (.bool (canB (Wb.fill U.length (cnt L)) t)) ∧ Below w.heap.size w w' := by
  have hv : ∃ A0 cap0, v = .agg #[.int .i64 t.kind, .string t.name, .slice A0 t.kids.length cap0] := by obtain ⟨A0, cap0, _, e, _⟩ := TermAt.inv hT; exact ⟨A0, cap0, e⟩
  obtain ⟨A0, cap0, rfl⟩ := hv
  have hw := below_alloc1 w (.cells #[.int .i64 t.kind, .string t.name, .slice A0 t.kids.length cap0] 29)
  have bx := Box.new w (.int .i64 t.kind) (.string t.name) (.slice A0 t.kids.length cap0)
  have HL := Lib.hid (fun W' (hW' : KnownAt W' A cap L) => olearn hU hbU L A cap W' hW' hb hK)
  have HI := Lib.hid (fill_inv hU hK U.length)
  have HKN := Lib.hid (h.later hw); have HT := Lib.hid (hT.later hw); have HB1 := Lib.hid hw
  have HC := Lib.hid (fun B g M vs vp v' W' (hW : WebAt B W' g M vs vp (Wb.fill U.length (cnt L))) hT' => okcan hU hbU t v' W' HI.out hW hT' hbk ht)
  generalize Wb.fill U.length (cnt L) = W at HL HI HC ⊢
  generalize canB W t = R at HC ⊢
  clear h hb hK hT hw hbk ht
  obtain ⟨k, hk⟩ : ∃ k, t.kind = k := ⟨_, rfl⟩
  obtain ⟨nm, hnm⟩ : ∃ nm, t.name = nm := ⟨_, rfl⟩
  obtain ⟨kn, hkn⟩ : ∃ kn, t.kids.length = kn := ⟨_, rfl⟩
  rw [hk, hnm, hkn] at bx HKN HT HB1 ⊢
  clear hk hnm hkn
  go_enter Tryz.func19, Tryz.ntmps19
  go_upto_region 1 with fail
  generalize w.alloc (.cells #[.int .i64 k, .string nm, .slice A0 kn cap0] 29) = w1 at bx HKN HT HB1 ⊢
  obtain ⟨x0, x1, x2⟩ := bx.cells
  have hsz1 : w.heap.size + 1 ≤ w1.heap.size := bx.lt
  clear bx
  (refine wp_region_held_drew (S := (fun Wq => Wq.cell? ⟨w.heap.size, 0, none⟩ = some (.int .i64 k) ∧ Wq.cell? ⟨w.heap.size, 1, none⟩ = some (.string nm) ∧ Wq.cell? ⟨w.heap.size, 2, none⟩ = some (.slice A0 kn cap0))) (by kernel_rfl) (show _ ∧ _ ∧ _ from ⟨x0, x1, x2⟩) (fun hHeld => ?_))
  ((first | (refine wpAnyH_take (i := 0) (v := ?_) (by simp only [List.getElem?_toArray, List.getElem?_cons_zero]; rfl) (by kernel_rfl) (by kernel_rfl) (by kernel_rfl) (by exact fun _ _ _ h => h) (Or.inl ⟨by rfl, ?_⟩) (by assumption) ?_; rotate_left 1; · (intro w hSw; (try dsimp only at hSw); go_simp; (try with_reducible rfl))) | (refine wpAnyH_take (i := 0) (v := undef) (by simp only [List.getElem?_toArray, List.getElem?_cons_zero]; rfl) (by kernel_rfl) (by kernel_rfl) (by kernel_rfl) (by exact fun _ _ _ h => h) (Or.inr ⟨by rfl, rfl⟩) (by assumption) ?_)); (try simp only [Act.put, List.setIfInBounds_toArray, List.set_cons_zero, List.set_cons_succ]))
  ((first | (refine wpAnyH_take (i := 2) (v := ?_) (by simp only [List.getElem?_toArray, List.getElem?_cons_succ, List.getElem?_cons_zero]; rfl) (by kernel_rfl) (by kernel_rfl) (by kernel_rfl) (by exact fun _ _ _ h => h) (Or.inl ⟨by rfl, ?_⟩) (by assumption) ?_; rotate_left 1; · (intro w hSw; (try dsimp only at hSw); go_simp; (try with_reducible rfl))) | (refine wpAnyH_take (i := 2) (v := undef) (by simp only [List.getElem?_toArray, List.getElem?_cons_succ, List.getElem?_cons_zero]; rfl) (by kernel_rfl) (by kernel_rfl) (by kernel_rfl) (by exact fun _ _ _ h => h) (Or.inr ⟨by rfl, rfl⟩) (by assumption) ?_)); (try simp only [Act.put, List.setIfInBounds_toArray, List.set_cons_zero, List.set_cons_succ]))
  (refine wpAnyH_ready (rs := [1]) (by kernel_rfl) (by simp) ?_; refine AllReadyH.cons (by simp only [List.getElem?_toArray, List.getElem?_cons_succ, List.getElem?_cons_zero]; rfl) (fun K hK => ?_) AllReadyH.nil; go_simp; go_at_call 48; refine (HL.out _ (HKN.out.later (Below.refl _ w1).drew)).mono ?_; rintro e w4 ⟨g, rfl, hl4, hb4⟩; have hb4' := below_undrew hb4; obtain ⟨B, M, vs, vp, hB4, hw4⟩ := hl4; have HB4 := Lib.hid (HB1.out.trans (hb4'.mono HB1.out.size)); have hT4 := HT.out.low hw4 (Nat.le_of_lt hB4) hb4'; refine hK.out _ _ (⟨cell_later hb4 hHeld.1, cell_later hb4 hHeld.2.1, cell_later hb4 hHeld.2.2⟩) (fun hHeld => ?_); clear hK K; (try simp only [Act.put, List.setIfInBounds_toArray, List.set_cons_zero, List.set_cons_succ]))
  (refine wpAnyH_ready (rs := [3]) (by kernel_rfl) (by simp) ?_; refine AllReadyH.cons (by simp only [List.getElem?_toArray, List.getElem?_cons_succ, List.getElem?_cons_zero]; rfl) (fun K hK => ?_) AllReadyH.nil; go_simp; go_at_call 49; refine (HC.out B g M vs vp _ _ hw4 hT4).mono ?_; rintro e w6 ⟨rfl, W6, vs6, vp6, hw6, hf6⟩; have HB6 := Lib.hid (HB4.out.trans (hf6.below.mono (Nat.le_trans HB1.out.size (Nat.le_of_lt hB4)))); refine hK.out _ _ (⟨cell_below hf6.below (Nat.lt_of_le_of_lt (Nat.le_refl _) (Nat.lt_trans (Nat.lt_of_lt_of_le (Nat.lt_succ_self _) hsz1) hB4)) hHeld.1, cell_below hf6.below (Nat.lt_of_le_of_lt (Nat.le_refl _) (Nat.lt_trans (Nat.lt_of_lt_of_le (Nat.lt_succ_self _) hsz1) hB4)) hHeld.2.1, cell_below hf6.below (Nat.lt_of_le_of_lt (Nat.le_refl _) (Nat.lt_trans (Nat.lt_of_lt_of_le (Nat.lt_succ_self _) hsz1) hB4)) hHeld.2.2⟩) (fun hHeld => ?_); clear hK K; (try simp only [Act.put, List.setIfInBounds_toArray, List.set_cons_zero, List.set_cons_succ]))
  ((first | (refine wpAnyH_take (i := 4) (v := ?_) (by simp only [List.getElem?_toArray, List.getElem?_cons_succ, List.getElem?_cons_zero]; rfl) (by kernel_rfl) (by kernel_rfl) (by kernel_rfl) (by exact fun _ _ _ h => h) (Or.inl ⟨by rfl, ?_⟩) (by assumption) ?_; rotate_left 1; · (intro w hSw; (try dsimp only at hSw); go_simp; (try with_reducible rfl))) | (refine wpAnyH_take (i := 4) (v := undef) (by simp only [List.getElem?_toArray, List.getElem?_cons_succ, List.getElem?_cons_zero]; rfl) (by kernel_rfl) (by kernel_rfl) (by kernel_rfl) (by exact fun _ _ _ h => h) (Or.inr ⟨by rfl, rfl⟩) (by assumption) ?_)); (try simp only [Act.put, List.setIfInBounds_toArray, List.set_cons_zero, List.set_cons_succ]))
  (refine wpAnyH_done (by kernel_rfl) ?_ _)
  go_wp2_with fail
  go_ret
  exact ⟨rfl, HB6.out⟩
end Go.Proofs.YtihbmgkbipeakaaGreat

namespace Go.Proofs.YtihbmgkbipeakaaGreat
open Go.RowKit Go.Maps

/-- A step of a deduction: its term, how it was obtained, from which steps. -/
structure Rsn where
  t : T
  how : Int
  frm : List Int
namespace Wb
def howAt (W : List Stp) (i : Nat) : Nat := (W[i]?.map Stp.how).getD 0
def frmAt (W : List Stp) (i : Nat) : List Nat := (W[i]?.map Stp.frm).getD []
abbrev NdR := (List Rsn × List (Nat × Nat)) × Nat
def ndl (rec : List Rsn → List (Nat × Nat) → Nat → NdR) : List Nat → List Rsn → List (Nat × Nat) → List Int → (List Rsn × List (Nat × Nat)) × List Int
  | [], out, pl, ks => ((out, pl), ks)
  | j :: js, out, pl, ks => ndl rec js (rec out pl j).1.1 (rec out pl j).1.2 (ks ++ [((rec out pl j).2 : Int)])
/-- The steps that lead to a place, in order. -/
def nd : Nat → List Stp → List Rsn → List (Nat × Nat) → Nat → NdR
  | 0, _, out, pl, _ => ((out, pl), 0)
  | f + 1, W, out, pl, i =>
    match pl.lookup i with
    | some k => ((out, pl), k)
    | none => (((ndl (nd f W) (frmAt W i) out pl []).1.1 ++ [⟨termAt W i, (howAt W i : Int), (ndl (nd f W) (frmAt W i) out pl []).2⟩], (i, (ndl (nd f W) (frmAt W i) out pl []).1.1.length) :: (ndl (nd f W) (frmAt W i) out pl []).1.2), (ndl (nd f W) (frmAt W i) out pl []).1.1.length)
theorem nd_known {f : Nat} {W : List Stp} {out : List Rsn} {pl : List (Nat × Nat)} {i k : Nat} (h : pl.lookup i = some k) : nd (f + 1) W out pl i = ((out, pl), k) := by
  simp only [nd, h]
theorem nd_new {f : Nat} {W : List Stp} {out : List Rsn} {pl : List (Nat × Nat)} {i : Nat} (h : pl.lookup i = none) : nd (f + 1) W out pl i = (((ndl (nd f W) (frmAt W i) out pl []).1.1 ++ [⟨termAt W i, (howAt W i : Int), (ndl (nd f W) (frmAt W i) out pl []).2⟩], (i, (ndl (nd f W) (frmAt W i) out pl []).1.1.length) :: (ndl (nd f W) (frmAt W i) out pl []).1.2), (ndl (nd f W) (frmAt W i) out pl []).1.1.length) := by
  simp only [nd, h]
/-- A step refers to earlier ones alone, and to two at most. -/
def Ord (W : List Stp) : Prop := ∀ i (h : i < W.length), W[i].frm.length ≤ 2 ∧ ∀ j ∈ W[i].frm, j < i
/-- What holds of the list and of the places. -/
def NdI (W : List Stp) (out : List Rsn) (pl : List (Nat × Nat)) : Prop := out.length = pl.length ∧ (pl.map Prod.fst).Nodup ∧ ∀ p ∈ pl, p.1 < W.length
theorem NdI.nil (W : List Stp) : NdI W [] [] := ⟨rfl, List.nodup_nil, fun p h => by cases h⟩
theorem nodup_lt : ∀ {l : List Nat} {n : Nat}, l.Nodup → (∀ x ∈ l, x < n) → l.length ≤ n := fun {l n} hn h => by
  have := nodup_le (l := l) (m := List.range n) hn fun x hx => List.mem_range.2 (h x hx)
  rwa [List.length_range] at this
theorem NdI.len {W : List Stp} {out : List Rsn} {pl : List (Nat × Nat)} (h : NdI W out pl) : out.length ≤ W.length := by
  rw [h.1]
  have := nodup_lt (l := pl.map Prod.fst) (n := W.length) h.2.1 fun x hx => by
    obtain ⟨p, hp, rfl⟩ := List.mem_map.1 hx
    exact h.2.2 p hp
  rwa [List.length_map] at this
theorem lookup_none {pl : List (Nat × Nat)} {i : Nat} (h : pl.lookup i = none) : ∀ p ∈ pl, p.1 ≠ i := by
  induction pl with
  | nil => intro p hp; cases hp
  | cons a r ih =>
    obtain ⟨a1, a2⟩ := a
    rw [List.lookup_cons] at h
    by_cases e : i = a1
    · subst e; simp at h
    · have hb : (i == a1) = false := by rw [beq_eq_false_iff_ne]; exact e
      rw [hb] at h
      intro p hp
      rcases List.mem_cons.1 hp with rfl | hp
      · exact fun e' => e e'.symm
      · exact ih h p hp
/-- What the recursion keeps. -/
def NdK (W : List Stp) (i : Nat) (rec : List Rsn → List (Nat × Nat) → Nat → NdR) : Prop := ∀ out pl, NdI W out pl → NdI W (rec out pl i).1.1 (rec out pl i).1.2 ∧ ∀ p ∈ (rec out pl i).1.2, p ∈ pl ∨ p.1 ≤ i
theorem ndl_inv {W : List Stp} {b : Nat} {rec : List Rsn → List (Nat × Nat) → Nat → NdR} : ∀ (js : List Nat), (∀ j ∈ js, j < b ∧ NdK W j rec) → ∀ out pl ks, NdI W out pl → NdI W (ndl rec js out pl ks).1.1 (ndl rec js out pl ks).1.2 ∧ ∀ p ∈ (ndl rec js out pl ks).1.2, p ∈ pl ∨ p.1 < b
  | [], _, out, pl, ks, h => ⟨h, fun p hp => .inl hp⟩
  | j :: js, hj, out, pl, ks, h => by
    obtain ⟨h1, h2⟩ := hj j (by simp)
    obtain ⟨h3, h4⟩ := h2 out pl h
    obtain ⟨h5, h6⟩ := ndl_inv js (fun x hx => hj x (List.mem_cons_of_mem _ hx)) (rec out pl j).1.1 (rec out pl j).1.2 (ks ++ [((rec out pl j).2 : Int)]) h3
    refine ⟨h5, fun p hp => ?_⟩
    rcases h6 p hp with h7 | h7
    · rcases h4 p h7 with h8 | h8
      · exact .inl h8
      · right; omega
    · exact .inr h7
theorem frm_at {W : List Stp} {i : Nat} (h : i < W.length) : frmAt W i = W[i].frm := by unfold frmAt; rw [List.getElem?_eq_getElem h]; rfl
theorem how_at {W : List Stp} {i : Nat} (h : i < W.length) : howAt W i = W[i].how := by unfold howAt; rw [List.getElem?_eq_getElem h]; rfl
theorem nd_inv {W : List Stp} (hO : Ord W) : ∀ (f i : Nat), i < f → i < W.length → NdK W i (nd f W)
  | 0, i, h, _ => absurd h (Nat.not_lt_zero _)
  | f + 1, i, hf, hi => fun out pl hI => by
    have hk : ∀ j ∈ frmAt W i, j < i ∧ NdK W j (nd f W) := fun j hj => by
      rw [frm_at hi] at hj
      have h1 := (hO i hi).2 j hj
      exact ⟨h1, nd_inv hO f j (by omega) (by omega)⟩
    cases hl : pl.lookup i with
    | some k => rw [nd_known hl]; exact ⟨hI, fun p hp => .inl hp⟩
    | none =>
      rw [nd_new hl]
      obtain ⟨h1, h2⟩ := ndl_inv (frmAt W i) hk out pl [] hI
      have hni : ∀ p ∈ (ndl (nd f W) (frmAt W i) out pl []).1.2, p.1 ≠ i := fun p hp => by
        rcases h2 p hp with h3 | h3
        · exact lookup_none hl p h3
        · omega
      refine ⟨⟨by simp [h1.1], ?_, fun p hp => ?_⟩, fun p hp => ?_⟩
      · rw [List.map_cons, List.nodup_cons]
        refine ⟨fun hm => ?_, h1.2.1⟩
        obtain ⟨p, hp, e⟩ := List.mem_map.1 hm
        exact hni p hp e
      · rcases List.mem_cons.1 hp with rfl | hp
        · exact hi
        · exact h1.2.2 p hp
      · rcases List.mem_cons.1 hp with rfl | hp
        · exact .inr (Nat.le_refl _)
        · rcases h2 p hp with h3 | h3
          · exact .inl h3
          · right; omega
end Wb
/-- Numbers in certain blocks. -/
def IntsIn (S : Nat → Bool) (w : World) (A : Option Addr) (ns : List Int) : Prop :=
  ns.length = 0 ∨ ∃ b off, A = some ⟨b, off, none⟩ ∧ S b = true ∧ ∀ i (h : i < ns.length), w.cell? ⟨b, off + i, none⟩ = some (.int .i64 ns[i])
theorem IntsIn.keep {S S' : Nat → Bool} {w w' : World} {A : Option Addr} {ns : List Int} (h : IntsIn S w A ns) (hk : ∀ b, S b = true → b < w.heap.size → S' b = true ∧ w'.heap[b]? = w.heap[b]?) : IntsIn S' w' A ns := by
  rcases h with h | ⟨b, off, e, hS, hc⟩
  · exact .inl h
  · by_cases h0 : ns.length = 0
    · exact .inl h0
    · have hl := World.block_lt_of_cell? w _ (hc 0 (by omega))
      obtain ⟨h1, h2⟩ := hk b hS hl
      exact .inr ⟨b, off, e, h1, fun i hi => (World.cell?_of_block h2).trans (hc i hi)⟩
/-- A step of a deduction in its five cells. -/
def RsnAt (S : Nat → Bool) (w : World) (cs : List Value) (r : Rsn) : Prop :=
  ∃ A cap F fc, cs = [.int .i64 r.t.kind, .string r.t.name, .slice A r.t.kids.length cap, .int .i64 r.how, .slice F r.frm.length fc] ∧ TermIn S w (.agg #[.int .i64 r.t.kind, .string r.t.name, .slice A r.t.kids.length cap]) r.t ∧ IntsIn S w F r.frm
theorem RsnAt.keep {S S' : Nat → Bool} {w w' : World} {cs : List Value} {r : Rsn} (h : RsnAt S w cs r) (hk : ∀ b, S b = true → b < w.heap.size → S' b = true ∧ w'.heap[b]? = w.heap[b]?) : RsnAt S' w' cs r := by
  obtain ⟨A, cap, F, fc, e, h1, h2⟩ := h
  exact ⟨A, cap, F, fc, e, h1.keep hk, h2.keep hk⟩
theorem RsnAt.len {S : Nat → Bool} {w : World} {cs : List Value} {r : Rsn} (h : RsnAt S w cs r) : cs.length = 5 := by
  obtain ⟨A, cap, F, fc, e, _⟩ := h
  rw [e]; rfl
def RsnsAt (S : Nat → Bool) (w : World) (css : List (List Value)) (L : List Rsn) : Prop := css.length = L.length ∧ ∀ i (h : i < css.length) (h' : i < L.length), RsnAt S w css[i] L[i]
theorem RsnsAt.keep {S S' : Nat → Bool} {w w' : World} {css : List (List Value)} {L : List Rsn} (h : RsnsAt S w css L) (hk : ∀ b, S b = true → b < w.heap.size → S' b = true ∧ w'.heap[b]? = w.heap[b]?) : RsnsAt S' w' css L :=
  ⟨h.1, fun i a b => (h.2 i a b).keep hk⟩
theorem RsnsAt.push {S : Nat → Bool} {w : World} {css : List (List Value)} {L : List Rsn} {cs : List Value} {r : Rsn} (h : RsnsAt S w css L) (hs : RsnAt S w cs r) : RsnsAt S w (css ++ [cs]) (L ++ [r]) := by
  refine ⟨by rw [List.length_append, List.length_append, h.1]; rfl, fun i a b => ?_⟩
  by_cases hi : i < css.length
  · rw [List.getElem_append_left hi, List.getElem_append_left (by rw [← h.1]; exact hi)]
    exact h.2 i hi (by rw [← h.1]; exact hi)
  · have e1 : i = css.length := by simp at a; omega
    subst e1
    have e2 : (css ++ [cs])[css.length]'a = cs := by simp
    have e3 : (L ++ [r])[css.length]'b = r := by rw [List.getElem_append_right (by rw [h.1]; exact Nat.le_refl _)]; simp
    rw [e2, e3]; exact hs
/-- Blocks from H on but some. -/
def outS (H : Nat) (X : Nat → Bool) (row : Option Nat) (M : Nat) : Nat → Bool := fun b => decide (H ≤ b) && !(X b) && !(row == some b) && !(b == M)
theorem outS_iff {H M b : Nat} {X : Nat → Bool} {row : Option Nat} : outS H X row M b = true ↔ H ≤ b ∧ X b = false ∧ row ≠ some b ∧ b ≠ M := by
  unfold outS
  rw [Bool.and_eq_true, Bool.and_eq_true, Bool.and_eq_true, decide_eq_true_eq, Bool.not_eq_true', Bool.not_eq_true', Bool.not_eq_true', beq_eq_false_iff_ne, beq_eq_false_iff_ne, and_assoc, and_assoc]
/-- The list that 'needed' appends to. -/
def OutAt (H : Nat) (X : Nat → Bool) (M : Nat) (w : World) (ov : Value) (out : List Rsn) : Prop := ∃ css, RsnsAt (outS H X ov.ownBlock M) w css out ∧ w.ownsRow H 31 5 ov out.length css.flatten
theorem OutAt.less {H M : Nat} {X X' : Nat → Bool} {w : World} {ov : Value} {out : List Rsn} (h : OutAt H X M w ov out) (hx : ∀ b, X' b = true → X b = true) : OutAt H X' M w ov out := by
  obtain ⟨css, h1, h2⟩ := h
  refine ⟨css, h1.keep fun b hb _ => ⟨?_, rfl⟩, h2⟩
  obtain ⟨a1, a2, a3, a4⟩ := outS_iff.1 hb
  refine outS_iff.2 ⟨a1, ?_, a3, a4⟩
  cases e : X' b with
  | false => rfl
  | true => rw [hx b e] at a2; cases a2
/-- More blocks are left alone, which did not exist yet. -/
theorem OutAt.more {H M : Nat} {X X' : Nat → Bool} {w : World} {ov : Value} {out : List Rsn} (h : OutAt H X M w ov out) (hx : ∀ b, b < w.heap.size → X' b = true → X b = true) : OutAt H X' M w ov out := by
  obtain ⟨css, h1, h2⟩ := h
  refine ⟨css, h1.keep fun b hb hl => ⟨?_, rfl⟩, h2⟩
  obtain ⟨a1, a2, a3, a4⟩ := outS_iff.1 hb
  refine outS_iff.2 ⟨a1, ?_, a3, a4⟩
  cases e : X' b with
  | false => rfl
  | true => rw [hx b hl e] at a2; cases a2
def kn (i : Nat) : Lit := .int .i64 (i : Int)
def PlIs (D : DataW Unit) (pl : List (Nat × Nat)) : Prop := ∀ i : Nat, Maps.has D (kn i) = (pl.lookup i).isSome ∧ ∀ k, pl.lookup i = some k → D.atKey (kn i) (.lit (.int .i64 0)) = .lit (.int .i64 (k : Int))
theorem PlIs.push {D : DataW Unit} {pl : List (Nat × Nat)} (h : PlIs D pl) (hD : Maps.IsMap D) (i k : Nat) : PlIs (D.put (kn i) (.lit (.int .i64 (k : Int)))) ((i, k) :: pl) := fun j => by
  rw [List.lookup_cons]
  by_cases e : j = i
  · subst e
    rw [beq_self_eq_true]
    refine ⟨Maps.has_put_same hD (show Go.WideAt.IsKeyLit (kn j) from trivial) _, fun k' hk => ?_⟩
    have hk' : k = k' := Option.some.inj hk
    rw [Maps.atKey_put_same hD (show Go.WideAt.IsKeyLit (kn j) from trivial), hk']
  · have hb : (j == i) = false := by rw [beq_eq_false_iff_ne]; exact e
    have hk : kn j ≠ kn i := fun h => by unfold kn at h; injection h with _ h; exact e (by omega)
    rw [hb, Maps.has_put_other hk]
    refine ⟨(h j).1, fun k' hk' => ?_⟩
    rw [Maps.atKey_put_other hk]
    exact (h j).2 k' hk'
/-- The places that 'needed' keeps. -/
def PlAt (H M : Nat) (w : World) (pl : List (Nat × Nat)) : Prop := H ≤ M ∧ ∃ D n, w.ownsMap Tryz.prog 3 (plainElem (H := Unit) Tryz.prog 3) M n D ∧ n ≤ pl.length ∧ PlIs D pl
theorem PlAt.later {H M : Nat} {w w' : World} {pl : List (Nat × Nat)} (h : PlAt H M w pl) (hb : Below w.heap.size w w') : PlAt H M w' pl := by
  obtain ⟨h1, D, n, h2, h3⟩ := h
  exact ⟨h1, D, n, h2.kept (row := none) (grownBy_of_below none hb) (by simp), h3⟩
theorem PlAt.lt {H M : Nat} {w : World} {pl : List (Nat × Nat)} (h : PlAt H M w pl) : M < w.heap.size := by
  obtain ⟨h1, D, n, h2, h3⟩ := h
  obtain ⟨es, c, hm⟩ := map_block h2
  exact (Array.getElem?_eq_some_iff.1 hm).1
theorem OutAt.later {H M : Nat} {X : Nat → Bool} {w w' : World} {ov : Value} {out : List Rsn} (h : OutAt H X M w ov out) (hb : Below w.heap.size w w') : OutAt H X M w' ov out := by
  obtain ⟨css, h1, h2⟩ := h
  exact ⟨css, h1.keep fun b hb' hl => ⟨hb', hb.block b hl⟩, own_later h2 hb⟩
end Go.Proofs.YtihbmgkbipeakaaGreat
