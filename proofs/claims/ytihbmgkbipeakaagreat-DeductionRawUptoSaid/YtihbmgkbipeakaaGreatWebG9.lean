/- Several texts in one: WebB, WebT, WebD, WebK. -/
import Derived.Test.YtihbmgkbipeakaaGreatWebG7
import Derived.Test.YtihbmgkbipeakaaGreatWebG8
import Derived.Test.YtihbmgkbipeakaaGreatWebG2
import Derived.Deep.RegionLaw
import Derived.Lib.SliceRun
namespace Go.Proofs.YtihbmgkbipeakaaGreat
open Go.RowKit Go.Maps

theorem Src.news (w : World) (cs : List Value) (e : TypeId) (size : Nat) (h : cs.length = size) : Src (w.alloc (.cells cs.toArray e)) size (some ⟨w.heap.size, 0, none⟩) 1 cs := by
  refine ⟨by omega, .inr ⟨_, 0, rfl, fun j u hu => ?_⟩⟩
  rw [Nat.zero_add]
  have e := heap_alloc_new w (.cells cs.toArray e)
  unfold World.cell?; rw [e]; simpa using hu
theorem Tryz.infoR : (Tryz.prog.info? 31).map (fun i => (i.zero, i.size, i.bytes)) = some (some (.agg #[.int .i64 0, .string ByteArray.empty, .slice none 0 0, .int .i64 0, .slice none 0 0]), 5, 80) := by kernel_rfl
theorem Tryz.infoB1 : (Tryz.prog.info? 4).map (fun i => (i.zero, i.size, i.bytes)) = some (some (.bool false), 1, 1) := by kernel_rfl
theorem wf_len (n : Nat) (h : n ≤ 1048576) : (Lit.int .i64 (n : Int)).wf = true := WalkArith.wf_i64 (by omega)
theorem own_block {P : Prop} {A' : Option Addr} {n c : Nat} {row : Option Nat} {z : Nat} (h : A'.map (·.block) = row ∨ A'.map (·.block) = some z) (_ : P) : (Value.slice A' n c).ownBlock = row ∨ (Value.slice A' n c).ownBlock = some z := by
  cases A' <;> exact h
/-- The map behind an update. -/
theorem WebAt.told {B g M : Nat} {vs vp : Value} {W : List Stp} {w : World} (h : WebAt B w g M vs vp W) (K : ByteArray) (hK : K.size ≤ 3145728) : ∃ D n w5, MapIs D W ∧ Maps.IsMap D ∧ n ≤ W.length ∧ Sem.run Tryz.prog (Instr.mapUpdate 113 (.map (some M)) (.string K) (.int .i64 (W.length : Int))) w = .ok () w5 ∧
    w5.ownsMap Tryz.prog 9 (plainElem (H := Unit) Tryz.prog 3) M (n + 1) (D.put (kl K) (.lit (.int .i64 (W.length : Int)))) ∧ w.mapTurned w5 M := by
  obtain ⟨D, n, hown, hn, hD⟩ := h.map
  have hs := h.size
  obtain ⟨w5, a, b, c⟩ := hown.store mapS_keyed Tryz.underlying113 (by unfold maxLen; omega) (key_lit K hK) (plainElem_int (H := Unit) Tryz.underlying3 (wf_len W.length hs))
  exact ⟨D, n, w5, hD, hown.isMap, hn, a, b, c⟩
theorem cell_turned {w w' : World} {M : Nat} {p : Addr} {v : Value} (hm : w.mapTurned w' M) (h : w.cell? p = some v) : w'.cell? p = some v := by
  refine hm.grown.cell h (fun e => ?_)
  obtain ⟨es, k, _, _, hb, _⟩ := hm
  injection e with e
  unfold World.cell? at h
  rw [e, hb] at h; cases h

theorem box_cells3 {w : World} {g : Nat} {a b c : Value} {e : TypeId} (h : w.heap[g]? = some (.cells #[a, b, c] e (0, 0))) : w.cell? ⟨g, 0, none⟩ = some a ∧ w.cell? ⟨g, 1, none⟩ = some b ∧ w.cell? ⟨g, 2, none⟩ = some c ∧ w.frozen? ⟨g, 0, none⟩ = false ∧ w.frozen? ⟨g, 2, none⟩ = false := by
  refine ⟨?_, ?_, ?_, ?_, ?_⟩ <;> simp [World.cell?, World.frozen?, h]
theorem box_grown {w w8 : World} {g : Nat} {o o' : Obj} {row : Option Nat} (h : w.heap[g]? = some o) (hr : row ≠ some g) (hg : (w.drew.alloc o').grownBy w8 row) : w8.heap[g]? = some o := by
  have hl := (Array.getElem?_eq_some_iff.1 h).1
  rw [hg.block g (by rw [size_alloc1]; exact Nat.lt_succ_of_lt hl) (fun e => hr e.symm), Below.heap_alloc w.drew o' g hl]
  exact h

/-- A step is appended, and the web's field told. -/
def Put1 (B g n : Nat) (xs cs : List Value) (w6 : World) (row : Option Nat) (W' : World) : Prop := ∃ g8 c8 w8, W' = w8.setCell ⟨g, 0, none⟩ (.slice (some ⟨g8, 0, none⟩) (n + 1) c8) ∧ w8.ownsRow B 31 5 (.slice (some ⟨g8, 0, none⟩) (n + 1) c8) (n + 1) (xs ++ cs) ∧ w6.grownBy w8 row ∧ (row = some g8 ∨ g8 = w6.heap.size)

theorem WebTo.after {B g M : Nat} {vs vp vs' vp' : Value} {w w1 w' : World} {W' : List Stp} (h : Fr B g M vs vp w vs' vp' w1) (h' : WebTo B g M w1 vs' vp' W' w') : WebTo B g M w vs vp W' w' := by
  obtain ⟨a, b, h1, h2⟩ := h'
  exact ⟨a, b, h1, h.trans h2⟩
theorem box_grown' {w w8 : World} {g : Nat} {o : Obj} {row : Option Nat} (h : w.heap[g]? = some o) (hr : row ≠ some g) (hg : w.grownBy w8 row) : w8.heap[g]? = some o :=
  (hg.block g (Array.getElem?_eq_some_iff.1 h).1 (fun e => hr e.symm)).trans h
set_option maxRecDepth 100000 in
set_option maxHeartbeats 8000000 in
theorem oadd {B g M : Nat} {vs vp : Value} {W : List Stp} (t : T) (v : Value) (w : World) (how : Nat) (frm : List Nat) (F : Option Addr) (fc : Nat) (h : WebAt B w g M vs vp W) (ht : TermIn (nr g M vs vp) w v t) (hbk : t.bulk ≤ 1048576)
    (hF : NumsIn (nr g M vs vp) w F frm) (hsz : findK W t.key = none → W.length < 1048576) :
    Calls Tryz.prog 99 #[.pointer (some ⟨g, 0, none⟩), v, .int .i64 (how : Int), .slice F frm.length fc] w fun e w' => e = .returned (.int .i64 ((Wb.add W t how frm).2 : Int)) ∧ WebTo B g M w vs vp (Wb.add W t how frm).1 w' := by
  obtain ⟨A0, cap0, rfl⟩ := ht.view
  obtain ⟨A1, c1, A2, c2, rfl, rfl⟩ := h.shapes
  have HFM := Lib.hid (fun (W' : World) (hW' : TermAt W' (.agg #[.int .i64 t.kind, .string t.name, .slice A0 t.kids.length cap0]) t) => (show Calls Tryz.prog 129 #[.agg #[.int .i64 t.kind, .string t.name, .slice A0 t.kids.length cap0]] W' fun e w' => e = .returned (.string t.key) ∧ Below W'.heap.size W' w' from oformat t _ W' hW' hbk))
  have HFD := Lib.hid (fun (W' : World) (hW : WebAt B W' g M (.slice A1 W.length c1) (.slice A2 W.length c2) W) (hT : TermAt W' (.agg #[.int .i64 t.kind, .string t.name, .slice A0 t.kids.length cap0]) t) => ofind t _ W' hW hT hbk)
  have hw := below_alloc1 w (.cells #[.int .i64 t.kind, .string t.name, .slice A0 t.kids.length cap0] 29)
  have bx := Box.new w (.int .i64 t.kind) (.string t.name) (.slice A0 t.kids.length cap0)
  have hz := h.lt.2
  have HW1 := Lib.hid (h.later hw); have HT1 := Lib.hid (ht.keep (fun b hb hl => ⟨hb, hw.block b hl⟩)); have HN1 := Lib.hid (hF.keep (fun b hb hl => ⟨hb, hw.block b hl⟩))
  have HR1 := Lib.hid ((Fr.refl B g M (.slice A1 W.length c1) (.slice A2 W.length c2) w).later hz hw)
  have hwl := h.size
  clear h ht hF hw
  cases hf : findK W t.key with
  | some i =>
    rw [Wb.add_some hf]
    rw [hf] at HFD
    clear hsz hf
    show Calls _ _ _ _ (fun e w' => e = .returned (.int .i64 (i : Int)) ∧ WebTo B g M w (.slice A1 W.length c1) (.slice A2 W.length c2) W w')
    generalize t.kind = k at *
    go_enter Tryz.func99, Tryz.ntmps99
    go_upto_region 1 with fail
    generalize w.alloc (.cells #[.int .i64 k, .string t.name, .slice A0 t.kids.length cap0] 29) = w1 at bx HW1 HT1 HN1 HR1 ⊢
    obtain ⟨x0, x1, x2⟩ := bx.cells
    clear bx
    go_wp2_with fail
    refine (HFD.out _ HW1.out HT1.out.at).mono ?_; rintro e w2 ⟨he, hb2⟩
    have he2 : e = .returned (.int .i64 (i : Int)) := he
    clear he; subst he2
    have hi : (0 : Int) ≤ (i : Int) := by omega
    have HE := Lib.hid (show WebTo B g M w (.slice A1 W.length c1) (.slice A2 W.length c2) W w2 from ⟨_, _, HW1.out.later hb2, HR1.out.later hz hb2⟩)
    clear hb2 x0 x1 x2
    go_wp2_with fail
    go_ret
    exact ⟨rfl, HE.out⟩
  | none =>
    rw [Wb.add_none hf]
    rw [hf] at HFD
    have hlt := hsz hf
    have HK := Lib.hid hf
    clear hsz hf
    show Calls _ _ _ _ (fun e w' => e = .returned (.int .i64 (W.length : Int)) ∧ WebTo B g M w (.slice A1 W.length c1) (.slice A2 W.length c2) (W ++ [⟨t, how, frm, false⟩]) w')
    obtain ⟨i0, hi0, hz0, hz1, hz2⟩ := info_parts Tryz.infoR
    obtain ⟨i1, gi0, gz0, gz1, gz2⟩ := info_parts Tryz.infoB1
    obtain ⟨KY, hKK⟩ : ∃ KY, t.key = KY := ⟨_, rfl⟩
    have HKK := Lib.hid hKK
    have HKS := Lib.hid (show KY.size ≤ 3145728 by rw [← hKK]; exact t.key_size hbk)
    rw [hKK] at HFM
    clear hKK
    obtain ⟨k, hk⟩ : ∃ k, t.kind = k := ⟨_, rfl⟩
    obtain ⟨nm, hnm⟩ : ∃ nm, t.name = nm := ⟨_, rfl⟩
    obtain ⟨kn, hkn⟩ : ∃ kn, t.kids.length = kn := ⟨_, rfl⟩
    have HV := Lib.hid (show t.kind = k ∧ t.name = nm ∧ t.kids.length = kn from ⟨hk, hnm, hkn⟩)
    rw [hk, hnm, hkn] at bx HFM HFD HW1 HT1 HN1 HR1 ⊢
    clear hk hnm hkn
    go_enter Tryz.func99, Tryz.ntmps99
    go_upto_region 1 with fail
    generalize w.alloc (.cells #[.int .i64 k, .string nm, .slice A0 kn cap0] 29) = w1 at bx HW1 HT1 HN1 HR1 ⊢
    have BX := Lib.hid bx
    obtain ⟨x0, x1, x2⟩ := bx.cells
    clear bx
    go_wp2_with fail
    refine (HFD.out _ HW1.out HT1.out.at).mono ?_; rintro e w2 ⟨he, hb2⟩
    have he2 : e = .returned (.int .i64 (-1)) := he
    clear he; subst he2
    have BX2 := Lib.hid (BX.out.later hb2)
    have HW2 := Lib.hid (HW1.out.later hb2); have HT2 := Lib.hid (HT1.out.keep (fun b hb hl => ⟨hb, hb2.block b hl⟩)); have HN2 := Lib.hid (HN1.out.keep (fun b hb hl => ⟨hb, hb2.block b hl⟩))
    have HR2 := Lib.hid (HR1.out.later hz hb2)
    clear hb2 x0 x1 x2
    go_upto_region 4 with fail
    obtain ⟨x0, x1, x2⟩ := BX2.out.cells
    obtain ⟨d0, d1, d2, _, _⟩ := HW2.out.cells
    (refine wp_region_held_drew (S := (fun Wq => Wq.cell? ⟨g, 1, none⟩ = some (.map (some M)) ∧ Wq.cell? ⟨g, 0, none⟩ = some (.slice A1 W.length c1) ∧ Wq.cell? ⟨w.heap.size, 0, none⟩ = some (.int .i64 k) ∧ Wq.cell? ⟨w.heap.size, 1, none⟩ = some (.string nm) ∧ Wq.cell? ⟨w.heap.size, 2, none⟩ = some (.slice A0 kn cap0))) (by kernel_rfl) (show _ ∧ _ ∧ _ ∧ _ ∧ _ from ⟨d1, d0, x0, x1, x2⟩) (fun hHeld => ?_))
    ((first | (refine wpAnyH_take (i := 0) (v := ?_) (by simp only [List.getElem?_toArray, List.getElem?_cons_zero]; rfl) (by kernel_rfl) (by kernel_rfl) (by kernel_rfl) (by exact fun _ _ _ h => h) (Or.inl ⟨by rfl, ?_⟩) (by assumption) ?_; rotate_left 1; · (intro w hSw; (try dsimp only at hSw); go_simp; (try with_reducible rfl))) | (refine wpAnyH_take (i := 0) (v := undef) (by simp only [List.getElem?_toArray, List.getElem?_cons_zero]; rfl) (by kernel_rfl) (by kernel_rfl) (by kernel_rfl) (by exact fun _ _ _ h => h) (Or.inr ⟨by rfl, rfl⟩) (by assumption) ?_)); (try simp only [Act.put, List.setIfInBounds_toArray, List.set_cons_zero, List.set_cons_succ]))
    ((first | (refine wpAnyH_take (i := 1) (v := ?_) (by simp only [List.getElem?_toArray, List.getElem?_cons_succ, List.getElem?_cons_zero]; rfl) (by kernel_rfl) (by kernel_rfl) (by kernel_rfl) (by exact fun _ _ _ h => h) (Or.inl ⟨by rfl, ?_⟩) (by assumption) ?_; rotate_left 1; · (intro w hSw; (try dsimp only at hSw); go_simp; (try with_reducible rfl))) | (refine wpAnyH_take (i := 1) (v := undef) (by simp only [List.getElem?_toArray, List.getElem?_cons_succ, List.getElem?_cons_zero]; rfl) (by kernel_rfl) (by kernel_rfl) (by kernel_rfl) (by exact fun _ _ _ h => h) (Or.inr ⟨by rfl, rfl⟩) (by assumption) ?_)); (try simp only [Act.put, List.setIfInBounds_toArray, List.set_cons_zero, List.set_cons_succ]))
    ((first | (refine wpAnyH_take (i := 2) (v := ?_) (by simp only [List.getElem?_toArray, List.getElem?_cons_succ, List.getElem?_cons_zero]; rfl) (by kernel_rfl) (by kernel_rfl) (by kernel_rfl) (by exact fun _ _ _ h => h) (Or.inl ⟨by rfl, ?_⟩) (by assumption) ?_; rotate_left 1; · (intro w hSw; (try dsimp only at hSw); go_simp; (try with_reducible rfl))) | (refine wpAnyH_take (i := 2) (v := undef) (by simp only [List.getElem?_toArray, List.getElem?_cons_succ, List.getElem?_cons_zero]; rfl) (by kernel_rfl) (by kernel_rfl) (by kernel_rfl) (by exact fun _ _ _ h => h) (Or.inr ⟨by rfl, rfl⟩) (by assumption) ?_)); (try simp only [Act.put, List.setIfInBounds_toArray, List.set_cons_zero, List.set_cons_succ]))
    ((first | (refine wpAnyH_take (i := 3) (v := ?_) (by simp only [List.getElem?_toArray, List.getElem?_cons_succ, List.getElem?_cons_zero]; rfl) (by kernel_rfl) (by kernel_rfl) (by kernel_rfl) (by exact fun _ _ _ h => h) (Or.inl ⟨by rfl, ?_⟩) (by assumption) ?_; rotate_left 1; · (intro w hSw; (try dsimp only at hSw); go_simp; (try with_reducible rfl))) | (refine wpAnyH_take (i := 3) (v := undef) (by simp only [List.getElem?_toArray, List.getElem?_cons_succ, List.getElem?_cons_zero]; rfl) (by kernel_rfl) (by kernel_rfl) (by kernel_rfl) (by exact fun _ _ _ h => h) (Or.inr ⟨by rfl, rfl⟩) (by assumption) ?_)); (try simp only [Act.put, List.setIfInBounds_toArray, List.set_cons_zero, List.set_cons_succ]))
    ((first | (refine wpAnyH_take (i := 4) (v := ?_) (by simp only [List.getElem?_toArray, List.getElem?_cons_succ, List.getElem?_cons_zero]; rfl) (by kernel_rfl) (by kernel_rfl) (by kernel_rfl) (by exact fun _ _ _ h => h) (Or.inl ⟨by rfl, ?_⟩) (by assumption) ?_; rotate_left 1; · (intro w hSw; (try dsimp only at hSw); go_simp; (try with_reducible rfl))) | (refine wpAnyH_take (i := 4) (v := undef) (by simp only [List.getElem?_toArray, List.getElem?_cons_succ, List.getElem?_cons_zero]; rfl) (by kernel_rfl) (by kernel_rfl) (by kernel_rfl) (by exact fun _ _ _ h => h) (Or.inr ⟨by rfl, rfl⟩) (by assumption) ?_)); (try simp only [Act.put, List.setIfInBounds_toArray, List.set_cons_zero, List.set_cons_succ]))
    ((first | (refine wpAnyH_take (i := 6) (v := ?_) (by simp only [List.getElem?_toArray, List.getElem?_cons_succ, List.getElem?_cons_zero]; rfl) (by kernel_rfl) (by kernel_rfl) (by kernel_rfl) (by exact fun _ _ _ h => h) (Or.inl ⟨by rfl, ?_⟩) (by assumption) ?_; rotate_left 1; · (intro w hSw; (try dsimp only at hSw); go_simp; (try with_reducible rfl))) | (refine wpAnyH_take (i := 6) (v := undef) (by simp only [List.getElem?_toArray, List.getElem?_cons_succ, List.getElem?_cons_zero]; rfl) (by kernel_rfl) (by kernel_rfl) (by kernel_rfl) (by exact fun _ _ _ h => h) (Or.inr ⟨by rfl, rfl⟩) (by assumption) ?_)); (try simp only [Act.put, List.setIfInBounds_toArray, List.set_cons_zero, List.set_cons_succ]))
    ((first | (refine wpAnyH_take (i := 7) (v := ?_) (by simp only [List.getElem?_toArray, List.getElem?_cons_succ, List.getElem?_cons_zero]; rfl) (by kernel_rfl) (by kernel_rfl) (by kernel_rfl) (by exact fun _ _ _ h => h) (Or.inl ⟨by rfl, ?_⟩) (by assumption) ?_; rotate_left 1; · (intro w hSw; (try dsimp only at hSw); go_simp; (try with_reducible rfl))) | (refine wpAnyH_take (i := 7) (v := undef) (by simp only [List.getElem?_toArray, List.getElem?_cons_succ, List.getElem?_cons_zero]; rfl) (by kernel_rfl) (by kernel_rfl) (by kernel_rfl) (by exact fun _ _ _ h => h) (Or.inr ⟨by rfl, rfl⟩) (by assumption) ?_)); (try simp only [Act.put, List.setIfInBounds_toArray, List.set_cons_zero, List.set_cons_succ]))
    ((first | (refine wpAnyH_take (i := 8) (v := ?_) (by simp only [List.getElem?_toArray, List.getElem?_cons_succ, List.getElem?_cons_zero]; rfl) (by kernel_rfl) (by kernel_rfl) (by kernel_rfl) (by exact fun _ _ _ h => h) (Or.inl ⟨by rfl, ?_⟩) (by assumption) ?_; rotate_left 1; · (intro w hSw; (try dsimp only at hSw); go_simp; (try with_reducible rfl))) | (refine wpAnyH_take (i := 8) (v := undef) (by simp only [List.getElem?_toArray, List.getElem?_cons_succ, List.getElem?_cons_zero]; rfl) (by kernel_rfl) (by kernel_rfl) (by kernel_rfl) (by exact fun _ _ _ h => h) (Or.inr ⟨by rfl, rfl⟩) (by assumption) ?_)); (try simp only [Act.put, List.setIfInBounds_toArray, List.set_cons_zero, List.set_cons_succ]))
    ((first | (refine wpAnyH_take (i := 9) (v := ?_) (by simp only [List.getElem?_toArray, List.getElem?_cons_succ, List.getElem?_cons_zero]; rfl) (by kernel_rfl) (by kernel_rfl) (by kernel_rfl) (by exact fun _ _ _ h => h) (Or.inl ⟨by rfl, ?_⟩) (by assumption) ?_; rotate_left 1; · (intro w hSw; (try dsimp only at hSw); go_simp; (try with_reducible rfl))) | (refine wpAnyH_take (i := 9) (v := undef) (by simp only [List.getElem?_toArray, List.getElem?_cons_succ, List.getElem?_cons_zero]; rfl) (by kernel_rfl) (by kernel_rfl) (by kernel_rfl) (by exact fun _ _ _ h => h) (Or.inr ⟨by rfl, rfl⟩) (by assumption) ?_)); (try simp only [Act.put, List.setIfInBounds_toArray, List.set_cons_zero, List.set_cons_succ]))
    ((first | (refine wpAnyH_take (i := 10) (v := ?_) (by simp only [List.getElem?_toArray, List.getElem?_cons_succ, List.getElem?_cons_zero]; rfl) (by kernel_rfl) (by kernel_rfl) (by kernel_rfl) (by exact fun _ _ _ h => h) (Or.inl ⟨by rfl, ?_⟩) (by assumption) ?_; rotate_left 1; · (intro w hSw; (try dsimp only at hSw); go_simp; (try with_reducible rfl))) | (refine wpAnyH_take (i := 10) (v := undef) (by simp only [List.getElem?_toArray, List.getElem?_cons_succ, List.getElem?_cons_zero]; rfl) (by kernel_rfl) (by kernel_rfl) (by kernel_rfl) (by exact fun _ _ _ h => h) (Or.inr ⟨by rfl, rfl⟩) (by assumption) ?_)); (try simp only [Act.put, List.setIfInBounds_toArray, List.set_cons_zero, List.set_cons_succ]))
    (refine wpAnyH_ready (rs := [5]) (by kernel_rfl) (by simp) ?_; refine AllReadyH.cons (by simp only [List.getElem?_toArray, List.getElem?_cons_succ, List.getElem?_cons_zero]; rfl) (fun K hK => ?_) AllReadyH.nil; go_simp; go_at_call 129; refine (HFM.out _ HT2.out.at.drew).mono ?_; rintro e w4 ⟨rfl, hb4⟩; have hb4' := below_undrew hb4; have HW4 := Lib.hid (HW2.out.later hb4'); obtain ⟨D, n, w5, hD4, hmD, hn4, hrun5, hown5, hm5⟩ := HW4.out.told KY HKS.out; refine hK.out _ _ (⟨cell_later hb4 hHeld.1, cell_later hb4 hHeld.2.1, cell_later hb4 hHeld.2.2.1, cell_later hb4 hHeld.2.2.2.1, cell_later hb4 hHeld.2.2.2.2⟩) (fun hHeld => ?_); clear hK K; (try simp only [Act.put, List.setIfInBounds_toArray, List.set_cons_zero, List.set_cons_succ]))
    (refine wpAnyH_ready (rs := [11]) (by kernel_rfl) (by simp) ?_; refine AllReadyH.cons (by simp only [List.getElem?_toArray, List.getElem?_cons_succ, List.getElem?_cons_zero]; rfl) (fun K hK => ?_) AllReadyH.nil; go_simp; go_simp; refine hK.out _ _ (⟨cell_turned hm5 hHeld.1, cell_turned hm5 hHeld.2.1, cell_turned hm5 hHeld.2.2.1, cell_turned hm5 hHeld.2.2.2.1, cell_turned hm5 hHeld.2.2.2.2⟩) (fun hHeld => ?_); clear hK K; (try simp only [Act.put, List.setIfInBounds_toArray, List.set_cons_zero, List.set_cons_succ]))
    (refine wpAnyH_done (by kernel_rfl) ?_ _)
    have ap := HW4.out.apart
    obtain ⟨css, hst, hown⟩ := HW4.out.steps
    have HST := Lib.hid hst
    have HB5 := Lib.hid (show w5.heap[g]? = _ from (hm5.grown.block g ap.g (fun e => ap.gm (by injection e))).trans HW4.out.box)
    have HO5 := Lib.hid (own_keep hown fun b e _ => hm5.grown.block b (ap.s b e).2.1 (fun x => (ap.s b e).2.2.2.1 (by injection x)))
    have HP5 := Lib.hid (own_keep HW4.out.part fun b e _ => hm5.grown.block b (ap.p b e).2.1 (fun x => (ap.p b e).2.2.2.1 (by injection x)))
    have HM5 := Lib.hid hm5; have HOWN5 := Lib.hid hown5; have HD4 := Lib.hid hD4; have HMD := Lib.hid hmD; have HN4 := Lib.hid hn4
    have HAP := Lib.hid ap
    have HSTEP := Lib.hid (show StepAt (nr g M (.slice A1 W.length c1) (.slice A2 W.length c2)) w4 [.int .i64 k, .string nm, .slice A0 kn cap0, .int .i64 (how : Int), .slice F frm.length fc] ⟨t, how, frm, false⟩ from by
      obtain ⟨v1, v2, v3⟩ := HV.out
      refine ⟨A0, cap0, F, fc, by rw [v1, v2, v3], ?_, HN2.out.keep (fun b hb hl => ⟨hb, hb4'.block b hl⟩)⟩
      rw [v1, v2, v3]
      exact HT2.out.keep (fun b hb hl => ⟨hb, hb4'.block b hl⟩))
    have hz5 : B ≤ w5.heap.size := Nat.le_trans HW4.out.lt.2 hm5.grown.size
    have hB5 := HB5.out
    have y0 : w5.cell? ⟨g, 0, none⟩ = some (.slice A1 W.length c1) := by unfold World.cell?; rw [hB5]; rfl
    have y2 : w5.cell? ⟨g, 2, none⟩ = some (.slice A2 W.length c2) := by unfold World.cell?; rw [hB5]; rfl
    have HCS := Lib.hid (show ∀ u ∈ [Value.int .i64 k, .string nm, .slice A0 kn cap0, .int .i64 (how : Int), .slice F frm.length fc], u.oneCell' = true from fun u hu => by
      simp at hu
      rcases hu with rfl | rfl | rfl | rfl | rfl <;> rfl)
    clear hst hown hm5 hown5 hD4 hmD hn4 ap hB5 d0 d1 d2 y0
    obtain ⟨_, y0, b0, b1, b2⟩ := hHeld
    obtain ⟨o5, ho5⟩ : ∃ o5, o5 = Obj.cells #[.int .i64 k, .string nm, .slice A0 kn cap0, .int .i64 (how : Int), .slice F frm.length fc] 31 (0, 0) := ⟨_, rfl⟩
    have HO6 := Lib.hid (HO5.out.drew.alloc (.cells #[.int .i64 k, .string nm, .slice A0 kn cap0, .int .i64 (how : Int), .slice F frm.length fc] 31))
    have hz6 : B ≤ (w5.drew.alloc (.cells #[.int .i64 k, .string nm, .slice A0 kn cap0, .int .i64 (how : Int), .slice F frm.length fc] 31)).heap.size := by rw [size_alloc1]; exact Nat.le_succ_of_le hz5
    have HSG := Lib.hid (show (Value.slice A1 W.length c1).ownBlock ≠ some g from fun e => (HAP.out.s g e).2.2.1 rfl)
    have y0' := cell_later (below_alloc1 w5 (.cells #[.int .i64 k, .string nm, .slice A0 kn cap0, .int .i64 (how : Int), .slice F frm.length fc] 31)) y0
    have HO5' := Lib.hid ho5
    clear y2 ho5
    go_upto_region 5 with fail
    go_cut [] from 27 to 40 (fun W' => Put1 B g W.length css.flatten [.int .i64 k, .string nm, .slice A0 kn cap0, .int .i64 (how : Int), .slice F frm.length fc] (w5.drew.alloc (.cells #[.int .i64 k, .string nm, .slice A0 kn cap0, .int .i64 (how : Int), .slice F frm.length fc] 31)) (Value.slice A1 W.length c1).ownBlock W')
    case first =>
      refine wp_region_any (by kernel_rfl) ?_
      (try (change wpAny _ _ _ _ _ _ _ (World.drew _)))
      (refine wpAny_take (i := 0) (v := ?_) (by simp only [List.getElem?_toArray, List.getElem?_cons_zero]; rfl) (by kernel_rfl) (by kernel_rfl) (by kernel_rfl) (by exact fun _ _ _ h => h) (Or.inl ⟨by rfl, ?_⟩) ?_; rotate_left 1; · (intro w; go_simp; (try with_reducible rfl)))
      (refine wpAny_take (i := 1) (v := ?_) (by simp only [List.getElem?_toArray, List.getElem?_cons_succ, List.getElem?_cons_zero]; rfl) (by kernel_rfl) (by kernel_rfl) (by kernel_rfl) (by exact fun _ _ _ h => h) (Or.inl ⟨by rfl, ?_⟩) ?_; rotate_left 1; · (intro w; go_simp; (try with_reducible rfl)))
      (refine wpAny_take (i := 2) (v := ?_) (by simp only [List.getElem?_toArray, List.getElem?_cons_succ, List.getElem?_cons_zero]; rfl) (by kernel_rfl) (by kernel_rfl) (by kernel_rfl) (by exact fun _ _ _ h => h) (Or.inl ⟨by rfl, ?_⟩) ?_; rotate_left 1; · (intro w; go_simp; (try with_reducible rfl)))
      (refine wpAny_take (i := 3) (v := ?_) (by simp only [List.getElem?_toArray, List.getElem?_cons_succ, List.getElem?_cons_zero]; rfl) (by kernel_rfl) (by kernel_rfl) (by kernel_rfl) (by exact fun _ _ _ h => h) (Or.inl ⟨by rfl, ?_⟩) ?_; rotate_left 1; · (intro w; go_simp; (try with_reducible rfl)))
      (refine wpAny_take (i := 6) (v := ?_) (by simp only [List.getElem?_toArray, List.getElem?_cons_succ, List.getElem?_cons_zero]; rfl) (by kernel_rfl) (by kernel_rfl) (by kernel_rfl) (by exact fun _ _ _ h => h) (Or.inl ⟨by rfl, ?_⟩) ?_; rotate_left 1; · (intro w; go_simp; (try with_reducible rfl)))
      (refine wpAny_take (i := 7) (v := ?_) (by simp only [List.getElem?_toArray, List.getElem?_cons_succ, List.getElem?_cons_zero]; rfl) (by kernel_rfl) (by kernel_rfl) (by kernel_rfl) (by exact fun _ _ _ h => h) (Or.inl ⟨by rfl, ?_⟩) ?_; rotate_left 1; · (intro w; go_simp; (try with_reducible rfl)))
      refine wpAny_ready (rs := [4, 5]) (by kernel_rfl) (by simp) ?_
      refine AllReady.cons (by simp only [List.getElem?_toArray, List.getElem?_cons_succ, List.getElem?_cons_zero]; rfl) (fun K hK => ?_) ?_
      · go_simp
        (first | (refine hK _ _ ?_; clear hK K) | skip)
        refine wpAny_ready (rs := [5]) (by kernel_rfl) (by simp) ?_
        refine AllReady.cons (by simp only [List.getElem?_toArray, List.getElem?_cons_succ, List.getElem?_cons_zero]; rfl) (fun K hK => ?_) ?_
        · go_simp
          (first | (refine hK _ _ ?_; clear hK K) | skip)
          (refine wpAny_take (i := 8) (v := ?_) (by simp only [List.getElem?_toArray, List.getElem?_cons_succ, List.getElem?_cons_zero]; rfl) (by kernel_rfl) (by kernel_rfl) (by kernel_rfl) (by exact fun _ _ _ h => h) (Or.inl ⟨by rfl, ?_⟩) ?_; rotate_left 1; · (intro w; go_simp; (try with_reducible rfl)))
          refine wpAny_ready (rs := [9]) (by kernel_rfl) (by simp) ?_
          refine AllReady.cons (by simp only [List.getElem?_toArray, List.getElem?_cons_succ, List.getElem?_cons_zero]; rfl) (fun K hK => ?_) ?_
          · go_simp
            (first | (refine hK _ _ ?_; clear hK K) | skip)
            refine wpAny_ready (rs := [10]) (by kernel_rfl) (by simp) ?_
            refine AllReady.cons (by simp only [List.getElem?_toArray, List.getElem?_cons_succ, List.getElem?_cons_zero]; rfl) (fun K hK => ?_) ?_
            · (refine step_append_lies _ (by rfl) _ _ _ (by rfl) B 31 i0 _ 5 80 Tryz.underlying23 hi0 hz0 hz1 hz2 rfl (by omega) _ _ _ (by rfl) HO6.out ⟨_, 0, none⟩ 1 1 _ (by rfl) (by rfl) (World.news_of_block (heap_alloc_new _ _)) HCS.out (by omega) (by unfold maxLen; omega) (by omega) hz6 _ rfl ?_; intro g8 c8 w8 hown8 hg8 hat8 hlt8; have b8 := box_grown HB5.out HSG.out hg8; obtain ⟨yy0, _, _, ff0, _⟩ := box_cells3 b8; go_simp)
              (first | (refine hK _ _ ?_; clear hK K) | skip)
              (refine wpAny_take (i := 11) (v := ?_) (by simp only [List.getElem?_toArray, List.getElem?_cons_succ, List.getElem?_cons_zero]; rfl) (by kernel_rfl) (by kernel_rfl) (by kernel_rfl) (by exact fun _ _ _ h => h) (Or.inl ⟨by rfl, ?_⟩) ?_; rotate_left 1; · (intro w; go_simp; (try with_reducible rfl)))
              (refine wpAny_take (i := 12) (v := ?_) (by simp only [List.getElem?_toArray, List.getElem?_cons_succ, List.getElem?_cons_zero]; rfl) (by kernel_rfl) (by kernel_rfl) (by kernel_rfl) (by exact fun _ _ _ h => h) (Or.inl ⟨by rfl, ?_⟩) ?_; rotate_left 1; · (intro w; go_simp; (try with_reducible rfl)))
              refine wpAny_ready (rs := [13]) (by kernel_rfl) (by simp) ?_
              refine AllReady.cons (by simp only [List.getElem?_toArray, List.getElem?_cons_succ, List.getElem?_cons_zero]; rfl) (fun K hK => ?_) ?_
              · go_simp
                (first | (refine hK _ _ ?_; clear hK K) | skip)
                refine wpAny_done (by kernel_rfl) ?_ _
                go_wp2_with fail
                go_meet
                exact ⟨g8, c8, w8, rfl, hown8, hg8, hat8⟩
              exact AllReady.nil
            exact AllReady.nil
          exact AllReady.nil
        exact AllReady.nil
      refine AllReady.cons (by simp only [List.getElem?_toArray, List.getElem?_cons_succ, List.getElem?_cons_zero]; rfl) (fun K hK => ?_) ?_
      · go_simp
        (first | (refine hK _ _ ?_; clear hK K) | skip)
        (refine wpAny_take (i := 8) (v := ?_) (by simp only [List.getElem?_toArray, List.getElem?_cons_succ, List.getElem?_cons_zero]; rfl) (by kernel_rfl) (by kernel_rfl) (by kernel_rfl) (by exact fun _ _ _ h => h) (Or.inl ⟨by rfl, ?_⟩) ?_; rotate_left 1; · (intro w; go_simp; (try with_reducible rfl)))
        refine wpAny_ready (rs := [4, 9]) (by kernel_rfl) (by simp) ?_
        refine AllReady.cons (by simp only [List.getElem?_toArray, List.getElem?_cons_succ, List.getElem?_cons_zero]; rfl) (fun K hK => ?_) ?_
        · go_simp
          (first | (refine hK _ _ ?_; clear hK K) | skip)
          refine wpAny_ready (rs := [9]) (by kernel_rfl) (by simp) ?_
          refine AllReady.cons (by simp only [List.getElem?_toArray, List.getElem?_cons_succ, List.getElem?_cons_zero]; rfl) (fun K hK => ?_) ?_
          · go_simp
            (first | (refine hK _ _ ?_; clear hK K) | skip)
            refine wpAny_ready (rs := [10]) (by kernel_rfl) (by simp) ?_
            refine AllReady.cons (by simp only [List.getElem?_toArray, List.getElem?_cons_succ, List.getElem?_cons_zero]; rfl) (fun K hK => ?_) ?_
            · (refine step_append_lies _ (by rfl) _ _ _ (by rfl) B 31 i0 _ 5 80 Tryz.underlying23 hi0 hz0 hz1 hz2 rfl (by omega) _ _ _ (by rfl) HO6.out ⟨_, 0, none⟩ 1 1 _ (by rfl) (by rfl) (World.news_of_block (heap_alloc_new _ _)) HCS.out (by omega) (by unfold maxLen; omega) (by omega) hz6 _ rfl ?_; intro g8 c8 w8 hown8 hg8 hat8 hlt8; have b8 := box_grown HB5.out HSG.out hg8; obtain ⟨yy0, _, _, ff0, _⟩ := box_cells3 b8; go_simp)
              (first | (refine hK _ _ ?_; clear hK K) | skip)
              (refine wpAny_take (i := 11) (v := ?_) (by simp only [List.getElem?_toArray, List.getElem?_cons_succ, List.getElem?_cons_zero]; rfl) (by kernel_rfl) (by kernel_rfl) (by kernel_rfl) (by exact fun _ _ _ h => h) (Or.inl ⟨by rfl, ?_⟩) ?_; rotate_left 1; · (intro w; go_simp; (try with_reducible rfl)))
              (refine wpAny_take (i := 12) (v := ?_) (by simp only [List.getElem?_toArray, List.getElem?_cons_succ, List.getElem?_cons_zero]; rfl) (by kernel_rfl) (by kernel_rfl) (by kernel_rfl) (by exact fun _ _ _ h => h) (Or.inl ⟨by rfl, ?_⟩) ?_; rotate_left 1; · (intro w; go_simp; (try with_reducible rfl)))
              refine wpAny_ready (rs := [13]) (by kernel_rfl) (by simp) ?_
              refine AllReady.cons (by simp only [List.getElem?_toArray, List.getElem?_cons_succ, List.getElem?_cons_zero]; rfl) (fun K hK => ?_) ?_
              · go_simp
                (first | (refine hK _ _ ?_; clear hK K) | skip)
                refine wpAny_done (by kernel_rfl) ?_ _
                go_wp2_with fail
                go_meet
                exact ⟨g8, c8, w8, rfl, hown8, hg8, hat8⟩
              exact AllReady.nil
            exact AllReady.nil
          exact AllReady.nil
        refine AllReady.cons (by simp only [List.getElem?_toArray, List.getElem?_cons_succ, List.getElem?_cons_zero]; rfl) (fun K hK => ?_) ?_
        · go_simp
          (first | (refine hK _ _ ?_; clear hK K) | skip)
          refine wpAny_ready (rs := [4]) (by kernel_rfl) (by simp) ?_
          refine AllReady.cons (by simp only [List.getElem?_toArray, List.getElem?_cons_succ, List.getElem?_cons_zero]; rfl) (fun K hK => ?_) ?_
          · go_simp
            (first | (refine hK _ _ ?_; clear hK K) | skip)
            refine wpAny_ready (rs := [10]) (by kernel_rfl) (by simp) ?_
            refine AllReady.cons (by simp only [List.getElem?_toArray, List.getElem?_cons_succ, List.getElem?_cons_zero]; rfl) (fun K hK => ?_) ?_
            · (refine step_append_lies _ (by rfl) _ _ _ (by rfl) B 31 i0 _ 5 80 Tryz.underlying23 hi0 hz0 hz1 hz2 rfl (by omega) _ _ _ (by rfl) HO6.out ⟨_, 0, none⟩ 1 1 _ (by rfl) (by rfl) (World.news_of_block (heap_alloc_new _ _)) HCS.out (by omega) (by unfold maxLen; omega) (by omega) hz6 _ rfl ?_; intro g8 c8 w8 hown8 hg8 hat8 hlt8; have b8 := box_grown HB5.out HSG.out hg8; obtain ⟨yy0, _, _, ff0, _⟩ := box_cells3 b8; go_simp)
              (first | (refine hK _ _ ?_; clear hK K) | skip)
              (refine wpAny_take (i := 11) (v := ?_) (by simp only [List.getElem?_toArray, List.getElem?_cons_succ, List.getElem?_cons_zero]; rfl) (by kernel_rfl) (by kernel_rfl) (by kernel_rfl) (by exact fun _ _ _ h => h) (Or.inl ⟨by rfl, ?_⟩) ?_; rotate_left 1; · (intro w; go_simp; (try with_reducible rfl)))
              (refine wpAny_take (i := 12) (v := ?_) (by simp only [List.getElem?_toArray, List.getElem?_cons_succ, List.getElem?_cons_zero]; rfl) (by kernel_rfl) (by kernel_rfl) (by kernel_rfl) (by exact fun _ _ _ h => h) (Or.inl ⟨by rfl, ?_⟩) ?_; rotate_left 1; · (intro w; go_simp; (try with_reducible rfl)))
              refine wpAny_ready (rs := [13]) (by kernel_rfl) (by simp) ?_
              refine AllReady.cons (by simp only [List.getElem?_toArray, List.getElem?_cons_succ, List.getElem?_cons_zero]; rfl) (fun K hK => ?_) ?_
              · go_simp
                (first | (refine hK _ _ ?_; clear hK K) | skip)
                refine wpAny_done (by kernel_rfl) ?_ _
                go_wp2_with fail
                go_meet
                exact ⟨g8, c8, w8, rfl, hown8, hg8, hat8⟩
              exact AllReady.nil
            exact AllReady.nil
          exact AllReady.nil
        exact AllReady.nil
      exact AllReady.nil
    case rest =>
      obtain ⟨g8, c8, w8, rfl, hown8, hg8, hat8⟩ := hcut
      have b8 := box_grown HB5.out HSG.out hg8
      have b9 := (heap_set_box b8 (.slice (some ⟨g8, 0, none⟩) (W.length + 1) c8)).1
      have hb6 := (below_alloc1 w5.drew (.cells #[.int .i64 k, .string nm, .slice A0 kn cap0, .int .i64 (how : Int), .slice F frm.length fc] 31))
      have hz8 : B ≤ (w8.setCell ⟨g, 0, none⟩ (.slice (some ⟨g8, 0, none⟩) (W.length + 1) c8)).heap.size := by rw [setCell_size]; exact Nat.le_trans hz6 hg8.size
      have HP9 := Lib.hid (show (w8.setCell ⟨g, 0, none⟩ (.slice (some ⟨g8, 0, none⟩) (W.length + 1) c8)).ownsRow B 4 1 (.slice A2 W.length c2) W.length (W.map fun s => Value.bool s.part) from own_keep HP5.out fun b e hb => by
        obtain ⟨_, _, a3, _, a5⟩ := HAP.out.p b e
        rw [Below.heap_setCell _ _ _ _ a3, hg8.block b (by rw [size_alloc1]; exact Nat.lt_succ_of_lt hb) (fun x => a5 x.symm), Below.heap_alloc w5.drew _ b hb]
        rfl)
      have HOWNK := Lib.hid (show w5.ownsMap Tryz.prog 9 (plainElem (H := Unit) Tryz.prog 3) M (n + 1) (D.put (kl t.key) (.lit (.int .i64 (W.length : Int)))) from by rw [HKK.out]; exact HOWN5.out)
      have HPUSH := Lib.hid (fun vp' w9 w10 hb9 hown10 hg10 hat10 => WebAt.pushed (t := t) (how := how) (frm := frm) (vp' := vp') (w9 := w9) (w10 := w10) HW4.out HST.out HD4.out HMD.out HN4.out HM5.out HOWNK.out HSTEP.out HK.out hlt ⟨hb6.os, hb6.tape, hb6.output, hb6.size, hb6.block⟩ hown8 hg8 (hat8.elim (fun e => .inl e.symm) (fun e => .inr (by rw [e]; rfl))) hb9 hown10 hg10 hat10)
      have HPG := Lib.hid (show (Value.slice A2 W.length c2).ownBlock ≠ some g from fun e => (HAP.out.p g e).2.2.1 rfl)
      have HB9 := Lib.hid b9
      clear b8 hown8 hg8 hat8 hb6 y0 y0' hz6
      generalize w8.setCell ⟨g, 0, none⟩ (.slice (some ⟨g8, 0, none⟩) (W.length + 1) c8) = w9 at *
      obtain ⟨e0, _, e2, _, _⟩ := box_cells3 b9
      clear b9
      have hwa := below_alloc1 w9 (.cells #[.bool false] 4)
      have HP10 := Lib.hid (own_later HP9.out hwa)
      have hz10 : B ≤ (w9.alloc (.cells #[.bool false] 4)).heap.size := by rw [size_alloc1]; exact Nat.le_succ_of_le hz8
      have HB10 := Lib.hid ((hwa.block g (Array.getElem?_eq_some_iff.1 HB9.out).1).trans HB9.out)
      have HWA := Lib.hid hwa
      clear hwa
      go_upto_region 7 with (at_builtin; refine wpList_append_src _ rfl _ _ 114 rfl B 4 i1 _ 1 1 Tryz.underlying114 gi0 gz0 gz1 gz2 rfl (by omega) _ _ _ rfl HP10.out _ 1 1 [.bool false] rfl (Src.news _ _ _ 1 rfl) (by intro u hu; rw [List.mem_singleton] at hu; subst hu; rfl) (by unfold maxLen; omega) (by omega) hz10 ?_; intro A10 c10 w10 hown10 hg10 hat10; have b10 := box_grown' HB10.out HPG.out hg10; obtain ⟨_, _, yy2, _, ff2⟩ := box_cells3 b10)
      have HE := Lib.hid (WebTo.after (HR2.out.later hz hb4') (HPUSH.out _ _ _ HWA.out hown10 hg10 (own_block hat10 trivial)))
      obtain ⟨q0, _, _, _, _⟩ := box_cells3 (heap_set_box b10 (.slice A10 (W.length + 1) c10)).2
      clear b10 hown10 hg10 hat10 yy2 ff2 e0 e2
      generalize w10.setCell ⟨g, 2, none⟩ (.slice A10 (W.length + 1) c10) = wf at HE q0 ⊢
      go_wp2_with fail
      go_ret
      exact ⟨rfl, HE.out⟩
end Go.Proofs.YtihbmgkbipeakaaGreat

namespace Go.Proofs.YtihbmgkbipeakaaGreat
open Go.RowKit Go.Maps

theorem map_part_mark (W : List Stp) (i : Nat) : (W.map fun s => Value.bool s.part).set i (.bool true) = (Wb.mark W i).map fun s => Value.bool s.part := by
  apply List.ext_getElem
  · rw [List.length_set, List.length_map, List.length_map, mark_len]
  · intro j h1 h2
    rw [List.getElem_set, List.getElem_map, List.getElem_map]
    have h3 : j < W.length := by simpa using h1
    rw [(mark_t W i j (by rw [mark_len]; exact h3) h3).2.2.2]
    split <;> rfl
/-- A step is marked. -/
theorem WebAt.marked {B g M gp cp : Nat} {vs : Value} {W : List Stp} {w : World} {n : Nat} (h : WebAt B w g M vs (.slice (some ⟨gp, 0, none⟩) n cp) W) (hn : n = W.length) (i : Nat) :
    WebTo B g M w vs (.slice (some ⟨gp, 0, none⟩) n cp) (Wb.mark W i) (w.setCell ⟨gp, i, none⟩ (.bool true)) := by
  subst hn
  have ap := h.apart
  obtain ⟨a1, a2, a3, a4, a5⟩ := ap.p gp rfl
  have F : Fr B g M vs (.slice (some ⟨gp, 0, none⟩) W.length cp) w vs (.slice (some ⟨gp, 0, none⟩) W.length cp) (w.setCell ⟨gp, i, none⟩ (.bool true)) :=
    Fr.grown h.lt.2 (grown_cell w ⟨gp, i, none⟩ (.bool true)) (fun k hk => by injection hk with hk; subst hk; exact ⟨a1, nr_p rfl⟩) (.inl rfl) (.inl rfl)
  obtain ⟨css, h1, h2⟩ := h.steps
  obtain ⟨D, n, h4, h5, h6⟩ := h.map
  refine ⟨vs, _, ⟨⟨css, (h1.keep F.keep).mark i, ?_⟩, ?_, ⟨D, n, h4.setCell (a := ⟨gp, i, none⟩) (fun e => a4 e.symm) _, by rw [mark_len]; exact h5, h6.mark i⟩, ?_, h.low, by rw [mark_len]; exact h.size⟩, F⟩
  · rw [mark_len]
    exact own_keep h2 fun b e _ => Below.heap_setCell _ _ _ _ (fun x => a5 (by rw [e, x]))
  · rw [mark_len, ← map_part_mark]
    exact (h.part.stored i (.bool true)).1
  · exact (Below.heap_setCell w ⟨gp, i, none⟩ (.bool true) g (fun e => a3 e.symm)).trans h.box

theorem WebAt.part_row {B g M : Nat} {vs vp : Value} {W : List Stp} {w : World} (h : WebAt B w g M vs vp W) {i : Nat} (hi : i < W.length) : ∃ gp cp, vp = .slice (some ⟨gp, 0, none⟩) W.length cp ∧ w.cell? ⟨gp, i, none⟩ = some (.bool W[i].part) ∧ w.frozen? ⟨gp, i, none⟩ = false ∧ gp ≠ g := by
  obtain ⟨gp, cp, e, _⟩ := h.part.form (by omega)
  subst e
  have hp := h.part
  refine ⟨gp, cp, rfl, ?_, hp.frozenAt i, (h.apart.p gp rfl).2.2.1⟩
  rw [hp.cellAt i (by omega), List.getElem?_map, List.getElem?_eq_getElem hi]; rfl

set_option maxRecDepth 100000 in
set_option maxHeartbeats 4000000 in
theorem otake {B g M : Nat} {vs vp : Value} {W : List Stp} (t : T) (v : Value) (w : World) (how : Nat) (frm : List Nat) (F : Option Addr) (fc : Nat) (h : WebAt B w g M vs vp W) (ht : TermIn (nr g M vs vp) w v t) (hbk : t.bulk ≤ 1048576)
    (hF : NumsIn (nr g M vs vp) w F frm) (hsz : findK W t.key = none → W.length < 1048576) :
    Calls Tryz.prog 96 #[.pointer (some ⟨g, 0, none⟩), v, .int .i64 (how : Int), .slice F frm.length fc] w fun e w' => e = .returned (.bool (Wb.take W t how frm).2) ∧ WebTo B g M w vs vp (Wb.take W t how frm).1 w' := by
  obtain ⟨A0, cap0, rfl⟩ := ht.view
  have hw := below_alloc1 w (.cells #[.int .i64 t.kind, .string t.name, .slice A0 t.kids.length cap0] 29)
  have bx := Box.new w (.int .i64 t.kind) (.string t.name) (.slice A0 t.kids.length cap0)
  have hz := h.lt.2
  have HR1 := Lib.hid ((Fr.refl B g M vs vp w).later hz hw)
  have HAD := Lib.hid (oadd t _ _ how frm F fc (h.later hw) (ht.keep (fun b hb hl => ⟨hb, hw.block b hl⟩)) hbk (hF.keep (fun b hb hl => ⟨hb, hw.block b hl⟩)) hsz)
  have hpre := Wb.add_pre W t how frm
  obtain ⟨W1, hW1⟩ : ∃ W1, (Wb.add W t how frm).1 = W1 := ⟨_, rfl⟩
  obtain ⟨i, hi⟩ : ∃ i, (Wb.add W t how frm).2 = i := ⟨_, rfl⟩
  rw [hW1, hi] at HAD hpre
  have hT : Wb.take W t how frm = if Wb.partAt W1 i = true then (W1, false) else (Wb.mark W1 i, true) := by unfold Wb.take; rw [hW1, hi]
  rw [hT]
  have hil := hpre.2
  clear h ht hF hsz hw hbk hpre hW1 hi hT
  have HPA := Lib.hid (show Wb.partAt W1 i = W1[i].part from by unfold Wb.partAt; rw [List.getElem?_eq_getElem hil]; rfl)
  obtain ⟨p, hp⟩ : ∃ p, W1[i].part = p := ⟨_, rfl⟩
  have HP := Lib.hid hp
  rw [HPA.out, hp]
  clear hp
  obtain ⟨R, hR⟩ : ∃ R, (if p = true then (W1, false) else (Wb.mark W1 i, true)) = R := ⟨_, rfl⟩
  rw [hR]
  have HR := Lib.hid hR
  clear hR
  go_enter Tryz.func96, Tryz.ntmps96
  go_upto_region 1 with fail
  generalize w.alloc (.cells #[.int .i64 t.kind, .string t.name, .slice A0 t.kids.length cap0] 29) = w1 at bx HAD HR1 ⊢
  obtain ⟨x0, x1, x2⟩ := bx.cells
  clear bx
  go_wp2_with fail
  refine HAD.out.mono ?_; rintro e w2 ⟨rfl, vs2, vp2, hw2, hf2⟩
  obtain ⟨gp, cp, rfl, c0, f0, hne⟩ := hw2.part_row hil
  rw [HP.out] at c0
  have d2 := hw2.cells.2.2.1
  have HW2 := Lib.hid hw2; have HF2 := Lib.hid (HR1.out.trans hf2)
  have hib : (0 : Int) ≤ (i : Int) ∧ (i : Int) < (W1.length : Int) := by omega
  obtain ⟨hi1, hi2⟩ := hib
  clear hw2 hf2 x0 x1 x2
  cases p with
  | true =>
    go_wp2_with fail
    go_ret
    rw [← HR.out]
    exact ⟨rfl, _, _, HW2.out, HF2.out⟩
  | false =>
    go_wp2_with fail
    go_ret
    rw [← HR.out]
    exact ⟨rfl, WebTo.after HF2.out (HW2.out.marked rfl i)⟩
end Go.Proofs.YtihbmgkbipeakaaGreat

namespace Go.Proofs.YtihbmgkbipeakaaGreat
open Go.RowKit

theorem run_clear_three {P : Program} (w : World) (t e ty : TypeId) (z z0 z1 z2 : Value) (ht : P.underlying t = some (.slice e)) (hv : ∀ w, (zeroValue e).run P w = .ok z w) (hz : z.cells = #[z0, z1, z2]) (h1 : ∀ u ∈ [z0, z1, z2], u.oneCell' = true) (b o c : Nat)
    (hc : ∀ j, j < 3 → (w.cell? ⟨b, o + j, none⟩).isSome = true) (hf : ∀ j, j < 3 → w.frozen? ⟨b, o + j, none⟩ = false) :
    (Builtin.clear_ #[t] ty #[.slice (some ⟨b, o, none⟩) 1 c]).run P w = .ok (.tuple #[]) (w.setCells b o [z0, z1, z2]) := by
  have hzc : (Builtin.zeroCells z.cells 1).toList = [z0, z1, z2] := by
    rw [hz]
    have e : List.range 3 = [0, 1, 2] := rfl
    simp [Builtin.zeroCells, e]
  have hst := run_storeCells_cells (P := P) b o [z0, z1, z2] 0 w (by simpa using hc) (by simpa using hf) h1
  simp only [Nat.add_zero] at hst
  simp [Builtin.clear_, run_underlying ht, hv, hzc, hst]

theorem below_setCells_d {a : World} (b : Nat) : ∀ (vs : List Value) (o : Nat) {w : World}, Below b a w → Below b a (w.setCells b o vs)
  | [], _, _, h => h
  | v :: r, o, _, h => below_setCells_d b r (o + 1) (h.setCell (Nat.le_refl _) v)
set_option maxRecDepth 100000 in
set_option maxHeartbeats 4000000 in
theorem odelete (b n cap i j : Nat) (cs : List Value) (w : World) (hl : cs.length = n * 3) (hij : j = i + 1) (hi : i < n) (hcap : n ≤ cap)
    (hcell : ∀ j u, cs[j]? = some u → w.cell? ⟨b, j, none⟩ = some u) (hfz : ∀ j, j < n * 3 → w.frozen? ⟨b, j, none⟩ = false) (h1 : ∀ u ∈ cs, u.oneCell' = true) :
    Calls Tryz.prog 130 #[.slice (some ⟨b, 0, none⟩) n cap, .int .i64 i, .int .i64 j] w fun e w' => e = .returned (.slice (some ⟨b, 0, none⟩) (n - 1) cap) ∧ (∀ k u, (cs.take (i * 3) ++ cs.drop (j * 3))[k]? = some u → w'.cell? ⟨b, k, none⟩ = some u) ∧ Below b w w' := by
  obtain ⟨i0, hi0, hz0, hz1, hz2⟩ := info_parts Tryz.infoT
  have hlt : i < j := by omega
  have hjn : j ≤ n := by omega
  have hnj : i + (n - j) = n - 1 := by omega
  have HNJ := Lib.hid hnj
  clear hnj
  obtain ⟨news, hnews⟩ : ∃ news, news = cs.drop (j * 3) := ⟨_, rfl⟩
  have hlen : news.length = (n - j) * 3 := by rw [hnews, List.length_drop, hl]; omega
  obtain ⟨A, hA, hsrc⟩ : ∃ A : Addr, (if cap = j then some (⟨b, 0, none⟩ : Addr) else some ⟨b, j * 3, none⟩) = some A ∧ Hid (∀ t u, news[t]? = some u → w.drew.cell? (A.add t) = some u) := by
    by_cases h : cap = j
    · refine ⟨⟨b, 0, none⟩, by simp [h], fun t u hu => ?_⟩
      have h0 : news.length = 0 := by rw [hlen]; omega
      rw [List.length_eq_zero_iff.1 h0] at hu
      simp at hu
    · refine ⟨⟨b, j * 3, none⟩, by simp [h], fun t u hu => ?_⟩
      rw [hnews, List.getElem?_drop] at hu
      rw [Go.WideShapes.add_plain]
      exact hcell _ u hu
  have s2 := Lib.hid (show ∀ u ∈ news, u.oneCell' = true from fun u hu => h1 u (by rw [hnews] at hu; exact List.mem_of_mem_drop hu))
  have hall : ∀ k, k < n * 3 → (w.cell? ⟨b, k, none⟩).isSome = true := fun k hk => by
    have := List.getElem?_eq_getElem (l := cs) (i := k) (by omega)
    rw [hcell k _ this]; rfl
  have s3 := Lib.hid (show ∀ t, t < news.length → (w.drew.cell? ⟨b, 0 + i * 3 + t, none⟩).isSome = true ∧ w.drew.frozen? ⟨b, 0 + i * 3 + t, none⟩ = false from fun t ht => by
    rw [hlen] at ht
    exact ⟨hall _ (by omega), hfz _ (by omega)⟩)
  obtain ⟨W1, hW1⟩ : ∃ W1, W1 = w.drew.setCells b (0 + i * 3) news := ⟨_, rfl⟩
  have HW := Lib.hid hW1
  have hcl : ∀ ty, (Builtin.clear_ #[27] ty #[.slice (some ⟨b, (i + (n - j)) * 3, none⟩) (n - (i + (n - j))) (cap - (i + (n - j)))]).run Tryz.prog W1 = .ok (.tuple #[]) (W1.setCells b ((n - 1) * 3) [.int .i64 0, .string ByteArray.empty, .slice none 0 0]) := fun ty => by
    rw [show n - (i + (n - j)) = 1 by omega, show i + (n - j) = n - 1 by omega]
    exact run_clear_three W1 _ _ ty (.agg #[.int .i64 0, .string ByteArray.empty, .slice none 0 0]) _ _ _ Tryz.underlying27 Tryz.zeroValue29 (by simp [Value.cells]) (by intro u hu; simp at hu; rcases hu with rfl | rfl | rfl <;> rfl) b ((n - 1) * 3) _
      (fun k hk => by rw [hW1]; exact World.isSome_setCells b news _ _ _ (hall _ (by omega))) (fun k hk => by rw [hW1, World.frozen?_setCells]; exact hfz _ (by omega))
  have HEND := Lib.hid (show (∀ k u, (cs.take (i * 3) ++ cs.drop (j * 3))[k]? = some u → (W1.setCells b ((n - 1) * 3) [.int .i64 0, .string ByteArray.empty, .slice none 0 0]).cell? ⟨b, k, none⟩ = some u) ∧ Below b w (W1.setCells b ((n - 1) * 3) [.int .i64 0, .string ByteArray.empty, .slice none 0 0]) by
    refine ⟨fun k u hu => ?_, below_setCells_d b _ _ (by rw [hW1]; exact below_setCells_d b _ _ (Below.refl _ _).drew)⟩
    have hk : k < (n - 1) * 3 := by
      have := (List.getElem?_eq_some_iff.1 hu).1
      rw [List.length_append, List.length_take, List.length_drop] at this; omega
    rw [World.cell?_setCells_out b _ _ _ _ (fun _ _ => .inl hk), hW1]
    by_cases hki : k < i * 3
    · rw [World.cell?_setCells_out b _ _ _ _ (fun _ _ => .inl (by simp; omega))]
      rw [List.getElem?_append_left (by rw [List.length_take]; omega), List.getElem?_take_of_lt hki] at hu
      exact hcell k u hu
    · rw [List.getElem?_append_right (by rw [List.length_take]; omega), List.length_take, ← hnews] at hu
      have hm := Nat.min_eq_left (show i * 3 ≤ cs.length by omega)
      rw [hm] at hu
      obtain ⟨h2, h3⟩ := List.getElem?_eq_some_iff.1 hu
      have := World.cell?_setCells_in b news (0 + i * 3) w.drew (fun t ht => (s3.out t ht).1) (k - i * 3) h2
      rw [show 0 + i * 3 + (k - i * 3) = k by omega] at this
      rw [this, h3])
  clear hcell hfz h1 hl hall hnews hW1 hij
  have hic : i ≤ cap := by omega
  have hjc : j ≤ cap := by omega
  go_enter Tryz.func130, Tryz.ntmps130
  go_wp2_with fail
  go_region_law (refine step_append_room rfl (.tmp 22) (.tmp 25) 27 rfl 29 i0 3 Tryz.underlying27 hi0 hz1 b 0 i cap (by simp [Act.eval, Act.put]) A (n - j) (cap - j) news (by simp [Act.eval, Act.put]; done) hlen hsrc.out s2.out (by omega) s3.out ?_; rw [← HW.out])
  clear hA hlen
  have hlow : i + (n - j) ≤ n := by omega
  have hlc : n ≤ cap := hcap
  go_wp2_with fail
  go_ret
  exact ⟨by rw [HNJ.out]; rfl, HEND.out.1, HEND.out.2⟩
end Go.Proofs.YtihbmgkbipeakaaGreat

namespace Go.Proofs.YtihbmgkbipeakaaGreat
open Go.RowKit

theorem T.kid_at {t : T} {i : Nat} (h : i < t.kids.length) : t.kid i = t.kids[i] := by
  unfold T.kid
  rw [List.getD_eq_getElem?_getD, List.getElem?_eq_getElem h]; rfl
theorem T.bulk_eq (t : T) : t.bulk = t.name.size + 4 + T.bulkAll t.kids := by cases t; simp [T.bulk, T.name, T.kids]
theorem T.kid_bulk {t : T} {i : Nat} (h : i < t.kids.length) : (t.kid i).bulk + 4 ≤ t.bulk := by
  rw [T.kid_at h]
  have := T.bulk_at t.kids i h
  have := t.bulk_eq
  omega
theorem T.bulk_four (t : T) : 4 ≤ t.bulk := by have := t.bulk_eq; omega
theorem T.bulkAll_erase : ∀ (l : List T) (i : Nat), i < l.length → T.bulkAll (l.eraseIdx i) + 4 ≤ T.bulkAll l
  | [], i, h => absurd h (Nat.not_lt_zero _)
  | a :: r, 0, _ => by
    have := a.bulk_four
    simp only [List.eraseIdx_cons_zero, T.bulkAll]; omega
  | a :: r, i + 1, h => by
    have := T.bulkAll_erase r i (by simpa using h)
    simp only [List.eraseIdx_cons_succ, T.bulkAll]; omega
theorem T.less_bulk {t : T} {i : Nat} (h : i < t.kids.length) : (t.lessOf i).bulk + 4 ≤ t.bulk := by
  have h1 := T.bulkAll_erase t.kids i h
  have h2 := t.bulk_eq
  have h3 := (t.lessOf i).bulk_eq
  have e1 : (t.lessOf i).name.size = 0 := rfl
  have e2 : (t.lessOf i).kids = t.kids.eraseIdx i := rfl
  rw [e1, e2] at h3
  omega
theorem TermIn.kid {S : Nat → Bool} {w : World} {k : Int} {s : ByteArray} {A : Option Addr} {n cap : Nat} {t : T} (h : TermIn S w (.agg #[.int .i64 k, .string s, .slice A n cap]) t) {i : Nat} (hi : i < t.kids.length) :
    ∃ b off A' cap', A = some ⟨b, off, none⟩ ∧ S b = true ∧ w.cell? ⟨b, off + i * 3, none⟩ = some (.int .i64 (t.kid i).kind) ∧ w.cell? ⟨b, off + i * 3 + 1, none⟩ = some (.string (t.kid i).name) ∧ w.cell? ⟨b, off + i * 3 + 2, none⟩ = some (.slice A' (t.kid i).kids.length cap') ∧
      TermIn S w (.agg #[.int .i64 (t.kid i).kind, .string (t.kid i).name, .slice A' (t.kid i).kids.length cap']) (t.kid i) := by
  rw [T.kid_at hi]
  cases h with
  | mk k s A cap ks U h1 h2 h3 h4 hA hU =>
  obtain ⟨b, off, A', cap', e, c0, c1, c2, hu⟩ := TermAt.cells hi hA hU
  have key : ∀ {q : Addr} {v : Value}, (only w S).cell? q = some v → S q.block = true ∧ w.cell? q = some v := fun {q v} hq => by
    rw [cell_only] at hq
    split at hq
    · rename_i hS; exact ⟨hS, hq⟩
    · cases hq
  exact ⟨b, off, A', cap', e, (key c0).1, (key c0).2, (key c1).2, (key c2).2, hu⟩
theorem TermIn.kid0 {S : Nat → Bool} {w : World} {k : Int} {s : ByteArray} {A : Option Addr} {n cap : Nat} {t : T} (h : TermIn S w (.agg #[.int .i64 k, .string s, .slice A n cap]) t) (hi : 0 < t.kids.length) :
    ∃ b off A' cap', A = some ⟨b, off, none⟩ ∧ S b = true ∧ w.cell? ⟨b, off, none⟩ = some (.int .i64 (t.kid 0).kind) ∧ w.cell? ⟨b, off + 1, none⟩ = some (.string (t.kid 0).name) ∧ w.cell? ⟨b, off + 2, none⟩ = some (.slice A' (t.kid 0).kids.length cap') ∧
      TermIn S w (.agg #[.int .i64 (t.kid 0).kind, .string (t.kid 0).name, .slice A' (t.kid 0).kids.length cap']) (t.kid 0) := h.kid hi
theorem TermIn.kid1 {S : Nat → Bool} {w : World} {k : Int} {s : ByteArray} {A : Option Addr} {n cap : Nat} {t : T} (h : TermIn S w (.agg #[.int .i64 k, .string s, .slice A n cap]) t) (hi : 1 < t.kids.length) :
    ∃ b off A' cap', A = some ⟨b, off, none⟩ ∧ S b = true ∧ w.cell? ⟨b, off + 3, none⟩ = some (.int .i64 (t.kid 1).kind) ∧ w.cell? ⟨b, off + 3 + 1, none⟩ = some (.string (t.kid 1).name) ∧ w.cell? ⟨b, off + 3 + 2, none⟩ = some (.slice A' (t.kid 1).kids.length cap') ∧
      TermIn S w (.agg #[.int .i64 (t.kid 1).kind, .string (t.kid 1).name, .slice A' (t.kid 1).kids.length cap']) (t.kid 1) := h.kid hi
theorem nr_new {B g M : Nat} {vs vp : Value} {W : List Stp} {w : World} (h : WebAt B w g M vs vp W) {b : Nat} (hb : w.heap.size ≤ b) : nr g M vs vp b = true := by
  have ap := h.apart
  exact nr_iff.2 ⟨by have := ap.g; omega, by have := ap.m; omega, fun e => by have := (ap.s b e).2.1; omega, fun e => by have := (ap.p b e).2.1; omega⟩
theorem Box.fr {B g M b : Nat} {vs vp vs' vp' v0 v1 v2 : Value} {w w' : World} (h : Box w b v0 v1 v2) (hf : Fr B g M vs vp w vs' vp' w') (hb : nr g M vs vp b = true) : Box w' b v0 v1 v2 := (hf.keep b hb h.lt).2.trans h
theorem Inv.room {U : List T} {W : List Stp} (hU : Uni U) (h : Inv U W) {t : T} (ht : t ∈ U) : findK W t.key = none → W.length < 1048576 := fun hf => by
  have h1 := (h.push ⟨t, 0, [], false⟩ ht hf).len
  have h2 := hU.size
  rw [List.length_append] at h1
  simp only [List.length_singleton] at h1; omega
/-- Numbers in a new block. -/
theorem NumsIn.one {S : Nat → Bool} (w : World) (a : Nat) (e : TypeId) (hS : S w.heap.size = true) : NumsIn S (w.alloc (.cells #[.int .i64 (a : Int)] e)) (some ⟨w.heap.size, 0, none⟩) [a] :=
  .inr ⟨_, 0, rfl, hS, fun i hi => by
    obtain rfl : i = 0 := by simp at hi; omega
    have h := heap_alloc_new w (.cells #[.int .i64 (a : Int)] e)
    unfold World.cell?; rw [h]; rfl⟩
theorem NumsIn.two {S : Nat → Bool} (w : World) (a b : Nat) (e : TypeId) (hS : S w.heap.size = true) : NumsIn S (w.alloc (.cells #[.int .i64 (a : Int), .int .i64 (b : Int)] e)) (some ⟨w.heap.size, 0, none⟩) [a, b] :=
  .inr ⟨_, 0, rfl, hS, fun i hi => by
    have h := heap_alloc_new w (.cells #[.int .i64 (a : Int), .int .i64 (b : Int)] e)
    unfold World.cell?; rw [h]
    match i, hi with
    | 0, _ => rfl
    | 1, _ => rfl⟩
theorem NumsIn.none_ {S : Nat → Bool} (w : World) (A : Option Addr) : NumsIn S w A [] := .inl rfl
end Go.Proofs.YtihbmgkbipeakaaGreat
