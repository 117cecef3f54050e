/- Several texts in one: WebD, WebK, WebTh, WebC, WebL, WebE. -/
import Derived.Test.YtihbmgkbipeakaaGreatWebG3
import Derived.Deep.RegionLaw
import Derived.Lib.SliceRun
import Derived.Test.YtihbmgkbipeakaaGreatWebG11
import Derived.Test.YtihbmgkbipeakaaGreatWebG4
import Derived.Test.YtihbmgkbipeakaaGreatShelfG
import Derived.Shelf.SlicesE.Clone
namespace Go.Proofs.YtihbmgkbipeakaaGreat
open Go.RowKit

theorem run_clear_three {P : Program} (w : World) (t e ty : TypeId) (z z0 z1 z2 : Value) (ht : P.underlying t = some (.slice e)) (hv : ∀ w, (zeroValue e).run P w = .ok z w) (hz : z.cells = #[z0, z1, z2]) (h1 : ∀ u ∈ [z0, z1, z2], u.oneCell' = true) (b o c : Nat)
    (hc : ∀ j, j < 3 → (w.cell? ⟨b, o + j, none⟩).isSome = true) (hf : ∀ j, j < 3 → w.frozen? ⟨b, o + j, none⟩ = false) :
    (Builtin.clear_ #[t] ty #[.slice (some ⟨b, o, none⟩) 1 c]).run P w = .ok (.tuple #[]) (w.setCells b o [z0, z1, z2]) := by
  have hzc : (Builtin.zeroCells z.cells 1).toList = [z0, z1, z2] := by
    rw [hz]
    have e : List.range 3 = [0, 1, 2] := rfl
    simp [Builtin.zeroCells, e]
  have hst := run_storeCells_cells (P := P) b o [z0, z1, z2] 0 w (by simpa using hc) (by simpa using hf) h1
  simp only [Nat.add_zero] at hst
  simp [Builtin.clear_, run_underlying ht, hv, hzc, hst]

theorem below_setCells_d {a : World} (b : Nat) : ∀ (vs : List Value) (o : Nat) {w : World}, Below b a w → Below b a (w.setCells b o vs)
  | [], _, _, h => h
  | v :: r, o, _, h => below_setCells_d b r (o + 1) (h.setCell (Nat.le_refl _) v)
set_option maxRecDepth 100000 in
set_option maxHeartbeats 4000000 in
theorem odelete (b n cap i j : Nat) (cs : List Value) (w : World) (hl : cs.length = n * 3) (hij : j = i + 1) (hi : i < n) (hcap : n ≤ cap)
    (hcell : ∀ j u, cs[j]? = some u → w.cell? ⟨b, j, none⟩ = some u) (hfz : ∀ j, j < n * 3 → w.frozen? ⟨b, j, none⟩ = false) (h1 : ∀ u ∈ cs, u.oneCell' = true) :
    Calls Tryz.prog 130 #[.slice (some ⟨b, 0, none⟩) n cap, .int .i64 i, .int .i64 j] w fun e w' => e = .returned (.slice (some ⟨b, 0, none⟩) (n - 1) cap) ∧ (∀ k u, (cs.take (i * 3) ++ cs.drop (j * 3))[k]? = some u → w'.cell? ⟨b, k, none⟩ = some u) ∧ Below b w w' := by
  obtain ⟨i0, hi0, hz0, hz1, hz2⟩ := info_parts Tryz.infoT
  have hlt : i < j := by omega
  have hjn : j ≤ n := by omega
  have hnj : i + (n - j) = n - 1 := by omega
  have HNJ := Lib.hid hnj
  clear hnj
  obtain ⟨news, hnews⟩ : ∃ news, news = cs.drop (j * 3) := ⟨_, rfl⟩
  have hlen : news.length = (n - j) * 3 := by rw [hnews, List.length_drop, hl]; omega
  obtain ⟨A, hA, hsrc⟩ : ∃ A : Addr, (if cap = j then some (⟨b, 0, none⟩ : Addr) else some ⟨b, j * 3, none⟩) = some A ∧ Hid (∀ t u, news[t]? = some u → w.drew.cell? (A.add t) = some u) := by
    by_cases h : cap = j
    · refine ⟨⟨b, 0, none⟩, by simp [h], fun t u hu => ?_⟩
      have h0 : news.length = 0 := by rw [hlen]; omega
      rw [List.length_eq_zero_iff.1 h0] at hu
      simp at hu
    · refine ⟨⟨b, j * 3, none⟩, by simp [h], fun t u hu => ?_⟩
      rw [hnews, List.getElem?_drop] at hu
      rw [Go.WideShapes.add_plain]
      exact hcell _ u hu
  have s2 := Lib.hid (show ∀ u ∈ news, u.oneCell' = true from fun u hu => h1 u (by rw [hnews] at hu; exact List.mem_of_mem_drop hu))
  have hall : ∀ k, k < n * 3 → (w.cell? ⟨b, k, none⟩).isSome = true := fun k hk => by
    have := List.getElem?_eq_getElem (l := cs) (i := k) (by omega)
    rw [hcell k _ this]; rfl
  have s3 := Lib.hid (show ∀ t, t < news.length → (w.drew.cell? ⟨b, 0 + i * 3 + t, none⟩).isSome = true ∧ w.drew.frozen? ⟨b, 0 + i * 3 + t, none⟩ = false from fun t ht => by
    rw [hlen] at ht
    exact ⟨hall _ (by omega), hfz _ (by omega)⟩)
  obtain ⟨W1, hW1⟩ : ∃ W1, W1 = w.drew.setCells b (0 + i * 3) news := ⟨_, rfl⟩
  have HW := Lib.hid hW1
  have hcl : ∀ ty, (Builtin.clear_ #[27] ty #[.slice (some ⟨b, (i + (n - j)) * 3, none⟩) (n - (i + (n - j))) (cap - (i + (n - j)))]).run Tryz.prog W1 = .ok (.tuple #[]) (W1.setCells b ((n - 1) * 3) [.int .i64 0, .string ByteArray.empty, .slice none 0 0]) := fun ty => by
    rw [show n - (i + (n - j)) = 1 by omega, show i + (n - j) = n - 1 by omega]
    exact run_clear_three W1 _ _ ty (.agg #[.int .i64 0, .string ByteArray.empty, .slice none 0 0]) _ _ _ Tryz.underlying27 Tryz.zeroValue29 (by simp [Value.cells]) (by intro u hu; simp at hu; rcases hu with rfl | rfl | rfl <;> rfl) b ((n - 1) * 3) _
      (fun k hk => by rw [hW1]; exact World.isSome_setCells b news _ _ _ (hall _ (by omega))) (fun k hk => by rw [hW1, World.frozen?_setCells]; exact hfz _ (by omega))
  have HEND := Lib.hid (show (∀ k u, (cs.take (i * 3) ++ cs.drop (j * 3))[k]? = some u → (W1.setCells b ((n - 1) * 3) [.int .i64 0, .string ByteArray.empty, .slice none 0 0]).cell? ⟨b, k, none⟩ = some u) ∧ Below b w (W1.setCells b ((n - 1) * 3) [.int .i64 0, .string ByteArray.empty, .slice none 0 0]) by
    refine ⟨fun k u hu => ?_, below_setCells_d b _ _ (by rw [hW1]; exact below_setCells_d b _ _ (Below.refl _ _).drew)⟩
    have hk : k < (n - 1) * 3 := by
      have := (List.getElem?_eq_some_iff.1 hu).1
      rw [List.length_append, List.length_take, List.length_drop] at this; omega
    rw [World.cell?_setCells_out b _ _ _ _ (fun _ _ => .inl hk), hW1]
    by_cases hki : k < i * 3
    · rw [World.cell?_setCells_out b _ _ _ _ (fun _ _ => .inl (by simp; omega))]
      rw [List.getElem?_append_left (by rw [List.length_take]; omega), List.getElem?_take_of_lt hki] at hu
      exact hcell k u hu
    · rw [List.getElem?_append_right (by rw [List.length_take]; omega), List.length_take, ← hnews] at hu
      have hm := Nat.min_eq_left (show i * 3 ≤ cs.length by omega)
      rw [hm] at hu
      obtain ⟨h2, h3⟩ := List.getElem?_eq_some_iff.1 hu
      have := World.cell?_setCells_in b news (0 + i * 3) w.drew (fun t ht => (s3.out t ht).1) (k - i * 3) h2
      rw [show 0 + i * 3 + (k - i * 3) = k by omega] at this
      rw [this, h3])
  clear hcell hfz h1 hl hall hnews hW1 hij
  have hic : i ≤ cap := by omega
  have hjc : j ≤ cap := by omega
  go_enter Tryz.func130, Tryz.ntmps130
  go_wp2_with fail
  go_region_law (refine step_append_room rfl (.tmp 22) (.tmp 25) 27 rfl 29 i0 3 Tryz.underlying27 hi0 hz1 b 0 i cap (by simp [Act.eval, Act.put]) A (n - j) (cap - j) news (by simp [Act.eval, Act.put]; done) hlen hsrc.out s2.out (by omega) s3.out ?_; rw [← HW.out])
  clear hA hlen
  have hlow : i + (n - j) ≤ n := by omega
  have hlc : n ≤ cap := hcap
  go_wp2_with fail
  go_ret
  exact ⟨by rw [HNJ.out]; rfl, HEND.out.1, HEND.out.2⟩
end Go.Proofs.YtihbmgkbipeakaaGreat

namespace Go.Proofs.YtihbmgkbipeakaaGreat
open Go.RowKit

theorem T.kid_at {t : T} {i : Nat} (h : i < t.kids.length) : t.kid i = t.kids[i] := by
  unfold T.kid
  rw [List.getD_eq_getElem?_getD, List.getElem?_eq_getElem h]; rfl
theorem T.bulk_eq (t : T) : t.bulk = t.name.size + 4 + T.bulkAll t.kids := by cases t; simp [T.bulk, T.name, T.kids]
theorem T.kid_bulk {t : T} {i : Nat} (h : i < t.kids.length) : (t.kid i).bulk + 4 ≤ t.bulk := by
  rw [T.kid_at h]
  have := T.bulk_at t.kids i h
  have := t.bulk_eq
  omega
theorem T.bulk_four (t : T) : 4 ≤ t.bulk := by have := t.bulk_eq; omega
theorem T.bulkAll_erase : ∀ (l : List T) (i : Nat), i < l.length → T.bulkAll (l.eraseIdx i) + 4 ≤ T.bulkAll l
  | [], i, h => absurd h (Nat.not_lt_zero _)
  | a :: r, 0, _ => by
    have := a.bulk_four
    simp only [List.eraseIdx_cons_zero, T.bulkAll]; omega
  | a :: r, i + 1, h => by
    have := T.bulkAll_erase r i (by simpa using h)
    simp only [List.eraseIdx_cons_succ, T.bulkAll]; omega
theorem T.less_bulk {t : T} {i : Nat} (h : i < t.kids.length) : (t.lessOf i).bulk + 4 ≤ t.bulk := by
  have h1 := T.bulkAll_erase t.kids i h
  have h2 := t.bulk_eq
  have h3 := (t.lessOf i).bulk_eq
  have e1 : (t.lessOf i).name.size = 0 := rfl
  have e2 : (t.lessOf i).kids = t.kids.eraseIdx i := rfl
  rw [e1, e2] at h3
  omega
theorem TermIn.kid {S : Nat → Bool} {w : World} {k : Int} {s : ByteArray} {A : Option Addr} {n cap : Nat} {t : T} (h : TermIn S w (.agg #[.int .i64 k, .string s, .slice A n cap]) t) {i : Nat} (hi : i < t.kids.length) :
    ∃ b off A' cap', A = some ⟨b, off, none⟩ ∧ S b = true ∧ w.cell? ⟨b, off + i * 3, none⟩ = some (.int .i64 (t.kid i).kind) ∧ w.cell? ⟨b, off + i * 3 + 1, none⟩ = some (.string (t.kid i).name) ∧ w.cell? ⟨b, off + i * 3 + 2, none⟩ = some (.slice A' (t.kid i).kids.length cap') ∧
      TermIn S w (.agg #[.int .i64 (t.kid i).kind, .string (t.kid i).name, .slice A' (t.kid i).kids.length cap']) (t.kid i) := by
  rw [T.kid_at hi]
  cases h with
  | mk k s A cap ks U h1 h2 h3 h4 hA hU =>
  obtain ⟨b, off, A', cap', e, c0, c1, c2, hu⟩ := TermAt.cells hi hA hU
  have key : ∀ {q : Addr} {v : Value}, (only w S).cell? q = some v → S q.block = true ∧ w.cell? q = some v := fun {q v} hq => by
    rw [cell_only] at hq
    split at hq
    · rename_i hS; exact ⟨hS, hq⟩
    · cases hq
  exact ⟨b, off, A', cap', e, (key c0).1, (key c0).2, (key c1).2, (key c2).2, hu⟩
theorem TermIn.kid0 {S : Nat → Bool} {w : World} {k : Int} {s : ByteArray} {A : Option Addr} {n cap : Nat} {t : T} (h : TermIn S w (.agg #[.int .i64 k, .string s, .slice A n cap]) t) (hi : 0 < t.kids.length) :
    ∃ b off A' cap', A = some ⟨b, off, none⟩ ∧ S b = true ∧ w.cell? ⟨b, off, none⟩ = some (.int .i64 (t.kid 0).kind) ∧ w.cell? ⟨b, off + 1, none⟩ = some (.string (t.kid 0).name) ∧ w.cell? ⟨b, off + 2, none⟩ = some (.slice A' (t.kid 0).kids.length cap') ∧
      TermIn S w (.agg #[.int .i64 (t.kid 0).kind, .string (t.kid 0).name, .slice A' (t.kid 0).kids.length cap']) (t.kid 0) := h.kid hi
theorem TermIn.kid1 {S : Nat → Bool} {w : World} {k : Int} {s : ByteArray} {A : Option Addr} {n cap : Nat} {t : T} (h : TermIn S w (.agg #[.int .i64 k, .string s, .slice A n cap]) t) (hi : 1 < t.kids.length) :
    ∃ b off A' cap', A = some ⟨b, off, none⟩ ∧ S b = true ∧ w.cell? ⟨b, off + 3, none⟩ = some (.int .i64 (t.kid 1).kind) ∧ w.cell? ⟨b, off + 3 + 1, none⟩ = some (.string (t.kid 1).name) ∧ w.cell? ⟨b, off + 3 + 2, none⟩ = some (.slice A' (t.kid 1).kids.length cap') ∧
      TermIn S w (.agg #[.int .i64 (t.kid 1).kind, .string (t.kid 1).name, .slice A' (t.kid 1).kids.length cap']) (t.kid 1) := h.kid hi
theorem nr_new {B g M : Nat} {vs vp : Value} {W : List Stp} {w : World} (h : WebAt B w g M vs vp W) {b : Nat} (hb : w.heap.size ≤ b) : nr g M vs vp b = true := by
  have ap := h.apart
  exact nr_iff.2 ⟨by have := ap.g; omega, by have := ap.m; omega, fun e => by have := (ap.s b e).2.1; omega, fun e => by have := (ap.p b e).2.1; omega⟩
theorem Box.fr {B g M b : Nat} {vs vp vs' vp' v0 v1 v2 : Value} {w w' : World} (h : Box w b v0 v1 v2) (hf : Fr B g M vs vp w vs' vp' w') (hb : nr g M vs vp b = true) : Box w' b v0 v1 v2 := (hf.keep b hb h.lt).2.trans h
theorem Inv.room {U : List T} {W : List Stp} (hU : Uni U) (h : Inv U W) {t : T} (ht : t ∈ U) : findK W t.key = none → W.length < 1048576 := fun hf => by
  have h1 := (h.push ⟨t, 0, [], false⟩ ht hf).len
  have h2 := hU.size
  rw [List.length_append] at h1
  simp only [List.length_singleton] at h1; omega
/-- Numbers in a new block. -/
theorem NumsIn.one {S : Nat → Bool} (w : World) (a : Nat) (e : TypeId) (hS : S w.heap.size = true) : NumsIn S (w.alloc (.cells #[.int .i64 (a : Int)] e)) (some ⟨w.heap.size, 0, none⟩) [a] :=
  .inr ⟨_, 0, rfl, hS, fun i hi => by
    obtain rfl : i = 0 := by simp at hi; omega
    have h := heap_alloc_new w (.cells #[.int .i64 (a : Int)] e)
    unfold World.cell?; rw [h]; rfl⟩
theorem NumsIn.two {S : Nat → Bool} (w : World) (a b : Nat) (e : TypeId) (hS : S w.heap.size = true) : NumsIn S (w.alloc (.cells #[.int .i64 (a : Int), .int .i64 (b : Int)] e)) (some ⟨w.heap.size, 0, none⟩) [a, b] :=
  .inr ⟨_, 0, rfl, hS, fun i hi => by
    have h := heap_alloc_new w (.cells #[.int .i64 (a : Int), .int .i64 (b : Int)] e)
    unfold World.cell?; rw [h]
    match i, hi with
    | 0, _ => rfl
    | 1, _ => rfl⟩
theorem NumsIn.none_ {S : Nat → Bool} (w : World) (A : Option Addr) : NumsIn S w A [] := .inl rfl
end Go.Proofs.YtihbmgkbipeakaaGreat

namespace Go.Proofs.YtihbmgkbipeakaaGreat

/-- What can be put together of what is known. -/
inductive Syn (P : T → Prop) : T → Prop
  | base {t : T} : P t → Syn P t
  | hash {t : T} : t.kind = 4 → Syn P (t.kid 0) → Syn P t
  | two {t : T} : (t.kind = 3 ∨ t.kind = 5 ∨ t.kind = 6) → Syn P (t.kid 0) → Syn P (t.kid 1) → Syn P t
  | raise {t : T} : t.kind = 7 → t.kids.length = 1 → Syn P (t.kid 0) → Syn P t
  | pow {t : T} (i : Nat) : t.kind = 7 → 1 < t.kids.length → i < t.kids.length → Syn P (t.lessOf i) → Syn P (t.kid i) → Syn P t
theorem Syn.bind {P Q : T → Prop} (h : ∀ t, P t → Syn Q t) {t : T} (hs : Syn P t) : Syn Q t := by
  induction hs with
  | base hp => exact h _ hp
  | hash hk _ ih => exact .hash hk ih
  | two hk _ _ i0 i1 => exact .two hk i0 i1
  | raise hk hl _ ih => exact .raise hk hl ih
  | pow i hk hl hi _ _ i0 i1 => exact .pow i hk hl hi i0 i1
theorem Syn.mono {P Q : T → Prop} (h : ∀ t, P t → Q t) {t : T} (hs : Syn P t) : Syn Q t := hs.bind fun t ht => .base (h t ht)
theorem Syn.atom {P : T → Prop} {t : T} (hs : Syn P t) (hk : t.kind = 1 ∨ t.kind = 2) : P t := by
  cases hs with
  | base hp => exact hp
  | hash h => omega
  | two h => omega
  | raise h => omega
  | pow i h => omega
theorem Syn.iff {P Q : T → Prop} (h : ∀ t, P t ↔ Q t) (t : T) : Syn P t ↔ Syn Q t := ⟨fun hs => hs.mono fun t => (h t).1, fun hs => hs.mono fun t => (h t).2⟩
/-- A power's exponents are names or variables. -/
theorem exp_atom {t : T} (h : t.shape = true) (h7 : t.kind = 7) {i : Nat} (hi : i < t.kids.length) : (t.kid i).kind = 1 ∨ (t.kid i).kind = 2 := by
  obtain ⟨k, s, ks⟩ := t
  obtain rfl : k = 7 := h7
  rw [T.shape_head 7 s ks (by decide) (by decide)] at h
  simp only [T.headOk] at h
  simp at h
  have hi' : i < ks.length := hi
  have hm : ks[i] ∈ ks := List.getElem_mem hi'
  have ha := h.1.1.2 _ hm
  have he : (T.mk 7 s ks).kid i = ks[i] := by show ks.getD i T.nil_ = _; rw [List.getD_eq_getElem?_getD, List.getElem?_eq_getElem hi']; rfl
  rw [he]
  cases hx : ks[i] with
  | mk k2 s2 l2 =>
    rw [hx] at ha
    simp only [T.atom] at ha
    show k2 = 1 ∨ k2 = 2
    simpa using ha
namespace Wb
/-- The terms that were found by taking apart. -/
def Part (W : List Stp) (t : T) : Prop := ∃ s ∈ W, s.part = true ∧ s.t = t
/-- All steps' terms can be put together. -/
def Sound (P : T → Prop) (W : List Stp) : Prop := ∀ s ∈ W, Syn P s.t
theorem Sound.push {P : T → Prop} {W : List Stp} (h : Sound P W) {s : Stp} (hs : Syn P s.t) : Sound P (W ++ [s]) := fun x hx => by
  rcases List.mem_append.1 hx with hx | hx
  · exact h x hx
  · rw [List.mem_singleton] at hx; rw [hx]; exact hs
theorem Sound.add {P : T → Prop} {W : List Stp} (h : Sound P W) {t : T} (ht : Syn P t) (how : Nat) (frm : List Nat) : Sound P (add W t how frm).1 := by
  cases hf : find W t with
  | some i => rw [add_some hf]; exact h
  | none => rw [add_none hf]; exact h.push ht
theorem Sound.mark {P : T → Prop} {W : List Stp} (h : Sound P W) (i : Nat) : Sound P (mark W i) := fun x hx => by
  obtain ⟨j, hj, rfl⟩ := List.getElem_of_mem hx
  have h3 : j < W.length := by rwa [mark_len] at hj
  rw [(mark_t W i j hj h3).1]
  exact h _ (List.getElem_mem h3)
theorem Sound.take {P : T → Prop} {W : List Stp} (h : Sound P W) {t : T} (ht : Syn P t) (how : Nat) (frm : List Nat) : Sound P (take W t how frm).1 := by
  unfold Wb.take
  split
  · exact h.add ht how frm
  · exact (h.add ht how frm).mark _
theorem find_syn {U : List T} (hU : Uni U) {P : T → Prop} {W : List Stp} (hW : Inv U W) (hS : Sound P W) {t : T} (ht : t ∈ U) {i : Nat} (h : find W t = some i) : Syn P t := by
  obtain ⟨hi, e⟩ := find_eq hU hW ht h
  rw [← e]; exact hS _ (List.getElem_mem hi)
def PutsP (P : T → Prop) (U : List T) (rec : List Stp → T → List Stp × Option Nat) (t : T) : Prop := ∀ W, Inv U W → Sound P W → Sound P (rec W t).1 ∧ ∀ i, (rec W t).2 = some i → Syn P t
theorem both_syn {U : List T} {P : T → Prop} {rec : List Stp → T → List Stp × Option Nat} {t : T} (how : Nat) (hk : t.kind = 3 ∨ t.kind = 5 ∨ t.kind = 6) (h0 : Puts U rec (t.kid 0)) (s0 : PutsP P U rec (t.kid 0)) (s1 : PutsP P U rec (t.kid 1)) :
    PutsP P U (fun W t => both rec W t how) t := fun W hW hS => by
  obtain ⟨a1, _, _⟩ := h0 W hW
  obtain ⟨b1, b2⟩ := s0 W hW hS
  obtain ⟨c1, c2⟩ := s1 _ a1 b1
  simp only [both]
  split
  · exact ⟨b1, fun i h => by cases h⟩
  · rename_i a ha
    split
    · exact ⟨c1, fun i h => by cases h⟩
    · rename_i b hb
      have ht := Syn.two hk (b2 a ha) (c2 b hb)
      exact ⟨c1.add ht _ _, fun _ _ => ht⟩
theorem pow_syn {U : List T} (hU : Uni U) {P : T → Prop} {rec : List Stp → T → List Stp × Option Nat} {t : T} (h7 : t.kind = 7) (htU : t ∈ U) (hl : ∀ i, i < t.kids.length → 1 < t.kids.length → Puts U rec (t.lessOf i) ∧ PutsP P U rec (t.lessOf i)) :
    ∀ (f i : Nat), f + i = t.kids.length → PutsP P U (fun W _ => pow rec t f i W) t
  | 0, i, _, W, _, hS => ⟨hS, fun i h => by cases h⟩
  | f + 1, i, hfi, W, hW, hS => by
    have ih := pow_syn hU h7 htU hl f (i + 1) (by omega)
    simp only [pow]
    split
    · exact ih W hW hS
    · rename_i nm hnm
      have hx := find_syn hU hW hS (hU.kid t htU i (by omega)) hnm
      split
      · rename_i h1
        obtain rfl : i = 0 := by omega
        have ht := Syn.raise h7 h1 hx
        exact ⟨hS.add ht _ _, fun _ _ => ht⟩
      · rename_i h1
        obtain ⟨p1, p2⟩ := hl i (by omega) (by omega)
        obtain ⟨a1, _, _⟩ := p1 W hW
        obtain ⟨b1, b2⟩ := p2 W hW hS
        split
        · exact ih _ a1 b1
        · rename_i p hp
          have ht := Syn.pow i h7 (by omega) (by omega) (b2 p hp) hx
          exact ⟨b1.add ht _ _, fun _ _ => ht⟩
theorem build_syn {U : List T} (hU : Uni U) (P : T → Prop) : ∀ (n : Nat) (t : T), t ∈ U → PutsP P U (build n) t
  | 0, t, _, W, _, hS => ⟨hS, fun i h => by cases h⟩
  | n + 1, t, ht, W, hW, hS => by
    have hs := T.shapeK (Bool.and_eq_true_iff.1 (hU.ok t ht)).2
    have ihk : ∀ i, i < t.kids.length → PutsP P U (build n) (t.kid i) := fun i hi => build_syn hU P n _ (hU.kid t ht i hi)
    have ihp : ∀ i, i < t.kids.length → Puts U (build n) (t.kid i) := fun i hi => build_puts hU n _ (hU.kid t ht i hi)
    simp only [build]
    split
    · rename_i i hi
      exact ⟨hS, fun _ _ => find_syn hU hW hS ht hi⟩
    · split
      · rename_i h4
        obtain ⟨a1, a2⟩ := ihk 0 (by omega) W hW hS
        split
        · exact ⟨a1, fun i h => by cases h⟩
        · rename_i m hm
          have htt := Syn.hash h4 (a2 m hm)
          exact ⟨a1.add htt _ _, fun _ _ => htt⟩
      · split
        · rename_i h3
          exact both_syn 6 (.inl h3) (ihp 0 (by omega)) (ihk 0 (by omega)) (ihk 1 (by omega)) W hW hS
        · split
          · rename_i h5
            exact both_syn 8 (.inr (.inl h5)) (ihp 0 (by omega)) (ihk 0 (by omega)) (ihk 1 (by omega)) W hW hS
          · split
            · rename_i h6
              exact both_syn 9 (.inr (.inr h6)) (ihp 0 (by omega)) (ihk 0 (by omega)) (ihk 1 (by omega)) W hW hS
            · split
              · rename_i h7
                exact pow_syn hU h7 ht (fun i hi h1 => ⟨build_puts hU n _ (hU.less t ht h7 h1 i hi), build_syn hU P n _ (hU.less t ht h7 h1 i hi)⟩) t.kids.length 0 rfl W hW hS
              · exact ⟨hS, fun i h => by cases h⟩
/-- What is put together marks nothing. -/
def Par (rec : List Stp → T → List Stp × Option Nat) (t : T) : Prop := ∀ W x, Part (rec W t).1 x ↔ Part W x
theorem part_add (W : List Stp) (t : T) (how : Nat) (frm : List Nat) (x : T) : Part (add W t how frm).1 x ↔ Part W x := by
  cases hf : find W t with
  | some i => rw [add_some hf]
  | none =>
    rw [add_none hf]
    constructor
    · rintro ⟨s, hs, h1, h2⟩
      rcases List.mem_append.1 hs with hs | hs
      · exact ⟨s, hs, h1, h2⟩
      · rw [List.mem_singleton] at hs; rw [hs] at h1; cases h1
    · rintro ⟨s, hs, h1, h2⟩
      exact ⟨s, List.mem_append_left _ hs, h1, h2⟩
theorem par_both {rec : List Stp → T → List Stp × Option Nat} {t : T} (how : Nat) (h0 : Par rec (t.kid 0)) (h1 : Par rec (t.kid 1)) : Par (fun W t => both rec W t how) t := fun W x => by
  simp only [both]
  split
  · exact h0 W x
  · split
    · exact (h1 _ x).trans (h0 W x)
    · exact (part_add _ _ _ _ x).trans ((h1 _ x).trans (h0 W x))
theorem par_pow {rec : List Stp → T → List Stp × Option Nat} {t : T} (hl : ∀ i, Par rec (t.lessOf i)) : ∀ (f i : Nat) (W : List Stp) (x : T), Part (pow rec t f i W).1 x ↔ Part W x
  | 0, _, _, _ => Iff.rfl
  | f + 1, i, W, x => by
    have ih := par_pow hl f (i + 1)
    simp only [pow]
    split
    · exact ih W x
    · split
      · exact part_add _ _ _ _ x
      · split
        · exact (ih _ x).trans (hl i W x)
        · exact (part_add _ _ _ _ x).trans (hl i W x)
theorem par_build : ∀ (n : Nat) (t : T), Par (build n) t
  | 0, _, _, _ => Iff.rfl
  | n + 1, t, W, x => by
    simp only [build]
    split
    · exact Iff.rfl
    · split
      · split
        · exact par_build n _ W x
        · exact (part_add _ _ _ _ x).trans (par_build n _ W x)
      · split
        · exact par_both 6 (par_build n _) (par_build n _) W x
        · split
          · exact par_both 8 (par_build n _) (par_build n _) W x
          · split
            · exact par_both 9 (par_build n _) (par_build n _) W x
            · split
              · exact par_pow (fun i => par_build n _) _ _ W x
              · exact Iff.rfl
theorem part_find {W : List Stp} {t : T} (h : Part W t) : ∃ i, find W t = some i := by
  obtain ⟨s, hs, _, e⟩ := h
  cases hf : find W t with
  | some i => exact ⟨i, rfl⟩
  | none => exact absurd (by rw [e]) (findK_none hf s hs)
/-- Where an exponent is known and the rest can be put together, a power is found. -/
theorem pow_full {U : List T} (hU : Uni U) {rec : List Stp → T → List Stp × Option Nat} {t : T} (h7 : t.kind = 7) (ht : t ∈ U) (hp : ∀ i, i < t.kids.length → 1 < t.kids.length → Puts U rec (t.lessOf i) ∧ Par rec (t.lessOf i))
    (hr : ∀ i, i < t.kids.length → 1 < t.kids.length → ∀ W, Inv U W → Syn (Part W) (t.lessOf i) → ∃ r, (rec W (t.lessOf i)).2 = some r) :
    ∀ (f i : Nat) (W : List Stp), f + i = t.kids.length → Inv U W → (∃ j, i ≤ j ∧ j < t.kids.length ∧ Syn (Part W) (t.kid j) ∧ (1 < t.kids.length → Syn (Part W) (t.lessOf j))) → ∃ r, (pow rec t f i W).2 = some r
  | 0, i, W, hfi, _, ⟨j, h1, h2, _⟩ => by omega
  | f + 1, i, W, hfi, hW, ⟨j, h1, h2, h3, h4⟩ => by
    have hat := h3.atom (exp_atom (Bool.and_eq_true_iff.1 (hU.ok t ht)).2 h7 h2)
    simp only [pow]
    split
    · rename_i hn
      have hne : i ≠ j := fun e => by
        subst e
        obtain ⟨r, hr⟩ := part_find hat
        rw [hr] at hn; cases hn
      exact pow_full hU h7 ht hp hr f (i + 1) W (by omega) hW ⟨j, by omega, h2, h3, h4⟩
    · split
      · exact ⟨_, rfl⟩
      · have hl : 1 < t.kids.length := by omega
        obtain ⟨p1, p2⟩ := hp i (by omega) hl
        split
        · rename_i hn
          have hne : i ≠ j := fun e => by
            subst e
            obtain ⟨r, hr⟩ := hr i h2 hl W hW (h4 hl)
            rw [hr] at hn; cases hn
          have hP := p2 W
          exact pow_full hU h7 ht hp hr f (i + 1) _ (by omega) (p1 W hW).1 ⟨j, by omega, h2, (Syn.iff hP _).2 h3, fun hl => (Syn.iff hP _).2 (h4 hl)⟩
        · exact ⟨_, rfl⟩
theorem both_full {U : List T} {rec : List Stp → T → List Stp × Option Nat} {t : T} (how : Nat) {W : List Stp} (hW : Inv U W) (p0 : Puts U rec (t.kid 0)) (q0 : Par rec (t.kid 0))
    (h0 : ∀ W, Inv U W → Syn (Part W) (t.kid 0) → ∃ r, (rec W (t.kid 0)).2 = some r) (h1 : ∀ W, Inv U W → Syn (Part W) (t.kid 1) → ∃ r, (rec W (t.kid 1)).2 = some r) (s0 : Syn (Part W) (t.kid 0)) (s1 : Syn (Part W) (t.kid 1)) : ∃ r, (both rec W t how).2 = some r := by
  obtain ⟨a, ha⟩ := h0 W hW s0
  obtain ⟨b, hb⟩ := h1 _ (p0 W hW).1 ((Syn.iff (q0 W) _).2 s1)
  simp only [both, ha, hb]
  exact ⟨_, rfl⟩
/-- What can be put together is found. -/
theorem build_full {U : List T} (hU : Uni U) : ∀ (n : Nat) (t : T), t ∈ U → t.bulk < n → ∀ W, Inv U W → Syn (Part W) t → ∃ r, (build n W t).2 = some r
  | 0, _, _, hb, _, _, _ => by omega
  | n + 1, t, ht, hb, W, hW, hS => by
    have hs := T.shapeK (Bool.and_eq_true_iff.1 (hU.ok t ht)).2
    have ihk : ∀ i, i < t.kids.length → ∀ W, Inv U W → Syn (Part W) (t.kid i) → ∃ r, (build n W (t.kid i)).2 = some r := fun i hi => build_full hU n _ (hU.kid t ht i hi) (by have := T.kid_bulk hi; omega)
    have ihp : ∀ i, i < t.kids.length → Puts U (build n) (t.kid i) := fun i hi => build_puts hU n _ (hU.kid t ht i hi)
    simp only [build]
    split
    · exact ⟨_, rfl⟩
    · rename_i hn
      have hnp : ¬ Part W t := fun h => by obtain ⟨r, hr⟩ := part_find h; rw [hr] at hn; cases hn
      cases hS with
      | base h => exact absurd h hnp
      | hash h4 h0 =>
        rw [if_pos h4]
        obtain ⟨r, hr⟩ := ihk 0 (by omega) W hW h0
        rw [hr]; exact ⟨_, rfl⟩
      | two hk h0 h1 =>
        rw [if_neg (by omega)]
        rcases hk with h | h | h
        · rw [if_pos h]; exact both_full 6 hW (ihp 0 (by omega)) (par_build n _) (ihk 0 (by omega)) (ihk 1 (by omega)) h0 h1
        · rw [if_neg (by omega), if_pos h]; exact both_full 8 hW (ihp 0 (by omega)) (par_build n _) (ihk 0 (by omega)) (ihk 1 (by omega)) h0 h1
        · rw [if_neg (by omega), if_neg (by omega), if_pos h]; exact both_full 9 hW (ihp 0 (by omega)) (par_build n _) (ihk 0 (by omega)) (ihk 1 (by omega)) h0 h1
      | raise h7 h1 h0 =>
        rw [if_neg (by omega), if_neg (by omega), if_neg (by omega), if_neg (by omega), if_pos h7]
        exact pow_full hU h7 ht (fun i hi h1 => ⟨build_puts hU n _ (hU.less t ht h7 h1 i hi), par_build n _⟩) (fun i hi h1 => build_full hU n _ (hU.less t ht h7 h1 i hi) (by have := T.less_bulk hi; omega)) t.kids.length 0 W rfl hW ⟨0, Nat.le_refl _, by omega, h0, fun h => by omega⟩
      | pow i h7 h1 hi hl hx =>
        rw [if_neg (by omega), if_neg (by omega), if_neg (by omega), if_neg (by omega), if_pos h7]
        exact pow_full hU h7 ht (fun i hi h1 => ⟨build_puts hU n _ (hU.less t ht h7 h1 i hi), par_build n _⟩) (fun i hi h1 => build_full hU n _ (hU.less t ht h7 h1 i hi) (by have := T.less_bulk hi; omega)) t.kids.length 0 W rfl hW ⟨i, Nat.zero_le _, hi, hx, fun _ => hl⟩
/-- A web puts together just what follows from the terms that were taken apart. -/
theorem bld_iff {U : List T} (hU : Uni U) {t : T} (ht : t ∈ U) {W : List Stp} (hW : Inv U W) (hS : Sound (Part W) W) : (∃ r, (bld W t).2 = some r) ↔ Syn (Part W) t :=
  ⟨fun ⟨r, hr⟩ => (build_syn hU _ _ t ht W hW hS).2 r hr, fun h => build_full hU _ t ht (Nat.lt_succ_self _) W hW h⟩
end Wb
end Go.Proofs.YtihbmgkbipeakaaGreat

namespace Go.Proofs.YtihbmgkbipeakaaGreat
open Go.RowKit

def BTo (B g M : Nat) (w : World) (vs vp : Value) (r : List Stp × Option Nat) (e : Ending) (w' : World) : Prop := e = .returned (.int .i64 (fI r.2)) ∧ WebTo B g M w vs vp r.1 w'
/-- What the program's build does of a term. -/
def BuildOk (B : Nat) (U : List T) (rec : List Stp → T → List Stp × Option Nat) (t : T) : Prop := ∀ (v : Value) (w : World) (g M : Nat) (vs vp : Value) (W : List Stp), Inv U W → WebAt B w g M vs vp W → TermIn (nr g M vs vp) w v t →
  Calls Tryz.prog 52 #[.pointer (some ⟨g, 0, none⟩), v] w (BTo B g M w vs vp (rec W t))

set_option maxRecDepth 100000 in
set_option maxHeartbeats 4000000 in
theorem oboth {B g M : Nat} {vs vp : Value} {W : List Stp} {U : List T} {rec : List Stp → T → List Stp × Option Nat} (hU : Uni U) (t : T) (v : Value) (w : World) (how : Nat) (ht2 : t.kids.length = 2) (htU : t ∈ U) (hI : Inv U W)
    (h : WebAt B w g M vs vp W) (hT : TermIn (nr g M vs vp) w v t) (hbk : t.bulk ≤ 1048576) (p0 : Wb.Puts U rec (t.kid 0)) (p1 : Wb.Puts U rec (t.kid 1)) (b0 : BuildOk B U rec (t.kid 0)) (b1 : BuildOk B U rec (t.kid 1)) :
    Calls Tryz.prog 100 #[.pointer (some ⟨g, 0, none⟩), v, .int .i64 (how : Int)] w (BTo B g M w vs vp (Wb.both rec W t how)) := by
  obtain ⟨A0, cap0, rfl⟩ := hT.view
  obtain ⟨b, off, A1, c1, rfl, hS, _⟩ := hT.kid0 (by omega)
  have hw := below_alloc1 w (.cells #[.int .i64 t.kind, .string t.name, .slice (some ⟨b, off, none⟩) t.kids.length cap0] 29)
  have bx := Box.new w (.int .i64 t.kind) (.string t.name) (.slice (some ⟨b, off, none⟩) t.kids.length cap0)
  have hz := h.lt.2
  have HN := Lib.hid (nr_new h (Nat.le_refl _))
  have HR1 := Lib.hid ((Fr.refl B g M vs vp w).later hz hw)
  have HW1 := Lib.hid (h.later hw)
  have HT1 := Lib.hid (hT.keep (fun b hb hl => ⟨hb, hw.block b hl⟩))
  have hp0 := p0 W hI
  have HB0 := Lib.hid (fun v' W' hW hT' => b0 v' W' g M vs vp W hI hW hT')
  have hRn : (rec W (t.kid 0)).2 = none → Wb.both rec W t how = ((rec W (t.kid 0)).1, none) := fun e => by simp only [Wb.both, e]
  have hRs : ∀ a, (rec W (t.kid 0)).2 = some a → (rec (rec W (t.kid 0)).1 (t.kid 1)).2 = none → Wb.both rec W t how = ((rec (rec W (t.kid 0)).1 (t.kid 1)).1, none) := fun a e e' => by simp only [Wb.both, e, e']
  have hRb : ∀ a b, (rec W (t.kid 0)).2 = some a → (rec (rec W (t.kid 0)).1 (t.kid 1)).2 = some b → Wb.both rec W t how = ((Wb.add (rec (rec W (t.kid 0)).1 (t.kid 1)).1 t how [a, b]).1, some (Wb.add (rec (rec W (t.kid 0)).1 (t.kid 1)).1 t how [a, b]).2) := fun a b e e' => by simp only [Wb.both, e, e']
  obtain ⟨R, hR⟩ : ∃ R, Wb.both rec W t how = R := ⟨_, rfl⟩
  rw [hR] at hRn hRs hRb ⊢
  clear hR
  generalize rec W (t.kid 0) = q0 at hp0 HB0 hRn hRs hRb
  obtain ⟨hI0, _, _⟩ := hp0
  have hp1 := p1 q0.1 hI0
  have HB1 := Lib.hid (fun v' W' vs' vp' hW hT' => b1 v' W' g M vs' vp' q0.1 hI0 hW hT')
  generalize rec q0.1 (t.kid 1) = q1 at hp1 HB1 hRs hRb
  obtain ⟨hI1, _, _⟩ := hp1
  have HAD := Lib.hid (fun v' W' F fc frm vs' vp' hW hT' hF => oadd (W := q1.1) (g := g) (M := M) (B := B) (vs := vs') (vp := vp') t v' W' how frm F fc hW hT' hbk hF (hI1.room hU htU))
  have HRN := Lib.hid hRn; have HRS := Lib.hid hRs; have HRB := Lib.hid hRb
  clear hRn hRs hRb p0 p1 b0 b1 hI hI0 hI1 h hT htU hbk hw
  obtain ⟨k, hk⟩ : ∃ k, t.kind = k := ⟨_, rfl⟩
  obtain ⟨nm, hnm⟩ : ∃ nm, t.name = nm := ⟨_, rfl⟩
  rw [hk, hnm, ht2] at bx HR1 HW1 HT1 ⊢
  have HK2 := Lib.hid ht2
  clear hk hnm ht2
  obtain ⟨x0, hx0⟩ : ∃ x, fI q0.2 = x := ⟨_, rfl⟩
  obtain ⟨x1, hx1⟩ : ∃ x, fI q1.2 = x := ⟨_, rfl⟩
  have HX0 := Lib.hid hx0; have HX1 := Lib.hid hx1
  clear hx0 hx1
  go_enter Tryz.func100, Tryz.ntmps100
  go_upto_region 1 with fail
  generalize w.alloc (.cells #[.int .i64 k, .string nm, .slice (some ⟨b, off, none⟩) 2 cap0] 29) = w1 at bx HR1 HW1 HT1 ⊢
  obtain ⟨bx0, bx1, bx2⟩ := bx.cells
  obtain ⟨_, _, A1, c1, e1, _, d0, d1, d2, hk0⟩ := HT1.out.kid0 (by rw [HK2.out]; decide)
  injection e1 with e1; injection e1 with e1 e2; subst e1; subst e2
  have HK0 := Lib.hid hk0; have BX := Lib.hid bx
  clear hk0 bx
  go_wp2_with fail
  refine (HB0.out _ _ HW1.out HK0.out).mono ?_; rintro e w2 ⟨rfl, vs2, vp2, hw2, hf2⟩
  rw [HX0.out]
  have HW2 := Lib.hid hw2; have HT2 := Lib.hid (HT1.out.fr hf2); have HF2 := Lib.hid (HR1.out.trans hf2); have BX2 := Lib.hid (BX.out.fr hf2 HN.out); have HN2 := Lib.hid (hf2.keep _ HN.out BX.out.lt).1
  clear hw2 hf2 bx0 bx1 bx2 d0 d1 d2
  cases hq : q0.2 with
  | none =>
    have HE := Lib.hid (HRN.out hq)
    have hx : x0 = -1 := by have := HX0.out; rw [hq] at this; exact this.symm
    subst hx
    clear hq
    go_wp2_with fail
    go_ret
    rw [HE.out]
    exact ⟨rfl, _, _, HW2.out, HF2.out⟩
  | some a =>
    have hx : x0 = (a : Int) := by have := HX0.out; rw [hq] at this; exact this.symm
    subst hx
    have HQ := Lib.hid hq
    have hneg : ¬ ((a : Int) < 0) := by omega
    clear hq
    obtain ⟨bx0, bx1, bx2⟩ := BX2.out.cells
    obtain ⟨_, _, A2, c2, e1, _, d0, d1, d2, hk1⟩ := HT2.out.kid1 (by rw [HK2.out]; decide)
    injection e1 with e1; injection e1 with e1 e2; subst e1; subst e2
    have HK1 := Lib.hid hk1
    clear hk1
    go_wp2_with fail
    refine (HB1.out _ _ _ _ HW2.out HK1.out).mono ?_; rintro e w3 ⟨rfl, vs3, vp3, hw3, hf3⟩
    rw [HX1.out]
    have HW3 := Lib.hid hw3; have HT3 := Lib.hid (HT2.out.fr hf3); have HF3 := Lib.hid (HF2.out.trans hf3); have BX3 := Lib.hid (BX2.out.fr hf3 HN2.out)
    clear hw3 hf3 bx0 bx1 bx2 d0 d1 d2
    cases hq : q1.2 with
    | none =>
      have HE := Lib.hid (HRS.out a HQ.out hq)
      have hx : x1 = -1 := by have := HX1.out; rw [hq] at this; exact this.symm
      subst hx
      clear hq
      go_wp2_with fail
      go_ret
      rw [HE.out]
      exact ⟨rfl, _, _, HW3.out, HF3.out⟩
    | some b2 =>
      have HE := Lib.hid (HRB.out a b2 HQ.out hq)
      have hx : x1 = (b2 : Int) := by have := HX1.out; rw [hq] at this; exact this.symm
      subst hx
      have hneg2 : ¬ ((b2 : Int) < 0) := by omega
      clear hq
      obtain ⟨bx0, bx1, bx2⟩ := BX3.out.cells
      have hb4 := below_alloc1 w3 (.cells #[.int .i64 (a : Int), .int .i64 (b2 : Int)] 3)
      have HN4 := Lib.hid (NumsIn.two (S := nr g M vs3 vp3) w3 a b2 3 (nr_new HW3.out (Nat.le_refl _)))
      have HW4 := Lib.hid (HW3.out.later hb4); have HT4 := Lib.hid (HT3.out.keep (fun b hb hl => ⟨hb, hb4.block b hl⟩)); have HF4 := Lib.hid (HF3.out.later hz hb4)
      clear hb4
      go_wp2_with fail
      refine (HAD.out _ _ _ _ [a, b2] _ _ HW4.out HT4.out HN4.out).mono ?_; rintro e w5 ⟨rfl, hw5⟩
      have HW5 := Lib.hid (WebTo.after HF4.out hw5)
      clear hw5 bx0 bx1 bx2
      go_wp2_with fail
      go_ret
      rw [HE.out]
      exact ⟨rfl, HW5.out⟩
end Go.Proofs.YtihbmgkbipeakaaGreat

namespace Go.Proofs.YtihbmgkbipeakaaGreat
open Go.RowKit

theorem CT.of_term {S : Nat → Bool} {w : World} {k : Int} {s : ByteArray} {b off n cap : Nat} {t : T} (h : TermIn S w (.agg #[.int .i64 k, .string s, .slice (some ⟨b, off, none⟩) n cap]) t) : ∃ xs, CT S w xs t.kids ∧ ∀ j u, xs[j]? = some u → w.cell? ⟨b, off + j, none⟩ = some u := by
  cases h with
  | mk k s A cap ks U h1 h2 h3 h4 hA hU =>
  have key : ∀ {q : Addr} {v : Value}, (only w S).cell? q = some v → w.cell? q = some v := fun {q v} hq => by
    rw [cell_only] at hq
    split at hq
    · exact hq
    · cases hq
  show ∃ xs, CT S w xs ks ∧ _
  have hc : ∀ i, i < ks.length → w.cell? ⟨b, off + i * 3, none⟩ = some (U i).1 ∧ w.cell? ⟨b, off + i * 3 + 1, none⟩ = some (U i).2.1 ∧ w.cell? ⟨b, off + i * 3 + 2, none⟩ = some (U i).2.2 := fun i hi => by
    rcases hA with h0 | ⟨b', off', e, hc⟩
    · omega
    · injection e with e; injection e with e1 e2; subst e1; subst e2
      obtain ⟨a, b, c⟩ := hc i hi
      exact ⟨key a, key b, key c⟩
  clear hA
  have main : ∀ (m : Nat), m ≤ ks.length → ∃ xs, CT S w xs (ks.take m) ∧ ∀ j u, xs[j]? = some u → w.cell? ⟨b, off + j, none⟩ = some u := by
    intro m
    induction m with
    | zero => exact fun _ => ⟨[], by rw [List.take_zero]; exact CT.nil S w, fun j u hu => by simp at hu⟩
    | succ m ih =>
      intro hm
      obtain ⟨xs, h5, h6⟩ := ih (by omega)
      have hl : xs.length = m * 3 := by rw [h5.1, List.length_take, Nat.min_eq_left (by omega)]
      obtain ⟨c0, c1, c2⟩ := hc m (by omega)
      refine ⟨xs ++ [(U m).1, (U m).2.1, (U m).2.2], ?_, fun j u hu => ?_⟩
      · rw [List.take_succ_eq_append_getElem (by omega)]
        exact h5.append (CT.one (hU m (by omega)))
      · by_cases hj : j < m * 3
        · rw [List.getElem?_append_left (by omega)] at hu
          exact h6 j u hu
        · rw [List.getElem?_append_right (by omega), hl] at hu
          obtain ⟨d, rfl⟩ : ∃ d, j = m * 3 + d := ⟨j - m * 3, by omega⟩
          rw [Nat.add_sub_cancel_left] at hu
          match d, hu with
          | 0, hu => injection hu with hu; subst hu; exact c0
          | 1, hu => injection hu with hu; subst hu; exact c1
          | 2, hu => injection hu with hu; subst hu; exact c2
          | d + 3, hu => simp at hu
  obtain ⟨xs, h5, h6⟩ := main ks.length (Nat.le_refl _)
  rw [List.take_of_length_le (Nat.le_refl _)] at h5
  exact ⟨xs, h5, h6⟩
theorem CT.term {S : Nat → Bool} {w : World} {xs : List Value} {L : List T} {b cap : Nat} (h : CT S w xs L) (hc : ∀ j u, xs[j]? = some u → w.cell? ⟨b, j, none⟩ = some u) (hS : S b = true) (k : Int) (s : ByteArray) (hk : -9223372036854775808 ≤ k ∧ k ≤ 9223372036854775807) (hs : s.size ≤ maxLen) (hl : L.length ≤ cap) (hm : cap ≤ maxLen) :
    TermIn S w (.agg #[.int .i64 k, .string s, .slice (some ⟨b, 0, none⟩) L.length cap]) (.mk k s L) := by
  have hx : ∀ i (hi : i < L.length), ∃ x : Value × Value × Value, xs[i * 3]? = some x.1 ∧ xs[i * 3 + 1]? = some x.2.1 ∧ xs[i * 3 + 2]? = some x.2.2 ∧ TermIn S w (.agg #[x.1, x.2.1, x.2.2]) L[i] := fun i hi => by
    obtain ⟨u0, u1, u2, a, b, c, d⟩ := h.2 i hi
    exact ⟨(u0, u1, u2), a, b, c, d⟩
  refine .mk k s _ cap L (fun i => if hi : i < L.length then (hx i hi).choose else (undef, undef, undef)) hk hs hl hm (.inr ⟨b, 0, rfl, fun i hi => ?_⟩) (fun i hi => ?_)
  · rw [dif_pos hi]
    obtain ⟨a, b', c, _⟩ := (hx i hi).choose_spec
    rw [cell_only, cell_only, cell_only, if_pos hS, if_pos hS, if_pos hS, Nat.zero_add]
    exact ⟨hc _ _ a, hc _ _ b', hc _ _ c⟩
  · rw [dif_pos hi]
    exact (hx i hi).choose_spec.2.2.2
theorem CT.erase {S : Nat → Bool} {w : World} {xs : List Value} {L : List T} (h : CT S w xs L) (i : Nat) : CT S w (xs.take (i * 3) ++ xs.drop ((i + 1) * 3)) (L.eraseIdx i) := by
  rw [List.eraseIdx_eq_take_drop_succ]
  exact (h.take i).append (h.drop (i + 1))
/-- The kids are cloned. -/
theorem oclone {S : Nat → Bool} {k : Int} {s : ByteArray} {b off n cap : Nat} {t : T} (w : World) (h : TermIn S w (.agg #[.int .i64 k, .string s, .slice (some ⟨b, off, none⟩) n cap]) t) (hn : n = t.kids.length) (h0 : 0 < n) (h4 : n ≤ 1048576) :
    Calls Tryz.prog 131 #[.slice (some ⟨b, off, none⟩) n cap] w fun e w' => ∃ g2 c2 xs, e = .returned (.slice (some ⟨g2, 0, none⟩) n c2) ∧ w'.ownsRow w.heap.size 29 3 (.slice (some ⟨g2, 0, none⟩) n c2) n xs ∧ CT S w xs t.kids ∧ Below w.heap.size w w' := by
  obtain ⟨i0, hi0, hz0, hz1, hz2⟩ := info_parts Tryz.infoT
  obtain ⟨xs, hct, hc⟩ := CT.of_term h
  have hcon := AnyE.slices_Clone (P := Tryz.prog) Tryz.layCl i0 _ 3 48 hi0 hz0 hz1 hz2 rfl (by omega) (fun w => Tryz.sizeOf29 w) b off n cap xs w (by rw [hct.1, hn]) (by unfold maxLen; omega) (by omega) hc hct.one'
  change Calls Tryz.prog 131 _ _ _ at hcon
  refine hcon.mono ?_
  rintro e w' ⟨v', rfl, hown, _, hb⟩
  obtain ⟨g2, c2, rfl, _⟩ := hown.form h0
  exact ⟨g2, c2, xs, rfl, hown, hct, hb⟩
end Go.Proofs.YtihbmgkbipeakaaGreat

namespace Go.Proofs.YtihbmgkbipeakaaGreat
open Go.RowKit

/-- The term with an exponent less, out of a cloned row from which one element was taken. -/
theorem less_made {B g M : Nat} {vs vp : Value} {w w1 w2 : World} {W : List Stp} {t : T} {i g2 c2 : Nat} {xs : List Value} (h : WebAt B w g M vs vp W) (hct : CT (nr g M vs vp) w xs t.kids) (hown : w1.ownsRow w.heap.size 29 3 (.slice (some ⟨g2, 0, none⟩) t.kids.length c2) t.kids.length xs)
    (hb : Below w.heap.size w w1) (hi : i < t.kids.length) (hd : ∀ k u, (xs.take (i * 3) ++ xs.drop ((i + 1) * 3))[k]? = some u → w2.cell? ⟨g2, k, none⟩ = some u) (hb2 : Below g2 w1 w2) :
    TermIn (nr g M vs vp) w2 (.agg #[.int .i64 7, .string ⟨#[]⟩, .slice (some ⟨g2, 0, none⟩) (t.kids.length - 1) c2]) (t.lessOf i) ∧ Below w.heap.size w w2 := by
  obtain ⟨a1, a2, cur, a3⟩ := own_type hown (b := g2) rfl
  have hbb : Below w.heap.size w w2 := hb.trans (hb2.mono a1)
  have hct2 := (hct.keep (S' := nr g M vs vp) fun b hb' hl => ⟨hb', hbb.block b hl⟩).erase i
  have e : (t.kids.eraseIdx i).length = t.kids.length - 1 := List.length_eraseIdx_of_lt hi
  have hcap : t.kids.length ≤ c2 ∧ c2 ≤ maxLen := by
    rcases hown.2 with ⟨h0, _⟩ | ⟨_, cap, _, hv, _, _, h5, h6, _⟩
    · cases h0
    · injection hv with hv1 hv2 hv3; subst hv3; exact ⟨h5, h6⟩
  have := CT.term hct2 hd (nr_new h a1) 7 ⟨#[]⟩ (by omega) (Nat.zero_le _) (by rw [e]; omega) hcap.2
  rw [e] at this
  exact ⟨this, hbb⟩
namespace Wb
variable {rec : List Stp → T → List Stp × Option Nat} {t : T} {W : List Stp} {f j i : Nat}
theorem pow_skip (hf : findK W (t.kid j).key = none) : pow rec t (f + 1) j W = pow rec t f (j + 1) W := by
  have : find W (t.kid j) = none := hf
  simp only [pow, this]
theorem pow_one (hf : findK W (t.kid j).key = some i) (h1 : t.kids.length = 1) : pow rec t (f + 1) j W = ((add W t 11 [i]).1, some (add W t 11 [i]).2) := by
  have : find W (t.kid j) = some i := hf
  simp only [pow, this, if_pos h1]
theorem pow_less (hf : findK W (t.kid j).key = some i) (h1 : t.kids.length ≠ 1) (hr : (rec W (t.lessOf j)).2 = none) : pow rec t (f + 1) j W = pow rec t f (j + 1) (rec W (t.lessOf j)).1 := by
  have : find W (t.kid j) = some i := hf
  simp only [pow, this, if_neg h1, hr]
theorem pow_more {p : Nat} (hf : findK W (t.kid j).key = some i) (h1 : t.kids.length ≠ 1) (hr : (rec W (t.lessOf j)).2 = some p) : pow rec t (f + 1) j W = ((add (rec W (t.lessOf j)).1 t 10 [p, i]).1, some (add (rec W (t.lessOf j)).1 t 10 [p, i]).2) := by
  have : find W (t.kid j) = some i := hf
  simp only [pow, this, if_neg h1, hr]
end Wb
set_option maxRecDepth 100000 in
set_option maxHeartbeats 8000000 in
theorem opower {B g M : Nat} {vs vp : Value} {W : List Stp} {U : List T} {rec : List Stp → T → List Stp × Option Nat} (hU : Uni U) (t : T) (v : Value) (w : World) (hn0 : 0 < t.kids.length) (htU : t ∈ U) (hI : Inv U W)
    (h : WebAt B w g M vs vp W) (hT : TermIn (nr g M vs vp) w v t) (hbk : t.bulk ≤ 1048576) (hp : ∀ i, i < t.kids.length → 1 < t.kids.length → Wb.Puts U rec (t.lessOf i)) (hb : ∀ i, i < t.kids.length → 1 < t.kids.length → BuildOk B U rec (t.lessOf i)) :
    Calls Tryz.prog 101 #[.pointer (some ⟨g, 0, none⟩), v] w (BTo B g M w vs vp (Wb.pow rec t t.kids.length 0 W)) := by
  obtain ⟨A0, cap0, rfl⟩ := hT.view
  obtain ⟨b, off, _, _, rfl, hS, _⟩ := hT.kid0 hn0
  have hz := h.lt.2
  have hw := below_alloc1 w (.cells #[.int .i64 t.kind, .string t.name, .slice (some ⟨b, off, none⟩) t.kids.length cap0] 29)
  have bx := Box.new w (.int .i64 t.kind) (.string t.name) (.slice (some ⟨b, off, none⟩) t.kids.length cap0)
  have hn4 : t.kids.length ≤ 262144 := by have := T.len_le t.kids; have := t.bulk_eq; omega
  have HST := Lib.hid (show Inv U W ∧ WebAt B _ g M vs vp W ∧ Fr B g M vs vp w vs vp _ ∧ TermIn (nr g M vs vp) _ (.agg #[.int .i64 t.kind, .string t.name, .slice (some ⟨b, off, none⟩) t.kids.length cap0]) t ∧ nr g M vs vp w.heap.size = true from
    ⟨hI, h.later hw, (Fr.refl B g M vs vp w).later hz hw, hT.keep (fun b hb hl => ⟨hb, hw.block b hl⟩), nr_new h (Nat.le_refl _)⟩)
  obtain ⟨R, hR⟩ : ∃ R, Wb.pow rec t t.kids.length 0 W = R := ⟨_, rfl⟩
  rw [hR]
  have HR := Lib.hid hR
  have HP := Lib.hid hp; have HB := Lib.hid hb
  have HFD := Lib.hid (fun (j : Nat) (hj : j < t.kids.length) v' W' Wj vsj vpj (hW : WebAt B W' g M vsj vpj Wj) (hT' : TermAt W' v' (t.kid j)) => ofind (t.kid j) v' W' hW hT' (by have := T.kid_bulk hj; omega))
  have HAD := Lib.hid (fun v' W' how F fc frm Wj vs' vp' (hI' : Inv U Wj) hW hT' hF => oadd (W := Wj) (g := g) (M := M) (B := B) (vs := vs') (vp := vp') t v' W' how frm F fc hW hT' hbk hF (hI'.room hU htU))
  obtain ⟨n, hn⟩ : ∃ n, t.kids.length = n := ⟨_, rfl⟩
  obtain ⟨k, hk⟩ : ∃ k, t.kind = k := ⟨_, rfl⟩
  obtain ⟨nm, hnm⟩ : ∃ nm, t.name = nm := ⟨_, rfl⟩
  rw [hk, hnm, hn] at bx HST ⊢
  rw [hn] at hn0 hn4 HR
  have HN := Lib.hid hn
  clear hR hp hb h hT hI hw hk hnm hn
  go_enter Tryz.func101, Tryz.ntmps101
  go_upto_region 1 with fail
  generalize w.alloc (.cells #[.int .i64 k, .string nm, .slice (some ⟨b, off, none⟩) n cap0] 29) = w1 at bx HST ⊢
  obtain ⟨x0, x1, x2⟩ := bx.cells
  have BX := Lib.hid bx
  clear bx
  go_wp2_with fail
  clear x0 x1 x2
  go_loopw [13] (fun i wr => ∃ (j : Nat) (Wj : List Stp) (vsj vpj : Value), j ≤ n ∧ i = .int .i64 j ∧ Wb.pow rec t (n - j) j Wj = R ∧ Inv U Wj ∧ WebAt B wr g M vsj vpj Wj ∧ Fr B g M vs vp w vsj vpj wr ∧ TermIn (nr g M vsj vpj) wr (.agg #[.int .i64 k, .string nm, .slice (some ⟨b, off, none⟩) n cap0]) t ∧ Box wr w.heap.size (.int .i64 k) (.string nm) (.slice (some ⟨b, off, none⟩) n cap0) ∧ nr g M vsj vpj w.heap.size = true) (fun i _ => n - (intOf i).toNat)
  case atStart => exact ⟨0, W, vs, vp, Nat.zero_le _, rfl, HR.out, HST.out.1, HST.out.2.1, HST.out.2.2.1, HST.out.2.2.2.1, BX.out, HST.out.2.2.2.2⟩
  case round =>
    obtain ⟨j, Wj, vsj, vpj, hj, rfl, hpow, hIj, hwj, hfj, htj, hbj, hnj⟩ := hrel
    have HPOW := Lib.hid hpow; have HIJ := Lib.hid hIj; have HFJ := Lib.hid hfj; have HNJ := Lib.hid hnj; have HBJ := Lib.hid hbj
    by_cases hlt : j < n
    · obtain ⟨b', off', A1, c1, e1, hS', d0, d1, d2, hkj⟩ := htj.kid (i := j) (by rw [HN.out]; exact hlt)
      injection e1 with e1; injection e1 with e1 e2; subst e1; subst e2
      have hi : (j : Int) < (n : Int) := by omega
      have hwa := below_alloc1 wr (.cells #[.int .i64 (t.kid j).kind, .string (t.kid j).name, .slice A1 (t.kid j).kids.length c1] 29)
      have HW1 := Lib.hid (hwj.later hwa); have HT1 := Lib.hid (htj.keep (S' := nr g M vsj vpj) (fun b hb hl => ⟨hb, hwa.block b hl⟩)); have HK1 := Lib.hid (hkj.keep (S' := nr g M vsj vpj) (fun b hb hl => ⟨hb, hwa.block b hl⟩)); have HF1 := Lib.hid (HFJ.out.later hz hwa); have HB1 := Lib.hid (HBJ.out.later hwa)
      have HLT := Lib.hid hlt
      clear hpow hIj hwj hfj htj hbj hnj hkj hwa
      have bk := Box.new wr (.int .i64 (t.kid j).kind) (.string (t.kid j).name) (.slice A1 (t.kid j).kids.length c1)
      go_upto_region 4 with fail
      generalize wr.alloc (.cells #[.int .i64 (t.kid j).kind, .string (t.kid j).name, .slice A1 (t.kid j).kids.length c1] 29) = wa at *
      obtain ⟨bk0, bk1, bk2⟩ := bk.cells
      clear bk d0 d1 d2
      go_wp2_with fail
      refine (HFD.out j (by rw [HN.out]; exact HLT.out) _ _ _ _ _ HW1.out HK1.out.at).mono ?_; rintro e w2 ⟨he, hb2⟩
      have HW2 := Lib.hid (HW1.out.later hb2); have HT2 := Lib.hid (HT1.out.keep (S' := nr g M vsj vpj) (fun b hb hl => ⟨hb, hb2.block b hl⟩)); have HF2 := Lib.hid (HF1.out.later hz hb2); have HB2 := Lib.hid (HB1.out.later hb2)
      obtain ⟨f, hfn⟩ : ∃ f, n - j = f + 1 := ⟨n - j - 1, by have := HLT.out; omega⟩
      have HFN := Lib.hid hfn
      clear hb2 bk0 bk1 bk2 hfn
      cases hf : findK Wj (t.kid j).key with
      | none =>
        have he2 : e = .returned (.int .i64 (-1)) := by rw [he, hf]; rfl
        clear he; subst he2
        have HE := Lib.hid (show Wb.pow rec t (n - (j + 1)) (j + 1) Wj = R by
          rw [show n - (j + 1) = f by have := HFN.out; omega, ← HPOW.out, HFN.out]
          exact (Wb.pow_skip hf).symm)
        clear hf
        go_wp2_with fail
        go_roundw
        case rel => exact ⟨j + 1, Wj, vsj, vpj, HLT.out, by go_num, HE.out, HIJ.out, HW2.out, HF2.out, HT2.out, HB2.out, HNJ.out⟩
        case measure => have := HLT.out; simp [intOf]; omega
      | some i2 =>
        have he2 : e = .returned (.int .i64 (i2 : Int)) := by rw [he, hf]; rfl
        clear he; subst he2
        have hneg : ¬ ((i2 : Int) < 0) := by omega
        have HIF := Lib.hid hf
        clear hf
        obtain ⟨y0, y1, y2⟩ := HB2.out.cells
        by_cases h1 : n = 1
        · subst h1
          have HE := Lib.hid (show R = ((Wb.add Wj t 11 [i2]).1, some (Wb.add Wj t 11 [i2]).2) by
            rw [← HPOW.out, HFN.out]
            exact Wb.pow_one HIF.out HN.out)
          have hb4 := below_alloc1 w2 (.cells #[.int .i64 (i2 : Int)] 3)
          have HN4 := Lib.hid (NumsIn.one (S := nr g M vsj vpj) w2 i2 3 (nr_new HW2.out (Nat.le_refl _)))
          have HW4 := Lib.hid (HW2.out.later hb4); have HT4 := Lib.hid (HT2.out.keep (S' := nr g M vsj vpj) (fun b hb hl => ⟨hb, hb4.block b hl⟩)); have HF4 := Lib.hid (HF2.out.later hz hb4)
          clear hb4
          go_wp2_with fail
          refine (HAD.out _ _ 11 _ _ [i2] _ _ _ HIJ.out HW4.out HT4.out HN4.out).mono ?_; rintro e w5 ⟨rfl, hw5⟩
          have HW5 := Lib.hid (WebTo.after HF4.out hw5)
          clear hw5 y0 y1 y2
          go_wp2_with fail
          go_ret
          rw [HE.out]
          exact ⟨rfl, HW5.out⟩
        · have hn1 : ((n : Int) == 1) = false := by rw [beq_eq_false_iff_ne]; omega
          have hn1' : ¬ ((n : Int) = 1) := by omega
          have H1 := Lib.hid (show 1 < n by have := HLT.out; omega)
          clear h1
          go_wp2_with fail
          refine (oclone w2 HT2.out HN.out.symm hn0 (by omega)).mono ?_; rintro e w3 ⟨g2, c2, xs, rfl, hown, hct, hb3⟩
          have hcc : n ≤ c2 := by
            rcases hown.2 with ⟨h0, _⟩ | ⟨_, cap, _, hv, _, _, h5, _⟩
            · cases h0
            · injection hv with hv1 hv2 hv3; subst hv3; exact h5
          have HDL := Lib.hid (odelete g2 n c2 j (j + 1) xs w3 (by rw [hct.1, HN.out]) rfl HLT.out hcc (fun k u hu => by have := hown.cells (g := g2) rfl k u hu; rw [Go.WideShapes.add_plain, Nat.zero_add] at this; exact this) (fun k _ => hown.frozenAt k) hct.one')
          have HOW := Lib.hid hown; have HCT := Lib.hid hct; have HB3 := Lib.hid hb3
          clear hown hct hb3 y0 y1 y2
          go_wp2_with fail
          refine HDL.out.mono ?_; rintro e w4 ⟨rfl, hd, hb4⟩
          obtain ⟨hl4, hb24⟩ := less_made (t := t) HW2.out HCT.out (by rw [HN.out]; exact HOW.out) HB3.out (by rw [HN.out]; exact HLT.out) hd hb4
          rw [HN.out] at hl4
          have hb5 := below_alloc1 w4 (.cells #[.int .i64 7, .string ⟨#[]⟩, .slice (some ⟨g2, 0, none⟩) (n - 1) c2] 29)
          have bl := Box.new w4 (.int .i64 7) (.string ⟨#[]⟩) (.slice (some ⟨g2, 0, none⟩) (n - 1) c2)
          have hb25 := hb24.trans (hb5.mono hb24.size)
          have HL5 := Lib.hid (hl4.keep (S' := nr g M vsj vpj) (fun b hb hl => ⟨hb, hb5.block b hl⟩))
          have HW5 := Lib.hid (HW2.out.later hb25); have HT5 := Lib.hid (HT2.out.keep (S' := nr g M vsj vpj) (fun b hb hl => ⟨hb, hb25.block b hl⟩)); have HF5 := Lib.hid (HF2.out.later hz hb25); have HB5 := Lib.hid (HB2.out.later hb25)
          clear hd hb4 hl4 hb24 hb5 hb25
          go_upto_region 9 with fail
          generalize w4.alloc (.cells #[.int .i64 7, .string ⟨#[]⟩, .slice (some ⟨g2, 0, none⟩) (n - 1) c2] 29) = w5 at *
          obtain ⟨z0, z1, z2⟩ := bl.cells
          have hjt : j < t.kids.length := by rw [HN.out]; exact HLT.out
          have h1t : 1 < t.kids.length := by rw [HN.out]; exact H1.out
          have hp := HP.out j hjt h1t Wj HIJ.out
          have hbl := HB.out j hjt h1t _ w5 g M vsj vpj Wj HIJ.out HW5.out HL5.out
          have hl1 : (rec Wj (t.lessOf j)).2 = none → Wb.pow rec t f (j + 1) (rec Wj (t.lessOf j)).1 = R := fun e => by
            rw [← HPOW.out, HFN.out]; exact (Wb.pow_less HIF.out (by omega) e).symm
          have hl2 : ∀ p, (rec Wj (t.lessOf j)).2 = some p → R = ((Wb.add (rec Wj (t.lessOf j)).1 t 10 [p, i2]).1, some (Wb.add (rec Wj (t.lessOf j)).1 t 10 [p, i2]).2) := fun p e => by
            rw [← HPOW.out, HFN.out]; exact Wb.pow_more HIF.out (by omega) e
          generalize rec Wj (t.lessOf j) = q at hp hbl hl1 hl2
          obtain ⟨hI6, _, _⟩ := hp
          have HI6 := Lib.hid hI6; have HBL := Lib.hid hbl; have HL1 := Lib.hid hl1; have HL2 := Lib.hid hl2
          clear bl hjt h1t hI6 hbl hl1 hl2
          go_wp2_with fail
          refine HBL.out.mono ?_; rintro e w6 ⟨he, vs6, vp6, hw6, hf6⟩
          have HW6 := Lib.hid hw6; have HT6 := Lib.hid (HT5.out.fr hf6); have HF6 := Lib.hid (HF5.out.trans hf6); have HB6 := Lib.hid (HB5.out.fr hf6 HNJ.out); have HN6 := Lib.hid (hf6.keep _ HNJ.out HB5.out.lt).1
          clear hw6 hf6 z0 z1 z2
          cases hq : q.2 with
          | none =>
            have he2 : e = .returned (.int .i64 (-1)) := by rw [he, hq]; rfl
            clear he; subst he2
            have HE := Lib.hid (show Wb.pow rec t (n - (j + 1)) (j + 1) q.1 = R by
              rw [show n - (j + 1) = f by have := HFN.out; omega]
              exact HL1.out hq)
            clear hq
            go_wp2_with fail
            go_roundw
            case rel => exact ⟨j + 1, q.1, vs6, vp6, HLT.out, by go_num, HE.out, HI6.out, HW6.out, HF6.out, HT6.out, HB6.out, HN6.out⟩
            case measure => have := HLT.out; simp [intOf]; omega
          | some p =>
            have he2 : e = .returned (.int .i64 (p : Int)) := by rw [he, hq]; rfl
            clear he; subst he2
            have hpos : (0 : Int) ≤ (p : Int) := by omega
            have HE := Lib.hid (HL2.out p hq)
            clear hq
            obtain ⟨y0, y1, y2⟩ := HB6.out.cells
            have hb7 := below_alloc1 w6 (.cells #[.int .i64 (p : Int), .int .i64 (i2 : Int)] 3)
            have HN7 := Lib.hid (NumsIn.two (S := nr g M vs6 vp6) w6 p i2 3 (nr_new HW6.out (Nat.le_refl _)))
            have HW7 := Lib.hid (HW6.out.later hb7); have HT7 := Lib.hid (HT6.out.keep (S' := nr g M vs6 vp6) (fun b hb hl => ⟨hb, hb7.block b hl⟩)); have HF7 := Lib.hid (HF6.out.later hz hb7)
            clear hb7
            go_wp2_with fail
            refine (HAD.out _ _ 10 _ _ [p, i2] _ _ _ HI6.out HW7.out HT7.out HN7.out).mono ?_; rintro e w8 ⟨rfl, hw8⟩
            have HW8 := Lib.hid (WebTo.after HF7.out hw8)
            clear hw8 y0 y1 y2
            go_wp2_with fail
            go_ret
            rw [HE.out]
            exact ⟨rfl, HW8.out⟩
    · obtain rfl : j = n := by omega
      have HE := Lib.hid (show R = (Wj, none) by have := HPOW.out; rw [Nat.sub_self] at this; exact this.symm)
      have HW1 := Lib.hid hwj
      clear hpow hIj hwj hfj htj hbj hnj
      go_wp2_with fail
      go_ret
      rw [HE.out]
      exact ⟨rfl, _, _, HW1.out, HFJ.out⟩
end Go.Proofs.YtihbmgkbipeakaaGreat
