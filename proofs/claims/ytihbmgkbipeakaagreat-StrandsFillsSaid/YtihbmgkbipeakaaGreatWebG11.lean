/- Several texts in one: TermPParse, StrMove, TermROnly, TermPName2. -/
import Derived.Test.YtihbmgkbipeakaaGreatWebG7
import Derived.BigRegion
import Derived.Test.YtihbmgkbipeakaaGreatWebG10
import Derived.Test.YtihbmgkbipeakaaGreatWebG6
namespace Go.Proofs.YtihbmgkbipeakaaGreat
open Go.RowKit

/-- What Parse makes of what term has read. -/
def T.parseEnd (n : Nat) : Except Nat (T × Nat) → T × Nat × Int
  | .error e => (.mk 0 ⟨#[]⟩ [], e, 71)
  | .ok (t, j) => if j < n then (.mk 0 ⟨#[]⟩ [], j, 71) else if t.valid = true then (t, 0, 0) else (.mk 0 ⟨#[]⟩ [], 0, 76)
theorem T.parse_end (s : ByteArray) (h : ¬ 1024 < s.size) (r : Except Nat (T × Nat)) (hr : T.pterm s.data.toList (2 * s.size + 1) 0 = some r) : T.parse s = T.parseEnd s.size r := by
  unfold T.parse; rw [if_neg h, hr]; rcases r with e | ⟨t, j⟩ <;> rfl
/-- What Parse leaves. -/
def ParsePost (p : T × Nat × Int) (w : World) (e : Ending) (w' : World) : Prop :=
  ∃ A cap, e = .returned (.tuple #[.agg #[.int .i64 p.1.kind, .string p.1.name, .slice A p.1.kids.length cap], .int .i64 p.2.1, .int .i64 p.2.2]) ∧
    TermIn (from_ w.heap.size) w' (.agg #[.int .i64 p.1.kind, .string p.1.name, .slice A p.1.kids.length cap]) p.1 ∧ Below w.heap.size w w'
theorem ParsePost.drew {p : T × Nat × Int} {w : World} {e : Ending} {w' : World} (h : ParsePost p w e w') : ParsePost p w e w'.drew := by
  obtain ⟨A, cap, h1, h2, h3⟩ := h
  exact ⟨A, cap, h1, h2.keep fun b hb _ => ⟨hb, rfl⟩, h3.drew⟩
theorem parse_ends {w W : World} {t : T} {i : Nat} {c : Int} {A : Option Addr} {cap : Nat} (hb : Below w.heap.size w W) (h : TermIn (from_ (w.heap.size + 1)) W (.agg #[.int .i64 t.kind, .string t.name, .slice A t.kids.length cap]) t) {e : Ending}
    (he : e = .returned (.tuple #[.agg #[.int .i64 t.kind, .string t.name, .slice A t.kids.length cap], .int .i64 i, .int .i64 c])) :
    ParsePost (t, i, c) w e (((W.setCell ⟨w.heap.size, 0, none⟩ (.int .i64 t.kind)).setCell ⟨w.heap.size, 1, none⟩ (.string t.name)).setCell ⟨w.heap.size, 2, none⟩ (.slice A t.kids.length cap)) := by
  refine ⟨A, cap, he, h.keep fun b hb' _ => ?_, hb.trans (below_set3 _ _ _ _ _)⟩
  have := of_decide_eq_true hb'
  exact ⟨decide_eq_true (by omega), set3_other _ _ _ _ _ _ (by omega)⟩

set_option maxRecDepth 100000 in
set_option maxHeartbeats 4000000 in
theorem oparse (s : ByteArray) (w : World) :
    Calls Tryz.prog 114 #[.string s] w (ParsePost (T.parse s) w) := by
  have hst1 := Box.new w (.int .i64 0) (.string ⟨#[]⟩) (.slice none 0 0)
  have hb1 := below_alloc1 w (.cells #[.int .i64 0, .string ⟨#[]⟩, .slice none 0 0] 29)
  have hz1' := size_alloc1 w (.cells #[.int .i64 0, .string ⟨#[]⟩, .slice none 0 0] 29)
  obtain ⟨p, hpar⟩ : ∃ p, T.parse s = p := ⟨_, rfl⟩
  rw [hpar]
  go_enter Tryz.func114, Tryz.ntmps114
  go_upto_region 1 with fail
  generalize w.alloc (.cells #[.int .i64 0, .string ⟨#[]⟩, .slice none 0 0] 29) = w1 at hst1 hb1 hz1' ⊢
  obtain ⟨x0, x1, x2⟩ := hst1.cells
  obtain ⟨f0, f1, f2⟩ := hst1.free
  have HBX := Lib.hid hst1; have HB := Lib.hid hb1; have HZ1 := Lib.hid hz1'
  clear hst1 hb1 hz1'
  have hzt : ∀ W, TermIn (from_ (w.heap.size + 1)) W (.agg #[.int .i64 0, .string ⟨#[]⟩, .slice none 0 0]) (.mk 0 ⟨#[]⟩ []) := fun W => atom_in _ _ 0 ⟨#[]⟩ (by decide) (by decide)
  have HZT := Lib.hid hzt; clear hzt
  by_cases hbig : 1024 < s.size
  · have hp : p = (.mk 0 ⟨#[]⟩ [], 0, 72) := by rw [← hpar]; unfold T.parse; rw [if_pos hbig]
    subst hp
    have h1 : (1024 : Int) < (s.size : Int) := by omega
    clear hpar
    go_wp2_with fail
    obtain ⟨d0, d1, d2⟩ := (box_set3 HBX.out (.int .i64 0) (.string ⟨#[]⟩) (.slice none 0 0)).cells
    refine bodyPost_ret (v := .tuple #[.agg #[.int .i64 0, .string ⟨#[]⟩, .slice none 0 0], .int .i64 0, .int .i64 72]) (by simp [results, Tryz.results114, go_sem, d0, d1, d2]) rfl ?_
    exact parse_ends HB.out (HZT.out _) rfl
  have h1 : (s.size : Int) ≤ 1024 := by omega
  obtain ⟨r, hr⟩ : ∃ r, T.pterm s.data.toList (2 * s.size + 1) 0 = some r := by
    cases h : T.pterm s.data.toList (2 * s.size + 1) 0 with
    | none => exact absurd h ((T.p_some s.data.toList _).1 0 (Nat.zero_le _) (by rw [T.size_len]; omega))
    | some r => exact ⟨r, rfl⟩
  have hpar2 : T.parseEnd s.size r = p := by rw [← hpar]; exact (T.parse_end s hbig r hr).symm
  have HR := Lib.hid hr; have HP := Lib.hid hpar2; have HS := Lib.hid (show s.size ≤ 1024 by omega)
  clear hr hpar hpar2 hbig
  go_wp2_with fail
  have hpb : PBox 152 (w1.alloc (.cells #[.string s, .int .i64 0, .bool false] 152)) w1.heap.size s 0 false := heap_alloc_new w1 _
  have hb2 := below_alloc1 w1 (.cells #[.string s, .int .i64 0, .bool false] 152)
  have hz2 := size_alloc1 w1 (.cells #[.string s, .int .i64 0, .bool false] 152)
  generalize w1.alloc (.cells #[.string s, .int .i64 0, .bool false] 152) = w2 at hpb hb2 hz2 ⊢
  have HPB := Lib.hid hpb; have HB2 := Lib.hid hb2; have HZ2 := Lib.hid hz2
  clear hpb hb2 hz2
  refine (oterm (2 * s.size + 1) (by have := HS.out; omega) w1.heap.size 0 s w2 r HPB.out (Nat.zero_le _) (by have := HS.out; omega) HR.out).mono ?_
  rintro e w3 ⟨hg3, hres⟩
  have HG3 := Lib.hid hg3
  have hbx3 := (HBX.out.later HB2.out).grown hg3 (fun e => by have e' := Option.some.inj e; have := HZ1.out; omega)
  have hb3 : Below w.heap.size w w3 := (HB.out.trans (HB2.out.mono HB.out.size)).grown hg3 (by have := HZ1.out; have := HZ2.out; omega) (fun k hk => by have e' := Option.some.inj hk; have := HZ1.out; omega)
  have HBX3 := Lib.hid hbx3; have HB3 := Lib.hid hb3
  clear hg3 hbx3 hb3 x0 x1 x2 f0 f1 f2
  rcases r with e4 | ⟨t, j⟩
  · obtain ⟨hp3, k0, nm, A3, n3, c3, rfl⟩ := hres
    have hp : p = (.mk 0 ⟨#[]⟩ [], e4, 71) := HP.out.symm
    subst hp
    have hp4 := hp3.later (below_alloc1 w3 (.cells #[.int .i64 k0, .string nm, .slice A3 n3 c3] 29))
    have hbx4 := HBX3.out.later (below_alloc1 w3 (.cells #[.int .i64 k0, .string nm, .slice A3 n3 c3] 29))
    have hb4 := HB3.out.trans ((below_alloc1 w3 (.cells #[.int .i64 k0, .string nm, .slice A3 n3 c3] 29)).mono HB3.out.size)
    clear hp3
    go_upto_region 5 with fail
    generalize w3.alloc (.cells #[.int .i64 k0, .string nm, .slice A3 n3 c3] 29) = w4 at hp4 hbx4 hb4 ⊢
    obtain ⟨x0, x1, x2⟩ := hp4.cells
    obtain ⟨z0, z1, z2⟩ := hbx4.cells
    obtain ⟨k0', k1', k2'⟩ := hbx4.free
    have HBX4 := Lib.hid hbx4; have HB4 := Lib.hid hb4
    clear hp4 hbx4 hb4
    have hne : w.heap.size ≠ w1.heap.size := by have := HZ1.out; omega
    have hne' : w1.heap.size ≠ w.heap.size := by have := HZ1.out; omega
    go_wp2_with fail
    go_region
    go_wp2_with fail
    obtain ⟨d0, d1, d2⟩ := (box_set3 HBX4.out (.int .i64 0) (.string ⟨#[]⟩) (.slice none 0 0)).cells
    refine bodyPost_ret (v := .tuple #[.agg #[.int .i64 0, .string ⟨#[]⟩, .slice none 0 0], .int .i64 e4, .int .i64 71]) (by simp [results, Tryz.results114, go_sem, d0, d1, d2]) rfl ?_
    exact (parse_ends HB4.out (HZT.out _) rfl).drew
  · obtain ⟨hp3, A3, c3, rfl, hti⟩ := hres
    have hjl := ((T.p_ok s.data.toList _).1 _ _ _ HR.out).2
    have HJL := Lib.hid (show j ≤ s.size ∧ t.bulk ≤ 1048576 by have h2 := T.size_len s; have := HS.out; omega)
    have hp4 := hp3.later (below_alloc1 w3 (.cells #[.int .i64 t.kind, .string t.name, .slice A3 t.kids.length c3] 29))
    have hbx4 := HBX3.out.later (below_alloc1 w3 (.cells #[.int .i64 t.kind, .string t.name, .slice A3 t.kids.length c3] 29))
    have hb4 := HB3.out.trans ((below_alloc1 w3 (.cells #[.int .i64 t.kind, .string t.name, .slice A3 t.kids.length c3] 29)).mono HB3.out.size)
    have hq4 := Box.new w3 (.int .i64 t.kind) (.string t.name) (.slice A3 t.kids.length c3)
    have hti4 := hti.keep (S' := from_ (w.heap.size + 1)) (w' := w3.alloc (.cells #[.int .i64 t.kind, .string t.name, .slice A3 t.kids.length c3] 29)) fun b hb hl => ⟨by have := of_decide_eq_true hb; have := HZ1.out; have := HZ2.out; exact decide_eq_true (by omega), Below.heap_alloc _ _ b hl⟩
    clear hp3 hti hjl
    go_upto_region 5 with fail
    generalize w3.alloc (.cells #[.int .i64 t.kind, .string t.name, .slice A3 t.kids.length c3] 29) = w4 at hp4 hbx4 hb4 hq4 hti4 ⊢
    obtain ⟨x0, x1, x2⟩ := hp4.cells
    obtain ⟨z0, z1, z2⟩ := hbx4.cells
    obtain ⟨k0', k1', k2'⟩ := hbx4.free
    obtain ⟨q0, q1, q2⟩ := hq4.cells
    have HBX4 := Lib.hid hbx4; have HB4 := Lib.hid hb4; have HQ4 := Lib.hid hq4; have HTI4 := Lib.hid hti4
    clear hp4 hbx4 hb4 hq4 hti4
    by_cases hjs : j < s.size
    · have hp : p = (.mk 0 ⟨#[]⟩ [], j, 71) := by have := HP.out; dsimp only [T.parseEnd] at this; rw [if_pos hjs] at this; exact this.symm
      subst hp
      have h2 : (j : Int) < (s.size : Int) := by omega
      have hne : w.heap.size ≠ w1.heap.size := by have := HZ1.out; omega
      have hne' : w1.heap.size ≠ w.heap.size := by have := HZ1.out; omega
      go_wp2_with fail
      go_region
      go_wp2_with fail
      obtain ⟨d0, d1, d2⟩ := (box_set3 HBX4.out (.int .i64 0) (.string ⟨#[]⟩) (.slice none 0 0)).cells
      refine bodyPost_ret (v := .tuple #[.agg #[.int .i64 0, .string ⟨#[]⟩, .slice none 0 0], .int .i64 j, .int .i64 71]) (by simp [results, Tryz.results114, go_sem, d0, d1, d2]) rfl ?_
      exact (parse_ends HB4.out (HZT.out _) rfl).drew
    have h2 : (s.size : Int) ≤ (j : Int) := by omega
    have hpv : (if t.valid = true then ((t, 0, 0) : T × Nat × Int) else (.mk 0 ⟨#[]⟩ [], 0, 76)) = p := by have := HP.out; dsimp only [T.parseEnd] at this; rw [if_neg hjs] at this; exact this
    have HPV := Lib.hid hpv
    obtain ⟨q, hq⟩ : ∃ q, t.valid = q := ⟨_, rfl⟩
    have HQ := Lib.hid hq
    clear hpv hq hjs
    cases q
    · have hp : p = (.mk 0 ⟨#[]⟩ [], 0, 76) := by have := HPV.out; rw [if_neg (by rw [HQ.out]; decide)] at this; exact this.symm
      subst hp
      go_wp2_with fail
      refine (ovalid t _ _ HTI4.out.at HJL.out.2 false 76 HQ.out (.inr ⟨rfl, rfl⟩)).mono ?_; rintro e w5 ⟨rfl, hb5⟩
      have hbx5 := HBX4.out.later hb5
      have HB5 := Lib.hid (HB4.out.trans (hb5.mono HB4.out.size)); have HBX5 := Lib.hid hbx5
      clear z0 z1 z2 k0' k1' k2' q0 q1 q2 x0 x1 x2 hb5
      obtain ⟨z0, z1, z2⟩ := hbx5.cells
      obtain ⟨k0', k1', k2'⟩ := hbx5.free
      clear hbx5
      go_wp2_with fail
      obtain ⟨d0, d1, d2⟩ := (box_set3 HBX5.out (.int .i64 0) (.string ⟨#[]⟩) (.slice none 0 0)).cells
      refine bodyPost_ret (v := .tuple #[.agg #[.int .i64 0, .string ⟨#[]⟩, .slice none 0 0], .int .i64 0, .int .i64 76]) (by simp [results, Tryz.results114, go_sem, d0, d1, d2]) rfl ?_
      exact parse_ends HB5.out (HZT.out _) rfl
    · have hp : p = (t, 0, 0) := by have := HPV.out; rw [if_pos HQ.out] at this; exact this.symm
      subst hp
      go_wp2_with fail
      refine (ovalid t _ _ HTI4.out.at HJL.out.2 true 0 HQ.out (.inl ⟨rfl, rfl⟩)).mono ?_; rintro e w5 ⟨rfl, hb5⟩
      have hbx5 := HBX4.out.later hb5
      have hq5 := HQ4.out.later hb5
      have HTI5 := Lib.hid (HTI4.out.keep (w' := w5) (S' := from_ (w.heap.size + 1)) fun b hb hl => ⟨hb, hb5.block b hl⟩)
      have HB5 := Lib.hid (HB4.out.trans (hb5.mono HB4.out.size)); have HBX5 := Lib.hid hbx5
      clear z0 z1 z2 k0' k1' k2' q0 q1 q2 x0 x1 x2 hb5
      obtain ⟨z0, z1, z2⟩ := hbx5.cells
      obtain ⟨k0', k1', k2'⟩ := hbx5.free
      obtain ⟨q0, q1, q2⟩ := hq5.cells
      clear hbx5 hq5
      go_wp2_with fail
      obtain ⟨d0, d1, d2⟩ := (box_set3 HBX5.out (.int .i64 t.kind) (.string t.name) (.slice A3 t.kids.length c3)).cells
      refine bodyPost_ret (v := .tuple #[.agg #[.int .i64 t.kind, .string t.name, .slice A3 t.kids.length c3], .int .i64 0, .int .i64 0]) (by simp [results, Tryz.results114, go_sem, d0, d1, d2]) rfl ?_
      exact parse_ends HB5.out HTI5.out rfl
end Go.Proofs.YtihbmgkbipeakaaGreat

namespace Go.Proofs.YtihbmgkbipeakaaGreat
open Go.RowKit

/-- A box of four cells: a move. -/
def Box4 (w : World) (g : Nat) (a b c d : Value) : Prop := w.heap[g]? = some (.cells #[a, b, c, d] 52)
theorem Box4.lt {w : World} {g : Nat} {a b c d : Value} (h : Box4 w g a b c d) : g < w.heap.size := (Array.getElem?_eq_some_iff.1 h).1
theorem Box4.cells {w : World} {g : Nat} {a b c d : Value} (h : Box4 w g a b c d) : w.cell? ⟨g, 0, none⟩ = some a ∧ w.cell? ⟨g, 1, none⟩ = some b ∧ w.cell? ⟨g, 2, none⟩ = some c ∧ w.cell? ⟨g, 3, none⟩ = some d := by
  unfold Box4 at h
  refine ⟨?_, ?_, ?_, ?_⟩ <;> simp [World.cell?, h]
theorem Box4.free {w : World} {g : Nat} {a b c d : Value} (h : Box4 w g a b c d) : w.frozen? ⟨g, 0, none⟩ = false ∧ w.frozen? ⟨g, 1, none⟩ = false ∧ w.frozen? ⟨g, 2, none⟩ = false ∧ w.frozen? ⟨g, 3, none⟩ = false := by
  unfold Box4 at h
  refine ⟨?_, ?_, ?_, ?_⟩ <;> simp [World.frozen?, h]
theorem Box4.later {w w' : World} {g : Nat} {a b c d : Value} (h : Box4 w g a b c d) (hb : Below w.heap.size w w') : Box4 w' g a b c d := (hb.block g h.lt).trans h
theorem box_set4 {w : World} {g : Nat} {a b c d : Value} (h : Box4 w g a b c d) (x y z u : Value) : Box4 ((((w.setCell ⟨g, 0, none⟩ x).setCell ⟨g, 1, none⟩ y).setCell ⟨g, 2, none⟩ z).setCell ⟨g, 3, none⟩ u) g x y z u := by
  unfold Box4 at *
  simp [World.setCell, Array.getElem?_modify, h]
theorem set4_other (w : World) (g : Nat) (x y z u : Value) (b : Nat) (hb : b ≠ g) : ((((w.setCell ⟨g, 0, none⟩ x).setCell ⟨g, 1, none⟩ y).setCell ⟨g, 2, none⟩ z).setCell ⟨g, 3, none⟩ u).heap[b]? = w.heap[b]? := by
  rw [Below.heap_setCell _ _ _ _ (by show b ≠ g; exact hb), Below.heap_setCell _ _ _ _ (by show b ≠ g; exact hb), Below.heap_setCell _ _ _ _ (by show b ≠ g; exact hb), Below.heap_setCell _ _ _ _ (by show b ≠ g; exact hb)]
/-- A move in new memory. -/
def MovePost (k : Int) (t : T) (w : World) (e : Ending) (w' : World) : Prop := ∃ A c, e = .returned (.agg #[.int .i64 k, .int .i64 t.kind, .string t.name, .slice A t.kids.length c]) ∧
  TermIn (from_ w.heap.size) w' (.agg #[.int .i64 t.kind, .string t.name, .slice A t.kids.length c]) t ∧ Below w.heap.size w w'

set_option maxRecDepth 100000 in
set_option maxHeartbeats 4000000 in
theorem omove (k : Int) (s : ByteArray) (w : World) :
    Calls Tryz.prog 71 #[.int .i64 k, .string s] w (MovePost k (T.parse s).1 w) := by
  have hb0 : Box4 (w.alloc (.cells #[.int .i64 0, .int .i64 0, .string ⟨#[]⟩, .slice none 0 0] 52)) w.heap.size (.int .i64 0) (.int .i64 0) (.string ⟨#[]⟩) (.slice none 0 0) := heap_alloc_new w _
  have hw := below_alloc1 w (.cells #[.int .i64 0, .int .i64 0, .string ⟨#[]⟩, .slice none 0 0] 52)
  have hz := size_alloc1 w (.cells #[.int .i64 0, .int .i64 0, .string ⟨#[]⟩, .slice none 0 0] 52)
  have HP := Lib.hid (fun W => oparse s W)
  obtain ⟨p, hp⟩ : ∃ p, T.parse s = p := ⟨_, rfl⟩
  rw [hp] at HP ⊢
  clear hp
  obtain ⟨t, i, c⟩ := p
  go_enter Tryz.func71, Tryz.ntmps71
  go_upto_region 1 with fail
  generalize w.alloc (.cells #[.int .i64 0, .int .i64 0, .string ⟨#[]⟩, .slice none 0 0] 52) = w1 at hb0 hw hz ⊢
  have HB0 := Lib.hid hb0; have HW := Lib.hid hw; have HZ := Lib.hid hz
  clear hb0 hw hz
  go_wp2_with fail
  refine (HP.out _).mono ?_; rintro e w2 ⟨A2, C2, rfl, ht2, hb2⟩
  dsimp only at ht2 ⊢
  have HT2 := Lib.hid (ht2.keep (w' := w2) (S' := from_ (w.heap.size + 1)) fun b hb _ => ⟨decide_eq_true (by have := of_decide_eq_true hb; have := HZ.out; omega), rfl⟩)
  have HB2 := Lib.hid (HB0.out.later hb2); have HW2 := Lib.hid (HW.out.trans (hb2.mono HW.out.size))
  clear ht2 hb2
  go_upto_region 2 with fail
  have hx := Box.new w2 (.int .i64 t.kind) (.string t.name) (.slice A2 t.kids.length C2)
  have hw3 := below_alloc1 w2 (.cells #[.int .i64 t.kind, .string t.name, .slice A2 t.kids.length C2] 29)
  have HB3 := Lib.hid (HB2.out.later hw3); have HW3 := Lib.hid (HW2.out.trans (hw3.mono HW2.out.size))
  have HT3 := Lib.hid (HT2.out.keep (S' := from_ (w.heap.size + 1)) fun b hb hl => ⟨hb, hw3.block b hl⟩)
  generalize w2.alloc (.cells #[.int .i64 t.kind, .string t.name, .slice A2 t.kids.length C2] 29) = w3 at hx HB3 HW3 HT3 ⊢
  obtain ⟨x0, x1, x2⟩ := hx.cells
  obtain ⟨y0, y1, y2, y3⟩ := HB3.out.cells
  obtain ⟨f0, f1, f2, f3⟩ := HB3.out.free
  clear hx hw3
  go_wp2_with fail
  obtain ⟨d0, d1, d2, d3⟩ := (box_set4 HB3.out (.int .i64 k) (.int .i64 t.kind) (.string t.name) (.slice A2 t.kids.length C2)).cells
  refine bodyPost_ret (v := .agg #[.int .i64 k, .int .i64 t.kind, .string t.name, .slice A2 t.kids.length C2]) (by simp [results, Tryz.results71, go_sem, d0, d1, d2, d3]) rfl ?_
  refine ⟨A2, C2, rfl, HT3.out.keep fun b hb _ => ?_, ?_⟩
  · have := of_decide_eq_true hb
    exact ⟨decide_eq_true (by omega), set4_other _ _ _ _ _ _ _ (by omega)⟩
  · exact (((HW3.out.setCell (Nat.le_refl _) _).setCell (Nat.le_refl _) _).setCell (Nat.le_refl _) _).setCell (Nat.le_refl _) _
end Go.Proofs.YtihbmgkbipeakaaGreat

namespace Go.Proofs.YtihbmgkbipeakaaGreat
open Go.RowKit

theorem only_get (w : World) (S : Nat → Bool) (k : Nat) : (only w S).heap[k]? = (w.heap[k]?).map fun o => if S k = true then o else .cells #[] 0 (0, 0) := by
  simp [only, Array.getElem?_mapIdx]
theorem only_size (w : World) (S : Nat → Bool) : (only w S).heap.size = w.heap.size := by simp [only]
theorem only_grown {w w' : World} {row : Option Nat} (h : w.grownBy w' row) (S : Nat → Bool) : (only w S).grownBy (only w' S) row :=
  ⟨h.os, h.tape, h.output, by rw [only_size, only_size]; exact h.size, fun k hk hn => by rw [only_get, only_get, h.block k (by rw [only_size] at hk; exact hk) hn]⟩
theorem only_owns {w : World} {base : Nat} {e : TypeId} {size n : Nat} {v : Value} {xs : List Value} (h : w.ownsRow base e size v n xs) (S : Nat → Bool) (hS : ∀ g, v.ownBlock = some g → S g = true) : (only w S).ownsRow base e size v n xs := by
  refine ⟨h.1, ?_⟩
  rcases h.2 with h0 | ⟨g, cap, cur, rfl, h5, h1, rest⟩
  · exact .inl h0
  · exact .inr ⟨g, cap, cur, rfl, h5, by rw [only_get, h1, Option.map_some, if_pos (hS g rfl)], rest⟩
theorem unonly_owns {w : World} {base : Nat} {e : TypeId} {size n : Nat} {v : Value} {xs : List Value} {S : Nat → Bool} (h : (only w S).ownsRow base e size v n xs) (he : e ≠ 0) : w.ownsRow base e size v n xs := by
  refine ⟨h.1, ?_⟩
  rcases h.2 with h0 | ⟨g, cap, cur, rfl, h5, h1, rest⟩
  · exact .inl h0
  · refine .inr ⟨g, cap, cur, rfl, h5, ?_, rest⟩
    rw [only_get] at h1
    obtain ⟨o, ho, h2⟩ := Option.map_eq_some_iff.1 h1
    split at h2
    · rw [ho, h2]
    · injection h2 with h3 h4; exact absurd h4.symm he
theorem only_set (w : World) (S : Nat → Bool) (p : Addr) (v : Value) (hS : S p.block = false) (k : Nat) : (only (w.setCell p v) S).heap[k]? = (only w S).heap[k]? := by
  rw [only_get, only_get]
  by_cases hk : k = p.block
  · subst hk
    rw [hS]
    have h : (w.setCell p v).heap[p.block]?.isSome = w.heap[p.block]?.isSome := by
      simp only [World.setCell, Array.getElem?_modify]
      simp
    cases h1 : w.heap[p.block]? with
    | none => rw [h1] at h; cases h2 : (w.setCell p v).heap[p.block]? with
      | none => rfl
      | some o => rw [h2] at h; cases h
    | some o => rw [h1] at h; cases h2 : (w.setCell p v).heap[p.block]? with
      | none => rw [h2] at h; cases h
      | some o' => rfl
  · rw [Below.heap_setCell _ _ _ _ hk]
theorem TermIn.unonly {S X : Nat → Bool} {w : World} {v : Value} {t : T} (h : TermIn S (only w X) v t) : TermIn S w v t :=
  TermAt.keep h fun p hp => by
    rw [cell_only] at hp ⊢
    rw [cell_only]
    split at hp
    · rename_i hS
      rw [if_pos hS]
      rw [cell_only] at hp ⊢
      split at hp
      · rename_i hX; rw [if_pos hX]; simp [hS]
      · cases hp
    · cases hp
theorem TermsRow.unonly {w : World} {X : Nat → Bool} {base : Nat} {v : Value} {L : List T} (h : TermsRow (only w X) base v L) : TermsRow w base v L := by
  rcases h with h | ⟨g, cap, rfl, cur, h1, h2, h3, h4, h5, h6⟩
  · exact .inl h
  · refine .inr ⟨g, cap, rfl, cur, ?_, h2, h3, h4, h5, fun i hi => ?_⟩
    · rw [only_get] at h1
      obtain ⟨o, ho, h2⟩ := Option.map_eq_some_iff.1 h1
      split at h2
      · rw [ho, h2]
      · injection h2 with h3 h4; exact absurd h4 (by decide)
    · obtain ⟨u0, u1, u2, a, b, c, d⟩ := h6 i hi
      exact ⟨u0, u1, u2, a, b, c, d.unonly⟩
/-- All blocks but x. -/
def notB (x : Nat) : Nat → Bool := fun b => !(b == x)
theorem notB_iff {x b : Nat} : notB x b = true ↔ b ≠ x := by unfold notB; simp
theorem notB_self (x : Nat) : notB x x = false := by unfold notB; simp

namespace T
/-- What is left to read behind c kids. -/
def after (l : List UInt8) (f n c m : Nat) : Option (Except Nat (List T × Nat)) :=
  if (0 < n ∧ c = n) ∨ (n = 0 ∧ now l m 44 = false) then some (.ok ([], m))
  else match need l [44, 32] m with
    | .error e => some (.error e)
    | .ok j => pkids l f n c j
theorem pkids_after (l : List UInt8) (f n c i : Nat) (t : T) (j : Nat) (h : pterm l f i = some (.ok (t, j))) : pkids l (f + 1) n c i = more t (after l f n (c + 1) j) := by
  simp only [pkids, h, after]
  split
  · rfl
  · cases need l [44, 32] j <;> rfl
end T
end Go.Proofs.YtihbmgkbipeakaaGreat

namespace Go.Proofs.YtihbmgkbipeakaaGreat
open Go.RowKit

set_option maxRecDepth 100000 in
set_option maxHeartbeats 4000000 in
theorem rpname (g i : Nat) (s : ByteArray) (w : World) (h : PBox 133 w g s i false) (hi : i ≤ s.size) (hs : s.size ≤ 4096) :
    Calls Tryz.prog 151 #[.pointer (some ⟨g, 0, none⟩)] w (NameEnds 133 g i s w) := by
  obtain ⟨x0, x1, x2⟩ := h.cells
  have HW := Lib.hid h; clear h
  go_enter Tryz.func151, Tryz.ntmps151
  go_wp2_with fail
  clear x0 x1 x2
  go_loopg [] 16 (fun n wr => ∃ m : Nat, n + m = 16 + i ∧ n ≤ 16 ∧ m ≤ s.size ∧ T.nameEnd s.data.toList i = T.nameRun s.data.toList i n m ∧ PBox 133 wr g s m false ∧ w.grownBy wr (some g))
  case atStart => exact ⟨i, by omega, Nat.le_refl _, hi, rfl, HW.out, grown_refl _ _⟩
  case round =>
    obtain ⟨m, hnm, hn16, hms, hend, hp, hg⟩ := hrel
    obtain ⟨x0, x1, x2⟩ := hp.cells
    obtain ⟨f0, f1, f2⟩ := hp.free
    obtain ⟨d, hd⟩ : ∃ d, m = i + d := ⟨m - i, by omega⟩
    have q1 : IntKind.i64.wrap ((m : Int) - (i : Int)) = (d : Int) := by rw [IntWalk.i64_in _ (by omega)]; omega
    have HP := Lib.hid hp; have HG := Lib.hid hg
    have hcase : ((gk = 0 ∨ s.size ≤ m ∨ T.nameOk s.data.toList i m = false) ∧ T.nameEnd s.data.toList i = m) ∨ (∃ n, gk = n + 1 ∧ m < s.size ∧ T.nameOk s.data.toList i m = true ∧ T.nameEnd s.data.toList i = T.nameRun s.data.toList i n (m + 1)) := by
      cases gk with
      | zero => left; exact ⟨.inl rfl, hend⟩
      | succ n =>
        simp only [T.nameRun] at hend
        split at hend
        · rename_i hh
          right; exact ⟨n, rfl, by have := hh.1; simpa using this, hh.2, hend⟩
        · rename_i hh
          left
          refine ⟨.inr ?_, hend⟩
          rcases Nat.lt_or_ge m s.size with g1 | g1
          · right
            rw [Bool.eq_false_iff]; intro hb; exact hh ⟨by simpa using g1, hb⟩
          · left; exact g1
    have HD := Lib.hid hd; have HNM := Lib.hid hnm; have HMS := Lib.hid hms
    have h3 : (0 : Int) ≤ (m : Int) := by omega
    clear hp hg hend hd
    rcases hcase with ⟨hstop, hE⟩ | ⟨n, hgn, hlt, hok, hE⟩
    · have HE := Lib.hid hE
      have hst : s.size ≤ m ∨ (m < s.size ∧ d = 16) ∨ (m < s.size ∧ d < 16 ∧ T.low s[m]! = false ∧ i = m) ∨ (m < s.size ∧ d < 16 ∧ T.low s[m]! = false ∧ i < m ∧ T.dig s[m]! = false) := by
        rcases Nat.lt_or_ge m s.size with g1 | g1
        · right
          have hbang : s[m]! = s[m] := getElem!_pos s m g1
          rcases hstop with h | h | h
          · left; have := HD.out; exact ⟨g1, by omega⟩
          · omega
          · rw [T.nameOk_at s i m g1, Bool.or_eq_false_iff] at h
            obtain ⟨a, b⟩ := h
            by_cases d16 : d = 16
            · left; exact ⟨g1, d16⟩
            · right
              have hd' := HD.out
              by_cases hz : i = m
              · left; exact ⟨g1, by omega, by rw [hbang]; exact a, hz⟩
              · right
                rw [decide_eq_true (show i < m by omega), Bool.true_and] at b
                exact ⟨g1, by omega, by rw [hbang]; exact a, by omega, by rw [hbang]; exact b⟩
        · left; exact g1
      clear hstop hE hnm hn16 hms
      have hfin : ∀ nq, PBox 133 (wr.drewN nq) g s m false ∧ w.grownBy (wr.drewN nq) (some g) := fun nq => ⟨HP.out.drewN nq, grown_drewN HG.out nq⟩
      have HFIN := Lib.hid hfin; clear hfin
      rcases hst with g1 | ⟨g1, g2⟩ | ⟨g1, g2, g3, g4⟩ | ⟨g1, g2, g3, g4, g5⟩
      · have a1 : (s.size : Int) ≤ (m : Int) := by omega
        have a2 : decide ((m : Int) < (s.size : Int)) = false := decide_eq_false (by omega)
        have a3 : decide (m < s.size) = false := decide_eq_false (by omega)
        go_upto_region 2 with fail
        go_quiet (fail)
        go_upto_region 4 with fail
        obtain ⟨hp9, hg9⟩ := HFIN.out nq
        generalize wr.drewN nq = w9 at hp9 hg9 ⊢
        obtain ⟨y0, y1, y2⟩ := hp9.cells
        obtain ⟨k0, k1, k2⟩ := hp9.free
        have HP9 := Lib.hid hp9; have HG9 := Lib.hid hg9
        clear hp9 hg9 x0 x1 x2 f0 f1 f2
        by_cases hmi : m = i
        · have e1 : ((m : Int) == (i : Int)) = true := by rw [hmi]; simp
          have HMI := Lib.hid hmi
          have hp8 := HP9.out.set2 true
          have hg8 := grown_set HG9.out 2 (.bool true)
          clear hmi
          go_upto_region 6 with fail
          generalize w9.setCell ⟨g, 2, none⟩ (.bool true) = w8 at hp8 hg8 ⊢
          obtain ⟨z0, z1, z2⟩ := hp8.cells
          have HP8 := Lib.hid hp8; have HG8 := Lib.hid hg8
          have l1 : (i : Int) ≤ (m : Int) := by have := HMI.out; omega
          have l2 : (m : Int) ≤ (s.size : Int) := by have := HMS.out; omega
          have l3 : (0 : Int) ≤ (i : Int) := by omega
          clear hp8 hg8 y0 y1 y2 k0 k1 k2
          go_quiet (fail)
          go_wp2_with fail
          go_ret
          refine ⟨grown_drewN HG8.out nq, .inl ⟨by rw [HE.out, HMI.out], ret_str (str_eq (by rw [HMI.out, Lib.extract_data]; simp)), by have := HP8.out.drewN nq; rw [HMI.out] at this; exact this⟩⟩
        · have e1 : ((m : Int) == (i : Int)) = false := by rw [beq_eq_false_iff_ne]; omega
          have HMI := Lib.hid hmi
          have l1 : (i : Int) ≤ (m : Int) := by have := HD.out; omega
          have l2 : (m : Int) ≤ (s.size : Int) := by have := HMS.out; omega
          have l3 : (0 : Int) ≤ (i : Int) := by omega
          clear hmi
          go_upto_region 6 with fail
          go_quiet (fail)
          go_wp2_with fail
          go_ret
          exact ⟨grown_drewN HG9.out nq, .inr ⟨by rw [HE.out]; exact HMI.out, ret_str (by rw [HE.out]; exact T.extract_name s i m), by rw [HE.out]; exact HP9.out.drewN nq⟩⟩
      · have a1 : (m : Int) < (s.size : Int) := by omega
        have a2 : decide ((d : Int) < 16) = false := decide_eq_false (by omega)
        have a3 : decide (d < 16) = false := decide_eq_false (by omega)
        go_upto_region 2 with fail
        go_quiet (fail)
        go_upto_region 4 with fail
        obtain ⟨hp9, hg9⟩ := HFIN.out nq
        generalize wr.drewN nq = w9 at hp9 hg9 ⊢
        obtain ⟨y0, y1, y2⟩ := hp9.cells
        obtain ⟨k0, k1, k2⟩ := hp9.free
        have HP9 := Lib.hid hp9; have HG9 := Lib.hid hg9
        clear hp9 hg9 x0 x1 x2 f0 f1 f2
        by_cases hmi : m = i
        · have e1 : ((m : Int) == (i : Int)) = true := by rw [hmi]; simp
          have HMI := Lib.hid hmi
          have hp8 := HP9.out.set2 true
          have hg8 := grown_set HG9.out 2 (.bool true)
          clear hmi
          go_upto_region 6 with fail
          generalize w9.setCell ⟨g, 2, none⟩ (.bool true) = w8 at hp8 hg8 ⊢
          obtain ⟨z0, z1, z2⟩ := hp8.cells
          have HP8 := Lib.hid hp8; have HG8 := Lib.hid hg8
          have l1 : (i : Int) ≤ (m : Int) := by have := HMI.out; omega
          have l2 : (m : Int) ≤ (s.size : Int) := by have := HMS.out; omega
          have l3 : (0 : Int) ≤ (i : Int) := by omega
          clear hp8 hg8 y0 y1 y2 k0 k1 k2
          go_quiet (fail)
          go_wp2_with fail
          go_ret
          refine ⟨grown_drewN HG8.out nq, .inl ⟨by rw [HE.out, HMI.out], ret_str (str_eq (by rw [HMI.out, Lib.extract_data]; simp)), by have := HP8.out.drewN nq; rw [HMI.out] at this; exact this⟩⟩
        · have e1 : ((m : Int) == (i : Int)) = false := by rw [beq_eq_false_iff_ne]; omega
          have HMI := Lib.hid hmi
          have l1 : (i : Int) ≤ (m : Int) := by have := HD.out; omega
          have l2 : (m : Int) ≤ (s.size : Int) := by have := HMS.out; omega
          have l3 : (0 : Int) ≤ (i : Int) := by omega
          clear hmi
          go_upto_region 6 with fail
          go_quiet (fail)
          go_wp2_with fail
          go_ret
          exact ⟨grown_drewN HG9.out nq, .inr ⟨by rw [HE.out]; exact HMI.out, ret_str (by rw [HE.out]; exact T.extract_name s i m), by rw [HE.out]; exact HP9.out.drewN nq⟩⟩
      · have a1 : (m : Int) < (s.size : Int) := by omega
        have a2 : (d : Int) < 16 := by omega
        have a4 : decide ((i : Int) < (m : Int)) = false := decide_eq_false (by omega)
        have a5 : decide (i < m) = false := decide_eq_false (by omega)
        have hb := u8_le s[m]
        rw [getElem!_pos s m g1] at g3
        have G3 := Lib.hid g3
        clear g3 g4
        go_upto_region 2 with fail
        go_quiet ((go_at_call 112; exact quiet_any (rletter _ _ hb.1 hb.2 false G3.out)))
        go_upto_region 4 with fail
        obtain ⟨hp9, hg9⟩ := HFIN.out nq
        generalize wr.drewN nq = w9 at hp9 hg9 ⊢
        obtain ⟨y0, y1, y2⟩ := hp9.cells
        obtain ⟨k0, k1, k2⟩ := hp9.free
        have HP9 := Lib.hid hp9; have HG9 := Lib.hid hg9
        clear hp9 hg9 x0 x1 x2 f0 f1 f2
        by_cases hmi : m = i
        · have e1 : ((m : Int) == (i : Int)) = true := by rw [hmi]; simp
          have HMI := Lib.hid hmi
          have hp8 := HP9.out.set2 true
          have hg8 := grown_set HG9.out 2 (.bool true)
          clear hmi
          go_upto_region 6 with fail
          generalize w9.setCell ⟨g, 2, none⟩ (.bool true) = w8 at hp8 hg8 ⊢
          obtain ⟨z0, z1, z2⟩ := hp8.cells
          have HP8 := Lib.hid hp8; have HG8 := Lib.hid hg8
          have l1 : (i : Int) ≤ (m : Int) := by have := HMI.out; omega
          have l2 : (m : Int) ≤ (s.size : Int) := by have := HMS.out; omega
          have l3 : (0 : Int) ≤ (i : Int) := by omega
          clear hp8 hg8 y0 y1 y2 k0 k1 k2
          go_quiet (fail)
          go_wp2_with fail
          go_ret
          refine ⟨grown_drewN HG8.out nq, .inl ⟨by rw [HE.out, HMI.out], ret_str (str_eq (by rw [HMI.out, Lib.extract_data]; simp)), by have := HP8.out.drewN nq; rw [HMI.out] at this; exact this⟩⟩
        · have e1 : ((m : Int) == (i : Int)) = false := by rw [beq_eq_false_iff_ne]; omega
          have HMI := Lib.hid hmi
          have l1 : (i : Int) ≤ (m : Int) := by have := HD.out; omega
          have l2 : (m : Int) ≤ (s.size : Int) := by have := HMS.out; omega
          have l3 : (0 : Int) ≤ (i : Int) := by omega
          clear hmi
          go_upto_region 6 with fail
          go_quiet (fail)
          go_wp2_with fail
          go_ret
          exact ⟨grown_drewN HG9.out nq, .inr ⟨by rw [HE.out]; exact HMI.out, ret_str (by rw [HE.out]; exact T.extract_name s i m), by rw [HE.out]; exact HP9.out.drewN nq⟩⟩
      · have a1 : (m : Int) < (s.size : Int) := by omega
        have a2 : (d : Int) < 16 := by omega
        have a4 : decide ((i : Int) < (m : Int)) = true := decide_eq_true (by omega)
        have a5 : decide (i < m) = true := decide_eq_true (by omega)
        have a6 : (i : Int) < (m : Int) := by omega
        have hb := u8_le s[m]
        rw [getElem!_pos s m g1] at g3 g5
        have G3 := Lib.hid g3; have G5 := Lib.hid g5
        clear g3 g5
        have h57 : (s[m].toNat : Int) < 48 ∨ (48 ≤ (s[m].toNat : Int) ∧ 57 < (s[m].toNat : Int)) := by have h := G5.out; rw [← T.dig_dec] at h; simp at h; omega
        rcases h57 with h57 | ⟨h57, h58⟩
        · have b1 : decide (48 ≤ (s[m].toNat : Int)) = false := decide_eq_false (by omega)
          go_upto_region 2 with fail
          go_quiet ((go_at_call 112; exact quiet_any (rletter _ _ hb.1 hb.2 false G3.out)))
          go_upto_region 4 with fail
          obtain ⟨hp9, hg9⟩ := HFIN.out nq
          generalize wr.drewN nq = w9 at hp9 hg9 ⊢
          obtain ⟨y0, y1, y2⟩ := hp9.cells
          obtain ⟨k0, k1, k2⟩ := hp9.free
          have HP9 := Lib.hid hp9; have HG9 := Lib.hid hg9
          clear hp9 hg9 x0 x1 x2 f0 f1 f2
          by_cases hmi : m = i
          · have e1 : ((m : Int) == (i : Int)) = true := by rw [hmi]; simp
            have HMI := Lib.hid hmi
            have hp8 := HP9.out.set2 true
            have hg8 := grown_set HG9.out 2 (.bool true)
            clear hmi
            go_upto_region 6 with fail
            generalize w9.setCell ⟨g, 2, none⟩ (.bool true) = w8 at hp8 hg8 ⊢
            obtain ⟨z0, z1, z2⟩ := hp8.cells
            have HP8 := Lib.hid hp8; have HG8 := Lib.hid hg8
            have l1 : (i : Int) ≤ (m : Int) := by have := HMI.out; omega
            have l2 : (m : Int) ≤ (s.size : Int) := by have := HMS.out; omega
            have l3 : (0 : Int) ≤ (i : Int) := by omega
            clear hp8 hg8 y0 y1 y2 k0 k1 k2
            go_quiet (fail)
            go_wp2_with fail
            go_ret
            refine ⟨grown_drewN HG8.out nq, .inl ⟨by rw [HE.out, HMI.out], ret_str (str_eq (by rw [HMI.out, Lib.extract_data]; simp)), by have := HP8.out.drewN nq; rw [HMI.out] at this; exact this⟩⟩
          · have e1 : ((m : Int) == (i : Int)) = false := by rw [beq_eq_false_iff_ne]; omega
            have HMI := Lib.hid hmi
            have l1 : (i : Int) ≤ (m : Int) := by have := HD.out; omega
            have l2 : (m : Int) ≤ (s.size : Int) := by have := HMS.out; omega
            have l3 : (0 : Int) ≤ (i : Int) := by omega
            clear hmi
            go_upto_region 6 with fail
            go_quiet (fail)
            go_wp2_with fail
            go_ret
            exact ⟨grown_drewN HG9.out nq, .inr ⟨by rw [HE.out]; exact HMI.out, ret_str (by rw [HE.out]; exact T.extract_name s i m), by rw [HE.out]; exact HP9.out.drewN nq⟩⟩
        · have b1 : decide (48 ≤ (s[m].toNat : Int)) = true := decide_eq_true (by omega)
          have b2 : decide ((s[m].toNat : Int) ≤ 57) = false := decide_eq_false (by omega)
          go_upto_region 2 with fail
          go_quiet ((go_at_call 112; exact quiet_any (rletter _ _ hb.1 hb.2 false G3.out)))
          go_upto_region 4 with fail
          obtain ⟨hp9, hg9⟩ := HFIN.out nq
          generalize wr.drewN nq = w9 at hp9 hg9 ⊢
          obtain ⟨y0, y1, y2⟩ := hp9.cells
          obtain ⟨k0, k1, k2⟩ := hp9.free
          have HP9 := Lib.hid hp9; have HG9 := Lib.hid hg9
          clear hp9 hg9 x0 x1 x2 f0 f1 f2
          by_cases hmi : m = i
          · have e1 : ((m : Int) == (i : Int)) = true := by rw [hmi]; simp
            have HMI := Lib.hid hmi
            have hp8 := HP9.out.set2 true
            have hg8 := grown_set HG9.out 2 (.bool true)
            clear hmi
            go_upto_region 6 with fail
            generalize w9.setCell ⟨g, 2, none⟩ (.bool true) = w8 at hp8 hg8 ⊢
            obtain ⟨z0, z1, z2⟩ := hp8.cells
            have HP8 := Lib.hid hp8; have HG8 := Lib.hid hg8
            have l1 : (i : Int) ≤ (m : Int) := by have := HMI.out; omega
            have l2 : (m : Int) ≤ (s.size : Int) := by have := HMS.out; omega
            have l3 : (0 : Int) ≤ (i : Int) := by omega
            clear hp8 hg8 y0 y1 y2 k0 k1 k2
            go_quiet (fail)
            go_wp2_with fail
            go_ret
            refine ⟨grown_drewN HG8.out nq, .inl ⟨by rw [HE.out, HMI.out], ret_str (str_eq (by rw [HMI.out, Lib.extract_data]; simp)), by have := HP8.out.drewN nq; rw [HMI.out] at this; exact this⟩⟩
          · have e1 : ((m : Int) == (i : Int)) = false := by rw [beq_eq_false_iff_ne]; omega
            have HMI := Lib.hid hmi
            have l1 : (i : Int) ≤ (m : Int) := by have := HD.out; omega
            have l2 : (m : Int) ≤ (s.size : Int) := by have := HMS.out; omega
            have l3 : (0 : Int) ≤ (i : Int) := by omega
            clear hmi
            go_upto_region 6 with fail
            go_quiet (fail)
            go_wp2_with fail
            go_ret
            exact ⟨grown_drewN HG9.out nq, .inr ⟨by rw [HE.out]; exact HMI.out, ret_str (by rw [HE.out]; exact T.extract_name s i m), by rw [HE.out]; exact HP9.out.drewN nq⟩⟩
    · have HE := Lib.hid hE
      rw [T.nameOk_at s i m hlt] at hok
      have hd' := HD.out
      have a1 : (m : Int) < (s.size : Int) := by omega
      have a2 : (d : Int) < 16 := by omega
      have hb := u8_le s[m]
      have HLT := Lib.hid hlt
      have HGN := Lib.hid hgn
      have HN6 := Lib.hid hn16
      clear hE hd' hnm hn16 hms hgn
      have hl : T.low (s[m]'hlt) = true ∨ (T.low (s[m]'hlt) = false ∧ i < m ∧ T.dig (s[m]'hlt) = true) := by
        rcases Bool.eq_false_or_eq_true (T.low (s[m]'hlt)) with a | a
        · exact .inl a
        · right; rw [a, Bool.false_or, Bool.and_eq_true, decide_eq_true_eq] at hok; exact ⟨a, hok.1, hok.2⟩
      clear hok
      rcases hl with g3 | ⟨g3, hok1, hok2⟩
      · have G3 := Lib.hid g3
        clear g3
        go_upto_region 2 with fail
        go_quiet ((go_at_call 112; exact quiet_any (rletter _ _ hb.1 hb.2 true G3.out)))
        go_wp2_with fail
        go_roundg n
        case measure => have := HGN.out; omega
        case rel => exact ⟨m + 1, by have := HNM.out; have := HGN.out; omega, by have := HN6.out; have := HGN.out; omega, HLT.out, HE.out, (HP.out.drewN nq).set1 (m + 1) _ (by push_cast; rfl), grown_set (grown_drewN HG.out nq) _ _⟩
      · have a4 : decide ((i : Int) < (m : Int)) = true := decide_eq_true (by omega)
        have a5 : decide (i < m) = true := decide_eq_true (by omega)
        have a6 : (i : Int) < (m : Int) := by omega
        have G3 := Lib.hid g3; have G5 := Lib.hid hok2
        clear g3 hok2
        have h57 : 48 ≤ ((s[m]'hlt).toNat : Int) ∧ ((s[m]'hlt).toNat : Int) ≤ 57 := by have h := G5.out; rw [← T.dig_dec] at h; simp at h; omega
        obtain ⟨h57, h58⟩ := h57
        have b1 : decide (48 ≤ ((s[m]'hlt).toNat : Int)) = true := decide_eq_true (by omega)
        have b2 : decide (((s[m]'hlt).toNat : Int) ≤ 57) = true := decide_eq_true (by omega)
        go_upto_region 2 with fail
        go_quiet ((go_at_call 112; exact quiet_any (rletter _ _ hb.1 hb.2 false G3.out)))
        go_wp2_with fail
        go_roundg n
        case measure => have := HGN.out; omega
        case rel => exact ⟨m + 1, by have := HNM.out; have := HGN.out; omega, by have := HN6.out; have := HGN.out; omega, HLT.out, HE.out, (HP.out.drewN nq).set1 (m + 1) _ (by push_cast; rfl), grown_set (grown_drewN HG.out nq) _ _⟩
end Go.Proofs.YtihbmgkbipeakaaGreat
