/- Chapter 40: the walk of the reference's Parse. -/
import Derived.Test.YtihbmgkbipeakaaGreatTermRTerm
import Derived.Test.YtihbmgkbipeakaaGreatTermPParse
namespace Go.Proofs.YtihbmgkbipeakaaGreat
open Go.RowKit

set_option maxRecDepth 100000 in
set_option maxHeartbeats 4000000 in
theorem rparse (s : ByteArray) (w : World) :
    Calls Tryz.prog 81 #[.string s] w (ParsePost (T.parse s) w) := by
  have hst1 := Box.new w (.int .i64 0) (.string ⟨#[]⟩) (.slice none 0 0)
  have hb1 := below_alloc1 w (.cells #[.int .i64 0, .string ⟨#[]⟩, .slice none 0 0] 29)
  have hz1' := size_alloc1 w (.cells #[.int .i64 0, .string ⟨#[]⟩, .slice none 0 0] 29)
  obtain ⟨p, hpar⟩ : ∃ p, T.parse s = p := ⟨_, rfl⟩
  rw [hpar]
  go_enter Tryz.func81, Tryz.ntmps81
  go_upto_region 1 with fail
  generalize w.alloc (.cells #[.int .i64 0, .string ⟨#[]⟩, .slice none 0 0] 29) = w1 at hst1 hb1 hz1' ⊢
  obtain ⟨x0, x1, x2⟩ := hst1.cells
  obtain ⟨f0, f1, f2⟩ := hst1.free
  have HBX := Lib.hid hst1; have HB := Lib.hid hb1; have HZ1 := Lib.hid hz1'
  clear hst1 hb1 hz1'
  have hzt : ∀ W, TermIn (from_ (w.heap.size + 1)) W (.agg #[.int .i64 0, .string ⟨#[]⟩, .slice none 0 0]) (.mk 0 ⟨#[]⟩ []) := fun W => atom_in _ _ 0 ⟨#[]⟩ (by decide) (by decide)
  have HZT := Lib.hid hzt; clear hzt
  by_cases hbig : 1024 < s.size
  · have hp : p = (.mk 0 ⟨#[]⟩ [], 0, 72) := by rw [← hpar]; unfold T.parse; rw [if_pos hbig]
    subst hp
    have h1 : (1024 : Int) < (s.size : Int) := by omega
    clear hpar
    go_wp2_with fail
    obtain ⟨d0, d1, d2⟩ := (box_set3 HBX.out (.int .i64 0) (.string ⟨#[]⟩) (.slice none 0 0)).cells
    refine bodyPost_ret (v := .tuple #[.agg #[.int .i64 0, .string ⟨#[]⟩, .slice none 0 0], .int .i64 0, .int .i64 72]) (by simp [results, Tryz.results81, go_sem, d0, d1, d2]) rfl ?_
    exact parse_ends HB.out (HZT.out _) rfl
  have h1 : (s.size : Int) ≤ 1024 := by omega
  obtain ⟨r, hr⟩ : ∃ r, T.pterm s.data.toList (2 * s.size + 1) 0 = some r := by
    cases h : T.pterm s.data.toList (2 * s.size + 1) 0 with
    | none => exact absurd h ((T.p_some s.data.toList _).1 0 (Nat.zero_le _) (by rw [T.size_len]; omega))
    | some r => exact ⟨r, rfl⟩
  have hpar2 : T.parseEnd s.size r = p := by rw [← hpar]; exact (T.parse_end s hbig r hr).symm
  have HR := Lib.hid hr; have HP := Lib.hid hpar2; have HS := Lib.hid (show s.size ≤ 1024 by omega)
  clear hr hpar hpar2 hbig
  go_wp2_with fail
  have hpb : PBox 133 (w1.alloc (.cells #[.string s, .int .i64 0, .bool false] 133)) w1.heap.size s 0 false := heap_alloc_new w1 _
  have hb2 := below_alloc1 w1 (.cells #[.string s, .int .i64 0, .bool false] 133)
  have hz2 := size_alloc1 w1 (.cells #[.string s, .int .i64 0, .bool false] 133)
  generalize w1.alloc (.cells #[.string s, .int .i64 0, .bool false] 133) = w2 at hpb hb2 hz2 ⊢
  have HPB := Lib.hid hpb; have HB2 := Lib.hid hb2; have HZ2 := Lib.hid hz2
  clear hpb hb2 hz2
  refine (rterm (2 * s.size + 1) (by have := HS.out; omega) w1.heap.size 0 s w2 r HPB.out (Nat.zero_le _) (by have := HS.out; omega) HR.out).mono ?_
  rintro e w3 ⟨hg3, hres⟩
  have HG3 := Lib.hid hg3
  have hbx3 := (HBX.out.later HB2.out).grown hg3 (fun e => by have e' := Option.some.inj e; have := HZ1.out; omega)
  have hb3 : Below w.heap.size w w3 := (HB.out.trans (HB2.out.mono HB.out.size)).grown hg3 (by have := HZ1.out; have := HZ2.out; omega) (fun k hk => by have e' := Option.some.inj hk; have := HZ1.out; omega)
  have HBX3 := Lib.hid hbx3; have HB3 := Lib.hid hb3
  clear hg3 hbx3 hb3 x0 x1 x2 f0 f1 f2
  rcases r with e4 | ⟨t, j⟩
  · obtain ⟨hp3, k0, nm, A3, n3, c3, rfl⟩ := hres
    have hp : p = (.mk 0 ⟨#[]⟩ [], e4, 71) := HP.out.symm
    subst hp
    have hp4 := hp3.later (below_alloc1 w3 (.cells #[.int .i64 k0, .string nm, .slice A3 n3 c3] 29))
    have hbx4 := HBX3.out.later (below_alloc1 w3 (.cells #[.int .i64 k0, .string nm, .slice A3 n3 c3] 29))
    have hb4 := HB3.out.trans ((below_alloc1 w3 (.cells #[.int .i64 k0, .string nm, .slice A3 n3 c3] 29)).mono HB3.out.size)
    clear hp3
    go_upto_region 5 with fail
    generalize w3.alloc (.cells #[.int .i64 k0, .string nm, .slice A3 n3 c3] 29) = w4 at hp4 hbx4 hb4 ⊢
    obtain ⟨x0, x1, x2⟩ := hp4.cells
    obtain ⟨z0, z1, z2⟩ := hbx4.cells
    obtain ⟨k0', k1', k2'⟩ := hbx4.free
    have HBX4 := Lib.hid hbx4; have HB4 := Lib.hid hb4
    clear hp4 hbx4 hb4
    have hne : w.heap.size ≠ w1.heap.size := by have := HZ1.out; omega
    have hne' : w1.heap.size ≠ w.heap.size := by have := HZ1.out; omega
    go_wp2_with fail
    go_region
    go_wp2_with fail
    obtain ⟨d0, d1, d2⟩ := (box_set3 HBX4.out (.int .i64 0) (.string ⟨#[]⟩) (.slice none 0 0)).cells
    refine bodyPost_ret (v := .tuple #[.agg #[.int .i64 0, .string ⟨#[]⟩, .slice none 0 0], .int .i64 e4, .int .i64 71]) (by simp [results, Tryz.results81, go_sem, d0, d1, d2]) rfl ?_
    exact (parse_ends HB4.out (HZT.out _) rfl).drew
  · obtain ⟨hp3, A3, c3, rfl, hti⟩ := hres
    have hjl := ((T.p_ok s.data.toList _).1 _ _ _ HR.out).2
    have HJL := Lib.hid (show j ≤ s.size ∧ t.bulk ≤ 1048576 by have h2 := T.size_len s; have := HS.out; omega)
    have hp4 := hp3.later (below_alloc1 w3 (.cells #[.int .i64 t.kind, .string t.name, .slice A3 t.kids.length c3] 29))
    have hbx4 := HBX3.out.later (below_alloc1 w3 (.cells #[.int .i64 t.kind, .string t.name, .slice A3 t.kids.length c3] 29))
    have hb4 := HB3.out.trans ((below_alloc1 w3 (.cells #[.int .i64 t.kind, .string t.name, .slice A3 t.kids.length c3] 29)).mono HB3.out.size)
    have hq4 := Box.new w3 (.int .i64 t.kind) (.string t.name) (.slice A3 t.kids.length c3)
    have hti4 := hti.keep (S' := from_ (w.heap.size + 1)) (w' := w3.alloc (.cells #[.int .i64 t.kind, .string t.name, .slice A3 t.kids.length c3] 29)) fun b hb hl => ⟨by have := of_decide_eq_true hb; have := HZ1.out; have := HZ2.out; exact decide_eq_true (by omega), Below.heap_alloc _ _ b hl⟩
    clear hp3 hti hjl
    go_upto_region 5 with fail
    generalize w3.alloc (.cells #[.int .i64 t.kind, .string t.name, .slice A3 t.kids.length c3] 29) = w4 at hp4 hbx4 hb4 hq4 hti4 ⊢
    obtain ⟨x0, x1, x2⟩ := hp4.cells
    obtain ⟨z0, z1, z2⟩ := hbx4.cells
    obtain ⟨k0', k1', k2'⟩ := hbx4.free
    obtain ⟨q0, q1, q2⟩ := hq4.cells
    have HBX4 := Lib.hid hbx4; have HB4 := Lib.hid hb4; have HQ4 := Lib.hid hq4; have HTI4 := Lib.hid hti4
    clear hp4 hbx4 hb4 hq4 hti4
    by_cases hjs : j < s.size
    · have hp : p = (.mk 0 ⟨#[]⟩ [], j, 71) := by have := HP.out; dsimp only [T.parseEnd] at this; rw [if_pos hjs] at this; exact this.symm
      subst hp
      have h2 : (j : Int) < (s.size : Int) := by omega
      have hne : w.heap.size ≠ w1.heap.size := by have := HZ1.out; omega
      have hne' : w1.heap.size ≠ w.heap.size := by have := HZ1.out; omega
      go_wp2_with fail
      go_region
      go_wp2_with fail
      obtain ⟨d0, d1, d2⟩ := (box_set3 HBX4.out (.int .i64 0) (.string ⟨#[]⟩) (.slice none 0 0)).cells
      refine bodyPost_ret (v := .tuple #[.agg #[.int .i64 0, .string ⟨#[]⟩, .slice none 0 0], .int .i64 j, .int .i64 71]) (by simp [results, Tryz.results81, go_sem, d0, d1, d2]) rfl ?_
      exact (parse_ends HB4.out (HZT.out _) rfl).drew
    have h2 : (s.size : Int) ≤ (j : Int) := by omega
    have hpv : (if t.valid = true then ((t, 0, 0) : T × Nat × Int) else (.mk 0 ⟨#[]⟩ [], 0, 76)) = p := by have := HP.out; dsimp only [T.parseEnd] at this; rw [if_neg hjs] at this; exact this
    have HPV := Lib.hid hpv
    obtain ⟨q, hq⟩ : ∃ q, t.valid = q := ⟨_, rfl⟩
    have HQ := Lib.hid hq
    clear hpv hq hjs
    cases q
    · have hp : p = (.mk 0 ⟨#[]⟩ [], 0, 76) := by have := HPV.out; rw [if_neg (by rw [HQ.out]; decide)] at this; exact this.symm
      subst hp
      go_wp2_with fail
      refine (rvalid t _ _ HTI4.out.at HJL.out.2 false 76 HQ.out (.inr ⟨rfl, rfl⟩)).mono ?_; rintro e w5 ⟨rfl, hb5⟩
      have hbx5 := HBX4.out.later hb5
      have HB5 := Lib.hid (HB4.out.trans (hb5.mono HB4.out.size)); have HBX5 := Lib.hid hbx5
      clear z0 z1 z2 k0' k1' k2' q0 q1 q2 x0 x1 x2 hb5
      obtain ⟨z0, z1, z2⟩ := hbx5.cells
      obtain ⟨k0', k1', k2'⟩ := hbx5.free
      clear hbx5
      go_wp2_with fail
      obtain ⟨d0, d1, d2⟩ := (box_set3 HBX5.out (.int .i64 0) (.string ⟨#[]⟩) (.slice none 0 0)).cells
      refine bodyPost_ret (v := .tuple #[.agg #[.int .i64 0, .string ⟨#[]⟩, .slice none 0 0], .int .i64 0, .int .i64 76]) (by simp [results, Tryz.results81, go_sem, d0, d1, d2]) rfl ?_
      exact parse_ends HB5.out (HZT.out _) rfl
    · have hp : p = (t, 0, 0) := by have := HPV.out; rw [if_pos HQ.out] at this; exact this.symm
      subst hp
      go_wp2_with fail
      refine (rvalid t _ _ HTI4.out.at HJL.out.2 true 0 HQ.out (.inl ⟨rfl, rfl⟩)).mono ?_; rintro e w5 ⟨rfl, hb5⟩
      have hbx5 := HBX4.out.later hb5
      have hq5 := HQ4.out.later hb5
      have HTI5 := Lib.hid (HTI4.out.keep (w' := w5) (S' := from_ (w.heap.size + 1)) fun b hb hl => ⟨hb, hb5.block b hl⟩)
      have HB5 := Lib.hid (HB4.out.trans (hb5.mono HB4.out.size)); have HBX5 := Lib.hid hbx5
      clear z0 z1 z2 k0' k1' k2' q0 q1 q2 x0 x1 x2 hb5
      obtain ⟨z0, z1, z2⟩ := hbx5.cells
      obtain ⟨k0', k1', k2'⟩ := hbx5.free
      obtain ⟨q0, q1, q2⟩ := hq5.cells
      clear hbx5 hq5
      go_wp2_with fail
      obtain ⟨d0, d1, d2⟩ := (box_set3 HBX5.out (.int .i64 t.kind) (.string t.name) (.slice A3 t.kids.length c3)).cells
      refine bodyPost_ret (v := .tuple #[.agg #[.int .i64 t.kind, .string t.name, .slice A3 t.kids.length c3], .int .i64 0, .int .i64 0]) (by simp [results, Tryz.results81, go_sem, d0, d1, d2]) rfl ?_
      exact parse_ends HB5.out HTI5.out rfl
end Go.Proofs.YtihbmgkbipeakaaGreat
