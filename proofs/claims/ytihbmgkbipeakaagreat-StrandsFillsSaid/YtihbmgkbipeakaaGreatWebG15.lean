/- Several texts in one: StrVal, StrPlain2. -/
import Derived.Test.YtihbmgkbipeakaaGreatWebG14
import Derived.Test.YtihbmgkbipeakaaGreatWebG0
import Derived.Test.YtihbmgkbipeakaaGreatWebG9
namespace Go.Proofs.YtihbmgkbipeakaaGreat
open Go.RowKit

attribute [local go_sem ↓] Go.wp_at_zero Go.wp_at_succ

theorem str_ne {a b : ByteArray} (h : ¬ a = b) : (a.toList == b.toList) = false := by
  rw [beq_eq_false_iff_ne]; exact fun e => h (T.ba_eq e)
def ValPost0 (r : Option T) (w0 w : World) (e : Ending) (w' : World) : Prop := Below w.heap.size w w' ∧ match r with
  | none => e = .returned (.tuple #[.agg #[.int .i64 0, .string ⟨#[]⟩, .slice none 0 0], .bool false])
  | some t => ∃ A c, e = .returned (.tuple #[.agg #[.int .i64 t.kind, .string t.name, .slice A t.kids.length c], .bool true]) ∧ TermAt w0 (.agg #[.int .i64 t.kind, .string t.name, .slice A t.kids.length c]) t
theorem look_drop {L : List Bd} {s : ByteArray} {j : Nat} (h : j < L.length) : T.look (L.drop j) s = if L[j].var = s then some L[j].t else T.look (L.drop (j + 1)) s := by
  rw [List.drop_eq_getElem_cons h]; rfl

set_option maxRecDepth 100000 in
set_option maxHeartbeats 4000000 in
theorem ovalue0 (s : ByteArray) (L : List Bd) (v : Value) (w0 w : World) (hv : BindsAt w0 v L) (hw0 : Below w0.heap.size w0 w) :
    Calls Tryz.prog 117 #[v, .string s] w (ValPost0 (T.look L s) w0 w) := by
  rcases Nat.eq_zero_or_pos L.length with h0 | h0
  · rcases hv with ⟨rfl, rfl⟩ | ⟨_, _, _, _, _, h1, _⟩
    · refine (value_nil s w).mono ?_
      rintro e w' ⟨h1, h2⟩
      exact ⟨h2, h1⟩
    · omega
  obtain ⟨A, cap, rfl, hc1, hc2⟩ := hv.shape
  have hb0 := Box.new w (.int .i64 0) (.string ⟨#[]⟩) (.slice none 0 0)
  have hw := below_alloc1 w (.cells #[.int .i64 0, .string ⟨#[]⟩, .slice none 0 0] 29)
  obtain ⟨n, hn⟩ : ∃ n, L.length = n := ⟨_, rfl⟩
  obtain ⟨R, hR⟩ : ∃ R, T.look L s = R := ⟨_, rfl⟩
  have HN := Lib.hid hn; have HR := Lib.hid hR
  rw [hn] at hv hc1 ⊢
  rw [hR]
  have HV := Lib.hid hv; have HW0 := Lib.hid hw0
  have hnb : n ≤ 9223372036854775807 := by unfold maxLen at hc2; omega
  clear hv hn hR h0 hw0
  go_enter Tryz.func117, Tryz.ntmps117
  go_upto_region 1 with fail
  generalize w.alloc (.cells #[.int .i64 0, .string ⟨#[]⟩, .slice none 0 0] 29) = w1 at hb0 hw ⊢
  have HB := Lib.hid hb0; have HW := Lib.hid hw
  clear hb0 hw
  go_wp2_with fail
  go_loopw [10] (fun i wr => ∃ j : Nat, j ≤ n ∧ i = .int .i64 j ∧ T.look (L.drop j) s = R ∧ Box wr w.heap.size (.int .i64 0) (.string ⟨#[]⟩) (.slice none 0 0) ∧ Below w.heap.size w wr) (fun i _ => n - (intOf i).toNat)
  case atStart => exact ⟨0, Nat.zero_le _, rfl, by rw [List.drop_zero]; exact HR.out, HB.out, HW.out⟩
  case round =>
    obtain ⟨j, hj, rfl, hl, hbx, hbw⟩ := hrel
    by_cases hlt : j < n
    · have hjl : j < L.length := by rw [HN.out]; exact hlt
      have hvr' := HV.out
      rw [← HN.out] at hvr'
      obtain ⟨b, off, B, c, rfl, d0', d1', d2', d3', ht, hsz⟩ := hvr'.get hjl
      rw [look_drop hjl] at hl
      obtain ⟨x, hx⟩ : ∃ x, L[j] = x := ⟨_, rfl⟩
      rw [hx] at d0' d1' d2' d3' ht hl
      have hbw' := HW0.out.trans (hbw.mono HW0.out.size)
      have d0 := cell_later hbw' d0'; have d1 := cell_later hbw' d1'; have d2 := cell_later hbw' d2'; have d3 := cell_later hbw' d3'
      have hi : (j : Int) < (n : Int) := by omega
      have hq := below_alloc1 wr (.cells #[.string x.var, .int .i64 x.t.kind, .string x.t.name, .slice B x.t.kids.length c] 66)
      have hnw := heap_alloc_new wr (.cells #[.string x.var, .int .i64 x.t.kind, .string x.t.name, .slice B x.t.kids.length c] 66)
      have HBX := Lib.hid (hbx.later hq); have HBW := Lib.hid (hbw.trans (hq.mono hbw.size)); have HT := Lib.hid ht; have HL := Lib.hid hl; have HLT := Lib.hid hlt
      clear hsz hbw'
      clear hbx hvr' hbw ht hl hx hq hjl hj d0' d1' d2' d3'
      go_upto_region 4 with fail
      generalize wr.alloc (.cells #[.string x.var, .int .i64 x.t.kind, .string x.t.name, .slice B x.t.kids.length c] 66) = w2 at hnw HBX HBW ⊢
      obtain ⟨g5, hg5⟩ : ∃ g5, wr.heap.size = g5 := ⟨_, rfl⟩
      rw [hg5] at hnw ⊢
      have y0 : w2.cell? ⟨g5, 0, none⟩ = some (.string x.var) := by unfold World.cell?; rw [hnw]; rfl
      have y1 : w2.cell? ⟨g5, 1, none⟩ = some (.int .i64 x.t.kind) := by unfold World.cell?; rw [hnw]; rfl
      have y2 : w2.cell? ⟨g5, 2, none⟩ = some (.string x.t.name) := by unfold World.cell?; rw [hnw]; rfl
      have y3 : w2.cell? ⟨g5, 3, none⟩ = some (.slice B x.t.kids.length c) := by unfold World.cell?; rw [hnw]; rfl
      clear hnw hg5 d0 d1 d2 d3
      by_cases hs : x.var = s
      · have hl := HL.out
        rw [if_pos hs] at hl
        subst hl
        subst hs
        obtain ⟨q0, q1, q2⟩ := HBX.out.cells
        obtain ⟨f0, f1, f2⟩ := HBX.out.free
        go_wp2_with fail
        obtain ⟨d0, d1, d2⟩ := (box_set3 HBX.out (.int .i64 x.t.kind) (.string x.t.name) (.slice B x.t.kids.length c)).cells
        refine bodyPost_ret (v := .tuple #[.agg #[.int .i64 x.t.kind, .string x.t.name, .slice B x.t.kids.length c], .bool true]) (by simp [results, Tryz.results117, go_sem, d0, d1, d2]) rfl ?_
        have hbf := ((HBW.out.setCell (p := ⟨w.heap.size, 0, none⟩) (Nat.le_refl _) (.int .i64 x.t.kind)).setCell (p := ⟨w.heap.size, 1, none⟩) (Nat.le_refl _) (.string x.t.name)).setCell (p := ⟨w.heap.size, 2, none⟩) (Nat.le_refl _) (.slice B x.t.kids.length c)
        exact ⟨hbf, B, c, rfl, HT.out⟩
      · have hl := HL.out
        rw [if_neg hs] at hl
        have hsn := str_ne hs
        go_wp2_with fail
        go_roundw
        case rel => exact ⟨j + 1, HLT.out, by go_num, hl, HBX.out, HBW.out⟩
        case measure => have := HLT.out; simp [intOf]; omega
    · obtain rfl : j = n := by omega
      have hl2 : R = none := by
        rw [← hl, List.drop_eq_nil_of_le (by rw [HN.out]; exact Nat.le_refl _)]; rfl
      subst hl2
      have hi : ¬ (j : Int) < (j : Int) := by omega
      have HBX := Lib.hid hbx; have HBW := Lib.hid hbw
      obtain ⟨q0, q1, q2⟩ := hbx.cells
      obtain ⟨f0, f1, f2⟩ := hbx.free
      clear hbx hbw
      go_wp2_with fail
      obtain ⟨d0, d1, d2⟩ := (box_set3 HBX.out (.int .i64 0) (.string ⟨#[]⟩) (.slice none 0 0)).cells
      refine bodyPost_ret (v := .tuple #[.agg #[.int .i64 0, .string ⟨#[]⟩, .slice none 0 0], .bool false]) (by simp [results, Tryz.results117, go_sem, d0, d1, d2]) rfl ?_
      exact ⟨((HBW.out.setCell (p := ⟨w.heap.size, 0, none⟩) (Nat.le_refl _) _).setCell (p := ⟨w.heap.size, 1, none⟩) (Nat.le_refl _) _).setCell (p := ⟨w.heap.size, 2, none⟩) (Nat.le_refl _) _, rfl⟩

theorem below_name (s : ByteArray) (w : World) (hs : s.size ≤ maxLen) : Calls Tryz.prog 58 #[.string s] w fun e w' => e = .returned (.bool (T.isName s)) ∧ Below w.heap.size w w' :=
  (oname s w hs).mono fun _ _ ⟨h1, h2⟩ => ⟨h1, h2 ▸ Below.refl _ _⟩
theorem proper_no {b : List Bd} {i : Nat} (hi : i < b.length) (h : T.properAt b i b[i] = false) : T.properB b = false := by
  rw [Bool.eq_false_iff]
  intro e
  rw [T.properB_at e hi] at h
  cases h
theorem proper_yes {b : List Bd} (h : ∀ i (hi : i < b.length), T.properAt b i b[i] = true) : T.properB b = true := by
  unfold T.properB
  rw [List.all_eq_true]
  intro i hi
  have hl := List.mem_range.1 hi
  rw [List.getElem?_eq_getElem hl]
  exact h i hl
theorem properAt_false1 {b : List Bd} {i : Nat} {x : Bd} (h : T.isName x.var = false) : T.properAt b i x = false := by unfold T.properAt; rw [h]; rfl
theorem properAt_false2 {b : List Bd} {i : Nat} {x : Bd} (h : x.t.ground = false) : T.properAt b i x = false := by unfold T.properAt T.use; rw [h]; simp
theorem properAt_false3 {b : List Bd} {i : Nat} {x : Bd} (h : x.t.isN = false) : T.properAt b i x = false := by unfold T.properAt T.use; rw [h]; simp
theorem properAt_zero {b : List Bd} {x : Bd} (h1 : T.isName x.var = true) (h2 : x.t.ground = true) (h3 : x.t.isN = true) : T.properAt b 0 x = true := by unfold T.properAt T.use; rw [h1, h2, h3]; rfl
theorem properAt_next {b : List Bd} {i m : Nat} {x y : Bd} (hm : i = m + 1) (hl : m < b.length) (hy : b[m] = y) (h1 : T.isName x.var = true) (h2 : x.t.ground = true) (h3 : x.t.isN = true) : T.properAt b i x = T.less y.var x.var := by
  subst hm
  unfold T.properAt T.use
  rw [h1, h2, h3, Nat.add_sub_cancel, List.getElem?_eq_getElem hl, hy]
  simp

set_option maxRecDepth 100000 in
set_option maxHeartbeats 8000000 in
theorem oproper (L : List Bd) (v : Value) (w : World) (hv : BindsAt w v L) (hb : ∀ x ∈ L, x.t.bulk ≤ 1048576) :
    Calls Tryz.prog 78 #[v] w fun e w' => e = .returned (.bool (T.properB L)) ∧ Below w.heap.size w w' := by
  rcases Nat.eq_zero_or_pos L.length with h0 | h0
  · rcases hv with ⟨rfl, rfl⟩ | ⟨_, _, _, _, _, h1, _⟩
    · refine (proper_nil w).mono ?_
      rintro e w' ⟨h1, rfl⟩
      exact ⟨h1, Below.refl _ _⟩
    · omega
  obtain ⟨A, cap, rfl, hc1, hc2⟩ := hv.shape
  obtain ⟨n, hn⟩ : ∃ n, L.length = n := ⟨_, rfl⟩
  obtain ⟨R, hR⟩ : ∃ R, T.properB L = R := ⟨_, rfl⟩
  have HN := Lib.hid hn; have HR := Lib.hid hR; have HB := Lib.hid hb
  rw [hn] at hv hc1 ⊢
  rw [hR]
  have HV := Lib.hid hv
  have hnb : n ≤ 9223372036854775807 := by unfold maxLen at hc2; omega
  clear hv hn hR h0 hb
  go_enter Tryz.func78, Tryz.ntmps78
  go_wp2_with fail
  go_loopw [7] (fun i wr => ∃ j : Nat, j ≤ n ∧ i = .int .i64 j ∧ (∀ k (hk : k < j) (hl : k < L.length), T.properAt L k L[k] = true) ∧ Below w.heap.size w wr) (fun i _ => n - (intOf i).toNat)
  case atStart => exact ⟨0, Nat.zero_le _, rfl, fun k hk => absurd hk (Nat.not_lt_zero _), Below.refl _ _⟩
  case round =>
    obtain ⟨j, hj, rfl, hl, hbw⟩ := hrel
    by_cases hlt : j < n
    · have hjl : j < L.length := by rw [HN.out]; exact hlt
      have hvr' := HV.out
      rw [← HN.out] at hvr'
      obtain ⟨b, off, B, c, rfl, d0', d1', d2', d3', ht, hsz⟩ := hvr'.get hjl
      have hbk := HB.out _ (List.getElem_mem hjl)
      have hno := fun h => proper_no hjl h
      have hgo := fun (h : T.properAt L j L[j] = true) => (show ∀ k (hk : k < j + 1) (hl : k < L.length), T.properAt L k L[k] = true from fun k hk hkl => by
        rcases Nat.lt_or_ge k j with g | g
        · exact hl k g hkl
        · obtain rfl : k = j := by omega
          exact h)
      have hpv : ∀ m, j = m + 1 → ∃ y : Bd, w.cell? ⟨b, off + m * 4, none⟩ = some (.string y.var) ∧ ∃ hm : m < L.length, L[m] = y := fun m hm => by
        have hml : m < L.length := by omega
        obtain ⟨b', off', B', c', e, e0, _⟩ := hvr'.get hml
        injection e with e; injection e with e1 e2; subst e1; subst e2
        exact ⟨L[m], e0, hml, rfl⟩
      rw [HR.out] at hno
      obtain ⟨x, hx⟩ : ∃ x, L[j] = x := ⟨_, rfl⟩
      rw [hx] at d0' d1' d2' d3' ht hbk hno hgo hsz
      have d0 := cell_later hbw d0'; have d1 := cell_later hbw d1'; have d2 := cell_later hbw d2'; have d3 := cell_later hbw d3'
      have hi : (j : Int) < (n : Int) := by omega
      have hq := below_alloc1 wr (.cells #[.string x.var, .int .i64 x.t.kind, .string x.t.name, .slice B x.t.kids.length c] 66)
      have hnw := heap_alloc_new wr (.cells #[.string x.var, .int .i64 x.t.kind, .string x.t.name, .slice B x.t.kids.length c] 66)
      have HBW := Lib.hid (hbw.trans (hq.mono hbw.size)); have HLT := Lib.hid hlt; have HNO := Lib.hid hno; have HGO := Lib.hid hgo; have HPV := Lib.hid hpv
      have HT := Lib.hid (ht.later HBW.out)
      have HNM := Lib.hid (fun W => below_name x.var W hsz); have HGR := Lib.hid (fun v' W hW => oground x.t v' W hW hbk); have HIS := Lib.hid (fun v' W hW => oisn x.t v' W hW hbk)
      have hf1 := properAt_false1 (b := L) (i := j) (x := x); have hf2 := properAt_false2 (b := L) (i := j) (x := x); have hf3 := properAt_false3 (b := L) (i := j) (x := x)
      have hf4 := properAt_zero (b := L) (x := x)
      have hf5 := fun m y hm hl' hy => properAt_next (b := L) (i := j) (m := m) (x := x) (y := y) hm hl' hy
      obtain ⟨q1, hq1⟩ : ∃ q, T.isName x.var = q := ⟨_, rfl⟩
      obtain ⟨q2, hq2⟩ : ∃ q, x.t.ground = q := ⟨_, rfl⟩
      obtain ⟨q3, hq3⟩ : ∃ q, x.t.isN = q := ⟨_, rfl⟩
      rw [hq1] at hf1 hf4 HNM; rw [hq2] at hf2 hf4 HGR; rw [hq3] at hf3 hf4 HIS
      rw [hq1, hq2, hq3] at hf5
      have HF1 := Lib.hid hf1; have HF2 := Lib.hid hf2; have HF3 := Lib.hid hf3; have HF4 := Lib.hid hf4; have HF5 := Lib.hid hf5
      clear hvr' hbw ht hl hx hq hjl hj d0' d1' d2' d3' hno hgo hpv hf1 hf2 hf3 hf4 hf5 hq1 hq2 hq3 hsz hbk
      go_upto_region 4 with fail
      generalize wr.alloc (.cells #[.string x.var, .int .i64 x.t.kind, .string x.t.name, .slice B x.t.kids.length c] 66) = w2 at hnw HBW HT ⊢
      obtain ⟨g5, hg5⟩ : ∃ g5, wr.heap.size = g5 := ⟨_, rfl⟩
      rw [hg5] at hnw ⊢
      have y0 : w2.cell? ⟨g5, 0, none⟩ = some (.string x.var) := by unfold World.cell?; rw [hnw]; rfl
      have y1 : w2.cell? ⟨g5, 1, none⟩ = some (.int .i64 x.t.kind) := by unfold World.cell?; rw [hnw]; rfl
      have y2 : w2.cell? ⟨g5, 2, none⟩ = some (.string x.t.name) := by unfold World.cell?; rw [hnw]; rfl
      have y3 : w2.cell? ⟨g5, 3, none⟩ = some (.slice B x.t.kids.length c) := by unfold World.cell?; rw [hnw]; rfl
      clear hnw hg5 d0 d1 d2 d3
      cases q1 with
      | false =>
        (refine wp_region_held_drew (S := (fun Wq => Wq.cell? ⟨g5, 0, none⟩ = some (.string x.var) ∧ Wq.cell? ⟨g5, 1, none⟩ = some (.int .i64 x.t.kind) ∧ Wq.cell? ⟨g5, 2, none⟩ = some (.string x.t.name) ∧ Wq.cell? ⟨g5, 3, none⟩ = some (.slice B x.t.kids.length c) ∧ Below w2.heap.size w2 Wq)) (by kernel_rfl) (show _ ∧ _ ∧ _ ∧ _ ∧ _ from ⟨y0, y1, y2, y3, (Below.refl _ w2).drew⟩) (fun hHeld => ?_))
        (refine tkJ 0 _ (h := ?_))
        (refine tkJ 1 _ (h := ?_))
        (refine rdJ 2 (h := fun K hK => ?_); go_simp; go_at_call 58; refine (HNM.out _).mono ?_; rintro e wz2 ⟨rfl, hb4⟩; refine shK hK (held4 hHeld hb4) (h := fun hHeld => ?_); clear hK K)
        (refine tkJ 3 _ (h := ?_))
        (refine tkJ 4 _ (h := ?_))
        (first | (refine tkJ 5 _ (h := ?_)) | (refine tkM 5 (h := ?_)))
        (first | (refine tkJ 6 _ (h := ?_)) | (refine tkM 6 (h := ?_)))
        (first | (refine tkJ 7 _ (h := ?_)) | (refine tkM 7 (h := ?_)))
        (first | (refine tkJ 8 _ (h := ?_)) | (refine tkM 8 (h := ?_)))
        (refine tkJ 9 _ (h := ?_))
        (refine tkJ 10 _ (h := ?_))
        (first | (refine tkJ 11 _ (h := ?_)) | (refine tkM 11 (h := ?_)))
        (first | (refine tkJ 12 _ (h := ?_)) | (refine tkM 12 (h := ?_)))
        (first | (refine tkJ 13 _ (h := ?_)) | (refine tkM 13 (h := ?_)))
        (first | (refine tkJ 14 _ (h := ?_)) | (refine tkM 14 (h := ?_)))
        (refine tkJ 15 _ (h := ?_))
        (refine tkJ 16 _ (h := ?_))
        (first | (refine tkJ 17 _ (h := ?_)) | (refine tkM 17 (h := ?_)))
        (first | (refine tkJ 18 _ (h := ?_)) | (refine tkM 18 (h := ?_)))
        (first | (refine tkJ 19 _ (h := ?_)) | (refine tkM 19 (h := ?_)))
        (first | (refine tkJ 20 _ (h := ?_)) | (refine tkM 20 (h := ?_)))
        (first | (refine tkJ 21 _ (h := ?_)) | (refine tkM 21 (h := ?_)))
        (first | (refine tkJ 22 _ (h := ?_)) | (refine tkM 22 (h := ?_)))
        (first | (refine tkJ 23 _ (h := ?_)) | (refine tkM 23 (h := ?_)))
        (first | (refine tkJ 24 _ (h := ?_)) | (refine tkM 24 (h := ?_)))
        (first | (refine tkJ 25 _ (h := ?_)) | (refine tkM 25 (h := ?_)))
        (first | (refine tkJ 26 _ (h := ?_)) | (refine tkM 26 (h := ?_)))
        (first | (refine tkJ 27 _ (h := ?_)) | (refine tkM 27 (h := ?_)))
        (first | (refine tkJ 28 _ (h := ?_)) | (refine tkM 28 (h := ?_)))
        (first | (refine tkJ 29 _ (h := ?_)) | (refine tkM 29 (h := ?_)))
        (refine tkJ 30 _ (h := ?_))
        (refine wpAnyH_done (by kernel_rfl) ?_ _)
        have HB4 := Lib.hid (HBW.out.trans (hHeld.2.2.2.2.mono HBW.out.size))
        obtain rfl : R = false := HNO.out (HF1.out rfl)
        clear y0 y1 y2 y3
        go_wp2_with fail
        go_ret
        exact ⟨rfl, HB4.out⟩
      | true =>
      cases q2 with
      | false =>
        (refine wp_region_held_drew (S := (fun Wq => Wq.cell? ⟨g5, 0, none⟩ = some (.string x.var) ∧ Wq.cell? ⟨g5, 1, none⟩ = some (.int .i64 x.t.kind) ∧ Wq.cell? ⟨g5, 2, none⟩ = some (.string x.t.name) ∧ Wq.cell? ⟨g5, 3, none⟩ = some (.slice B x.t.kids.length c) ∧ Below w2.heap.size w2 Wq)) (by kernel_rfl) (show _ ∧ _ ∧ _ ∧ _ ∧ _ from ⟨y0, y1, y2, y3, (Below.refl _ w2).drew⟩) (fun hHeld => ?_))
        (refine tkJ 0 _ (h := ?_))
        (refine tkJ 1 _ (h := ?_))
        (refine rdJ 2 (h := fun K hK => ?_); go_simp; go_at_call 58; refine (HNM.out _).mono ?_; rintro e wz2 ⟨rfl, hb4⟩; refine shK hK (held4 hHeld hb4) (h := fun hHeld => ?_); clear hK K)
        (refine tkJ 3 _ (h := ?_))
        (refine tkJ 4 _ (h := ?_))
        (first | (refine tkJ 5 _ (h := ?_)) | (refine tkM 5 (h := ?_)))
        (first | (refine tkJ 6 _ (h := ?_)) | (refine tkM 6 (h := ?_)))
        (refine rdJ 7 (h := fun K hK => ?_); go_simp; go_at_call 77; refine (HGR.out _ _ (HT.out.later hHeld.2.2.2.2)).mono ?_; rintro e wz3 ⟨rfl, hb4⟩; refine shK hK (held4 hHeld hb4) (h := fun hHeld => ?_); clear hK K)
        (first | (refine tkJ 8 _ (h := ?_)) | (refine tkM 8 (h := ?_)))
        (refine tkJ 9 _ (h := ?_))
        (refine tkJ 10 _ (h := ?_))
        (first | (refine tkJ 11 _ (h := ?_)) | (refine tkM 11 (h := ?_)))
        (first | (refine tkJ 12 _ (h := ?_)) | (refine tkM 12 (h := ?_)))
        (first | (refine tkJ 13 _ (h := ?_)) | (refine tkM 13 (h := ?_)))
        (first | (refine tkJ 14 _ (h := ?_)) | (refine tkM 14 (h := ?_)))
        (refine tkJ 15 _ (h := ?_))
        (refine tkJ 16 _ (h := ?_))
        (first | (refine tkJ 17 _ (h := ?_)) | (refine tkM 17 (h := ?_)))
        (first | (refine tkJ 18 _ (h := ?_)) | (refine tkM 18 (h := ?_)))
        (first | (refine tkJ 19 _ (h := ?_)) | (refine tkM 19 (h := ?_)))
        (first | (refine tkJ 20 _ (h := ?_)) | (refine tkM 20 (h := ?_)))
        (first | (refine tkJ 21 _ (h := ?_)) | (refine tkM 21 (h := ?_)))
        (first | (refine tkJ 22 _ (h := ?_)) | (refine tkM 22 (h := ?_)))
        (first | (refine tkJ 23 _ (h := ?_)) | (refine tkM 23 (h := ?_)))
        (first | (refine tkJ 24 _ (h := ?_)) | (refine tkM 24 (h := ?_)))
        (first | (refine tkJ 25 _ (h := ?_)) | (refine tkM 25 (h := ?_)))
        (first | (refine tkJ 26 _ (h := ?_)) | (refine tkM 26 (h := ?_)))
        (first | (refine tkJ 27 _ (h := ?_)) | (refine tkM 27 (h := ?_)))
        (first | (refine tkJ 28 _ (h := ?_)) | (refine tkM 28 (h := ?_)))
        (first | (refine tkJ 29 _ (h := ?_)) | (refine tkM 29 (h := ?_)))
        (refine tkJ 30 _ (h := ?_))
        (refine wpAnyH_done (by kernel_rfl) ?_ _)
        have HB4 := Lib.hid (HBW.out.trans (hHeld.2.2.2.2.mono HBW.out.size))
        obtain rfl : R = false := HNO.out (HF2.out rfl)
        clear y0 y1 y2 y3
        go_wp2_with fail
        go_ret
        exact ⟨rfl, HB4.out⟩
      | true =>
      cases q3 with
      | false =>
        (refine wp_region_held_drew (S := (fun Wq => Wq.cell? ⟨g5, 0, none⟩ = some (.string x.var) ∧ Wq.cell? ⟨g5, 1, none⟩ = some (.int .i64 x.t.kind) ∧ Wq.cell? ⟨g5, 2, none⟩ = some (.string x.t.name) ∧ Wq.cell? ⟨g5, 3, none⟩ = some (.slice B x.t.kids.length c) ∧ Below w2.heap.size w2 Wq)) (by kernel_rfl) (show _ ∧ _ ∧ _ ∧ _ ∧ _ from ⟨y0, y1, y2, y3, (Below.refl _ w2).drew⟩) (fun hHeld => ?_))
        (refine tkJ 0 _ (h := ?_))
        (refine tkJ 1 _ (h := ?_))
        (refine rdJ 2 (h := fun K hK => ?_); go_simp; go_at_call 58; refine (HNM.out _).mono ?_; rintro e wz2 ⟨rfl, hb4⟩; refine shK hK (held4 hHeld hb4) (h := fun hHeld => ?_); clear hK K)
        (refine tkJ 3 _ (h := ?_))
        (refine tkJ 4 _ (h := ?_))
        (first | (refine tkJ 5 _ (h := ?_)) | (refine tkM 5 (h := ?_)))
        (first | (refine tkJ 6 _ (h := ?_)) | (refine tkM 6 (h := ?_)))
        (refine rdJ 7 (h := fun K hK => ?_); go_simp; go_at_call 77; refine (HGR.out _ _ (HT.out.later hHeld.2.2.2.2)).mono ?_; rintro e wz3 ⟨rfl, hb4⟩; refine shK hK (held4 hHeld hb4) (h := fun hHeld => ?_); clear hK K)
        (first | (refine tkJ 8 _ (h := ?_)) | (refine tkM 8 (h := ?_)))
        (refine tkJ 9 _ (h := ?_))
        (refine tkJ 10 _ (h := ?_))
        (first | (refine tkJ 11 _ (h := ?_)) | (refine tkM 11 (h := ?_)))
        (first | (refine tkJ 12 _ (h := ?_)) | (refine tkM 12 (h := ?_)))
        (refine rdJ 13 (h := fun K hK => ?_); go_simp; go_at_call 59; refine (HIS.out _ _ (HT.out.later hHeld.2.2.2.2)).mono ?_; rintro e wz4 ⟨rfl, hb4⟩; refine shK hK (held4 hHeld hb4) (h := fun hHeld => ?_); clear hK K)
        (first | (refine tkJ 14 _ (h := ?_)) | (refine tkM 14 (h := ?_)))
        (refine tkJ 15 _ (h := ?_))
        (refine tkJ 16 _ (h := ?_))
        (first | (refine tkJ 17 _ (h := ?_)) | (refine tkM 17 (h := ?_)))
        (first | (refine tkJ 18 _ (h := ?_)) | (refine tkM 18 (h := ?_)))
        (first | (refine tkJ 19 _ (h := ?_)) | (refine tkM 19 (h := ?_)))
        (first | (refine tkJ 20 _ (h := ?_)) | (refine tkM 20 (h := ?_)))
        (first | (refine tkJ 21 _ (h := ?_)) | (refine tkM 21 (h := ?_)))
        (first | (refine tkJ 22 _ (h := ?_)) | (refine tkM 22 (h := ?_)))
        (first | (refine tkJ 23 _ (h := ?_)) | (refine tkM 23 (h := ?_)))
        (first | (refine tkJ 24 _ (h := ?_)) | (refine tkM 24 (h := ?_)))
        (first | (refine tkJ 25 _ (h := ?_)) | (refine tkM 25 (h := ?_)))
        (first | (refine tkJ 26 _ (h := ?_)) | (refine tkM 26 (h := ?_)))
        (first | (refine tkJ 27 _ (h := ?_)) | (refine tkM 27 (h := ?_)))
        (first | (refine tkJ 28 _ (h := ?_)) | (refine tkM 28 (h := ?_)))
        (first | (refine tkJ 29 _ (h := ?_)) | (refine tkM 29 (h := ?_)))
        (refine tkJ 30 _ (h := ?_))
        (refine wpAnyH_done (by kernel_rfl) ?_ _)
        have HB4 := Lib.hid (HBW.out.trans (hHeld.2.2.2.2.mono HBW.out.size))
        obtain rfl : R = false := HNO.out (HF3.out rfl)
        clear y0 y1 y2 y3
        go_wp2_with fail
        go_ret
        exact ⟨rfl, HB4.out⟩
      | true =>
      by_cases hj0 : j = 0
      · subst hj0
        (refine wp_region_held_drew (S := (fun Wq => Wq.cell? ⟨g5, 0, none⟩ = some (.string x.var) ∧ Wq.cell? ⟨g5, 1, none⟩ = some (.int .i64 x.t.kind) ∧ Wq.cell? ⟨g5, 2, none⟩ = some (.string x.t.name) ∧ Wq.cell? ⟨g5, 3, none⟩ = some (.slice B x.t.kids.length c) ∧ Below w2.heap.size w2 Wq)) (by kernel_rfl) (show _ ∧ _ ∧ _ ∧ _ ∧ _ from ⟨y0, y1, y2, y3, (Below.refl _ w2).drew⟩) (fun hHeld => ?_))
        (refine tkJ 0 _ (h := ?_))
        (refine tkJ 1 _ (h := ?_))
        (refine rdJ 2 (h := fun K hK => ?_); go_simp; go_at_call 58; refine (HNM.out _).mono ?_; rintro e wz2 ⟨rfl, hb4⟩; refine shK hK (held4 hHeld hb4) (h := fun hHeld => ?_); clear hK K)
        (refine tkJ 3 _ (h := ?_))
        (refine tkJ 4 _ (h := ?_))
        (first | (refine tkJ 5 _ (h := ?_)) | (refine tkM 5 (h := ?_)))
        (first | (refine tkJ 6 _ (h := ?_)) | (refine tkM 6 (h := ?_)))
        (refine rdJ 7 (h := fun K hK => ?_); go_simp; go_at_call 77; refine (HGR.out _ _ (HT.out.later hHeld.2.2.2.2)).mono ?_; rintro e wz3 ⟨rfl, hb4⟩; refine shK hK (held4 hHeld hb4) (h := fun hHeld => ?_); clear hK K)
        (first | (refine tkJ 8 _ (h := ?_)) | (refine tkM 8 (h := ?_)))
        (refine tkJ 9 _ (h := ?_))
        (refine tkJ 10 _ (h := ?_))
        (first | (refine tkJ 11 _ (h := ?_)) | (refine tkM 11 (h := ?_)))
        (first | (refine tkJ 12 _ (h := ?_)) | (refine tkM 12 (h := ?_)))
        (refine rdJ 13 (h := fun K hK => ?_); go_simp; go_at_call 59; refine (HIS.out _ _ (HT.out.later hHeld.2.2.2.2)).mono ?_; rintro e wz4 ⟨rfl, hb4⟩; refine shK hK (held4 hHeld hb4) (h := fun hHeld => ?_); clear hK K)
        (first | (refine tkJ 14 _ (h := ?_)) | (refine tkM 14 (h := ?_)))
        (refine tkJ 15 _ (h := ?_))
        (refine tkJ 16 _ (h := ?_))
        (first | (refine tkJ 17 _ (h := ?_)) | (refine tkM 17 (h := ?_)))
        (first | (refine tkJ 18 _ (h := ?_)) | (refine tkM 18 (h := ?_)))
        (first | (refine tkJ 19 _ (h := ?_)) | (refine tkM 19 (h := ?_)))
        (first | (refine tkJ 20 _ (h := ?_)) | (refine tkM 20 (h := ?_)))
        (first | (refine tkJ 21 _ (h := ?_)) | (refine tkM 21 (h := ?_)))
        (first | (refine tkJ 22 _ (h := ?_)) | (refine tkM 22 (h := ?_)))
        (first | (refine tkJ 23 _ (h := ?_)) | (refine tkM 23 (h := ?_)))
        (first | (refine tkJ 24 _ (h := ?_)) | (refine tkM 24 (h := ?_)))
        (first | (refine tkJ 25 _ (h := ?_)) | (refine tkM 25 (h := ?_)))
        (first | (refine tkJ 26 _ (h := ?_)) | (refine tkM 26 (h := ?_)))
        (first | (refine tkJ 27 _ (h := ?_)) | (refine tkM 27 (h := ?_)))
        (first | (refine tkJ 28 _ (h := ?_)) | (refine tkM 28 (h := ?_)))
        (first | (refine tkJ 29 _ (h := ?_)) | (refine tkM 29 (h := ?_)))
        (refine tkJ 30 _ (h := ?_))
        (refine wpAnyH_done (by kernel_rfl) ?_ _)
        have HB4 := Lib.hid (HBW.out.trans (hHeld.2.2.2.2.mono HBW.out.size))
        have HGG := Lib.hid (HGO.out (HF4.out rfl rfl rfl))
        clear y0 y1 y2 y3
        go_wp2_with fail
        go_roundw
        case rel => exact ⟨0 + 1, HLT.out, by go_num, HGG.out, HB4.out⟩
        case measure => have := HLT.out; simp [intOf]; omega
      · obtain ⟨m, hm⟩ : ∃ m, j = m + 1 := ⟨j - 1, by omega⟩
        obtain ⟨y, e0', hml, hy⟩ := HPV.out m hm
        have e0 := cell_later HBW.out e0'
        have hpa := HF5.out m y hm hml hy rfl rfl rfl
        have hj0' : 0 < j := by omega
        have hj1 : (0 : Int) < (j : Int) := by omega
        have hwr : IntKind.i64.wrap ((j : Int) - 1) = (m : Int) := by rw [IntWalk.i64_in _ (by omega)]; omega
        have hm1 : (0 : Int) ≤ (m : Int) := by omega
        have hm2 : (m : Int) < (n : Int) := by omega
        obtain ⟨q4, hq4⟩ : ∃ q, T.less y.var x.var = q := ⟨_, rfl⟩
        rw [hq4] at hpa
        have hq5 : Op.bytesLess y.var.toList x.var.toList = q4 := hq4
        have HPA := Lib.hid hpa
        clear hpa hq4 hm hml hy e0'
        cases q4 with
        | false =>
          (refine wp_region_held_drew (S := (fun Wq => Wq.cell? ⟨b, off + m * 4, none⟩ = some (.string y.var) ∧ Wq.cell? ⟨g5, 0, none⟩ = some (.string x.var) ∧ Wq.cell? ⟨g5, 1, none⟩ = some (.int .i64 x.t.kind) ∧ Wq.cell? ⟨g5, 2, none⟩ = some (.string x.t.name) ∧ Wq.cell? ⟨g5, 3, none⟩ = some (.slice B x.t.kids.length c) ∧ Below w2.heap.size w2 Wq)) (by kernel_rfl) (show _ ∧ _ ∧ _ ∧ _ ∧ _ ∧ _ from ⟨e0, y0, y1, y2, y3, (Below.refl _ w2).drew⟩) (fun hHeld => ?_))
          (refine tkJ 0 _ (h := ?_))
          (refine tkJ 1 _ (h := ?_))
          (refine rdJ 2 (h := fun K hK => ?_); go_simp; go_at_call 58; refine (HNM.out _).mono ?_; rintro e wz2 ⟨rfl, hb4⟩; refine shK hK (held5 hHeld hb4) (h := fun hHeld => ?_); clear hK K)
          (refine tkJ 3 _ (h := ?_))
          (refine tkJ 4 _ (h := ?_))
          (first | (refine tkJ 5 _ (h := ?_)) | (refine tkM 5 (h := ?_)))
          (first | (refine tkJ 6 _ (h := ?_)) | (refine tkM 6 (h := ?_)))
          (refine rdJ 7 (h := fun K hK => ?_); go_simp; go_at_call 77; refine (HGR.out _ _ (HT.out.later hHeld.2.2.2.2.2)).mono ?_; rintro e wz3 ⟨rfl, hb4⟩; refine shK hK (held5 hHeld hb4) (h := fun hHeld => ?_); clear hK K)
          (first | (refine tkJ 8 _ (h := ?_)) | (refine tkM 8 (h := ?_)))
          (refine tkJ 9 _ (h := ?_))
          (refine tkJ 10 _ (h := ?_))
          (first | (refine tkJ 11 _ (h := ?_)) | (refine tkM 11 (h := ?_)))
          (first | (refine tkJ 12 _ (h := ?_)) | (refine tkM 12 (h := ?_)))
          (refine rdJ 13 (h := fun K hK => ?_); go_simp; go_at_call 59; refine (HIS.out _ _ (HT.out.later hHeld.2.2.2.2.2)).mono ?_; rintro e wz4 ⟨rfl, hb4⟩; refine shK hK (held5 hHeld hb4) (h := fun hHeld => ?_); clear hK K)
          (first | (refine tkJ 14 _ (h := ?_)) | (refine tkM 14 (h := ?_)))
          (refine tkJ 15 _ (h := ?_))
          (refine tkJ 16 _ (h := ?_))
          (first | (refine tkJ 17 _ (h := ?_)) | (refine tkM 17 (h := ?_)))
          (first | (refine tkJ 18 _ (h := ?_)) | (refine tkM 18 (h := ?_)))
          (first | (refine tkJ 19 _ (h := ?_)) | (refine tkM 19 (h := ?_)))
          (first | (refine tkJ 20 _ (h := ?_)) | (refine tkM 20 (h := ?_)))
          (first | (refine tkJ 21 _ (h := ?_)) | (refine tkM 21 (h := ?_)))
          (first | (refine tkJ 22 _ (h := ?_)) | (refine tkM 22 (h := ?_)))
          (first | (refine tkJ 23 _ (h := ?_)) | (refine tkM 23 (h := ?_)))
          (first | (refine tkJ 24 _ (h := ?_)) | (refine tkM 24 (h := ?_)))
          (first | (refine tkJ 25 _ (h := ?_)) | (refine tkM 25 (h := ?_)))
          (first | (refine tkJ 26 _ (h := ?_)) | (refine tkM 26 (h := ?_)))
          (first | (refine tkJ 27 _ (h := ?_)) | (refine tkM 27 (h := ?_)))
          (first | (refine tkJ 28 _ (h := ?_)) | (refine tkM 28 (h := ?_)))
          (first | (refine tkJ 29 _ (h := ?_)) | (refine tkM 29 (h := ?_)))
          (refine tkJ 30 _ (h := ?_))
          (refine wpAnyH_done (by kernel_rfl) ?_ _)
          have HB4 := Lib.hid (HBW.out.trans (hHeld.2.2.2.2.2.mono HBW.out.size))
          obtain rfl : R = false := HNO.out (HPA.out)
          clear y0 y1 y2 y3 e0
          go_wp2_with fail
          go_ret
          exact ⟨rfl, HB4.out⟩
        | true =>
          (refine wp_region_held_drew (S := (fun Wq => Wq.cell? ⟨b, off + m * 4, none⟩ = some (.string y.var) ∧ Wq.cell? ⟨g5, 0, none⟩ = some (.string x.var) ∧ Wq.cell? ⟨g5, 1, none⟩ = some (.int .i64 x.t.kind) ∧ Wq.cell? ⟨g5, 2, none⟩ = some (.string x.t.name) ∧ Wq.cell? ⟨g5, 3, none⟩ = some (.slice B x.t.kids.length c) ∧ Below w2.heap.size w2 Wq)) (by kernel_rfl) (show _ ∧ _ ∧ _ ∧ _ ∧ _ ∧ _ from ⟨e0, y0, y1, y2, y3, (Below.refl _ w2).drew⟩) (fun hHeld => ?_))
          (refine tkJ 0 _ (h := ?_))
          (refine tkJ 1 _ (h := ?_))
          (refine rdJ 2 (h := fun K hK => ?_); go_simp; go_at_call 58; refine (HNM.out _).mono ?_; rintro e wz2 ⟨rfl, hb4⟩; refine shK hK (held5 hHeld hb4) (h := fun hHeld => ?_); clear hK K)
          (refine tkJ 3 _ (h := ?_))
          (refine tkJ 4 _ (h := ?_))
          (first | (refine tkJ 5 _ (h := ?_)) | (refine tkM 5 (h := ?_)))
          (first | (refine tkJ 6 _ (h := ?_)) | (refine tkM 6 (h := ?_)))
          (refine rdJ 7 (h := fun K hK => ?_); go_simp; go_at_call 77; refine (HGR.out _ _ (HT.out.later hHeld.2.2.2.2.2)).mono ?_; rintro e wz3 ⟨rfl, hb4⟩; refine shK hK (held5 hHeld hb4) (h := fun hHeld => ?_); clear hK K)
          (first | (refine tkJ 8 _ (h := ?_)) | (refine tkM 8 (h := ?_)))
          (refine tkJ 9 _ (h := ?_))
          (refine tkJ 10 _ (h := ?_))
          (first | (refine tkJ 11 _ (h := ?_)) | (refine tkM 11 (h := ?_)))
          (first | (refine tkJ 12 _ (h := ?_)) | (refine tkM 12 (h := ?_)))
          (refine rdJ 13 (h := fun K hK => ?_); go_simp; go_at_call 59; refine (HIS.out _ _ (HT.out.later hHeld.2.2.2.2.2)).mono ?_; rintro e wz4 ⟨rfl, hb4⟩; refine shK hK (held5 hHeld hb4) (h := fun hHeld => ?_); clear hK K)
          (first | (refine tkJ 14 _ (h := ?_)) | (refine tkM 14 (h := ?_)))
          (refine tkJ 15 _ (h := ?_))
          (refine tkJ 16 _ (h := ?_))
          (first | (refine tkJ 17 _ (h := ?_)) | (refine tkM 17 (h := ?_)))
          (first | (refine tkJ 18 _ (h := ?_)) | (refine tkM 18 (h := ?_)))
          (first | (refine tkJ 19 _ (h := ?_)) | (refine tkM 19 (h := ?_)))
          (first | (refine tkJ 20 _ (h := ?_)) | (refine tkM 20 (h := ?_)))
          (first | (refine tkJ 21 _ (h := ?_)) | (refine tkM 21 (h := ?_)))
          (first | (refine tkJ 22 _ (h := ?_)) | (refine tkM 22 (h := ?_)))
          (first | (refine tkJ 23 _ (h := ?_)) | (refine tkM 23 (h := ?_)))
          (first | (refine tkJ 24 _ (h := ?_)) | (refine tkM 24 (h := ?_)))
          (first | (refine tkJ 25 _ (h := ?_)) | (refine tkM 25 (h := ?_)))
          (first | (refine tkJ 26 _ (h := ?_)) | (refine tkM 26 (h := ?_)))
          (first | (refine tkJ 27 _ (h := ?_)) | (refine tkM 27 (h := ?_)))
          (first | (refine tkJ 28 _ (h := ?_)) | (refine tkM 28 (h := ?_)))
          (first | (refine tkJ 29 _ (h := ?_)) | (refine tkM 29 (h := ?_)))
          (refine tkJ 30 _ (h := ?_))
          (refine wpAnyH_done (by kernel_rfl) ?_ _)
          have HB4 := Lib.hid (HBW.out.trans (hHeld.2.2.2.2.2.mono HBW.out.size))
          have HGG := Lib.hid (HGO.out (HPA.out))
          clear y0 y1 y2 y3 e0
          go_wp2_with fail
          go_roundw
          case rel => exact ⟨j + 1, HLT.out, by go_num, HGG.out, HB4.out⟩
          case measure => have := HLT.out; simp [intOf]; omega
    · obtain rfl : j = n := by omega
      have hR2 : R = true := by
        rw [← HR.out]
        exact proper_yes fun i hi => hl i (by rw [← HN.out]; exact hi) hi
      subst hR2
      have hi : ¬ (j : Int) < (j : Int) := by omega
      have HBW := Lib.hid hbw
      clear hbw hl
      go_wp2_with fail
      go_ret
      exact ⟨rfl, HBW.out⟩
end Go.Proofs.YtihbmgkbipeakaaGreat

namespace Go.Proofs.YtihbmgkbipeakaaGreat

/-- Bindings ascend. -/
def UpB (L : List Bd) : Prop := L.Pairwise fun x y => T.less x.var y.var = true
theorem UpB.at {L : List Bd} (h : UpB L) {i j : Nat} (hi : i < L.length) (hj : j < L.length) (hij : i < j) : T.less L[i].var L[j].var = true := List.pairwise_iff_getElem.1 h i j hi hj hij
theorem UpB.of {L : List Bd} (h : T.properB L = true) : UpB L := List.pairwise_iff_getElem.2 fun i j hi hj hij => T.properB_up h j i hi hj hij
namespace T
theorem less_or {a b : ByteArray} (h : ¬ a = b) (h' : less a b = false) : less b a = true := by
  rcases list_tri a.toList b.toList with g | g | g
  · rw [(less_iff a b).2 g] at h'; cases h'
  · exact absurd (ba_eq g) h
  · exact (less_iff b a).2 g
theorem pos_le (s : ByteArray) : ∀ L : List Bd, pos s L ≤ L.length
  | [] => Nat.le_refl _
  | x :: r => by have := pos_le s r; simp only [pos, List.length_cons]; split <;> omega
theorem ins_len (L : List Bd) (s : ByteArray) (t : T) : (ins L s t).length = L.length + 1 := by
  have := pos_le s L
  unfold ins
  simp only [List.length_append, List.length_take, List.length_cons, List.length_drop]; omega
theorem look_none : ∀ {L : List Bd} {s : ByteArray}, look L s = none → ∀ x ∈ L, ¬ x.var = s
  | [], _, _, _, hx => (List.not_mem_nil hx).elim
  | y :: r, s, h, x, hx => by
    simp only [look] at h
    by_cases e : y.var = s
    · rw [if_pos e] at h; cases h
    · rw [if_neg e] at h
      rcases List.mem_cons.1 hx with rfl | hx
      · exact e
      · exact look_none h x hx
theorem ins_mem {L : List Bd} {s : ByteArray} {t : T} {x : Bd} (h : x ∈ ins L s t) : x = ⟨s, t⟩ ∨ x ∈ L := by
  unfold ins at h
  rcases List.mem_append.1 h with h | h
  · exact .inr (List.mem_of_mem_take h)
  · rcases List.mem_cons.1 h with h | h
    · exact .inl h
    · exact .inr (List.mem_of_mem_drop h)
theorem ins_up : ∀ {L : List Bd} {s : ByteArray} (t : T), UpB L → look L s = none → UpB (ins L s t)
  | [], s, t, _, _ => by rw [ins_nil]; exact List.pairwise_singleton _ _
  | x :: r, s, t, hu, hl => by
    have hne := look_none hl
    have hu' := List.pairwise_cons.1 hu
    have hlr : look r s = none := by
      simp only [look] at hl
      rw [if_neg (hne x List.mem_cons_self)] at hl; exact hl
    rw [ins_cons]
    by_cases hx : less x.var s = true
    · rw [if_pos hx]
      refine List.pairwise_cons.2 ⟨fun y hy => ?_, ins_up t hu'.2 hlr⟩
      rcases ins_mem hy with rfl | hy
      · exact hx
      · exact hu'.1 y hy
    · rw [if_neg hx]
      have hsx := less_or (hne x List.mem_cons_self) (Bool.eq_false_iff.2 hx)
      refine List.pairwise_cons.2 ⟨fun y hy => ?_, hu⟩
      rcases List.mem_cons.1 hy with rfl | hy
      · exact hsx
      · exact less_trans hsx (hu'.1 y hy)
/-- What bindings are when a match is under way: few, in order, their values small. -/
def Bok (M : Nat) (L : List Bd) : Prop := UpB L ∧ ∀ x ∈ L, x.t.bulk ≤ M
theorem Bok.ins {M : Nat} {L : List Bd} {s : ByteArray} {t : T} (h : Bok M L) (hl : look L s = none) (ht : t.bulk ≤ M) : Bok M (ins L s t) :=
  ⟨ins_up t h.1 hl, fun x hx => by
    rcases ins_mem hx with rfl | hx
    · exact ht
    · exact h.2 x hx⟩
theorem powGo_left : ∀ (b : List Bd) (ps left : List T) (f : ByteArray) (o : Nat) (left' : List T) (f' : ByteArray) (o' : Nat), powGo b ps left f o = some (left', f', o') → (∀ x ∈ left', x ∈ left) ∧ o ≤ o' ∧ (o' = o → f' = f) ∧ (o < o' → look b f' = none) ∧ left'.length + ps.length = left.length + (o' - o)
  | b, [], left, f, o, left', f', o', h => by
    simp only [powGo, Option.some.injEq, Prod.mk.injEq] at h
    obtain ⟨rfl, rfl, rfl⟩ := h
    exact ⟨fun _ h => h, Nat.le_refl _, fun _ => rfl, fun h => by omega, by simp⟩
  | b, k :: ps, left, f, o, left', f', o', h => by
    simp only [powGo] at h
    cases hv : val b k with
    | none =>
      rw [hv] at h
      obtain ⟨h1, h2, h3, h4, h5⟩ := powGo_left b ps _ _ _ _ _ _ h
      have hk : look b k.name = none := by
        unfold val at hv
        split at hv
        · exact hv
        · cases hv
      refine ⟨h1, by omega, fun e => by omega, fun _ => ?_, by simp only [List.length_cons]; omega⟩
      rcases Nat.lt_or_ge (o + 1) o' with g | g
      · exact h4 g
      · rw [h3 (by omega)]; exact hk
    | some v =>
      rw [hv] at h
      by_cases hi : at_ v left < 0
      · simp only [if_pos hi] at h; cases h
      · simp only [if_neg hi] at h
        obtain ⟨h1, h2, h3, h4, h5⟩ := powGo_left b ps _ _ _ _ _ _ h
        obtain ⟨hlt, _⟩ := at_spec (v := v) (l := left) (by omega)
        have hel := List.length_eraseIdx_of_lt hlt
        exact ⟨fun x hx => List.mem_of_mem_eraseIdx (h1 x hx), h2, h3, h4, by simp only [List.length_cons]; omega⟩
theorem pow_keeps {M : Nat} {ps ts : List T} {b x : List Bd} (hb : Bok M b) (hM : ∀ t ∈ ts, t.bulk ≤ M) (h : pow ps ts b = some x) : Bok M x ∧ x.length ≤ b.length + 1 := by
  unfold pow at h
  cases hg : powGo b ps ts ⟨#[]⟩ 0 with
  | none => rw [hg] at h; cases h
  | some q =>
    obtain ⟨left, f, o⟩ := q
    rw [hg] at h
    obtain ⟨h1, _, _, h4, _⟩ := powGo_left b ps ts _ _ _ _ _ hg
    simp only [powEnd] at h
    by_cases ho : o = 0
    · rw [if_pos ho] at h
      by_cases hl : left.length = 0
      · rw [if_pos hl] at h
        obtain rfl : b = x := by injection h
        exact ⟨hb, by omega⟩
      · rw [if_neg hl] at h; cases h
    · rw [if_neg ho] at h
      by_cases h5 : o = 1 ∧ left.length = 1
      · rw [if_pos h5] at h
        match left, h5.2, h1 with
        | [y], _, h1 =>
          obtain rfl : ins b f y = x := by simpa using h
          exact ⟨hb.ins (h4 (by omega)) (hM y (h1 y List.mem_cons_self)), by rw [ins_len]; exact Nat.le_refl _⟩
      · rw [if_neg h5] at h; cases h
theorem kids_bulk {t : T} {M : Nat} (h : t.bulk ≤ M) : ∀ x ∈ t.kids, x.bulk ≤ M := fun x hx => by
  cases t with
  | mk k s ks =>
    obtain ⟨i, hi, rfl⟩ := List.getElem_of_mem hx
    have := bulk_at ks i hi
    simp only [bulk] at h
    simp only [kids]
    omega
mutual
theorem mat_keeps {M : Nat} : ∀ (p t : T) (b x : List Bd), Bok M b → t.bulk ≤ M → mat p t b = some x → Bok M x ∧ x.length ≤ b.length + p.size
  | .mk k s ks, t, b, x, hb, ht, h => by
    simp only [mat] at h
    simp only [size]
    by_cases hk : k = 2
    · rw [if_pos hk] at h
      cases hl : look b s with
      | none =>
        rw [hl] at h
        obtain rfl : ins b s t = x := by simpa using h
        exact ⟨hb.ins hl ht, by rw [ins_len]; omega⟩
      | some v =>
        rw [hl] at h
        by_cases hc : cmp v t = 0
        · obtain rfl : b = x := by simpa [hc] using h
          exact ⟨hb, by omega⟩
        · simp [hc] at h
    · rw [if_neg hk] at h
      by_cases hd : k ≠ t.kind ∨ s ≠ t.name ∨ ks.length ≠ t.kids.length
      · rw [if_pos hd] at h; cases h
      · rw [if_neg hd] at h
        by_cases h7 : k = 7
        · rw [if_pos h7] at h
          obtain ⟨h1, h2⟩ := pow_keeps hb (kids_bulk ht) h
          exact ⟨h1, by omega⟩
        · rw [if_neg h7] at h
          obtain ⟨h1, h2⟩ := matAll_keeps ks t.kids b x hb (kids_bulk ht) h
          exact ⟨h1, by omega⟩
theorem matAll_keeps {M : Nat} : ∀ (ps ts : List T) (b x : List Bd), Bok M b → (∀ t ∈ ts, t.bulk ≤ M) → matAll ps ts b = some x → Bok M x ∧ x.length ≤ b.length + sizeAll ps
  | [], _, b, x, hb, _, h => by
    obtain rfl : b = x := by simpa [matAll] using h
    exact ⟨hb, by omega⟩
  | _ :: _, [], b, x, hb, _, h => by
    obtain rfl : b = x := by simpa [matAll] using h
    exact ⟨hb, by omega⟩
  | p :: ps, t :: ts, b, x, hb, ht, h => by
    simp only [matAll] at h
    cases hm : mat p t b with
    | none => rw [hm] at h; cases h
    | some c =>
      rw [hm] at h
      obtain ⟨h1, h2⟩ := mat_keeps p t b c hb (ht t List.mem_cons_self) hm
      obtain ⟨h3, h4⟩ := matAll_keeps ps ts c x h1 (fun y hy => ht y (List.mem_cons_of_mem _ hy)) h
      exact ⟨h3, by simp only [sizeAll]; omega⟩
end
end T
end Go.Proofs.YtihbmgkbipeakaaGreat
