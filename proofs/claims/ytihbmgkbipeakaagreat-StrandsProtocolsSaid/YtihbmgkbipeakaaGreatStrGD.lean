/- Chapter 42, several texts in one: Chapter 42: bindings, where there is none: proper and value of an empty list. Chapter 42: one binding: the walks of Insert and bind at an empty list, and of value at a list of one. Chapter 42: a pattern of a pair of the same variable: the walks of match, Copy and Match where there is no binding ahead. Chapter 42: the walks of Copy at one binding, and of Match at a pair of one variable. -/
import Derived.Test.YtihbmgkbipeakaaGreatStrTerm
import Derived.Test.YtihbmgkbipeakaaGreatTermArr
import Derived.Test.YtihbmgkbipeakaaGreatTermCopy
import Derived.Test.YtihbmgkbipeakaaGreatTermIsN
namespace Go.Proofs.YtihbmgkbipeakaaGreat
open Go.RowKit

set_option maxRecDepth 100000 in
set_option maxHeartbeats 4000000 in
theorem proper_nil (w : World) : Calls Tryz.prog 78 #[.slice none 0 0] w fun e w' => e = .returned (.bool true) ∧ w = w' := by
  go_enter Tryz.func78, Tryz.ntmps78
  go_wp2_with fail
  go_loopw [7] (fun i wr => i = .int .i64 0 ∧ w = wr) (fun _ _ => 0)
  case atStart => exact ⟨rfl, rfl⟩
  case round =>
    obtain ⟨rfl, rfl⟩ := hrel
    go_wp2_with fail
    go_ret
    exact ⟨rfl, rfl⟩

set_option maxRecDepth 100000 in
set_option maxHeartbeats 4000000 in
theorem value_nil (s : ByteArray) (w : World) : Calls Tryz.prog 117 #[.slice none 0 0, .string s] w fun e w' => e = .returned (.tuple #[.agg #[.int .i64 0, .string ⟨#[]⟩, .slice none 0 0], .bool false]) ∧ Below w.heap.size w w' := by
  have hb0 := Box.new w (.int .i64 0) (.string ⟨#[]⟩) (.slice none 0 0)
  have hw := below_alloc1 w (.cells #[.int .i64 0, .string ⟨#[]⟩, .slice none 0 0] 29)
  go_enter Tryz.func117, Tryz.ntmps117
  go_upto_region 1 with fail
  generalize w.alloc (.cells #[.int .i64 0, .string ⟨#[]⟩, .slice none 0 0] 29) = w1 at hb0 hw ⊢
  have HB := Lib.hid hb0; have HW := Lib.hid hw
  clear hb0 hw
  go_wp2_with fail
  go_loopw [10] (fun i wr => i = .int .i64 0 ∧ w1 = wr) (fun _ _ => 0)
  case atStart => exact ⟨rfl, rfl⟩
  case round =>
    obtain ⟨rfl, rfl⟩ := hrel
    obtain ⟨y0, y1, y2⟩ := HB.out.cells
    obtain ⟨f0, f1, f2⟩ := HB.out.free
    go_wp2_with fail
    obtain ⟨d0, d1, d2⟩ := (box_set3 HB.out (.int .i64 0) (.string ⟨#[]⟩) (.slice none 0 0)).cells
    refine bodyPost_ret (v := .tuple #[.agg #[.int .i64 0, .string ⟨#[]⟩, .slice none 0 0], .bool false]) (by simp [results, Tryz.results117, go_sem, d0, d1, d2]) rfl ?_
    exact ⟨rfl, ((HW.out.setCell (Nat.le_refl _) _).setCell (Nat.le_refl _) _).setCell (Nat.le_refl _) _⟩

set_option maxRecDepth 100000 in
set_option maxHeartbeats 4000000 in
theorem search_nil (s : ByteArray) (f : Value) (w : World) : Calls Tryz.prog 145 #[.slice none 0 0, .string s, f] w fun e w' => e = .returned (.tuple #[.int .i64 0, .bool false]) ∧ w = w' := by
  go_enter Tryz.func145, Tryz.ntmps145
  go_wp2_with fail
  go_loopw [9, 10] (fun i j wr => i = .int .i64 0 ∧ j = .int .i64 0 ∧ w = wr) (fun _ _ _ => 0)
  case atStart => exact ⟨rfl, rfl, rfl⟩
  case round =>
    obtain ⟨rfl, rfl, rfl⟩ := hrel
    go_wp2_with fail
    refine bodyPost_ret (v := .tuple #[.int .i64 0, .bool false]) (by simp [results, Tryz.results145, go_sem]) rfl ?_
    exact ⟨rfl, rfl⟩

set_option maxRecDepth 100000 in
theorem clone_nil (w : World) : Calls Tryz.prog 149 #[.slice none 0 0] w fun e w' => e = .returned (.slice none 0 0) ∧ w = w' := by
  have hc : ∀ W, Sem.run Tryz.prog (binOp BinOp.eql 62 (Value.slice none 0 0) (Value.slice none 0 0)) W = .ok (.bool true) W := fun W => by
    rfl
  go_enter Tryz.func149, Tryz.ntmps149
  go_wp2_with fail
  go_ret
  exact ⟨rfl, rfl⟩
end Go.Proofs.YtihbmgkbipeakaaGreat

namespace Go.Proofs.YtihbmgkbipeakaaGreat
open Go.RowKit

attribute [local go_sem ↓] Go.wp_at_zero Go.wp_at_succ

/-- A list of one binding. -/
def BindAt (w : World) (v : Value) (s : ByteArray) (t : T) : Prop := ∃ (b off cap : Nat) (A : Option Addr) (c : Nat), v = .slice (some ⟨b, off, none⟩) 1 cap ∧ w.cell? ⟨b, off, none⟩ = some (.string s) ∧ w.cell? ⟨b, off + 1, none⟩ = some (.int .i64 t.kind) ∧
  w.cell? ⟨b, off + 2, none⟩ = some (.string t.name) ∧ w.cell? ⟨b, off + 3, none⟩ = some (.slice A t.kids.length c) ∧ TermAt w (.agg #[.int .i64 t.kind, .string t.name, .slice A t.kids.length c]) t
theorem BindAt.later {w w' : World} {v : Value} {s : ByteArray} {t : T} (h : BindAt w v s t) (hb : Below w.heap.size w w') : BindAt w' v s t := by
  obtain ⟨b, off, cap, A, c, e, h0, h1, h2, h3, h4⟩ := h
  exact ⟨b, off, cap, A, c, e, cell_later hb h0, cell_later hb h1, cell_later hb h2, cell_later hb h3, h4.later hb⟩
theorem Tryz.infoB : (Tryz.prog.info? 66).map (fun i => (i.zero, i.size, i.bytes)) = some (some (.agg #[.string ByteArray.empty, .int .i64 0, .string ByteArray.empty, .slice none 0 0]), 4, 64) := by kernel_rfl
theorem own_bind {w : World} {base g cap : Nat} {s : ByteArray} {t : T} {A : Option Addr} {c : Nat} (h : w.ownsRow base 66 4 (.slice (some ⟨g, 0, none⟩) 1 cap) 1 ([] ++ [.string s, .int .i64 t.kind, .string t.name, .slice A t.kids.length c]))
    (ht : TermAt w (.agg #[.int .i64 t.kind, .string t.name, .slice A t.kids.length c]) t) : BindAt w (.slice (some ⟨g, 0, none⟩) 1 cap) s t := by
  have hc : ∀ j u, ([] ++ [Value.string s, .int .i64 t.kind, .string t.name, .slice A t.kids.length c])[j]? = some u → w.cell? ⟨g, j, none⟩ = some u := fun j u hu => by
    have := h.cells (g := g) rfl j u hu
    rw [Go.WideShapes.add_plain] at this; simpa using this
  exact ⟨g, 0, cap, A, c, rfl, hc 0 _ rfl, hc 1 _ rfl, hc 2 _ rfl, hc 3 _ rfl, ht⟩
theorem bind_one (s : ByteArray) (t : T) (A : Option Addr) (c : Nat) : ∀ u ∈ [Value.string s, .int .i64 t.kind, .string t.name, .slice A t.kids.length c], u.oneCell' = true := by
  intro u hu
  simp only [List.mem_cons, List.not_mem_nil, or_false] at hu
  rcases hu with rfl | rfl | rfl | rfl <;> rfl

set_option maxRecDepth 100000 in
set_option maxHeartbeats 4000000 in
theorem insert_nil (s : ByteArray) (t : T) (A : Option Addr) (c : Nat) (g : Nat) (w : World) (hg : w.heap[g]? = some (.cells #[.string s, .int .i64 t.kind, .string t.name, .slice A t.kids.length c] 66 (0, 0)))
    (ht : TermAt w (.agg #[.int .i64 t.kind, .string t.name, .slice A t.kids.length c]) t) :
    Calls Tryz.prog 148 #[.slice none 0 0, .int .i64 0, .slice (some ⟨g, 0, none⟩) 1 1] w fun e w' => ∃ v, e = .returned v ∧ BindAt w' v s t ∧ Below w.heap.size w w' := by
  obtain ⟨i0, hi0, hz0, hz1, hz2⟩ := info_parts Tryz.infoB
  have HONE := Lib.hid (bind_one s t A c)
  have HOWN := Lib.hid (World.ownsRow_nil w w.heap.size 66 4)
  have HG := Lib.hid hg; have HT := Lib.hid ht
  clear hg ht
  go_enter Tryz.func148, Tryz.ntmps148
  go_wp2_with (at_builtin; refine wpList_append_lies _ rfl _ _ 62 rfl w.heap.size 66 i0 _ 4 64 Tryz.underlying62 hi0 hz0 hz1 hz2 rfl (by omega) _ 0 _ rfl HOWN.out ⟨g, 0, none⟩ 1 1 _ rfl rfl (World.news_of_block HG.out) HONE.out (by omega) (by unfold maxLen; omega) (by omega) (Nat.le_refl _) _ rfl ?_; intro g4 cap4 w4 hown4 hg4 hat4 hlt4)
  go_ret
  have hbw : Below w.heap.size w w4 := (Below.refl _ _).grown hg4 (Nat.le_refl _) (fun k hk => by cases hk)
  exact ⟨_, rfl, own_bind hown4 (HT.out.later hbw), hbw⟩

set_option maxRecDepth 100000 in
set_option maxHeartbeats 8000000 in
theorem bind_nil (s : ByteArray) (t : T) (v : Value) (w : World) (ht : TermAt w v t) :
    Calls Tryz.prog 119 #[.slice none 0 0, .string s, v] w fun e w' => ∃ v', e = .returned v' ∧ BindAt w' v' s t ∧ Below w.heap.size w w' := by
  obtain ⟨A, cap, rfl⟩ := TermIn.view ht.inAll
  have bx := Box.new w (.int .i64 t.kind) (.string t.name) (.slice A t.kids.length cap)
  have hw := below_alloc1 w (.cells #[.int .i64 t.kind, .string t.name, .slice A t.kids.length cap] 29)
  have ht1 := ht.later hw
  clear ht
  go_enter Tryz.func119, Tryz.ntmps119
  go_upto_region 1 with fail
  generalize w.alloc (.cells #[.int .i64 t.kind, .string t.name, .slice A t.kids.length cap] 29) = w1 at bx hw ht1 ⊢
  obtain ⟨x0, x1, x2⟩ := bx.cells
  have HW := Lib.hid hw
  have HINS := Lib.hid (fun (W : World) (hW : W = w1.drew.alloc (.cells #[.string s, .int .i64 t.kind, .string t.name, .slice A t.kids.length cap] 66)) =>
    show Calls Tryz.prog 148 #[.slice none 0 0, .int .i64 0, .slice (some ⟨w1.heap.size, 0, none⟩) 1 1] W fun e w' => ∃ v, e = .returned v ∧ BindAt w' v s t ∧ Below w.heap.size w w' by
      subst hW
      refine (insert_nil s t A cap w1.heap.size _ (heap_alloc_new w1.drew _) ((TermAt.drew ht1).later (below_alloc1 w1.drew _))).mono ?_
      rintro e w' ⟨v, h1, h2, h3⟩
      have hd := hw.drew
      exact ⟨v, h1, h2, (hd.trans ((below_alloc1 w1.drew _).mono hd.size)).trans (h3.mono (by rw [size_alloc1]; have := hd.size; omega))⟩)
  clear bx hw ht1
  go_wp2_with fail
  refine (search_nil s _ _).mono ?_; rintro e w2 ⟨rfl, rfl⟩
  go_upto_region 2 with fail
  refine wp_region_any (by kernel_rfl) ?_
  (try (change wpAny _ _ _ _ _ _ _ (World.drew _)))
  (refine wpAny_take (i := 0) (v := ?_) (by simp only [List.getElem?_toArray, List.getElem?_cons_zero]; rfl) (by kernel_rfl) (by kernel_rfl) (by kernel_rfl) (by exact fun _ _ _ h => h) (Or.inl ⟨by rfl, ?_⟩) ?_; rotate_left 1; · (intro w; go_simp; (try with_reducible rfl)))
  (refine wpAny_take (i := 2) (v := ?_) (by simp only [List.getElem?_toArray, List.getElem?_cons_succ, List.getElem?_cons_zero]; rfl) (by kernel_rfl) (by kernel_rfl) (by kernel_rfl) (by exact fun _ _ _ h => h) (Or.inl ⟨by rfl, ?_⟩) ?_; rotate_left 1; · (intro w; go_simp; (try with_reducible rfl)))
  (refine wpAny_take (i := 3) (v := ?_) (by simp only [List.getElem?_toArray, List.getElem?_cons_succ, List.getElem?_cons_zero]; rfl) (by kernel_rfl) (by kernel_rfl) (by kernel_rfl) (by exact fun _ _ _ h => h) (Or.inl ⟨by rfl, ?_⟩) ?_; rotate_left 1; · (intro w; go_simp; (try with_reducible rfl)))
  refine wpAny_ready (rs := [1, 4]) (by kernel_rfl) (by simp) ?_
  refine AllReady.cons (by simp only [List.getElem?_toArray, List.getElem?_cons_succ, List.getElem?_cons_zero]; rfl) (fun K hK => ?_) ?_
  · (go_simp; go_at_call 149; refine (clone_nil _).mono ?_; rintro e w' ⟨rfl, rfl⟩)
    (first | (refine hK _ _ ?_; clear hK K) | skip)
    refine wpAny_ready (rs := [4]) (by kernel_rfl) (by simp) ?_
    refine AllReady.cons (by simp only [List.getElem?_toArray, List.getElem?_cons_succ, List.getElem?_cons_zero]; rfl) (fun K hK => ?_) ?_
    · go_simp
      (first | (refine hK _ _ ?_; clear hK K) | skip)
      (refine wpAny_take (i := 5) (v := ?_) (by simp only [List.getElem?_toArray, List.getElem?_cons_succ, List.getElem?_cons_zero]; rfl) (by kernel_rfl) (by kernel_rfl) (by kernel_rfl) (by exact fun _ _ _ h => h) (Or.inl ⟨by rfl, ?_⟩) ?_; rotate_left 1; · (intro w; go_simp; (try with_reducible rfl)))
      refine wpAny_ready (rs := [6]) (by kernel_rfl) (by simp) ?_
      refine AllReady.cons (by simp only [List.getElem?_toArray, List.getElem?_cons_succ, List.getElem?_cons_zero]; rfl) (fun K hK => ?_) ?_
      · go_simp
        (first | (refine hK _ _ ?_; clear hK K) | skip)
        refine wpAny_ready (rs := [7]) (by kernel_rfl) (by simp) ?_
        refine AllReady.cons (by simp only [List.getElem?_toArray, List.getElem?_cons_succ, List.getElem?_cons_zero]; rfl) (fun K hK => ?_) ?_
        · (go_simp; go_at_call 148; refine (HINS.out _ rfl).mono ?_; rintro e w9 ⟨v9, rfl, hv9, hb9⟩)
          (first | (refine hK _ _ ?_; clear hK K) | skip)
          (refine wpAny_take (i := 8) (v := ?_) (by simp only [List.getElem?_toArray, List.getElem?_cons_succ, List.getElem?_cons_zero]; rfl) (by kernel_rfl) (by kernel_rfl) (by kernel_rfl) (by exact fun _ _ _ h => h) (Or.inl ⟨by rfl, ?_⟩) ?_; rotate_left 1; · (intro w; go_simp; (try with_reducible rfl)))
          refine wpAny_done (by kernel_rfl) ?_ _
          have HV9 := Lib.hid hv9; have HB9 := Lib.hid hb9
          clear hv9 hb9
          go_wp2_with fail
          go_ret
          exact ⟨_, rfl, HV9.out, HB9.out⟩
        exact AllReady.nil
      exact AllReady.nil
    exact AllReady.nil
  refine AllReady.cons (by simp only [List.getElem?_toArray, List.getElem?_cons_succ, List.getElem?_cons_zero]; rfl) (fun K hK => ?_) ?_
  · go_simp
    (first | (refine hK _ _ ?_; clear hK K) | skip)
    (refine wpAny_take (i := 5) (v := ?_) (by simp only [List.getElem?_toArray, List.getElem?_cons_succ, List.getElem?_cons_zero]; rfl) (by kernel_rfl) (by kernel_rfl) (by kernel_rfl) (by exact fun _ _ _ h => h) (Or.inl ⟨by rfl, ?_⟩) ?_; rotate_left 1; · (intro w; go_simp; (try with_reducible rfl)))
    refine wpAny_ready (rs := [1, 6]) (by kernel_rfl) (by simp) ?_
    refine AllReady.cons (by simp only [List.getElem?_toArray, List.getElem?_cons_succ, List.getElem?_cons_zero]; rfl) (fun K hK => ?_) ?_
    · (go_simp; go_at_call 149; refine (clone_nil _).mono ?_; rintro e w' ⟨rfl, rfl⟩)
      (first | (refine hK _ _ ?_; clear hK K) | skip)
      refine wpAny_ready (rs := [6]) (by kernel_rfl) (by simp) ?_
      refine AllReady.cons (by simp only [List.getElem?_toArray, List.getElem?_cons_succ, List.getElem?_cons_zero]; rfl) (fun K hK => ?_) ?_
      · go_simp
        (first | (refine hK _ _ ?_; clear hK K) | skip)
        refine wpAny_ready (rs := [7]) (by kernel_rfl) (by simp) ?_
        refine AllReady.cons (by simp only [List.getElem?_toArray, List.getElem?_cons_succ, List.getElem?_cons_zero]; rfl) (fun K hK => ?_) ?_
        · (go_simp; go_at_call 148; refine (HINS.out _ rfl).mono ?_; rintro e w9 ⟨v9, rfl, hv9, hb9⟩)
          (first | (refine hK _ _ ?_; clear hK K) | skip)
          (refine wpAny_take (i := 8) (v := ?_) (by simp only [List.getElem?_toArray, List.getElem?_cons_succ, List.getElem?_cons_zero]; rfl) (by kernel_rfl) (by kernel_rfl) (by kernel_rfl) (by exact fun _ _ _ h => h) (Or.inl ⟨by rfl, ?_⟩) ?_; rotate_left 1; · (intro w; go_simp; (try with_reducible rfl)))
          refine wpAny_done (by kernel_rfl) ?_ _
          have HV9 := Lib.hid hv9; have HB9 := Lib.hid hb9
          clear hv9 hb9
          go_wp2_with fail
          go_ret
          exact ⟨_, rfl, HV9.out, HB9.out⟩
        exact AllReady.nil
      exact AllReady.nil
    refine AllReady.cons (by simp only [List.getElem?_toArray, List.getElem?_cons_succ, List.getElem?_cons_zero]; rfl) (fun K hK => ?_) ?_
    · go_simp
      (first | (refine hK _ _ ?_; clear hK K) | skip)
      refine wpAny_ready (rs := [1]) (by kernel_rfl) (by simp) ?_
      refine AllReady.cons (by simp only [List.getElem?_toArray, List.getElem?_cons_succ, List.getElem?_cons_zero]; rfl) (fun K hK => ?_) ?_
      · (go_simp; go_at_call 149; refine (clone_nil _).mono ?_; rintro e w' ⟨rfl, rfl⟩)
        (first | (refine hK _ _ ?_; clear hK K) | skip)
        refine wpAny_ready (rs := [7]) (by kernel_rfl) (by simp) ?_
        refine AllReady.cons (by simp only [List.getElem?_toArray, List.getElem?_cons_succ, List.getElem?_cons_zero]; rfl) (fun K hK => ?_) ?_
        · (go_simp; go_at_call 148; refine (HINS.out _ rfl).mono ?_; rintro e w9 ⟨v9, rfl, hv9, hb9⟩)
          (first | (refine hK _ _ ?_; clear hK K) | skip)
          (refine wpAny_take (i := 8) (v := ?_) (by simp only [List.getElem?_toArray, List.getElem?_cons_succ, List.getElem?_cons_zero]; rfl) (by kernel_rfl) (by kernel_rfl) (by kernel_rfl) (by exact fun _ _ _ h => h) (Or.inl ⟨by rfl, ?_⟩) ?_; rotate_left 1; · (intro w; go_simp; (try with_reducible rfl)))
          refine wpAny_done (by kernel_rfl) ?_ _
          have HV9 := Lib.hid hv9; have HB9 := Lib.hid hb9
          clear hv9 hb9
          go_wp2_with fail
          go_ret
          exact ⟨_, rfl, HV9.out, HB9.out⟩
        exact AllReady.nil
      exact AllReady.nil
    exact AllReady.nil
  exact AllReady.nil

set_option maxRecDepth 100000 in
set_option maxHeartbeats 4000000 in
theorem value_one (s : ByteArray) (t : T) (v : Value) (w : World) (hv : BindAt w v s t) :
    Calls Tryz.prog 117 #[v, .string s] w fun e w' => ∃ A c, e = .returned (.tuple #[.agg #[.int .i64 t.kind, .string t.name, .slice A t.kids.length c], .bool true]) ∧ TermAt w' (.agg #[.int .i64 t.kind, .string t.name, .slice A t.kids.length c]) t ∧ Below w.heap.size w w' := by
  have hb0 := Box.new w (.int .i64 0) (.string ⟨#[]⟩) (.slice none 0 0)
  have hw := below_alloc1 w (.cells #[.int .i64 0, .string ⟨#[]⟩, .slice none 0 0] 29)
  obtain ⟨b, off, cap, A, c, rfl, d0', d1', d2', d3', ht⟩ := hv
  have d0 := cell_later hw d0'; have d1 := cell_later hw d1'; have d2 := cell_later hw d2'; have d3 := cell_later hw d3'
  have HT := Lib.hid ht
  clear d0' d1' d2' d3' ht
  go_enter Tryz.func117, Tryz.ntmps117
  go_upto_region 1 with fail
  generalize w.alloc (.cells #[.int .i64 0, .string ⟨#[]⟩, .slice none 0 0] 29) = w1 at hb0 hw d0 d1 d2 d3 ⊢
  have HW := Lib.hid hw
  have hx := below_alloc1 w1 (.cells #[.string s, .int .i64 t.kind, .string t.name, .slice A t.kids.length c] 66)
  have HB := Lib.hid (hb0.later hx)
  have HX := Lib.hid (hw.trans (hx.mono hw.size))
  have hnw := heap_alloc_new w1 (.cells #[.string s, .int .i64 t.kind, .string t.name, .slice A t.kids.length c] 66)
  have HN := Lib.hid hnw
  clear hb0 hw hx hnw
  go_wp2_with fail
  go_loopw [10] (fun i wr => i = .int .i64 0 ∧ w1 = wr) (fun _ _ => 0)
  case atStart => exact ⟨rfl, rfl⟩
  case round =>
    obtain ⟨rfl, rfl⟩ := hrel
    go_upto_region 4 with fail
    obtain ⟨g5, hg5⟩ : ∃ g5, w1.heap.size = g5 := ⟨_, rfl⟩
    have hnw := HN.out
    rw [hg5] at hnw ⊢
    generalize w1.alloc (.cells #[.string s, .int .i64 t.kind, .string t.name, .slice A t.kids.length c] 66) = w2 at hnw HB HX HN ⊢
    have y0 : w2.cell? ⟨g5, 0, none⟩ = some (.string s) := by unfold World.cell?; rw [hnw]; rfl
    have y1 : w2.cell? ⟨g5, 1, none⟩ = some (.int .i64 t.kind) := by unfold World.cell?; rw [hnw]; rfl
    have y2 : w2.cell? ⟨g5, 2, none⟩ = some (.string t.name) := by unfold World.cell?; rw [hnw]; rfl
    have y3 : w2.cell? ⟨g5, 3, none⟩ = some (.slice A t.kids.length c) := by unfold World.cell?; rw [hnw]; rfl
    obtain ⟨q0, q1, q2⟩ := HB.out.cells
    obtain ⟨f0, f1, f2⟩ := HB.out.free
    clear hnw hg5 d0 d1 d2 d3
    go_wp2_with fail
    obtain ⟨d0, d1, d2⟩ := (box_set3 HB.out (.int .i64 t.kind) (.string t.name) (.slice A t.kids.length c)).cells
    refine bodyPost_ret (v := .tuple #[.agg #[.int .i64 t.kind, .string t.name, .slice A t.kids.length c], .bool true]) (by simp [results, Tryz.results117, go_sem, d0, d1, d2]) rfl ?_
    have hbf := ((HX.out.setCell (p := ⟨w.heap.size, 0, none⟩) (Nat.le_refl _) (.int .i64 t.kind)).setCell (p := ⟨w.heap.size, 1, none⟩) (Nat.le_refl _) (.string t.name)).setCell (p := ⟨w.heap.size, 2, none⟩) (Nat.le_refl _) (.slice A t.kids.length c)
    exact ⟨A, c, rfl, HT.out.later hbf, hbf⟩
end Go.Proofs.YtihbmgkbipeakaaGreat

namespace Go.Proofs.YtihbmgkbipeakaaGreat
open Go.RowKit

attribute [local go_sem ↓] Go.wp_at_zero Go.wp_at_succ

theorem view_var {w : World} {v : Value} {s : ByteArray} (h : TermAt w v (.mk 2 s [])) : ∃ A c, v = .agg #[.int .i64 2, .string s, .slice A 0 c] := by
  cases h; exact ⟨_, _, rfl⟩
set_option maxRecDepth 100000 in
set_option maxHeartbeats 4000000 in
theorem match_var_nil (s : ByteArray) (p t : T) (pv v : Value) (w : World) (hpe : p = .mk 2 s []) (hp : TermAt w pv p) (ht : TermAt w v t) :
    Calls Tryz.prog 79 #[pv, v, .slice none 0 0] w fun e w' => ∃ v', e = .returned (.tuple #[v', .bool true]) ∧ BindAt w' v' s t ∧ Below w.heap.size w w' := by
  subst hpe
  obtain ⟨A0, c0, rfl⟩ := view_var hp
  obtain ⟨A, cap, rfl⟩ := TermIn.view ht.inAll
  obtain ⟨bx, by', hb1, hsz⟩ := box_two w (.int .i64 2) (.string s) (.slice A0 0 c0) (.int .i64 t.kind) (.string t.name) (.slice A t.kids.length cap)
  have HT := Lib.hid ht
  clear hp ht
  go_enter Tryz.func79, Tryz.ntmps79
  go_upto_region 1 with fail
  generalize (w.alloc (.cells #[.int .i64 2, .string s, .slice A0 0 c0] 29)).alloc (.cells #[.int .i64 t.kind, .string t.name, .slice A t.kids.length cap] 29) = w1 at bx by' hb1 hsz ⊢
  obtain ⟨x0, x1, x2⟩ := bx.cells
  obtain ⟨y0, y1, y2⟩ := by'.cells
  have HB1 := Lib.hid hb1; have BX := Lib.hid bx; have BY := Lib.hid by'
  clear bx by' hb1 hsz
  go_wp2_with fail
  refine (value_nil s _).mono ?_; rintro e w2 ⟨rfl, hb2⟩
  go_upto_region 3 with fail
  have hb3 := hb2.trans ((below_alloc1 w2 (.cells #[.int .i64 0, .string ⟨#[]⟩, .slice none 0 0] 29)).mono hb2.size)
  have HB3 := Lib.hid (HB1.out.trans (hb3.mono HB1.out.size)); have BX3 := Lib.hid (BX.out.later hb3); have BY3 := Lib.hid (BY.out.later hb3)
  clear hb2 hb3 x0 x1 x2 y0 y1 y2
  generalize w2.alloc (.cells #[.int .i64 0, .string ⟨#[]⟩, .slice none 0 0] 29) = w3 at HB3 BX3 BY3 ⊢
  obtain ⟨x0, x1, x2⟩ := BX3.out.cells
  obtain ⟨y0, y1, y2⟩ := BY3.out.cells
  go_wp2_with fail
  refine (bind_nil s t _ _ (HT.out.later HB3.out)).mono ?_; rintro e w4 ⟨v4, rfl, hv4, hb4⟩
  have HV4 := Lib.hid hv4; have HB4 := Lib.hid (HB3.out.trans (hb4.mono HB3.out.size))
  clear hv4 hb4
  go_wp2_with fail
  go_ret2
  exact ⟨_, rfl, HV4.out, HB4.out⟩
set_option maxRecDepth 100000 in
set_option maxHeartbeats 4000000 in
theorem match_var_one (s : ByteArray) (p t u : T) (pv v bv : Value) (w : World) (hpe : p = .mk 2 s []) (hp : TermAt w pv p) (ht : TermAt w v t) (hb : BindAt w bv s u) (hu1 : u.bulk ≤ 1048576) (hu2 : t.bulk ≤ 1048576) :
    Calls Tryz.prog 79 #[pv, v, bv] w fun e w' => e = .returned (.tuple #[bv, .bool (decide (u.cmp t = 0))]) ∧ Below w.heap.size w w' := by
  subst hpe
  have HC := Lib.hid (fun va vb W ha hb' => ocmp (u.bulk + 1) u t va vb W (by omega) ha hb' hu1 hu2)
  obtain ⟨q, hq⟩ : ∃ q, u.cmp t = q := ⟨_, rfl⟩
  rw [hq] at HC ⊢
  clear hq hu1 hu2
  obtain ⟨A0, c0, rfl⟩ := view_var hp
  obtain ⟨A, cap, rfl⟩ := TermIn.view ht.inAll
  obtain ⟨bx, by', hb1, hsz⟩ := box_two w (.int .i64 2) (.string s) (.slice A0 0 c0) (.int .i64 t.kind) (.string t.name) (.slice A t.kids.length cap)
  have HT := Lib.hid ht; have HB := Lib.hid hb
  clear hp ht hb
  go_enter Tryz.func79, Tryz.ntmps79
  go_upto_region 1 with fail
  generalize (w.alloc (.cells #[.int .i64 2, .string s, .slice A0 0 c0] 29)).alloc (.cells #[.int .i64 t.kind, .string t.name, .slice A t.kids.length cap] 29) = w1 at bx by' hb1 hsz ⊢
  obtain ⟨x0, x1, x2⟩ := bx.cells
  obtain ⟨y0, y1, y2⟩ := by'.cells
  have HB1 := Lib.hid hb1; have BX := Lib.hid bx; have BY := Lib.hid by'
  clear bx by' hb1 hsz
  go_wp2_with fail
  refine (value_one s u bv _ (HB.out.later HB1.out)).mono ?_; rintro e w2 ⟨A2, c2, rfl, ht2, hb2⟩
  go_upto_region 3 with fail
  have hx := below_alloc1 w2 (.cells #[.int .i64 u.kind, .string u.name, .slice A2 u.kids.length c2] 29)
  have hb3 := hb2.trans (hx.mono hb2.size)
  have HB3 := Lib.hid (HB1.out.trans (hb3.mono HB1.out.size)); have BX3 := Lib.hid (BX.out.later hb3); have BY3 := Lib.hid (BY.out.later hb3)
  have BZ := Lib.hid (Box.new w2 (.int .i64 u.kind) (.string u.name) (.slice A2 u.kids.length c2))
  have HT2 := Lib.hid (ht2.later hx)
  clear hb2 hb3 x0 x1 x2 y0 y1 y2 ht2 hx
  generalize w2.alloc (.cells #[.int .i64 u.kind, .string u.name, .slice A2 u.kids.length c2] 29) = w3 at HB3 BX3 BY3 BZ HT2 ⊢
  obtain ⟨x0, x1, x2⟩ := BX3.out.cells
  obtain ⟨y0, y1, y2⟩ := BY3.out.cells
  obtain ⟨z0, z1, z2⟩ := BZ.out.cells
  go_wp2_with fail
  refine (HC.out _ _ _ HT2.out (HT.out.later HB3.out)).mono ?_; rintro e w4 ⟨rfl, hb4⟩
  have HB4 := Lib.hid (HB3.out.trans (hb4.mono HB3.out.size))
  clear hb4
  go_wp2_with fail
  go_ret2
  exact ⟨rfl, HB4.out⟩

/-- What a match of a pair of one variable leaves. -/
def PairPost (s : ByteArray) (x : T) (q : Bool) (w : World) (e : Ending) (w' : World) : Prop := Below w.heap.size w w' ∧ ((q = true ∧ ∃ v', e = .returned (.tuple #[v', .bool true]) ∧ BindAt w' v' s x) ∨ (q = false ∧ e = .returned (.tuple #[.slice none 0 0, .bool false])))
/-- The head of match's loop. -/
def PairAt (s : ByteArray) (x y : T) (w1 : World) (j : Nat) (b : Value) (wr : World) : Prop := Below w1.heap.size w1 wr ∧ ((j = 0 ∧ b = .slice none 0 0) ∨ (j = 1 ∧ BindAt wr b s x) ∨ (j = 2 ∧ BindAt wr b s x ∧ x.cmp y = 0))
set_option maxRecDepth 100000 in
set_option maxHeartbeats 8000000 in
theorem match_pair (s : ByteArray) (x y p t : T) (pv v : Value) (w : World) (hpe : p = .mk 3 ⟨#[]⟩ [.mk 2 s [], .mk 2 s []]) (hte : t = .mk 3 ⟨#[]⟩ [x, y]) (hp : TermAt w pv p) (ht : TermAt w v t) (hx1 : x.bulk ≤ 1048576) (hy1 : y.bulk ≤ 1048576) :
    Calls Tryz.prog 79 #[pv, v, .slice none 0 0] w (PairPost s x (decide (x.cmp y = 0)) w) := by
  have HLEN : p.kids.length = 2 ∧ t.kids.length = 2 := by rw [hpe, hte]; exact ⟨rfl, rfl⟩
  have HP := Lib.hid (show ∀ j (h : j < p.kids.length), p.kids[j] = .mk 2 s [] by
    subst hpe; intro j h; match j, h with
    | 0, _ => rfl
    | 1, _ => rfl)
  have HY := Lib.hid (show ∀ j (h : j < t.kids.length), (j = 0 ∧ t.kids[j] = x) ∨ (j = 1 ∧ t.kids[j] = y) by
    subst hte; intro j h; match j, h with
    | 0, _ => exact .inl ⟨rfl, rfl⟩
    | 1, _ => exact .inr ⟨rfl, rfl⟩)
  have hk : p.kind = 3 ∧ t.kind = 3 ∧ p.name = ⟨#[]⟩ ∧ t.name = ⟨#[]⟩ := by rw [hpe, hte]; exact ⟨rfl, rfl, rfl, rfl⟩
  clear hpe hte
  cases hp with
  | mk k0 s0 A0 c0 ks U g1 g2 g3 g4 hA hU =>
  cases ht with
  | mk k1 s1 A1 c1 ks' U' g1' g2' g3' g4' hA' hU' =>
  obtain ⟨hk0, hk1, hk2, hk3⟩ := hk
  dsimp only [T.kind, T.name, T.kids] at hk0 hk1 hk2 hk3 HLEN HP HY
  subst hk0; subst hk1; subst hk2; subst hk3
  obtain ⟨hl0, hl1⟩ := HLEN
  have HL0 := Lib.hid hl0; have HL1 := Lib.hid hl1
  have hll : (ks.length : Int) = 2 := by omega
  have hll' : (ks'.length : Int) = 2 := by omega
  have hl2 : ((ks.length : Int) != (ks'.length : Int)) = false := by rw [hll, hll']; rfl
  have HLI := Lib.hid hll
  clear hl0 hl1 hll hll'
  obtain ⟨bx, by', hb1, hsz⟩ := box_two w (.int .i64 3) (.string ⟨#[]⟩) (.slice A0 ks.length c0) (.int .i64 3) (.string ⟨#[]⟩) (.slice A1 ks'.length c1)
  have HA := Lib.hid hA; have HU := Lib.hid hU; have HA' := Lib.hid hA'; have HU' := Lib.hid hU'
  clear hA hU hA' hU'
  go_enter Tryz.func79, Tryz.ntmps79
  go_upto_region 1 with fail
  generalize (w.alloc (.cells #[.int .i64 3, .string ⟨#[]⟩, .slice A0 ks.length c0] 29)).alloc (.cells #[.int .i64 3, .string ⟨#[]⟩, .slice A1 ks'.length c1] 29) = w1 at bx by' hb1 hsz ⊢
  obtain ⟨x0, x1, x2⟩ := bx.cells
  obtain ⟨y0, y1, y2⟩ := by'.cells
  have HB1 := Lib.hid hb1; have BX := Lib.hid bx; have BY := Lib.hid by'
  clear bx by' hb1 hsz
  go_wp2_with fail
  clear x0 x1 x2 y0 y1 y2 hl2
  go_loopw [70, 2] (fun i b wr => ∃ j : Nat, j ≤ ks.length ∧ i = .int .i64 j ∧ PairAt s x y w1 j b wr) (fun i _ _ => ks.length - (intOf i).toNat)
  case atStart => exact ⟨0, Nat.zero_le _, rfl, Below.refl _ _, .inl ⟨rfl, rfl⟩⟩
  case round =>
    obtain ⟨j, hj, rfl, hbw, hst⟩ := hrel
    by_cases hlt : j < ks.length
    · have hlt' : j < ks'.length := by have := HL0.out; have := HL1.out; omega
      obtain ⟨b, off, B1, C1, rfl, d0, d1, d2, hu⟩ := TermAt.cells hlt HA.out HU.out
      obtain ⟨b', off', B2, C2, rfl, d0', d1', d2', hu'⟩ := TermAt.cells hlt' HA'.out HU'.out
      have hbw0 := HB1.out.trans (hbw.mono HB1.out.size)
      have e0 := cell_later hbw0 d0; have e1 := cell_later hbw0 d1; have e2 := cell_later hbw0 d2
      have hq := below_alloc1 wr (.cells #[.int .i64 ks[j].kind, .string ks[j].name, .slice B1 ks[j].kids.length C1] 29)
      have f0 := cell_later hq (cell_later hbw0 d0'); have f1 := cell_later hq (cell_later hbw0 d1'); have f2 := cell_later hq (cell_later hbw0 d2')
      have hpj := HP.out j hlt
      have hyj := HY.out j hlt'
      have hu1 := (hu.later hbw0).later hq
      have hu2 := (hu'.later hbw0).later hq
      have qx := Box.new wr (.int .i64 ks[j].kind) (.string ks[j].name) (.slice B1 ks[j].kids.length C1)
      have BYq := Lib.hid ((BY.out.later hbw).later hq)
      have hjs : (j : Int) < 2 := by have := HL0.out; omega
      have hi : (j : Int) < (ks.length : Int) := by omega
      have hi' : (j : Int) < (ks'.length : Int) := by omega
      have HLT := Lib.hid hlt
      obtain ⟨pj, hpj'⟩ : ∃ pj, ks[j]'hlt = pj := ⟨_, rfl⟩
      obtain ⟨tj, htj'⟩ : ∃ tj, ks'[j]'hlt' = tj := ⟨_, rfl⟩
      rw [hpj'] at hpj e0 e1 e2 hu1 qx
      rw [htj'] at hyj f0 f1 f2 hu2
      rw [hpj'] at hq f0 f1 f2 hu2 BYq
      clear d0 d1 d2 d0' d1' d2' hu hu' hj hpj' htj'
      have HPJ := Lib.hid hpj; have HYJ := Lib.hid hyj; have HQ := Lib.hid (hbw.trans (hq.mono hbw.size))
      have HST := Lib.hid (show (j = 0 ∧ _ = _) ∨ (j = 1 ∧ BindAt _ _ s x) from (by
        rcases hst with h | h | h
        · exact .inl h
        · exact .inr ⟨h.1, h.2.later hq⟩
        · have := HL0.out; omega : (j = 0 ∧ _ = Value.slice none 0 0) ∨ (j = 1 ∧ BindAt (wr.alloc (.cells #[.int .i64 pj.kind, .string pj.name, .slice B1 pj.kids.length C1] 29)) _ s x)))
      clear hpj hyj hst hbw hq hbw0
      go_upto_region 14 with fail
      generalize wr.alloc (.cells #[.int .i64 pj.kind, .string pj.name, .slice B1 pj.kids.length C1] 29) = wq at f0 f1 f2 hu1 hu2 qx BYq HQ HST ⊢
      obtain ⟨q0, q1, q2⟩ := qx.cells
      obtain ⟨y0, y1, y2⟩ := BYq.out.cells
      have HU1 := Lib.hid hu1; have HU2 := Lib.hid hu2
      clear qx hu1 hu2 e0 e1 e2
      obtain ⟨gq, hgq⟩ : ∃ gq, wr.heap.size = gq := ⟨_, rfl⟩
      rw [hgq] at q0 q1 q2 ⊢
      clear hgq
      rcases HST.out with ⟨hj0, hu2⟩ | ⟨hj1, hbd⟩
      · subst hu2
        have HXJ := Lib.hid (show tj = x by rcases HYJ.out with h | h; exact h.2; omega)
        have HJ0 := Lib.hid hj0
        clear hj0
        (refine wp_region_held_drew (S := (fun W => (W.cell? ⟨gq, 0, none⟩ = some (.int .i64 pj.kind) ∧ W.cell? ⟨gq, 1, none⟩ = some (.string pj.name) ∧ W.cell? ⟨gq, 2, none⟩ = some (.slice B1 pj.kids.length C1)) ∧ W.cell? ⟨w.heap.size + 1, 2, none⟩ = some (.slice (some ⟨b', off', none⟩) ks'.length c1) ∧ (W.cell? ⟨b', off' + j * 3, none⟩ = some (.int .i64 tj.kind) ∧ W.cell? ⟨b', off' + j * 3 + 1, none⟩ = some (.string tj.name) ∧ W.cell? ⟨b', off' + j * 3 + 2, none⟩ = some (.slice B2 tj.kids.length C2)) ∧ TermAt W (.agg #[.int .i64 pj.kind, .string pj.name, .slice B1 pj.kids.length C1]) pj ∧ TermAt W (.agg #[.int .i64 tj.kind, .string tj.name, .slice B2 tj.kids.length C2]) tj ∧ Below w1.heap.size w1 W)) (by kernel_rfl) (show _ ∧ _ ∧ _ ∧ _ ∧ _ ∧ _ from ⟨⟨q0, q1, q2⟩, y2, ⟨f0, f1, f2⟩, HU1.out.drew, HU2.out.drew, HQ.out.drew⟩) (fun hHeld => ?_))
        ((first | (refine wpAnyH_take (i := 0) (v := ?_) (by simp only [List.getElem?_toArray, List.getElem?_cons_zero]; rfl) (by kernel_rfl) (by kernel_rfl) (by kernel_rfl) (by exact fun _ _ _ h => h) (Or.inl ⟨by rfl, ?_⟩) (by assumption) ?_; rotate_left 1; · (intro w hSw; (try dsimp only at hSw); go_simp; (try with_reducible rfl))) | (refine wpAnyH_take (i := 0) (v := undef) (by simp only [List.getElem?_toArray, List.getElem?_cons_zero]; rfl) (by kernel_rfl) (by kernel_rfl) (by kernel_rfl) (by exact fun _ _ _ h => h) (Or.inr ⟨by rfl, rfl⟩) (by assumption) ?_)); (try simp only [Act.put, List.setIfInBounds_toArray, List.set_cons_zero, List.set_cons_succ]))
        ((first | (refine wpAnyH_take (i := 1) (v := ?_) (by simp only [List.getElem?_toArray, List.getElem?_cons_succ, List.getElem?_cons_zero]; rfl) (by kernel_rfl) (by kernel_rfl) (by kernel_rfl) (by exact fun _ _ _ h => h) (Or.inl ⟨by rfl, ?_⟩) (by assumption) ?_; rotate_left 1; · (intro w hSw; (try dsimp only at hSw); go_simp; (try with_reducible rfl))) | (refine wpAnyH_take (i := 1) (v := undef) (by simp only [List.getElem?_toArray, List.getElem?_cons_succ, List.getElem?_cons_zero]; rfl) (by kernel_rfl) (by kernel_rfl) (by kernel_rfl) (by exact fun _ _ _ h => h) (Or.inr ⟨by rfl, rfl⟩) (by assumption) ?_)); (try simp only [Act.put, List.setIfInBounds_toArray, List.set_cons_zero, List.set_cons_succ]))
        ((first | (refine wpAnyH_take (i := 2) (v := ?_) (by simp only [List.getElem?_toArray, List.getElem?_cons_succ, List.getElem?_cons_zero]; rfl) (by kernel_rfl) (by kernel_rfl) (by kernel_rfl) (by exact fun _ _ _ h => h) (Or.inl ⟨by rfl, ?_⟩) (by assumption) ?_; rotate_left 1; · (intro w hSw; (try dsimp only at hSw); go_simp; (try with_reducible rfl))) | (refine wpAnyH_take (i := 2) (v := undef) (by simp only [List.getElem?_toArray, List.getElem?_cons_succ, List.getElem?_cons_zero]; rfl) (by kernel_rfl) (by kernel_rfl) (by kernel_rfl) (by exact fun _ _ _ h => h) (Or.inr ⟨by rfl, rfl⟩) (by assumption) ?_)); (try simp only [Act.put, List.setIfInBounds_toArray, List.set_cons_zero, List.set_cons_succ]))
        ((first | (refine wpAnyH_take (i := 3) (v := ?_) (by simp only [List.getElem?_toArray, List.getElem?_cons_succ, List.getElem?_cons_zero]; rfl) (by kernel_rfl) (by kernel_rfl) (by kernel_rfl) (by exact fun _ _ _ h => h) (Or.inl ⟨by rfl, ?_⟩) (by assumption) ?_; rotate_left 1; · (intro w hSw; (try dsimp only at hSw); go_simp; (try with_reducible rfl))) | (refine wpAnyH_take (i := 3) (v := undef) (by simp only [List.getElem?_toArray, List.getElem?_cons_succ, List.getElem?_cons_zero]; rfl) (by kernel_rfl) (by kernel_rfl) (by kernel_rfl) (by exact fun _ _ _ h => h) (Or.inr ⟨by rfl, rfl⟩) (by assumption) ?_)); (try simp only [Act.put, List.setIfInBounds_toArray, List.set_cons_zero, List.set_cons_succ]))
        ((first | (refine wpAnyH_take (i := 4) (v := ?_) (by simp only [List.getElem?_toArray, List.getElem?_cons_succ, List.getElem?_cons_zero]; rfl) (by kernel_rfl) (by kernel_rfl) (by kernel_rfl) (by exact fun _ _ _ h => h) (Or.inl ⟨by rfl, ?_⟩) (by assumption) ?_; rotate_left 1; · (intro w hSw; (try dsimp only at hSw); go_simp; (try with_reducible rfl))) | (refine wpAnyH_take (i := 4) (v := undef) (by simp only [List.getElem?_toArray, List.getElem?_cons_succ, List.getElem?_cons_zero]; rfl) (by kernel_rfl) (by kernel_rfl) (by kernel_rfl) (by exact fun _ _ _ h => h) (Or.inr ⟨by rfl, rfl⟩) (by assumption) ?_)); (try simp only [Act.put, List.setIfInBounds_toArray, List.set_cons_zero, List.set_cons_succ]))
        ((first | (refine wpAnyH_take (i := 5) (v := ?_) (by simp only [List.getElem?_toArray, List.getElem?_cons_succ, List.getElem?_cons_zero]; rfl) (by kernel_rfl) (by kernel_rfl) (by kernel_rfl) (by exact fun _ _ _ h => h) (Or.inl ⟨by rfl, ?_⟩) (by assumption) ?_; rotate_left 1; · (intro w hSw; (try dsimp only at hSw); go_simp; (try with_reducible rfl))) | (refine wpAnyH_take (i := 5) (v := undef) (by simp only [List.getElem?_toArray, List.getElem?_cons_succ, List.getElem?_cons_zero]; rfl) (by kernel_rfl) (by kernel_rfl) (by kernel_rfl) (by exact fun _ _ _ h => h) (Or.inr ⟨by rfl, rfl⟩) (by assumption) ?_)); (try simp only [Act.put, List.setIfInBounds_toArray, List.set_cons_zero, List.set_cons_succ]))
        ((first | (refine wpAnyH_take (i := 6) (v := ?_) (by simp only [List.getElem?_toArray, List.getElem?_cons_succ, List.getElem?_cons_zero]; rfl) (by kernel_rfl) (by kernel_rfl) (by kernel_rfl) (by exact fun _ _ _ h => h) (Or.inl ⟨by rfl, ?_⟩) (by assumption) ?_; rotate_left 1; · (intro w hSw; (try dsimp only at hSw); go_simp; (try with_reducible rfl))) | (refine wpAnyH_take (i := 6) (v := undef) (by simp only [List.getElem?_toArray, List.getElem?_cons_succ, List.getElem?_cons_zero]; rfl) (by kernel_rfl) (by kernel_rfl) (by kernel_rfl) (by exact fun _ _ _ h => h) (Or.inr ⟨by rfl, rfl⟩) (by assumption) ?_)); (try simp only [Act.put, List.setIfInBounds_toArray, List.set_cons_zero, List.set_cons_succ]))
        (refine wpAnyH_ready (rs := [7]) (by kernel_rfl) (by simp) ?_; refine AllReadyH.cons (by simp only [List.getElem?_toArray, List.getElem?_cons_succ, List.getElem?_cons_zero]; rfl) (fun K hK => ?_) AllReadyH.nil; go_simp; go_at_call 79; refine (match_var_nil s pj tj _ _ _ HPJ.out hHeld.2.2.2.1 hHeld.2.2.2.2.1).mono ?_; rintro e w' ⟨v4, rfl, hv4, hb4⟩; have HV4 := Lib.hid hv4; refine hK.out _ _ (⟨⟨cell_later hb4 hHeld.1.1, cell_later hb4 hHeld.1.2.1, cell_later hb4 hHeld.1.2.2⟩, cell_later hb4 hHeld.2.1, ⟨cell_later hb4 hHeld.2.2.1.1, cell_later hb4 hHeld.2.2.1.2.1, cell_later hb4 hHeld.2.2.1.2.2⟩, hHeld.2.2.2.1.later hb4, hHeld.2.2.2.2.1.later hb4, hHeld.2.2.2.2.2.trans (hb4.mono hHeld.2.2.2.2.2.size)⟩) (fun hHeld => ?_); clear hK K; (try simp only [Act.put, List.setIfInBounds_toArray, List.set_cons_zero, List.set_cons_succ]))
        ((first | (refine wpAnyH_take (i := 8) (v := ?_) (by simp only [List.getElem?_toArray, List.getElem?_cons_succ, List.getElem?_cons_zero]; rfl) (by kernel_rfl) (by kernel_rfl) (by kernel_rfl) (by exact fun _ _ _ h => h) (Or.inl ⟨by rfl, ?_⟩) (by assumption) ?_; rotate_left 1; · (intro w hSw; (try dsimp only at hSw); go_simp; (try with_reducible rfl))) | (refine wpAnyH_take (i := 8) (v := undef) (by simp only [List.getElem?_toArray, List.getElem?_cons_succ, List.getElem?_cons_zero]; rfl) (by kernel_rfl) (by kernel_rfl) (by kernel_rfl) (by exact fun _ _ _ h => h) (Or.inr ⟨by rfl, rfl⟩) (by assumption) ?_)); (try simp only [Act.put, List.setIfInBounds_toArray, List.set_cons_zero, List.set_cons_succ]))
        ((first | (refine wpAnyH_take (i := 9) (v := ?_) (by simp only [List.getElem?_toArray, List.getElem?_cons_succ, List.getElem?_cons_zero]; rfl) (by kernel_rfl) (by kernel_rfl) (by kernel_rfl) (by exact fun _ _ _ h => h) (Or.inl ⟨by rfl, ?_⟩) (by assumption) ?_; rotate_left 1; · (intro w hSw; (try dsimp only at hSw); go_simp; (try with_reducible rfl))) | (refine wpAnyH_take (i := 9) (v := undef) (by simp only [List.getElem?_toArray, List.getElem?_cons_succ, List.getElem?_cons_zero]; rfl) (by kernel_rfl) (by kernel_rfl) (by kernel_rfl) (by exact fun _ _ _ h => h) (Or.inr ⟨by rfl, rfl⟩) (by assumption) ?_)); (try simp only [Act.put, List.setIfInBounds_toArray, List.set_cons_zero, List.set_cons_succ]))
        ((first | (refine wpAnyH_take (i := 10) (v := ?_) (by simp only [List.getElem?_toArray, List.getElem?_cons_succ, List.getElem?_cons_zero]; rfl) (by kernel_rfl) (by kernel_rfl) (by kernel_rfl) (by exact fun _ _ _ h => h) (Or.inl ⟨by rfl, ?_⟩) (by assumption) ?_; rotate_left 1; · (intro w hSw; (try dsimp only at hSw); go_simp; (try with_reducible rfl))) | (refine wpAnyH_take (i := 10) (v := undef) (by simp only [List.getElem?_toArray, List.getElem?_cons_succ, List.getElem?_cons_zero]; rfl) (by kernel_rfl) (by kernel_rfl) (by kernel_rfl) (by exact fun _ _ _ h => h) (Or.inr ⟨by rfl, rfl⟩) (by assumption) ?_)); (try simp only [Act.put, List.setIfInBounds_toArray, List.set_cons_zero, List.set_cons_succ]))
        ((first | (refine wpAnyH_take (i := 11) (v := ?_) (by simp only [List.getElem?_toArray, List.getElem?_cons_succ, List.getElem?_cons_zero]; rfl) (by kernel_rfl) (by kernel_rfl) (by kernel_rfl) (by exact fun _ _ _ h => h) (Or.inl ⟨by rfl, ?_⟩) (by assumption) ?_; rotate_left 1; · (intro w hSw; (try dsimp only at hSw); go_simp; (try with_reducible rfl))) | (refine wpAnyH_take (i := 11) (v := undef) (by simp only [List.getElem?_toArray, List.getElem?_cons_succ, List.getElem?_cons_zero]; rfl) (by kernel_rfl) (by kernel_rfl) (by kernel_rfl) (by exact fun _ _ _ h => h) (Or.inr ⟨by rfl, rfl⟩) (by assumption) ?_)); (try simp only [Act.put, List.setIfInBounds_toArray, List.set_cons_zero, List.set_cons_succ]))
        ((first | (refine wpAnyH_take (i := 12) (v := ?_) (by simp only [List.getElem?_toArray, List.getElem?_cons_succ, List.getElem?_cons_zero]; rfl) (by kernel_rfl) (by kernel_rfl) (by kernel_rfl) (by exact fun _ _ _ h => h) (Or.inl ⟨by rfl, ?_⟩) (by assumption) ?_; rotate_left 1; · (intro w hSw; (try dsimp only at hSw); go_simp; (try with_reducible rfl))) | (refine wpAnyH_take (i := 12) (v := undef) (by simp only [List.getElem?_toArray, List.getElem?_cons_succ, List.getElem?_cons_zero]; rfl) (by kernel_rfl) (by kernel_rfl) (by kernel_rfl) (by exact fun _ _ _ h => h) (Or.inr ⟨by rfl, rfl⟩) (by assumption) ?_)); (try simp only [Act.put, List.setIfInBounds_toArray, List.set_cons_zero, List.set_cons_succ]))
        (refine wpAnyH_done (by kernel_rfl) ?_ _)
        have HB4 := Lib.hid hHeld.2.2.2.2.2
        rw [HXJ.out] at HV4
        clear hHeld q0 q1 q2 y0 y1 y2 f0 f1 f2
        go_wp2_with fail
        go_roundw
        case rel => exact ⟨j + 1, HLT.out, by go_num, HB4.out, .inr (.inl ⟨by have := HJ0.out; omega, HV4.out⟩)⟩
        case measure => have := HLT.out; simp [intOf]; omega
      · have hyj : tj = y := by rcases HYJ.out with h | h; omega; exact h.2
        have HBD := Lib.hid hbd
        have HY1 := Lib.hid (show tj.bulk ≤ 1048576 by rw [hyj]; exact hy1)
        have HYY := Lib.hid hyj
        have HJ1 := Lib.hid hj1
        clear hj1 hbd hyj
        (refine wp_region_held_drew (S := (fun W => (W.cell? ⟨gq, 0, none⟩ = some (.int .i64 pj.kind) ∧ W.cell? ⟨gq, 1, none⟩ = some (.string pj.name) ∧ W.cell? ⟨gq, 2, none⟩ = some (.slice B1 pj.kids.length C1)) ∧ W.cell? ⟨w.heap.size + 1, 2, none⟩ = some (.slice (some ⟨b', off', none⟩) ks'.length c1) ∧ (W.cell? ⟨b', off' + j * 3, none⟩ = some (.int .i64 tj.kind) ∧ W.cell? ⟨b', off' + j * 3 + 1, none⟩ = some (.string tj.name) ∧ W.cell? ⟨b', off' + j * 3 + 2, none⟩ = some (.slice B2 tj.kids.length C2)) ∧ TermAt W (.agg #[.int .i64 pj.kind, .string pj.name, .slice B1 pj.kids.length C1]) pj ∧ TermAt W (.agg #[.int .i64 tj.kind, .string tj.name, .slice B2 tj.kids.length C2]) tj ∧ Below w1.heap.size w1 W ∧ BindAt W u2 s x)) (by kernel_rfl) (show _ ∧ _ ∧ _ ∧ _ ∧ _ ∧ _ ∧ _ from ⟨⟨q0, q1, q2⟩, y2, ⟨f0, f1, f2⟩, HU1.out.drew, HU2.out.drew, HQ.out.drew, HBD.out.later (Below.refl _ _).drew⟩) (fun hHeld => ?_))
        ((first | (refine wpAnyH_take (i := 0) (v := ?_) (by simp only [List.getElem?_toArray, List.getElem?_cons_zero]; rfl) (by kernel_rfl) (by kernel_rfl) (by kernel_rfl) (by exact fun _ _ _ h => h) (Or.inl ⟨by rfl, ?_⟩) (by assumption) ?_; rotate_left 1; · (intro w hSw; (try dsimp only at hSw); go_simp; (try with_reducible rfl))) | (refine wpAnyH_take (i := 0) (v := undef) (by simp only [List.getElem?_toArray, List.getElem?_cons_zero]; rfl) (by kernel_rfl) (by kernel_rfl) (by kernel_rfl) (by exact fun _ _ _ h => h) (Or.inr ⟨by rfl, rfl⟩) (by assumption) ?_)); (try simp only [Act.put, List.setIfInBounds_toArray, List.set_cons_zero, List.set_cons_succ]))
        ((first | (refine wpAnyH_take (i := 1) (v := ?_) (by simp only [List.getElem?_toArray, List.getElem?_cons_succ, List.getElem?_cons_zero]; rfl) (by kernel_rfl) (by kernel_rfl) (by kernel_rfl) (by exact fun _ _ _ h => h) (Or.inl ⟨by rfl, ?_⟩) (by assumption) ?_; rotate_left 1; · (intro w hSw; (try dsimp only at hSw); go_simp; (try with_reducible rfl))) | (refine wpAnyH_take (i := 1) (v := undef) (by simp only [List.getElem?_toArray, List.getElem?_cons_succ, List.getElem?_cons_zero]; rfl) (by kernel_rfl) (by kernel_rfl) (by kernel_rfl) (by exact fun _ _ _ h => h) (Or.inr ⟨by rfl, rfl⟩) (by assumption) ?_)); (try simp only [Act.put, List.setIfInBounds_toArray, List.set_cons_zero, List.set_cons_succ]))
        ((first | (refine wpAnyH_take (i := 2) (v := ?_) (by simp only [List.getElem?_toArray, List.getElem?_cons_succ, List.getElem?_cons_zero]; rfl) (by kernel_rfl) (by kernel_rfl) (by kernel_rfl) (by exact fun _ _ _ h => h) (Or.inl ⟨by rfl, ?_⟩) (by assumption) ?_; rotate_left 1; · (intro w hSw; (try dsimp only at hSw); go_simp; (try with_reducible rfl))) | (refine wpAnyH_take (i := 2) (v := undef) (by simp only [List.getElem?_toArray, List.getElem?_cons_succ, List.getElem?_cons_zero]; rfl) (by kernel_rfl) (by kernel_rfl) (by kernel_rfl) (by exact fun _ _ _ h => h) (Or.inr ⟨by rfl, rfl⟩) (by assumption) ?_)); (try simp only [Act.put, List.setIfInBounds_toArray, List.set_cons_zero, List.set_cons_succ]))
        ((first | (refine wpAnyH_take (i := 3) (v := ?_) (by simp only [List.getElem?_toArray, List.getElem?_cons_succ, List.getElem?_cons_zero]; rfl) (by kernel_rfl) (by kernel_rfl) (by kernel_rfl) (by exact fun _ _ _ h => h) (Or.inl ⟨by rfl, ?_⟩) (by assumption) ?_; rotate_left 1; · (intro w hSw; (try dsimp only at hSw); go_simp; (try with_reducible rfl))) | (refine wpAnyH_take (i := 3) (v := undef) (by simp only [List.getElem?_toArray, List.getElem?_cons_succ, List.getElem?_cons_zero]; rfl) (by kernel_rfl) (by kernel_rfl) (by kernel_rfl) (by exact fun _ _ _ h => h) (Or.inr ⟨by rfl, rfl⟩) (by assumption) ?_)); (try simp only [Act.put, List.setIfInBounds_toArray, List.set_cons_zero, List.set_cons_succ]))
        ((first | (refine wpAnyH_take (i := 4) (v := ?_) (by simp only [List.getElem?_toArray, List.getElem?_cons_succ, List.getElem?_cons_zero]; rfl) (by kernel_rfl) (by kernel_rfl) (by kernel_rfl) (by exact fun _ _ _ h => h) (Or.inl ⟨by rfl, ?_⟩) (by assumption) ?_; rotate_left 1; · (intro w hSw; (try dsimp only at hSw); go_simp; (try with_reducible rfl))) | (refine wpAnyH_take (i := 4) (v := undef) (by simp only [List.getElem?_toArray, List.getElem?_cons_succ, List.getElem?_cons_zero]; rfl) (by kernel_rfl) (by kernel_rfl) (by kernel_rfl) (by exact fun _ _ _ h => h) (Or.inr ⟨by rfl, rfl⟩) (by assumption) ?_)); (try simp only [Act.put, List.setIfInBounds_toArray, List.set_cons_zero, List.set_cons_succ]))
        ((first | (refine wpAnyH_take (i := 5) (v := ?_) (by simp only [List.getElem?_toArray, List.getElem?_cons_succ, List.getElem?_cons_zero]; rfl) (by kernel_rfl) (by kernel_rfl) (by kernel_rfl) (by exact fun _ _ _ h => h) (Or.inl ⟨by rfl, ?_⟩) (by assumption) ?_; rotate_left 1; · (intro w hSw; (try dsimp only at hSw); go_simp; (try with_reducible rfl))) | (refine wpAnyH_take (i := 5) (v := undef) (by simp only [List.getElem?_toArray, List.getElem?_cons_succ, List.getElem?_cons_zero]; rfl) (by kernel_rfl) (by kernel_rfl) (by kernel_rfl) (by exact fun _ _ _ h => h) (Or.inr ⟨by rfl, rfl⟩) (by assumption) ?_)); (try simp only [Act.put, List.setIfInBounds_toArray, List.set_cons_zero, List.set_cons_succ]))
        ((first | (refine wpAnyH_take (i := 6) (v := ?_) (by simp only [List.getElem?_toArray, List.getElem?_cons_succ, List.getElem?_cons_zero]; rfl) (by kernel_rfl) (by kernel_rfl) (by kernel_rfl) (by exact fun _ _ _ h => h) (Or.inl ⟨by rfl, ?_⟩) (by assumption) ?_; rotate_left 1; · (intro w hSw; (try dsimp only at hSw); go_simp; (try with_reducible rfl))) | (refine wpAnyH_take (i := 6) (v := undef) (by simp only [List.getElem?_toArray, List.getElem?_cons_succ, List.getElem?_cons_zero]; rfl) (by kernel_rfl) (by kernel_rfl) (by kernel_rfl) (by exact fun _ _ _ h => h) (Or.inr ⟨by rfl, rfl⟩) (by assumption) ?_)); (try simp only [Act.put, List.setIfInBounds_toArray, List.set_cons_zero, List.set_cons_succ]))
        (refine wpAnyH_ready (rs := [7]) (by kernel_rfl) (by simp) ?_; refine AllReadyH.cons (by simp only [List.getElem?_toArray, List.getElem?_cons_succ, List.getElem?_cons_zero]; rfl) (fun K hK => ?_) AllReadyH.nil; go_simp; go_at_call 79; refine (match_var_one s pj tj x _ _ _ _ HPJ.out hHeld.2.2.2.1 hHeld.2.2.2.2.1 hHeld.2.2.2.2.2.2 hx1 HY1.out).mono ?_; rintro e w' ⟨rfl, hb4⟩; have HV4 := Lib.hid (hHeld.2.2.2.2.2.2.later hb4); refine hK.out _ _ (⟨⟨cell_later hb4 hHeld.1.1, cell_later hb4 hHeld.1.2.1, cell_later hb4 hHeld.1.2.2⟩, cell_later hb4 hHeld.2.1, ⟨cell_later hb4 hHeld.2.2.1.1, cell_later hb4 hHeld.2.2.1.2.1, cell_later hb4 hHeld.2.2.1.2.2⟩, hHeld.2.2.2.1.later hb4, hHeld.2.2.2.2.1.later hb4, hHeld.2.2.2.2.2.1.trans (hb4.mono hHeld.2.2.2.2.2.1.size), hHeld.2.2.2.2.2.2.later hb4⟩) (fun hHeld => ?_); clear hK K; (try simp only [Act.put, List.setIfInBounds_toArray, List.set_cons_zero, List.set_cons_succ]))
        ((first | (refine wpAnyH_take (i := 8) (v := ?_) (by simp only [List.getElem?_toArray, List.getElem?_cons_succ, List.getElem?_cons_zero]; rfl) (by kernel_rfl) (by kernel_rfl) (by kernel_rfl) (by exact fun _ _ _ h => h) (Or.inl ⟨by rfl, ?_⟩) (by assumption) ?_; rotate_left 1; · (intro w hSw; (try dsimp only at hSw); go_simp; (try with_reducible rfl))) | (refine wpAnyH_take (i := 8) (v := undef) (by simp only [List.getElem?_toArray, List.getElem?_cons_succ, List.getElem?_cons_zero]; rfl) (by kernel_rfl) (by kernel_rfl) (by kernel_rfl) (by exact fun _ _ _ h => h) (Or.inr ⟨by rfl, rfl⟩) (by assumption) ?_)); (try simp only [Act.put, List.setIfInBounds_toArray, List.set_cons_zero, List.set_cons_succ]))
        ((first | (refine wpAnyH_take (i := 9) (v := ?_) (by simp only [List.getElem?_toArray, List.getElem?_cons_succ, List.getElem?_cons_zero]; rfl) (by kernel_rfl) (by kernel_rfl) (by kernel_rfl) (by exact fun _ _ _ h => h) (Or.inl ⟨by rfl, ?_⟩) (by assumption) ?_; rotate_left 1; · (intro w hSw; (try dsimp only at hSw); go_simp; (try with_reducible rfl))) | (refine wpAnyH_take (i := 9) (v := undef) (by simp only [List.getElem?_toArray, List.getElem?_cons_succ, List.getElem?_cons_zero]; rfl) (by kernel_rfl) (by kernel_rfl) (by kernel_rfl) (by exact fun _ _ _ h => h) (Or.inr ⟨by rfl, rfl⟩) (by assumption) ?_)); (try simp only [Act.put, List.setIfInBounds_toArray, List.set_cons_zero, List.set_cons_succ]))
        ((first | (refine wpAnyH_take (i := 10) (v := ?_) (by simp only [List.getElem?_toArray, List.getElem?_cons_succ, List.getElem?_cons_zero]; rfl) (by kernel_rfl) (by kernel_rfl) (by kernel_rfl) (by exact fun _ _ _ h => h) (Or.inl ⟨by rfl, ?_⟩) (by assumption) ?_; rotate_left 1; · (intro w hSw; (try dsimp only at hSw); go_simp; (try with_reducible rfl))) | (refine wpAnyH_take (i := 10) (v := undef) (by simp only [List.getElem?_toArray, List.getElem?_cons_succ, List.getElem?_cons_zero]; rfl) (by kernel_rfl) (by kernel_rfl) (by kernel_rfl) (by exact fun _ _ _ h => h) (Or.inr ⟨by rfl, rfl⟩) (by assumption) ?_)); (try simp only [Act.put, List.setIfInBounds_toArray, List.set_cons_zero, List.set_cons_succ]))
        ((first | (refine wpAnyH_take (i := 11) (v := ?_) (by simp only [List.getElem?_toArray, List.getElem?_cons_succ, List.getElem?_cons_zero]; rfl) (by kernel_rfl) (by kernel_rfl) (by kernel_rfl) (by exact fun _ _ _ h => h) (Or.inl ⟨by rfl, ?_⟩) (by assumption) ?_; rotate_left 1; · (intro w hSw; (try dsimp only at hSw); go_simp; (try with_reducible rfl))) | (refine wpAnyH_take (i := 11) (v := undef) (by simp only [List.getElem?_toArray, List.getElem?_cons_succ, List.getElem?_cons_zero]; rfl) (by kernel_rfl) (by kernel_rfl) (by kernel_rfl) (by exact fun _ _ _ h => h) (Or.inr ⟨by rfl, rfl⟩) (by assumption) ?_)); (try simp only [Act.put, List.setIfInBounds_toArray, List.set_cons_zero, List.set_cons_succ]))
        ((first | (refine wpAnyH_take (i := 12) (v := ?_) (by simp only [List.getElem?_toArray, List.getElem?_cons_succ, List.getElem?_cons_zero]; rfl) (by kernel_rfl) (by kernel_rfl) (by kernel_rfl) (by exact fun _ _ _ h => h) (Or.inl ⟨by rfl, ?_⟩) (by assumption) ?_; rotate_left 1; · (intro w hSw; (try dsimp only at hSw); go_simp; (try with_reducible rfl))) | (refine wpAnyH_take (i := 12) (v := undef) (by simp only [List.getElem?_toArray, List.getElem?_cons_succ, List.getElem?_cons_zero]; rfl) (by kernel_rfl) (by kernel_rfl) (by kernel_rfl) (by exact fun _ _ _ h => h) (Or.inr ⟨by rfl, rfl⟩) (by assumption) ?_)); (try simp only [Act.put, List.setIfInBounds_toArray, List.set_cons_zero, List.set_cons_succ]))
        (refine wpAnyH_done (by kernel_rfl) ?_ _)
        have HB4 := Lib.hid hHeld.2.2.2.2.2.1
        rw [HYY.out]
        clear hHeld q0 q1 q2 y0 y1 y2 f0 f1 f2
        obtain ⟨q, hq⟩ : ∃ q, decide (x.cmp y = 0) = q := ⟨_, rfl⟩
        rw [hq]
        have HQQ := Lib.hid hq
        clear hq
        cases q
        · go_wp2_with fail
          go_ret2
          exact ⟨HB1.out.trans (HB4.out.mono HB1.out.size), .inr ⟨HQQ.out, rfl⟩⟩
        · go_wp2_with fail
          go_roundw
          case rel => exact ⟨j + 1, HLT.out, by go_num, HB4.out, .inr (.inr ⟨by have := HJ1.out; omega, HV4.out, of_decide_eq_true HQQ.out⟩)⟩
          case measure => have := HLT.out; simp [intOf]; omega
    · obtain rfl : j = ks.length := by omega
      have hj2 : ks.length = 2 := HL0.out
      rcases hst with h | h | ⟨_, hbd, hc⟩
      · omega
      · omega
      have HBD := Lib.hid hbd; have HC := Lib.hid hc
      have HBW := Lib.hid (HB1.out.trans (hbw.mono HB1.out.size))
      clear hbd hc hbw hj2
      go_wp2_with fail
      go_ret2
      exact ⟨HBW.out, .inl ⟨decide_eq_true HC.out, _, rfl, HBD.out⟩⟩
end Go.Proofs.YtihbmgkbipeakaaGreat

namespace Go.Proofs.YtihbmgkbipeakaaGreat
open Go.RowKit

attribute [local go_sem ↓] Go.wp_at_zero Go.wp_at_succ

theorem TermAt.keepN {w w' : World} {v : Value} {t : T} (h : TermAt w v t) (hg : w.grownBy w' none) : TermAt w' v t :=
  h.keep fun p hp => by
    obtain ⟨u, hu⟩ := Option.isSome_iff_exists.1 hp
    exact World.cell?_of_block (hg.block _ (World.block_lt_of_cell? w p hu) (by simp))

set_option maxRecDepth 100000 in
set_option maxHeartbeats 8000000 in
theorem copy_one (s : ByteArray) (t : T) (v : Value) (w : World) (hv : BindAt w v s t) (hbk : t.bulk ≤ 1048576) :
    Calls Tryz.prog 80 #[v] w fun e w' => ∃ v', e = .returned v' ∧ BindAt w' v' s t ∧ Below w.heap.size w w' := by
  obtain ⟨b, off, cap, A, c, rfl, d0, d1, d2, d3, ht⟩ := hv
  obtain ⟨i0, hi0, hz0, hz1, hz2⟩ := info_parts Tryz.infoB
  have HBK := Lib.hid hbk; have HT := Lib.hid ht
  clear hbk ht
  go_enter Tryz.func80, Tryz.ntmps80
  go_wp2_with fail
  go_loopw [8, 3] (fun i o wr => Below w.heap.size w wr ∧ ((i = .int .i64 0 ∧ o = .slice none 0 0 ∧ w = wr) ∨ (i = .int .i64 1 ∧ BindAt wr o s t))) (fun i _ _ => 1 - (intOf i).toNat)
  case atStart => exact ⟨Below.refl _ _, .inl ⟨rfl, rfl, rfl⟩⟩
  case round =>
    obtain ⟨hbw, hst⟩ := hrel
    rcases hst with ⟨rfl, rfl, rfl⟩ | ⟨rfl, hbd⟩
    · clear hbw
      have hw2 := below_alloc1 w (.cells #[.string s, .int .i64 t.kind, .string t.name, .slice A t.kids.length c] 66)
      have hnw := heap_alloc_new w (.cells #[.string s, .int .i64 t.kind, .string t.name, .slice A t.kids.length c] 66)
      have HW2 := Lib.hid hw2
      have HT2 := Lib.hid (HT.out.later hw2)
      clear hw2
      go_upto_region 5 with fail
      obtain ⟨g5, hg5⟩ : ∃ g5, w.heap.size = g5 := ⟨_, rfl⟩
      rw [show (⟨w.heap.size, 0, none⟩ : Addr) = ⟨g5, 0, none⟩ by rw [hg5]]
      rw [hg5] at hnw
      generalize w.alloc (.cells #[.string s, .int .i64 t.kind, .string t.name, .slice A t.kids.length c] 66) = w2 at hnw HW2 HT2 ⊢
      have y0 : w2.cell? ⟨g5, 0, none⟩ = some (.string s) := by unfold World.cell?; rw [hnw]; rfl
      have y1 : w2.cell? ⟨g5, 1, none⟩ = some (.int .i64 t.kind) := by unfold World.cell?; rw [hnw]; rfl
      have y2 : w2.cell? ⟨g5, 2, none⟩ = some (.string t.name) := by unfold World.cell?; rw [hnw]; rfl
      have y3 : w2.cell? ⟨g5, 3, none⟩ = some (.slice A t.kids.length c) := by unfold World.cell?; rw [hnw]; rfl
      clear hnw hg5 d0 d1 d2 d3
      refine wp_region_any (by kernel_rfl) ?_
      (try (change wpAny _ _ _ _ _ _ _ (World.drew _)))
      (refine wpAny_take (i := 0) (v := ?_) (by simp only [List.getElem?_toArray, List.getElem?_cons_zero]; rfl) (by kernel_rfl) (by kernel_rfl) (by kernel_rfl) (by exact fun _ _ _ h => h) (Or.inl ⟨by rfl, ?_⟩) ?_; rotate_left 1; · (intro w; go_simp; (try with_reducible rfl)))
      (refine wpAny_take (i := 1) (v := ?_) (by simp only [List.getElem?_toArray, List.getElem?_cons_succ, List.getElem?_cons_zero]; rfl) (by kernel_rfl) (by kernel_rfl) (by kernel_rfl) (by exact fun _ _ _ h => h) (Or.inl ⟨by rfl, ?_⟩) ?_; rotate_left 1; · (intro w; go_simp; (try with_reducible rfl)))
      (refine wpAny_take (i := 3) (v := ?_) (by simp only [List.getElem?_toArray, List.getElem?_cons_succ, List.getElem?_cons_zero]; rfl) (by kernel_rfl) (by kernel_rfl) (by kernel_rfl) (by exact fun _ _ _ h => h) (Or.inl ⟨by rfl, ?_⟩) ?_; rotate_left 1; · (intro w; go_simp; (try with_reducible rfl)))
      refine wpAny_ready (rs := [2, 4]) (by kernel_rfl) (by simp) ?_
      refine AllReady.cons (by simp only [List.getElem?_toArray, List.getElem?_cons_succ, List.getElem?_cons_zero]; rfl) (fun K hK => ?_) ?_
      · go_simp
        (first | (refine hK _ _ ?_; clear hK K) | skip)
        refine wpAny_ready (rs := [4]) (by kernel_rfl) (by simp) ?_
        refine AllReady.cons (by simp only [List.getElem?_toArray, List.getElem?_cons_succ, List.getElem?_cons_zero]; rfl) (fun K hK => ?_) ?_
        · go_simp
          (first | (refine hK _ _ ?_; clear hK K) | skip)
          refine wpAny_ready (rs := [5]) (by kernel_rfl) (by simp) ?_
          refine AllReady.cons (by simp only [List.getElem?_toArray, List.getElem?_cons_succ, List.getElem?_cons_zero]; rfl) (fun K hK => ?_) ?_
          · (go_simp; go_at_call 53; refine (ocopy (t.bulk + 1) t _ _ (by omega) HT2.out.drew HBK.out).mono ?_; rintro e w3 ⟨A3, C3, rfl, hti, hb3⟩; have hb3' := below_undrew hb3; have z0 := cell_later hb3' y0; have z1 := cell_later hb3' y1; have z2 := cell_later hb3' y2; have z3 := cell_later hb3' y3; have HOWN3 := Lib.hid (World.ownsRow_nil (w3.alloc (.cells #[.string s, .int .i64 t.kind, .string t.name, .slice A3 t.kids.length C3] 66)) w.heap.size 66 4); have HONE := Lib.hid (bind_one s t A3 C3); have HBS := Lib.hid (show w.heap.size ≤ (w3.alloc (.cells #[.string s, .int .i64 t.kind, .string t.name, .slice A3 t.kids.length C3] 66)).heap.size by rw [size_alloc1]; have := hb3'.size; have := HW2.out.size; omega))
            (first | (refine hK _ _ ?_; clear hK K) | skip)
            (refine wpAny_take (i := 6) (v := ?_) (by simp only [List.getElem?_toArray, List.getElem?_cons_succ, List.getElem?_cons_zero]; rfl) (by kernel_rfl) (by kernel_rfl) (by kernel_rfl) (by exact fun _ _ _ h => h) (Or.inl ⟨by rfl, ?_⟩) ?_; rotate_left 1; · (intro w; go_simp; (try with_reducible rfl)))
            refine wpAny_ready (rs := [7]) (by kernel_rfl) (by simp) ?_
            refine AllReady.cons (by simp only [List.getElem?_toArray, List.getElem?_cons_succ, List.getElem?_cons_zero]; rfl) (fun K hK => ?_) ?_
            · go_simp
              (first | (refine hK _ _ ?_; clear hK K) | skip)
              refine wpAny_ready (rs := [8]) (by kernel_rfl) (by simp) ?_
              refine AllReady.cons (by simp only [List.getElem?_toArray, List.getElem?_cons_succ, List.getElem?_cons_zero]; rfl) (fun K hK => ?_) ?_
              · (refine step_append_lies _ (by rfl) _ _ _ (by rfl) w.heap.size 66 i0 _ 4 64 Tryz.underlying62 hi0 hz0 hz1 hz2 rfl (by omega) _ 0 _ (by rfl) HOWN3.out ⟨_, 0, none⟩ 1 1 _ (by rfl) (by rfl) (World.news_of_block (heap_alloc_new _ _)) HONE.out (by omega) (by unfold maxLen; omega) (by omega) HBS.out _ rfl ?_; intro g cap4 w4 hown4 hgrow hat hlt4; go_simp)
                (first | (refine hK _ _ ?_; clear hK K) | skip)
                (refine wpAny_take (i := 9) (v := ?_) (by simp only [List.getElem?_toArray, List.getElem?_cons_succ, List.getElem?_cons_zero]; rfl) (by kernel_rfl) (by kernel_rfl) (by kernel_rfl) (by exact fun _ _ _ h => h) (Or.inl ⟨by rfl, ?_⟩) ?_; rotate_left 1; · (intro w; go_simp; (try with_reducible rfl)))
                refine wpAny_done (by kernel_rfl) ?_ _
                have hb5 := hb3'.trans ((below_alloc1 w3 (.cells #[.string s, .int .i64 t.kind, .string t.name, .slice A3 t.kids.length C3] 66)).mono hb3'.size)
                have hb6 : Below w.heap.size w w4 := (HW2.out.trans (hb5.mono HW2.out.size)).grown hgrow HBS.out (fun k hk => by cases hk)
                have HBI := Lib.hid (own_bind (t := t) hown4 (((hti.at.later (below_alloc1 w3 (.cells #[.string s, .int .i64 t.kind, .string t.name, .slice A3 t.kids.length C3] 66))).keepN hgrow)))
                have HB6 := Lib.hid hb6
                clear hb5 hb6 hown4 hgrow hat hlt4 hti z0 z1 z2 z3
                go_wp2_with fail
                go_roundw
                case rel => exact ⟨HB6.out, .inr ⟨rfl, HBI.out⟩⟩
                case measure => simp [intOf]
              exact AllReady.nil
            exact AllReady.nil
          exact AllReady.nil
        exact AllReady.nil
      refine AllReady.cons (by simp only [List.getElem?_toArray, List.getElem?_cons_succ, List.getElem?_cons_zero]; rfl) (fun K hK => ?_) ?_
      · go_simp
        (first | (refine hK _ _ ?_; clear hK K) | skip)
        refine wpAny_ready (rs := [2, 5]) (by kernel_rfl) (by simp) ?_
        refine AllReady.cons (by simp only [List.getElem?_toArray, List.getElem?_cons_succ, List.getElem?_cons_zero]; rfl) (fun K hK => ?_) ?_
        · go_simp
          (first | (refine hK _ _ ?_; clear hK K) | skip)
          refine wpAny_ready (rs := [5]) (by kernel_rfl) (by simp) ?_
          refine AllReady.cons (by simp only [List.getElem?_toArray, List.getElem?_cons_succ, List.getElem?_cons_zero]; rfl) (fun K hK => ?_) ?_
          · (go_simp; go_at_call 53; refine (ocopy (t.bulk + 1) t _ _ (by omega) HT2.out.drew HBK.out).mono ?_; rintro e w3 ⟨A3, C3, rfl, hti, hb3⟩; have hb3' := below_undrew hb3; have z0 := cell_later hb3' y0; have z1 := cell_later hb3' y1; have z2 := cell_later hb3' y2; have z3 := cell_later hb3' y3; have HOWN3 := Lib.hid (World.ownsRow_nil (w3.alloc (.cells #[.string s, .int .i64 t.kind, .string t.name, .slice A3 t.kids.length C3] 66)) w.heap.size 66 4); have HONE := Lib.hid (bind_one s t A3 C3); have HBS := Lib.hid (show w.heap.size ≤ (w3.alloc (.cells #[.string s, .int .i64 t.kind, .string t.name, .slice A3 t.kids.length C3] 66)).heap.size by rw [size_alloc1]; have := hb3'.size; have := HW2.out.size; omega))
            (first | (refine hK _ _ ?_; clear hK K) | skip)
            (refine wpAny_take (i := 6) (v := ?_) (by simp only [List.getElem?_toArray, List.getElem?_cons_succ, List.getElem?_cons_zero]; rfl) (by kernel_rfl) (by kernel_rfl) (by kernel_rfl) (by exact fun _ _ _ h => h) (Or.inl ⟨by rfl, ?_⟩) ?_; rotate_left 1; · (intro w; go_simp; (try with_reducible rfl)))
            refine wpAny_ready (rs := [7]) (by kernel_rfl) (by simp) ?_
            refine AllReady.cons (by simp only [List.getElem?_toArray, List.getElem?_cons_succ, List.getElem?_cons_zero]; rfl) (fun K hK => ?_) ?_
            · go_simp
              (first | (refine hK _ _ ?_; clear hK K) | skip)
              refine wpAny_ready (rs := [8]) (by kernel_rfl) (by simp) ?_
              refine AllReady.cons (by simp only [List.getElem?_toArray, List.getElem?_cons_succ, List.getElem?_cons_zero]; rfl) (fun K hK => ?_) ?_
              · (refine step_append_lies _ (by rfl) _ _ _ (by rfl) w.heap.size 66 i0 _ 4 64 Tryz.underlying62 hi0 hz0 hz1 hz2 rfl (by omega) _ 0 _ (by rfl) HOWN3.out ⟨_, 0, none⟩ 1 1 _ (by rfl) (by rfl) (World.news_of_block (heap_alloc_new _ _)) HONE.out (by omega) (by unfold maxLen; omega) (by omega) HBS.out _ rfl ?_; intro g cap4 w4 hown4 hgrow hat hlt4; go_simp)
                (first | (refine hK _ _ ?_; clear hK K) | skip)
                (refine wpAny_take (i := 9) (v := ?_) (by simp only [List.getElem?_toArray, List.getElem?_cons_succ, List.getElem?_cons_zero]; rfl) (by kernel_rfl) (by kernel_rfl) (by kernel_rfl) (by exact fun _ _ _ h => h) (Or.inl ⟨by rfl, ?_⟩) ?_; rotate_left 1; · (intro w; go_simp; (try with_reducible rfl)))
                refine wpAny_done (by kernel_rfl) ?_ _
                have hb5 := hb3'.trans ((below_alloc1 w3 (.cells #[.string s, .int .i64 t.kind, .string t.name, .slice A3 t.kids.length C3] 66)).mono hb3'.size)
                have hb6 : Below w.heap.size w w4 := (HW2.out.trans (hb5.mono HW2.out.size)).grown hgrow HBS.out (fun k hk => by cases hk)
                have HBI := Lib.hid (own_bind (t := t) hown4 (((hti.at.later (below_alloc1 w3 (.cells #[.string s, .int .i64 t.kind, .string t.name, .slice A3 t.kids.length C3] 66))).keepN hgrow)))
                have HB6 := Lib.hid hb6
                clear hb5 hb6 hown4 hgrow hat hlt4 hti z0 z1 z2 z3
                go_wp2_with fail
                go_roundw
                case rel => exact ⟨HB6.out, .inr ⟨rfl, HBI.out⟩⟩
                case measure => simp [intOf]
              exact AllReady.nil
            exact AllReady.nil
          exact AllReady.nil
        refine AllReady.cons (by simp only [List.getElem?_toArray, List.getElem?_cons_succ, List.getElem?_cons_zero]; rfl) (fun K hK => ?_) ?_
        · (go_simp; go_at_call 53; refine (ocopy (t.bulk + 1) t _ _ (by omega) HT2.out.drew HBK.out).mono ?_; rintro e w3 ⟨A3, C3, rfl, hti, hb3⟩; have hb3' := below_undrew hb3; have z0 := cell_later hb3' y0; have z1 := cell_later hb3' y1; have z2 := cell_later hb3' y2; have z3 := cell_later hb3' y3; have HOWN3 := Lib.hid (World.ownsRow_nil (w3.alloc (.cells #[.string s, .int .i64 t.kind, .string t.name, .slice A3 t.kids.length C3] 66)) w.heap.size 66 4); have HONE := Lib.hid (bind_one s t A3 C3); have HBS := Lib.hid (show w.heap.size ≤ (w3.alloc (.cells #[.string s, .int .i64 t.kind, .string t.name, .slice A3 t.kids.length C3] 66)).heap.size by rw [size_alloc1]; have := hb3'.size; have := HW2.out.size; omega))
          (first | (refine hK _ _ ?_; clear hK K) | skip)
          refine wpAny_ready (rs := [2]) (by kernel_rfl) (by simp) ?_
          refine AllReady.cons (by simp only [List.getElem?_toArray, List.getElem?_cons_succ, List.getElem?_cons_zero]; rfl) (fun K hK => ?_) ?_
          · go_simp
            (first | (refine hK _ _ ?_; clear hK K) | skip)
            (refine wpAny_take (i := 6) (v := ?_) (by simp only [List.getElem?_toArray, List.getElem?_cons_succ, List.getElem?_cons_zero]; rfl) (by kernel_rfl) (by kernel_rfl) (by kernel_rfl) (by exact fun _ _ _ h => h) (Or.inl ⟨by rfl, ?_⟩) ?_; rotate_left 1; · (intro w; go_simp; (try with_reducible rfl)))
            refine wpAny_ready (rs := [7]) (by kernel_rfl) (by simp) ?_
            refine AllReady.cons (by simp only [List.getElem?_toArray, List.getElem?_cons_succ, List.getElem?_cons_zero]; rfl) (fun K hK => ?_) ?_
            · go_simp
              (first | (refine hK _ _ ?_; clear hK K) | skip)
              refine wpAny_ready (rs := [8]) (by kernel_rfl) (by simp) ?_
              refine AllReady.cons (by simp only [List.getElem?_toArray, List.getElem?_cons_succ, List.getElem?_cons_zero]; rfl) (fun K hK => ?_) ?_
              · (refine step_append_lies _ (by rfl) _ _ _ (by rfl) w.heap.size 66 i0 _ 4 64 Tryz.underlying62 hi0 hz0 hz1 hz2 rfl (by omega) _ 0 _ (by rfl) HOWN3.out ⟨_, 0, none⟩ 1 1 _ (by rfl) (by rfl) (World.news_of_block (heap_alloc_new _ _)) HONE.out (by omega) (by unfold maxLen; omega) (by omega) HBS.out _ rfl ?_; intro g cap4 w4 hown4 hgrow hat hlt4; go_simp)
                (first | (refine hK _ _ ?_; clear hK K) | skip)
                (refine wpAny_take (i := 9) (v := ?_) (by simp only [List.getElem?_toArray, List.getElem?_cons_succ, List.getElem?_cons_zero]; rfl) (by kernel_rfl) (by kernel_rfl) (by kernel_rfl) (by exact fun _ _ _ h => h) (Or.inl ⟨by rfl, ?_⟩) ?_; rotate_left 1; · (intro w; go_simp; (try with_reducible rfl)))
                refine wpAny_done (by kernel_rfl) ?_ _
                have hb5 := hb3'.trans ((below_alloc1 w3 (.cells #[.string s, .int .i64 t.kind, .string t.name, .slice A3 t.kids.length C3] 66)).mono hb3'.size)
                have hb6 : Below w.heap.size w w4 := (HW2.out.trans (hb5.mono HW2.out.size)).grown hgrow HBS.out (fun k hk => by cases hk)
                have HBI := Lib.hid (own_bind (t := t) hown4 (((hti.at.later (below_alloc1 w3 (.cells #[.string s, .int .i64 t.kind, .string t.name, .slice A3 t.kids.length C3] 66))).keepN hgrow)))
                have HB6 := Lib.hid hb6
                clear hb5 hb6 hown4 hgrow hat hlt4 hti z0 z1 z2 z3
                go_wp2_with fail
                go_roundw
                case rel => exact ⟨HB6.out, .inr ⟨rfl, HBI.out⟩⟩
                case measure => simp [intOf]
              exact AllReady.nil
            exact AllReady.nil
          exact AllReady.nil
        exact AllReady.nil
      exact AllReady.nil
    · have HBD := Lib.hid hbd; have HBW := Lib.hid hbw
      clear hbd hbw
      go_wp2_with fail
      go_ret
      exact ⟨_, rfl, HBD.out, HBW.out⟩

set_option maxRecDepth 100000 in
set_option maxHeartbeats 8000000 in
theorem omatch_pair (s : ByteArray) (x y p t : T) (pv v : Value) (w : World) (hpe : p = .mk 3 ⟨#[]⟩ [.mk 2 s [], .mk 2 s []]) (hte : t = .mk 3 ⟨#[]⟩ [x, y]) (hp : TermAt w pv p) (ht : TermAt w v t) (hx1 : x.bulk ≤ 1048576) (hy1 : y.bulk ≤ 1048576)
    (hpb : p.bulk ≤ 1048576) (htb : t.bulk ≤ 1048576) (hpv : p.valid = true) (htg : t.ground = true) (htn : t.isN = true) :
    Calls Tryz.prog 35 #[pv, v, .slice none 0 0] w (PairPost s x (decide (x.cmp y = 0)) w) := by
  have HM := Lib.hid (fun a b W h1 h2 => match_pair s x y p t a b W hpe hte h1 h2 hx1 hy1)
  have HV := Lib.hid (fun a W h => ovalid p a W h hpb true 0 hpv (.inl ⟨rfl, rfl⟩))
  have HG := Lib.hid (fun a W h => oground t a W h htb)
  have HN := Lib.hid (fun a W h => oisn t a W h htb)
  rw [htg] at HG; rw [htn] at HN
  have HCP := Lib.hid (fun v' W (h : BindAt W v' s x) => copy_one s x v' W h hx1)
  obtain ⟨q, hq⟩ : ∃ q, decide (x.cmp y = 0) = q := ⟨_, rfl⟩
  rw [hq] at HM ⊢
  clear hpe hte hx1 hy1 hpb htb hpv htg htn hq
  obtain ⟨A0, c0, rfl⟩ := TermIn.view hp.inAll
  obtain ⟨A1, c1, rfl⟩ := TermIn.view ht.inAll
  obtain ⟨bx, by', hb1, hsz⟩ := box_two w (.int .i64 p.kind) (.string p.name) (.slice A0 p.kids.length c0) (.int .i64 t.kind) (.string t.name) (.slice A1 t.kids.length c1)
  have HT := Lib.hid ht; have HP := Lib.hid hp
  clear hp ht
  go_enter Tryz.func35, Tryz.ntmps35
  go_upto_region 1 with fail
  generalize (w.alloc (.cells #[.int .i64 p.kind, .string p.name, .slice A0 p.kids.length c0] 29)).alloc (.cells #[.int .i64 t.kind, .string t.name, .slice A1 t.kids.length c1] 29) = w1 at bx by' hb1 hsz ⊢
  obtain ⟨x0, x1, x2⟩ := bx.cells
  have HB1 := Lib.hid hb1; have BX := Lib.hid bx; have BY := Lib.hid by'
  clear bx by' hb1 hsz
  go_wp2_with fail
  refine (HV.out _ _ (HP.out.later HB1.out)).mono ?_; rintro e w2 ⟨rfl, hb2⟩
  have HB2 := Lib.hid (HB1.out.trans (hb2.mono HB1.out.size)); have BX2 := Lib.hid (BX.out.later hb2); have BY2 := Lib.hid (BY.out.later hb2)
  clear hb2 x0 x1 x2
  obtain ⟨y0, y1, y2⟩ := BY2.out.cells
  go_wp2_with fail
  refine (HG.out _ _ (HT.out.later HB2.out)).mono ?_; rintro e w3 ⟨rfl, hb3⟩
  have HB3 := Lib.hid (HB2.out.trans (hb3.mono HB2.out.size)); have BX3 := Lib.hid (BX2.out.later hb3); have BY3 := Lib.hid (BY2.out.later hb3)
  clear hb3 y0 y1 y2
  obtain ⟨y0, y1, y2⟩ := BY3.out.cells
  go_wp2_with fail
  refine (HN.out _ _ (HT.out.later HB3.out)).mono ?_; rintro e w4 ⟨rfl, hb4⟩
  have HB4 := Lib.hid (HB3.out.trans (hb4.mono HB3.out.size)); have BX4 := Lib.hid (BX3.out.later hb4); have BY4 := Lib.hid (BY3.out.later hb4)
  clear hb4 y0 y1 y2
  go_wp2_with fail
  refine (proper_nil _).mono ?_; rintro e w5 ⟨rfl, rfl⟩
  obtain ⟨x0, x1, x2⟩ := BX4.out.cells
  obtain ⟨y0, y1, y2⟩ := BY4.out.cells
  go_wp2_with fail
  refine (HM.out _ _ _ (HP.out.later HB4.out) (HT.out.later HB4.out)).mono ?_; rintro e w6 ⟨hb6, hres⟩
  have HB6 := Lib.hid (HB4.out.trans (hb6.mono HB4.out.size))
  clear hb6 x0 x1 x2 y0 y1 y2
  rcases hres with ⟨rfl, v', rfl, hv'⟩ | ⟨rfl, rfl⟩
  · have HV' := Lib.hid hv'
    clear hv'
    go_wp2_with fail
    refine (HCP.out _ _ HV'.out).mono ?_; rintro e w7 ⟨v7, rfl, hv7, hb7⟩
    have HV7 := Lib.hid hv7; have HB7 := Lib.hid (HB6.out.trans (hb7.mono HB6.out.size))
    clear hv7 hb7
    go_wp2_with fail
    go_ret2
    exact ⟨HB7.out, .inl ⟨rfl, _, rfl, HV7.out⟩⟩
  · go_wp2_with fail
    go_ret2
    exact ⟨HB6.out, .inr ⟨rfl, rfl⟩⟩
end Go.Proofs.YtihbmgkbipeakaaGreat
