/- Several texts in one: StrBds, StrIns. -/
import Derived.Test.YtihbmgkbipeakaaGreatWebG9
import Derived.Test.YtihbmgkbipeakaaGreatWebG13
import Derived.Test.YtihbmgkbipeakaaGreatWebG4
import Derived.Lib.SliceRun
import Derived.Lib.AppendZerosOnto
import Derived.Lib.Overlaps
import Derived.Laws.CopyRow
import Derived.Laws.NewBlocks
import Derived.Deep.RegionLaw
namespace Go.Proofs.YtihbmgkbipeakaaGreat
open Go.RowKit

/-- These cells hold these bindings. -/
def BC (w : World) (xs : List Value) (L : List Bd) : Prop :=
  xs.length = L.length * 4 ∧ ∀ i (h : i < L.length), ∃ A c, xs[i * 4]? = some (.string L[i].var) ∧ xs[i * 4 + 1]? = some (.int .i64 L[i].t.kind) ∧ xs[i * 4 + 2]? = some (.string L[i].t.name) ∧ xs[i * 4 + 3]? = some (.slice A L[i].t.kids.length c) ∧
    TermAt w (.agg #[.int .i64 L[i].t.kind, .string L[i].t.name, .slice A L[i].t.kids.length c]) L[i].t ∧ L[i].var.size ≤ maxLen
theorem BC.later {w w' : World} {xs : List Value} {L : List Bd} (h : BC w xs L) (hb : Below w.heap.size w w') : BC w' xs L :=
  ⟨h.1, fun i hi => by obtain ⟨A, c, a0, a1, a2, a3, ht, hs⟩ := h.2 i hi; exact ⟨A, c, a0, a1, a2, a3, ht.later hb, hs⟩⟩
theorem BC.nil (w : World) : BC w [] [] := ⟨rfl, fun i h => by simp at h⟩
theorem BC.one {w : World} {s : ByteArray} {A : Option Addr} {c : Nat} {t : T} (h : TermAt w (.agg #[.int .i64 t.kind, .string t.name, .slice A t.kids.length c]) t) (hs : s.size ≤ maxLen) : BC w [.string s, .int .i64 t.kind, .string t.name, .slice A t.kids.length c] [⟨s, t⟩] :=
  ⟨rfl, fun i hi => by
    obtain rfl : i = 0 := by simpa using hi
    exact ⟨A, c, rfl, rfl, rfl, rfl, h, hs⟩⟩
theorem BC.append {w : World} {xs ys : List Value} {L M : List Bd} (h : BC w xs L) (k : BC w ys M) : BC w (xs ++ ys) (L ++ M) := by
  refine ⟨by rw [List.length_append, List.length_append, h.1, k.1]; omega, fun i hi => ?_⟩
  have h1 := h.1
  rcases Nat.lt_or_ge i L.length with g | g
  · obtain ⟨A, c, a0, a1, a2, a3, ht, hs⟩ := h.2 i g
    rw [List.getElem_append_left g]
    refine ⟨A, c, ?_, ?_, ?_, ?_, ht, hs⟩
    all_goals rw [List.getElem?_append_left (by omega)]; assumption
  · have hm : i - L.length < M.length := by simp at hi; omega
    obtain ⟨A, c, a0, a1, a2, a3, ht, hs⟩ := k.2 (i - L.length) hm
    rw [List.getElem_append_right g]
    refine ⟨A, c, ?_, ?_, ?_, ?_, ht, hs⟩
    · rw [List.getElem?_append_right (by omega), ← a0]; congr 1; omega
    · rw [List.getElem?_append_right (by omega), ← a1]; congr 1; omega
    · rw [List.getElem?_append_right (by omega), ← a2]; congr 1; omega
    · rw [List.getElem?_append_right (by omega), ← a3]; congr 1; omega
theorem BC.take {w : World} {xs : List Value} {L : List Bd} (h : BC w xs L) (j : Nat) : BC w (xs.take (j * 4)) (L.take j) := by
  refine ⟨by rw [List.length_take, List.length_take, h.1]; omega, fun i hi => ?_⟩
  have hj : i < j ∧ i < L.length := by rw [List.length_take] at hi; omega
  obtain ⟨A, c, a0, a1, a2, a3, ht, hs⟩ := h.2 i hj.2
  rw [List.getElem_take]
  refine ⟨A, c, ?_, ?_, ?_, ?_, ht, hs⟩
  all_goals rw [List.getElem?_take, if_pos (by omega)]; assumption
theorem BC.drop {w : World} {xs : List Value} {L : List Bd} (h : BC w xs L) (j : Nat) : BC w (xs.drop (j * 4)) (L.drop j) := by
  refine ⟨by rw [List.length_drop, List.length_drop, h.1]; omega, fun i hi => ?_⟩
  have hj : j + i < L.length := by rw [List.length_drop] at hi; omega
  obtain ⟨A, c, a0, a1, a2, a3, ht, hs⟩ := h.2 (j + i) hj
  rw [List.getElem_drop]
  refine ⟨A, c, ?_, ?_, ?_, ?_, ht, hs⟩
  · rw [List.getElem?_drop, ← a0]; congr 1; omega
  · rw [List.getElem?_drop, ← a1]; congr 1; omega
  · rw [List.getElem?_drop, ← a2]; congr 1; omega
  · rw [List.getElem?_drop, ← a3]; congr 1; omega
theorem BC.one' {w : World} {xs : List Value} {L : List Bd} (h : BC w xs L) : ∀ u ∈ xs, u.oneCell' = true := by
  intro u hu
  obtain ⟨j, hj, rfl⟩ := List.getElem_of_mem hu
  have h1 := h.1
  obtain ⟨A, c, a0, a1, a2, a3, ht, hs⟩ := h.2 (j / 4) (by omega)
  have e : xs[j]? = some xs[j] := List.getElem?_eq_getElem hj
  rcases (show j = j / 4 * 4 ∨ j = j / 4 * 4 + 1 ∨ j = j / 4 * 4 + 2 ∨ j = j / 4 * 4 + 3 by omega) with g | g | g | g
  · rw [← g, e] at a0; injection a0 with a0; rw [a0]; rfl
  · rw [← g, e] at a1; injection a1 with a1; rw [a1]; rfl
  · rw [← g, e] at a2; injection a2 with a2; rw [a2]; rfl
  · rw [← g, e] at a3; injection a3 with a3; rw [a3]; rfl
/-- Bindings that can be read: nil, or a row of some. -/
def BindsAt (w : World) (v : Value) (L : List Bd) : Prop :=
  (v = .slice none 0 0 ∧ L = []) ∨ ∃ b off cap xs, v = .slice (some ⟨b, off, none⟩) L.length cap ∧ 0 < L.length ∧ L.length ≤ cap ∧ cap ≤ maxLen ∧ BC w xs L ∧ ∀ j u, xs[j]? = some u → w.cell? ⟨b, off + j, none⟩ = some u
theorem BindsAt.nil (w : World) : BindsAt w (.slice none 0 0) [] := .inl ⟨rfl, rfl⟩
theorem BindsAt.later {w w' : World} {v : Value} {L : List Bd} (h : BindsAt w v L) (hb : Below w.heap.size w w') : BindsAt w' v L := by
  rcases h with h | ⟨b, off, cap, xs, e, h0, h1, h2, h3, h4⟩
  · exact .inl h
  · exact .inr ⟨b, off, cap, xs, e, h0, h1, h2, h3.later hb, fun j u hu => cell_later hb (h4 j u hu)⟩
theorem BindsAt.shape {w : World} {v : Value} {L : List Bd} (h : BindsAt w v L) : ∃ A cap, v = .slice A L.length cap ∧ L.length ≤ cap ∧ cap ≤ maxLen := by
  rcases h with ⟨rfl, rfl⟩ | ⟨b, off, cap, xs, e, _, h1, h2, _⟩
  · exact ⟨none, 0, rfl, Nat.le_refl _, Nat.zero_le _⟩
  · exact ⟨_, cap, e, h1, h2⟩
/-- The cells of one of them. -/
theorem BindsAt.get {w : World} {A : Option Addr} {cap : Nat} {L : List Bd} (h : BindsAt w (.slice A L.length cap) L) {i : Nat} (hi : i < L.length) :
    ∃ b off B c, A = some ⟨b, off, none⟩ ∧ w.cell? ⟨b, off + i * 4, none⟩ = some (.string L[i].var) ∧ w.cell? ⟨b, off + i * 4 + 1, none⟩ = some (.int .i64 L[i].t.kind) ∧ w.cell? ⟨b, off + i * 4 + 2, none⟩ = some (.string L[i].t.name) ∧ w.cell? ⟨b, off + i * 4 + 3, none⟩ = some (.slice B L[i].t.kids.length c) ∧
      TermAt w (.agg #[.int .i64 L[i].t.kind, .string L[i].t.name, .slice B L[i].t.kids.length c]) L[i].t ∧ L[i].var.size ≤ maxLen := by
  rcases h with ⟨_, rfl⟩ | ⟨b, off, cap', xs, e, h0, h1, h2, h3, h4⟩
  · simp at hi
  · injection e with e1 e2 e3
    subst e1; subst e3
    obtain ⟨B, c, a0, a1, a2, a3, ht, hs⟩ := h3.2 i hi
    exact ⟨b, off, B, c, rfl, h4 _ _ a0, h4 _ _ a1, h4 _ _ a2, h4 _ _ a3, ht, hs⟩
/-- A row of the call's own that holds them. -/
theorem BindsAt.of_own {w : World} {base n cap : Nat} {A : Option Addr} {xs : List Value} {L : List Bd} (h : w.ownsRow base 66 4 (.slice A n cap) n xs) (hn : n = L.length) (hc : BC w xs L) (h0 : 0 < n) : BindsAt w (.slice A n cap) L := by
  subst hn
  rcases h.2 with ⟨_, h1⟩ | ⟨g, cap', cur, e, _, _, h3, h4, _⟩
  · omega
  · injection e with e1 e2 e3
    subst e1; subst e3
    refine .inr ⟨g, 0, cap, xs, rfl, h0, h3, h4, hc, fun j u hu => ?_⟩
    have := h.cells (g := g) rfl j u hu
    rw [Go.WideShapes.add_plain] at this; exact this
end Go.Proofs.YtihbmgkbipeakaaGreat

namespace Go.Proofs.YtihbmgkbipeakaaGreat
open Go.RowKit

/-- copy at elements of any size. -/
theorem run_copy_rows {P : Program} (w : World) (dT sT ty elem : TypeId) (size g o dLen dCap : Nat) (a : Addr) (sLen sCap : Nat) (cur : Array Value) (t : TypeId) (cs : List Value)
    (hu : P.underlying dT = some (.slice elem)) (hs : (P.info? elem).map (·.size) = some size)
    (hg : w.heap[g]? = some (.cells cur t (0, 0))) (hn : cs.length = Nat.min sLen dLen * size)
    (hsrc : ∀ j v, cs[j]? = some v → w.cell? (a.add j) = some v) (hfit : o + cs.length ≤ cur.size) (h1 : ∀ v ∈ cs, v.oneCell' = true) :
    (Builtin.copy_ #[dT, sT] ty #[.slice (some ⟨g, o, none⟩) dLen dCap, .slice (some a) sLen sCap]).run P w =
      .ok (goInt (Nat.min sLen dLen)) (w.setRow g (cur.toList.take o ++ cs ++ cur.toList.drop (o + cs.length)).toArray) := by
  have hl := run_loadCells_list (P := P) w a cs hsrc
  have hst := run_storeCells_at P g o t cs 0 cur w hg (by simpa using hfit) h1
  cases hq : P.info? elem with
  | none => simp [hq] at hs
  | some i =>
    have hi : i.size = size := by simpa [hq] using hs
    simp [Builtin.copy_, run_underlying hu, Builtin.lenOf, Builtin.firstCells, sizeOf, typeInfo, hq, hi, ← hn, hl, hst]
theorem wp_copy_run_b {P : Program} (w : World) {o : Oper} {a : Act} {K : Act → World → Prop} {Q : Exit → Act → World → Prop} (d s : Operand) (t t' : TypeId)
    (ho : o.op = .call { callee := .builtin .copy, args := #[d, s], argTypes := #[t, t'] }) (v u : Value) (hd : a.eval d = v) (hs : a.eval s = u) {v' : Value} {w' : World}
    (hr : (Builtin.copy_ #[t, t'] o.type #[v, u]).run P w = .ok v' w') (h : K (a.put o.dst v') w') : o.wp P a w K Q := by
  unfold Oper.wp execOp
  simp only [ho, resolve, invoke, builtin, Sem.run_bind, Sem.run_pure, Result.andThen_ok, List.map_toArray, List.map_cons, List.map_nil, hd, hs, hr]
  exact h
theorem wpList_copy_run_b {P : Program} (w : World) {ops : Array Oper} {rest : List Oper} {o : Oper} {a : Act} {Q : Exit → Act → World → Prop} (hgd : o.guard = none) (d s : Operand) (t t' : TypeId)
    (ho : o.op = .call { callee := .builtin .copy, args := #[d, s], argTypes := #[t, t'] }) (v u : Value) (hd : a.eval d = v) (hs : a.eval s = u) {v' : Value} {w' : World}
    (hr : (Builtin.copy_ #[t, t'] o.type #[v, u]).run P w = .ok v' w') (h : wpList P ops Q rest (a.put o.dst v') w') : wpList P ops Q (o :: rest) a w :=
  wpList_plain hgd fun _ hK => wp_copy_run_b w d s t t' ho v u hd hs hr (hK _ _ h)
theorem step_copy_run_b {P : Program} {ops : Array Oper} {o : Oper} {a : Act} {w : World} {K : Act → World → Prop} {Q : Exit → Act → World → Prop} {E : Prop}
    (hg : o.guard = none) (d x : Operand) (dT sT : TypeId) (hop : o.op = Op.call { callee := Callee.builtin Builtin.copy, args := #[d, x], argTypes := #[dT, sT] })
    (v u : Value) (hd : a.eval d = v) (hx : a.eval x = u) {v' : Value} {w' : World} (hr : (Builtin.copy_ #[dT, sT] o.type #[v, u]).run P w = .ok v' w') (hK : K (a.put o.dst v') w') :
    if Region.wanted o (yielded ops a.tmps) = true then Oper.wp P o a w K Q else E := by
  have hw : Region.wanted o (yielded ops a.tmps) = true := by simp [Region.wanted, hg]
  rw [if_pos hw]
  unfold Oper.wp
  simp [execOp, hop, resolve, invoke, builtin, hd, hx, hr, Result.andThen]
  exact hK
theorem own_some {w : World} {base n cap g off : Nat} {e : TypeId} {size : Nat} {xs : List Value} (h : w.ownsRow base e size (.slice (some ⟨g, off, none⟩) n cap) n xs) :
    off = 0 ∧ base ≤ g ∧ n ≤ cap ∧ cap ≤ maxLen ∧ ∃ cur, w.heap[g]? = some (.cells cur e (0, 0)) ∧ cur.size = cap * size ∧ cur.toList.take (n * size) = xs := by
  rcases h.2 with ⟨h1, _⟩ | ⟨g', cap', cur, e, h1, h2, h3, h4, h5, h6⟩
  · cases h1
  · injection e with e1 e2 e3
    injection e1 with e1
    injection e1 with e1 e4
    subst e1; subst e3; subst e4
    exact ⟨rfl, h1, h3, h4, cur, h2, h5, h6⟩
/-- The cells behind an insertion into a row with room. -/
theorem shift_cells (cur xs vs : List Value) (i n m : Nat) (hx : cur.take (n * 4) = xs) (hxl : xs.length = n * 4) (hi : i ≤ n) (hv : vs.length = m * 4) (hroom : (n + m) * 4 ≤ cur.length) (c1 c2 : List Value)
    (h1 : c1 = cur.take ((i + m) * 4) ++ xs.drop (i * 4) ++ cur.drop ((i + m) * 4 + (xs.drop (i * 4)).length)) (h2 : c2 = c1.take (i * 4) ++ vs ++ c1.drop (i * 4 + vs.length)) :
    c1.length = cur.length ∧ c2.length = cur.length ∧ c2.take ((n + m) * 4) = xs.take (i * 4) ++ vs ++ xs.drop (i * 4) := by
  have hd : (xs.drop (i * 4)).length = (n - i) * 4 := by rw [List.length_drop, hxl]; omega
  have hc1 : c1.length = cur.length := by
    rw [h1]; simp only [List.length_append, List.length_take, List.length_drop, hxl]; omega
  have hc2 : c2.length = cur.length := by
    rw [h2]; simp only [List.length_append, List.length_take, List.length_drop, hv, hc1]; omega
  refine ⟨hc1, hc2, ?_⟩
  have e1 : c1.take (i * 4) = xs.take (i * 4) := by
    rw [h1, List.append_assoc, List.take_append_of_le_length (by rw [List.length_take]; omega), List.take_take, ← hx, List.take_take]
    congr 1; omega
  have hl : (cur.take ((i + m) * 4)).length = i * 4 + m * 4 := by rw [List.length_take]; omega
  have e2 : (c1.drop (i * 4 + vs.length)).take ((n - i) * 4) = xs.drop (i * 4) := by
    rw [hv, h1, List.append_assoc, ← hl, List.drop_left]
    rw [List.take_append_of_le_length (by rw [hd]; exact Nat.le_refl _), List.take_of_length_le (by rw [hd]; exact Nat.le_refl _)]
  have hk : (c1.take (i * 4) ++ vs).length = i * 4 + m * 4 := by rw [List.length_append, List.length_take, hv, hc1]; omega
  have e3 : (n + m) * 4 = (c1.take (i * 4) ++ vs).length + (n - i) * 4 := by rw [hk]; omega
  rw [h2, e3, List.take_length_add_append, e2, e1]
/-- The cells behind an insertion into a new row. -/
theorem fresh_cells (row xs vs : List Value) (i n m G : Nat) (hx : row.take (i * 4) = xs.take (i * 4)) (hxl : xs.length = n * 4) (hi : i ≤ n) (hv : vs.length = m * 4) (hroom : (n + m) * 4 ≤ row.length) (hG : row.length = G * 4) (c1 c2 : List Value)
    (h1 : c1 = row.take (i * 4) ++ vs ++ row.drop (i * 4 + vs.length)) (h2 : c2 = c1.take ((i + m) * 4) ++ xs.drop (i * 4) ++ c1.drop ((i + m) * 4 + (xs.drop (i * 4)).length)) :
    c1.length = G * 4 ∧ c2.length = G * 4 ∧ c2.take ((n + m) * 4) = xs.take (i * 4) ++ vs ++ xs.drop (i * 4) := by
  have hd : (xs.drop (i * 4)).length = (n - i) * 4 := by rw [List.length_drop, hxl]; omega
  have hc1 : c1.length = G * 4 := by
    rw [h1]; simp only [List.length_append, List.length_take, List.length_drop, hv]; omega
  have hc2 : c2.length = G * 4 := by
    rw [h2]; simp only [List.length_append, List.length_take, List.length_drop, hd, hc1]; omega
  refine ⟨hc1, hc2, ?_⟩
  have hk : (row.take (i * 4) ++ vs).length = (i + m) * 4 := by rw [List.length_append, List.length_take, hv]; omega
  have e1 : c1.take ((i + m) * 4) = xs.take (i * 4) ++ vs := by
    rw [h1, ← hk, List.take_left, hx]
  have hk2 : (c1.take ((i + m) * 4)).length = (i + m) * 4 := by rw [List.length_take, hc1]; omega
  have e3 : (n + m) * 4 = (c1.take ((i + m) * 4) ++ xs.drop (i * 4)).length := by rw [List.length_append, hk2, hd]; omega
  rw [h2, e3, List.take_left, e1]
theorem own_row {w : World} {base g cap n : Nat} {cur xs : List Value} {e : TypeId} (h : w.heap[g]? = some (.cells cur.toArray e (0, 0))) (hb : base ≤ g) (hn : n ≤ cap) (hm : cap ≤ maxLen) (hc : cur.length = cap * 4) (hx : cur.take (n * 4) = xs) : w.ownsRow base e 4 (.slice (some ⟨g, 0, none⟩) n cap) n xs :=
  ⟨by rw [← hx, List.length_take, hc]; exact Nat.min_eq_left (Nat.mul_le_mul_right _ hn), .inr ⟨g, cap, cur.toArray, rfl, hb, h, hn, hm, by simpa using hc, by simpa using hx⟩⟩
theorem setRow_size (w : World) (g : Nat) (cs : Array Value) : (w.setRow g cs).heap.size = w.heap.size := by simp [World.setRow]
theorem below_setRow {B g : Nat} {w0 w : World} (h : Below B w0 w) (hg : B ≤ g) (cs : Array Value) : Below B w0 (w.setRow g cs) :=
  ⟨h.os, h.tape, h.output, by rw [setRow_size]; exact h.size, fun b hb => by rw [setRow_other w g b cs (by omega)]; exact h.block b hb⟩
set_option maxRecDepth 100000 in
set_option maxHeartbeats 8000000 in
/-- The end: appended. -/
theorem oinsert_end {base : Nat} (n cap b : Nat) (xs vs : List Value) (vb : Nat) (w : World) (hn : n ≤ 1048576) (hown : w.ownsRow base 66 4 (.slice (some ⟨b, 0, none⟩) n cap) n xs) (hbase : base ≤ w.heap.size)
    (hv : w.heap[vb]? = some (.cells vs.toArray 66 (0, 0))) (hvl : vs.length = 4) (h1v : ∀ u ∈ vs, u.oneCell' = true) :
    Calls Tryz.prog 148 #[.slice (some ⟨b, 0, none⟩) n cap, .int .i64 n, .slice (some ⟨vb, 0, none⟩) 1 1] w fun e w' => ∃ A' c', e = .returned (.slice A' (n + 1) c') ∧ w'.ownsRow base 66 4 (.slice A' (n + 1) c') (n + 1) (xs ++ vs) ∧ Below base w w' := by
  obtain ⟨i0, hi0, hz0, hz1, hz2⟩ := info_parts Tryz.infoB
  obtain ⟨_, hbb, hnc, hcm, _⟩ := own_some hown
  have HOWN := Lib.hid hown; have HV := Lib.hid hv; have H1 := Lib.hid h1v; have HVL := Lib.hid hvl
  clear hown hv h1v hvl
  go_enter Tryz.func148, Tryz.ntmps148
  go_wp2_with (at_builtin; refine wpList_append_lies _ rfl _ _ 62 rfl base 66 i0 _ 4 64 Tryz.underlying62 hi0 hz0 hz1 hz2 rfl (by omega) _ n xs rfl HOWN.out ⟨vb, 0, none⟩ 1 1 vs rfl HVL.out (World.news_of_block HV.out) H1.out (by omega) (by unfold maxLen; omega) (by omega) hbase _ rfl ?_; intro g4 cap4 w4 hown4 hg4 hat4 hlt4)
  all_goals (go_ret; exact ⟨_, _, rfl, hown4, (Below.refl _ _).grown hg4 hbase (fun k hk => by injection hk with hk; subst hk; exact hbb)⟩)

set_option maxRecDepth 100000 in
set_option maxHeartbeats 8000000 in
/-- In the middle, where there is room. -/
theorem oinsert_shift {base : Nat} (n cap i m vc b : Nat) (xs vs : List Value) (vb : Nat) (w : World) (hi : i < n) (hm : 0 < m) (hroom : n + m ≤ cap) (hown : w.ownsRow base 66 4 (.slice (some ⟨b, 0, none⟩) n cap) n xs)
    (hv : w.heap[vb]? = some (.cells vs.toArray 66 (0, 0))) (hvl : vs.length = m * 4) (hvb : vb ≠ b) (h1x : ∀ u ∈ xs, u.oneCell' = true) (h1v : ∀ u ∈ vs, u.oneCell' = true) :
    Calls Tryz.prog 148 #[.slice (some ⟨b, 0, none⟩) n cap, .int .i64 i, .slice (some ⟨vb, 0, none⟩) m vc] w fun e w' => ∃ A' c', e = .returned (.slice A' (n + m) c') ∧ w'.ownsRow base 66 4 (.slice A' (n + m) c') (n + m) (xs.take (i * 4) ++ vs ++ xs.drop (i * 4)) ∧ Below base w w' := by
  obtain ⟨i0, hi0, hz0, hzs, hzb⟩ := info_parts Tryz.infoB
  obtain ⟨_, hbb, hnc, hcm, cur, hcur, hcs, hct⟩ := own_some hown
  have hxl := hown.1
  have hsz : (Tryz.prog.info? 66).map (·.size) = some 4 := by rw [hi0]; simp [hzs]
  have hcell : ∀ j u, xs[j]? = some u → w.cell? ⟨b, j, none⟩ = some u := fun j u hu => by
    have := hown.cells (g := b) rfl j u hu
    rw [Go.WideShapes.add_plain] at this; simpa using this
  have hvcell : ∀ j u, vs[j]? = some u → w.cell? ⟨vb, j, none⟩ = some u := fun j u hu => by
    unfold World.cell?; rw [hv]; simpa using hu
  have hcm' : cap ≤ 9223372036854775807 := by unfold maxLen at hcm; omega
  obtain ⟨c1, h1⟩ : ∃ c1, c1 = cur.toList.take ((i + m) * 4) ++ xs.drop (i * 4) ++ cur.toList.drop ((i + m) * 4 + (xs.drop (i * 4)).length) := ⟨_, rfl⟩
  obtain ⟨c2, h2⟩ : ∃ c2, c2 = c1.take (i * 4) ++ vs ++ c1.drop (i * 4 + vs.length) := ⟨_, rfl⟩
  obtain ⟨hl1, hl2, htk⟩ := shift_cells cur.toList xs vs i n m hct hxl (by omega) hvl (by simp [hcs]; omega) c1 c2 h1 h2
  have hdl : (xs.drop (i * 4)).length = (n - i) * 4 := by rw [List.length_drop, hxl]; omega
  have hmin1 : Nat.min (n + m - i) (n + m - (i + m)) = n - i := by simp only [Nat.min_def]; split <;> omega
  have hmin2 : Nat.min m (n + m - i) = m := by simp only [Nat.min_def]; split <;> omega
  obtain ⟨W1, hW1⟩ : ∃ W1, W1 = w.drew.setRow b c1.toArray := ⟨_, rfl⟩
  obtain ⟨W2, hW2⟩ : ∃ W2, W2 = W1.setRow b c2.toArray := ⟨_, rfl⟩
  have hcp1 : ∀ ty dc sc, (Builtin.copy_ #[62, 62] ty #[.slice (some ⟨b, (i + m) * 4, none⟩) (n + m - (i + m)) dc, .slice (some ⟨b, i * 4, none⟩) (n + m - i) sc]).run Tryz.prog w.drew = .ok (goInt ((n - i : Nat) : Int)) W1 := fun ty dc sc => by
    have h := run_copy_rows (P := Tryz.prog) w.drew 62 62 ty 66 4 b ((i + m) * 4) (n + m - (i + m)) dc ⟨b, i * 4, none⟩ (n + m - i) sc cur 66 (xs.drop (i * 4)) Tryz.underlying62 hsz hcur (by rw [hdl, hmin1])
      (fun j u hu => by rw [Go.WideShapes.add_plain]; rw [List.getElem?_drop] at hu; exact hcell _ u hu) (by rw [hdl, hcs]; omega) (fun u hu => h1x u (List.mem_of_mem_drop hu))
    rw [hmin1, ← h1, ← hW1] at h
    exact h
  have hcur1 : W1.heap[b]? = some (.cells c1.toArray 66 (0, 0)) := by rw [hW1]; exact setRow_heap w.drew b cur c1.toArray _ _ hcur
  have hvcell1 : ∀ j u, vs[j]? = some u → W1.cell? ⟨vb, j, none⟩ = some u := fun j u hu => by
    rw [hW1]; exact (World.cell?_of_block (setRow_other w.drew b vb c1.toArray hvb)).trans (hvcell j u hu)
  have hcp2 : ∀ ty dc, (Builtin.copy_ #[62, 62] ty #[.slice (some ⟨b, i * 4, none⟩) (n + m - i) dc, .slice (some ⟨vb, 0, none⟩) m vc]).run Tryz.prog W1 = .ok (goInt m) W2 := fun ty dc => by
    have h := run_copy_rows (P := Tryz.prog) W1 62 62 ty 66 4 b (i * 4) (n + m - i) dc ⟨vb, 0, none⟩ m vc c1.toArray 66 vs Tryz.underlying62 hsz hcur1 (by rw [hvl, hmin2])
      (fun j u hu => by rw [Go.WideShapes.add_plain, Nat.zero_add]; exact hvcell1 j u hu) (by simp [hl1, hcs, hvl]; omega) h1v
    rw [hmin2] at h
    rw [← h2, ← hW2] at h
    exact h
  have HEND := Lib.hid (show W2.ownsRow base 66 4 (.slice (some ⟨b, 0, none⟩) (n + m) cap) (n + m) (xs.take (i * 4) ++ vs ++ xs.drop (i * 4)) ∧ Below base w W2 from
    ⟨own_row (by rw [hW2]; exact setRow_heap W1 b c1.toArray c2.toArray _ _ hcur1) hbb hroom hcm (by rw [hl2]; simpa using hcs) htk, by rw [hW2, hW1]; exact below_setRow (below_setRow (Below.refl _ _).drew hbb _) hbb _⟩)
  have hov : ∀ lb cb, (callFunc 185 #[.slice (some ⟨vb, 0, none⟩) m vc, .slice (some ⟨b, (i + m) * 4, none⟩) lb cb]).run Tryz.prog w = .ok (.value (.bool false)) w := fun lb cb => by
    rw [run_callFunc_extern Tryz.func185 (by kernel_rfl) (by kernel_rfl) (by kernel_rfl) (e := Extern.SlicesOverlaps.overlaps #[62, 62] #[4]) (by kernel_rfl),
      Lib.run_overlaps_apart w 62 4 66 Tryz.underlying62 4 (fun w => Tryz.sizeOf66 w) ⟨vb, 0, none⟩ ⟨b, (i + m) * 4, none⟩ m vc lb cb hvb 66 66 (m * 4) (cap * 4) (by unfold World.shape?; rw [hv]; simp [hvl]) (by unfold World.shape?; rw [hcur]; simp [hcs]) (by omega) (by unfold World.frozen?; rw [hv]; simp) (by unfold World.frozen?; rw [hv]; simp)]
    rfl
  have hz1 : ¬ ((m : Int) = 0) := by omega
  have hz2 : ¬ ((i : Int) = (n : Int)) := by omega
  have hw1 : IntKind.i64.wrap ((i : Int) + (m : Int)) = (i : Int) + (m : Int) := by rw [IntKind.wrap_i64]; omega
  have hb1 : (0 : Int) ≤ (i : Int) + (m : Int) := by omega
  have hin : i ≤ n := by omega
  have htn : ((i : Int) + (m : Int)).toNat = i + m := by omega
  have hb2 : ¬ (cap = i + m) := by omega
  have hb3 : (i : Int) ≤ (n : Int) + (m : Int) := by omega
  have hb4 : ¬ (cap = i) := by omega
  clear h1 h2 hl1 hl2 htk hdl hmin1 hmin2 hcur1 hvcell1 hW1 hW2 hcell hvcell hxl hcur hcs hct hown hv hvl
  go_enter Tryz.func148, Tryz.ntmps148
  go_wp2_with (simp only [hov])
  go_region_law (refine step_copy_run_b rfl _ _ 62 62 rfl _ _ (by simp [Act.eval, Act.put]) (by simp [Act.eval, Act.put]) (hcp1 _ _ _) ?_)
  go_wp2_with (at_builtin; refine wpList_copy_run_b _ rfl _ _ 62 62 rfl _ _ rfl rfl (hcp2 _ _) ?_)
  go_ret
  exact ⟨_, _, rfl, HEND.out⟩
set_option maxRecDepth 100000 in
set_option maxHeartbeats 8000000 in
/-- In the middle, where there is no room: a new row. -/
theorem oinsert_grow {base : Nat} (n cap i m vc b : Nat) (xs vs : List Value) (vb : Nat) (w : World) (hn : n + m ≤ 1048576) (hi : i < n) (hm : 0 < m) (hroom : cap < n + m) (hown : w.ownsRow base 66 4 (.slice (some ⟨b, 0, none⟩) n cap) n xs) (hbase : base ≤ w.heap.size)
    (hv : w.heap[vb]? = some (.cells vs.toArray 66 (0, 0))) (hvl : vs.length = m * 4) (h1x : ∀ u ∈ xs, u.oneCell' = true) (h1v : ∀ u ∈ vs, u.oneCell' = true) :
    Calls Tryz.prog 148 #[.slice (some ⟨b, 0, none⟩) n cap, .int .i64 i, .slice (some ⟨vb, 0, none⟩) m vc] w fun e w' => ∃ A' c', e = .returned (.slice A' (n + m) c') ∧ w'.ownsRow base 66 4 (.slice A' (n + m) c') (n + m) (xs.take (i * 4) ++ vs ++ xs.drop (i * 4)) ∧ Below base w w' := by
  obtain ⟨i0, hi0, hz0, hzs, hzb⟩ := info_parts Tryz.infoB
  obtain ⟨_, hbb, hnc, hcm, cur, hcur, hcs, hct⟩ := own_some hown
  have hxl := hown.1
  have hsz : (Tryz.prog.info? 66).map (·.size) = some 4 := by rw [hi0]; simp [hzs]
  have hcell : ∀ j u, xs[j]? = some u → w.cell? ⟨b, j, none⟩ = some u := fun j u hu => by
    have := hown.cells (g := b) rfl j u hu
    rw [Go.WideShapes.add_plain] at this; simpa using this
  have hvcell : ∀ j u, vs[j]? = some u → w.cell? ⟨vb, j, none⟩ = some u := fun j u hu => by
    unfold World.cell?; rw [hv]; simpa using hu
  have hbw : b < w.heap.size := (Array.getElem?_eq_some_iff.1 hcur).1
  have hvw : vb < w.heap.size := (Array.getElem?_eq_some_iff.1 hv).1
  have hkk : (n : Int) + (m : Int) - (i : Int) = ((n + m - i : Nat) : Int) := by omega
  have hik : i + (n + m - i) = n + m := by omega
  have hz3 : (cap : Int) < (n : Int) + (m : Int) := by omega
  have hold : (Builtin.firstCells i0.size i (.slice (some ⟨b, 0, none⟩) i cap)).run Tryz.prog w.drew = .ok (xs.take (i * 4)).toArray w.drew := by
    rw [hzs]
    exact run_firstCells_some w.drew 4 i ⟨b, 0, none⟩ i cap (xs.take (i * 4)) (by rw [List.length_take]; omega) (fun j v hj => by
      rw [Go.WideShapes.add_plain, Nat.zero_add]
      rw [List.getElem?_take] at hj
      split at hj
      · exact hcell j v hj
      · cases hj)
  obtain ⟨G, hG⟩ : ∃ G, G = grownCap w (n + m) cap 66 := ⟨_, rfl⟩
  obtain ⟨z, hzz⟩ : ∃ z : Value, z = .agg #[.string ByteArray.empty, .int .i64 0, .string ByteArray.empty, .slice none 0 0] := ⟨_, rfl⟩
  have hzc : z.cells.size = 4 := by rw [hzz]; rfl
  rw [← hzz] at hz0
  obtain ⟨ROW, hROW⟩ : ∃ ROW : Array Value, ROW = (xs.take (i * 4)).toArray ++ Builtin.zeroCells z.cells (n + m - i) ++ Builtin.zeroCells z.cells (G - (n + m)) := ⟨_, rfl⟩
  obtain ⟨W1, hW1⟩ : ∃ W1, W1 = w.drew.alloc (.cells ROW 66) := ⟨_, rfl⟩
  have hGn : n + m ≤ G := by rw [hG]; exact grownCap_ge w _ _ _
  have hGm : G ≤ maxLen := by rw [hG]; exact grownCap_le_maxLen w (n + m) cap _ (by unfold maxLen; omega)
  have hRl : ROW.toList.length = G * 4 := by
    rw [hROW]
    simp [Builtin.zeroCells, hzc, hxl]
    omega
  have hRt : ROW.toList.take (i * 4) = xs.take (i * 4) := by
    rw [hROW]
    have : (xs.take (i * 4)).length = i * 4 := by rw [List.length_take]; omega
    simp only [Array.toList_append, List.append_assoc]
    rw [List.take_append_of_le_length (by simp [hxl]; omega)]
    exact List.take_of_length_le (by simp; omega)
  have hrz : ∀ ty, (Builtin.append_ #[62, 3] ty #[.slice (some ⟨b, 0, none⟩) i cap, .int .i64 ((n : Int) + (m : Int) - (i : Int))]).run Tryz.prog w =
      .ok (.slice (some ⟨w.heap.size, 0, none⟩) (n + m) G) W1 := fun ty => by
    have h := Lib.run_append_grow_zeros w 62 3 ty 66 i0 z .i64 .i64 Tryz.underlying62 Tryz.underlying3 hi0 hz0 (some ⟨b, 0, none⟩) i cap (xs.take (i * 4)) hold (n + m - i) (by omega) (by omega) (by omega) (by omega) (by rw [hzb]; omega) (by rw [hzb, hik]; exact growslice_fits hroom (by omega))
    rw [hik, ← hG] at h
    rw [hkk, hW1, hROW]
    exact h
  have hcur1 : W1.heap[w.heap.size]? = some (.cells ROW.toList.toArray 66 (0, 0)) := by rw [hW1]; simpa using heap_alloc_new w.drew (.cells ROW 66)
  have hold1 : ∀ k, k < w.heap.size → W1.heap[k]? = w.heap[k]? := fun k hk => by rw [hW1]; exact Below.heap_alloc w.drew _ k hk
  have hb1' : Below base w W1 := by rw [hW1]; exact (Below.refl _ _).drew.alloc hbase _
  obtain ⟨c1, h1⟩ : ∃ c1, c1 = ROW.toList.take (i * 4) ++ vs ++ ROW.toList.drop (i * 4 + vs.length) := ⟨_, rfl⟩
  obtain ⟨c2, h2⟩ : ∃ c2, c2 = c1.take ((i + m) * 4) ++ xs.drop (i * 4) ++ c1.drop ((i + m) * 4 + (xs.drop (i * 4)).length) := ⟨_, rfl⟩
  obtain ⟨hl1, hl2, htk⟩ := fresh_cells ROW.toList xs vs i n m G hRt hxl (by omega) hvl (by rw [hRl]; omega) hRl c1 c2 h1 h2
  have hdl : (xs.drop (i * 4)).length = (n - i) * 4 := by rw [List.length_drop, hxl]; omega
  have hmin1 : Nat.min (n - i) (n + m - (i + m)) = n - i := by simp only [Nat.min_def]; split <;> omega
  have hmin2 : Nat.min m (n + m - i) = m := by simp only [Nat.min_def]; split <;> omega
  obtain ⟨W2, hW2⟩ : ∃ W2, W2 = W1.setRow w.heap.size c1.toArray := ⟨_, rfl⟩
  obtain ⟨W3, hW3⟩ : ∃ W3, W3 = W2.drew.setRow w.heap.size c2.toArray := ⟨_, rfl⟩
  have hcur2 : W2.heap[w.heap.size]? = some (.cells c1.toArray 66 (0, 0)) := by rw [hW2]; exact setRow_heap W1 _ _ c1.toArray _ _ hcur1
  have hcpA : ∀ ty dc, (Builtin.copy_ #[62, 62] ty #[.slice (some ⟨w.heap.size, i * 4, none⟩) (n + m - i) dc, .slice (some ⟨vb, 0, none⟩) m vc]).run Tryz.prog W1 = .ok (goInt m) W2 := fun ty dc => by
    have h := run_copy_rows (P := Tryz.prog) W1 62 62 ty 66 4 w.heap.size (i * 4) (n + m - i) dc ⟨vb, 0, none⟩ m vc ROW.toList.toArray 66 vs Tryz.underlying62 hsz hcur1 (by rw [hvl, hmin2])
      (fun j u hu => by rw [Go.WideShapes.add_plain, Nat.zero_add]; exact (World.cell?_of_block (hold1 vb hvw)).trans (hvcell j u hu)) (by simp at hRl; simp [hRl, hvl]; omega) h1v
    rw [hmin2] at h
    rw [← h1, ← hW2] at h
    exact h
  have hcpB : ∀ ty dc sc, (Builtin.copy_ #[62, 62] ty #[.slice (some ⟨w.heap.size, (i + m) * 4, none⟩) (n + m - (i + m)) dc, .slice (some ⟨b, i * 4, none⟩) (n - i) sc]).run Tryz.prog W2.drew = .ok (goInt ((n - i : Nat) : Int)) W3 := fun ty dc sc => by
    have h := run_copy_rows (P := Tryz.prog) W2.drew 62 62 ty 66 4 w.heap.size ((i + m) * 4) (n + m - (i + m)) dc ⟨b, i * 4, none⟩ (n - i) sc c1.toArray 66 (xs.drop (i * 4)) Tryz.underlying62 hsz hcur2 (by rw [hdl, hmin1])
      (fun j u hu => by
        rw [Go.WideShapes.add_plain]
        rw [List.getElem?_drop] at hu
        refine (World.cell?_of_block (w := w) ?_).trans (hcell _ u hu)
        show W2.heap[b]? = _
        rw [hW2, setRow_other W1 _ b _ (by omega)]
        exact hold1 b hbw) (by simp [hl1, hdl]; omega) (fun u hu => h1x u (List.mem_of_mem_drop hu))
    rw [hmin1] at h
    rw [← h2, ← hW3] at h
    exact h
  have HEND := Lib.hid (show W3.ownsRow base 66 4 (.slice (some ⟨w.heap.size, 0, none⟩) (n + m) G) (n + m) (xs.take (i * 4) ++ vs ++ xs.drop (i * 4)) ∧ Below base w W3 from
    ⟨own_row (by rw [hW3]; exact setRow_heap W2.drew _ c1.toArray c2.toArray _ _ hcur2) hbase hGn hGm hl2 htk, by rw [hW3]; exact below_setRow (Below.drew (by rw [hW2]; exact below_setRow hb1' hbase _)) hbase _⟩)
  have hG63 : G ≤ 9223372036854775807 := by unfold maxLen at hGm; omega
  have hz1 : ¬ ((m : Int) = 0) := by omega
  have hz2 : ¬ ((i : Int) = (n : Int)) := by omega
  have hGi : ¬ (G = i) := by omega
  have hGim : ¬ (G = i + m) := by omega
  have hci : ¬ (cap = i) := by omega
  have hw1 : IntKind.i64.wrap ((i : Int) + (m : Int)) = (i : Int) + (m : Int) := by rw [IntKind.wrap_i64]; omega
  have hb1 : (0 : Int) ≤ (i : Int) + (m : Int) := by omega
  have hin : i ≤ n := by omega
  have htn : ((i : Int) + (m : Int)).toNat = i + m := by omega
  have hb3 : (i : Int) ≤ (n : Int) := by omega
  clear h1 h2 hl1 hl2 htk hdl hmin1 hmin2 hcur1 hcur2 hW1 hW2 hW3 hcell hvcell hxl hcur hcs hct hown hv hvl hROW hRl hRt hold1 hb1' hkk hik hold hG hzc hz0
  generalize w.heap.size = H at *
  go_enter Tryz.func148, Tryz.ntmps148
  go_wp2_with (first
    | (at_builtin; refine Lib.wpList_append_run _ rfl _ _ _ _ rfl _ _ rfl rfl _ _ (hrz _) ?_)
    | (at_builtin; refine wpList_copy_run_b _ rfl _ _ 62 62 rfl _ _ rfl rfl (hcpA _ _) ?_))
  go_region_law (refine step_copy_run_b rfl _ _ 62 62 rfl _ _ (by simp [Act.eval, Act.put]) (by simp [Act.eval, Act.put]) (hcpB _ _ _) ?_)
  go_wp2_with fail
  go_ret
  exact ⟨_, _, rfl, HEND.out⟩
/-- One binding, at any place. -/
theorem oinsert {base : Nat} (n cap i b : Nat) (xs vs : List Value) (vb : Nat) (w : World) (hn : n ≤ 1000000) (hi : i ≤ n) (hown : w.ownsRow base 66 4 (.slice (some ⟨b, 0, none⟩) n cap) n xs) (hbase : base ≤ w.heap.size)
    (hv : w.heap[vb]? = some (.cells vs.toArray 66 (0, 0))) (hvl : vs.length = 4) (hvb : vb ≠ b) (h1x : ∀ u ∈ xs, u.oneCell' = true) (h1v : ∀ u ∈ vs, u.oneCell' = true) :
    Calls Tryz.prog 148 #[.slice (some ⟨b, 0, none⟩) n cap, .int .i64 i, .slice (some ⟨vb, 0, none⟩) 1 1] w fun e w' => ∃ A' c', e = .returned (.slice A' (n + 1) c') ∧ w'.ownsRow base 66 4 (.slice A' (n + 1) c') (n + 1) (xs.take (i * 4) ++ vs ++ xs.drop (i * 4)) ∧ Below base w w' := by
  by_cases hin : i = n
  · subst hin
    have hx := hown.1
    rw [List.take_of_length_le (by omega), List.drop_of_length_le (by omega), List.append_nil]
    exact oinsert_end i cap b xs vs vb w (by omega) hown hbase hv hvl h1v
  · by_cases hr : n + 1 ≤ cap
    · exact oinsert_shift n cap i 1 1 b xs vs vb w (by omega) (by omega) hr hown hv (by omega) hvb h1x h1v
    · exact oinsert_grow n cap i 1 1 b xs vs vb w (by omega) (by omega) (by omega) (by omega) hown hbase hv (by omega) h1x h1v
set_option maxRecDepth 100000 in
set_option maxHeartbeats 4000000 in
/-- slices.Clone at bindings. -/
theorem oclone_b (L : List Bd) (A : Option Addr) (cap : Nat) (w : World) (hv : BindsAt w (.slice A L.length cap) L) (h0 : 0 < L.length) (hn : L.length ≤ 1000000) :
    Calls Tryz.prog 149 #[.slice A L.length cap] w fun e w' => ∃ g2 c2 xs, e = .returned (.slice (some ⟨g2, 0, none⟩) L.length c2) ∧ w'.ownsRow w.heap.size 66 4 (.slice (some ⟨g2, 0, none⟩) L.length c2) L.length xs ∧ BC w xs L ∧ Below w.heap.size w w' := by
  obtain ⟨i0, hi0, hz0, hz1, hz2⟩ := info_parts Tryz.infoB
  rcases hv with ⟨_, rfl⟩ | ⟨b, off, cap', xs, e, _, hc1, hc2, hbc, hcell⟩
  · simp at h0
  injection e with e1 e2 e3
  subst e1; subst e3
  have hx := hbc.1
  have hwe := below_alloc1 w (.cells #[] 66)
  have HBC := Lib.hid hbc; have H1 := Lib.hid hbc.one'; have HX := Lib.hid hx
  have HCE := Lib.hid (show ∀ j u, xs[j]? = some u → (w.alloc (.cells #[] 66)).cell? ((⟨b, off, none⟩ : Addr).add j) = some u from fun j u hu => by rw [Go.WideShapes.add_plain]; exact cell_later hwe (hcell j u hu))
  have HOWN := Lib.hid (World.ownsRow_made (size := 4) (e := 66) w #[] 0 (base := w.heap.size) (Nat.le_refl _) (Nat.zero_le _) rfl)
  have HWE := Lib.hid hwe
  have hc : ∀ W, Sem.run Tryz.prog (binOp BinOp.eql 62 (Value.slice (some ⟨b, off, none⟩) L.length cap) (Value.slice none 0 0)) W = .ok (.bool false) W := fun W => by rfl
  obtain ⟨n, hn'⟩ : ∃ n, L.length = n := ⟨_, rfl⟩
  rw [hn'] at HX h0 hn hc ⊢
  clear hbc hcell hx hwe hn' hc1 hc2
  go_enter Tryz.func149, Tryz.ntmps149
  go_wp2_with (at_builtin; refine wpList_append_lies _ rfl _ _ 62 rfl w.heap.size 66 i0 _ 4 64 Tryz.underlying62 hi0 hz0 hz1 hz2 rfl (by omega) _ 0 [] rfl HOWN.out ⟨b, off, none⟩ n cap xs rfl HX.out HCE.out H1.out h0 (by unfold maxLen; omega) (by omega) (by rw [size_alloc1]; omega) _ rfl ?_; intro g4 cap4 w4 hown4 hg4 hat4 hlt4)
  have hb4 : Below w.heap.size w w4 := (HWE.out.mono (Nat.le_refl _)).grown hg4 (Nat.le_of_lt (by rw [size_alloc1]; omega)) (fun k hk => by injection hk with hk; subst hk; exact Nat.le_refl _)
  go_ret
  rw [Nat.zero_add, List.nil_append] at hown4
  exact ⟨_, _, rfl, xs, hown4, HBC.out, hb4⟩
end Go.Proofs.YtihbmgkbipeakaaGreat
