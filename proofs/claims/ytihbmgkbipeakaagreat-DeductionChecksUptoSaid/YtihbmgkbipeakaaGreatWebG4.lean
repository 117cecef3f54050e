/- Several texts in one: TermCells, Src. -/
import Derived.Test.YtihbmgkbipeakaaGreatWebG3
import Derived.Maps.AppendAt
import Derived.Deep.AppendLies
import Derived.RegionTactic
import Derived.OwnWalk
import Derived.Test.YtihbmgkbipeakaaGreatWebG0
namespace Go.Proofs.YtihbmgkbipeakaaGreat
open Go.RowKit

/-- These cells hold these terms. -/
def CT (S : Nat → Bool) (w : World) (xs : List Value) (L : List T) : Prop :=
  xs.length = L.length * 3 ∧ ∀ i (h : i < L.length), ∃ u0 u1 u2, xs[i * 3]? = some u0 ∧ xs[i * 3 + 1]? = some u1 ∧ xs[i * 3 + 2]? = some u2 ∧ TermIn S w (.agg #[u0, u1, u2]) L[i]
theorem CT.keep {S S' : Nat → Bool} {w w' : World} {xs : List Value} {L : List T} (h : CT S w xs L) (hk : ∀ b, S b = true → b < w.heap.size → S' b = true ∧ w'.heap[b]? = w.heap[b]?) : CT S' w' xs L :=
  ⟨h.1, fun i hi => by obtain ⟨u0, u1, u2, a, b, c, d⟩ := h.2 i hi; exact ⟨u0, u1, u2, a, b, c, d.keep hk⟩⟩
theorem CT.nil (S : Nat → Bool) (w : World) : CT S w [] [] := ⟨rfl, fun i h => by simp at h⟩
theorem CT.one {S : Nat → Bool} {w : World} {u0 u1 u2 : Value} {t : T} (h : TermIn S w (.agg #[u0, u1, u2]) t) : CT S w [u0, u1, u2] [t] :=
  ⟨rfl, fun i hi => by
    obtain rfl : i = 0 := by simpa using hi
    exact ⟨u0, u1, u2, rfl, rfl, rfl, h⟩⟩
theorem CT.append {S : Nat → Bool} {w : World} {xs ys : List Value} {L M : List T} (h : CT S w xs L) (k : CT S w ys M) : CT S w (xs ++ ys) (L ++ M) := by
  refine ⟨by rw [List.length_append, List.length_append, h.1, k.1]; omega, fun i hi => ?_⟩
  have h1 := h.1
  rcases Nat.lt_or_ge i L.length with g | g
  · obtain ⟨u0, u1, u2, a, b, c, d⟩ := h.2 i g
    refine ⟨u0, u1, u2, ?_, ?_, ?_, by rw [List.getElem_append_left g]; exact d⟩
    all_goals rw [List.getElem?_append_left (by omega)]; assumption
  · have hm : i - L.length < M.length := by simp at hi; omega
    obtain ⟨u0, u1, u2, a, b, c, d⟩ := k.2 (i - L.length) hm
    refine ⟨u0, u1, u2, ?_, ?_, ?_, by rw [List.getElem_append_right g]; exact d⟩
    · rw [List.getElem?_append_right (by omega), ← a]; congr 1; omega
    · rw [List.getElem?_append_right (by omega), ← b]; congr 1; omega
    · rw [List.getElem?_append_right (by omega), ← c]; congr 1; omega
theorem CT.take {S : Nat → Bool} {w : World} {xs : List Value} {L : List T} (h : CT S w xs L) (j : Nat) : CT S w (xs.take (j * 3)) (L.take j) := by
  refine ⟨by rw [List.length_take, List.length_take, h.1]; omega, fun i hi => ?_⟩
  have hj : i < j ∧ i < L.length := by rw [List.length_take] at hi; omega
  obtain ⟨u0, u1, u2, a, b, c, d⟩ := h.2 i hj.2
  refine ⟨u0, u1, u2, ?_, ?_, ?_, by rw [List.getElem_take]; exact d⟩
  all_goals rw [List.getElem?_take, if_pos (by omega)]; assumption
theorem CT.drop {S : Nat → Bool} {w : World} {xs : List Value} {L : List T} (h : CT S w xs L) (j : Nat) : CT S w (xs.drop (j * 3)) (L.drop j) := by
  refine ⟨by rw [List.length_drop, List.length_drop, h.1]; omega, fun i hi => ?_⟩
  have hj : j + i < L.length := by rw [List.length_drop] at hi; omega
  obtain ⟨u0, u1, u2, a, b, c, d⟩ := h.2 (j + i) hj
  refine ⟨u0, u1, u2, ?_, ?_, ?_, by rw [List.getElem_drop]; exact d⟩
  · rw [List.getElem?_drop, ← a]; congr 1; omega
  · rw [List.getElem?_drop, ← b]; congr 1; omega
  · rw [List.getElem?_drop, ← c]; congr 1; omega
theorem CT.one' {S : Nat → Bool} {w : World} {xs : List Value} {L : List T} (h : CT S w xs L) : ∀ u ∈ xs, u.oneCell' = true := by
  intro u hu
  obtain ⟨j, hj, rfl⟩ := List.getElem_of_mem hu
  have h1 := h.1
  obtain ⟨u0, u1, u2, a, b, c, d⟩ := h.2 (j / 3) (by omega)
  have ho := d.one
  have e : xs[j]? = some xs[j] := List.getElem?_eq_getElem hj
  rcases (show j = j / 3 * 3 ∨ j = j / 3 * 3 + 1 ∨ j = j / 3 * 3 + 2 by omega) with g | g | g
  · rw [← g, e] at a; injection a with a; rw [a]; exact ho _ (by simp)
  · rw [← g, e] at b; injection b with b; rw [b]; exact ho _ (by simp)
  · rw [← g, e] at c; injection c with c; rw [c]; exact ho _ (by simp)
theorem TermsRow.cells {w : World} {base : Nat} {v : Value} {L : List T} (h : TermsRow w base v L) : ∃ xs, w.ownsRow base 29 3 v L.length xs ∧ CT (but base v.ownBlock) w xs L := by
  obtain ⟨xs, h1, h2⟩ := h.owns
  exact ⟨xs, h1, h1.1, h2⟩
theorem TermsRow.of {w : World} {base : Nat} {v : Value} {L : List T} {xs : List Value} (h : w.ownsRow base 29 3 v L.length xs) (hc : CT (but base v.ownBlock) w xs L) : TermsRow w base v L := by
  rcases h.2 with ⟨rfl, h0⟩ | ⟨g, cap, cur, rfl, h5, h1, h3, h4, h2, htake⟩
  · exact .inl ⟨rfl, List.eq_nil_of_length_eq_zero h0⟩
  · refine .inr ⟨g, cap, rfl, cur, h1, h2, h3, h4, h5, fun i hi => ?_⟩
    obtain ⟨u0, u1, u2, a, b, c, d⟩ := hc.2 i hi
    have hcur : ∀ j u, xs[j]? = some u → cur[j]? = some u := fun j u hu => by
      rw [← htake, List.getElem?_take] at hu
      split at hu
      · simpa using hu
      · cases hu
    exact ⟨u0, u1, u2, hcur _ _ a, hcur _ _ b, hcur _ _ c, d⟩
/-- A shorter slice of a row. -/
theorem own_take {w : World} {base g n cap j : Nat} {e : TypeId} {size : Nat} {xs : List Value} (h : w.ownsRow base e size (.slice (some ⟨g, 0, none⟩) n cap) n xs) (hj : j ≤ n) : w.ownsRow base e size (.slice (some ⟨g, 0, none⟩) j cap) j (xs.take (j * size)) := by
  obtain ⟨hl, hh⟩ := h
  rcases hh with ⟨h, _⟩ | ⟨g', cap', cur, hv, h5, h1, h3, h4, h2, htake⟩
  · cases h
  · simp only [Value.slice.injEq, Option.some.injEq, Addr.mk.injEq, and_true, true_and] at hv
    obtain ⟨rfl, rfl⟩ := hv
    have hm : j * size ≤ n * size := Nat.mul_le_mul_right _ hj
    refine ⟨by rw [List.length_take, hl]; exact Nat.min_eq_left hm, .inr ⟨g, cap, cur, rfl, h5, h1, Nat.le_trans hj h3, h4, h2, ?_⟩⟩
    rw [← htake, List.take_take, Nat.min_eq_left hm]
theorem own_take' {w : World} {base n cap j : Nat} {A : Option Addr} {e : TypeId} {size : Nat} {xs : List Value} (h : w.ownsRow base e size (.slice A n cap) n xs) (hj : j ≤ n) : w.ownsRow base e size (.slice A j cap) j (xs.take (j * size)) := by
  rcases h.2 with ⟨hv, h0⟩ | ⟨g, cap', cur, hv, _⟩
  · obtain rfl : j = 0 := by omega
    subst h0
    rw [hv]; simpa using World.ownsRow_nil w base e size
  · have hA : A = some ⟨g, 0, none⟩ := by injection hv
    subst hA; exact own_take h hj
end Go.Proofs.YtihbmgkbipeakaaGreat

namespace Go.Proofs.YtihbmgkbipeakaaGreat
open Go.RowKit

/-- A slice value's first m elements are these cells. -/
def Src (w : World) (size : Nat) (A : Option Addr) (m : Nat) (xs : List Value) : Prop :=
  xs.length = m * size ∧ (m = 0 ∨ ∃ g off, A = some ⟨g, off, none⟩ ∧ ∀ j u, xs[j]? = some u → w.cell? ⟨g, off + j, none⟩ = some u)
theorem Src.keep {w w' : World} {size m : Nat} {A : Option Addr} {xs : List Value} (h : Src w size A m xs) (hk : ∀ p : Addr, (w.cell? p).isSome = true → some p.block = A.map (·.block) → w'.cell? p = w.cell? p) : Src w' size A m xs := by
  refine ⟨h.1, ?_⟩
  rcases h.2 with h0 | ⟨g, off, rfl, hc⟩
  · exact .inl h0
  · exact .inr ⟨g, off, rfl, fun j u hu => (hk ⟨g, off + j, none⟩ (by rw [hc j u hu]; rfl) rfl).trans (hc j u hu)⟩
theorem Src.later {w w' : World} {size m : Nat} {A : Option Addr} {xs : List Value} (h : Src w size A m xs) (hb : Below w.heap.size w w') : Src w' size A m xs :=
  h.keep fun p hp _ => by
    obtain ⟨v, hv⟩ := Option.isSome_iff_exists.1 hp
    rw [hv]; exact cell_later hb hv
theorem Src.grown {w w' : World} {size m : Nat} {A : Option Addr} {xs : List Value} {row : Option Nat} (h : Src w size A m xs) (hg : w.grownBy w' row) (hr : A.map (·.block) ≠ row ∨ row = none) : Src w' size A m xs :=
  h.keep fun p hp hpA => by
    obtain ⟨v, hv⟩ := Option.isSome_iff_exists.1 hp
    rw [hv]; refine hg.cell hv (fun e => ?_)
    rcases hr with hr | hr
    · exact hr (by rw [← hpA, e])
    · rw [hr] at e; cases e
theorem Src.none_ (w : World) (size : Nat) (A : Option Addr) : Src w size A 0 [] := ⟨by simp, .inl rfl⟩
theorem Src.of_own {w : World} {base : Nat} {e : TypeId} {size n c : Nat} {A : Option Addr} {xs : List Value} (h : w.ownsRow base e size (.slice A n c) n xs) : Src w size A n xs := by
  refine ⟨h.1, ?_⟩
  rcases h.2 with ⟨_, h0⟩ | ⟨g, cap, cur, hv, _⟩
  · exact .inl h0
  · right
    have hA : A = some ⟨g, 0, none⟩ := by injection hv
    subst hA
    refine ⟨g, 0, rfl, fun j u hu => ?_⟩
    have := h.cells (g := g) rfl j u hu
    rw [Go.WideShapes.add_plain] at this
    exact this
/-- What a cut leaves. -/
theorem Src.cut {w : World} {size n k cap : Nat} {A : Option Addr} {xs : List Value} (h : Src w size A n xs) (hk : k ≤ n) (hc : n ≤ cap) : Src w size (if cap = k then A else A.map (·.add (k * size))) (n - k) (xs.drop (k * size)) := by
  refine ⟨by rw [List.length_drop, h.1, Nat.sub_mul], ?_⟩
  rcases Nat.eq_zero_or_pos (n - k) with h0 | h0
  · exact .inl h0
  · rcases h.2 with hn | ⟨g, off, rfl, hcell⟩
    · omega
    · right
      rw [if_neg (by omega)]
      refine ⟨g, off + k * size, by simp [Go.WideShapes.add_plain], fun j u hu => ?_⟩
      rw [List.getElem?_drop] at hu
      have := hcell _ u hu
      rw [← Nat.add_assoc] at this
      exact this
section
variable {P : Program} (w : World)
theorem run_append_src (base : Nat) (t ty e : TypeId) (i : TypeInfo) (z : Value) (size bytes : Nat) (ht : P.underlying t = some (.slice e)) (hi : P.info? e = some i) (hz : i.zero = some z)
    (hsize : i.size = size) (hby : i.bytes = bytes) (hzs : z.cells.size = size) (hsz : 0 < size)
    (v : Value) (n : Nat) (xs : List Value) (hown : w.ownsRow base e size v n xs)
    (A : Option Addr) (m c : Nat) (news : List Value) (hr : Src w size A m news) (h1 : ∀ u ∈ news, u.oneCell' = true)
    (h63 : n + m ≤ maxLen) (hbytes : (n + m) * bytes ≤ 140737488355328) (hbase : base ≤ w.heap.size) :
    ∃ A' c' w', (Builtin.append_ #[t, t] ty #[v, .slice A m c]).run P w = .ok (.slice A' (n + m) c') w' ∧ w'.ownsRow base e size (.slice A' (n + m) c') (n + m) (xs ++ news) ∧ w.grownBy w' v.ownBlock ∧
      (A'.map (·.block) = v.ownBlock ∨ A'.map (·.block) = some w.heap.size) := by
  have hform : ∀ {w' : World} {v' : Value} {n' : Nat} {ys : List Value}, w'.ownsRow base e size v' n' ys → ∃ A' c', v' = .slice A' n' c' ∧ v'.ownBlock = A'.map (·.block) := by
    intro w' v' n' ys h
    rcases h.2 with ⟨rfl, rfl⟩ | ⟨g, cap, cur, rfl, _⟩
    · exact ⟨none, 0, rfl, rfl⟩
    · exact ⟨_, cap, rfl, rfl⟩
  rcases A with _ | ad
  · have hm : m = 0 := by 
      rcases hr.2 with h0 | ⟨g, off, h, _⟩
      · exact h0
      · cases h
    subst hm
    have hn : news = [] := List.eq_nil_of_length_eq_zero (by simpa using hr.1)
    subst hn
    obtain ⟨A', c', hv, hb⟩ := hform hown
    refine ⟨A', c', w, ?_, by rw [Nat.add_zero, List.append_nil]; exact hv ▸ hown, ⟨rfl, rfl, rfl, Nat.le_refl _, fun _ _ _ => rfl⟩, .inl hb.symm⟩
    rw [Nat.add_zero, ← hv]
    rcases hown.2 with ⟨rfl, rfl⟩ | ⟨g, cap, cur, rfl, _, _, hnc, _⟩
    · simp [Builtin.append_, run_underlying ht, sizeOf, typeInfo, hi, Builtin.lenOf, Builtin.firstCells]
    · simp [Builtin.append_, run_underlying ht, sizeOf, typeInfo, hi, Builtin.lenOf, Builtin.firstCells, hnc, storeCells]
  · have hcells : ∀ j u, news[j]? = some u → w.cell? (ad.add j) = some u := by
      intro j u hu
      rcases hr.2 with h0 | ⟨g, off, h, hc⟩
      · subst h0
        have hn : news = [] := List.eq_nil_of_length_eq_zero (by simpa using hr.1)
        subst hn; simp at hu
      · injection h with h; subst h
        rw [Go.WideShapes.add_plain]; exact hc j u hu
    obtain ⟨v', w', hrun, h2, h3, _, h5⟩ := run_append_own_at (P := P) w base t ty e i z size bytes ht hi hz hsize hby hzs hsz v n xs hown ad m c news hr.1 hcells h1 h63 hbytes hbase
    obtain ⟨A', c', rfl, hb⟩ := hform h2
    exact ⟨A', c', w', hrun, h2, h3, by rw [← hb]; exact h5⟩
theorem wp_append_src {o : Oper} {a : Act} {K : Act → World → Prop} {Q : Exit → Act → World → Prop} (s x : Operand) (t : TypeId)
    (ho : o.op = .call { callee := .builtin .append, args := #[s, x], argTypes := #[t, t] })
    (base : Nat) (e : TypeId) (i : TypeInfo) (z : Value) (size bytes : Nat) (ht : P.underlying t = some (.slice e)) (hi : P.info? e = some i) (hz : i.zero = some z)
    (hsize : i.size = size) (hby : i.bytes = bytes) (hzs : z.cells.size = size) (hsz : 0 < size)
    (v : Value) (n : Nat) (xs : List Value) (hs : a.eval s = v) (hown : w.ownsRow base e size v n xs)
    (A : Option Addr) (m c : Nat) (news : List Value) (hx : a.eval x = .slice A m c) (hr : Src w size A m news) (h1 : ∀ u ∈ news, u.oneCell' = true)
    (h63 : n + m ≤ maxLen) (hbytes : (n + m) * bytes ≤ 140737488355328) (hbase : base ≤ w.heap.size)
    (h : ∀ A' c' w', w'.ownsRow base e size (.slice A' (n + m) c') (n + m) (xs ++ news) → w.grownBy w' v.ownBlock → (A'.map (·.block) = v.ownBlock ∨ A'.map (·.block) = some w.heap.size) → K (a.put o.dst (.slice A' (n + m) c')) w') : o.wp P a w K Q := by
  obtain ⟨A', c', w', hrun, h2, h3, h4⟩ := run_append_src (P := P) w base t o.type e i z size bytes ht hi hz hsize hby hzs hsz v n xs hown A m c news hr h1 h63 hbytes hbase
  unfold Oper.wp execOp
  simp only [ho, resolve, invoke, builtin, Sem.run_bind, Sem.run_pure, Result.andThen_ok, List.map_toArray, List.map_cons, List.map_nil, hs, hx, hrun]
  exact h A' c' w' h2 h3 h4
theorem wpList_append_src {ops : Array Oper} {rest : List Oper} {o : Oper} {a : Act} {Q : Exit → Act → World → Prop} (hgd : o.guard = none) (s x : Operand) (t : TypeId)
    (ho : o.op = .call { callee := .builtin .append, args := #[s, x], argTypes := #[t, t] })
    (base : Nat) (e : TypeId) (i : TypeInfo) (z : Value) (size bytes : Nat) (ht : P.underlying t = some (.slice e)) (hi : P.info? e = some i) (hz : i.zero = some z)
    (hsize : i.size = size) (hby : i.bytes = bytes) (hzs : z.cells.size = size) (hsz : 0 < size)
    (v : Value) (n : Nat) (xs : List Value) (hs : a.eval s = v) (hown : w.ownsRow base e size v n xs)
    (A : Option Addr) (m c : Nat) (news : List Value) (hx : a.eval x = .slice A m c) (hr : Src w size A m news) (h1 : ∀ u ∈ news, u.oneCell' = true)
    (h63 : n + m ≤ maxLen) (hbytes : (n + m) * bytes ≤ 140737488355328) (hbase : base ≤ w.heap.size)
    (h : ∀ A' c' w', w'.ownsRow base e size (.slice A' (n + m) c') (n + m) (xs ++ news) → w.grownBy w' v.ownBlock → (A'.map (·.block) = v.ownBlock ∨ A'.map (·.block) = some w.heap.size) → wpList P ops Q rest (a.put o.dst (.slice A' (n + m) c')) w') : wpList P ops Q (o :: rest) a w :=
  wpList_plain hgd fun _ hK => wp_append_src w s x t ho base e i z size bytes ht hi hz hsize hby hzs hsz v n xs hs hown A m c news hx hr h1 h63 hbytes hbase fun A' c' w' h2 h3 h4 => hK _ _ (h A' c' w' h2 h3 h4)
theorem step_append_src {ops : Array Oper} {o : Oper} {a : Act} {K : Act → World → Prop} {Q : Exit → Act → World → Prop} {E : Prop} (hgd : o.guard = none) (s x : Operand) (t : TypeId)
    (ho : o.op = .call { callee := .builtin .append, args := #[s, x], argTypes := #[t, t] })
    (base : Nat) (e : TypeId) (i : TypeInfo) (z : Value) (size bytes : Nat) (ht : P.underlying t = some (.slice e)) (hi : P.info? e = some i) (hz : i.zero = some z)
    (hsize : i.size = size) (hby : i.bytes = bytes) (hzs : z.cells.size = size) (hsz : 0 < size)
    (v : Value) (n : Nat) (xs : List Value) (hs : a.eval s = v) (hown : w.ownsRow base e size v n xs)
    (A : Option Addr) (m c : Nat) (news : List Value) (hx : a.eval x = .slice A m c) (hr : Src w size A m news) (h1 : ∀ u ∈ news, u.oneCell' = true)
    (h63 : n + m ≤ maxLen) (hbytes : (n + m) * bytes ≤ 140737488355328) (hbase : base ≤ w.heap.size)
    (h : ∀ A' c' w', w'.ownsRow base e size (.slice A' (n + m) c') (n + m) (xs ++ news) → w.grownBy w' v.ownBlock → (A'.map (·.block) = v.ownBlock ∨ A'.map (·.block) = some w.heap.size) → K (a.put o.dst (.slice A' (n + m) c')) w') :
    if Region.wanted o (yielded ops a.tmps) = true then Oper.wp P o a w K Q else E := by
  have hw : Region.wanted o (yielded ops a.tmps) = true := by simp [Region.wanted, hgd]
  rw [if_pos hw]
  exact wp_append_src w s x t ho base e i z size bytes ht hi hz hsize hby hzs hsz v n xs hs hown A m c news hx hr h1 h63 hbytes hbase h
end
end Go.Proofs.YtihbmgkbipeakaaGreat
