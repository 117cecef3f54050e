/- Chapter 42: a strand that comes in, opened; its moves in memory. -/
import Derived.Test.YtihbmgkbipeakaaGreatStrValid
namespace Go.Proofs.YtihbmgkbipeakaaGreat
open Go.RowKit Go.ChangeShapes Go.WideShapes Go.Deep

theorem cellsMove : Tryz.prog.cellsOf 52 = 4 := by kernel_rfl
theorem cellsMoves : Tryz.prog.cellsOf 47 = 1 := by kernel_rfl
theorem cellsStrand : Tryz.prog.cellsOf 49 = 2 := by kernel_rfl
/-- How many values and letters moves hold. -/
def bulkM : List (Int × T) → Nat
  | [] => 0
  | m :: r => m.2.bulk + bulkM r
theorem bulkM_mem : ∀ (l : List (Int × T)) {m : Int × T}, m ∈ l → m.2.bulk ≤ bulkM l
  | [], _, h => by simp at h
  | x :: r, m, h => by
    simp only [bulkM]
    rcases List.mem_cons.1 h with rfl | h
    · omega
    · have := bulkM_mem r h; omega
theorem bulkM_range {H : Type} (D : Nat → DataW H) (ts : List (Int × T)) : ∀ n : Nat, ts.length = n → (∀ i (h : i < ts.length), ts[i].2.bulk ≤ Rows.uptoBulk (D i)) → bulkM ts ≤ Rows.uptoBulkAll ((List.range n).map D) := by
  induction ts generalizing D with
  | nil => intro n hn _; simp [bulkM]
  | cons t r ih =>
    intro n hn h
    obtain ⟨m, rfl⟩ : ∃ m, n = m + 1 := ⟨n - 1, by simp at hn; omega⟩
    rw [List.range_succ_eq_map, List.map_cons, List.map_map]
    have h0 := h 0 (by simp)
    have h1 := ih (D ∘ Nat.succ) m (by simpa using hn) (fun i hi => h (i + 1) (by simpa using hi))
    simp only [bulkM, Rows.uptoBulkAll]
    simp only [List.getElem_cons_zero] at h0
    exact Nat.add_le_add h0 h1

set_option maxRecDepth 100000 in
theorem open_move {H : Type} {enc : TypeId × Value → H} {w : World} {fuel : Nat} {cs : List Value} {d : DataW H} {p : List MemPlace}
    (h : DataW.trod enc Tryz.prog w 0 (fun _ => true) true fuel 52 cs = some (d, p)) :
    ∃ (k : Int) (t : T) (u0 u1 u2 : Value), cs = [.int .i64 k, u0, u1, u2] ∧ TermAt w (.agg #[u0, u1, u2]) t ∧ t.bulk ≤ Rows.uptoBulk d ∧ -9223372036854775808 ≤ k ∧ k ≤ 9223372036854775807 := by
  obtain ⟨xs, n, rfl, hx, hcl, hxl, hg⟩ := DataW.trod_struct Tryz.underlying52 h
  rw [cellsMove] at hcl
  match cs, hcl with
  | [c0, c1, c2, c3], _ =>
    match xs, hxl with
    | [y0, y1], _ =>
      have g0 := hg 0 _ rfl
      have g1 := hg 1 _ rfl
      simp [cells3, cells24] at g0 g1
      obtain ⟨k, e0, hy0, wk⟩ := DataW.trod_int Tryz.underlying3 g0
      simp at e0
      subst e0
      have bk := bounds_i64 wk
      rw [Prod.mk.injEq] at hx
      obtain ⟨rfl, -⟩ := hx
      obtain ⟨d1, p1⟩ := y1
      obtain ⟨t, ht, hb⟩ := open_cells _ n [c1, c2, c3] d1 p1 (Nat.lt_succ_self _) g1
      refine ⟨k, t, c1, c2, c3, rfl, ht, ?_, bk.1, bk.2⟩
      simp only [Rows.uptoBulk, Rows.uptoBulkAll, List.map_cons, List.map_nil]
      omega
set_option maxRecDepth 100000 in
theorem open_strand {H : Type} {enc : TypeId × Value → H} {w : World} {b0 : Nat} {v : Value} {d : DataW H} {p : List MemPlace} {r : Reach}
    (hv : Value.okWide Tryz.prog w r b0 49 v) (hd : DataW.Trod enc Tryz.prog w 0 (fun _ => true) true 49 v d p) :
    ∃ (role : ByteArray) (A : Option Addr) (cap : Nat) (ms : List (Int × T)), v = .agg #[.string role, .slice A ms.length cap] ∧ MovesAt w A ms ∧ role.size ≤ maxLen ∧ ms.length ≤ cap ∧ cap ≤ maxLen ∧ bulkM ms ≤ Rows.uptoBulk d := by
  obtain ⟨fuel, hf⟩ := hd
  obtain ⟨cs, rfl, _⟩ := okWide_struct Tryz.underlying49 hv
  have hf' : DataW.trod enc Tryz.prog w 0 (fun _ => true) true fuel 49 cs.toList = some (d, p) := by simpa [Value.cells] using hf
  obtain ⟨l, rfl⟩ : ∃ l : List Value, cs = l.toArray := ⟨cs.toList, by simp⟩
  rw [List.toList_toArray] at hf'
  clear hf hv
  obtain ⟨xs, n, rfl, hx, hcl, hxl, hg⟩ := DataW.trod_struct Tryz.underlying49 hf'
  rw [cellsStrand] at hcl
  match l, hcl with
  | [c0, c1], _ =>
    match xs, hxl with
    | [y0, y1], _ =>
      have g0 := hg 0 _ rfl
      have g1 := hg 1 _ rfl
      simp [cells9, cellsMoves] at g0 g1
      obtain ⟨s, e0, hy0, hs⟩ := DataW.trod_string Tryz.underlying9 g0
      simp at e0
      subst e0
      rw [Prod.mk.injEq] at hx
      obtain ⟨rfl, -⟩ := hx
      rcases open_slice Tryz.underlying47 g1 with ⟨e2, hy2⟩ | ⟨a, len, cap, m, n', D, Pl, e2, hb, hl, hm, hmm, hy2, hi⟩
      · simp at e2
        subst e2
        exact ⟨s, none, 0, [], rfl, .inl rfl, hs, Nat.le_refl _, Nat.zero_le _, Nat.zero_le _⟩
      · simp at e2
        subst e2
        simp only [if_true] at hmm
        subst hmm
        have hK : ∀ i, i < len → ∃ x : (Int × T) × Value × Value × Value, TermAt w (.agg #[x.2.1, x.2.2.1, x.2.2.2]) x.1.2 ∧ x.1.2.bulk ≤ Rows.uptoBulk (D i) ∧ (-9223372036854775808 ≤ x.1.1 ∧ x.1.1 ≤ 9223372036854775807) ∧
            w.cell? (a.add (i * 4)) = some (.int .i64 x.1.1) ∧ w.cell? ((a.add (i * 4)).add 1) = some x.2.1 ∧ w.cell? ((a.add (i * 4)).add 2) = some x.2.2.1 ∧ w.cell? ((a.add (i * 4)).add 3) = some x.2.2.2 := fun i h => by
          obtain ⟨cs', hc, ht⟩ := hi i (by omega)
          rw [cellsMove] at hc
          obtain ⟨_, hcl', hat⟩ := World.cells?_some hc
          obtain ⟨k, t, u0, u1, u2, rfl, ht1, ht2, hk1, hk2⟩ := open_move ht
          have q0 := hat 0 (by omega); have q1 := hat 1 (by omega); have q2 := hat 2 (by omega); have q3 := hat 3 (by omega)
          rw [Go.Deep.add_add] at q0
          exact ⟨((k, t), u0, u1, u2), ht1, ht2, ⟨hk1, hk2⟩, by simpa using q0, by simpa using q1, by simpa using q2, by simpa using q3⟩
        have : Inhabited ((Int × T) × Value × Value × Value) := ⟨((0, .mk 0 ⟨#[]⟩ []), undef, undef, undef)⟩
        obtain ⟨F, hF⟩ := choose_lt hK
        have hlen : ((List.range len).map fun i => (F i).1).length = len := by simp
        refine ⟨s, some a, _, (List.range len).map fun i => (F i).1, by rw [hlen], ?_, hs, by rw [hlen]; exact hl, hm, ?_⟩
        · rcases Nat.eq_zero_or_pos len with h0 | h0
          · exact .inl (by rw [hlen]; exact h0)
          · have hA : ∃ b off, a = ⟨b, off, none⟩ := by
              obtain ⟨_, _, _, c0, _⟩ := hF 0 h0
              obtain ⟨b, off, spot⟩ := a
              have hspot : spot = none := by simpa [Addr.add] using World.cell?_spot c0
              subst hspot; exact ⟨b, off, rfl⟩
            obtain ⟨b, off, rfl⟩ := hA
            refine .inr ⟨b, off, rfl, fun i hi' => ?_⟩
            rw [hlen] at hi'
            obtain ⟨ht, _, hk, c0, c1, c2, c3⟩ := hF i hi'
            simp only [Go.WideShapes.add_plain] at c0 c1 c2 c3
            obtain ⟨e0, e1, A', c', e2⟩ := TermAt.view ht
            rw [e0] at c1; rw [e1] at c2; rw [e2] at c3
            rw [e0, e1, e2] at ht
            simp only [List.getElem_map, List.getElem_range]
            exact ⟨A', c', c0, c1, c2, c3, ht, hk⟩
        · have hb := bulkM_range D ((List.range len).map fun i => (F i).1) len hlen (fun i h => by rw [hlen] at h; simpa using (hF i h).2.1)
          rw [hy2]
          simp only [Rows.uptoBulk, Rows.uptoBulkAll, List.map_cons, List.map_nil]
          simp
          omega
end Go.Proofs.YtihbmgkbipeakaaGreat
