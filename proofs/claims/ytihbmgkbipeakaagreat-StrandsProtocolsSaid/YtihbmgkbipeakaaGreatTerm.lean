/- Chapter 40: terms as they lie in memory. -/
import Derived.Test.YtihbmgkbipeakaaGreatRows
import Derived.Test.YtihbmgkbipeakaaGreatUtil
import Derived.ProofKit
import Derived.OpenShut
import Derived.Maps.Range
import Derived.Deep.Slices
import Derived.Deep.Fields
import Derived.ChangeSame
import Derived.ChangeArms
namespace Go.Proofs.YtihbmgkbipeakaaGreat
open Go.RowKit Go.ChangeShapes Go.WideShapes Go.Deep

inductive T where
  | mk : Int → ByteArray → List T → T
namespace T
def kind : T → Int | mk k _ _ => k
def name : T → ByteArray | mk _ s _ => s
def kids : T → List T | mk _ _ ks => ks
end T
/-- A term, as a value, in a world. -/
inductive TermAt (w : World) : Value → T → Prop
  | mk (k : Int) (s : ByteArray) (A : Option Addr) (cap : Nat) (ks : List T) (U : Nat → Value × Value × Value) (hk : -9223372036854775808 ≤ k ∧ k ≤ 9223372036854775807) (hs : s.size ≤ maxLen) (hc : ks.length ≤ cap) (hm : cap ≤ maxLen)
      (hA : ks.length = 0 ∨ ∃ b off, A = some ⟨b, off, none⟩ ∧ ∀ i, i < ks.length → w.cell? ⟨b, off + i * 3, none⟩ = some (U i).1 ∧ w.cell? ⟨b, off + i * 3 + 1, none⟩ = some (U i).2.1 ∧ w.cell? ⟨b, off + i * 3 + 2, none⟩ = some (U i).2.2)
      (hU : ∀ i (h : i < ks.length), TermAt w (.agg #[(U i).1, (U i).2.1, (U i).2.2]) ks[i]) : TermAt w (.agg #[.int .i64 k, .string s, .slice A ks.length cap]) (.mk k s ks)
theorem TermAt.keep {w w' : World} {v : Value} {t : T} (h : TermAt w v t) (hk : ∀ p : Addr, (w.cell? p).isSome = true → w'.cell? p = w.cell? p) : TermAt w' v t := by
  induction h with
  | mk k s A cap ks U h1 h2 h3 h4 hA _ ih =>
    refine .mk k s A cap ks U h1 h2 h3 h4 ?_ ih
    rcases hA with hA | ⟨b, off, e, hc⟩
    · exact .inl hA
    · refine .inr ⟨b, off, e, fun i hi => ?_⟩
      obtain ⟨c0, c1, c2⟩ := hc i hi
      exact ⟨(hk _ (by rw [c0]; rfl)).trans c0, (hk _ (by rw [c1]; rfl)).trans c1, (hk _ (by rw [c2]; rfl)).trans c2⟩
theorem TermAt.later {w w' : World} {v : Value} {t : T} (h : TermAt w v t) (hb : Below w.heap.size w w') : TermAt w' v t := by
  refine h.keep fun p hp => ?_
  obtain ⟨v, hv⟩ := Option.isSome_iff_exists.1 hp
  rw [hv]; exact cell_later hb hv

theorem cells24 : Tryz.prog.cellsOf 29 = 3 := by kernel_rfl
theorem cells3 : Tryz.prog.cellsOf 3 = 1 := by kernel_rfl
theorem cells9 : Tryz.prog.cellsOf 9 = 1 := by kernel_rfl
theorem cells22 : Tryz.prog.cellsOf 27 = 1 := by kernel_rfl

mutual
/-- How many values and letters a term holds. -/
def T.bulk : T → Nat
  | .mk _ s ks => s.size + 4 + T.bulkAll ks
def T.bulkAll : List T → Nat
  | [] => 0
  | t :: r => T.bulk t + T.bulkAll r
end
theorem bulkAll_range {H : Type} (D : Nat → DataW H) (ts : List T) : ∀ n : Nat, ts.length = n → (∀ i (h : i < ts.length), ts[i].bulk ≤ Rows.uptoBulk (D i)) → T.bulkAll ts ≤ Rows.uptoBulkAll ((List.range n).map D) := by
  induction ts generalizing D with
  | nil => intro n hn _; simp [T.bulkAll]
  | cons t r ih =>
    intro n hn h
    obtain ⟨m, rfl⟩ : ∃ m, n = m + 1 := ⟨n - 1, by simp at hn; omega⟩
    rw [List.range_succ_eq_map, List.map_cons, List.map_map]
    have h0 := h 0 (by simp)
    have h1 := ih (D ∘ Nat.succ) m (by simpa using hn) (fun i hi => h (i + 1) (by simpa using hi))
    simp only [T.bulkAll, Rows.uptoBulkAll]
    simp only [List.getElem_cons_zero] at h0
    exact Nat.add_le_add h0 h1

set_option maxRecDepth 100000 in
theorem open_cells {H : Type} {enc : TypeId × Value → H} {w : World} : ∀ (N : Nat) (fuel : Nat) (cs : List Value) (d : DataW H) (p : List MemPlace), SizeOf.sizeOf d < N →
    DataW.trod enc Tryz.prog w 0 (fun _ => true) true fuel 29 cs = some (d, p) → ∃ t, TermAt w (.agg cs.toArray) t ∧ t.bulk ≤ Rows.uptoBulk d := by
  intro N
  induction N with
  | zero => intro fuel cs d p h; omega
  | succ N ih =>
    intro fuel cs d p hN h
    obtain ⟨xs, n, rfl, hx, hcl, hxl, hg⟩ := DataW.trod_struct Tryz.underlying29 h
    rw [cells24] at hcl
    match cs, hcl with
    | [c0, c1, c2], _ =>
      match xs, hxl with
      | [y0, y1, y2], _ =>
        have g0 := hg 0 _ rfl
        have g1 := hg 1 _ rfl
        have g2 := hg 2 _ rfl
        simp [cells3, cells9, cells22] at g0 g1 g2
        obtain ⟨k, e0, hy0, wk⟩ := DataW.trod_int Tryz.underlying3 g0
        obtain ⟨s, e1, hy1, hs⟩ := DataW.trod_string Tryz.underlying9 g1
        simp at e0 e1
        subst e0; subst e1
        have bk := bounds_i64 wk
        rw [Prod.mk.injEq] at hx
        obtain ⟨rfl, -⟩ := hx
        rcases open_slice Tryz.underlying27 g2 with ⟨e2, hy2⟩ | ⟨a, len, cap, m, n', D, Pl, e2, hb, hl, hm, hmm, hy2, hi⟩
        · simp at e2
          subst e2
          refine ⟨.mk k s [], .mk k s none 0 [] (fun _ => (undef, undef, undef)) bk hs (Nat.le_refl _) (Nat.zero_le _) (.inl rfl) (fun i h => by simp at h), ?_⟩
          rw [hy0, hy1, hy2]
          simp [T.bulk, T.bulkAll, Rows.uptoBulk, Rows.uptoBulkAll]
          omega
        · simp at e2
          subst e2
          simp only [if_true] at hmm
          subst hmm
          have hsz : ∀ i, i < len → SizeOf.sizeOf (D i) < N := fun i h => by
            have h1 : D i ∈ (List.range len).map D := List.mem_map.2 ⟨i, List.mem_range.2 h, rfl⟩
            have h2 := List.sizeOf_lt_of_mem h1
            rw [hy0, hy1, hy2] at hN
            simp at hN
            omega
          have hK : ∀ i, i < len → ∃ x : T × Value × Value × Value, TermAt w (.agg #[x.2.1, x.2.2.1, x.2.2.2]) x.1 ∧ x.1.bulk ≤ Rows.uptoBulk (D i) ∧
              w.cell? (a.add (i * 3)) = some x.2.1 ∧ w.cell? ((a.add (i * 3)).add 1) = some x.2.2.1 ∧ w.cell? ((a.add (i * 3)).add 2) = some x.2.2.2 := fun i h => by
            obtain ⟨cs', hc, ht⟩ := hi i (by omega)
            rw [cells24] at hc
            obtain ⟨_, hcl', hat⟩ := World.cells?_some hc
            obtain ⟨t, ht1, ht2⟩ := ih n' cs' (D i) (Pl i) (hsz i h) ht
            match cs', hcl' with
            | [u0, u1, u2], _ =>
              have q0 := hat 0 (by omega); have q1 := hat 1 (by omega); have q2 := hat 2 (by omega)
              rw [Go.Deep.add_add] at q0
              exact ⟨(t, u0, u1, u2), ht1, ht2, by simpa using q0, by simpa using q1, by simpa using q2⟩
          have : Inhabited (T × Value × Value × Value) := ⟨(.mk 0 ⟨#[]⟩ [], undef, undef, undef)⟩
          obtain ⟨F, hF⟩ := choose_lt hK
          have hlen : ((List.range len).map fun i => (F i).1).length = len := by simp
          refine ⟨.mk k s ((List.range len).map fun i => (F i).1), ?_, ?_⟩
          · have hA : len = 0 ∨ ∃ b off, a = ⟨b, off, none⟩ := by
              rcases Nat.eq_zero_or_pos len with h0 | h0
              · exact .inl h0
              · obtain ⟨_, _, c0, _⟩ := hF 0 h0
                obtain ⟨b, off, spot⟩ := a
                have hspot : spot = none := by simpa [Addr.add] using World.cell?_spot c0
                subst hspot; exact .inr ⟨b, off, rfl⟩
            have := TermAt.mk (w := w) k s (some a) _ ((List.range len).map fun i => (F i).1) (fun i => (F i).2) bk hs (by rw [hlen]; exact hl) hm
              (by
                rcases hA with h0 | ⟨b, off, rfl⟩
                · left; rw [hlen]; exact h0
                · refine .inr ⟨b, off, rfl, fun i h => ?_⟩
                  rw [hlen] at h
                  obtain ⟨_, _, c0, c1, c2⟩ := hF i h
                  simp only [Go.WideShapes.add_plain] at c0 c1 c2
                  exact ⟨c0, c1, c2⟩)
              (fun i h => by
                rw [hlen] at h
                have := (hF i h).1
                simpa using this)
            rw [hlen] at this
            exact this
          · rw [hy0, hy1, hy2]
            have hb := bulkAll_range D ((List.range len).map fun i => (F i).1) len hlen (fun i h => by rw [hlen] at h; simpa using (hF i h).2.1)
            simp only [T.bulk, Rows.uptoBulk, Rows.uptoBulkAll, List.map_cons, List.map_nil]
            simp
            omega
end Go.Proofs.YtihbmgkbipeakaaGreat
