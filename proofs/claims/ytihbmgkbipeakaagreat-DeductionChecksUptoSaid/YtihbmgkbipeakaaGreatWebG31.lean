/- Several texts in one: WebMd, WebNa, WebNb, WebNc. -/
import Derived.Test.YtihbmgkbipeakaaGreatWebG30
import Derived.Test.YtihbmgkbipeakaaGreatWebG28
import Derived.Test.YtihbmgkbipeakaaGreatWebG23
import Derived.Test.YtihbmgkbipeakaaGreatWebG17
import Derived.Test.YtihbmgkbipeakaaGreatWebG27
namespace Go.Proofs.YtihbmgkbipeakaaGreat
open Go.RowKit Go.ChangeShapes Go.WideShapes

namespace T
mutual
/-- How many terms a term is made of. -/
theorem subs_len5 : ∀ (t : T), t.shape = true → (subs t).length ≤ 5 * t.size
  | .mk k s ks, h => by
    have hsk := shapeK h
    have h' := h
    simp only [shape] at h'
    split at h'
    · rename_i h12
      rw [Bool.and_eq_true, beq_iff_eq] at h'
      rw [List.eq_nil_of_length_eq_zero h'.2]
      have h7 : ¬ k = 7 := by omega
      simp only [subs, subsAll, size, sizeAll, if_neg h7, List.append_nil, List.length_singleton]; omega
    · rename_i h12
      rw [Bool.and_eq_true] at h'
      have h1 := subsAll_len5 ks h'.2
      simp only [subs, size, List.length_cons, List.length_append]
      simp only [kind, kids] at hsk
      split
      · rename_i h7
        have hat : ∀ (l : List T), (∀ x ∈ l, x.kind = 1 ∨ x.kind = 2) → (∀ x ∈ l, x.shape = true) → (subsAll l).length ≤ l.length ∧ sizeAll l = l.length := fun l => by
          induction l with
          | nil => intro _ _; exact ⟨Nat.le_refl _, rfl⟩
          | cons a r ih =>
            intro hk hs
            obtain ⟨g1, g2⟩ := ih (fun x hx => hk x (List.mem_cons_of_mem _ hx)) (fun x hx => hs x (List.mem_cons_of_mem _ hx))
            have ha := hk a (by simp); have hsa := hs a (by simp)
            obtain ⟨k', s', ks'⟩ := a
            rw [T.shape_atom k' s' ks' ha, Bool.and_eq_true, beq_iff_eq] at hsa
            have e := List.eq_nil_of_length_eq_zero hsa.2
            subst e
            have ha' : k' = 1 ∨ k' = 2 := ha
            have h77 : ¬ k' = 7 := by omega
            simp only [subsAll, sizeAll, subs, size, if_neg h77, List.length_append, List.length_cons, List.append_nil, List.length_nil]
            omega
        have hks : ∀ x ∈ ks, x.kind = 1 ∨ x.kind = 2 := fun x hx => by
          obtain ⟨i, hi, rfl⟩ := List.getElem_of_mem hx
          have := exp_atom h h7 (i := i) hi
          rw [kid_eq (t := .mk k s ks) hi] at this
          exact this
        obtain ⟨g1, g2⟩ := hat ks hks ((shapeAll_iff ks).1 h'.2)
        have h2 : (((subl ks).filter fun l => !l.isEmpty).map (T.mk 7 ⟨#[]⟩)).length ≤ 2 ^ ks.length := by
          rw [List.length_map]
          refine Nat.le_trans (List.length_filter_le _ _) ?_
          rw [subl_len]; exact Nat.le_refl _
        have h3 : 2 ^ ks.length + ks.length + 1 ≤ 5 * (ks.length + 1) := by
          have : ks.length = 0 ∨ ks.length = 1 ∨ ks.length = 2 ∨ ks.length = 3 ∨ ks.length = 4 := by omega
          rcases this with e | e | e | e | e <;> rw [e] <;> decide
        omega
      · simp only [List.length_nil]; omega
theorem subsAll_len5 : ∀ (l : List T), shapeAll l = true → (subsAll l).length ≤ 5 * sizeAll l
  | [], _ => by simp [subsAll, sizeAll]
  | t :: r, h => by
    simp only [shapeAll, Bool.and_eq_true] at h
    have h1 := subs_len5 t h.1
    have h2 := subsAll_len5 r h.2
    simp only [subsAll, sizeAll, List.length_append]; omega
end
end T
/-- A set for terms that are made. -/
theorem uni_made {K : List T} {G : T} (hK : ∀ t ∈ K, T.Made 0 4 t) (hG : G.size ≤ 39) (hGb : G.bulk ≤ 1048576) (h7 : K.length ≤ 7) :
    ∃ U, Uni U ∧ (∀ t ∈ U, t.bulk ≤ 1048576) ∧ (∀ t ∈ cnt K, t ∈ U) ∧ (G.use = true → G ∈ U) ∧ U.length ≤ 4096 := by
  have hc : (cnt K).length ≤ 7 := by unfold cnt; exact Nat.le_trans (List.length_filter_le _ _) (by rw [List.length_take]; omega)
  have hv : ∀ t ∈ (G :: cnt K).filter T.use, t.valid = true := fun t ht => T.use_valid (List.mem_filter.1 ht).2
  have hl : ((G :: cnt K).filter T.use).length ≤ 8 := Nat.le_trans (List.length_filter_le _ _) (by simp; omega)
  obtain ⟨hU, hbU⟩ := uni_few ((G :: cnt K).filter T.use) hv (by omega) (fun t ht => by
      rcases List.mem_cons.1 (List.mem_filter.1 ht).1 with rfl | h
      · exact hGb
      · have := (hK t (mem_of_cnt t h)).bulk (by omega); omega)
  refine ⟨_, hU, hbU, fun t ht => in_subs (List.mem_filter.2 ⟨List.mem_cons_of_mem _ ht, use_of t ht⟩), fun hu => in_subs (List.mem_filter.2 ⟨by simp, hu⟩), ?_⟩
  have h1 := T.subsAll_len5 ((G :: cnt K).filter T.use) ((T.shapeAll_iff _).2 fun t ht => (Bool.and_eq_true_iff.1 (hv t ht)).2)
  have h2 := sizeAll_le_ ((G :: cnt K).filter T.use) fun t ht => by
    rcases List.mem_cons.1 (List.mem_filter.1 ht).1 with rfl | h
    · omega
    · have := (hK t (mem_of_cnt t h)).2.1
      have : 5 * 2 ^ (4 - 1) = 40 := by decide
      omega
  omega
theorem der_can (W : List Stp) (t : T) : (derV W t).isSome = canB W t := by
  unfold derV canB
  cases t.use with
  | false => rfl
  | true => simp
theorem rto_frm {K : T → Prop} {L : List Rsn} {s : Rsn} {k : Nat} (h : Wb.RtO K L s k) : s.frm.length ≤ 2 := by
  obtain ⟨how, frm, _, h2, _, h4⟩ := h
  rw [h2, List.length_map]
  cases h4 <;> simp
/-- The program's check, whatever the list of steps. -/
theorem ocheckT {Ak A : Option Addr} {ck c : Nat} {K : List T} {L : List Rsn} (w : World) (hK : KnownAt w Ak ck K) (h0 : 0 < (cnt K).length) (hKb : ∀ t ∈ K, t.bulk ≤ 1048576) (hL : DedAt w A L) (hLb : ∀ s ∈ L, s.t.bulk ≤ 1048576 ∧ s.frm.length ≤ 1048576) :
    Calls Tryz.prog 14 #[.slice Ak K.length ck, .slice A L.length c] w fun e w' => e = .returned (.bool (rchkB (cnt K) L)) ∧ Below w.heap.size w w' := by
  rw [← chk_same]
  have hprev : ∀ i (hi : i < L.length), (∀ j, j < i → rightB oneF pairF (cnt K) L j = true) → ∀ x, offB i x = false → (tAt L x).use = true := fun i hi hp x hx => by
    obtain ⟨j, rfl, hj⟩ := off_false hx
    have hjl : j < L.length := Nat.lt_trans hj hi
    rw [t_at hjl]
    exact right_use (hp j hj) hjl
  exact ocheck w hK h0 hKb hL hLb
    (fun i hi hp hu x _ hx => oone _ _ _ (hLb _ (List.getElem_mem hi)).1 (Nat.le_trans (use_bulk (hprev i hi hp x hx)) (by omega)) hu (hprev i hi hp x hx))
    (fun i hi hp hu x y _ hx hy => opair _ _ _ _ (hLb _ (List.getElem_mem hi)).1 hu (hprev i hi hp x hx) (hprev i hi hp y hy))
end Go.Proofs.YtihbmgkbipeakaaGreat

namespace Go.Proofs.YtihbmgkbipeakaaGreat
open Go.RowKit Go.ChangeShapes Go.WideShapes Go.Deep

theorem cellsReason : Tryz.prog.cellsOf 31 = 5 := by kernel_rfl
theorem cellsIntsR : Tryz.prog.cellsOf 22 = 1 := by kernel_rfl
theorem upto_pos {H : Type} (d : DataW H) : 1 ≤ Rows.uptoBulk d := by
  cases d with
  | lit l => cases l <;> simp [Rows.uptoBulk]
  | _ => simp [Rows.uptoBulk]
theorem uptoAll_len {H : Type} : ∀ l : List (DataW H), l.length ≤ Rows.uptoBulkAll l
  | [] => Nat.zero_le _
  | d :: r => by
    have := uptoAll_len r; have := upto_pos d
    simp only [Rows.uptoBulkAll, List.length_cons]; omega
theorem uptoAll_mem {H : Type} : ∀ {l : List (DataW H)} {d : DataW H}, d ∈ l → Rows.uptoBulk d ≤ Rows.uptoBulkAll l
  | x :: r, d, h => by
    simp only [Rows.uptoBulkAll]
    rcases List.mem_cons.1 h with rfl | h
    · omega
    · have := uptoAll_mem h; omega

set_option maxRecDepth 100000 in
theorem open_ints {H : Type} {enc : TypeId × Value → H} {w : World} {fuel : Nat} {cs : List Value} {d : DataW H} {p : List MemPlace}
    (h : DataW.trod enc Tryz.prog w 0 (fun _ => true) true fuel 22 cs = some (d, p)) :
    ∃ (F : Option Addr) (fc : Nat) (ns : List Int), cs = [.slice F ns.length fc] ∧ IntsIn (fun _ => true) w F ns ∧ ns.length ≤ Rows.uptoBulk d := by
  rcases open_slice Tryz.underlying22 h with ⟨e2, hy2⟩ | ⟨a, len, cap, m, n', D, Pl, e2, hb, hl, hm, hmm, hy2, hi⟩
  · subst e2
    exact ⟨none, 0, [], rfl, .inl rfl, Nat.zero_le _⟩
  · subst e2
    simp only [if_true] at hmm
    subst hmm
    have hK : ∀ i, i < len → ∃ x : Int, w.cell? (a.add i) = some (.int .i64 x) := fun i h => by
      obtain ⟨cs', hc, ht⟩ := hi i (by omega)
      rw [cells3] at hc
      obtain ⟨_, hcl', hat⟩ := World.cells?_some hc
      obtain ⟨k, rfl, _, _⟩ := DataW.trod_int Tryz.underlying3 ht
      have q0 := hat 0 (by omega)
      rw [Go.Deep.add_add] at q0
      exact ⟨k, by simpa using q0⟩
    obtain ⟨F, hF⟩ := choose_lt hK
    have hlen : ((List.range len).map F).length = len := by simp
    refine ⟨some a, _, (List.range len).map F, by rw [hlen], ?_, ?_⟩
    · rcases Nat.eq_zero_or_pos len with h0 | h0
      · exact .inl (by rw [hlen]; exact h0)
      · have hA : ∃ b off, a = ⟨b, off, none⟩ := by
          have c0 := hF 0 h0
          obtain ⟨b, off, spot⟩ := a
          have hspot : spot = none := by simpa [Addr.add] using World.cell?_spot c0
          subst hspot; exact ⟨b, off, rfl⟩
        obtain ⟨b, off, rfl⟩ := hA
        refine .inr ⟨b, off, rfl, rfl, fun i hi' => ?_⟩
        rw [hlen] at hi'
        have c0 := hF i hi'
        simp only [Go.WideShapes.add_plain] at c0
        simp only [List.getElem_map, List.getElem_range]
        exact c0
    · have := uptoAll_len ((List.range len).map D)
      rw [(Prod.mk.inj hy2).1, hlen]
      simp only [Rows.uptoBulk]
      simp at this
      first | omega | (simp; omega)

set_option maxRecDepth 100000 in
theorem open_reason {H : Type} {enc : TypeId × Value → H} {w : World} {fuel : Nat} {cs : List Value} {d : DataW H} {p : List MemPlace}
    (h : DataW.trod enc Tryz.prog w 0 (fun _ => true) true fuel 31 cs = some (d, p)) :
    ∃ (s : Rsn) (u0 u1 u2 : Value) (F : Option Addr) (fc : Nat), cs = [u0, u1, u2, .int .i64 s.how, .slice F s.frm.length fc] ∧ TermAt w (.agg #[u0, u1, u2]) s.t ∧ IntsIn (fun _ => true) w F s.frm ∧ s.t.bulk ≤ Rows.uptoBulk d ∧ s.frm.length ≤ Rows.uptoBulk d := by
  obtain ⟨xs, n, rfl, hx, hcl, hxl, hg⟩ := DataW.trod_struct Tryz.underlying31 h
  rw [cellsReason] at hcl
  match cs, hcl with
  | [c0, c1, c2, c3, c4], _ =>
    match xs, hxl with
    | [y0, y1, y2], _ =>
      have g0 := hg 0 _ rfl
      have g1 := hg 1 _ rfl
      have g2 := hg 2 _ rfl
      simp [cells3, cells24, cellsIntsR] at g0 g1 g2
      obtain ⟨k, e0, hy0, wk⟩ := DataW.trod_int Tryz.underlying3 g1
      simp at e0
      subst e0
      obtain ⟨d2, p2⟩ := y2
      obtain ⟨F, fc, ns, e2, hF, hFl⟩ := open_ints g2
      simp at e2
      subst e2
      rw [Prod.mk.injEq] at hx
      obtain ⟨rfl, -⟩ := hx
      obtain ⟨d1, p1⟩ := y0
      obtain ⟨t, ht, hb⟩ := open_cells _ n [c0, c1, c2] d1 p1 (Nat.lt_succ_self _) g0
      refine ⟨⟨t, k, ns⟩, c0, c1, c2, F, fc, rfl, ht, hF, ?_, ?_⟩
      · simp only [Rows.uptoBulk, Rows.uptoBulkAll, List.map_cons, List.map_nil]
        omega
      · simp only [Rows.uptoBulk, Rows.uptoBulkAll, List.map_cons, List.map_nil]
        omega

set_option maxRecDepth 100000 in
theorem open_reasons {H : Type} {enc : TypeId × Value → H} {w : World} {b0 : Nat} {v : Value} {d : DataW H} {p : List MemPlace} {r : Reach}
    (hv : Value.okWide Tryz.prog w r b0 23 v) (h : DataW.Trod enc Tryz.prog w 0 (fun _ => true) true 23 v d p) :
    ∃ (A : Option Addr) (cap : Nat) (L : List Rsn), v = .slice A L.length cap ∧ DedAt w A L ∧ L.length ≤ cap ∧ cap ≤ maxLen ∧ ∀ s ∈ L, s.t.bulk ≤ Rows.uptoBulk d ∧ s.frm.length ≤ Rows.uptoBulk d := by
  obtain ⟨a0, len0, cap0, rfl⟩ := okWide_slice Tryz.underlying23 hv
  obtain ⟨fuel, hf⟩ := h
  rcases open_slice Tryz.underlying23 hf with ⟨e2, hy2⟩ | ⟨a, len, cap, m, n', D, Pl, e2, hb, hl, hm, hmm, hy2, hi⟩
  · simp [Value.cells] at e2
    obtain ⟨rfl, rfl, rfl⟩ := e2
    exact ⟨none, 0, [], rfl, .inl rfl, Nat.le_refl _, Nat.zero_le _, fun s hs => (List.not_mem_nil hs).elim⟩
  · simp [Value.cells] at e2
    obtain ⟨rfl, rfl, rfl⟩ := e2
    simp only [if_true] at hmm
    subst hmm
    have hK : ∀ i, i < len0 → ∃ x : Rsn × (Value × Value × Value) × Option Addr × Nat, TermAt w (.agg #[x.2.1.1, x.2.1.2.1, x.2.1.2.2]) x.1.t ∧ IntsIn (fun _ => true) w x.2.2.1 x.1.frm ∧ (x.1.t.bulk ≤ Rows.uptoBulk (D i) ∧ x.1.frm.length ≤ Rows.uptoBulk (D i)) ∧
        w.cell? (a.add (i * 5)) = some x.2.1.1 ∧ w.cell? ((a.add (i * 5)).add 1) = some x.2.1.2.1 ∧ w.cell? ((a.add (i * 5)).add 2) = some x.2.1.2.2 ∧
        w.cell? ((a.add (i * 5)).add 3) = some (.int .i64 x.1.how) ∧ w.cell? ((a.add (i * 5)).add 4) = some (.slice x.2.2.1 x.1.frm.length x.2.2.2) := fun i h => by
      obtain ⟨cs', hc, ht⟩ := hi i (by omega)
      rw [cellsReason] at hc
      obtain ⟨_, hcl', hat⟩ := World.cells?_some hc
      obtain ⟨s, u0, u1, u2, F, fc, rfl, h1, h2, h3, h4⟩ := open_reason ht
      have q0 := hat 0 (by omega); have q1 := hat 1 (by omega); have q2 := hat 2 (by omega); have q3 := hat 3 (by omega); have q4 := hat 4 (by omega)
      rw [Go.Deep.add_add] at q0
      exact ⟨(s, (u0, u1, u2), F, fc), h1, h2, ⟨h3, h4⟩, by simpa using q0, by simpa using q1, by simpa using q2, by simpa using q3, by simpa using q4⟩
    have : Inhabited (Rsn × (Value × Value × Value) × Option Addr × Nat) := ⟨(⟨.mk 0 ⟨#[]⟩ [], 0, []⟩, (undef, undef, undef), none, 0)⟩
    obtain ⟨F, hF⟩ := choose_lt hK
    have hlen : ((List.range len0).map fun i => (F i).1).length = len0 := by simp
    refine ⟨some a, _, (List.range len0).map fun i => (F i).1, by rw [hlen], ?_, by rw [hlen]; exact hl, hm, fun s hs => ?_⟩
    · rcases Nat.eq_zero_or_pos len0 with h0 | h0
      · exact .inl (by rw [hlen]; exact h0)
      · have hA : ∃ b off, a = ⟨b, off, none⟩ := by
          obtain ⟨_, _, _, c0, _⟩ := hF 0 h0
          obtain ⟨b, off, spot⟩ := a
          have hspot : spot = none := by simpa [Addr.add] using World.cell?_spot c0
          subst hspot; exact ⟨b, off, rfl⟩
        obtain ⟨b, off, rfl⟩ := hA
        refine .inr ⟨b, off, rfl, fun i hi' => ?_⟩
        rw [hlen] at hi'
        obtain ⟨ht, hf2, _, c0, c1, c2, c3, c4⟩ := hF i hi'
        simp only [Go.WideShapes.add_plain] at c0 c1 c2 c3 c4
        obtain ⟨e0, e1, A', c', e2⟩ := TermAt.view ht
        rw [e0] at c0; rw [e1] at c1; rw [e2] at c2
        rw [e0, e1, e2] at ht
        simp only [List.getElem_map, List.getElem_range]
        exact ⟨A', c', _, _, c0, c1, c2, c3, c4, ht, hf2⟩
    · obtain ⟨i, hi', rfl⟩ := List.mem_map.1 hs
      have hi2 : i < len0 := List.mem_range.1 hi'
      obtain ⟨_, _, ⟨b1, b2⟩, _⟩ := hF i hi2
      have hm2 := uptoAll_mem (l := (List.range len0).map D) (List.mem_map.2 ⟨i, hi', rfl⟩)
      rw [(Prod.mk.inj hy2).1]
      simp only [Rows.uptoBulk]
      constructor <;> first | omega | (simp; omega)
end Go.Proofs.YtihbmgkbipeakaaGreat

namespace Go.Proofs.YtihbmgkbipeakaaGreat
open Go.RowKit Go.ChangeShapes Go.WideShapes Go.Deep

/-- What was stored is as it was, but for ints. -/
def Poke (w w' : World) : Prop := ∀ q u, w.cell? q = some u → ∃ u', w'.cell? q = some u' ∧ (u' = u ∨ ∃ y z : Int, u = .int .i64 y ∧ u' = .int .i64 z ∧ -9223372036854775808 ≤ z ∧ z ≤ 9223372036854775807)
theorem Poke.set {w : World} {p : Addr} {y z : Int} (h : w.cell? p = some (.int .i64 y)) (hz : -9223372036854775808 ≤ z ∧ z ≤ 9223372036854775807) : Poke w (w.setCell p (.int .i64 z)) := fun q u hq => by
  by_cases e : q = p
  · subst e
    rw [h] at hq
    refine ⟨_, World.cell?_setCell_same _ _ _ h, .inr ⟨y, z, (Option.some.inj hq).symm, rfl, hz⟩⟩
  · exact ⟨u, (World.cell?_setCell_other _ _ _ _ (fun h => e h.symm)).trans hq, .inl rfl⟩
theorem Poke.trans {a b c : World} (h : Poke a b) (h' : Poke b c) : Poke a c := fun q u hq => by
  obtain ⟨u1, h1, e1⟩ := h q u hq
  obtain ⟨u2, h2, e2⟩ := h' q u1 h1
  refine ⟨u2, h2, ?_⟩
  rcases e1 with rfl | ⟨y, z, rfl, rfl, hz⟩
  · exact e2
  · rcases e2 with rfl | ⟨y2, z2, e3, rfl, hz2⟩
    · exact .inr ⟨y, z, rfl, rfl, hz⟩
    · exact .inr ⟨y, z2, rfl, rfl, hz2⟩
theorem Poke.str {w w' : World} (h : Poke w w') {q : Addr} {s : ByteArray} (hq : w.cell? q = some (.string s)) : w'.cell? q = some (.string s) := by
  obtain ⟨u', h1, rfl | ⟨y, z, e, _⟩⟩ := h q _ hq
  · exact h1
  · cases e
theorem Poke.slc {w w' : World} (h : Poke w w') {q : Addr} {A : Option Addr} {n c : Nat} (hq : w.cell? q = some (.slice A n c)) : w'.cell? q = some (.slice A n c) := by
  obtain ⟨u', h1, rfl | ⟨y, z, e, _⟩⟩ := h q _ hq
  · exact h1
  · cases e
theorem Poke.num {w w' : World} (h : Poke w w') {q : Addr} {y : Int} (hq : w.cell? q = some (.int .i64 y)) : ∃ z : Int, w'.cell? q = some (.int .i64 z) ∧ (-9223372036854775808 ≤ y ∧ y ≤ 9223372036854775807 → -9223372036854775808 ≤ z ∧ z ≤ 9223372036854775807) := by
  obtain ⟨u', h1, rfl | ⟨y', z, e, rfl, hz⟩⟩ := h q _ hq
  · exact ⟨y, h1, id⟩
  · exact ⟨z, h1, fun _ => hz⟩
theorem TermAt.rekind {w : World} {k z : Int} {s : Value} {sl : Value} {t : T} (h : TermAt w (.agg #[.int .i64 k, s, sl]) t) (hz : -9223372036854775808 ≤ z ∧ z ≤ 9223372036854775807) : TermAt w (.agg #[.int .i64 z, s, sl]) (.mk z t.name t.kids) := by
  cases h with
  | mk k s A cap ks U h1 h2 h3 h4 hA hU => exact .mk z s A cap ks U hz h2 h3 h4 hA hU
theorem TermAt.kindOk {w : World} {v : Value} {t : T} (h : TermAt w v t) : -9223372036854775808 ≤ t.kind ∧ t.kind ≤ 9223372036854775807 := by
  cases h with
  | mk k s A cap ks U h1 h2 h3 h4 hA hU => exact h1
theorem bulkAll_same : ∀ {l l' : List T}, l.length = l'.length → (∀ i (h : i < l.length) (h' : i < l'.length), l[i].bulk = l'[i].bulk) → T.bulkAll l = T.bulkAll l'
  | [], [], _, _ => rfl
  | a :: l, b :: l', h, hi => by
    have h0 := hi 0 (by simp) (by simp)
    have h1 := bulkAll_same (l := l) (l' := l') (by simpa using h) (fun i p q => by have := hi (i + 1) (by simp; omega) (by simp; omega); rw [List.getElem_cons_succ, List.getElem_cons_succ] at this; exact this)
    simp only [T.bulkAll]
    simp only [List.getElem_cons_zero] at h0
    omega
theorem bulk_re (t : T) (z : Int) : (T.mk z t.name t.kids).bulk = t.bulk := by
  cases t; rfl
theorem TermAt.poke {w w' : World} (hp : Poke w w') {v : Value} {t : T} (h : TermAt w v t) : ∃ t' : T, TermAt w' v t' ∧ t'.bulk = t.bulk ∧ t'.kind = t.kind ∧ t'.name = t.name ∧ t'.kids.length = t.kids.length := by
  induction h with
  | mk k s A cap ks U h1 h2 h3 h4 hA hU ih =>
    rcases hA with hA | ⟨b, off, e, hc⟩
    · have : ks = [] := List.length_eq_zero_iff.1 hA
      subst this
      exact ⟨.mk k s [], .mk k s A cap [] U h1 h2 h3 h4 (.inl rfl) (fun i h => absurd h (Nat.not_lt_zero _)), rfl, rfl, rfl, rfl⟩
    · have hK : ∀ i, i < ks.length → ∃ x : T × Value × Value × Value, TermAt w' (.agg #[x.2.1, x.2.2.1, x.2.2.2]) x.1 ∧ (∀ h : i < ks.length, x.1.bulk = ks[i].bulk) ∧
          w'.cell? ⟨b, off + i * 3, none⟩ = some x.2.1 ∧ w'.cell? ⟨b, off + i * 3 + 1, none⟩ = some x.2.2.1 ∧ w'.cell? ⟨b, off + i * 3 + 2, none⟩ = some x.2.2.2 := fun i hi => by
        obtain ⟨c0, c1, c2⟩ := hc i hi
        obtain ⟨t', ht, hb, hkk, _, _⟩ := ih i hi
        obtain ⟨e0, e1, A', c', e2⟩ := TermAt.view (hU i hi)
        rw [e0] at c0 ht; rw [e1] at c1 ht; rw [e2] at c2 ht
        obtain ⟨z, hz, hzb⟩ := hp.num c0
        exact ⟨(.mk z t'.name t'.kids, .int .i64 z, _, _), ht.rekind (hzb (hU i hi).kindOk), fun _ => (bulk_re _ _).trans hb, hz, hp.str c1, hp.slc c2⟩
      have : Inhabited (T × Value × Value × Value) := ⟨(.mk 0 ⟨#[]⟩ [], undef, undef, undef)⟩
      obtain ⟨F, hF⟩ := choose_lt hK
      have hlen : ((List.range ks.length).map fun i => (F i).1).length = ks.length := by simp
      refine ⟨.mk k s ((List.range ks.length).map fun i => (F i).1), ?_, ?_, rfl, rfl, hlen⟩
      · have := TermAt.mk (w := w') k s A cap ((List.range ks.length).map fun i => (F i).1) (fun i => (F i).2) h1 h2 (by rw [hlen]; exact h3) h4
          (.inr ⟨b, off, e, fun i hi => by rw [hlen] at hi; exact (hF i hi).2.2⟩) (fun i hi => by rw [hlen] at hi; simpa using (hF i hi).1)
        rw [hlen] at this; exact this
      · simp only [T.bulk]
        rw [bulkAll_same (l := (List.range ks.length).map fun i => (F i).1) (l' := ks) hlen (fun i h h' => by simpa using (hF i h').2.1 h')]
theorem IntsIn.poke {S : Nat → Bool} {w w' : World} (hp : Poke w w') {A : Option Addr} {ns : List Int} (h : IntsIn S w A ns) : ∃ ns' : List Int, ns'.length = ns.length ∧ IntsIn S w' A ns' := by
  rcases h with h | ⟨b, off, e, hS, hc⟩
  · exact ⟨ns, rfl, .inl h⟩
  · have hK : ∀ i, i < ns.length → ∃ z : Int, w'.cell? ⟨b, off + i, none⟩ = some (.int .i64 z) := fun i hi => by
      obtain ⟨z, hz, _⟩ := hp.num (hc i hi)
      exact ⟨z, hz⟩
    obtain ⟨F, hF⟩ := choose_lt hK
    refine ⟨(List.range ns.length).map F, by simp, .inr ⟨b, off, e, hS, fun i hi => ?_⟩⟩
    have hi' : i < ns.length := by simpa using hi
    have := hF i hi'
    simp only [List.getElem_map, List.getElem_range]
    exact this
/-- A deduction in which ints were changed: what is read is again one, of the same sizes. -/
theorem DedAt.poke {w w' : World} (hp : Poke w w') {A : Option Addr} {L : List Rsn} (h : DedAt w A L) {M N : Nat} (hb : ∀ s ∈ L, s.t.bulk ≤ M ∧ s.frm.length ≤ N) : ∃ L' : List Rsn, L'.length = L.length ∧ DedAt w' A L' ∧ ∀ s ∈ L', s.t.bulk ≤ M ∧ s.frm.length ≤ N := by
  rcases h with h | ⟨b, off, e, hc⟩
  · exact ⟨L, rfl, .inl h, hb⟩
  · have hK : ∀ i, i < L.length → ∃ x : Rsn × Option Addr × Nat × Option Addr × Nat, (x.1.t.bulk ≤ M ∧ x.1.frm.length ≤ N) ∧ w'.cell? ⟨b, off + i * 5, none⟩ = some (.int .i64 x.1.t.kind) ∧ w'.cell? ⟨b, off + i * 5 + 1, none⟩ = some (.string x.1.t.name) ∧
        w'.cell? ⟨b, off + i * 5 + 2, none⟩ = some (.slice x.2.1 x.1.t.kids.length x.2.2.1) ∧ w'.cell? ⟨b, off + i * 5 + 3, none⟩ = some (.int .i64 x.1.how) ∧ w'.cell? ⟨b, off + i * 5 + 4, none⟩ = some (.slice x.2.2.2.1 x.1.frm.length x.2.2.2.2) ∧
        TermAt w' (.agg #[.int .i64 x.1.t.kind, .string x.1.t.name, .slice x.2.1 x.1.t.kids.length x.2.2.1]) x.1.t ∧ IntsIn (fun _ => true) w' x.2.2.2.1 x.1.frm := fun i hi => by
      obtain ⟨A', c', F, fc, c0, c1, c2, c3, c4, ht, hf⟩ := hc i hi
      have hbi := hb _ (List.getElem_mem hi)
      obtain ⟨t', ht', hbk, _, hn, hl⟩ := ht.poke hp
      obtain ⟨ns', hl', hf'⟩ := hf.poke hp
      obtain ⟨z, hz, hzb⟩ := hp.num c0
      obtain ⟨y, hy, _⟩ := hp.num c3
      have ht2 := ht'.rekind (hzb ht.kindOk)
      exact ⟨(⟨.mk z t'.name t'.kids, y, ns'⟩, A', c', F, fc), ⟨by rw [bulk_re, hbk]; exact hbi.1, by rw [hl']; exact hbi.2⟩, hz, (hp.str c1).trans (by rw [← hn]; rfl), (hp.slc c2).trans (by rw [← hl]; rfl), hy, (hp.slc c4).trans (by rw [← hl']),
        (by rw [← hn, ← hl] at ht2; exact ht2), hf'⟩
    have : Inhabited (Rsn × Option Addr × Nat × Option Addr × Nat) := ⟨(⟨.mk 0 ⟨#[]⟩ [], 0, []⟩, none, 0, none, 0)⟩
    obtain ⟨F, hF⟩ := choose_lt hK
    refine ⟨(List.range L.length).map fun i => (F i).1, by simp, .inr ⟨b, off, e, fun i hi => ?_⟩, fun s hs => ?_⟩
    · have hi' : i < L.length := by simpa using hi
      obtain ⟨_, a0, a1, a2, a3, a4, a5, a6⟩ := hF i hi'
      simp only [List.getElem_map, List.getElem_range]
      exact ⟨_, _, _, _, a0, a1, a2, a3, a4, a5, a6⟩
    · obtain ⟨i, hi, rfl⟩ := List.mem_map.1 hs
      exact (hF i (List.mem_range.1 hi)).1
end Go.Proofs.YtihbmgkbipeakaaGreat

namespace Go.Proofs.YtihbmgkbipeakaaGreat

theorem maden_use {t : T} (h : T.MadeN 0 4 t) : t.use = true := by
  have hv := h.1.valid (by omega)
  have hn : t.hasVar = false := by
    cases e : t.hasVar with
    | false => rfl
    | true => have := h.1.2.2.2.2 e; omega
  unfold T.use T.ground
  rw [hv, hn, (T.isN_iff t).2 ⟨hv, h.2⟩]; rfl
theorem maden_size {t : T} (h : T.MadeN 0 4 t) : t.size ≤ 39 := by
  have h1 := h.1.2.1
  have e : 5 * 2 ^ (4 - 1) = 40 := by decide
  omega
theorem cnt_made {K : List T} (h : ∀ t ∈ K, T.MadeN 0 4 t) (h7 : K.length ≤ 7) : cnt K = K := cnt_same (by omega) fun t ht => maden_use (h t ht)
/-- What is in the closure can be taken apart, so it is derived, whatever the set. -/
theorem close_an {U K : List T} (hU : Uni U) (hK : ∀ t ∈ cnt K, t ∈ U) {x : T} (hx : x ∈ rrun (U.length + 1) (rfirst (cnt K))) : An (· ∈ cnt K) x :=
  ((rclose_facts hU hK (fun t ht => use_of t ht) (Nat.lt_succ_self _)).2 x).1 hx
theorem an_der {U K : List T} (hU : Uni U) (hK : ∀ t ∈ cnt K, t ∈ U) {x : T} (ha : An (· ∈ cnt K) x) : canB (Wb.fill U.length (cnt K)) x = true ∧ x ∈ U :=
  ⟨(can_iff hU hK fun _ => an_mem hU hK ha).2 ⟨an_use (fun t ht => use_of t ht) ha, .base ha⟩, an_mem hU hK ha⟩
theorem close_some {U K : List T} (hU : Uni U) (hK : ∀ t ∈ cnt K, t ∈ U) (h : 0 < (cnt K).length) : 0 < (rrun (U.length + 1) (rfirst (cnt K))).length := by
  have hm := ((rclose_facts hU hK (fun t ht => use_of t ht) (Nat.lt_succ_self _)).2 _).2 (An.known (List.getElem_mem h))
  exact List.length_pos_of_mem hm
/-- A term that can be derived: its deduction. -/
theorem can_der {U K : List T} (hU : Uni U) (hK : ∀ t ∈ cnt K, t ∈ U) {x : T} (hxU : x.use = true → x ∈ U) (hc : canB (Wb.fill U.length (cnt K)) x = true) (hUl : U.length ≤ 4096) :
    ∃ L, derV (Wb.fill U.length (cnt K)) x = some L ∧ 0 < L.length ∧ L.length ≤ 4096 ∧ ∀ s ∈ L, s.t ∈ U ∧ s.frm.length ≤ 1048576 := by
  have hd := der_can (Wb.fill U.length (cnt K)) x
  rw [hc] at hd
  obtain ⟨L, hL⟩ := Option.isSome_iff_exists.1 hd
  obtain ⟨h1, _, h3, h4⟩ := der_made hU hK (fun t ht => use_of t ht) hxU hL hUl
  refine ⟨L, hL, h1.pos, ?_, fun s hs => ⟨h4 s hs, ?_⟩⟩
  · unfold rchkB at h3
    have := (Bool.and_eq_true_iff.1 (Bool.and_eq_true_iff.1 h3).2).1
    exact of_decide_eq_true this
  · obtain ⟨k, hk, rfl⟩ := List.getElem_of_mem hs
    have := rto_frm (h1.right k hk)
    omega
end Go.Proofs.YtihbmgkbipeakaaGreat
