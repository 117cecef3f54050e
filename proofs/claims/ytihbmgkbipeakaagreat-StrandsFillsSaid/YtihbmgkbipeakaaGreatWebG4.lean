/- Several texts in one: TermMill, TermSort, TermArr, TermCells. -/
import Derived.Test.YtihbmgkbipeakaaGreatRows
import Derived.Test.YtihbmgkbipeakaaGreatWebG0
import Derived.ProofKit
import Derived.OpenShut
import Derived.Maps.Range
import Derived.Test.YtihbmgkbipeakaaGreatWebG3
import Derived.OwnWalk
import Derived.Deep.Slices
import Derived.BigRegion
import Derived.BigQuiet
import Derived.Deep.RegionHeld3
import Derived.Deep.RegionLaw
import Derived.Deep.DrawnRows
import Derived.Deep.DeepCutAuto
namespace Go.Proofs.YtihbmgkbipeakaaGreat
open Go.RowKit Go.ChangeShapes Go.WideShapes Go.Deep

/-- A list of numbers that lies in memory. -/
def ListAt (w : World) (A : Option Addr) (n : Nat) : Prop := n = 0 ∨ ∃ b off, A = some ⟨b, off, none⟩ ∧ ∀ j, j < n → ∃ z : Int, w.cell? ⟨b, off + j, none⟩ = some (.int .i64 z) ∧ -9223372036854775808 ≤ z ∧ z ≤ 9223372036854775807
theorem ListAt.keep {w w' : World} {A : Option Addr} {n : Nat} (h : ListAt w A n) (hk : ∀ p : Addr, (w.cell? p).isSome = true → w'.cell? p = w.cell? p) : ListAt w' A n := by
  rcases h with h | ⟨b, off, e, hc⟩
  · exact .inl h
  · refine .inr ⟨b, off, e, fun j hj => ?_⟩
    obtain ⟨z, h1, h2⟩ := hc j hj
    exact ⟨z, (hk _ (by rw [h1]; rfl)).trans h1, h2⟩
theorem ListAt.below {w w' : World} {A : Option Addr} {n : Nat} (h : ListAt w A n) (hb : Below w.heap.size w w') : ListAt w' A n := by
  refine h.keep fun p hp => ?_
  obtain ⟨v, hv⟩ := Option.isSome_iff_exists.1 hp
  rw [hv]; exact cell_later hb hv

set_option maxRecDepth 100000 in
/-- An argument of the type []int, opened. -/
theorem open_list {H : Type} {enc : TypeId × Value → H} {w : World} {b0 : Nat} {v : Value} {d : DataW H} {p : List MemPlace} {r : Reach}
    (hv : Value.okWide Tryz.prog w r b0 22 v) (h : DataW.Trod enc Tryz.prog w 0 (fun _ => true) true 22 v d p) :
    ∃ (A : Option Addr) (n c : Nat), v = .slice A n c ∧ n ≤ c ∧ c ≤ maxLen ∧ ListAt w A n := by
  obtain ⟨a0, len, cap, rfl⟩ := okWide_slice Tryz.underlying22 hv
  obtain ⟨fuel, hf⟩ := h
  rcases open_ints Tryz.underlying22 Tryz.underlying3 (by kernel_rfl) hf with ⟨hcs, _⟩ | ⟨x, l, c, zs, hcs, _, hl, hm, hz, _, hcell, hwz⟩
  · simp [Value.cells] at hcs
    obtain ⟨rfl, rfl, rfl⟩ := hcs
    exact ⟨none, 0, 0, rfl, Nat.le_refl _, Nat.zero_le _, .inl rfl⟩
  · simp [Value.cells] at hcs
    obtain ⟨rfl, rfl, rfl⟩ := hcs
    refine ⟨_, _, _, rfl, hl, hm, ?_⟩
    have hz' : zs.length = cap := by simpa using hz
    rcases Nat.eq_zero_or_pos len with h0 | h0
    · exact .inl h0
    · obtain ⟨b, off, rfl, hc⟩ := ints_at hcell (by omega)
      refine .inr ⟨b, off, rfl, fun j hj => ⟨_, hc j (by omega), ?_⟩⟩
      have hj' : j < zs.length := by omega
      have := bounds_i64 (hwz zs[j] (List.getElem_mem hj'))
      simpa [List.getD, List.getElem?_eq_getElem hj'] using this

/-- The dice: block g holds the list and how far it has been read. -/
def DiceAt (B g : Nat) (w : World) : Prop := B ≤ g ∧ ∃ (A : Option Addr) (n c k : Nat), w.heap[g]? = some (.cells #[.slice A n c, .int .i64 (k : Int)] 81 (0, 0)) ∧ k ≤ n ∧ n ≤ 80 ∧ n ≤ c ∧
  (n = 0 ∨ ∃ b off, b < B ∧ A = some ⟨b, off, none⟩ ∧ ∀ j, j < n → ∃ z : Int, w.cell? ⟨b, off + j, none⟩ = some (.int .i64 z) ∧ -9223372036854775808 ≤ z ∧ z ≤ 9223372036854775807)
theorem DiceAt.below {B B' g : Nat} {w w' : World} (h : DiceAt B g w) (hb : Below B' w w') (hg : g < B') : DiceAt B g w' := by
  obtain ⟨h0, A, n, c, k, h1, h2, h3, h3', h4⟩ := h
  refine ⟨h0, A, n, c, k, (hb.block g hg).trans h1, h2, h3, h3', ?_⟩
  rcases h4 with h4 | ⟨b, off, hbB, e, hc⟩
  · exact .inl h4
  · refine .inr ⟨b, off, hbB, e, fun j hj => ?_⟩
    obtain ⟨z, g1, g2⟩ := hc j hj
    exact ⟨z, (hb.cell (p := ⟨b, off + j, none⟩) (by show b < B'; omega)).trans g1, g2⟩
theorem DiceAt.lt {B g : Nat} {w : World} (h : DiceAt B g w) : g < w.heap.size := by
  obtain ⟨_, A, n, c, k, h1, _⟩ := h
  rcases Nat.lt_or_ge g w.heap.size with hlt | hge
  · exact hlt
  · rw [Array.getElem?_eq_none hge] at h1; cases h1

theorem made_light (A : Option Addr) (n c : Nat) (w : World) (hn : n ≤ maxLen) :
    Calls Tryz.prog 10 #[.slice A n c] w fun e w' => e = .returned (.bool (decide (n ≤ 80))) ∧ w = w' := by
  unfold maxLen at hn
  by_cases h : n ≤ 80
  · go_enter Tryz.func10, Tryz.ntmps10
    go_wp2_with fail
    go_ret
    exact ⟨ret_bool (by simp; omega), rfl⟩
  · go_enter Tryz.func10, Tryz.ntmps10
    go_wp2_with fail
    go_ret
    exact ⟨ret_bool (by simp; omega), rfl⟩

theorem info_int : (Tryz.prog.info? 3).map (fun i => (i.zero, i.size, i.bytes)) = some (some (.int .i64 0), 1, 8) := by kernel_rfl
theorem ListAt.src {w : World} {A : Option Addr} {n : Nat} (h : ListAt w A n) : ∃ zs : List Int, zs.length = n ∧ (∀ z ∈ zs, -9223372036854775808 ≤ z ∧ z ≤ 9223372036854775807) ∧ Src w 1 A n (zs.map fun z => .int .i64 z) := by
  rcases h with h | ⟨b, off, rfl, hc⟩
  · subst h; exact ⟨[], rfl, (fun z h => by cases h), Src.none_ _ _ _⟩
  · obtain ⟨F, hF⟩ := choose_lt hc
    refine ⟨(List.range n).map F, by simp, (fun z hz => ?_), by simp, .inr ⟨b, off, rfl, fun j u hu => ?_⟩⟩
    · obtain ⟨j, hj, rfl⟩ := List.mem_map.1 hz
      exact (hF j (List.mem_range.1 hj)).2
    · rw [List.map_map, List.getElem?_map] at hu
      rcases Nat.lt_or_ge j n with hj | hj
      · rw [List.getElem?_range hj] at hu
        have := Option.some.inj hu; subst this; exact (hF j hj).1
      · rw [List.getElem?_eq_none (by simpa using hj)] at hu; cases hu
set_option maxHeartbeats 2000000 in
theorem made_roll (A : Option Addr) (n c : Nat) (w : World) (hn : n ≤ 80) (hl : ListAt w A n) :
    Calls Tryz.prog 18 #[.slice A n c] w fun e w' => ∃ g, w.heap.size ≤ g ∧ e = .returned (.pointer (some ⟨g, 0, none⟩)) ∧ DiceAt g g w' ∧ Below w.heap.size w w' := by
  obtain ⟨zs, h1, h2, h3⟩ := hl.src
  obtain ⟨i0, hi0, hz0, hz1, hz2⟩ := info_parts info_int
  have hownE := World.ownsRow_made (size := 1) (e := 3) w #[] 0 (base := w.heap.size) (Nat.le_refl _) (Nat.zero_le _) rfl
  have HSRC := Lib.hid (h3.later (below_alloc1 w (.cells #[] 3)))
  have HOWNE := Lib.hid hownE
  have HONE := Lib.hid (fun (u : Value) (hu : u ∈ zs.map fun z => (.int .i64 z : Value)) => show u.oneCell' = true by obtain ⟨z, _, rfl⟩ := List.mem_map.1 hu; rfl)
  have hwe : Below w.heap.size w (w.alloc (.cells #[] 3)) := below_alloc1 _ _
  have HWE := Lib.hid hwe
  clear h3 hownE hl hwe
  go_enter Tryz.func18, Tryz.ntmps18
  go_wp2_with (at_builtin; refine wpList_append_src _ rfl _ _ 22 rfl w.heap.size 3 i0 _ 1 8 Tryz.underlying22 hi0 hz0 hz1 hz2 rfl (by omega) _ 0 [] rfl HOWNE.out _ n _ _ rfl HSRC.out HONE.out (by unfold maxLen; omega) (by omega) (by rw [size_alloc1]; omega) ?_; intro A7 c7 w7 hown7 hg7 hat7)
  simp only [Nat.zero_add, List.nil_append] at hown7 ⊢
  have hsz7 : w.heap.size + 1 ≤ w7.heap.size := by have := hg7.size; rw [size_alloc1] at this; exact this
  have hb7 : Below w.heap.size w w7 := HWE.out.grown hg7 (by rw [size_alloc1]; omega) (fun k hk => by have e : w.heap.size = k := Option.some.inj hk; omega)
  have hsr := Src.of_own hown7
  have hat : n ≤ c7 ∧ ∀ b, A7.map (·.block) = some b → b < w7.heap.size := by
    rcases hown7.2 with ⟨e, h0⟩ | ⟨g, cap, cur, e, _, hh, hc, _⟩
    · injection e with e1 e2 e3
      subst e1
      exact ⟨by omega, fun b h => by cases h⟩
    · injection e with e1 e2 e3
      subst e1; subst e3
      refine ⟨hc, fun b h => ?_⟩
      have e : g = b := Option.some.inj h
      rw [← e]
      exact (Array.getElem?_eq_some_iff.1 hh).1
  have HSR := Lib.hid hsr; have HB7 := Lib.hid hb7; have HAT := Lib.hid hat
  clear hsr hb7 hat hat7 hown7 hg7
  go_wp2_with fail
  go_ret
  refine ⟨w7.heap.size, HB7.out.size, rfl, ?_, HB7.out.trans ((below_alloc1 _ _).mono HB7.out.size)⟩
  refine ⟨Nat.le_refl _, A7, n, c7, 0, heap_alloc_new _ _, Nat.zero_le _, hn, ?_, ?_⟩
  · exact HAT.out.1
  · rcases HSR.out.2 with h0 | ⟨g, off, rfl, hc⟩
    · exact .inl h0
    · refine .inr ⟨g, off, HAT.out.2 g rfl, rfl, fun j hj => ?_⟩
      have hj' : j < zs.length := by omega
      refine ⟨zs[j], cell_later (below_alloc1 _ _) (hc j _ (by rw [List.getElem?_map, List.getElem?_eq_getElem hj']; rfl)), h2 _ (List.getElem_mem hj')⟩

theorem mill_rem (n m : Int) (h3 : 1 ≤ m) : (n.tmod m + m).tmod m = n % m ∧ -m < n.tmod m ∧ n.tmod m < m := by
  have h := Int.tmod_add_mul_tdiv n m
  have hlt : -m < n.tmod m ∧ n.tmod m < m := by
    have a1 := Int.tmod_lt_of_pos n (b := m) (by omega)
    have a2 := Int.tmod_lt_of_pos (-n) (b := m) (by omega)
    rw [Int.neg_tmod] at a2
    exact ⟨by omega, a1⟩
  refine ⟨?_, hlt⟩
  rw [Int.tmod_eq_emod_of_nonneg (by omega), Int.add_emod_right]
  conv => rhs; rw [← h]
  rw [Int.add_mul_emod_self_left]
set_option maxHeartbeats 400000 in
theorem made_mod (n m : Int) (w : World) (_h1 : -9223372036854775808 ≤ n) (_h2 : n ≤ 9223372036854775807) (h3 : 1 ≤ m) (h4 : m ≤ 1000000) :
    Calls Tryz.prog 20 #[.int .i64 n, .int .i64 m] w fun e w' => e = .returned (.int .i64 (n % m)) ∧ w = w' := by
  obtain ⟨e3, e4, e5⟩ := mill_rem n m h3
  have E3 := Lib.hid e3
  obtain ⟨r, hr⟩ : ∃ r, n.tmod m = r := ⟨_, rfl⟩
  rw [hr] at e3 e4 e5
  have e6 : IntKind.i64.wrap (r + m) = r + m := IntWalk.i64_in _ (by omega)
  have e7 : IntKind.i64.wrap r = r := IntWalk.i64_in _ (by omega)
  have e8 : IntKind.i64.wrap (n % m) = n % m := IntWalk.i64_in _ (by have := Int.emod_nonneg n (b := m) (by omega); have := Int.emod_lt_of_pos n (b := m) (by omega); omega)
  have hm0 : ¬ m = 0 := by omega
  have hm1 : ¬ m < 1 := by omega
  have hmm : ¬ m = -1 := by omega
  clear e4 e5
  go_enter Tryz.func20, Tryz.ntmps20
  go_wp2
  go_ret
  exact ⟨rfl, rfl⟩

/-- Next gives a number below m; nothing but block g has turned. -/
def NextPost (B g : Nat) (m : Int) (w : World) (e : Ending) (w' : World) : Prop := ∃ v : Int, 0 ≤ v ∧ v < m ∧ e = .returned (.int .i64 v) ∧ DiceAt B g w' ∧ w.grownBy w' (some g)
theorem mill_grown_drewN {a w : World} {row : Option Nat} (h : a.grownBy w row) (n : Nat) : a.grownBy (w.drewN n) row := ⟨h.os, h.tape, h.output, h.size, h.block⟩
theorem mill_grown_set {a w : World} {g : Nat} (h : a.grownBy w (some g)) {p : Addr} (hp : p.block = g) (u : Value) : a.grownBy (w.setCell p u) (some g) :=
  ⟨h.os, h.tape, h.output, by simpa [World.setCell] using h.size, fun i hi hne => (Below.heap_setCell w p u i (by rintro rfl; exact hne (by rw [hp]))).trans (h.block i hi hne)⟩

set_option maxHeartbeats 800000 in
theorem made_next (B g : Nat) (m : Int) (w : World) (hd : DiceAt B g w) (h1 : 1 ≤ m) (h2 : m ≤ 1000000) :
    Calls Tryz.prog 38 #[.pointer (some ⟨g, 0, none⟩), .int .i64 m] w (NextPost B g m w) := by
  have hd' := hd
  obtain ⟨h0, A, n, c, k, hb, hk, hn, hnc, hl⟩ := hd
  have c0 : w.cell? ⟨g, 0, none⟩ = some (.slice A n c) := cell_of_row w g 0 _ _ _ hb
  have c1 : w.cell? ⟨g, 1, none⟩ = some (.int .i64 (k : Int)) := cell_of_row w g 1 _ _ _ hb
  have f1 : w.frozen? ⟨g, 1, none⟩ = false := by simp [World.frozen?, hb]
  by_cases hlt : k < n
  · rcases hl with hl | ⟨b, off, hbB, rfl, hc⟩
    · omega
    obtain ⟨z, hz, z1, z2⟩ := hc k hlt
    have hne : b ≠ g := by omega
    have d1 : ∀ q, ((w.drewN q).setCell ⟨g, 1, none⟩ (.int .i64 ((k : Int) + 1))).cell? ⟨b, off + k, none⟩ = some (.int .i64 z) := fun q => by
      rw [World.cell?_setCell_other (w.drewN q) ⟨g, 1, none⟩ ⟨b, off + k, none⟩ _ (by intro e; injection e with e1 _; exact hne e1.symm)]; exact hz
    have d2 : ∀ q, ((w.drewN q).setCell ⟨g, 1, none⟩ (.int .i64 ((k : Int) + 1))).cell? ⟨g, 0, none⟩ = some (.slice (some ⟨b, off, none⟩) n c) := fun q => by
      rw [World.cell?_setCell_other (w.drewN q) ⟨g, 1, none⟩ ⟨g, 0, none⟩ _ (by intro e; injection e with _ e1; omega)]; exact c0
    have d3 : ∀ q, ((w.drewN q).setCell ⟨g, 1, none⟩ (.int .i64 ((k : Int) + 1))).cell? ⟨g, 1, none⟩ = some (.int .i64 ((k : Int) + 1)) := fun q =>
      World.cell?_setCell_same (w.drewN q) ⟨g, 1, none⟩ _ c1
    have hD : ∀ q, DiceAt B g ((w.drewN q).setCell ⟨g, 1, none⟩ (.int .i64 ((k : Int) + 1))) := fun q => by
      refine ⟨h0, some ⟨b, off, none⟩, n, c, k + 1, ?_, by omega, hn, hnc, .inr ⟨b, off, hbB, rfl, fun j hj => ?_⟩⟩
      · have := heap_setCell_same (w.drewN q) g 1 _ _ (.int .i64 ((k : Int) + 1)) hb
        simpa using this
      · obtain ⟨z', e1, e2⟩ := hc j hj
        refine ⟨z', ?_, e2⟩
        rw [World.cell?_setCell_other (w.drewN q) ⟨g, 1, none⟩ ⟨b, off + j, none⟩ _ (by intro e; injection e with e1 _; exact hne e1.symm)]
        exact e1
    have HD := Lib.hid hD
    have m1 := Int.emod_nonneg z (b := m) (by omega)
    have m2 := Int.emod_lt_of_pos z (b := m) (by omega)
    clear hD hd' hc hb hne
    go_enter Tryz.func38, Tryz.ntmps38
    go_wp2_with fail
    go_quiet (fail)
    go_wp2_with fail
    go_quiet ((go_at_call 20; exact quiet_any (made_mod _ _ _ z1 z2 h1 h2)))
    go_wp2_with fail
    go_ret
    exact ⟨z % m, m1, m2, rfl, HD.out _, mill_grown_drewN (mill_grown_set (mill_grown_drewN (World.grownBy.refl _ _) _) rfl _) _⟩
  · have HD := Lib.hid hd'
    clear hd' hb hl
    go_enter Tryz.func38, Tryz.ntmps38
    go_wp2_with fail
    go_quiet (fail)
    go_wp2_with fail
    go_ret
    exact ⟨0, by omega, by omega, rfl, HD.out, mill_grown_drewN (World.grownBy.refl _ _) _⟩
end Go.Proofs.YtihbmgkbipeakaaGreat

namespace Go.Proofs.YtihbmgkbipeakaaGreat
open Go.RowKit

theorem RowT.at {w : World} {base g cap : Nat} {L : List T} (h : RowT w base g cap L) (i : Nat) (hi : i < L.length) : ∃ A C, w.cell? ⟨g, i * 3, none⟩ = some (.int .i64 L[i].kind) ∧ w.cell? ⟨g, i * 3 + 1, none⟩ = some (.string L[i].name) ∧
    w.cell? ⟨g, i * 3 + 2, none⟩ = some (.slice A L[i].kids.length C) ∧ TermIn (but base (some g)) w (.agg #[.int .i64 L[i].kind, .string L[i].name, .slice A L[i].kids.length C]) L[i] := by
  obtain ⟨cur, h1, h2, h3, h4, h5, h6⟩ := h
  obtain ⟨u0, u1, u2, a, b, c, d⟩ := h6 i hi
  obtain ⟨rfl, rfl, A, C, rfl⟩ := TermAt.view d
  refine ⟨A, C, ?_, ?_, ?_, d⟩ <;> simp [World.cell?, h1, a, b, c]

theorem RowT.free {w : World} {base g cap : Nat} {L : List T} (h : RowT w base g cap L) (i : Nat) : w.frozen? ⟨g, i * 3, none⟩ = false ∧ w.frozen? ⟨g, i * 3 + 1, none⟩ = false ∧ w.frozen? ⟨g, i * 3 + 2, none⟩ = false := by
  obtain ⟨cur, h1, _⟩ := h
  refine ⟨?_, ?_, ?_⟩ <;> simp [World.frozen?, h1]

theorem swap_at {P Q : List T} {x y : T} {p : Nat} (hp : P.length = p) (i : Nat) (h : i < (P ++ x :: y :: Q).length) (h' : i < (P ++ y :: x :: Q).length) (n0 : i ≠ p) (n1 : i ≠ p + 1) : (P ++ x :: y :: Q)[i] = (P ++ y :: x :: Q)[i] := by
  apply Option.some_inj.1
  rw [← List.getElem?_eq_getElem, ← List.getElem?_eq_getElem]
  rcases Nat.lt_or_ge i p with g | g
  · rw [List.getElem?_append_left (by omega), List.getElem?_append_left (by omega)]
  · obtain ⟨q, rfl⟩ : ∃ q, i = P.length + (q + 2) := ⟨i - p - 2, by omega⟩
    rw [List.getElem?_append_right (by omega), List.getElem?_append_right (by omega)]
    simp
/-- Of a world only block g has changed: its cells are these now. -/
structure Wrote (w : World) (g : Nat) (cur : Array Value) (w' : World) : Prop where
  row : w'.heap[g]? = some (.cells cur 29 (0, 0))
  other : ∀ k, k ≠ g → w'.heap[k]? = w.heap[k]?
  os : w'.os = w.os
  tape : w'.tape = w.tape
  output : w'.output = w.output
  size : w'.heap.size = w.heap.size
theorem Wrote.set {w w' : World} {g : Nat} {cur : Array Value} (h : Wrote w g cur w') (i : Nat) (v : Value) : Wrote w g (cur.setIfInBounds i v) (w'.setCell ⟨g, i, none⟩ v) :=
  ⟨by simp [World.setCell, Array.getElem?_modify, h.row], fun k hk => by rw [Below.heap_setCell _ _ _ _ hk]; exact h.other k hk, h.os, h.tape, h.output, by simp [World.setCell, h.size]⟩
theorem Wrote.drew {w w' : World} {g : Nat} {cur : Array Value} (h : Wrote w g cur w') : Wrote w g cur w'.drew := ⟨h.row, h.other, h.os, h.tape, h.output, h.size⟩
theorem Wrote.grown {w w' : World} {g : Nat} {cur : Array Value} (h : Wrote w g cur w') : w.grownBy w' (some g) := ⟨h.os, h.tape, h.output, Nat.le_of_eq h.size.symm, fun k _ hk => h.other k (fun e => hk (by rw [e]))⟩
theorem RowT.swap {w W : World} {base g cap p : Nat} {P Q : List T} {x y : T} (hp : P.length = p) (h : RowT w base g cap (P ++ y :: x :: Q)) {a0 a1 a2 b0 b1 b2 : Value}
    (z0 : w.cell? ⟨g, p * 3, none⟩ = some a0) (z1 : w.cell? ⟨g, p * 3 + 1, none⟩ = some a1) (z2 : w.cell? ⟨g, p * 3 + 2, none⟩ = some a2)
    (y0 : w.cell? ⟨g, (p + 1) * 3, none⟩ = some b0) (y1 : w.cell? ⟨g, (p + 1) * 3 + 1, none⟩ = some b1) (y2 : w.cell? ⟨g, (p + 1) * 3 + 2, none⟩ = some b2)
    (hW : ∀ cur, w.heap[g]? = some (.cells cur 29 (0, 0)) → Wrote w g ((((((cur.setIfInBounds ((p + 1) * 3) a0).setIfInBounds ((p + 1) * 3 + 1) a1).setIfInBounds ((p + 1) * 3 + 2) a2).setIfInBounds (p * 3) b0).setIfInBounds (p * 3 + 1) b1).setIfInBounds (p * 3 + 2) b2) W) :
    RowT W base g cap (P ++ x :: y :: Q) ∧ w.grownBy W (some g) := by
  obtain ⟨cur, h1, h2, h3, h4, h5, h6⟩ := h
  have hw := hW cur h1
  have hll : (P ++ x :: y :: Q).length = (P ++ y :: x :: Q).length := by simp
  have hpl : p + 1 < (P ++ y :: x :: Q).length := by simp; omega
  have hcell : ∀ j v, w.cell? ⟨g, j, none⟩ = some v → cur[j]? = some v := fun j v hv => by simpa [World.cell?, h1] using hv
  have hsz : cur.size = cap * 3 := h2
  have keep : ∀ {v : Value} {t : T}, TermIn (but base (some g)) w v t → TermIn (but base (some g)) W v t := fun ht =>
    ht.keep fun b hb _ => ⟨hb, hw.other b (fun e => (but_iff.1 hb).2 (by rw [e]))⟩
  refine ⟨⟨_, hw.row, by simpa using h2, by rw [hll]; exact h3, h4, h5, fun i hi => ?_⟩, hw.grown⟩
  have hi' : i < (P ++ y :: x :: Q).length := by rw [← hll]; exact hi
  by_cases n0 : i = p
  · subst n0
    obtain ⟨u0, u1, u2, c0, c1, c2, d⟩ := h6 (i + 1) hpl
    have e0 : b0 = u0 := Option.some_inj.1 ((hcell _ _ y0).symm.trans c0)
    have e1 : b1 = u1 := Option.some_inj.1 ((hcell _ _ y1).symm.trans c1)
    have e2 : b2 = u2 := Option.some_inj.1 ((hcell _ _ y2).symm.trans c2)
    have ex : (P ++ y :: x :: Q)[i + 1] = x := by rw [List.getElem_append_right (by omega)]; simp [← hp]
    have ex' : (P ++ x :: y :: Q)[i] = x := by rw [List.getElem_append_right (by omega)]; simp [← hp]
    subst e0; subst e1; subst e2
    rw [ex] at d
    refine ⟨b0, b1, b2, ?_, ?_, ?_, by rw [ex']; exact keep d⟩
    all_goals simp only [Array.getElem?_setIfInBounds, Array.size_setIfInBounds]; repeat (first | rw [if_pos trivial] | rw [if_pos (by omega)] | rw [if_neg (by omega)])
  · by_cases n1 : i = p + 1
    · subst n1
      obtain ⟨u0, u1, u2, c0, c1, c2, d⟩ := h6 p (by omega)
      have e0 : a0 = u0 := Option.some_inj.1 ((hcell _ _ z0).symm.trans c0)
      have e1 : a1 = u1 := Option.some_inj.1 ((hcell _ _ z1).symm.trans c1)
      have e2 : a2 = u2 := Option.some_inj.1 ((hcell _ _ z2).symm.trans c2)
      have ex : (P ++ y :: x :: Q)[p] = y := by rw [List.getElem_append_right (by omega)]; simp [← hp]
      have ex' : (P ++ x :: y :: Q)[p + 1] = y := by rw [List.getElem_append_right (by omega)]; simp [← hp]
      subst e0; subst e1; subst e2
      rw [ex] at d
      refine ⟨a0, a1, a2, ?_, ?_, ?_, by rw [ex']; exact keep d⟩
      all_goals simp only [Array.getElem?_setIfInBounds, Array.size_setIfInBounds]; repeat (first | rw [if_pos trivial] | rw [if_pos (by omega)] | rw [if_neg (by omega)])
    · obtain ⟨u0, u1, u2, c0, c1, c2, d⟩ := h6 i hi'
      rw [swap_at hp i hi hi' n0 n1]
      refine ⟨u0, u1, u2, ?_, ?_, ?_, keep d⟩
      all_goals simp only [Array.getElem?_setIfInBounds, Array.size_setIfInBounds]; repeat (first | rw [if_pos trivial] | rw [if_pos (by omega)] | rw [if_neg (by omega)])
      · exact c0
      · exact c1
      · exact c2

set_option maxRecDepth 100000 in
set_option maxHeartbeats 8000000 in
theorem insertion (base g cap : Nat) (L : List T) (w : World) (h : RowT w base g cap L) (hL : L.length ≤ 20) (hb : T.bulkAll L ≤ 1048576) :
    Calls Tryz.prog 156 #[.slice (some ⟨g, 0, none⟩) L.length cap, .int .i64 0, .int .i64 L.length, .func (.func 103) #[] #[]] w fun e w' =>
      e = .returned (.tuple #[]) ∧ RowT w' base g cap (T.isort L) ∧ w.grownBy w' (some g) := by
  have HR := Lib.hid h
  clear h
  go_enter Tryz.func156, Tryz.ntmps156
  go_wp2_with fail
  go_loopw [8] (fun i wr => ∃ (m : Nat) (acc : List T), 1 ≤ m ∧ m ≤ 20 ∧ i = .int .i64 m ∧ acc = (L.take m).foldl (fun acc x => T.insR x acc) [] ∧ RowT wr base g cap (acc.reverse ++ L.drop m) ∧ w.grownBy wr (some g)) (fun i _ => 30 - (intOf i).toNat)
  case atStart =>
    refine ⟨1, L.take 1, Nat.le_refl _, by omega, rfl, ?_, ?_, ⟨rfl, rfl, rfl, Nat.le_refl _, fun _ _ _ => rfl⟩⟩
    · cases L with
      | nil => rfl
      | cons t r => rfl
    · have : (L.take 1).reverse ++ L.drop 1 = L := by cases L <;> simp
      rw [this]; exact HR.out
  case round =>
    obtain ⟨m, acc, hm1, hm2, rfl, hacc, hrow, hgr⟩ := hrel
    by_cases hlt : m < L.length
    · have hi : (m : Int) < (L.length : Int) := by omega
      have HACC := Lib.hid hacc; have HROW := Lib.hid hrow; have HGR := Lib.hid hgr; have HLT := Lib.hid hlt
      clear hacc hrow hgr
      go_wp2_with fail
      have hml : (List.take m L).length = m := by rw [List.length_take]; omega
      have hal : acc.length = m := by rw [HACC.out, T.length_fold, hml]; simp
      obtain ⟨x, hdr, htk0, hbx⟩ : ∃ x, L.drop m = x :: L.drop (m + 1) ∧ L.take (m + 1) = L.take m ++ [x] ∧ x.bulk ≤ T.bulkAll L := ⟨L[m], List.drop_eq_getElem_cons hlt, List.take_succ_eq_append_getElem hlt, T.bulk_at L m hlt⟩
      have htk : (L.take (m + 1)).foldl (fun acc x => T.insR x acc) [] = T.insR x acc := by rw [htk0, List.foldl_append, ← HACC.out]; rfl
      obtain ⟨rest, hrest⟩ : ∃ rest, L.drop (m + 1) = rest := ⟨_, rfl⟩
      have hst : RowT wr base g cap (acc.reverse ++ [x] ++ [].reverse ++ rest) := by have := HROW.out; rw [hdr, hrest] at this; simpa using this
      have hlen : acc.length + 1 + rest.length = L.length := by rw [← hrest, List.length_drop]; omega
      have hba : T.bulkAll acc ≤ T.bulkAll L := by rw [HACC.out, T.bulkAll_fold]; have := T.bulkAll_take L m; simp only [T.bulkAll]; omega
      have hbk : ∀ t ∈ acc, t.bulk ≤ 1048576 := fun t ht => by
        obtain ⟨i, hi, rfl⟩ := List.getElem_of_mem ht
        have := T.bulk_at acc i hi; omega
      have HST := Lib.hid hst; have HTK := Lib.hid htk; have HBK := Lib.hid hbk; have HBX := Lib.hid (Nat.le_trans hbx hb); have HAL := Lib.hid hal; have HLEN := Lib.hid hlen; have HREST := Lib.hid hrest
      clear hst htk hbk hba hbx hal hlen hdr hml htk0 hrest
      obtain ⟨wo, hwo⟩ : ∃ wo : World, wo = wr := ⟨_, rfl⟩
      rw [← hwo] at HST HGR ⊢
      clear hwo HROW
      go_loopw [9] (fun i wr => ∃ A Bq : List T, acc = Bq ++ A ∧ T.insR x acc = Bq ++ T.insR x A ∧ i = .int .i64 A.length ∧ RowT wr base g cap (A.reverse ++ [x] ++ Bq.reverse ++ rest) ∧ w.grownBy wr (some g)) (fun i _ => (intOf i).toNat)
      case atStart => exact ⟨acc, [], rfl, rfl, by rw [HAL.out], HST.out, HGR.out⟩
      case round =>
        obtain ⟨A, Bq, hab, hins, rfl, hrow, hgr⟩ := hrel
        have HAB := Lib.hid hab; have HINS := Lib.hid hins; have HROW := Lib.hid hrow; have HGR2 := Lib.hid hgr
        clear hab hins hrow hgr
        cases A with
        | nil =>
          simp only [List.length_nil]
          go_upto_region 4 with fail
          go_quiet (fail)
          go_wp2_with fail
          go_roundw
          case rel =>
            refine ⟨m + 1, T.insR x acc, by omega, by have := HLT.out; omega, by go_num, HTK.out.symm, ?_, ⟨HGR2.out.os, HGR2.out.tape, HGR2.out.output, HGR2.out.size, HGR2.out.block⟩⟩
            rw [HINS.out]
            have := RowT.keep (w' := wr.drewN nq) HROW.out (fun _ _ _ => rfl)
            rw [HREST.out]
            simpa [T.insR] using this
          case measure => simp [intOf]; omega
        | cons y A =>
          obtain ⟨p, hp⟩ : ∃ p, A.length = p := ⟨_, rfl⟩
          have hlen2 : (Bq ++ y :: A).length = m := by rw [← HAB.out, HAL.out]
          simp only [List.length_append, List.length_cons] at hlen2
          have hN : ((y :: A).reverse ++ [x] ++ Bq.reverse ++ rest).length = L.length := by have := HLEN.out; have := HAL.out; simp; omega
          obtain ⟨A0, C0, c0, c1, c2, hx0⟩ := HROW.out.at p (by omega)
          obtain ⟨A1, C1, d0, d1, d2, hx1⟩ := HROW.out.at (p + 1) (by omega)
          have ey : ((y :: A).reverse ++ [x] ++ Bq.reverse ++ rest)[p]'(by omega) = y := by
            simp only [List.reverse_cons, List.append_assoc]
            rw [List.getElem_append_right (by simp; omega)]
            simp [← hp]
          have ex : ((y :: A).reverse ++ [x] ++ Bq.reverse ++ rest)[p + 1]'(by omega) = x := by
            simp only [List.reverse_cons, List.append_assoc]
            rw [List.getElem_append_right (by simp; omega)]
            simp [← hp]
          rw [ey] at c0 c1 c2 hx0
          rw [ex] at d0 d1 d2 hx1
          have hpl : (p : Int) + 1 < (L.length : Int) := by omega
          have hpl' : (p : Int) < (L.length : Int) := by omega
          simp only [List.length_cons, hp]
          push_cast
          have HX0 := Lib.hid hx0.at; have HX1 := Lib.hid hx1.at
          have q1 : IntKind.i64.wrap ((p : Int) + 1 - 1) = (p : Int) := by rw [IntWalk.i64_in _ (by omega)]; omega
          have q0 : (0 : Int) < (p : Int) + 1 := by omega
          have HP := Lib.hid hp
          have q4 : IntKind.i64.wrap (p : Int) = (p : Int) := IntWalk.i64_in _ (by omega)
          have q2 : (0 : Int) ≤ (p : Int) := by omega
          have q3 : (0 : Int) ≤ (p : Int) + 1 := by omega
          clear hx0 hx1 ex ey hN hlen2 hp
          go_upto_region 4 with fail
          obtain ⟨c, hcv⟩ : ∃ c, T.cmp x y = c := ⟨_, rfl⟩
          have HCV := Lib.hid hcv
          have HY := Lib.hid (HBK.out y (by rw [HAB.out]; simp))
          have HC := Lib.hid (fun W h1 h2 => hcv ▸ ocmp (x.bulk + 1) x y (.agg #[.int .i64 x.kind, .string x.name, .slice A1 x.kids.length C1]) (.agg #[.int .i64 y.kind, .string y.name, .slice A0 y.kids.length C0]) W (by omega) h1 h2 HBX.out HY.out)
          clear hcv
          go_region_held3 (fun W => W.cell? ⟨g, p * 3, none⟩ = some (.int .i64 y.kind) ∧ W.cell? ⟨g, p * 3 + 1, none⟩ = some (.string y.name) ∧ W.cell? ⟨g, p * 3 + 2, none⟩ = some (.slice A0 y.kids.length C0) ∧ W.cell? ⟨g, (p + 1) * 3, none⟩ = some (.int .i64 x.kind) ∧ W.cell? ⟨g, (p + 1) * 3 + 1, none⟩ = some (.string x.name) ∧ W.cell? ⟨g, (p + 1) * 3 + 2, none⟩ = some (.slice A1 x.kids.length C1) ∧ Below wr.heap.size wr W)
            (first | exact ⟨c0, c1, c2, d0, d1, d2, Below.refl _ _⟩ | exact ⟨c0, c1, c2, d0, d1, d2, (Below.refl _ _).drew⟩ | exact six_later (by assumption) hb4 | go_keep)
            ((go_at_call 103; refine (HC.out _ HX1.out.drew HX0.out.drew).mono ?_; rintro e w2 ⟨rfl, hb4⟩))
          rename_i hS
          obtain ⟨z0, z1, z2, y0, y1, y2, hbw2⟩ := hS
          have HROW2 := Lib.hid (HROW.out.keep fun b _ hl => hbw2.block b hl)
          have HGR3 := Lib.hid (grownBy_trans HGR2.out (grownBy_of_below (some g) hbw2))
          clear c0 c1 c2 d0 d1 d2 hb4 hbw2
          by_cases hc : c < 0
          · obtain ⟨f0, f1, f2⟩ := HROW2.out.free p
            obtain ⟨g0, g1, g2⟩ := HROW2.out.free (p + 1)
            have HCC := Lib.hid hc
            go_wp2_with fail
            go_region
            have hrs : RowT w2 base g cap (A.reverse ++ y :: x :: (Bq.reverse ++ rest)) := by have := HROW2.out; simpa using this
            obtain ⟨hrow5, hgr5⟩ := hrs.swap (by rw [List.length_reverse]; exact HP.out) z0 z1 z2 y0 y1 y2 (fun cur hcur => (((((((Wrote.mk hcur (fun _ _ => rfl) rfl rfl rfl rfl).set _ _).set _ _).set _ _).set _ _).set _ _).set _ _).drew)
            generalize ((((((w2.setCell ⟨g, (p + 1) * 3, none⟩ (.int .i64 y.kind)).setCell ⟨g, (p + 1) * 3 + 1, none⟩ (.string y.name)).setCell ⟨g, (p + 1) * 3 + 2, none⟩ (.slice A0 y.kids.length C0)).setCell ⟨g, p * 3, none⟩ (.int .i64 x.kind)).setCell ⟨g, p * 3 + 1, none⟩ (.string x.name)).setCell ⟨g, p * 3 + 2, none⟩ (.slice A1 x.kids.length C1)).drew = w5 at hrow5 hgr5 ⊢
            have HR5 := Lib.hid hrow5; have HG5 := Lib.hid (grownBy_trans HGR3.out hgr5)
            clear hrs hrow5 hgr5 f0 f1 f2 g0 g1 g2 z0 z1 z2 y0 y1 y2 hc
            go_wp2_with fail
            go_roundw
            case rel =>
              refine ⟨A, Bq ++ [y], by rw [HAB.out]; simp, ?_, by rw [HP.out], by have := HR5.out; simpa using this, HG5.out⟩
              rw [HINS.out]; simp only [T.insR]; rw [if_pos (by rw [HCV.out]; exact HCC.out)]; simp
            case measure => simp [intOf]
          · have hc' : 0 ≤ c := by omega
            have HCC := Lib.hid hc
            clear hc
            go_wp2_with fail
            go_roundw
            case rel =>
              refine ⟨m + 1, T.insR x acc, by omega, by have := HLT.out; omega, by go_num, HTK.out.symm, ?_, HGR3.out⟩
              rw [HINS.out]
              have := HROW2.out
              rw [HREST.out]
              have e : T.insR x (y :: A) = x :: y :: A := by simp only [T.insR]; rw [if_neg (by rw [HCV.out]; exact HCC.out)]
              rw [e]
              simpa using this
            case measure => have := HLT.out; simp [intOf]; omega
    · have hge : (L.length : Int) ≤ (m : Int) := by omega
      have HRW := Lib.hid (show RowT wr base g cap (T.isort L) by
        have e : L.take m = L := List.take_of_length_le (by omega)
        have e' : L.drop m = [] := List.drop_of_length_le (by omega)
        rw [e', List.append_nil, hacc, e] at hrow
        exact hrow)
      have HG := Lib.hid hgr
      clear hrow hgr hacc hlt
      go_wp2_with fail
      go_end0
      exact ⟨rfl, HRW.out, HG.out⟩
set_option maxHeartbeats 1000000 in
theorem stable_ok (base g cap : Nat) (L : List T) (w : World) (h : RowT w base g cap L) (hL : L.length < 20) (hb : T.bulkAll L ≤ 1048576) :
    Calls Tryz.prog 168 #[.slice (some ⟨g, 0, none⟩) L.length cap, .int .i64 L.length, .func (.func 103) #[] #[]] w fun e w' =>
      e = .returned (.tuple #[]) ∧ RowT w' base g cap (T.isort L) ∧ w.grownBy w' (some g) := by
  have HI := Lib.hid (insertion base g cap L w h (by omega) hb)
  clear h hb
  have q1 : (L.length : Int) < 20 := by omega
  have q2 : (0 : Int) ≤ (L.length : Int) := by omega
  clear hL
  go_enter Tryz.func168, Tryz.ntmps168
  go_wp2_with fail
  refine wp_loop_rounds 1 ?_; rw [rounds_succ]
  go_wp2_with fail
  refine HI.out.mono ?_; rintro e w2 ⟨rfl, hr, hg⟩
  have HR := Lib.hid hr; have HG := Lib.hid hg
  clear hr hg
  go_wp2_with fail
  refine wp_loop_rounds 1 ?_; rw [rounds_succ]
  go_wp2_with fail
  go_end0
  exact ⟨rfl, HR.out, HG.out⟩
theorem sort_ok (base g cap : Nat) (L : List T) (w : World) (h : RowT w base g cap L) (hL : L.length < 20) (hb : T.bulkAll L ≤ 1048576) :
    Calls Tryz.prog 138 #[.slice (some ⟨g, 0, none⟩) L.length cap, .func (.func 103) #[] #[]] w fun e w' =>
      e = .returned (.tuple #[]) ∧ RowT w' base g cap (T.isort L) ∧ w.grownBy w' (some g) := by
  have HI := Lib.hid (stable_ok base g cap L w h hL hb)
  clear h hb
  go_enter Tryz.func138, Tryz.ntmps138
  go_wp2_with fail
  refine HI.out.mono ?_; rintro e w2 ⟨rfl, hr, hg⟩
  have HR := Lib.hid hr; have HG := Lib.hid hg
  clear hr hg
  go_wp2_with fail
  go_end0
  exact ⟨rfl, HR.out, HG.out⟩
end Go.Proofs.YtihbmgkbipeakaaGreat

namespace Go.Proofs.YtihbmgkbipeakaaGreat
open Go.RowKit

attribute [local go_sem ↓] Go.wp_at_zero Go.wp_at_succ

/-- What the loop of arrange has done. -/
def ArrAt (w : World) (k : Int) (s : ByteArray) (L : List T) (wr : World) : Prop :=
  ∃ kv, Box wr w.heap.size (.int .i64 k) (.string s) kv ∧ Box wr (w.heap.size + 1) (.int .i64 0) (.string ⟨#[]⟩) (.slice none 0 0) ∧ TermsRow wr (w.heap.size + 2) kv L ∧ Below w.heap.size w wr ∧ w.heap.size + 2 ≤ wr.heap.size
theorem ArrAt.step {w : World} {k : Int} {s : ByteArray} {L : List T} {t : T} {wr w3 w4 : World} {kv u0 u1 u2 : Value} {xs : List Value} {g cap : Nat}
    (x : Box wr w.heap.size (.int .i64 k) (.string s) kv) (y : Box wr (w.heap.size + 1) (.int .i64 0) (.string ⟨#[]⟩) (.slice none 0 0)) (hrow : TermsRow wr (w.heap.size + 2) kv L) (hb : Below w.heap.size w wr) (hsz : w.heap.size + 2 ≤ wr.heap.size)
    (hx : ∀ i (h : i < L.length), ∃ u0 u1 u2, xs[i * 3]? = some u0 ∧ xs[i * 3 + 1]? = some u1 ∧ xs[i * 3 + 2]? = some u2 ∧ TermIn (but (w.heap.size + 2) kv.ownBlock) wr (.agg #[u0, u1, u2]) L[i]) (hl : xs.length = L.length * 3)
    (hb3 : Below wr.heap.size wr w3) (ht : TermIn (from_ wr.heap.size) w3 (.agg #[u0, u1, u2]) t)
    (hown : w4.ownsRow (w.heap.size + 2) 29 3 (.slice (some ⟨g, 0, none⟩) (L.length + 1) cap) (L.length + 1) (xs ++ [u0, u1, u2])) (hgrow : (w3.alloc (.cells #[u0, u1, u2] 29)).grownBy w4 kv.ownBlock)
    (hat : kv.ownBlock = some g ∨ g = w3.heap.size + 1) : ArrAt w k s (L ++ [t]) (w4.setCell ⟨w.heap.size, 2, none⟩ (.slice (some ⟨g, 0, none⟩) (L.length + 1) cap)) := by
  have hne : ∀ b, b < w.heap.size + 2 → kv.ownBlock ≠ some b := fun b hlt e => by have := (hrow.block b e).1; omega
  have hb3' := hb3.trans ((below_alloc1 w3 (.cells #[u0, u1, u2] 29)).mono hb3.size)
  have hbf : Below w.heap.size w w4 := (hb.trans (hb3'.mono (by omega))).grown hgrow (by rw [size_alloc1]; have := hb3.size; omega) (fun k hk => by have := (hrow.block k hk).1; omega)
  refine ⟨_, (((x.later hb3').grown hgrow (hne _ (by omega))).set2 _), ?_, ?_, hbf.setCell (Nat.le_refl _) _, ?_⟩
  · exact ((y.later hb3').grown hgrow (hne _ (by omega))).setOther (by simp) _
  · have h1 := TermsRow.snoc (w := w3.alloc (.cells #[u0, u1, u2] 29)) (H := w3.heap.size + 1) (t := t) (fun i hi => by
        obtain ⟨a0, a1, a2, b0, b1, b2, b3⟩ := hx i hi
        exact ⟨a0, a1, a2, b0, b1, b2, b3.keep fun b hb hlt => ⟨hb, hb3'.block b hlt⟩⟩) hl
      (ht.keep fun b hbb hlt => ⟨but_iff.2 ⟨by have := of_decide_eq_true hbb; omega, fun e => by have := (hrow.block b e).2; have := of_decide_eq_true hbb; omega⟩, Below.heap_alloc w3 _ b hlt⟩)
      hown hgrow hat (by rw [size_alloc1])
    exact h1.keep fun b hbb _ => Below.heap_setCell _ _ _ _ (by show b ≠ w.heap.size; omega)
  · have := hgrow.size; have := hb3'.size; simp [World.setCell]; omega

set_option maxRecDepth 100000 in
set_option maxHeartbeats 8000000 in
theorem oarr : ∀ (N : Nat) (t : T) (v : Value) (w : World), t.bulk < N → TermAt w v t → t.bulk ≤ 1048576 → t.shape = true →
    Calls Tryz.prog 106 #[v] w (RetT t.norm w) := by
  intro N
  induction N with
  | zero => intro t v w h; omega
  | succ N ih =>
    intro t v w hN ht hbk hsh
    cases ht with
    | mk k s A cap ks U h1 h2 h3 h4 hA hU =>
      simp only [T.bulk] at hN hbk
      have hkn : ks.length ≤ 262144 := by have := T.len_le ks; omega
      have HT := Lib.hid (TermAt.mk k s A cap ks U h1 h2 h3 h4 hA hU)
      obtain ⟨i0, hi0, hz0, hz1, hz2⟩ := info_parts Tryz.infoT
      go_enter Tryz.func106, Tryz.ntmps106
      go_wp2_with fail
      obtain ⟨bx, by', hb1, hsz⟩ := box_two w (.int .i64 k) (.string s) (.slice none 0 0) (.int .i64 0) (.string ⟨#[]⟩) (.slice none 0 0)
      generalize (w.alloc (.cells #[.int .i64 k, .string s, .slice none 0 0] 29)).alloc (.cells #[.int .i64 0, .string ⟨#[]⟩, .slice none 0 0] 29) = w1 at bx by' hb1 hsz ⊢
      have hstart : ArrAt w k s [] w1 := ⟨_, bx, by', TermsRow.nil _ _, hb1, by omega⟩
      have HST := Lib.hid hstart
      have IH := Lib.hid ih
      have HSK := Lib.hid (T.shape_kids hsh)
      have HSHW := Lib.hid hsh
      clear bx by' hb1 hsz hstart ih hsh
      have hA2 := Lib.hid hA; have hU2 := Lib.hid hU
      clear hA hU
      go_loopw [11] (fun i wr => ∃ j : Nat, j ≤ ks.length ∧ i = .int .i64 j ∧ ArrAt w k s ((ks.map T.norm).take j) wr) (fun i _ => ks.length - (intOf i).toNat)
      case atStart => exact ⟨0, Nat.zero_le _, rfl, by simpa using HST.out⟩
      case round =>
        obtain ⟨j, hj, rfl, hat⟩ := hrel
        by_cases hlt : j < ks.length
        · obtain ⟨kv, bx, bz, hrow, hbw, hsz⟩ := hat
          obtain ⟨b, off, B1, C1, rfl, d0, d1, d2, hu⟩ := TermAt.cells hlt hA2.out hU2.out
          have e0 := cell_later hbw d0; have e1 := cell_later hbw d1; have e2 := cell_later hbw d2
          have hi : (j : Int) < (ks.length : Int) := by omega
          have HU := Lib.hid (hu.later hbw); have HLT := Lib.hid hlt; have HJ := Lib.hid hj
          have HB2 := Lib.hid (show ks[j].bulk < N ∧ ks[j].bulk ≤ 1048576 by have := T.bulk_at ks j hlt; omega)
          have HSH := Lib.hid (HSK.out j hlt)
          clear d0 d1 d2 hu hj
          go_upto_region 6 with fail
          have hq := below_alloc1 wr (.cells #[.int .i64 ks[j].kind, .string ks[j].name, .slice B1 ks[j].kids.length C1] 29)
          have qx := Box.new wr (.int .i64 ks[j].kind) (.string ks[j].name) (.slice B1 ks[j].kids.length C1)
          have hqs := size_alloc1 wr (.cells #[.int .i64 ks[j].kind, .string ks[j].name, .slice B1 ks[j].kids.length C1] 29)
          generalize wr.alloc (.cells #[.int .i64 ks[j].kind, .string ks[j].name, .slice B1 ks[j].kids.length C1] 29) = wq at hq qx hqs ⊢
          replace bx := bx.later hq; replace bz := bz.later hq
          replace hrow := hrow.later hq
          replace hbw := hbw.trans (hq.mono hbw.size)
          have hsz' : w.heap.size + 2 ≤ wq.heap.size := by omega
          have HU2 := Lib.hid (HU.out.later hq)
          obtain ⟨xs, hown, hx⟩ := hrow.owns
          have hlen : (List.take j (ks.map T.norm)).length = j := by rw [List.length_take, List.length_map]; omega
          have HSTEP := Lib.hid (fun t w3 w4 u0 u1 u2 g cap => ArrAt.step (k := k) (s := s) (t := t) (w3 := w3) (w4 := w4) (u0 := u0) (u1 := u1) (u2 := u2) (g := g) (cap := cap) bx bz hrow hbw hsz' hx hown.1)
          have HTK := Lib.hid (show List.take j (ks.map T.norm) ++ [ks[j].norm] = List.take (j + 1) (ks.map T.norm) by rw [List.take_succ_eq_append_getElem (by simpa using hlt), List.getElem_map]; rfl)
          obtain ⟨y0, y1, y2⟩ := bx.cells
          obtain ⟨f0, f1, f2⟩ := bx.free
          obtain ⟨q0, q1, q2⟩ := qx.cells
          have hblk := hrow.block
          rw [hlen] at hown HSTEP
          have HOWN := Lib.hid hown; have HBX := Lib.hid bx; have HBLK := Lib.hid hblk
          have hbz : w.heap.size < wq.heap.size := by omega
          have HSZ := Lib.hid hsz'
          have HNE := Lib.hid (show kv.ownBlock ≠ some w.heap.size from fun e => by have := (hblk _ e).1; omega)
          clear e0 e1 e2 hx hrow bz hsz hsz' hlen hown bx hq hbw hblk hqs
          go_region_law (first | (refine step_append_lies _ (by rfl) _ _ _ (by rfl) (w.heap.size + 2) 29 i0 _ 3 48 Tryz.underlying27 hi0 hz0 hz1 hz2 rfl (by omega) _ _ _ (by rfl) HOWN3.out ⟨_, 0, none⟩ 1 1 _ (by rfl) (by rfl) (World.news_of_block (heap_alloc_new _ _)) HONE.out (by omega) (by unfold maxLen; omega) (by omega) HBS.out _ rfl ?_; intro g cap w4 hown4 hgrow hat hlt4; have HB4 := (HBX.out.later (hb3'.trans ((below_alloc1 w3 _).mono hb3'.size))).grown hgrow HNE.out; have c4 := HB4.cells.2.2; have f4 := HB4.free.2.2) | (go_simp; go_at_call 106; refine (IH.out _ _ _ HB2.out.1 HU2.out.drew HB2.out.2 HSH.out).mono ?_; rintro e w3 ⟨A3, C3, rfl, hti, hb3⟩; have hb3' := below_undrew hb3; have z0 := cell_later hb3' y0; have z1 := cell_later hb3' y1; have z2 := cell_later hb3' y2; have zz2 := cell_later (below_alloc1 w3 (.cells #[.int .i64 ks[j].norm.kind, .string ks[j].norm.name, .slice A3 ks[j].norm.kids.length C3] 29)) z2; have HOWN3 := Lib.hid ((own_later HOWN.out hb3').alloc (.cells #[.int .i64 ks[j].norm.kind, .string ks[j].norm.name, .slice A3 ks[j].norm.kids.length C3] 29)); have HONE := Lib.hid hti.one; have HBS := Lib.hid (show w.heap.size + 2 ≤ (w3.alloc (.cells #[.int .i64 ks[j].norm.kind, .string ks[j].norm.name, .slice A3 ks[j].norm.kids.length C3] 29)).heap.size by rw [size_alloc1]; have := hb3'.size; have := HSZ.out; omega)))
          all_goals
            have hfin := HSTEP.out ks[j].norm w3 w4 _ _ _ g cap hb3' hti hown4 hgrow (hat.imp id (fun h => h.trans (size_alloc1 _ _)))
            rw [HTK.out] at hfin
            have HFIN := Lib.hid hfin
            clear hfin hgrow hown4 hti c4 f4 HB4 z0 z1 z2 zz2 hat hlt4
            go_wp2_with fail
            go_roundw
            case rel => exact ⟨j + 1, HLT.out, by go_num, HFIN.out⟩
            case measure => have := HLT.out; simp [intOf]; omega
        · obtain rfl : j = ks.length := by omega
          rw [List.take_of_length_le (by simp)] at hat
          obtain ⟨kv, bx, bz, hrow, hbw, hsz⟩ := hat
          obtain ⟨L, hL⟩ : ∃ L, ks.map T.norm = L := ⟨_, rfl⟩
          rw [hL] at hrow
          have hLl : L.length = ks.length := by rw [← hL, List.length_map]
          obtain ⟨y0, y1, y2⟩ := bx.cells
          obtain ⟨q0, q1, q2⟩ := bz.cells
          obtain ⟨f0, f1, f2⟩ := bz.free
          by_cases k7 : k = 7
          · subst k7
            have h14 := T.shape_seven HSHW.out
            rcases hrow with ⟨rfl, hnil⟩ | ⟨g, C4, rfl, hrowT⟩
            · rw [hnil] at hLl; simp at hLl; omega
            have hgB : w.heap.size + 2 ≤ g := by obtain ⟨_, _, _, _, _, h5, _⟩ := hrowT; exact h5
            have hbl : T.bulkAll L ≤ 1048576 := by rw [← hL, ← T.normAll_map, T.bulk_normAll]; omega
            have HS := Lib.hid (sort_ok (w.heap.size + 2) g C4 L wr hrowT (by omega) hbl)
            rw [hLl] at HS y2 bx
            have HN := Lib.hid (show (T.mk 7 s ks).norm = .mk 7 s (T.isort L) by simp only [T.norm, if_pos, T.normAll_map, hL])
            have HLL := Lib.hid hLl
            have HBW := Lib.hid hbw; have HBX := Lib.hid bx; have HBZ := Lib.hid bz
            have hn1 : some g ≠ some w.heap.size := fun e => by injection e; omega
            have hn2 : some g ≠ some (w.heap.size + 1) := fun e => by injection e; omega
            clear hL hLl hbl hrowT hbw bx bz h14
            go_wp2_with fail
            refine HS.out.mono ?_; rintro e w5 ⟨rfl, hrow5, hgrow5⟩
            have bx5 := HBX.out.grown hgrow5 hn1; have bz5 := HBZ.out.grown hgrow5 hn2
            have hb5 := HBW.out.grown hgrow5 (by omega) (fun k hk => by injection hk; omega)
            obtain ⟨a0, a1, a2⟩ := bx5.cells
            obtain ⟨b0, b1, b2⟩ := bz5.cells
            obtain ⟨c0, c1, c2⟩ := bz5.free
            have HTM := Lib.hid (TermsRow.term (k := 7) (s := s) (.inr ⟨g, C4, rfl, hrow5⟩) h1 h2)
            rw [T.length_isort, HLL.out] at HTM
            clear hrow5 hgrow5 bx5 y0 y1 y2 q0 q1 q2 f0 f1 f2
            go_wp2_with fail
            obtain ⟨d0, d1, d2⟩ := (box_set3 bz5 (.int .i64 7) (.string s) (.slice (some ⟨g, 0, none⟩) ks.length C4)).cells
            refine bodyPost_ret (v := .agg #[.int .i64 7, .string s, .slice (some ⟨g, 0, none⟩) ks.length C4]) (by simp [results, Tryz.results106, go_sem, d0, d1, d2]) rfl ?_
            rw [HN.out]
            exact ret_set3 (t := .mk 7 s (T.isort L)) _ _ _ hb5 (by omega) rfl rfl (by show _ = Value.slice _ (T.isort L).length _; rw [T.length_isort, HLL.out]) HTM.out
          · have k7' : (k == 7) = false := by rw [beq_eq_false_iff_ne]; exact k7
            obtain ⟨A4, C4, hkv, _, _⟩ := hrow.shape
            have HN := Lib.hid (show (T.mk k s ks).norm = .mk k s L by simp only [T.norm, if_neg k7, T.normAll_map, hL])
            have HTM := Lib.hid (hrow.term k s h1 h2)
            have HBW := Lib.hid hbw; have HBZ := Lib.hid bz; have HLL := Lib.hid hLl
            rw [hkv] at y2 HTM
            rw [hLl] at y2 HTM
            clear hL k7 hkv hrow hbw bx bz hLl
            go_wp2_with fail
            obtain ⟨d0, d1, d2⟩ := (box_set3 HBZ.out (.int .i64 k) (.string s) (.slice A4 ks.length C4)).cells
            refine bodyPost_ret (v := .agg #[.int .i64 k, .string s, .slice A4 ks.length C4]) (by simp [results, Tryz.results106, go_sem, d0, d1, d2]) rfl ?_
            rw [HN.out]
            exact ret_set3 (t := .mk k s L) _ _ _ HBW.out (by omega) rfl rfl (by show _ = Value.slice _ L.length _; rw [HLL.out]) HTM.out
end Go.Proofs.YtihbmgkbipeakaaGreat

namespace Go.Proofs.YtihbmgkbipeakaaGreat
open Go.RowKit

/-- These cells hold these terms. -/
def CT (S : Nat → Bool) (w : World) (xs : List Value) (L : List T) : Prop :=
  xs.length = L.length * 3 ∧ ∀ i (h : i < L.length), ∃ u0 u1 u2, xs[i * 3]? = some u0 ∧ xs[i * 3 + 1]? = some u1 ∧ xs[i * 3 + 2]? = some u2 ∧ TermIn S w (.agg #[u0, u1, u2]) L[i]
theorem CT.keep {S S' : Nat → Bool} {w w' : World} {xs : List Value} {L : List T} (h : CT S w xs L) (hk : ∀ b, S b = true → b < w.heap.size → S' b = true ∧ w'.heap[b]? = w.heap[b]?) : CT S' w' xs L :=
  ⟨h.1, fun i hi => by obtain ⟨u0, u1, u2, a, b, c, d⟩ := h.2 i hi; exact ⟨u0, u1, u2, a, b, c, d.keep hk⟩⟩
theorem CT.nil (S : Nat → Bool) (w : World) : CT S w [] [] := ⟨rfl, fun i h => by simp at h⟩
theorem CT.one {S : Nat → Bool} {w : World} {u0 u1 u2 : Value} {t : T} (h : TermIn S w (.agg #[u0, u1, u2]) t) : CT S w [u0, u1, u2] [t] :=
  ⟨rfl, fun i hi => by
    obtain rfl : i = 0 := by simpa using hi
    exact ⟨u0, u1, u2, rfl, rfl, rfl, h⟩⟩
theorem CT.append {S : Nat → Bool} {w : World} {xs ys : List Value} {L M : List T} (h : CT S w xs L) (k : CT S w ys M) : CT S w (xs ++ ys) (L ++ M) := by
  refine ⟨by rw [List.length_append, List.length_append, h.1, k.1]; omega, fun i hi => ?_⟩
  have h1 := h.1
  rcases Nat.lt_or_ge i L.length with g | g
  · obtain ⟨u0, u1, u2, a, b, c, d⟩ := h.2 i g
    refine ⟨u0, u1, u2, ?_, ?_, ?_, by rw [List.getElem_append_left g]; exact d⟩
    all_goals rw [List.getElem?_append_left (by omega)]; assumption
  · have hm : i - L.length < M.length := by simp at hi; omega
    obtain ⟨u0, u1, u2, a, b, c, d⟩ := k.2 (i - L.length) hm
    refine ⟨u0, u1, u2, ?_, ?_, ?_, by rw [List.getElem_append_right g]; exact d⟩
    · rw [List.getElem?_append_right (by omega), ← a]; congr 1; omega
    · rw [List.getElem?_append_right (by omega), ← b]; congr 1; omega
    · rw [List.getElem?_append_right (by omega), ← c]; congr 1; omega
theorem CT.take {S : Nat → Bool} {w : World} {xs : List Value} {L : List T} (h : CT S w xs L) (j : Nat) : CT S w (xs.take (j * 3)) (L.take j) := by
  refine ⟨by rw [List.length_take, List.length_take, h.1]; omega, fun i hi => ?_⟩
  have hj : i < j ∧ i < L.length := by rw [List.length_take] at hi; omega
  obtain ⟨u0, u1, u2, a, b, c, d⟩ := h.2 i hj.2
  refine ⟨u0, u1, u2, ?_, ?_, ?_, by rw [List.getElem_take]; exact d⟩
  all_goals rw [List.getElem?_take, if_pos (by omega)]; assumption
theorem CT.drop {S : Nat → Bool} {w : World} {xs : List Value} {L : List T} (h : CT S w xs L) (j : Nat) : CT S w (xs.drop (j * 3)) (L.drop j) := by
  refine ⟨by rw [List.length_drop, List.length_drop, h.1]; omega, fun i hi => ?_⟩
  have hj : j + i < L.length := by rw [List.length_drop] at hi; omega
  obtain ⟨u0, u1, u2, a, b, c, d⟩ := h.2 (j + i) hj
  refine ⟨u0, u1, u2, ?_, ?_, ?_, by rw [List.getElem_drop]; exact d⟩
  · rw [List.getElem?_drop, ← a]; congr 1; omega
  · rw [List.getElem?_drop, ← b]; congr 1; omega
  · rw [List.getElem?_drop, ← c]; congr 1; omega
theorem CT.one' {S : Nat → Bool} {w : World} {xs : List Value} {L : List T} (h : CT S w xs L) : ∀ u ∈ xs, u.oneCell' = true := by
  intro u hu
  obtain ⟨j, hj, rfl⟩ := List.getElem_of_mem hu
  have h1 := h.1
  obtain ⟨u0, u1, u2, a, b, c, d⟩ := h.2 (j / 3) (by omega)
  have ho := d.one
  have e : xs[j]? = some xs[j] := List.getElem?_eq_getElem hj
  rcases (show j = j / 3 * 3 ∨ j = j / 3 * 3 + 1 ∨ j = j / 3 * 3 + 2 by omega) with g | g | g
  · rw [← g, e] at a; injection a with a; rw [a]; exact ho _ (by simp)
  · rw [← g, e] at b; injection b with b; rw [b]; exact ho _ (by simp)
  · rw [← g, e] at c; injection c with c; rw [c]; exact ho _ (by simp)
theorem TermsRow.cells {w : World} {base : Nat} {v : Value} {L : List T} (h : TermsRow w base v L) : ∃ xs, w.ownsRow base 29 3 v L.length xs ∧ CT (but base v.ownBlock) w xs L := by
  obtain ⟨xs, h1, h2⟩ := h.owns
  exact ⟨xs, h1, h1.1, h2⟩
theorem TermsRow.of {w : World} {base : Nat} {v : Value} {L : List T} {xs : List Value} (h : w.ownsRow base 29 3 v L.length xs) (hc : CT (but base v.ownBlock) w xs L) : TermsRow w base v L := by
  rcases h.2 with ⟨rfl, h0⟩ | ⟨g, cap, cur, rfl, h5, h1, h3, h4, h2, htake⟩
  · exact .inl ⟨rfl, List.eq_nil_of_length_eq_zero h0⟩
  · refine .inr ⟨g, cap, rfl, cur, h1, h2, h3, h4, h5, fun i hi => ?_⟩
    obtain ⟨u0, u1, u2, a, b, c, d⟩ := hc.2 i hi
    have hcur : ∀ j u, xs[j]? = some u → cur[j]? = some u := fun j u hu => by
      rw [← htake, List.getElem?_take] at hu
      split at hu
      · simpa using hu
      · cases hu
    exact ⟨u0, u1, u2, hcur _ _ a, hcur _ _ b, hcur _ _ c, d⟩
/-- A shorter slice of a row. -/
theorem own_take {w : World} {base g n cap j : Nat} {e : TypeId} {size : Nat} {xs : List Value} (h : w.ownsRow base e size (.slice (some ⟨g, 0, none⟩) n cap) n xs) (hj : j ≤ n) : w.ownsRow base e size (.slice (some ⟨g, 0, none⟩) j cap) j (xs.take (j * size)) := by
  obtain ⟨hl, hh⟩ := h
  rcases hh with ⟨h, _⟩ | ⟨g', cap', cur, hv, h5, h1, h3, h4, h2, htake⟩
  · cases h
  · simp only [Value.slice.injEq, Option.some.injEq, Addr.mk.injEq, and_true, true_and] at hv
    obtain ⟨rfl, rfl⟩ := hv
    have hm : j * size ≤ n * size := Nat.mul_le_mul_right _ hj
    refine ⟨by rw [List.length_take, hl]; exact Nat.min_eq_left hm, .inr ⟨g, cap, cur, rfl, h5, h1, Nat.le_trans hj h3, h4, h2, ?_⟩⟩
    rw [← htake, List.take_take, Nat.min_eq_left hm]
theorem own_take' {w : World} {base n cap j : Nat} {A : Option Addr} {e : TypeId} {size : Nat} {xs : List Value} (h : w.ownsRow base e size (.slice A n cap) n xs) (hj : j ≤ n) : w.ownsRow base e size (.slice A j cap) j (xs.take (j * size)) := by
  rcases h.2 with ⟨hv, h0⟩ | ⟨g, cap', cur, hv, _⟩
  · obtain rfl : j = 0 := by omega
    subst h0
    rw [hv]; simpa using World.ownsRow_nil w base e size
  · have hA : A = some ⟨g, 0, none⟩ := by injection hv
    subst hA; exact own_take h hj
end Go.Proofs.YtihbmgkbipeakaaGreat
