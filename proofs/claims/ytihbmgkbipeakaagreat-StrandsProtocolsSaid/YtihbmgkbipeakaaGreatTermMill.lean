/- The maker of objects out of numbers (the second one: its dice take a copy of the list): Light, Roll, Mod, Next; a list of numbers that came in. -/
import Derived.Test.YtihbmgkbipeakaaGreatRows
import Derived.Test.YtihbmgkbipeakaaGreatUtil
import Derived.ProofKit
import Derived.OpenShut
import Derived.Maps.Range
import Derived.Test.YtihbmgkbipeakaaGreatSrc
import Derived.Test.YtihbmgkbipeakaaGreatTermNorm
import Derived.OwnWalk
import Derived.Deep.Slices
namespace Go.Proofs.YtihbmgkbipeakaaGreat
open Go.RowKit Go.ChangeShapes Go.WideShapes Go.Deep

/-- A list of numbers that lies in memory. -/
def ListAt (w : World) (A : Option Addr) (n : Nat) : Prop := n = 0 ∨ ∃ b off, A = some ⟨b, off, none⟩ ∧ ∀ j, j < n → ∃ z : Int, w.cell? ⟨b, off + j, none⟩ = some (.int .i64 z) ∧ -9223372036854775808 ≤ z ∧ z ≤ 9223372036854775807
theorem ListAt.keep {w w' : World} {A : Option Addr} {n : Nat} (h : ListAt w A n) (hk : ∀ p : Addr, (w.cell? p).isSome = true → w'.cell? p = w.cell? p) : ListAt w' A n := by
  rcases h with h | ⟨b, off, e, hc⟩
  · exact .inl h
  · refine .inr ⟨b, off, e, fun j hj => ?_⟩
    obtain ⟨z, h1, h2⟩ := hc j hj
    exact ⟨z, (hk _ (by rw [h1]; rfl)).trans h1, h2⟩
theorem ListAt.below {w w' : World} {A : Option Addr} {n : Nat} (h : ListAt w A n) (hb : Below w.heap.size w w') : ListAt w' A n := by
  refine h.keep fun p hp => ?_
  obtain ⟨v, hv⟩ := Option.isSome_iff_exists.1 hp
  rw [hv]; exact cell_later hb hv

set_option maxRecDepth 100000 in
/-- An argument of the type []int, opened. -/
theorem open_list {H : Type} {enc : TypeId × Value → H} {w : World} {b0 : Nat} {v : Value} {d : DataW H} {p : List MemPlace} {r : Reach}
    (hv : Value.okWide Tryz.prog w r b0 22 v) (h : DataW.Trod enc Tryz.prog w 0 (fun _ => true) true 22 v d p) :
    ∃ (A : Option Addr) (n c : Nat), v = .slice A n c ∧ n ≤ c ∧ c ≤ maxLen ∧ ListAt w A n := by
  obtain ⟨a0, len, cap, rfl⟩ := okWide_slice Tryz.underlying22 hv
  obtain ⟨fuel, hf⟩ := h
  rcases open_ints Tryz.underlying22 Tryz.underlying3 (by kernel_rfl) hf with ⟨hcs, _⟩ | ⟨x, l, c, zs, hcs, _, hl, hm, hz, _, hcell, hwz⟩
  · simp [Value.cells] at hcs
    obtain ⟨rfl, rfl, rfl⟩ := hcs
    exact ⟨none, 0, 0, rfl, Nat.le_refl _, Nat.zero_le _, .inl rfl⟩
  · simp [Value.cells] at hcs
    obtain ⟨rfl, rfl, rfl⟩ := hcs
    refine ⟨_, _, _, rfl, hl, hm, ?_⟩
    have hz' : zs.length = cap := by simpa using hz
    rcases Nat.eq_zero_or_pos len with h0 | h0
    · exact .inl h0
    · obtain ⟨b, off, rfl, hc⟩ := ints_at hcell (by omega)
      refine .inr ⟨b, off, rfl, fun j hj => ⟨_, hc j (by omega), ?_⟩⟩
      have hj' : j < zs.length := by omega
      have := bounds_i64 (hwz zs[j] (List.getElem_mem hj'))
      simpa [List.getD, List.getElem?_eq_getElem hj'] using this

/-- The dice: block g holds the list and how far it has been read. -/
def DiceAt (B g : Nat) (w : World) : Prop := B ≤ g ∧ ∃ (A : Option Addr) (n c k : Nat), w.heap[g]? = some (.cells #[.slice A n c, .int .i64 (k : Int)] 81 (0, 0)) ∧ k ≤ n ∧ n ≤ 80 ∧ n ≤ c ∧
  (n = 0 ∨ ∃ b off, b < B ∧ A = some ⟨b, off, none⟩ ∧ ∀ j, j < n → ∃ z : Int, w.cell? ⟨b, off + j, none⟩ = some (.int .i64 z) ∧ -9223372036854775808 ≤ z ∧ z ≤ 9223372036854775807)
theorem DiceAt.below {B B' g : Nat} {w w' : World} (h : DiceAt B g w) (hb : Below B' w w') (hg : g < B') : DiceAt B g w' := by
  obtain ⟨h0, A, n, c, k, h1, h2, h3, h3', h4⟩ := h
  refine ⟨h0, A, n, c, k, (hb.block g hg).trans h1, h2, h3, h3', ?_⟩
  rcases h4 with h4 | ⟨b, off, hbB, e, hc⟩
  · exact .inl h4
  · refine .inr ⟨b, off, hbB, e, fun j hj => ?_⟩
    obtain ⟨z, g1, g2⟩ := hc j hj
    exact ⟨z, (hb.cell (p := ⟨b, off + j, none⟩) (by show b < B'; omega)).trans g1, g2⟩
theorem DiceAt.lt {B g : Nat} {w : World} (h : DiceAt B g w) : g < w.heap.size := by
  obtain ⟨_, A, n, c, k, h1, _⟩ := h
  rcases Nat.lt_or_ge g w.heap.size with hlt | hge
  · exact hlt
  · rw [Array.getElem?_eq_none hge] at h1; cases h1

theorem made_light (A : Option Addr) (n c : Nat) (w : World) (hn : n ≤ maxLen) :
    Calls Tryz.prog 10 #[.slice A n c] w fun e w' => e = .returned (.bool (decide (n ≤ 80))) ∧ w = w' := by
  unfold maxLen at hn
  by_cases h : n ≤ 80
  · go_enter Tryz.func10, Tryz.ntmps10
    go_wp2_with fail
    go_ret
    exact ⟨ret_bool (by simp; omega), rfl⟩
  · go_enter Tryz.func10, Tryz.ntmps10
    go_wp2_with fail
    go_ret
    exact ⟨ret_bool (by simp; omega), rfl⟩

theorem info_int : (Tryz.prog.info? 3).map (fun i => (i.zero, i.size, i.bytes)) = some (some (.int .i64 0), 1, 8) := by kernel_rfl
theorem ListAt.src {w : World} {A : Option Addr} {n : Nat} (h : ListAt w A n) : ∃ zs : List Int, zs.length = n ∧ (∀ z ∈ zs, -9223372036854775808 ≤ z ∧ z ≤ 9223372036854775807) ∧ Src w 1 A n (zs.map fun z => .int .i64 z) := by
  rcases h with h | ⟨b, off, rfl, hc⟩
  · subst h; exact ⟨[], rfl, (fun z h => by cases h), Src.none_ _ _ _⟩
  · obtain ⟨F, hF⟩ := choose_lt hc
    refine ⟨(List.range n).map F, by simp, (fun z hz => ?_), by simp, .inr ⟨b, off, rfl, fun j u hu => ?_⟩⟩
    · obtain ⟨j, hj, rfl⟩ := List.mem_map.1 hz
      exact (hF j (List.mem_range.1 hj)).2
    · rw [List.map_map, List.getElem?_map] at hu
      rcases Nat.lt_or_ge j n with hj | hj
      · rw [List.getElem?_range hj] at hu
        have := Option.some.inj hu; subst this; exact (hF j hj).1
      · rw [List.getElem?_eq_none (by simpa using hj)] at hu; cases hu
set_option maxHeartbeats 2000000 in
theorem made_roll (A : Option Addr) (n c : Nat) (w : World) (hn : n ≤ 80) (hl : ListAt w A n) :
    Calls Tryz.prog 18 #[.slice A n c] w fun e w' => ∃ g, w.heap.size ≤ g ∧ e = .returned (.pointer (some ⟨g, 0, none⟩)) ∧ DiceAt g g w' ∧ Below w.heap.size w w' := by
  obtain ⟨zs, h1, h2, h3⟩ := hl.src
  obtain ⟨i0, hi0, hz0, hz1, hz2⟩ := info_parts info_int
  have hownE := World.ownsRow_made (size := 1) (e := 3) w #[] 0 (base := w.heap.size) (Nat.le_refl _) (Nat.zero_le _) rfl
  have HSRC := Lib.hid (h3.later (below_alloc1 w (.cells #[] 3)))
  have HOWNE := Lib.hid hownE
  have HONE := Lib.hid (fun (u : Value) (hu : u ∈ zs.map fun z => (.int .i64 z : Value)) => show u.oneCell' = true by obtain ⟨z, _, rfl⟩ := List.mem_map.1 hu; rfl)
  have hwe : Below w.heap.size w (w.alloc (.cells #[] 3)) := below_alloc1 _ _
  have HWE := Lib.hid hwe
  clear h3 hownE hl hwe
  go_enter Tryz.func18, Tryz.ntmps18
  go_wp2_with (at_builtin; refine wpList_append_src _ rfl _ _ 22 rfl w.heap.size 3 i0 _ 1 8 Tryz.underlying22 hi0 hz0 hz1 hz2 rfl (by omega) _ 0 [] rfl HOWNE.out _ n _ _ rfl HSRC.out HONE.out (by unfold maxLen; omega) (by omega) (by rw [size_alloc1]; omega) ?_; intro A7 c7 w7 hown7 hg7 hat7)
  simp only [Nat.zero_add, List.nil_append] at hown7 ⊢
  have hsz7 : w.heap.size + 1 ≤ w7.heap.size := by have := hg7.size; rw [size_alloc1] at this; exact this
  have hb7 : Below w.heap.size w w7 := HWE.out.grown hg7 (by rw [size_alloc1]; omega) (fun k hk => by have e : w.heap.size = k := Option.some.inj hk; omega)
  have hsr := Src.of_own hown7
  have hat : n ≤ c7 ∧ ∀ b, A7.map (·.block) = some b → b < w7.heap.size := by
    rcases hown7.2 with ⟨e, h0⟩ | ⟨g, cap, cur, e, _, hh, hc, _⟩
    · injection e with e1 e2 e3
      subst e1
      exact ⟨by omega, fun b h => by cases h⟩
    · injection e with e1 e2 e3
      subst e1; subst e3
      refine ⟨hc, fun b h => ?_⟩
      have e : g = b := Option.some.inj h
      rw [← e]
      exact (Array.getElem?_eq_some_iff.1 hh).1
  have HSR := Lib.hid hsr; have HB7 := Lib.hid hb7; have HAT := Lib.hid hat
  clear hsr hb7 hat hat7 hown7 hg7
  go_wp2_with fail
  go_ret
  refine ⟨w7.heap.size, HB7.out.size, rfl, ?_, HB7.out.trans ((below_alloc1 _ _).mono HB7.out.size)⟩
  refine ⟨Nat.le_refl _, A7, n, c7, 0, heap_alloc_new _ _, Nat.zero_le _, hn, ?_, ?_⟩
  · exact HAT.out.1
  · rcases HSR.out.2 with h0 | ⟨g, off, rfl, hc⟩
    · exact .inl h0
    · refine .inr ⟨g, off, HAT.out.2 g rfl, rfl, fun j hj => ?_⟩
      have hj' : j < zs.length := by omega
      refine ⟨zs[j], cell_later (below_alloc1 _ _) (hc j _ (by rw [List.getElem?_map, List.getElem?_eq_getElem hj']; rfl)), h2 _ (List.getElem_mem hj')⟩

theorem mill_rem (n m : Int) (h3 : 1 ≤ m) : (n.tmod m + m).tmod m = n % m ∧ -m < n.tmod m ∧ n.tmod m < m := by
  have h := Int.tmod_add_mul_tdiv n m
  have hlt : -m < n.tmod m ∧ n.tmod m < m := by
    have a1 := Int.tmod_lt_of_pos n (b := m) (by omega)
    have a2 := Int.tmod_lt_of_pos (-n) (b := m) (by omega)
    rw [Int.neg_tmod] at a2
    exact ⟨by omega, a1⟩
  refine ⟨?_, hlt⟩
  rw [Int.tmod_eq_emod_of_nonneg (by omega), Int.add_emod_right]
  conv => rhs; rw [← h]
  rw [Int.add_mul_emod_self_left]
set_option maxHeartbeats 400000 in
theorem made_mod (n m : Int) (w : World) (_h1 : -9223372036854775808 ≤ n) (_h2 : n ≤ 9223372036854775807) (h3 : 1 ≤ m) (h4 : m ≤ 1000000) :
    Calls Tryz.prog 20 #[.int .i64 n, .int .i64 m] w fun e w' => e = .returned (.int .i64 (n % m)) ∧ w = w' := by
  obtain ⟨e3, e4, e5⟩ := mill_rem n m h3
  have E3 := Lib.hid e3
  obtain ⟨r, hr⟩ : ∃ r, n.tmod m = r := ⟨_, rfl⟩
  rw [hr] at e3 e4 e5
  have e6 : IntKind.i64.wrap (r + m) = r + m := IntWalk.i64_in _ (by omega)
  have e7 : IntKind.i64.wrap r = r := IntWalk.i64_in _ (by omega)
  have e8 : IntKind.i64.wrap (n % m) = n % m := IntWalk.i64_in _ (by have := Int.emod_nonneg n (b := m) (by omega); have := Int.emod_lt_of_pos n (b := m) (by omega); omega)
  have hm0 : ¬ m = 0 := by omega
  have hm1 : ¬ m < 1 := by omega
  have hmm : ¬ m = -1 := by omega
  clear e4 e5
  go_enter Tryz.func20, Tryz.ntmps20
  go_wp2
  go_ret
  exact ⟨rfl, rfl⟩

/-- Next gives a number below m; nothing but block g has turned. -/
def NextPost (B g : Nat) (m : Int) (w : World) (e : Ending) (w' : World) : Prop := ∃ v : Int, 0 ≤ v ∧ v < m ∧ e = .returned (.int .i64 v) ∧ DiceAt B g w' ∧ w.grownBy w' (some g)
theorem mill_grown_drewN {a w : World} {row : Option Nat} (h : a.grownBy w row) (n : Nat) : a.grownBy (w.drewN n) row := ⟨h.os, h.tape, h.output, h.size, h.block⟩
theorem mill_grown_drew {a w : World} {row : Option Nat} (h : a.grownBy w row) : a.grownBy w.drew row := ⟨h.os, h.tape, h.output, h.size, h.block⟩
theorem mill_grown_set {a w : World} {g : Nat} (h : a.grownBy w (some g)) {p : Addr} (hp : p.block = g) (u : Value) : a.grownBy (w.setCell p u) (some g) :=
  ⟨h.os, h.tape, h.output, by simpa [World.setCell] using h.size, fun i hi hne => (Below.heap_setCell w p u i (by rintro rfl; exact hne (by rw [hp]))).trans (h.block i hi hne)⟩

set_option maxHeartbeats 800000 in
theorem made_next (B g : Nat) (m : Int) (w : World) (hd : DiceAt B g w) (h1 : 1 ≤ m) (h2 : m ≤ 1000000) :
    Calls Tryz.prog 38 #[.pointer (some ⟨g, 0, none⟩), .int .i64 m] w (NextPost B g m w) := by
  have hd' := hd
  obtain ⟨h0, A, n, c, k, hb, hk, hn, hnc, hl⟩ := hd
  have c0 : w.cell? ⟨g, 0, none⟩ = some (.slice A n c) := cell_of_row w g 0 _ _ _ hb
  have c1 : w.cell? ⟨g, 1, none⟩ = some (.int .i64 (k : Int)) := cell_of_row w g 1 _ _ _ hb
  have f1 : w.frozen? ⟨g, 1, none⟩ = false := by simp [World.frozen?, hb]
  by_cases hlt : k < n
  · rcases hl with hl | ⟨b, off, hbB, rfl, hc⟩
    · omega
    obtain ⟨z, hz, z1, z2⟩ := hc k hlt
    have hne : b ≠ g := by omega
    have d1 : ∀ q, ((w.drewN q).setCell ⟨g, 1, none⟩ (.int .i64 ((k : Int) + 1))).cell? ⟨b, off + k, none⟩ = some (.int .i64 z) := fun q => by
      rw [World.cell?_setCell_other (w.drewN q) ⟨g, 1, none⟩ ⟨b, off + k, none⟩ _ (by intro e; injection e with e1 _; exact hne e1.symm)]; exact hz
    have d2 : ∀ q, ((w.drewN q).setCell ⟨g, 1, none⟩ (.int .i64 ((k : Int) + 1))).cell? ⟨g, 0, none⟩ = some (.slice (some ⟨b, off, none⟩) n c) := fun q => by
      rw [World.cell?_setCell_other (w.drewN q) ⟨g, 1, none⟩ ⟨g, 0, none⟩ _ (by intro e; injection e with _ e1; omega)]; exact c0
    have d3 : ∀ q, ((w.drewN q).setCell ⟨g, 1, none⟩ (.int .i64 ((k : Int) + 1))).cell? ⟨g, 1, none⟩ = some (.int .i64 ((k : Int) + 1)) := fun q =>
      World.cell?_setCell_same (w.drewN q) ⟨g, 1, none⟩ _ c1
    have hD : ∀ q, DiceAt B g ((w.drewN q).setCell ⟨g, 1, none⟩ (.int .i64 ((k : Int) + 1))) := fun q => by
      refine ⟨h0, some ⟨b, off, none⟩, n, c, k + 1, ?_, by omega, hn, hnc, .inr ⟨b, off, hbB, rfl, fun j hj => ?_⟩⟩
      · have := heap_setCell_same (w.drewN q) g 1 _ _ (.int .i64 ((k : Int) + 1)) hb
        simpa using this
      · obtain ⟨z', e1, e2⟩ := hc j hj
        refine ⟨z', ?_, e2⟩
        rw [World.cell?_setCell_other (w.drewN q) ⟨g, 1, none⟩ ⟨b, off + j, none⟩ _ (by intro e; injection e with e1 _; exact hne e1.symm)]
        exact e1
    have HD := Lib.hid hD
    have m1 := Int.emod_nonneg z (b := m) (by omega)
    have m2 := Int.emod_lt_of_pos z (b := m) (by omega)
    clear hD hd' hc hb hne
    go_enter Tryz.func38, Tryz.ntmps38
    go_wp2_with fail
    go_quiet (fail)
    go_wp2_with fail
    go_quiet ((go_at_call 20; exact quiet_any (made_mod _ _ _ z1 z2 h1 h2)))
    go_wp2_with fail
    go_ret
    exact ⟨z % m, m1, m2, rfl, HD.out _, mill_grown_drewN (mill_grown_set (mill_grown_drewN (World.grownBy.refl _ _) _) rfl _) _⟩
  · have HD := Lib.hid hd'
    clear hd' hb hl
    go_enter Tryz.func38, Tryz.ntmps38
    go_wp2_with fail
    go_quiet (fail)
    go_wp2_with fail
    go_ret
    exact ⟨0, by omega, by omega, rfl, HD.out, mill_grown_drewN (World.grownBy.refl _ _) _⟩
end Go.Proofs.YtihbmgkbipeakaaGreat
