/- The maker of objects out of numbers (package traveldocmade): Light, Roll, Mod, Next; a list of numbers that came in. -/
import Derived.Test.YtafbhadfeemppaaGreatDoorRows
import Derived.Test.YtafbhadfeemppaaGreatDoorUtil
import Derived.ProofKit
import Derived.OpenShut
import Derived.Maps.Range
namespace Go.Proofs.YtafbhadfeemppaaGreatDoor
open Go.RowKit Go.ChangeShapes Go.WideShapes

/-- A list of numbers that lies in memory. -/
def ListAt (w : World) (A : Option Addr) (n : Nat) : Prop := n = 0 ∨ ∃ b off, A = some ⟨b, off, none⟩ ∧ ∀ j, j < n → ∃ z : Int, w.cell? ⟨b, off + j, none⟩ = some (.int .i64 z) ∧ -9223372036854775808 ≤ z ∧ z ≤ 9223372036854775807
theorem ListAt.keep {w w' : World} {A : Option Addr} {n : Nat} (h : ListAt w A n) (hk : ∀ p : Addr, (w.cell? p).isSome = true → w'.cell? p = w.cell? p) : ListAt w' A n := by
  rcases h with h | ⟨b, off, e, hc⟩
  · exact .inl h
  · refine .inr ⟨b, off, e, fun j hj => ?_⟩
    obtain ⟨z, h1, h2⟩ := hc j hj
    exact ⟨z, (hk _ (by rw [h1]; rfl)).trans h1, h2⟩
theorem ListAt.below {w w' : World} {A : Option Addr} {n : Nat} (h : ListAt w A n) (hb : Below w.heap.size w w') : ListAt w' A n := by
  refine h.keep fun p hp => ?_
  obtain ⟨v, hv⟩ := Option.isSome_iff_exists.1 hp
  rw [hv]; exact cell_later hb hv

set_option maxRecDepth 100000 in
/-- An argument of the type []int, opened. -/
theorem open_list {H : Type} {enc : TypeId × Value → H} {w : World} {b0 : Nat} {v : Value} {d : DataW H} {p : List MemPlace} {r : Reach}
    (hv : Value.okWide Tryz.prog w r b0 25 v) (h : DataW.Trod enc Tryz.prog w 0 (fun _ => true) true 25 v d p) :
    ∃ (A : Option Addr) (n c : Nat), v = .slice A n c ∧ n ≤ c ∧ c ≤ maxLen ∧ ListAt w A n := by
  obtain ⟨a0, len, cap, rfl⟩ := okWide_slice Tryz.underlying25 hv
  obtain ⟨fuel, hf⟩ := h
  rcases open_ints Tryz.underlying25 Tryz.underlying3 (by kernel_rfl) hf with ⟨hcs, _⟩ | ⟨x, l, c, zs, hcs, _, hl, hm, hz, _, hcell, hwz⟩
  · simp [Value.cells] at hcs
    obtain ⟨rfl, rfl, rfl⟩ := hcs
    exact ⟨none, 0, 0, rfl, Nat.le_refl _, Nat.zero_le _, .inl rfl⟩
  · simp [Value.cells] at hcs
    obtain ⟨rfl, rfl, rfl⟩ := hcs
    refine ⟨_, _, _, rfl, hl, hm, ?_⟩
    have hz' : zs.length = cap := by simpa using hz
    rcases Nat.eq_zero_or_pos len with h0 | h0
    · exact .inl h0
    · obtain ⟨b, off, rfl, hc⟩ := ints_at hcell (by omega)
      refine .inr ⟨b, off, rfl, fun j hj => ⟨_, hc j (by omega), ?_⟩⟩
      have hj' : j < zs.length := by omega
      have := bounds_i64 (hwz zs[j] (List.getElem_mem hj'))
      simpa [List.getD, List.getElem?_eq_getElem hj'] using this

/-- The dice: block g holds the list and how far it has been read. -/
def DiceAt (B g : Nat) (w : World) : Prop := B ≤ g ∧ ∃ (A : Option Addr) (n c k : Nat), w.heap[g]? = some (.cells #[.slice A n c, .int .i64 (k : Int)] 61 (0, 0)) ∧ k ≤ n ∧ n ≤ 400 ∧ n ≤ c ∧
  (n = 0 ∨ ∃ b off, b < B ∧ A = some ⟨b, off, none⟩ ∧ ∀ j, j < n → ∃ z : Int, w.cell? ⟨b, off + j, none⟩ = some (.int .i64 z) ∧ -9223372036854775808 ≤ z ∧ z ≤ 9223372036854775807)
theorem DiceAt.below {B B' g : Nat} {w w' : World} (h : DiceAt B g w) (hb : Below B' w w') (hg : g < B') : DiceAt B g w' := by
  obtain ⟨h0, A, n, c, k, h1, h2, h3, h3', h4⟩ := h
  refine ⟨h0, A, n, c, k, (hb.block g hg).trans h1, h2, h3, h3', ?_⟩
  rcases h4 with h4 | ⟨b, off, hbB, e, hc⟩
  · exact .inl h4
  · refine .inr ⟨b, off, hbB, e, fun j hj => ?_⟩
    obtain ⟨z, g1, g2⟩ := hc j hj
    exact ⟨z, (hb.cell (p := ⟨b, off + j, none⟩) (by show b < B'; omega)).trans g1, g2⟩
theorem DiceAt.lt {B g : Nat} {w : World} (h : DiceAt B g w) : g < w.heap.size := by
  obtain ⟨_, A, n, c, k, h1, _⟩ := h
  rcases Nat.lt_or_ge g w.heap.size with hlt | hge
  · exact hlt
  · rw [Array.getElem?_eq_none hge] at h1; cases h1

theorem made_light (A : Option Addr) (n c : Nat) (w : World) (hn : n ≤ maxLen) :
    Calls Tryz.prog 13 #[.slice A n c] w fun e w' => e = .returned (.bool (decide (n ≤ 400))) ∧ w = w' := by
  unfold maxLen at hn
  by_cases h : n ≤ 400
  · go_enter Tryz.func13, Tryz.ntmps13
    go_wp2_with fail
    go_ret
    exact ⟨ret_bool (by simp; omega), rfl⟩
  · go_enter Tryz.func13, Tryz.ntmps13
    go_wp2_with fail
    go_ret
    exact ⟨ret_bool (by simp; omega), rfl⟩

theorem made_roll (A : Option Addr) (n c : Nat) (w : World) (hn : n ≤ 400) (hc : n ≤ c) (hl : ListAt w A n) :
    Calls Tryz.prog 14 #[.slice A n c] w fun e w' => e = .returned (.pointer (some ⟨w.heap.size, 0, none⟩)) ∧ DiceAt w.heap.size w.heap.size w' ∧ Below w.heap.size w w' := by
  go_enter Tryz.func14, Tryz.ntmps14
  go_wp2_with fail
  go_ret
  refine ⟨rfl, ⟨Nat.le_refl _, A, n, c, 0, ?_, by omega, hn, hc, ?_⟩, (Below.refl _ _).alloc (Nat.le_refl _) _⟩
  · exact heap_alloc_new w _
  · rcases hl with h | ⟨b, off, e, hcell⟩
    · exact .inl h
    · rcases Nat.eq_zero_or_pos n with h0 | h0
      · exact .inl h0
      · have hlt : b < w.heap.size := by
          obtain ⟨z, h1, _⟩ := hcell 0 h0
          exact World.block_lt_of_cell? _ _ h1
        refine .inr ⟨b, off, hlt, e, fun j hj => ?_⟩
        obtain ⟨z, h1, h2⟩ := hcell j hj
        exact ⟨z, cell_later ((Below.refl _ _).alloc (Nat.le_refl _) _) h1, h2⟩

set_option maxHeartbeats 400000 in
theorem made_mod (n m : Int) (w : World) (h1 : -9223372036854775808 ≤ n) (h2 : n ≤ 9223372036854775807) (h3 : 1 ≤ m) (h4 : m ≤ 9223372036854775807) :
    Calls Tryz.prog 25 #[.int .i64 n, .int .i64 m] w fun e w' => e = .returned (.int .i64 (n % m)) ∧ w = w' := by
  have b1 := Int.emod_nonneg n (b := m) (by omega)
  have b2 := Int.emod_lt_of_pos n (b := m) (by omega)
  by_cases h0 : 0 ≤ n
  · go_enter Tryz.func25, Tryz.ntmps25
    go_wp2
    go_ret
    exact ⟨rfl, rfl⟩
  · have e1 := Int.tmod_eq_emod (a := n) (b := m)
    have b5 := Int.neg_tmod (a := n) (b := m)
    have b6 := Int.tmod_nonneg (a := -n) m (by omega)
    have b7 := Int.tmod_lt_of_pos (-n) (b := m) (by omega)
    have b3 : n.tmod m ≤ 0 := by omega
    have b4 : -m < n.tmod m := by omega
    clear b5 b6 b7
    by_cases hz : n.tmod m < 0
    · have e2 : n.tmod m + m = n % m := by
        rw [e1]; split
        · rename_i hh; rcases hh with hh | hh
          · omega
          · have := Int.emod_eq_zero_of_dvd hh; rw [e1, if_pos (Or.inr hh)] at hz; omega
        · omega
      have E2 := Lib.hid e2; clear e2 e1
      go_enter Tryz.func25, Tryz.ntmps25
      go_wp2
      go_ret
      exact ⟨ret_i64 (by have := E2.out; omega), rfl⟩
    · have e2 : n.tmod m = n % m := by
        have e0 : n.tmod m = 0 := by omega
        have hd : m ∣ n := Int.dvd_of_tmod_eq_zero e0
        rw [e0, Int.emod_eq_zero_of_dvd hd]
      have E2 := Lib.hid e2; clear e2 e1
      go_enter Tryz.func25, Tryz.ntmps25
      go_wp2
      go_ret
      exact ⟨ret_i64 (by have := E2.out; omega), rfl⟩

/-- Next gives a number below m; nothing but block g has turned. -/
def NextPost (B g : Nat) (m : Int) (w : World) (e : Ending) (w' : World) : Prop := ∃ v : Int, 0 ≤ v ∧ v < m ∧ e = .returned (.int .i64 v) ∧ DiceAt B g w' ∧ w.grownBy w' (some g)
theorem grown_drewN {a w : World} {row : Option Nat} (h : a.grownBy w row) (n : Nat) : a.grownBy (w.drewN n) row := ⟨h.os, h.tape, h.output, h.size, h.block⟩
theorem grown_set {a w : World} {g : Nat} (h : a.grownBy w (some g)) {p : Addr} (hp : p.block = g) (u : Value) : a.grownBy (w.setCell p u) (some g) :=
  ⟨h.os, h.tape, h.output, by simpa [World.setCell] using h.size, fun i hi hne => (Below.heap_setCell w p u i (by rintro rfl; exact hne (by rw [hp]))).trans (h.block i hi hne)⟩

set_option maxHeartbeats 800000 in
theorem made_next (B g : Nat) (m : Int) (w : World) (hd : DiceAt B g w) (h1 : 1 ≤ m) (h2 : m ≤ 9223372036854775807) :
    Calls Tryz.prog 37 #[.pointer (some ⟨g, 0, none⟩), .int .i64 m] w (NextPost B g m w) := by
  have hd' := hd
  obtain ⟨h0, A, n, c, k, hb, hk, hn, hnc, hl⟩ := hd
  have c0 : w.cell? ⟨g, 0, none⟩ = some (.slice A n c) := cell_of_row w g 0 _ _ _ hb
  have c1 : w.cell? ⟨g, 1, none⟩ = some (.int .i64 (k : Int)) := cell_of_row w g 1 _ _ _ hb
  have f1 : w.frozen? ⟨g, 1, none⟩ = false := by simp [World.frozen?, hb]
  by_cases hlt : k < n
  · rcases hl with hl | ⟨b, off, hbB, rfl, hc⟩
    · omega
    obtain ⟨z, hz, z1, z2⟩ := hc k hlt
    have hne : b ≠ g := by omega
    have d1 : ∀ q, ((w.drewN q).setCell ⟨g, 1, none⟩ (.int .i64 ((k : Int) + 1))).cell? ⟨b, off + k, none⟩ = some (.int .i64 z) := fun q => by
      rw [World.cell?_setCell_other (w.drewN q) ⟨g, 1, none⟩ ⟨b, off + k, none⟩ _ (by intro e; injection e with e1 _; exact hne e1.symm)]; exact hz
    have d2 : ∀ q, ((w.drewN q).setCell ⟨g, 1, none⟩ (.int .i64 ((k : Int) + 1))).cell? ⟨g, 0, none⟩ = some (.slice (some ⟨b, off, none⟩) n c) := fun q => by
      rw [World.cell?_setCell_other (w.drewN q) ⟨g, 1, none⟩ ⟨g, 0, none⟩ _ (by intro e; injection e with _ e1; omega)]; exact c0
    have d3 : ∀ q, ((w.drewN q).setCell ⟨g, 1, none⟩ (.int .i64 ((k : Int) + 1))).cell? ⟨g, 1, none⟩ = some (.int .i64 ((k : Int) + 1)) := fun q =>
      World.cell?_setCell_same (w.drewN q) ⟨g, 1, none⟩ _ c1
    have hD : ∀ q, DiceAt B g ((w.drewN q).setCell ⟨g, 1, none⟩ (.int .i64 ((k : Int) + 1))) := fun q => by
      refine ⟨h0, some ⟨b, off, none⟩, n, c, k + 1, ?_, by omega, hn, hnc, .inr ⟨b, off, hbB, rfl, fun j hj => ?_⟩⟩
      · have := heap_setCell_same (w.drewN q) g 1 _ _ (.int .i64 ((k : Int) + 1)) hb
        simpa using this
      · obtain ⟨z', e1, e2⟩ := hc j hj
        refine ⟨z', ?_, e2⟩
        rw [World.cell?_setCell_other (w.drewN q) ⟨g, 1, none⟩ ⟨b, off + j, none⟩ _ (by intro e; injection e with e1 _; exact hne e1.symm)]
        exact e1
    have HD := Lib.hid hD
    have m1 := Int.emod_nonneg z (b := m) (by omega)
    have m2 := Int.emod_lt_of_pos z (b := m) (by omega)
    clear hD hd' hc hb hne
    go_enter Tryz.func37, Tryz.ntmps37
    go_wp2_with fail
    go_quiet (fail)
    go_wp2_with fail
    go_quiet ((go_at_call 25; exact quiet_any (made_mod _ _ _ z1 z2 h1 h2)))
    go_wp2_with fail
    go_ret
    exact ⟨z % m, m1, m2, rfl, HD.out _, grown_drewN (grown_set (grown_drewN (World.grownBy.refl _ _) _) rfl _) _⟩
  · have HD := Lib.hid hd'
    clear hd' hb hl
    go_enter Tryz.func37, Tryz.ntmps37
    go_wp2_with fail
    go_quiet (fail)
    go_wp2_with fail
    go_ret
    exact ⟨0, by omega, by omega, rfl, HD.out, grown_drewN (World.grownBy.refl _ _) _⟩
end Go.Proofs.YtafbhadfeemppaaGreatDoor
