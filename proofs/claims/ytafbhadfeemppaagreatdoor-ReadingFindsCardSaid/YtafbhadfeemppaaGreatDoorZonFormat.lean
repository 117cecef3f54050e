/- Chapter 11: the walk of format of the program. -/
import Derived.Test.YtafbhadfeemppaaGreatDoorZonParse
import Derived.Test.YtafbhadfeemppaaGreatDoorSrc
namespace Go.Proofs.YtafbhadfeemppaaGreatDoor
open Go.RowKit

/-- A row of texts that is read. -/
def TextsAt (w : World) (A : Option Addr) (K : List ByteArray) : Prop := Src w 1 A K.length (K.map .string)
theorem TextsAt.cell {w : World} {A : Option Addr} {K : List ByteArray} (h : TextsAt w A K) (i : Nat) (hi : i < K.length) : ∃ b off, A = some ⟨b, off, none⟩ ∧ w.cell? ⟨b, off + i, none⟩ = some (.string K[i]) := by
  rcases h.2 with h0 | ⟨b, off, e, hc⟩
  · omega
  · exact ⟨b, off, e, hc i _ (by rw [List.getElem?_map, List.getElem?_eq_getElem hi]; rfl)⟩
theorem TextsAt.later {w w' : World} {A : Option Addr} {K : List ByteArray} (h : TextsAt w A K) (hb : Below w.heap.size w w') : TextsAt w' A K := Src.later h hb
def txts (K : List ByteArray) : List (List UInt8) := K.map fun s => s.data.toList

theorem wide_fn (s : ByteArray) (g : Nat) (n : Int) (w : World) (hc : w.cell? ⟨g, 0, none⟩ = some (.int .i64 n)) :
    Calls Tryz.prog 87 #[.string s, .pointer (some ⟨g, 0, none⟩)] w fun e w' => e = .returned (.bool ((s.size : Int) != n)) ∧ w = w' := by
  obtain ⟨q, hq⟩ : ∃ q, ((s.size : Int) != n) = q := ⟨_, rfl⟩
  rw [hq]
  go_enter Tryz.func87, Tryz.ntmps87
  go_wp2_with fail
  go_ret
  exact ⟨rfl, rfl⟩
set_option maxRecDepth 100000 in
set_option maxHeartbeats 2000000 in
theorem index_wide (R : List ByteArray) (B : Option Addr) (d g : Nat) (n : Int) (w : World) (hg : w.cell? ⟨g, 0, none⟩ = some (.int .i64 n)) (hR : R.length ≤ 8796093022208) (hB : TextsAt w B R) :
    Calls Tryz.prog 113 #[.slice B R.length d, .func (.func 87) #[] #[.pointer (some ⟨g, 0, none⟩)]] w fun e w' => ∃ z : Int, e = .returned (.int .i64 z) ∧ ((0 ≤ z ∧ R.any (fun s => (s.size : Int) != n) = true) ∨ (z < 0 ∧ R.any (fun s => (s.size : Int) != n) = false)) ∧ w = w' := by
  have HF := Lib.hid (fun s => wide_fn s g n w hg)
  have HB := Lib.hid hB
  clear hg hB
  go_enter Tryz.func113, Tryz.ntmps113
  go_wp2_with fail
  go_loopw [8] (fun i wr => ∃ j : Nat, j ≤ R.length ∧ i = .int .i64 j ∧ (∀ m (h : m < j) (h1 : m < R.length), ((R[m].size : Int) != n) = false) ∧ w = wr) (fun i _ => R.length - (intOf i).toNat)
  case atStart => exact ⟨0, Nat.zero_le _, rfl, fun m h => absurd h (by omega), rfl⟩
  case round =>
    obtain ⟨j, hj, rfl, hz, rfl⟩ := hrel
    have HZ := Lib.hid hz; clear hz
    by_cases hlt : j < R.length
    · obtain ⟨b, off, rfl, e0⟩ := HB.out.cell j hlt
      have hi : (j : Int) < (R.length : Int) := by omega
      obtain ⟨s, hs⟩ : ∃ s, R[j]'hlt = s := ⟨_, rfl⟩
      have HLT := Lib.hid hlt
      have HSJ := Lib.hid hs
      rw [hs] at e0
      obtain ⟨q, hq⟩ : ∃ q, ((s.size : Int) != n) = q := ⟨_, rfl⟩
      have HQ := Lib.hid hq
      have HFS := Lib.hid (show Calls Tryz.prog 87 #[.string s, .pointer (some ⟨g, 0, none⟩)] w fun e w' => e = .returned (.bool q) ∧ w = w' by rw [← hq]; exact HF.out s)
      clear hq hs
      go_wp2_with fail
      refine HFS.out.mono ?_; rintro e w2 ⟨rfl, rfl⟩
      cases q
      · go_wp2_with fail
        go_roundw
        case rel =>
          refine ⟨j + 1, HLT.out, by go_num, fun m h g1 => ?_, by trivial⟩
          rcases Nat.lt_or_ge m j with g | g
          · exact HZ.out m g g1
          · obtain rfl : m = j := by omega
            rw [HSJ.out]; exact HQ.out
        case measure => have := HLT.out; simp [intOf]; omega
      · have HR := Lib.hid (show R.any (fun s => (s.size : Int) != n) = true from List.any_eq_true.2 ⟨R[j]'hlt, List.getElem_mem hlt, by rw [HSJ.out, HQ.out]⟩)
        go_wp2_with fail
        go_ret
        exact ⟨_, rfl, .inl ⟨by omega, HR.out⟩, rfl⟩
    · have hi : (R.length : Int) ≤ (j : Int) := by omega
      have HL := Lib.hid (show R.any (fun s => (s.size : Int) != n) = false from by
        rw [List.any_eq_false]
        intro x hx
        obtain ⟨m, hm, rfl⟩ := List.getElem_of_mem hx
        rw [HZ.out m (by omega) hm]; simp)
      go_wp2_with fail
      go_ret
      exact ⟨_, rfl, .inr ⟨by omega, HL.out⟩, rfl⟩
theorem contains_wide (R : List ByteArray) (B : Option Addr) (d g : Nat) (n : Int) (w : World) (hg : w.cell? ⟨g, 0, none⟩ = some (.int .i64 n)) (hR : R.length ≤ 8796093022208) (hB : TextsAt w B R) :
    Calls Tryz.prog 86 #[.slice B R.length d, .func (.func 87) #[] #[.pointer (some ⟨g, 0, none⟩)]] w fun e w' => e = .returned (.bool (R.any fun s => (s.size : Int) != n)) ∧ w = w' := by
  have HI := Lib.hid (index_wide R B d g n w hg hR hB)
  clear hg hB
  generalize (R.any fun s => (s.size : Int) != n) = q at HI ⊢
  go_enter Tryz.func86, Tryz.ntmps86
  go_wp2_with fail
  refine HI.out.mono ?_; rintro e w2 ⟨z, rfl, hz, rfl⟩
  rcases hz with ⟨hz, rfl⟩ | ⟨hz, rfl⟩
  · go_wp2_with fail
    go_ret
    exact ⟨rfl, rfl⟩
  · go_wp2_with fail
    go_ret
    exact ⟨ret_bool (decide_eq_false (by omega)), rfl⟩

theorem zlayout_f (f : Nat) (h : 1 ≤ f ∧ f ≤ 3) (w : World) : Calls Tryz.prog 52 #[.int .i64 f] w fun e w' => e = .returned (.tuple #[.agg (Zn.lay f), .int .i64 (Zn.nLines f), .int .i64 (Zn.wLine f)]) ∧ Below w.heap.size w w' := by
  have h3 : f = 1 ∨ f = 2 ∨ f = 3 := by omega
  rcases h3 with rfl | rfl | rfl
  · exact zlayout1 w
  · exact zlayout2 w
  · exact zlayout3 w
namespace Zn
theorem shape_hit {L : List (List UInt8)} (f : Nat) (hf : 1 ≤ f ∧ f ≤ 3) (hn : ∀ k, f < k → k ≤ 3 → ¬ Shaped k L) (h : Shaped f L) : shape L = f := by
  have h3 : f = 1 ∨ f = 2 ∨ f = 3 := by omega
  unfold shape
  rcases h3 with rfl | rfl | rfl
  · have n3 : ¬ (L.length = 2 ∧ ∀ l ∈ L, l.length = 44) := hn 3 (by omega) (by omega)
    have n2 : ¬ (L.length = 2 ∧ ∀ l ∈ L, l.length = 36) := hn 2 (by omega) (by omega)
    have n1 : L.length = 3 ∧ ∀ l ∈ L, l.length = 30 := h
    rw [if_neg n3, if_neg n2, if_pos n1]
  · have n3 : ¬ (L.length = 2 ∧ ∀ l ∈ L, l.length = 44) := hn 3 (by omega) (by omega)
    have n2 : L.length = 2 ∧ ∀ l ∈ L, l.length = 36 := h
    rw [if_neg n3, if_pos n2]
  · have n3 : L.length = 2 ∧ ∀ l ∈ L, l.length = 44 := h
    rw [if_pos n3]
theorem shape_none {L : List (List UInt8)} (hn : ∀ k, 1 ≤ k → k ≤ 3 → ¬ Shaped k L) : shape L = 0 := by
  have n3 : ¬ (L.length = 2 ∧ ∀ l ∈ L, l.length = 44) := hn 3 (by omega) (by omega)
  have n2 : ¬ (L.length = 2 ∧ ∀ l ∈ L, l.length = 36) := hn 2 (by omega) (by omega)
  have n1 : ¬ (L.length = 3 ∧ ∀ l ∈ L, l.length = 30) := hn 1 (by omega) (by omega)
  unfold shape
  rw [if_neg n3, if_neg n2, if_neg n1]
end Zn
theorem shaped_iff (f : Nat) (R : List ByteArray) : Zn.Shaped f (txts R) ↔ R.length = Zn.nLines f ∧ (R.any fun s => (s.size : Int) != (Zn.wLine f : Int)) = false := by
  unfold Zn.Shaped txts
  rw [List.length_map, List.any_eq_false]
  refine and_congr Iff.rfl ⟨fun h s hs => ?_, fun h l hl => ?_⟩
  · have := h _ (List.mem_map.2 ⟨s, hs, rfl⟩)
    rw [Opt.size_len] at this
    simp [this]
  · obtain ⟨s, hs, rfl⟩ := List.mem_map.1 hl
    have := h s hs
    rw [Opt.size_len]
    simp at this; omega
/-- A layout and a width, each in a new block. -/
theorem wl_new (w2 : World) (M : Array Value) (hM : M.size = 45) (h1 : M.all (·.oneCell') = true) :
    ∃ w3, Sem.run Tryz.prog (storeCells ⟨w2.heap.size, 0, none⟩ M.toList) ((w2.alloc (.cells #[.int .i64 0, .int .i64 0, .int .i64 0, .int .i64 0, .int .i64 0, .int .i64 0, .int .i64 0, .int .i64 0, .int .i64 0, .int .i64 0, .int .i64 0, .int .i64 0, .int .i64 0, .int .i64 0, .int .i64 0, .int .i64 0, .int .i64 0, .int .i64 0, .int .i64 0, .int .i64 0, .int .i64 0, .int .i64 0, .int .i64 0, .int .i64 0, .int .i64 0, .int .i64 0, .int .i64 0, .int .i64 0, .int .i64 0, .int .i64 0, .int .i64 0, .int .i64 0, .int .i64 0, .int .i64 0, .int .i64 0, .int .i64 0, .int .i64 0, .int .i64 0, .int .i64 0, .int .i64 0, .int .i64 0, .int .i64 0, .int .i64 0, .int .i64 0, .int .i64 0] 82)).alloc (.cells #[.int .i64 0] 3)) = .ok () w3 ∧ Below w2.heap.size w2 w3 ∧ w3.heap[w2.heap.size + 1]? = some (.cells #[.int .i64 0] 3 (0, 0)) := by
  have hl : LayAt (w2.alloc (.cells #[.int .i64 0, .int .i64 0, .int .i64 0, .int .i64 0, .int .i64 0, .int .i64 0, .int .i64 0, .int .i64 0, .int .i64 0, .int .i64 0, .int .i64 0, .int .i64 0, .int .i64 0, .int .i64 0, .int .i64 0, .int .i64 0, .int .i64 0, .int .i64 0, .int .i64 0, .int .i64 0, .int .i64 0, .int .i64 0, .int .i64 0, .int .i64 0, .int .i64 0, .int .i64 0, .int .i64 0, .int .i64 0, .int .i64 0, .int .i64 0, .int .i64 0, .int .i64 0, .int .i64 0, .int .i64 0, .int .i64 0, .int .i64 0, .int .i64 0, .int .i64 0, .int .i64 0, .int .i64 0, .int .i64 0, .int .i64 0, .int .i64 0, .int .i64 0, .int .i64 0] 82)) w2.heap.size Zn.lay0 := heap_alloc_new w2 _
  have hb3 := below_alloc1 w2 (.cells #[.int .i64 0, .int .i64 0, .int .i64 0, .int .i64 0, .int .i64 0, .int .i64 0, .int .i64 0, .int .i64 0, .int .i64 0, .int .i64 0, .int .i64 0, .int .i64 0, .int .i64 0, .int .i64 0, .int .i64 0, .int .i64 0, .int .i64 0, .int .i64 0, .int .i64 0, .int .i64 0, .int .i64 0, .int .i64 0, .int .i64 0, .int .i64 0, .int .i64 0, .int .i64 0, .int .i64 0, .int .i64 0, .int .i64 0, .int .i64 0, .int .i64 0, .int .i64 0, .int .i64 0, .int .i64 0, .int .i64 0, .int .i64 0, .int .i64 0, .int .i64 0, .int .i64 0, .int .i64 0, .int .i64 0, .int .i64 0, .int .i64 0, .int .i64 0, .int .i64 0] 82)
  have hb4 := below_alloc1 (w2.alloc (.cells #[.int .i64 0, .int .i64 0, .int .i64 0, .int .i64 0, .int .i64 0, .int .i64 0, .int .i64 0, .int .i64 0, .int .i64 0, .int .i64 0, .int .i64 0, .int .i64 0, .int .i64 0, .int .i64 0, .int .i64 0, .int .i64 0, .int .i64 0, .int .i64 0, .int .i64 0, .int .i64 0, .int .i64 0, .int .i64 0, .int .i64 0, .int .i64 0, .int .i64 0, .int .i64 0, .int .i64 0, .int .i64 0, .int .i64 0, .int .i64 0, .int .i64 0, .int .i64 0, .int .i64 0, .int .i64 0, .int .i64 0, .int .i64 0, .int .i64 0, .int .i64 0, .int .i64 0, .int .i64 0, .int .i64 0, .int .i64 0, .int .i64 0, .int .i64 0, .int .i64 0] 82)) (.cells #[.int .i64 0] 3)
  have hn := heap_alloc_new (w2.alloc (.cells #[.int .i64 0, .int .i64 0, .int .i64 0, .int .i64 0, .int .i64 0, .int .i64 0, .int .i64 0, .int .i64 0, .int .i64 0, .int .i64 0, .int .i64 0, .int .i64 0, .int .i64 0, .int .i64 0, .int .i64 0, .int .i64 0, .int .i64 0, .int .i64 0, .int .i64 0, .int .i64 0, .int .i64 0, .int .i64 0, .int .i64 0, .int .i64 0, .int .i64 0, .int .i64 0, .int .i64 0, .int .i64 0, .int .i64 0, .int .i64 0, .int .i64 0, .int .i64 0, .int .i64 0, .int .i64 0, .int .i64 0, .int .i64 0, .int .i64 0, .int .i64 0, .int .i64 0, .int .i64 0, .int .i64 0, .int .i64 0, .int .i64 0, .int .i64 0, .int .i64 0] 82)) (.cells #[.int .i64 0] 3)
  rw [size_alloc1] at hn
  refine ⟨_, store_lay _ w2.heap.size Zn.lay0 M (hl.later hb4) (by rw [hM]; rfl) h1, below_setRow2 (hb3.trans (hb4.mono hb3.size)) (Nat.le_refl _), ?_⟩
  unfold World.setRow
  rw [Array.getElem?_modify, if_neg (by omega)]
  exact hn
theorem below_cell1 {w w3 : World} {B g : Nat} {v : Value} (hb : Below B w w3) (hg : B ≤ g) : Below B w (w3.setCell ⟨g, 0, none⟩ v) := hb.setCell (p := ⟨g, 0, none⟩) hg v

set_option maxRecDepth 100000 in
set_option maxHeartbeats 4000000 in
theorem zformat (R : List ByteArray) (A : Option Addr) (c : Nat) (w : World) (hR : R.length ≤ 8796093022208) (hA : TextsAt w A R) :
    Calls Tryz.prog 51 #[.slice A R.length c] w fun e w' => e = .returned (.int .i64 (Zn.shape (txts R))) ∧ Below w.heap.size w w' := by
  have HA := Lib.hid hA
  have HLY := Lib.hid zlayout_f
  clear hA
  go_enter Tryz.func51, Tryz.ntmps51
  go_wp2_with fail
  have k0 : (w.alloc (.cells #[.int .i64 3, .int .i64 2, .int .i64 1] 3)).cell? ⟨w.heap.size, 0, none⟩ = some (.int .i64 3) := cell_new w _ _ 0
  have k1 : (w.alloc (.cells #[.int .i64 3, .int .i64 2, .int .i64 1] 3)).cell? ⟨w.heap.size, 1, none⟩ = some (.int .i64 2) := cell_new w _ _ 1
  have k2 : (w.alloc (.cells #[.int .i64 3, .int .i64 2, .int .i64 1] 3)).cell? ⟨w.heap.size, 2, none⟩ = some (.int .i64 1) := cell_new w _ _ 2
  have hb1 := below_alloc1 w (.cells #[.int .i64 3, .int .i64 2, .int .i64 1] 3)
  generalize w.alloc (.cells #[.int .i64 3, .int .i64 2, .int .i64 1] 3) = w1 at k0 k1 k2 hb1 ⊢
  have HST := Lib.hid (show w1.cell? ⟨w.heap.size, 0, none⟩ = some (.int .i64 3) ∧ w1.cell? ⟨w.heap.size, 1, none⟩ = some (.int .i64 2) ∧ w1.cell? ⟨w.heap.size, 2, none⟩ = some (.int .i64 1) ∧ Below w.heap.size w w1 from ⟨k0, k1, k2, hb1⟩)
  clear k0 k1 k2 hb1
  go_loopw [10] (fun i wr => ∃ k : Nat, k ≤ 3 ∧ i = .int .i64 k ∧ (∀ f, 3 - k < f → f ≤ 3 → ¬ Zn.Shaped f (txts R)) ∧ wr.cell? ⟨w.heap.size, 0, none⟩ = some (.int .i64 3) ∧ wr.cell? ⟨w.heap.size, 1, none⟩ = some (.int .i64 2) ∧ wr.cell? ⟨w.heap.size, 2, none⟩ = some (.int .i64 1) ∧ Below w.heap.size w wr) (fun i _ => 3 - (intOf i).toNat)
  case atStart => exact ⟨0, by omega, rfl, fun f h1 h2 => absurd h1 (by omega), HST.out⟩
  case round =>
    obtain ⟨k, hk, rfl, hno, hst⟩ := hrel
    have HNO := Lib.hid hno; have HS := Lib.hid hst
    clear hno hst
    by_cases hlt : k < 3
    · obtain ⟨f, hf⟩ : ∃ f, f = 3 - k := ⟨_, rfl⟩
      have hf1 : 1 ≤ f ∧ f ≤ 3 := by omega
      have hck : wr.cell? ⟨w.heap.size, k, none⟩ = some (.int .i64 f) := by
        have h3 : k = 0 ∨ k = 1 ∨ k = 2 := by omega
        obtain ⟨a, b, c', _⟩ := HS.out
        rcases h3 with rfl | rfl | rfl
        · subst hf; exact a
        · subst hf; exact b
        · subst hf; exact c'
      have HF := Lib.hid hf
      have HF1 := Lib.hid hf1
      clear hf hf1
      go_wp2_with fail
      refine (HLY.out f HF1.out _).mono ?_; rintro e w2 ⟨rfl, hb2⟩
      obtain ⟨w3, hst, hb3, hc3⟩ := wl_new w2 (Zn.lay f) (Zn.lay_size f) (Zn.lay_one f)
      have hcell := cell_of_row w3 (w2.heap.size + 1) 0 _ _ _ hc3
      have hfr := frozen_of_row w3 (w2.heap.size + 1) 0 _ _ hc3
      have hB4 := below_cell1 (g := w2.heap.size + 1) (v := .int .i64 (Zn.wLine f)) hb3 (Nat.le_succ _)
      have hc4 : (w3.setCell ⟨w2.heap.size + 1, 0, none⟩ (.int .i64 (Zn.wLine f))).cell? ⟨w2.heap.size + 1, 0, none⟩ = some (.int .i64 (Zn.wLine f)) := World.cell?_setCell_same _ _ _ hcell
      have HB4 := Lib.hid hB4
      have HC4 := Lib.hid hc4
      have HB2 := Lib.hid hb2
      have hsz := Zn.lay_size f
      clear hB4 hc4 hb3 hc3 hb2
      have HBR := Lib.hid (HB2.out.trans (HB4.out.mono HB2.out.size))
      have HAW := Lib.hid (HA.out.later (HS.out.2.2.2.trans (HBR.out.mono HS.out.2.2.2.size)))
      have e1 : ((R.length : Int) == (Zn.nLines f : Int)) = decide (R.length = Zn.nLines f) := by rw [Bool.eq_iff_iff, beq_iff_eq, decide_eq_true_eq]; omega
      by_cases hq : R.length = Zn.nLines f
      · rw [decide_eq_true hq] at e1
        have HCW := Lib.hid (contains_wide R A c (w2.heap.size + 1) (Zn.wLine f) _ HC4.out hR HAW.out)
        have HSI := Lib.hid (shaped_iff f R)
        have HQ := Lib.hid hq
        clear hq
        go_upto_region 5 with fail
        generalize hany : (R.any fun s => (s.size : Int) != (Zn.wLine f : Int)) = q at HCW HSI
        clear hany
        go_wp2_with fail
        refine HCW.out.mono ?_; rintro e w5 ⟨rfl, rfl⟩
        cases q
        · have HR := Lib.hid (Zn.shape_hit f HF1.out (fun m h1 h2 => HNO.out m (by have := HF.out; omega) h2) (HSI.out.2 ⟨HQ.out, rfl⟩))
          go_wp2_with fail
          go_ret
          exact ⟨by rw [HR.out]; rfl, HS.out.2.2.2.trans (HBR.out.mono HS.out.2.2.2.size)⟩
        · have HSHF := Lib.hid (show ¬ Zn.Shaped f (txts R) from fun h => by have := (HSI.out.1 h).2; cases this)
          go_wp2_with fail
          have hbr := HBR.out
          go_roundw
          case rel =>
            refine ⟨k + 1, by omega, by go_num, fun m h1 h2 => ?_, cell_later hbr HS.out.1, cell_later hbr HS.out.2.1, cell_later hbr HS.out.2.2.1, HS.out.2.2.2.trans (hbr.mono HS.out.2.2.2.size)⟩
            rcases Nat.lt_or_ge (3 - k) m with g | g
            · exact HNO.out m g h2
            · obtain rfl : m = f := by have := HF.out; omega
              exact HSHF.out
          case measure => simp [intOf]; omega
      · rw [decide_eq_false hq] at e1
        have HSHF := Lib.hid (show ¬ Zn.Shaped f (txts R) from fun h => hq ((shaped_iff f R).1 h).1)
        clear hq
        go_wp2_with fail
        have hbr := HBR.out
        go_roundw
        case rel =>
          refine ⟨k + 1, by omega, by go_num, fun m h1 h2 => ?_, cell_later hbr HS.out.1, cell_later hbr HS.out.2.1, cell_later hbr HS.out.2.2.1, HS.out.2.2.2.trans (hbr.mono HS.out.2.2.2.size)⟩
          rcases Nat.lt_or_ge (3 - k) m with g | g
          · exact HNO.out m g h2
          · obtain rfl : m = f := by have := HF.out; omega
            exact HSHF.out
        case measure => simp [intOf]; omega
    · have HR := Lib.hid (Zn.shape_none (L := txts R) fun m h1 h2 => HNO.out m (by omega) h2)
      go_wp2_with fail
      go_ret
      exact ⟨by rw [HR.out]; rfl, HS.out.2.2.2⟩
end Go.Proofs.YtafbhadfeemppaaGreatDoor
