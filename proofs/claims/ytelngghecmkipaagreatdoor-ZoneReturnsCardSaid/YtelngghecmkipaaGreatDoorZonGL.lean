/- Chapter 11: several texts in one (ZonLaw0, ZonAwake). -/
import Derived.Test.YtelngghecmkipaaGreatDoorTake
import Derived.Test.YtelngghecmkipaaGreatDoorZonParseW
import Derived.Test.YtelngghecmkipaaGreatDoorRows
import Derived.Lib.LaidTab
import Derived.MakeChecks
import Derived.ProofKit
import Derived.OpenShut
import Derived.Shelf.Vars
import Derived.SliceStrings
import Derived.SizedLaws
import Derived.Test.YtelngghecmkipaaGreatDoorZonBuild
import Derived.Test.YtelngghecmkipaaGreatDoorZonGM
namespace Go.Proofs.YtelngghecmkipaaGreatDoor
open Go.RowKit Go.ChangeShapes Go.WideShapes

/-- What the world's shape says of the library's variable. -/
theorem Opt.lax_of {W : World} (h : W.ShapedOpen Tryz.prog) : Opt.Lax W := Tryz.laysM145.s1_3 W h
/-- What the row's condition says of the table. -/
theorem Dat.at_of {W : World} (h : laidMetH Tryz.prog Rows.zoneParsesRow.laid W) : Dat.At W := by
  rw [MakeChecks.laidMetH_plain _ _ _ (by kernel_rfl)] at h
  have hg : Tryz.prog.globalNamed "traveldoc/dates.lengths" = some 0 := by kernel_rfl
  have h1 := Lib.tabIs_of_head (P := Tryz.prog) (name := "traveldoc/dates.lengths") (k := .i64) (zs := [31, 28, 31, 30, 31, 30, 31, 31, 30, 31, 30, 31]) (rest := [("unicode/utf8.acceptRanges", Rows.laid_unicode_utf8_acceptRanges), ("unicode/utf8.first", Rows.laid_unicode_utf8_first)]) hg (t := 137) (by kernel_rfl) Tryz.underlying137 Tryz.underlying3 (by kernel_rfl) (by kernel_rfl) h
  intro i hi
  exact h1.cell hg i hi
theorem weightsAll_in {H : Type} {P : Program} {e : TypeId} {n : Nat} : ∀ {ds : List (DataW H)} {d : DataW H}, d ∈ ds → n ∈ d.weights P e → n ∈ DataW.weightsAll P e ds
  | d0 :: r, d, hd, hn => by
    simp only [DataW.weightsAll, List.mem_append]
    rcases List.mem_cons.1 hd with rfl | h
    · exact Or.inl hn
    · exact Or.inr (weightsAll_in h hn)
/-- The form's reach, of a string inside a slice of strings. -/
theorem sized_text {H : Type} {P : Program} {ts : List TypeId} {ds : List (DataW H)} (h : (DataW.weightsEach P ts ds).all (· ≤ reachBytes) = true) {j : Nat} {t e : TypeId} {elems spare : List (DataW H)} {bytes : List UInt8}
    (ht : ts[j]? = some t) (hd : ds[j]? = some (.slice elems spare)) (hu : P.underlying t = some (.slice e)) (hx : DataW.lit (.string bytes) ∈ elems) : bytes.length ≤ reachBytes := by
  refine of_decide_eq_true (List.all_eq_true.1 h _ (DataW.weights_mem_each ht hd _ ?_))
  simp only [DataW.weights, hu, List.mem_cons, List.mem_append]
  exact Or.inr (Or.inl (weightsAll_in hx (by simp [DataW.weights])))
theorem reach_is : reachBytes = 140737488351232 := by decide
set_option maxRecDepth 100000 in
/-- An argument of the type []string, opened. -/
theorem open_texts {H : Type} {enc : TypeId × Value → H} {w : World} {b0 : Nat} {v : Value} {d : DataW H} {p : List MemPlace} {r : Reach} {ts : List TypeId} {ds : List (DataW H)} {j : Nat}
    (hv : Value.okWide Tryz.prog w r b0 22 v) (h : DataW.Trod enc Tryz.prog w 0 (fun _ => true) true 22 v d p)
    (hsz : (DataW.weightsEach Tryz.prog ts ds).all (· ≤ reachBytes) = true) (ht : ts[j]? = some 22) (hd : ds[j]? = some d) :
    ∃ (A : Option Addr) (R : List ByteArray) (c : Nat), v = .slice A R.length c ∧ R.length ≤ c ∧ R.length ≤ 8796093022208 ∧ TextsAt w A R ∧ ∀ s ∈ R, s.size ≤ 140737488351232 := by
  obtain ⟨a0, len, cap, rfl⟩ := okWide_slice Tryz.underlying22 hv
  obtain ⟨fuel, hf⟩ := h
  rcases open_strings Tryz.underlying22 Tryz.underlying9 (by kernel_rfl) hf with ⟨hcs, _⟩ | ⟨x, l, c, ss, hcs, _, hl, hm, hz, hx, hcell, hwz⟩
  · simp [Value.cells] at hcs
    obtain ⟨rfl, rfl, rfl⟩ := hcs
    exact ⟨none, [], 0, rfl, Nat.le_refl _, Nat.zero_le _, ⟨by simp, .inl rfl⟩, fun s hs => by cases hs⟩
  · simp [Value.cells] at hcs
    obtain ⟨rfl, rfl, rfl⟩ := hcs
    injection hx with hx1 hx2
    subst hx1
    have hz' : ss.length = cap := by simpa using hz
    have hlt : (ss.take len).length = len := by rw [List.length_take]; omega
    have hb := sized_slice hsz ht hd Tryz.underlying22
    have hbo : Tryz.prog.bytesOf 9 = 16 := by kernel_rfl
    rw [hbo, reach_is] at hb
    simp only [strs, List.length_map, List.length_take, List.length_drop] at hb
    refine ⟨some x, ss.take len, cap, by rw [hlt], by rw [hlt]; exact hl, by rw [hlt]; omega, ⟨by simp, ?_⟩, fun s hs => ?_⟩
    · rcases Nat.eq_zero_or_pos len with h0 | h0
      · left; rw [h0]; simp
      · obtain ⟨b, off, spot⟩ := x
        have hspot : spot = none := by simpa [Addr.add] using World.cell?_spot (hcell 0 (by omega))
        subst hspot
        refine .inr ⟨b, off, rfl, fun i u hu => ?_⟩
        rw [List.getElem?_map, List.getElem?_take] at hu
        split at hu
        · have h2 := hcell i (by omega)
          rw [Go.WideShapes.add_plain] at h2
          rw [h2]
          rw [List.getElem?_eq_getElem (by omega)] at hu
          simp only [Option.map_some] at hu
          rw [List.getD_eq_getElem?_getD, List.getElem?_eq_getElem (by omega)]
          exact hu
        · cases hu
    · have h1 := sized_text (bytes := s.data.toList) hsz ht hd Tryz.underlying22 (by unfold strs; exact List.mem_map.2 ⟨s, hs, rfl⟩)
      rw [reach_is, Opt.size_len] at h1
      exact h1
end Go.Proofs.YtelngghecmkipaaGreatDoor

namespace Go.Proofs.YtelngghecmkipaaGreatDoor
open Go.RowKit

theorem texts_new11 (w : World) (ts : List ByteArray) : TextsAt (w.alloc (.cells (ts.map Value.string).toArray 9)) (some ⟨w.heap.size, 0, none⟩) ts := by
  refine ⟨by simp, .inr ⟨_, 0, rfl, fun j u hu => ?_⟩⟩
  have h := heap_alloc_new w (.cells (ts.map Value.string).toArray 9)
  rw [Nat.zero_add]
  unfold World.cell?
  rw [h]
  simpa using hu
theorem zone_same (z : Zn.Z) (w : World) : Sem.run Tryz.prog (binOp .eql 24 z.val z.val) w = .ok (.bool true) w := by
  unfold Zn.Z.val
  go_simp
set_option maxRecDepth 100000 in
theorem zsample (w : World) : Calls Tryz.prog 40 #[] w fun e w' => e = .returned Zn.smp.val ∧ Below w.heap.size w w' := by
  go_enter Tryz.func40, Tryz.ntmps40
  go_wp2_with fail
  refine bodyPost_ret (v := Zn.smp.val) (by simp [results, Tryz.results40, go_sem]; rfl) rfl ⟨rfl, ?_⟩
  exact (Below.refl _ _).alloc (Nat.le_refl _) _
/-- A row of two texts that the call owns, read. -/
theorem own_two {w : World} {base : Nat} {v : Value} {x y : Value} (h : w.ownsRow base 9 1 v 2 [x, y]) : ∃ b c, v = .slice (some ⟨b, 0, none⟩) 2 c ∧ w.cell? ⟨b, 0, none⟩ = some x ∧ w.cell? ⟨b, 1, none⟩ = some y := by
  obtain ⟨b, c, rfl⟩ := own_some h
  exact ⟨b, c, rfl, h.cellAt 0 (by decide), h.cellAt 1 (by decide)⟩
set_option maxRecDepth 100000 in
set_option maxHeartbeats 4000000 in
theorem zawake (w : World) (hd : Dat.At w) (hx : Opt.Lax w) : Calls Tryz.prog 12 #[] w fun e w' => e = .returned (.bool true) ∧ Below w.heap.size w w' := by
  have HDX := Lib.hid (And.intro hd hx)
  have HB := Lib.hid (fun W (h1 : Dat.At W) (h2 : Opt.Lax W) => zbuild Zn.smp W (by unfold Zn.Z.fits; decide) h1 h2 (by decide))
  have HP := Lib.hid (show ∀ W A, TextsAt W A [Zn.smp0, Zn.smp1] → Dat.At W → Opt.Lax W → Calls Tryz.prog 10 #[.slice A 2 2] W fun e w' => e = .returned (.tuple #[.agg #[.int .i64 3, .string ⟨#[80]⟩, .string ⟨#[85, 84, 79]⟩, .string ⟨#[69, 82, 73, 75, 83, 83, 79, 78]⟩, .string ⟨#[65, 78, 78, 65, 32, 77, 65, 82, 73, 65]⟩, .string ⟨#[76, 56, 57, 56, 57, 48, 50, 67]⟩, .string ⟨#[85, 84, 79]⟩, .string ⟨#[54, 57, 48, 56, 48, 54]⟩, .string ⟨#[70]⟩, .string ⟨#[57, 52, 48, 54, 50, 51]⟩, .string ⟨#[90, 69, 49, 56, 52, 50, 50, 54, 66]⟩, .string ⟨#[]⟩], .int .i64 0]) ∧ Below W.heap.size W w' from fun W A h1 h2 h3 => by
    have h := zparse [Zn.smp0, Zn.smp1] A 2 W (by decide) (by decide) h1 h2 h3
    rw [Zn.smp_prsV, Zn.smp_prsE] at h
    exact h)
  have HS := Lib.hid zsample
  have HS2 := Lib.hid (show ∀ W, Calls Tryz.prog 40 #[] W fun e w' => e = .returned (.agg #[.int .i64 3, .string ⟨#[80]⟩, .string ⟨#[85, 84, 79]⟩, .string ⟨#[69, 82, 73, 75, 83, 83, 79, 78]⟩, .string ⟨#[65, 78, 78, 65, 32, 77, 65, 82, 73, 65]⟩, .string ⟨#[76, 56, 57, 56, 57, 48, 50, 67]⟩, .string ⟨#[85, 84, 79]⟩, .string ⟨#[54, 57, 48, 56, 48, 54]⟩, .string ⟨#[70]⟩, .string ⟨#[57, 52, 48, 54, 50, 51]⟩, .string ⟨#[90, 69, 49, 56, 52, 50, 50, 54, 66]⟩, .string ⟨#[]⟩]) ∧ Below W.heap.size W w' from zsample)
  obtain ⟨SV, hSV⟩ : ∃ q, Zn.smp.val = q := ⟨_, rfl⟩
  rw [hSV] at HS HB
  have HSV := Lib.hid hSV
  clear hd hx hSV
  go_enter Tryz.func12, Tryz.ntmps12
  go_wp2_with fail
  refine (HS.out _).mono ?_; rintro e w1 ⟨rfl, hb1⟩
  have HB1 := Lib.hid hb1; clear hb1
  go_wp2_with fail
  refine (HB.out _ (HDX.out.1.below HB1.out) (HDX.out.2.below HB1.out)).mono ?_; rintro e w2 ⟨v, rfl, _, hown, hb2⟩
  have ho := hown Zn.smp_vld
  rw [Zn.smp_bld] at ho
  rw [Zn.smp_vld]
  obtain ⟨b, c, rfl, hc0, hc1⟩ := own_two ho
  have HB2 := Lib.hid (HB1.out.trans (hb2.mono HB1.out.size))
  have HC1 := Lib.hid hc1
  clear hown ho hb2 hc0 hc1
  go_wp2_with fail
  have ht := texts_new11 w2 [Zn.smp0, Zn.smp1]
  have hba := below_alloc1 w2 (.cells ([Zn.smp0, Zn.smp1].map Value.string).toArray 9)
  have HB3 := Lib.hid (HB2.out.trans (hba.mono HB2.out.size))
  refine (HP.out _ _ ht (HDX.out.1.below HB3.out) (HDX.out.2.below HB3.out)).mono ?_; rintro e w3 ⟨rfl, hb3⟩
  have HC3 := Lib.hid (cell_later hb3 (cell_later hba HC1.out))
  have HB4 := Lib.hid (HB3.out.trans (hb3.mono HB3.out.size))
  clear ht hba hb3
  go_upto_region 3 with fail
  have hb4 := below_alloc1 w3 (.cells #[.int .i64 3, .string ⟨#[80]⟩, .string ⟨#[85, 84, 79]⟩, .string ⟨#[69, 82, 73, 75, 83, 83, 79, 78]⟩, .string ⟨#[65, 78, 78, 65, 32, 77, 65, 82, 73, 65]⟩, .string ⟨#[76, 56, 57, 56, 57, 48, 50, 67]⟩, .string ⟨#[85, 84, 79]⟩, .string ⟨#[54, 57, 48, 56, 48, 54]⟩, .string ⟨#[70]⟩, .string ⟨#[57, 52, 48, 54, 50, 51]⟩, .string ⟨#[90, 69, 49, 56, 52, 50, 50, 54, 66]⟩, .string ⟨#[]⟩] 24)
  have hbx : ZBox (w3.alloc (.cells #[.int .i64 3, .string ⟨#[80]⟩, .string ⟨#[85, 84, 79]⟩, .string ⟨#[69, 82, 73, 75, 83, 83, 79, 78]⟩, .string ⟨#[65, 78, 78, 65, 32, 77, 65, 82, 73, 65]⟩, .string ⟨#[76, 56, 57, 56, 57, 48, 50, 67]⟩, .string ⟨#[85, 84, 79]⟩, .string ⟨#[54, 57, 48, 56, 48, 54]⟩, .string ⟨#[70]⟩, .string ⟨#[57, 52, 48, 54, 50, 51]⟩, .string ⟨#[90, 69, 49, 56, 52, 50, 50, 54, 66]⟩, .string ⟨#[]⟩] 24)) w3.heap.size Zn.smp := ZBox.new w3 Zn.smp
  have k0 := cell_later hb4 HC3.out
  generalize w3.alloc (.cells #[.int .i64 3, .string ⟨#[80]⟩, .string ⟨#[85, 84, 79]⟩, .string ⟨#[69, 82, 73, 75, 83, 83, 79, 78]⟩, .string ⟨#[65, 78, 78, 65, 32, 77, 65, 82, 73, 65]⟩, .string ⟨#[76, 56, 57, 56, 57, 48, 50, 67]⟩, .string ⟨#[85, 84, 79]⟩, .string ⟨#[54, 57, 48, 56, 48, 54]⟩, .string ⟨#[70]⟩, .string ⟨#[57, 52, 48, 54, 50, 51]⟩, .string ⟨#[90, 69, 49, 56, 52, 50, 50, 54, 66]⟩, .string ⟨#[]⟩] 24) = w4 at hb4 hbx k0 ⊢
  have HB6 := Lib.hid (HB4.out.trans (hb4.mono HB4.out.size))
  obtain ⟨g, hg⟩ : ∃ q, w3.heap.size = q := ⟨_, rfl⟩
  rw [hg] at hbx ⊢
  have hks : w4.cell? ⟨g, 0, none⟩ = some (.int .i64 3) ∧ w4.cell? ⟨g, 1, none⟩ = some (.string ⟨#[80]⟩) ∧ w4.cell? ⟨g, 2, none⟩ = some (.string ⟨#[85, 84, 79]⟩) ∧ w4.cell? ⟨g, 3, none⟩ = some (.string ⟨#[69, 82, 73, 75, 83, 83, 79, 78]⟩) ∧ w4.cell? ⟨g, 4, none⟩ = some (.string ⟨#[65, 78, 78, 65, 32, 77, 65, 82, 73, 65]⟩) ∧ w4.cell? ⟨g, 5, none⟩ = some (.string ⟨#[76, 56, 57, 56, 57, 48, 50, 67]⟩) ∧ w4.cell? ⟨g, 6, none⟩ = some (.string ⟨#[85, 84, 79]⟩) ∧ w4.cell? ⟨g, 7, none⟩ = some (.string ⟨#[54, 57, 48, 56, 48, 54]⟩) ∧ w4.cell? ⟨g, 8, none⟩ = some (.string ⟨#[70]⟩) ∧ w4.cell? ⟨g, 9, none⟩ = some (.string ⟨#[57, 52, 48, 54, 50, 51]⟩) ∧ w4.cell? ⟨g, 10, none⟩ = some (.string ⟨#[90, 69, 49, 56, 52, 50, 50, 54, 66]⟩) ∧ w4.cell? ⟨g, 11, none⟩ = some (.string ⟨#[]⟩) := hbx.cells
  obtain ⟨k1, k2, k3, k4, k5, k6, k7, k8, k9, k10, k11, k12⟩ := hks
  clear hb4 hbx hg
  (refine wp_region_held_drew (S := (fun W => W.cell? ⟨b, 1, none⟩ = some (.string ⟨#[76, 56, 57, 56, 57, 48, 50, 67, 60, 51, 85, 84, 79, 54, 57, 48, 56, 48, 54, 49, 70, 57, 52, 48, 54, 50, 51, 54, 90, 69, 49, 56, 52, 50, 50, 54, 66, 60, 60, 60, 60, 60, 49, 52]⟩) ∧ W.cell? ⟨g, 0, none⟩ = some (.int .i64 3) ∧ W.cell? ⟨g, 1, none⟩ = some (.string ⟨#[80]⟩) ∧ W.cell? ⟨g, 2, none⟩ = some (.string ⟨#[85, 84, 79]⟩) ∧ W.cell? ⟨g, 3, none⟩ = some (.string ⟨#[69, 82, 73, 75, 83, 83, 79, 78]⟩) ∧ W.cell? ⟨g, 4, none⟩ = some (.string ⟨#[65, 78, 78, 65, 32, 77, 65, 82, 73, 65]⟩) ∧ W.cell? ⟨g, 5, none⟩ = some (.string ⟨#[76, 56, 57, 56, 57, 48, 50, 67]⟩) ∧ W.cell? ⟨g, 6, none⟩ = some (.string ⟨#[85, 84, 79]⟩) ∧ W.cell? ⟨g, 7, none⟩ = some (.string ⟨#[54, 57, 48, 56, 48, 54]⟩) ∧ W.cell? ⟨g, 8, none⟩ = some (.string ⟨#[70]⟩) ∧ W.cell? ⟨g, 9, none⟩ = some (.string ⟨#[57, 52, 48, 54, 50, 51]⟩) ∧ W.cell? ⟨g, 10, none⟩ = some (.string ⟨#[90, 69, 49, 56, 52, 50, 50, 54, 66]⟩) ∧ W.cell? ⟨g, 11, none⟩ = some (.string ⟨#[]⟩))) (by kernel_rfl) (show _ ∧ _ ∧ _ ∧ _ ∧ _ ∧ _ ∧ _ ∧ _ ∧ _ ∧ _ ∧ _ ∧ _ ∧ _ from ⟨k0, k1, k2, k3, k4, k5, k6, k7, k8, k9, k10, k11, k12⟩) (fun hHeld => ?_))
  ((refine tkI 0 ?_ (hy := ?_) (h := ?_); rotate_left 1; · (intro w hSw; (try dsimp only at hSw); go_simp; (try with_reducible rfl))); (try simp only [Act.put, List.setIfInBounds_toArray, List.set_cons_zero, List.set_cons_succ]))
  ((refine tkI 1 ?_ (hy := ?_) (h := ?_); rotate_left 1; · (intro w hSw; (try dsimp only at hSw); go_simp; (try with_reducible rfl))); (try simp only [Act.put, List.setIfInBounds_toArray, List.set_cons_zero, List.set_cons_succ]))
  ((refine tkI 2 ?_ (hy := ?_) (h := ?_); rotate_left 1; · (intro w hSw; (try dsimp only at hSw); go_simp; (try with_reducible rfl))); (try simp only [Act.put, List.setIfInBounds_toArray, List.set_cons_zero, List.set_cons_succ]))
  ((refine tkI 3 ?_ (hy := ?_) (h := ?_); rotate_left 1; · (intro w hSw; (try dsimp only at hSw); go_simp; (try with_reducible rfl))); (try simp only [Act.put, List.setIfInBounds_toArray, List.set_cons_zero, List.set_cons_succ]))
  ((refine tkI 4 ?_ (hy := ?_) (h := ?_); rotate_left 1; · (intro w hSw; (try dsimp only at hSw); go_simp; (try with_reducible rfl))); (try simp only [Act.put, List.setIfInBounds_toArray, List.set_cons_zero, List.set_cons_succ]))
  ((refine tkI 5 ?_ (hy := ?_) (h := ?_); rotate_left 1; · (intro w hSw; (try dsimp only at hSw); go_simp; (try with_reducible rfl))); (try simp only [Act.put, List.setIfInBounds_toArray, List.set_cons_zero, List.set_cons_succ]))
  ((refine tkI 6 ?_ (hy := ?_) (h := ?_); rotate_left 1; · (intro w hSw; (try dsimp only at hSw); go_simp; (try with_reducible rfl))); (try simp only [Act.put, List.setIfInBounds_toArray, List.set_cons_zero, List.set_cons_succ]))
  ((refine tkI 7 ?_ (hy := ?_) (h := ?_); rotate_left 1; · (intro w hSw; (try dsimp only at hSw); go_simp; (try with_reducible rfl))); (try simp only [Act.put, List.setIfInBounds_toArray, List.set_cons_zero, List.set_cons_succ]))
  ((refine tkI 8 ?_ (hy := ?_) (h := ?_); rotate_left 1; · (intro w hSw; (try dsimp only at hSw); go_simp; (try with_reducible rfl))); (try simp only [Act.put, List.setIfInBounds_toArray, List.set_cons_zero, List.set_cons_succ]))
  ((refine tkI 9 ?_ (hy := ?_) (h := ?_); rotate_left 1; · (intro w hSw; (try dsimp only at hSw); go_simp; (try with_reducible rfl))); (try simp only [Act.put, List.setIfInBounds_toArray, List.set_cons_zero, List.set_cons_succ]))
  ((refine tkI 10 ?_ (hy := ?_) (h := ?_); rotate_left 1; · (intro w hSw; (try dsimp only at hSw); go_simp; (try with_reducible rfl))); (try simp only [Act.put, List.setIfInBounds_toArray, List.set_cons_zero, List.set_cons_succ]))
  ((refine tkI 11 ?_ (hy := ?_) (h := ?_); rotate_left 1; · (intro w hSw; (try dsimp only at hSw); go_simp; (try with_reducible rfl))); (try simp only [Act.put, List.setIfInBounds_toArray, List.set_cons_zero, List.set_cons_succ]))
  ((refine tkI 12 ?_ (hy := ?_) (h := ?_); rotate_left 1; · (intro w hSw; (try dsimp only at hSw); go_simp; (try with_reducible rfl))); (try simp only [Act.put, List.setIfInBounds_toArray, List.set_cons_zero, List.set_cons_succ]))
  ((refine tkI 13 ?_ (hy := ?_) (h := ?_); rotate_left 1; · (intro w hSw; (try dsimp only at hSw); go_simp; (try with_reducible rfl))); (try simp only [Act.put, List.setIfInBounds_toArray, List.set_cons_zero, List.set_cons_succ]))
  ((refine tkI 14 ?_ (hy := ?_) (h := ?_); rotate_left 1; · (intro w hSw; (try dsimp only at hSw); go_simp; (try with_reducible rfl))); (try simp only [Act.put, List.setIfInBounds_toArray, List.set_cons_zero, List.set_cons_succ]))
  ((refine tkI 15 ?_ (hy := ?_) (h := ?_); rotate_left 1; · (intro w hSw; (try dsimp only at hSw); go_simp; (try with_reducible rfl))); (try simp only [Act.put, List.setIfInBounds_toArray, List.set_cons_zero, List.set_cons_succ]))
  ((refine tkI 16 ?_ (hy := ?_) (h := ?_); rotate_left 1; · (intro w hSw; (try dsimp only at hSw); go_simp; (try with_reducible rfl))); (try simp only [Act.put, List.setIfInBounds_toArray, List.set_cons_zero, List.set_cons_succ]))
  ((refine tkI 17 ?_ (hy := ?_) (h := ?_); rotate_left 1; · (intro w hSw; (try dsimp only at hSw); go_simp; (try with_reducible rfl))); (try simp only [Act.put, List.setIfInBounds_toArray, List.set_cons_zero, List.set_cons_succ]))
  ((refine tkI 18 ?_ (hy := ?_) (h := ?_); rotate_left 1; · (intro w hSw; (try dsimp only at hSw); go_simp; (try with_reducible rfl))); (try simp only [Act.put, List.setIfInBounds_toArray, List.set_cons_zero, List.set_cons_succ]))
  (refine wpAnyH_ready (rs := [19]) (by kernel_rfl) (by simp) ?_; refine AllReadyH.cons (by simp only [List.getElem?_toArray, List.getElem?_cons_succ, List.getElem?_cons_zero]; rfl) (fun K hK => ?_) AllReadyH.nil; go_simp; go_at_call 40; refine (HS2.out _).mono ?_; rintro e w5 ⟨rfl, hb4⟩; have HB5 := Lib.hid hb4; refine hK.out _ _ (⟨cell_later hb4 hHeld.1, cell_later hb4 hHeld.2.1, cell_later hb4 hHeld.2.2.1, cell_later hb4 hHeld.2.2.2.1, cell_later hb4 hHeld.2.2.2.2.1, cell_later hb4 hHeld.2.2.2.2.2.1, cell_later hb4 hHeld.2.2.2.2.2.2.1, cell_later hb4 hHeld.2.2.2.2.2.2.2.1, cell_later hb4 hHeld.2.2.2.2.2.2.2.2.1, cell_later hb4 hHeld.2.2.2.2.2.2.2.2.2.1, cell_later hb4 hHeld.2.2.2.2.2.2.2.2.2.2.1, cell_later hb4 hHeld.2.2.2.2.2.2.2.2.2.2.2.1, cell_later hb4 hHeld.2.2.2.2.2.2.2.2.2.2.2.2⟩) (fun hHeld => ?_); clear hK K; (try simp only [Act.put, List.setIfInBounds_toArray, List.set_cons_zero, List.set_cons_succ]))
  ((refine tkI 20 ?_ (hy := ?_) (h := ?_); rotate_left 1; · (intro w hSw; (try dsimp only at hSw); go_simp; (try with_reducible rfl))); (try simp only [Act.put, List.setIfInBounds_toArray, List.set_cons_zero, List.set_cons_succ]))
  ((refine tkI 21 ?_ (hy := ?_) (h := ?_); rotate_left 1; · (intro w hSw; (try dsimp only at hSw); go_simp; (try with_reducible rfl))); (try simp only [Act.put, List.setIfInBounds_toArray, List.set_cons_zero, List.set_cons_succ]))
  ((refine tkI 22 ?_ (hy := ?_) (h := ?_); rotate_left 1; · (intro w hSw; (try dsimp only at hSw); go_simp; (try with_reducible rfl))); (try simp only [Act.put, List.setIfInBounds_toArray, List.set_cons_zero]))
  (refine wpAnyH_done (by kernel_rfl) ?_ _)
  go_wp2_with fail
  go_ret
  exact ⟨rfl, HB6.out.trans ((below_undrew HB5.out).mono HB6.out.size)⟩
end Go.Proofs.YtelngghecmkipaaGreatDoor
