/- Chapter 11: what the rows say of the world, and texts that came in. -/
import Derived.Test.YtelngghecmkipaaGreatDoorZonParseW
import Derived.Test.YtelngghecmkipaaGreatDoorRows
import Derived.Lib.LaidTab
import Derived.MakeChecks
import Derived.ProofKit
import Derived.OpenShut
import Derived.Shelf.Vars
import Derived.SliceStrings
import Derived.SizedLaws
namespace Go.Proofs.YtelngghecmkipaaGreatDoor
open Go.RowKit Go.ChangeShapes Go.WideShapes

/-- What the world's shape says of the library's variable. -/
theorem Opt.lax_of {W : World} (h : W.ShapedOpen Tryz.prog) : Opt.Lax W := Tryz.laysM145.s1_3 W h
/-- What the row's condition says of the table. -/
theorem Dat.at_of {W : World} (h : laidMetH Tryz.prog Rows.zoneParsesRow.laid W) : Dat.At W := by
  rw [MakeChecks.laidMetH_plain _ _ _ (by kernel_rfl)] at h
  have hg : Tryz.prog.globalNamed "traveldoc/dates.lengths" = some 0 := by kernel_rfl
  have h1 := Lib.tabIs_of_head (P := Tryz.prog) (name := "traveldoc/dates.lengths") (k := .i64) (zs := [31, 28, 31, 30, 31, 30, 31, 31, 30, 31, 30, 31]) (rest := [("unicode/utf8.acceptRanges", Rows.laid_unicode_utf8_acceptRanges), ("unicode/utf8.first", Rows.laid_unicode_utf8_first)]) hg (t := 137) (by kernel_rfl) Tryz.underlying137 Tryz.underlying3 (by kernel_rfl) (by kernel_rfl) h
  intro i hi
  exact h1.cell hg i hi
theorem weightsAll_in {H : Type} {P : Program} {e : TypeId} {n : Nat} : ∀ {ds : List (DataW H)} {d : DataW H}, d ∈ ds → n ∈ d.weights P e → n ∈ DataW.weightsAll P e ds
  | d0 :: r, d, hd, hn => by
    simp only [DataW.weightsAll, List.mem_append]
    rcases List.mem_cons.1 hd with rfl | h
    · exact Or.inl hn
    · exact Or.inr (weightsAll_in h hn)
/-- The form's reach, of a string inside a slice of strings. -/
theorem sized_text {H : Type} {P : Program} {ts : List TypeId} {ds : List (DataW H)} (h : (DataW.weightsEach P ts ds).all (· ≤ reachBytes) = true) {j : Nat} {t e : TypeId} {elems spare : List (DataW H)} {bytes : List UInt8}
    (ht : ts[j]? = some t) (hd : ds[j]? = some (.slice elems spare)) (hu : P.underlying t = some (.slice e)) (hx : DataW.lit (.string bytes) ∈ elems) : bytes.length ≤ reachBytes := by
  refine of_decide_eq_true (List.all_eq_true.1 h _ (DataW.weights_mem_each ht hd _ ?_))
  simp only [DataW.weights, hu, List.mem_cons, List.mem_append]
  exact Or.inr (Or.inl (weightsAll_in hx (by simp [DataW.weights])))
theorem reach_is : reachBytes = 140737488351232 := by decide
set_option maxRecDepth 100000 in
/-- An argument of the type []string, opened. -/
theorem open_texts {H : Type} {enc : TypeId × Value → H} {w : World} {b0 : Nat} {v : Value} {d : DataW H} {p : List MemPlace} {r : Reach} {ts : List TypeId} {ds : List (DataW H)} {j : Nat}
    (hv : Value.okWide Tryz.prog w r b0 22 v) (h : DataW.Trod enc Tryz.prog w 0 (fun _ => true) true 22 v d p)
    (hsz : (DataW.weightsEach Tryz.prog ts ds).all (· ≤ reachBytes) = true) (ht : ts[j]? = some 22) (hd : ds[j]? = some d) :
    ∃ (A : Option Addr) (R : List ByteArray) (c : Nat), v = .slice A R.length c ∧ R.length ≤ c ∧ R.length ≤ 8796093022208 ∧ TextsAt w A R ∧ ∀ s ∈ R, s.size ≤ 140737488351232 := by
  obtain ⟨a0, len, cap, rfl⟩ := okWide_slice Tryz.underlying22 hv
  obtain ⟨fuel, hf⟩ := h
  rcases open_strings Tryz.underlying22 Tryz.underlying9 (by kernel_rfl) hf with ⟨hcs, _⟩ | ⟨x, l, c, ss, hcs, _, hl, hm, hz, hx, hcell, hwz⟩
  · simp [Value.cells] at hcs
    obtain ⟨rfl, rfl, rfl⟩ := hcs
    exact ⟨none, [], 0, rfl, Nat.le_refl _, Nat.zero_le _, ⟨by simp, .inl rfl⟩, fun s hs => by cases hs⟩
  · simp [Value.cells] at hcs
    obtain ⟨rfl, rfl, rfl⟩ := hcs
    injection hx with hx1 hx2
    subst hx1
    have hz' : ss.length = cap := by simpa using hz
    have hlt : (ss.take len).length = len := by rw [List.length_take]; omega
    have hb := sized_slice hsz ht hd Tryz.underlying22
    have hbo : Tryz.prog.bytesOf 9 = 16 := by kernel_rfl
    rw [hbo, reach_is] at hb
    simp only [strs, List.length_map, List.length_take, List.length_drop] at hb
    refine ⟨some x, ss.take len, cap, by rw [hlt], by rw [hlt]; exact hl, by rw [hlt]; omega, ⟨by simp, ?_⟩, fun s hs => ?_⟩
    · rcases Nat.eq_zero_or_pos len with h0 | h0
      · left; rw [h0]; simp
      · obtain ⟨b, off, spot⟩ := x
        have hspot : spot = none := by simpa [Addr.add] using World.cell?_spot (hcell 0 (by omega))
        subst hspot
        refine .inr ⟨b, off, rfl, fun i u hu => ?_⟩
        rw [List.getElem?_map, List.getElem?_take] at hu
        split at hu
        · have h2 := hcell i (by omega)
          rw [Go.WideShapes.add_plain] at h2
          rw [h2]
          rw [List.getElem?_eq_getElem (by omega)] at hu
          simp only [Option.map_some] at hu
          rw [List.getD_eq_getElem?_getD, List.getElem?_eq_getElem (by omega)]
          exact hu
        · cases hu
    · have h1 := sized_text (bytes := s.data.toList) hsz ht hd Tryz.underlying22 (by unfold strs; exact List.mem_map.2 ⟨s, hs, rfl⟩)
      rw [reach_is, Opt.size_len] at h1
      exact h1
end Go.Proofs.YtelngghecmkipaaGreatDoor
