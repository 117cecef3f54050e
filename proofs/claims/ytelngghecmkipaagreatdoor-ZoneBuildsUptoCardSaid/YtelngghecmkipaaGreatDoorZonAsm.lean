/- Chapter 11: lines out of the texts of their fields; plain. -/
import Derived.Test.YtelngghecmkipaaGreatDoorZonPut0
namespace Go.Proofs.YtelngghecmkipaaGreatDoor
open Go.RowKit
namespace Zn
/-- The fields of each line, in their order. -/
def order (f : Nat) : List (List Nat) := if f = 3 then [[0, 1, 2], [3, 4, 5, 6, 7, 8, 9, 10, 11, 12, 14]] else if f = 2 then [[0, 1, 2], [3, 4, 5, 6, 7, 8, 9, 10, 11, 14]] else [[0, 1, 3, 4, 11], [6, 7, 8, 9, 10, 5, 13, 14], [2]]
def wd (f i : Nat) : Nat := (place f i).2.2
/-- Texts of the fields, each as wide as its field. -/
def Wide (f : Nat) (F : Nat → List UInt8) : Prop := ∀ i, (F i).length = wd f i
def asm (f : Nat) (F : Nat → List UInt8) : List (List UInt8) := (order f).map fun o => (o.map F).flatten
/-- One text replaced. -/
def upd (F : Nat → List UInt8) (i : Nat) (t : List UInt8) : Nat → List UInt8 := fun j => if j = i then t else F j
/-- Where a field stands in its line. -/
theorem spot (f : Nat) (hf : 1 ≤ f ∧ f ≤ 3) (i : Nat) (hi : i < 15) : wd f i = 0 ∧ place f i = (0, 0, 0) ∨ ∃ pre post, (order f)[(place f i).1]? = some (pre ++ i :: post) ∧ (pre.map (wd f)).sum = (place f i).2.1 ∧ i ∉ pre ∧ i ∉ post ∧ ∀ k, k ≠ (place f i).1 → ∀ o, (order f)[k]? = some o → i ∉ o := by
  have h3 : f = 1 ∨ f = 2 ∨ f = 3 := by omega
  have h15 : i = 0 ∨ i = 1 ∨ i = 2 ∨ i = 3 ∨ i = 4 ∨ i = 5 ∨ i = 6 ∨ i = 7 ∨ i = 8 ∨ i = 9 ∨ i = 10 ∨ i = 11 ∨ i = 12 ∨ i = 13 ∨ i = 14 := by omega
  have key : ∀ (O : List (List Nat)) (n m : Nat), (∀ k, k < O.length → k ≠ n → m ∉ O.getD k []) → ∀ k, k ≠ n → ∀ o, O[k]? = some o → m ∉ o := fun O n m h k hk o ho => by
    have hl := (List.getElem?_eq_some_iff.1 ho).1
    have := h k hl hk
    rwa [List.getD_eq_getElem?_getD, ho] at this
  rcases h3 with rfl | rfl | rfl
  · rcases h15 with rfl | rfl | rfl | rfl | rfl | rfl | rfl | rfl | rfl | rfl | rfl | rfl | rfl | rfl | rfl
    · exact .inr ⟨[], [1, 3, 4, 11], rfl, rfl, by decide, by decide, key _ _ _ (by decide)⟩
    · exact .inr ⟨[0], [3, 4, 11], rfl, rfl, by decide, by decide, key _ _ _ (by decide)⟩
    · exact .inr ⟨[], [], rfl, rfl, by decide, by decide, key _ _ _ (by decide)⟩
    · exact .inr ⟨[0, 1], [4, 11], rfl, rfl, by decide, by decide, key _ _ _ (by decide)⟩
    · exact .inr ⟨[0, 1, 3], [11], rfl, rfl, by decide, by decide, key _ _ _ (by decide)⟩
    · exact .inr ⟨[6, 7, 8, 9, 10], [13, 14], rfl, rfl, by decide, by decide, key _ _ _ (by decide)⟩
    · exact .inr ⟨[], [7, 8, 9, 10, 5, 13, 14], rfl, rfl, by decide, by decide, key _ _ _ (by decide)⟩
    · exact .inr ⟨[6], [8, 9, 10, 5, 13, 14], rfl, rfl, by decide, by decide, key _ _ _ (by decide)⟩
    · exact .inr ⟨[6, 7], [9, 10, 5, 13, 14], rfl, rfl, by decide, by decide, key _ _ _ (by decide)⟩
    · exact .inr ⟨[6, 7, 8], [10, 5, 13, 14], rfl, rfl, by decide, by decide, key _ _ _ (by decide)⟩
    · exact .inr ⟨[6, 7, 8, 9], [5, 13, 14], rfl, rfl, by decide, by decide, key _ _ _ (by decide)⟩
    · exact .inr ⟨[0, 1, 3, 4], [], rfl, rfl, by decide, by decide, key _ _ _ (by decide)⟩
    · exact .inl ⟨rfl, rfl⟩
    · exact .inr ⟨[6, 7, 8, 9, 10, 5], [14], rfl, rfl, by decide, by decide, key _ _ _ (by decide)⟩
    · exact .inr ⟨[6, 7, 8, 9, 10, 5, 13], [], rfl, rfl, by decide, by decide, key _ _ _ (by decide)⟩
  · rcases h15 with rfl | rfl | rfl | rfl | rfl | rfl | rfl | rfl | rfl | rfl | rfl | rfl | rfl | rfl | rfl
    · exact .inr ⟨[], [1, 2], rfl, rfl, by decide, by decide, key _ _ _ (by decide)⟩
    · exact .inr ⟨[0], [2], rfl, rfl, by decide, by decide, key _ _ _ (by decide)⟩
    · exact .inr ⟨[0, 1], [], rfl, rfl, by decide, by decide, key _ _ _ (by decide)⟩
    · exact .inr ⟨[], [4, 5, 6, 7, 8, 9, 10, 11, 14], rfl, rfl, by decide, by decide, key _ _ _ (by decide)⟩
    · exact .inr ⟨[3], [5, 6, 7, 8, 9, 10, 11, 14], rfl, rfl, by decide, by decide, key _ _ _ (by decide)⟩
    · exact .inr ⟨[3, 4], [6, 7, 8, 9, 10, 11, 14], rfl, rfl, by decide, by decide, key _ _ _ (by decide)⟩
    · exact .inr ⟨[3, 4, 5], [7, 8, 9, 10, 11, 14], rfl, rfl, by decide, by decide, key _ _ _ (by decide)⟩
    · exact .inr ⟨[3, 4, 5, 6], [8, 9, 10, 11, 14], rfl, rfl, by decide, by decide, key _ _ _ (by decide)⟩
    · exact .inr ⟨[3, 4, 5, 6, 7], [9, 10, 11, 14], rfl, rfl, by decide, by decide, key _ _ _ (by decide)⟩
    · exact .inr ⟨[3, 4, 5, 6, 7, 8], [10, 11, 14], rfl, rfl, by decide, by decide, key _ _ _ (by decide)⟩
    · exact .inr ⟨[3, 4, 5, 6, 7, 8, 9], [11, 14], rfl, rfl, by decide, by decide, key _ _ _ (by decide)⟩
    · exact .inr ⟨[3, 4, 5, 6, 7, 8, 9, 10], [14], rfl, rfl, by decide, by decide, key _ _ _ (by decide)⟩
    · exact .inl ⟨rfl, rfl⟩
    · exact .inl ⟨rfl, rfl⟩
    · exact .inr ⟨[3, 4, 5, 6, 7, 8, 9, 10, 11], [], rfl, rfl, by decide, by decide, key _ _ _ (by decide)⟩
  · rcases h15 with rfl | rfl | rfl | rfl | rfl | rfl | rfl | rfl | rfl | rfl | rfl | rfl | rfl | rfl | rfl
    · exact .inr ⟨[], [1, 2], rfl, rfl, by decide, by decide, key _ _ _ (by decide)⟩
    · exact .inr ⟨[0], [2], rfl, rfl, by decide, by decide, key _ _ _ (by decide)⟩
    · exact .inr ⟨[0, 1], [], rfl, rfl, by decide, by decide, key _ _ _ (by decide)⟩
    · exact .inr ⟨[], [4, 5, 6, 7, 8, 9, 10, 11, 12, 14], rfl, rfl, by decide, by decide, key _ _ _ (by decide)⟩
    · exact .inr ⟨[3], [5, 6, 7, 8, 9, 10, 11, 12, 14], rfl, rfl, by decide, by decide, key _ _ _ (by decide)⟩
    · exact .inr ⟨[3, 4], [6, 7, 8, 9, 10, 11, 12, 14], rfl, rfl, by decide, by decide, key _ _ _ (by decide)⟩
    · exact .inr ⟨[3, 4, 5], [7, 8, 9, 10, 11, 12, 14], rfl, rfl, by decide, by decide, key _ _ _ (by decide)⟩
    · exact .inr ⟨[3, 4, 5, 6], [8, 9, 10, 11, 12, 14], rfl, rfl, by decide, by decide, key _ _ _ (by decide)⟩
    · exact .inr ⟨[3, 4, 5, 6, 7], [9, 10, 11, 12, 14], rfl, rfl, by decide, by decide, key _ _ _ (by decide)⟩
    · exact .inr ⟨[3, 4, 5, 6, 7, 8], [10, 11, 12, 14], rfl, rfl, by decide, by decide, key _ _ _ (by decide)⟩
    · exact .inr ⟨[3, 4, 5, 6, 7, 8, 9], [11, 12, 14], rfl, rfl, by decide, by decide, key _ _ _ (by decide)⟩
    · exact .inr ⟨[3, 4, 5, 6, 7, 8, 9, 10], [12, 14], rfl, rfl, by decide, by decide, key _ _ _ (by decide)⟩
    · exact .inr ⟨[3, 4, 5, 6, 7, 8, 9, 10, 11], [14], rfl, rfl, by decide, by decide, key _ _ _ (by decide)⟩
    · exact .inl ⟨rfl, rfl⟩
    · exact .inr ⟨[3, 4, 5, 6, 7, 8, 9, 10, 11, 12], [], rfl, rfl, by decide, by decide, key _ _ _ (by decide)⟩
theorem flat_len {f : Nat} {F : Nat → List UInt8} (h : Wide f F) : ∀ l : List Nat, (l.map F).flatten.length = (l.map (wd f)).sum
  | [] => rfl
  | i :: r => by rw [List.map_cons, List.flatten_cons, List.length_append, flat_len h r, h i, List.map_cons, List.sum_cons]
theorem flat_upd {F : Nat → List UInt8} {i : Nat} {t : List UInt8} : ∀ l : List Nat, i ∉ l → (l.map (upd F i t)) = l.map F
  | [], _ => rfl
  | j :: r, h => by
    rw [List.map_cons, List.map_cons, flat_upd r (fun hm => h (List.mem_cons_of_mem _ hm))]
    unfold upd
    rw [if_neg (fun e => h (by rw [e]; exact List.mem_cons_self))]
theorem asm_get {f : Nat} {F : Nat → List UInt8} {n : Nat} {o : List Nat} (h : (order f)[n]? = some o) : (asm f F).getD n [] = (o.map F).flatten := by
  unfold asm
  rw [List.getD_eq_getElem?_getD, List.getElem?_map, h]; rfl
theorem fld_asm (f : Nat) (hf : 1 ≤ f ∧ f ≤ 3) (F : Nat → List UInt8) (h : Wide f F) (i : Nat) (hi : i < 15) : fld f (asm f F) i = F i := by
  rcases spot f hf i hi with ⟨h0, h1⟩ | ⟨pre, post, h1, h2, _⟩
  · have := h i
    rw [h0] at this
    rw [List.eq_nil_of_length_eq_zero this]
    unfold fld
    rw [h1, List.take_zero]
  · unfold fld
    rw [asm_get h1, List.map_append, List.map_cons, List.flatten_append, List.flatten_cons, ← h2, ← flat_len h pre, List.drop_left, ← show wd f i = (place f i).2.2 from rfl, ← h i, List.take_left]
theorem asm_len (f : Nat) (hf : 1 ≤ f ∧ f ≤ 3) (F : Nat → List UInt8) (h : Wide f F) : Shaped f (asm f F) := by
  have h3 : f = 1 ∨ f = 2 ∨ f = 3 := by omega
  refine ⟨?_, fun l hl => ?_⟩
  · unfold asm
    rw [List.length_map]
    rcases h3 with rfl | rfl | rfl <;> rfl
  · obtain ⟨o, ho, rfl⟩ := List.mem_map.1 hl
    rw [flat_len h o]
    clear hl
    revert o
    rcases h3 with rfl | rfl | rfl <;> decide
theorem put_asm (f : Nat) (hf : 1 ≤ f ∧ f ≤ 3) (F : Nat → List UInt8) (h : Wide f F) (i : Nat) (hi : i < 15) (t : List UInt8) : putL f (asm f F) i t = asm f (upd F i (wide_ t (wd f i))) := by
  have hS := asm_len f hf F h
  rcases spot f hf i hi with ⟨h0, h1⟩ | ⟨pre, post, h1, h2, h3, h4, h5⟩
  · have hF : F i = [] := by have := h i; rw [h0] at this; exact List.eq_nil_of_length_eq_zero this
    have hu : upd F i (wide_ t (wd f i)) = F := by
      funext j
      unfold upd
      split
      · rename_i e; rw [e, hF, h0]; rfl
      · rfl
    rw [hu]
    unfold putL
    rw [h1]
    have hl : 0 < (asm f F).length := by rw [hS.1]; unfold nLines; split <;> omega
    show (asm f F).set 0 (over ((asm f F).getD 0 []) 0 (wide_ t 0)) = _
    have ho : ∀ l, over l 0 (wide_ t 0) = l := fun l => by unfold over wide_; simp
    rw [ho, List.getD_eq_getElem?_getD, List.getElem?_eq_getElem hl]
    exact List.set_getElem_self hl
  · unfold putL
    rw [asm_get h1, List.map_append, List.map_cons, List.flatten_append, List.flatten_cons]
    have hov : over ((pre.map F).flatten ++ (F i ++ (post.map F).flatten)) (place f i).2.1 (wide_ t (place f i).2.2) = ((pre ++ i :: post).map (upd F i (wide_ t (wd f i)))).flatten := by
      rw [List.map_append, List.map_cons, flat_upd pre h3, flat_upd post h4, List.flatten_append, List.flatten_cons]
      have hu : upd F i (wide_ t (wd f i)) i = wide_ t (wd f i) := by unfold upd; rw [if_pos rfl]
      rw [hu]
      unfold over
      rw [← h2, ← flat_len h pre, List.take_left, wide_len, show (place f i).2.2 = wd f i from rfl, ← h i, List.drop_append, List.drop_left' (by omega)]
      simp
    rw [hov]
    unfold asm
    apply List.ext_getElem?
    intro k
    rw [List.getElem?_set]
    split
    · rename_i e
      subst e
      rw [List.getElem?_map, h1, if_pos (by rw [List.length_map]; exact (List.getElem?_eq_some_iff.1 h1).1)]; rfl
    · rename_i e
      rw [List.getElem?_map, List.getElem?_map]
      cases ho : (order f)[k]? with
      | none => rfl
      | some o => rw [Option.map_some, Option.map_some, flat_upd o (h5 k (fun e' => e e'.symm) o ho)]
theorem upd_wide {f : Nat} {F : Nat → List UInt8} (h : Wide f F) (i : Nat) (t : List UInt8) : Wide f (upd F i (wide_ t (wd f i))) := fun j => by
  unfold upd
  split
  · rename_i e; rw [wide_len, e]
  · exact h j
/-- A valid zone has one of the three formats. -/
theorem vld_fmt {z : Z} (h : vldE z = 0) : ∃ F : Nat, z.fmt = F ∧ (1 ≤ F ∧ F ≤ 3) := by
  have hf : 1 ≤ z.fmt ∧ z.fmt ≤ 3 := by
    apply Classical.byContradiction
    intro hn
    unfold vldE at h
    rw [if_pos hn] at h
    cases h
  exact ⟨z.fmt.toNat, by omega, by omega⟩
end Zn
end Go.Proofs.YtelngghecmkipaaGreatDoor
