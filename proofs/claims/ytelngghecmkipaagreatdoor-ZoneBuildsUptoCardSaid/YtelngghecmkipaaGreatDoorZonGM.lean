/- Chapter 11: several texts in one (RegInv, ZonAsm, ZonMap, ZonLoop, ZonBld, ZonSmp). -/
import Derived.Test.YtelngghecmkipaaGreatDoorUtil
import Derived.RegionTactic
import Derived.Deep.RegionWith
import Derived.Test.YtelngghecmkipaaGreatDoorZonGP
import Derived.Maps.Own
import Derived.Maps.RangeWalk
import Derived.Maps.StringElems
import Derived.Maps.Views
import Derived.Maps.OwnSet
import Derived.Test.YtelngghecmkipaaGreatDoorZonLines
import Derived.Test.YtelngghecmkipaaGreatDoorZonSheet2
import Derived.Test.YtelngghecmkipaaGreatDoorZonParse
namespace Go.Proofs.YtelngghecmkipaaGreatDoor
open Go.RowKit

/-- What is done, as a predicate. -/
def done_ (listed : Array Bool) : Nat → Bool := fun i => listed.getD i false
theorem done_set (listed : Array Bool) (i : Nat) (hi : i < listed.size) : done_ (listed.setIfInBounds i true) = fun j => done_ listed j || j == i := by
  funext j
  unfold done_
  simp only [Array.getD_eq_getD_getElem?, Array.getElem?_setIfInBounds]
  by_cases h : i = j
  · subst h
    simp [hi]
  · rw [if_neg h]
    have : (j == i) = false := by rw [beq_eq_false_iff_ne]; exact fun e => h e.symm
    rw [this, Bool.or_false]
/-- How many are not done. -/
def left_ (listed : Array Bool) : Nat := (listed.toList.filter (! ·)).length
theorem left_set (listed : Array Bool) (i : Nat) (hi : i < listed.size) (h : listed.getD i false = false) : left_ (listed.setIfInBounds i true) + 1 = left_ listed := by
  unfold left_
  rw [Array.toList_setIfInBounds]
  have h' : listed.toList[i]? = some false := by
    have : listed[i]? = some listed[i] := Array.getElem?_eq_getElem hi
    rw [Array.getD_eq_getD_getElem?, this] at h
    rw [Array.getElem?_toList, this]; simpa using h
  revert h'
  generalize listed.toList = l
  clear h hi
  induction l generalizing i with
  | nil => intro h; simp at h
  | cons b r ih =>
    intro h
    cases i with
    | zero => simp at h; subst h; simp
    | succ n =>
      have := ih n (by simpa using h)
      rw [List.set_cons_succ, List.filter_cons, List.filter_cons]
      cases b
      · simp only [Bool.not_false, if_true, List.length_cons]; omega
      · simpa using this
theorem left_zero {listed : Array Bool} (h : left_ listed = 0) (i : Nat) (hi : i < listed.size) : done_ listed i = true := by
  unfold left_ at h
  have h0 := List.eq_nil_of_length_eq_zero h
  have h1 := List.filter_eq_nil_iff.1 h0 listed[i] (by simp)
  unfold done_
  rw [Array.getD_eq_getD_getElem?, Array.getElem?_eq_getElem hi]
  cases hq : listed[i]
  · rw [hq] at h1; exact absurd rfl h1
  · rfl

section
variable {P : Program} {ops : Array Oper} {Q : Exit → Act → World → Prop}

theorem ready_iff {listed : Array Bool} {i : Nat} (h : i ∈ Region.ready .any ops listed) : ∃ o, ops[i]? = some o ∧ listed.getD i true = false ∧ ∀ e ∈ o.after, Region.binds .any e = true → done_ listed e.on = true := by
  unfold Region.ready at h
  rw [List.mem_filter] at h
  obtain ⟨_, h⟩ := h
  rw [Bool.and_eq_true] at h
  obtain ⟨h1, h2⟩ := h
  cases ho : ops[i]? with
  | none => rw [ho] at h2; simp at h2
  | some o =>
    refine ⟨o, rfl, by simpa using h1, fun e he hb => ?_⟩
    rw [ho] at h2
    simp only [Option.map_some, Option.getD_some] at h2
    have := Array.all_eq_true_iff_forall_mem.1 h2 e he
    rw [hb] at this
    simpa [done_] using this
theorem ready_of {listed : Array Bool} {i : Nat} {o : Oper} (ho : ops[i]? = some o) (hl : listed.getD i true = false) (h : ∀ e ∈ o.after, done_ listed e.on = true) : i ∈ Region.ready .any ops listed := by
  unfold Region.ready
  rw [List.mem_filter]
  refine ⟨List.mem_range.2 (Array.getElem?_eq_some_iff.1 ho).1, ?_⟩
  rw [Bool.and_eq_true]
  refine ⟨by rw [hl]; rfl, ?_⟩
  rw [ho]
  simp only [Option.map_some, Option.getD_some]
  refine Array.all_eq_true_iff_forall_mem.2 fun e he => ?_
  have := h e he
  unfold done_ at this
  rw [this]; simp

theorem wp_region_inv {id : Nat} {a : Act} {w : World} (hm : P.follows .mixedOrders = true) (I : (Nat → Bool) → Act → World → Prop)
    (hback : ∀ (i : Nat) o, ops[i]? = some o → ∀ e ∈ o.after, e.on < i)
    (h0 : I (fun _ => false) a w.drew)
    (hstep : ∀ (L : Nat → Bool) (a : Act) (w : World) (i : Nat) (o : Oper), I L a w → ops[i]? = some o → L i = false → (∀ e ∈ o.after, Region.binds .any e = true → L e.on = true) →
      ∀ K : Act → World → Prop, (∀ a' w', I (fun j => L j || j == i) a' w' → K a' w') → if Region.wanted o (yielded ops a.tmps) = true then Oper.wp P o a w K Q else K (a.put o.dst undef) w)
    (hdone : ∀ (L : Nat → Bool) (a : Act) (w : World), (∀ i, i < ops.size → L i = true) → I L a w → Q .normal a w) : (Code.region id ops true).wp P Q a w := by
  refine wp_region_any hm ?_
  have key : ∀ (fuel : Nat) (listed : Array Bool) (a : Act) (w : World), listed.size = ops.size → left_ listed ≤ fuel → I (done_ listed) a w → wpAny P .any ops Q fuel listed a w := by
    intro fuel
    induction fuel with
    | zero =>
      intro listed a w hs hl hI
      have hall : ∀ i, i < ops.size → done_ listed i = true := fun i hi => left_zero (by omega) i (by omega)
      refine ⟨?_, hdone _ a w hall hI⟩
      rw [List.eq_nil_iff_forall_not_mem]
      intro i hi
      obtain ⟨o, ho, h1, _⟩ := ready_iff hi
      have hlt := (Array.getElem?_eq_some_iff.1 ho).1
      have := hall i hlt
      unfold done_ at this
      rw [Array.getD_eq_getD_getElem?, Array.getElem?_eq_getElem (by omega)] at this h1
      simp at this h1
      rw [this] at h1; cases h1
    | succ n ih =>
      intro listed a w hs hl hI
      refine ⟨fun hr => hdone _ a w (fun i hi => ?_) hI, fun i hi => ?_⟩
      · -- the least that is not done would be ready
        induction i using Nat.strongRecOn with
        | ind i ihi =>
          by_cases hd : done_ listed i = true
          · exact hd
          · exfalso
            have ho : ops[i]? = some ops[i] := Array.getElem?_eq_getElem hi
            have hg : listed.getD i true = false := by
              unfold done_ at hd
              rw [Array.getD_eq_getD_getElem?, Array.getElem?_eq_getElem (by omega)] at hd ⊢
              simpa using hd
            have hm := ready_of ho hg (fun e he => ihi e.on (hback i _ ho e he) (Nat.lt_trans (hback i _ ho e he) hi))
            rw [hr] at hm; cases hm
      · obtain ⟨o, ho, h1, h2⟩ := ready_iff hi
        have hlt := (Array.getElem?_eq_some_iff.1 ho).1
        have hf : listed.getD i false = false := by
          rw [Array.getD_eq_getD_getElem?, Array.getElem?_eq_getElem (by omega)] at h1 ⊢
          simpa using h1
        have hst := hstep (done_ listed) a w i o hI ho hf h2 (wpAny P .any ops Q n (listed.setIfInBounds i true)) (fun a' w' hI' => by
          refine ih _ a' w' (by simpa using hs) ?_ ?_
          · have := left_set listed i (by omega) hf; omega
          · rw [done_set listed i (by omega)]; exact hI')
        exact wpOp_step ho (fun K' hK => by
          have := hstep (done_ listed) a w i o hI ho hf h2 K' (fun a' w' hI' => hK a' w' (ih _ a' w' (by simpa using hs) (by have := left_set listed i (by omega) hf; omega) (by rw [done_set listed i (by omega)]; exact hI')))
          exact this)
  refine key ops.size _ a _ (by simp) ?_ ?_
  · unfold left_
    exact Nat.le_trans (List.length_filter_le _ _) (by simp)
  · have : done_ (Array.replicate ops.size false) = fun _ => false := by
      funext i
      unfold done_
      rw [Array.getD_eq_getD_getElem?]
      rcases Nat.lt_or_ge i ops.size with h | h
      · simp [h]
      · simp [h]
    rw [this]; exact h0
end
/-- Slots from s on, n of them, set anew. -/
def setMany (xs : Array Value) (u : Nat → Value) (s : Nat) : Nat → Array Value
  | 0 => xs
  | n + 1 => (setMany xs u s n).setIfInBounds (s + n) (u (s + n))
theorem setMany_size (xs : Array Value) (u : Nat → Value) (s : Nat) : ∀ n, (setMany xs u s n).size = xs.size
  | 0 => rfl
  | n + 1 => by rw [setMany, Array.size_setIfInBounds, setMany_size xs u s n]
theorem setMany_get (xs : Array Value) (u : Nat → Value) (s : Nat) : ∀ n j, s + n ≤ xs.size → (setMany xs u s n)[j]? = if s ≤ j ∧ j < s + n then some (u j) else xs[j]?
  | 0, j, _ => by rw [if_neg (by omega)]; rfl
  | n + 1, j, h => by
    rw [setMany, Array.getElem?_setIfInBounds, setMany_size]
    by_cases e : s + n = j
    · rw [if_pos e, if_pos (by omega), if_pos (by omega), e]
    · rw [if_neg e, setMany_get xs u s n j (by omega)]
      by_cases h2 : s ≤ j ∧ j < s + n
      · rw [if_pos h2, if_pos (by omega)]
      · rw [if_neg h2, if_neg (by omega)]
/-- A frame that is another one but for some slots. -/
theorem frame_known {a a0 : Act} (s n : Nat) (hs : a.tmps.size = a0.tmps.size) (hn : s + n ≤ a0.tmps.size) (hd : a.defers = a0.defers) (h : ∀ j, j < s ∨ s + n ≤ j → a.tmps[j]? = a0.tmps[j]?) :
    ∃ u : Nat → Value, a = { tmps := setMany a0.tmps u s n, defers := a0.defers } ∧ ∀ j v, s ≤ j → j < s + n → a.tmps[j]? = some v → u j = v := by
  refine ⟨fun j => a.tmps.getD j undef, ?_, fun j v _ _ hv => by simp [hv]⟩
  obtain ⟨t, d⟩ := a
  simp only at hs hd h
  subst hd
  congr 1
  apply Array.ext_getElem?
  intro j
  rw [setMany_get _ _ _ _ _ hn]
  by_cases hj : s ≤ j ∧ j < s + n
  · rw [if_pos hj]
    have : j < t.size := by omega
    simp [this]
  · rw [if_neg hj]; exact h j (by omega)
end Go.Proofs.YtelngghecmkipaaGreatDoor

namespace Go.Proofs.YtelngghecmkipaaGreatDoor
open Go.RowKit
namespace Zn
/-- The fields of each line, in their order. -/
def order (f : Nat) : List (List Nat) := if f = 3 then [[0, 1, 2], [3, 4, 5, 6, 7, 8, 9, 10, 11, 12, 14]] else if f = 2 then [[0, 1, 2], [3, 4, 5, 6, 7, 8, 9, 10, 11, 14]] else [[0, 1, 3, 4, 11], [6, 7, 8, 9, 10, 5, 13, 14], [2]]
def wd (f i : Nat) : Nat := (place f i).2.2
/-- Texts of the fields, each as wide as its field. -/
def Wide (f : Nat) (F : Nat → List UInt8) : Prop := ∀ i, (F i).length = wd f i
def asm (f : Nat) (F : Nat → List UInt8) : List (List UInt8) := (order f).map fun o => (o.map F).flatten
/-- One text replaced. -/
def upd (F : Nat → List UInt8) (i : Nat) (t : List UInt8) : Nat → List UInt8 := fun j => if j = i then t else F j
/-- Where a field stands in its line. -/
theorem spot (f : Nat) (hf : 1 ≤ f ∧ f ≤ 3) (i : Nat) (hi : i < 15) : wd f i = 0 ∧ place f i = (0, 0, 0) ∨ ∃ pre post, (order f)[(place f i).1]? = some (pre ++ i :: post) ∧ (pre.map (wd f)).sum = (place f i).2.1 ∧ i ∉ pre ∧ i ∉ post ∧ ∀ k, k ≠ (place f i).1 → ∀ o, (order f)[k]? = some o → i ∉ o := by
  have h3 : f = 1 ∨ f = 2 ∨ f = 3 := by omega
  have h15 : i = 0 ∨ i = 1 ∨ i = 2 ∨ i = 3 ∨ i = 4 ∨ i = 5 ∨ i = 6 ∨ i = 7 ∨ i = 8 ∨ i = 9 ∨ i = 10 ∨ i = 11 ∨ i = 12 ∨ i = 13 ∨ i = 14 := by omega
  have key : ∀ (O : List (List Nat)) (n m : Nat), (∀ k, k < O.length → k ≠ n → m ∉ O.getD k []) → ∀ k, k ≠ n → ∀ o, O[k]? = some o → m ∉ o := fun O n m h k hk o ho => by
    have hl := (List.getElem?_eq_some_iff.1 ho).1
    have := h k hl hk
    rwa [List.getD_eq_getElem?_getD, ho] at this
  rcases h3 with rfl | rfl | rfl
  · rcases h15 with rfl | rfl | rfl | rfl | rfl | rfl | rfl | rfl | rfl | rfl | rfl | rfl | rfl | rfl | rfl
    · exact .inr ⟨[], [1, 3, 4, 11], rfl, rfl, by decide, by decide, key _ _ _ (by decide)⟩
    · exact .inr ⟨[0], [3, 4, 11], rfl, rfl, by decide, by decide, key _ _ _ (by decide)⟩
    · exact .inr ⟨[], [], rfl, rfl, by decide, by decide, key _ _ _ (by decide)⟩
    · exact .inr ⟨[0, 1], [4, 11], rfl, rfl, by decide, by decide, key _ _ _ (by decide)⟩
    · exact .inr ⟨[0, 1, 3], [11], rfl, rfl, by decide, by decide, key _ _ _ (by decide)⟩
    · exact .inr ⟨[6, 7, 8, 9, 10], [13, 14], rfl, rfl, by decide, by decide, key _ _ _ (by decide)⟩
    · exact .inr ⟨[], [7, 8, 9, 10, 5, 13, 14], rfl, rfl, by decide, by decide, key _ _ _ (by decide)⟩
    · exact .inr ⟨[6], [8, 9, 10, 5, 13, 14], rfl, rfl, by decide, by decide, key _ _ _ (by decide)⟩
    · exact .inr ⟨[6, 7], [9, 10, 5, 13, 14], rfl, rfl, by decide, by decide, key _ _ _ (by decide)⟩
    · exact .inr ⟨[6, 7, 8], [10, 5, 13, 14], rfl, rfl, by decide, by decide, key _ _ _ (by decide)⟩
    · exact .inr ⟨[6, 7, 8, 9], [5, 13, 14], rfl, rfl, by decide, by decide, key _ _ _ (by decide)⟩
    · exact .inr ⟨[0, 1, 3, 4], [], rfl, rfl, by decide, by decide, key _ _ _ (by decide)⟩
    · exact .inl ⟨rfl, rfl⟩
    · exact .inr ⟨[6, 7, 8, 9, 10, 5], [14], rfl, rfl, by decide, by decide, key _ _ _ (by decide)⟩
    · exact .inr ⟨[6, 7, 8, 9, 10, 5, 13], [], rfl, rfl, by decide, by decide, key _ _ _ (by decide)⟩
  · rcases h15 with rfl | rfl | rfl | rfl | rfl | rfl | rfl | rfl | rfl | rfl | rfl | rfl | rfl | rfl | rfl
    · exact .inr ⟨[], [1, 2], rfl, rfl, by decide, by decide, key _ _ _ (by decide)⟩
    · exact .inr ⟨[0], [2], rfl, rfl, by decide, by decide, key _ _ _ (by decide)⟩
    · exact .inr ⟨[0, 1], [], rfl, rfl, by decide, by decide, key _ _ _ (by decide)⟩
    · exact .inr ⟨[], [4, 5, 6, 7, 8, 9, 10, 11, 14], rfl, rfl, by decide, by decide, key _ _ _ (by decide)⟩
    · exact .inr ⟨[3], [5, 6, 7, 8, 9, 10, 11, 14], rfl, rfl, by decide, by decide, key _ _ _ (by decide)⟩
    · exact .inr ⟨[3, 4], [6, 7, 8, 9, 10, 11, 14], rfl, rfl, by decide, by decide, key _ _ _ (by decide)⟩
    · exact .inr ⟨[3, 4, 5], [7, 8, 9, 10, 11, 14], rfl, rfl, by decide, by decide, key _ _ _ (by decide)⟩
    · exact .inr ⟨[3, 4, 5, 6], [8, 9, 10, 11, 14], rfl, rfl, by decide, by decide, key _ _ _ (by decide)⟩
    · exact .inr ⟨[3, 4, 5, 6, 7], [9, 10, 11, 14], rfl, rfl, by decide, by decide, key _ _ _ (by decide)⟩
    · exact .inr ⟨[3, 4, 5, 6, 7, 8], [10, 11, 14], rfl, rfl, by decide, by decide, key _ _ _ (by decide)⟩
    · exact .inr ⟨[3, 4, 5, 6, 7, 8, 9], [11, 14], rfl, rfl, by decide, by decide, key _ _ _ (by decide)⟩
    · exact .inr ⟨[3, 4, 5, 6, 7, 8, 9, 10], [14], rfl, rfl, by decide, by decide, key _ _ _ (by decide)⟩
    · exact .inl ⟨rfl, rfl⟩
    · exact .inl ⟨rfl, rfl⟩
    · exact .inr ⟨[3, 4, 5, 6, 7, 8, 9, 10, 11], [], rfl, rfl, by decide, by decide, key _ _ _ (by decide)⟩
  · rcases h15 with rfl | rfl | rfl | rfl | rfl | rfl | rfl | rfl | rfl | rfl | rfl | rfl | rfl | rfl | rfl
    · exact .inr ⟨[], [1, 2], rfl, rfl, by decide, by decide, key _ _ _ (by decide)⟩
    · exact .inr ⟨[0], [2], rfl, rfl, by decide, by decide, key _ _ _ (by decide)⟩
    · exact .inr ⟨[0, 1], [], rfl, rfl, by decide, by decide, key _ _ _ (by decide)⟩
    · exact .inr ⟨[], [4, 5, 6, 7, 8, 9, 10, 11, 12, 14], rfl, rfl, by decide, by decide, key _ _ _ (by decide)⟩
    · exact .inr ⟨[3], [5, 6, 7, 8, 9, 10, 11, 12, 14], rfl, rfl, by decide, by decide, key _ _ _ (by decide)⟩
    · exact .inr ⟨[3, 4], [6, 7, 8, 9, 10, 11, 12, 14], rfl, rfl, by decide, by decide, key _ _ _ (by decide)⟩
    · exact .inr ⟨[3, 4, 5], [7, 8, 9, 10, 11, 12, 14], rfl, rfl, by decide, by decide, key _ _ _ (by decide)⟩
    · exact .inr ⟨[3, 4, 5, 6], [8, 9, 10, 11, 12, 14], rfl, rfl, by decide, by decide, key _ _ _ (by decide)⟩
    · exact .inr ⟨[3, 4, 5, 6, 7], [9, 10, 11, 12, 14], rfl, rfl, by decide, by decide, key _ _ _ (by decide)⟩
    · exact .inr ⟨[3, 4, 5, 6, 7, 8], [10, 11, 12, 14], rfl, rfl, by decide, by decide, key _ _ _ (by decide)⟩
    · exact .inr ⟨[3, 4, 5, 6, 7, 8, 9], [11, 12, 14], rfl, rfl, by decide, by decide, key _ _ _ (by decide)⟩
    · exact .inr ⟨[3, 4, 5, 6, 7, 8, 9, 10], [12, 14], rfl, rfl, by decide, by decide, key _ _ _ (by decide)⟩
    · exact .inr ⟨[3, 4, 5, 6, 7, 8, 9, 10, 11], [14], rfl, rfl, by decide, by decide, key _ _ _ (by decide)⟩
    · exact .inl ⟨rfl, rfl⟩
    · exact .inr ⟨[3, 4, 5, 6, 7, 8, 9, 10, 11, 12], [], rfl, rfl, by decide, by decide, key _ _ _ (by decide)⟩
theorem flat_len {f : Nat} {F : Nat → List UInt8} (h : Wide f F) : ∀ l : List Nat, (l.map F).flatten.length = (l.map (wd f)).sum
  | [] => rfl
  | i :: r => by rw [List.map_cons, List.flatten_cons, List.length_append, flat_len h r, h i, List.map_cons, List.sum_cons]
theorem flat_upd {F : Nat → List UInt8} {i : Nat} {t : List UInt8} : ∀ l : List Nat, i ∉ l → (l.map (upd F i t)) = l.map F
  | [], _ => rfl
  | j :: r, h => by
    rw [List.map_cons, List.map_cons, flat_upd r (fun hm => h (List.mem_cons_of_mem _ hm))]
    unfold upd
    rw [if_neg (fun e => h (by rw [e]; exact List.mem_cons_self))]
theorem asm_get {f : Nat} {F : Nat → List UInt8} {n : Nat} {o : List Nat} (h : (order f)[n]? = some o) : (asm f F).getD n [] = (o.map F).flatten := by
  unfold asm
  rw [List.getD_eq_getElem?_getD, List.getElem?_map, h]; rfl
theorem fld_asm (f : Nat) (hf : 1 ≤ f ∧ f ≤ 3) (F : Nat → List UInt8) (h : Wide f F) (i : Nat) (hi : i < 15) : fld f (asm f F) i = F i := by
  rcases spot f hf i hi with ⟨h0, h1⟩ | ⟨pre, post, h1, h2, _⟩
  · have := h i
    rw [h0] at this
    rw [List.eq_nil_of_length_eq_zero this]
    unfold fld
    rw [h1, List.take_zero]
  · unfold fld
    rw [asm_get h1, List.map_append, List.map_cons, List.flatten_append, List.flatten_cons, ← h2, ← flat_len h pre, List.drop_left, ← show wd f i = (place f i).2.2 from rfl, ← h i, List.take_left]
theorem asm_len (f : Nat) (hf : 1 ≤ f ∧ f ≤ 3) (F : Nat → List UInt8) (h : Wide f F) : Shaped f (asm f F) := by
  have h3 : f = 1 ∨ f = 2 ∨ f = 3 := by omega
  refine ⟨?_, fun l hl => ?_⟩
  · unfold asm
    rw [List.length_map]
    rcases h3 with rfl | rfl | rfl <;> rfl
  · obtain ⟨o, ho, rfl⟩ := List.mem_map.1 hl
    rw [flat_len h o]
    clear hl
    revert o
    rcases h3 with rfl | rfl | rfl <;> decide
theorem put_asm (f : Nat) (hf : 1 ≤ f ∧ f ≤ 3) (F : Nat → List UInt8) (h : Wide f F) (i : Nat) (hi : i < 15) (t : List UInt8) : putL f (asm f F) i t = asm f (upd F i (wide_ t (wd f i))) := by
  have hS := asm_len f hf F h
  rcases spot f hf i hi with ⟨h0, h1⟩ | ⟨pre, post, h1, h2, h3, h4, h5⟩
  · have hF : F i = [] := by have := h i; rw [h0] at this; exact List.eq_nil_of_length_eq_zero this
    have hu : upd F i (wide_ t (wd f i)) = F := by
      funext j
      unfold upd
      split
      · rename_i e; rw [e, hF, h0]; rfl
      · rfl
    rw [hu]
    unfold putL
    rw [h1]
    have hl : 0 < (asm f F).length := by rw [hS.1]; unfold nLines; split <;> omega
    show (asm f F).set 0 (over ((asm f F).getD 0 []) 0 (wide_ t 0)) = _
    have ho : ∀ l, over l 0 (wide_ t 0) = l := fun l => by unfold over wide_; simp
    rw [ho, List.getD_eq_getElem?_getD, List.getElem?_eq_getElem hl]
    exact List.set_getElem_self hl
  · unfold putL
    rw [asm_get h1, List.map_append, List.map_cons, List.flatten_append, List.flatten_cons]
    have hov : over ((pre.map F).flatten ++ (F i ++ (post.map F).flatten)) (place f i).2.1 (wide_ t (place f i).2.2) = ((pre ++ i :: post).map (upd F i (wide_ t (wd f i)))).flatten := by
      rw [List.map_append, List.map_cons, flat_upd pre h3, flat_upd post h4, List.flatten_append, List.flatten_cons]
      have hu : upd F i (wide_ t (wd f i)) i = wide_ t (wd f i) := by unfold upd; rw [if_pos rfl]
      rw [hu]
      unfold over
      rw [← h2, ← flat_len h pre, List.take_left, wide_len, show (place f i).2.2 = wd f i from rfl, ← h i, List.drop_append, List.drop_left' (by omega)]
      simp
    rw [hov]
    unfold asm
    apply List.ext_getElem?
    intro k
    rw [List.getElem?_set]
    split
    · rename_i e
      subst e
      rw [List.getElem?_map, h1, if_pos (by rw [List.length_map]; exact (List.getElem?_eq_some_iff.1 h1).1)]; rfl
    · rename_i e
      rw [List.getElem?_map, List.getElem?_map]
      cases ho : (order f)[k]? with
      | none => rfl
      | some o => rw [Option.map_some, Option.map_some, flat_upd o (h5 k (fun e' => e e'.symm) o ho)]
theorem upd_wide {f : Nat} {F : Nat → List UInt8} (h : Wide f F) (i : Nat) (t : List UInt8) : Wide f (upd F i (wide_ t (wd f i))) := fun j => by
  unfold upd
  split
  · rename_i e; rw [wide_len, e]
  · exact h j
/-- A valid zone has one of the three formats. -/
theorem vld_fmt {z : Z} (h : vldE z = 0) : ∃ F : Nat, z.fmt = F ∧ (1 ≤ F ∧ F ≤ 3) := by
  have hf : 1 ≤ z.fmt ∧ z.fmt ≤ 3 := by
    apply Classical.byContradiction
    intro hn
    unfold vldE at h
    rw [if_pos hn] at h
    cases h
  exact ⟨z.fmt.toNat, by omega, by omega⟩
end Zn
end Go.Proofs.YtelngghecmkipaaGreatDoor

namespace Go.Proofs.YtelngghecmkipaaGreatDoor
open Go.RowKit Go.Maps

/-- A region of a code. -/
noncomputable def findR (n : Nat) : Code → Option (Array Oper)
  | .region i ops _ => if i = n then some ops else none
  | .seq a b => (findR n a).orElse fun _ => findR n b
  | .cond _ a b => (findR n a).orElse fun _ => findR n b
  | .block _ c => findR n c
  | .loop c => findR n c
  | _ => none
noncomputable def opsMap : Array Oper := (findR 11 ((Tryz.f16.body).getD .skip)).getD #[]
theorem opsMap_size : opsMap.size = 34 := by kernel_rfl
theorem opsMap_back : ∀ (i : Nat) o, opsMap[i]? = some o → ∀ e ∈ o.after, e.on < i := by
  have h : (opsMap.toList.zipIdx.all fun p => p.1.after.all fun e => decide (e.on < p.2)) = true := by kernel_rfl
  intro i o ho e he
  have := List.all_eq_true.1 h (o, i) (by rw [List.mem_zipIdx_iff_getElem?]; simpa using ho)
  have := Array.all_eq_true_iff_forall_mem.1 this e he
  simpa using this
/-- What the map is made of. -/
structure MP where
  g : Nat
  z : Zn.Z
  nm : ByteArray
  d7 : ByteArray
  d10 : ByteArray
def mslot (i : Nat) : Nat := [0, 59, 60, 0, 61, 62, 0, 63, 0, 64, 65, 0, 66, 67, 0, 68, 69, 70, 0, 71, 72, 0, 73, 74, 0, 75, 76, 77, 0, 78, 79, 0, 0, 0].getD i 0
def misval (i : Nat) : Bool := [1, 2, 4, 5, 7, 9, 10, 12, 13, 15, 16, 17, 19, 20, 22, 23, 25, 26, 27, 29, 30].contains i
def mval (m : MP) (i : Nat) : Value := match i with
  | 1 => .pointer (some ⟨m.g, 1, none⟩)
  | 2 => .string m.z.kind
  | 4 => .pointer (some ⟨m.g, 2, none⟩)
  | 5 => .string m.z.state
  | 7 => .string m.nm
  | 9 => .pointer (some ⟨m.g, 6, none⟩)
  | 10 => .string m.z.nat
  | 12 => .pointer (some ⟨m.g, 7, none⟩)
  | 13 => .string m.z.birth
  | 15 => .pointer (some ⟨m.g, 7, none⟩)
  | 16 => .string m.z.birth
  | 17 => .string m.d7
  | 19 => .pointer (some ⟨m.g, 8, none⟩)
  | 20 => .string m.z.sex
  | 22 => .pointer (some ⟨m.g, 9, none⟩)
  | 23 => .string m.z.exp
  | 25 => .pointer (some ⟨m.g, 9, none⟩)
  | 26 => .string m.z.exp
  | 27 => .string m.d10
  | 29 => .pointer (some ⟨m.g, 11, none⟩)
  | 30 => .string m.z.sec
  | _ => undef
/-- The key that an operation inserts. -/
def mkey (i : Nat) : Option Int := match i with
  | 3 => some 0
  | 6 => some 1
  | 8 => some 2
  | 11 => some 5
  | 14 => some 6
  | 18 => some 7
  | 21 => some 8
  | 24 => some 9
  | 28 => some 10
  | 31 => some 13
  | _ => none
def mtxt (m : MP) (i : Nat) : ByteArray := match i with
  | 3 => m.z.kind
  | 6 => m.z.state
  | 8 => m.nm
  | 11 => m.z.nat
  | 14 => m.z.birth
  | 18 => m.d7
  | 21 => m.z.sex
  | 24 => m.z.exp
  | 28 => m.d10
  | 31 => m.z.sec
  | _ => ⟨#[]⟩
theorem mslot_inj (i j : Nat) (hi : misval i = true) (hj : misval j = true) (h : mslot i = mslot j) : i = j := by
  have hk : ([1, 2, 4, 5, 7, 9, 10, 12, 13, 15, 16, 17, 19, 20, 22, 23, 25, 26, 27, 29, 30].all fun i => [1, 2, 4, 5, 7, 9, 10, 12, 13, 15, 16, 17, 19, 20, 22, 23, 25, 26, 27, 29, 30].all fun j => decide (mslot i = mslot j → i = j)) = true := by kernel_rfl
  have h1 := List.all_eq_true.1 hk i (by simpa [misval] using hi)
  have h2 := List.all_eq_true.1 h1 j (by simpa [misval] using hj)
  exact (of_decide_eq_true h2) h
theorem mslot_in (i : Nat) (hi : misval i = true) : 58 < mslot i ∧ mslot i < 80 := by
  have hk : ([1, 2, 4, 5, 7, 9, 10, 12, 13, 15, 16, 17, 19, 20, 22, 23, 25, 26, 27, 29, 30].all fun i => decide (58 < mslot i ∧ mslot i < 80)) = true := by kernel_rfl
  exact of_decide_eq_true (List.all_eq_true.1 hk i (by simpa [misval] using hi))
abbrev opsK : List Nat := [3, 6, 8, 11, 14, 18, 21, 24, 28, 31]
/-- The state of the region: which operations are done. -/
structure MInv (m : MP) (a0 : Act) (w0 : World) (mb : Nat) (L : Nat → Bool) (a : Act) (w : World) : Prop where
  size : a.tmps.size = a0.tmps.size
  defs : a.defers = a0.defers
  same : ∀ j, j < 58 ∨ 81 < j → a.tmps[j]? = a0.tmps[j]?
  vals : ∀ i, misval i = true → L i = true → a.tmps[mslot i]? = some (mval m i)
  below : Below w0.heap.size w0 w
  at0 : L 0 = true → a.tmps[58]? = some (.map (some mb)) ∧ w0.heap.size ≤ mb
  at32 : L 32 = true → a.tmps[80]? = some (.map (some mb))
  map : L 0 = true → ∃ (D : DataW Unit) (n : Nat), w.ownsMap Tryz.prog 3 (plainElem Tryz.prog 9) mb n D ∧ n ≤ (opsK.filter L).length ∧
    (∀ k : Int, Maps.has D (.int .i64 k) = opsK.any fun i => L i && decide (mkey i = some k)) ∧ ∀ i k, mkey i = some k → L i = true → ∀ zd, D.atKey (.int .i64 k) zd = .lit (.string (mtxt m i).data.toList)
  none_ : L 0 = false → ∀ i ∈ opsK, L i = false
  d32 : L 32 = true → ∀ j, j < 32 → L j = true

theorem or_self {L : Nat → Bool} {i : Nat} (j : Nat) (h : (L j || j == i) = true) (hne : j ≠ i) : L j = true := by
  rcases Bool.or_eq_true_iff.1 h with h | h
  · exact h
  · exact absurd (by simpa using h) hne
/-- A quiet operation. -/
theorem MInv.val {m : MP} {a0 a : Act} {w0 w : World} {mb : Nat} {L : Nat → Bool} (h : MInv m a0 w0 mb L a w) (hs0 : 82 ≤ a0.tmps.size) (i : Nat) (hi : misval i = true) (w' : World) (hb : Below w.heap.size w w') (h0 : i ≠ 0) (h32 : i ≠ 32) (hk : i ∉ opsK) :
    MInv m a0 w0 mb (fun j => L j || j == i) (a.put (some (mslot i)) (mval m i)) w' := by
  have hin := mslot_in i hi
  have hput : ∀ j, (a.put (some (mslot i)) (mval m i)).tmps[j]? = if mslot i = j then some (mval m i) else a.tmps[j]? := fun j => by
    simp only [Act.put, Array.getElem?_setIfInBounds]
    split
    · rename_i e; subst e; rw [if_pos (by have := h.size; omega)]
    · rfl
  have e0 : ∀ n, n ≠ i → ((L n || n == i) = true) → L n = true := fun n hn hh => or_self n hh hn
  refine ⟨by simp only [Act.put, Array.size_setIfInBounds]; exact h.size, h.defs, fun j hj => ?_, fun j hj hL => ?_, h.below.trans (hb.mono h.below.size), fun hL => ?_, fun hL => ?_, fun hL => ?_, fun hL j hj => ?_, fun hL j hj => by rw [h.d32 (e0 32 (fun e => h32 e.symm) hL) j hj]; rfl⟩
  · rw [hput, if_neg (by omega)]; exact h.same j hj
  · rw [hput]
    split
    · rename_i e; rw [mslot_inj i j hi hj e]
    · rename_i e; exact h.vals j hj (e0 j (fun e' => e (by rw [e'])) hL)
  · rw [hput, if_neg (by omega)]; exact h.at0 (e0 0 (fun e => h0 e.symm) hL)
  · rw [hput, if_neg (by omega)]; exact h.at32 (e0 32 (fun e => h32 e.symm) hL)
  · obtain ⟨D, n, d1, d2, d3, d4⟩ := h.map (e0 0 (fun e => h0 e.symm) hL)
    have hf : ∀ j ∈ opsK, (L j || j == i) = L j := fun j hj => by
      have : (j == i) = false := by rw [beq_eq_false_iff_ne]; exact fun e => hk (e ▸ hj)
      rw [this, Bool.or_false]
    refine ⟨D, n, d1.kept (row := none) ⟨hb.os, hb.tape, hb.output, hb.size, fun k hk _ => hb.block k hk⟩ (by simp), ?_, fun k => ?_, fun j k hjk hL' => d4 j k hjk (e0 j (fun e => hk ?_) hL')⟩
    · rw [List.filter_congr hf]; exact d2
    · rw [d3 k]
      rw [Bool.eq_iff_iff, List.any_eq_true, List.any_eq_true]
      exact ⟨fun ⟨j, hj, hh⟩ => ⟨j, hj, by rw [hf j hj]; exact hh⟩, fun ⟨j, hj, hh⟩ => ⟨j, hj, by rw [hf j hj] at hh; exact hh⟩⟩
    · subst e
      unfold mkey at hjk
      split at hjk <;> first | (cases hjk; done) | decide
  · have hL' : L 0 = false := by
      have := Bool.or_eq_false_iff.1 hL; exact this.1
    have hn := h.none_ hL' j hj
    have : (j == i) = false := by rw [beq_eq_false_iff_ne]; exact fun e => hk (e ▸ hj)
    show (L j || j == i) = false
    rw [hn, this]; rfl
theorem mkey_mem (i : Nat) (k : Int) (h : mkey i = some k) : i ∈ opsK := by
  unfold mkey at h
  split at h <;> first | (cases h; done) | decide
theorem mkey_inj (i j : Nat) (k : Int) (hi : mkey i = some k) (hj : mkey j = some k) : i = j := by
  have hk : (opsK.all fun i => opsK.all fun j => decide (mkey i = mkey j → i = j)) = true := by kernel_rfl
  exact of_decide_eq_true (List.all_eq_true.1 (List.all_eq_true.1 hk i (mkey_mem i k hi)) j (mkey_mem j k hj)) (hi.trans hj.symm)
theorem filter_more (L : Nat → Bool) (i : Nat) (hL : L i = false) : ∀ l : List Nat, l.Nodup → i ∈ l → (l.filter fun j => L j || j == i).length = (l.filter L).length + 1
  | [], _, h => by simp at h
  | a :: r, hn, h => by
    rw [List.nodup_cons] at hn
    by_cases e : a = i
    · subst e
      have hf : ∀ j ∈ r, (L j || j == a) = L j := fun j hj => by
        have : (j == a) = false := by rw [beq_eq_false_iff_ne]; exact fun e => hn.1 (e ▸ hj)
        rw [this, Bool.or_false]
      rw [List.filter_cons, List.filter_cons, hL, List.filter_congr hf]
      simp
    · have hi : i ∈ r := by
        rcases List.mem_cons.1 h with h | h
        · exact absurd h.symm e
        · exact h
      have ih := filter_more L i hL r hn.2 hi
      have ha : (a == i) = false := by rw [beq_eq_false_iff_ne]; exact e
      rw [List.filter_cons, List.filter_cons, ha, Bool.or_false]
      split <;> simp [ih]
theorem sameT (a : Act) (v : Value) : (a.put none v).tmps = a.tmps := rfl

/-- The map is made. -/
theorem MInv.make {m : MP} {a0 a : Act} {w0 w : World} {mb : Nat} {L : Nat → Bool} (h : MInv m a0 w0 mb L a w) (hs0 : 82 ≤ a0.tmps.size) (hL0 : L 0 = false) :
    MInv m a0 w0 w.heap.size (fun j => L j || j == 0) (a.put (some 58) (.map (some w.heap.size))) (w.alloc (.map #[] 0)) := by
  have hput : ∀ j, (a.put (some 58) (.map (some w.heap.size))).tmps[j]? = if 58 = j then some (.map (some w.heap.size)) else a.tmps[j]? := fun j => by
    simp only [Act.put, Array.getElem?_setIfInBounds]
    split
    · rename_i e; subst e; rw [if_pos (by have := h.size; omega)]
    · rfl
  have h32 : L 32 = false := by
    cases hq : L 32
    · rfl
    · rw [h.d32 hq 0 (by omega)] at hL0; cases hL0
  have hn := h.none_ hL0
  have hk0 : ∀ i ∈ opsK, (L i || i == 0) = false := fun i hi => by
    rw [hn i hi, Bool.false_or, beq_eq_false_iff_ne]
    intro e; subst e; revert hi; decide
  refine ⟨by simp only [Act.put, Array.size_setIfInBounds]; exact h.size, h.defs, fun j hj => ?_, fun j hj hL => ?_, h.below.alloc h.below.size _, fun _ => ⟨by rw [hput, if_pos rfl], h.below.size⟩, fun hL => ?_, fun _ => ?_, fun hL => ?_, fun hL => ?_⟩
  · rw [hput, if_neg (by omega)]; exact h.same j hj
  · rw [hput, if_neg (by have := mslot_in j hj; omega)]
    exact h.vals j hj (or_self j hL (by intro e; subst e; revert hj; decide))
  · have hL : (L 32 || 32 == 0) = true := hL
    rw [h32] at hL; cases hL
  · refine ⟨.map [], 0, World.ownsMap_made _ _ _ _, Nat.zero_le _, fun k => ?_, fun i k hik hL => ?_⟩
    · have : (opsK.any fun i => (L i || i == 0) && decide (mkey i = some k)) = false := by
        rw [List.any_eq_false]
        intro i hi
        rw [hk0 i hi]; simp
      rw [this]; rfl
    · rw [hk0 i (mkey_mem i k hik)] at hL; cases hL
  · have hL : (L 0 || 0 == 0) = false := hL
    rw [hL0] at hL; cases hL
  · have hL : (L 32 || 32 == 0) = true := hL
    rw [h32] at hL; cases hL
/-- A text goes into the map. -/
theorem MInv.ins {m : MP} {a0 a : Act} {w0 w : World} {mb : Nat} {L : Nat → Bool} (h : MInv m a0 w0 mb L a w) (i : Nat) (k : Int) (hik : mkey i = some k) (hk : 0 ≤ k ∧ k ≤ 100) (hL0 : L 0 = true) (hLi : L i = false) (hsz : (mtxt m i).size ≤ maxLen) :
    ∃ w', (Instr.mapUpdate 77 (.map (some mb)) (.int .i64 k) (.string (mtxt m i))).run Tryz.prog w = .ok () w' ∧ MInv m a0 w0 mb (fun j => L j || j == i) a w' := by
  obtain ⟨D, n, d1, d2, d3, d4⟩ := h.map hL0
  have hwf : (Lit.int .i64 k).wf = true := WalkArith.wf_i64 (by omega)
  have hkl : WideAt.IsKeyLit (.int .i64 k) := trivial
  have hfl : (opsK.filter L).length ≤ 10 := Nat.le_trans (List.length_filter_le _ _) (by decide)
  have hmem := mkey_mem i k hik
  have hne0 : i ≠ 0 := by intro e; subst e; revert hmem; decide
  have hne32 : i ≠ 32 := by intro e; subst e; revert hmem; decide
  obtain ⟨w', hrun, hown, hgr⟩ := d1.update (int_keyed Tryz.underlying3) Tryz.underlying77 (by unfold maxLen; omega) (keyOf_int_mk Tryz.underlying3 hwf) (plainElem_string (H := Unit) Tryz.underlying9 hsz)
  have e0 : ∀ n, n ≠ i → ((L n || n == i) = true) → L n = true := fun n hn hh => or_self n hh hn
  refine ⟨w', hrun, h.size, h.defs, h.same, fun j hj hL => h.vals j hj (e0 j (fun e => ?_) hL), h.below.grown hgr h.below.size (fun j hj => by injection hj with hj; rw [← hj]; exact (h.at0 hL0).2), fun _ => h.at0 hL0, fun hL => h.at32 (e0 32 (fun e => hne32 e.symm) hL), fun _ => ?_, fun hL => ?_, fun hL j hj => by rw [h.d32 (e0 32 (fun e => hne32 e.symm) hL) j hj]; rfl⟩
  · subst e
    have hd : (opsK.all fun j => !misval j) = true := by kernel_rfl
    have := List.all_eq_true.1 hd j hmem
    rw [hj] at this; cases this
  · refine ⟨_, n + 1, hown, ?_, fun q => ?_, fun j q hjq hL zd => ?_⟩
    · rw [filter_more L i hLi opsK (by decide) hmem]; omega
    · by_cases e : q = k
      · subst e
        rw [has_put_same d1.isMap hkl]
        symm
        rw [List.any_eq_true]
        exact ⟨i, hmem, by simp [hik]⟩
      · rw [has_put_other (by intro hh; injection hh with _ hh; exact e hh), d3 q]
        rw [Bool.eq_iff_iff, List.any_eq_true, List.any_eq_true]
        constructor
        · rintro ⟨j, hj, hh⟩
          rw [Bool.and_eq_true] at hh
          exact ⟨j, hj, by rw [hh.1]; simpa using of_decide_eq_true hh.2⟩
        · rintro ⟨j, hj, hh⟩
          rw [Bool.and_eq_true] at hh
          have hne : j ≠ i := by
            intro e2; subst e2
            have := of_decide_eq_true hh.2
            rw [hik] at this; injection this with this; exact e this.symm
          exact ⟨j, hj, by rw [e0 j hne hh.1]; simpa using of_decide_eq_true hh.2⟩
    · by_cases e : j = i
      · have hjq' : k = q := Option.some.inj (hik.symm.trans (by rw [← e]; exact hjq))
        rw [← hjq', e]
        exact atKey_put_same d1.isMap hkl _ _
      · have hqk : (Lit.int .i64 q) ≠ .int .i64 k := by
          intro hh; injection hh with _ hh
          exact e (mkey_inj j i k (by rw [hjq, hh]) hik)
        exact (atKey_put_other hqk _ zd).trans (d4 j q hjq (e0 j e hL) zd)
  · have hL : (L 0 || 0 == i) = false := hL
    rw [hL0] at hL; cases hL
/-- The map's name is taken. -/
theorem MInv.m32 {m : MP} {a0 a : Act} {w0 w : World} {mb : Nat} {L : Nat → Bool} (h : MInv m a0 w0 mb L a w) (hs0 : 82 ≤ a0.tmps.size) (hall : ∀ j, j < 32 → L j = true) :
    MInv m a0 w0 mb (fun j => L j || j == 32) (a.put (some 80) (.map (some mb))) w := by
  have hput : ∀ j, (a.put (some 80) (.map (some mb))).tmps[j]? = if 80 = j then some (.map (some mb)) else a.tmps[j]? := fun j => by
    simp only [Act.put, Array.getElem?_setIfInBounds]
    split
    · rename_i e; subst e; rw [if_pos (by have := h.size; omega)]
    · rfl
  have hf : ∀ j ∈ opsK, (L j || j == 32) = L j := fun j hj => by
    have : (j == 32) = false := by rw [beq_eq_false_iff_ne]; intro e; subst e; revert hj; decide
    rw [this, Bool.or_false]
  have h0 := hall 0 (by omega)
  refine ⟨by simp only [Act.put, Array.size_setIfInBounds]; exact h.size, h.defs, fun j hj => ?_, fun j hj hL => ?_, h.below, fun _ => ⟨by rw [hput, if_neg (by omega)]; exact (h.at0 h0).1, (h.at0 h0).2⟩, fun _ => by rw [hput, if_pos rfl], fun _ => ?_, fun hL => ?_, fun _ j hj => by rw [hall j hj]; rfl⟩
  · rw [hput, if_neg (by omega)]; exact h.same j hj
  · rw [hput, if_neg (by have := mslot_in j hj; omega)]
    exact h.vals j hj (or_self j hL (by intro e; subst e; revert hj; decide))
  · obtain ⟨D, n, d1, d2, d3, d4⟩ := h.map h0
    refine ⟨D, n, d1, by rw [List.filter_congr hf]; exact d2, fun k => ?_, fun j k hjk hL => d4 j k hjk (or_self j hL (fun e => ?_))⟩
    · rw [d3 k, Bool.eq_iff_iff, List.any_eq_true, List.any_eq_true]
      exact ⟨fun ⟨j, hj, hh⟩ => ⟨j, hj, by rw [hf j hj]; exact hh⟩, fun ⟨j, hj, hh⟩ => ⟨j, hj, by rw [hf j hj] at hh; exact hh⟩⟩
    · subst e; cases hjk
  · have hL : (L 0 || 0 == 32) = false := hL
    rw [h0] at hL; cases hL
theorem MInv.start (m : MP) (a0 : Act) (w0 : World) : MInv m a0 w0 0 (fun _ => false) a0 w0.drew :=
  ⟨rfl, rfl, fun _ _ => rfl, (fun _ _ h => absurd h (by simp)), (Below.refl _ _).drew, (fun h => absurd h (by simp)), (fun h => absurd h (by simp)), (fun h => absurd h (by simp)), fun _ _ _ => rfl, (fun h => absurd h (by simp))⟩
/-- What the region leaves. -/
def MDone (m : MP) (a0 : Act) (w0 : World) (a : Act) (w : World) : Prop :=
  ∃ (mb r n cnt : Nat) (D : DataW Unit), a.tmps.size = a0.tmps.size ∧ a.defers = a0.defers ∧ (∀ j, j < 58 ∨ 81 < j → a.tmps[j]? = a0.tmps[j]?) ∧ a.tmps[81]? = some (.pointer (some ⟨r, 0, none⟩)) ∧
    w.ranges Tryz.prog 3 (plainElem Tryz.prog 9) mb r n D (Maps.has D) cnt ∧ Below w0.heap.size w0 w ∧ w0.heap.size ≤ mb ∧ w0.heap.size ≤ r ∧
    (∀ k : Int, Maps.has D (.int .i64 k) = opsK.any fun i => decide (mkey i = some k)) ∧ ∀ i k, mkey i = some k → ∀ zd, D.atKey (.int .i64 k) zd = .lit (.string (mtxt m i).data.toList)
def MI (m : MP) (a0 : Act) (w0 : World) (L : Nat → Bool) (a : Act) (w : World) : Prop :=
  (L 33 = false ∧ ∃ mb, MInv m a0 w0 mb L a w) ∨ ((∀ i, i < 34 → L i = true) ∧ MDone m a0 w0 a w)
theorem eval_tmp {a : Act} {t : Nat} {v : Value} (h : a.tmps[t]? = some v) : a.eval (.tmp t) = v := by
  simp [Act.eval, h]

set_option maxRecDepth 100000 in
set_option maxHeartbeats 8000000 in
theorem build_map {Q : Exit → Act → World → Prop} (m : MP) (a0 : Act) (w0 : World) (hs0 : 82 ≤ a0.tmps.size) (h1 : a0.tmps[1]? = some (.pointer (some ⟨m.g, 0, none⟩))) (h9 : a0.tmps[9]? = some (.string m.nm)) (hz : ZBox w0 m.g m.z)
    (hd7 : ∀ W, Calls Tryz.prog 48 #[.string m.z.birth] W fun e w' => e = .returned (.string m.d7) ∧ Below W.heap.size W w') (hd10 : ∀ W, Calls Tryz.prog 48 #[.string m.z.exp] W fun e w' => e = .returned (.string m.d10) ∧ Below W.heap.size W w')
    (hfit : ∀ i, (mtxt m i).size ≤ maxLen) (hQ : ∀ a w, MDone m a0 w0 a w → Q .normal a w) : (Code.region 11 opsMap true).wp Tryz.prog Q a0 w0 := by
  refine wp_region_inv (by kernel_rfl) (MI m a0 w0) opsMap_back (.inl ⟨rfl, 0, MInv.start m a0 w0⟩) ?_ ?_
  · intro L a w i o hI ho hLi hdep K hK
    have hi : i < 34 := by have := (Array.getElem?_eq_some_iff.1 ho).1; rw [opsMap_size] at this; exact this
    rcases hI.symm with ⟨hall, _⟩ | ⟨h33, mb, hM⟩
    · rw [hall i hi] at hLi; cases hLi
    have hcase : i = 0 ∨ i = 1 ∨ i = 2 ∨ i = 3 ∨ i = 4 ∨ i = 5 ∨ i = 6 ∨ i = 7 ∨ i = 8 ∨ i = 9 ∨ i = 10 ∨ i = 11 ∨ i = 12 ∨ i = 13 ∨ i = 14 ∨ i = 15 ∨ i = 16 ∨ i = 17 ∨ i = 18 ∨ i = 19 ∨ i = 20 ∨ i = 21 ∨ i = 22 ∨ i = 23 ∨ i = 24 ∨ i = 25 ∨ i = 26 ∨ i = 27 ∨ i = 28 ∨ i = 29 ∨ i = 30 ∨ i = 31 ∨ i = 32 ∨ i = 33 := by omega
    rcases hcase with rfl | rfl | rfl | rfl | rfl | rfl | rfl | rfl | rfl | rfl | rfl | rfl | rfl | rfl | rfl | rfl | rfl | rfl | rfl | rfl | rfl | rfl | rfl | rfl | rfl | rfl | rfl | rfl | rfl | rfl | rfl | rfl | rfl | rfl
    · have he := Option.some.inj (ho.symm.trans (show opsMap[0]? = some ⟨_, _, _, _, _, _⟩ from rfl))
      subst he
      go_simp
      exact hK _ _ (.inl ⟨by show (L 33 || 33 == 0) = false; rw [h33]; rfl, _, hM.make hs0 hLi⟩)
    · have he := Option.some.inj (ho.symm.trans (show opsMap[1]? = some ⟨_, _, _, _, _, _⟩ from rfl))
      subst he
      have t1 := (hM.same 1 (by omega)).trans h1
      go_simp
      exact hK _ _ (.inl ⟨by show (L 33 || 33 == 1) = false; rw [h33]; rfl, mb, hM.val hs0 1 rfl _ (Below.refl _ _) (by omega) (by omega) (by decide)⟩)
    · have he := Option.some.inj (ho.symm.trans (show opsMap[2]? = some ⟨_, _, _, _, _, _⟩ from rfl))
      subst he
      have d1 : L 1 = true := hdep { on := 1, ground := .data } (by simp) rfl
      have t1 : a.tmps[59]? = some (.pointer (some ⟨m.g, 1, none⟩)) := hM.vals 1 rfl d1
      have hc := (hz.later hM.below).cells
      obtain ⟨x0, x1, x2, x3, x4, x5, x6, x7, x8, x9, x10, x11⟩ := hc
      go_simp
      exact hK _ _ (.inl ⟨by show (L 33 || 33 == 2) = false; rw [h33]; rfl, mb, hM.val hs0 2 rfl _ (Below.refl _ _) (by omega) (by omega) (by decide)⟩)
    · have he := Option.some.inj (ho.symm.trans (show opsMap[3]? = some ⟨_, _, _, _, _, _⟩ from rfl))
      subst he
      have d0 : L 0 = true := hdep { on := 0, ground := .data } (by simp) rfl
      have d2 : L 2 = true := hdep { on := 2, ground := .data } (by simp) rfl
      have t0 := (hM.at0 d0).1
      have t1 : a.tmps[60]? = some (.string m.z.kind) := hM.vals 2 rfl d2
      obtain ⟨w', hrun, hM'⟩ := hM.ins 3 0 rfl (by omega) d0 hLi (hfit _)
      have hrun' : (Instr.mapUpdate 77 (.map (some mb)) (.int .i64 0) (.string m.z.kind)).run Tryz.prog w = .ok () w' := hrun
      clear hrun
      go_simp
      exact hK _ _ (.inl ⟨by show (L 33 || 33 == 3) = false; rw [h33]; rfl, mb, hM'⟩)
    · have he := Option.some.inj (ho.symm.trans (show opsMap[4]? = some ⟨_, _, _, _, _, _⟩ from rfl))
      subst he
      have t1 := (hM.same 1 (by omega)).trans h1
      go_simp
      exact hK _ _ (.inl ⟨by show (L 33 || 33 == 4) = false; rw [h33]; rfl, mb, hM.val hs0 4 rfl _ (Below.refl _ _) (by omega) (by omega) (by decide)⟩)
    · have he := Option.some.inj (ho.symm.trans (show opsMap[5]? = some ⟨_, _, _, _, _, _⟩ from rfl))
      subst he
      have d4 : L 4 = true := hdep { on := 4, ground := .data } (by simp) rfl
      have t1 : a.tmps[61]? = some (.pointer (some ⟨m.g, 2, none⟩)) := hM.vals 4 rfl d4
      have hc := (hz.later hM.below).cells
      obtain ⟨x0, x1, x2, x3, x4, x5, x6, x7, x8, x9, x10, x11⟩ := hc
      go_simp
      exact hK _ _ (.inl ⟨by show (L 33 || 33 == 5) = false; rw [h33]; rfl, mb, hM.val hs0 5 rfl _ (Below.refl _ _) (by omega) (by omega) (by decide)⟩)
    · have he := Option.some.inj (ho.symm.trans (show opsMap[6]? = some ⟨_, _, _, _, _, _⟩ from rfl))
      subst he
      have d0 : L 0 = true := hdep { on := 0, ground := .data } (by simp) rfl
      have d5 : L 5 = true := hdep { on := 5, ground := .data } (by simp) rfl
      have t0 := (hM.at0 d0).1
      have t1 : a.tmps[62]? = some (.string m.z.state) := hM.vals 5 rfl d5
      obtain ⟨w', hrun, hM'⟩ := hM.ins 6 1 rfl (by omega) d0 hLi (hfit _)
      have hrun' : (Instr.mapUpdate 77 (.map (some mb)) (.int .i64 1) (.string m.z.state)).run Tryz.prog w = .ok () w' := hrun
      clear hrun
      go_simp
      exact hK _ _ (.inl ⟨by show (L 33 || 33 == 6) = false; rw [h33]; rfl, mb, hM'⟩)
    · have he := Option.some.inj (ho.symm.trans (show opsMap[7]? = some ⟨_, _, _, _, _, _⟩ from rfl))
      subst he
      have t1 := (hM.same 9 (by omega)).trans h9
      go_simp
      exact hK _ _ (.inl ⟨by show (L 33 || 33 == 7) = false; rw [h33]; rfl, mb, hM.val hs0 7 rfl _ (Below.refl _ _) (by omega) (by omega) (by decide)⟩)
    · have he := Option.some.inj (ho.symm.trans (show opsMap[8]? = some ⟨_, _, _, _, _, _⟩ from rfl))
      subst he
      have d0 : L 0 = true := hdep { on := 0, ground := .data } (by simp) rfl
      have d7 : L 7 = true := hdep { on := 7, ground := .data } (by simp) rfl
      have t0 := (hM.at0 d0).1
      have t1 : a.tmps[63]? = some (.string m.nm) := hM.vals 7 rfl d7
      obtain ⟨w', hrun, hM'⟩ := hM.ins 8 2 rfl (by omega) d0 hLi (hfit _)
      have hrun' : (Instr.mapUpdate 77 (.map (some mb)) (.int .i64 2) (.string m.nm)).run Tryz.prog w = .ok () w' := hrun
      clear hrun
      go_simp
      exact hK _ _ (.inl ⟨by show (L 33 || 33 == 8) = false; rw [h33]; rfl, mb, hM'⟩)
    · have he := Option.some.inj (ho.symm.trans (show opsMap[9]? = some ⟨_, _, _, _, _, _⟩ from rfl))
      subst he
      have t1 := (hM.same 1 (by omega)).trans h1
      go_simp
      exact hK _ _ (.inl ⟨by show (L 33 || 33 == 9) = false; rw [h33]; rfl, mb, hM.val hs0 9 rfl _ (Below.refl _ _) (by omega) (by omega) (by decide)⟩)
    · have he := Option.some.inj (ho.symm.trans (show opsMap[10]? = some ⟨_, _, _, _, _, _⟩ from rfl))
      subst he
      have d9 : L 9 = true := hdep { on := 9, ground := .data } (by simp) rfl
      have t1 : a.tmps[64]? = some (.pointer (some ⟨m.g, 6, none⟩)) := hM.vals 9 rfl d9
      have hc := (hz.later hM.below).cells
      obtain ⟨x0, x1, x2, x3, x4, x5, x6, x7, x8, x9, x10, x11⟩ := hc
      go_simp
      exact hK _ _ (.inl ⟨by show (L 33 || 33 == 10) = false; rw [h33]; rfl, mb, hM.val hs0 10 rfl _ (Below.refl _ _) (by omega) (by omega) (by decide)⟩)
    · have he := Option.some.inj (ho.symm.trans (show opsMap[11]? = some ⟨_, _, _, _, _, _⟩ from rfl))
      subst he
      have d0 : L 0 = true := hdep { on := 0, ground := .data } (by simp) rfl
      have d10 : L 10 = true := hdep { on := 10, ground := .data } (by simp) rfl
      have t0 := (hM.at0 d0).1
      have t1 : a.tmps[65]? = some (.string m.z.nat) := hM.vals 10 rfl d10
      obtain ⟨w', hrun, hM'⟩ := hM.ins 11 5 rfl (by omega) d0 hLi (hfit _)
      have hrun' : (Instr.mapUpdate 77 (.map (some mb)) (.int .i64 5) (.string m.z.nat)).run Tryz.prog w = .ok () w' := hrun
      clear hrun
      go_simp
      exact hK _ _ (.inl ⟨by show (L 33 || 33 == 11) = false; rw [h33]; rfl, mb, hM'⟩)
    · have he := Option.some.inj (ho.symm.trans (show opsMap[12]? = some ⟨_, _, _, _, _, _⟩ from rfl))
      subst he
      have t1 := (hM.same 1 (by omega)).trans h1
      go_simp
      exact hK _ _ (.inl ⟨by show (L 33 || 33 == 12) = false; rw [h33]; rfl, mb, hM.val hs0 12 rfl _ (Below.refl _ _) (by omega) (by omega) (by decide)⟩)
    · have he := Option.some.inj (ho.symm.trans (show opsMap[13]? = some ⟨_, _, _, _, _, _⟩ from rfl))
      subst he
      have d12 : L 12 = true := hdep { on := 12, ground := .data } (by simp) rfl
      have t1 : a.tmps[66]? = some (.pointer (some ⟨m.g, 7, none⟩)) := hM.vals 12 rfl d12
      have hc := (hz.later hM.below).cells
      obtain ⟨x0, x1, x2, x3, x4, x5, x6, x7, x8, x9, x10, x11⟩ := hc
      go_simp
      exact hK _ _ (.inl ⟨by show (L 33 || 33 == 13) = false; rw [h33]; rfl, mb, hM.val hs0 13 rfl _ (Below.refl _ _) (by omega) (by omega) (by decide)⟩)
    · have he := Option.some.inj (ho.symm.trans (show opsMap[14]? = some ⟨_, _, _, _, _, _⟩ from rfl))
      subst he
      have d0 : L 0 = true := hdep { on := 0, ground := .data } (by simp) rfl
      have d13 : L 13 = true := hdep { on := 13, ground := .data } (by simp) rfl
      have t0 := (hM.at0 d0).1
      have t1 : a.tmps[67]? = some (.string m.z.birth) := hM.vals 13 rfl d13
      obtain ⟨w', hrun, hM'⟩ := hM.ins 14 6 rfl (by omega) d0 hLi (hfit _)
      have hrun' : (Instr.mapUpdate 77 (.map (some mb)) (.int .i64 6) (.string m.z.birth)).run Tryz.prog w = .ok () w' := hrun
      clear hrun
      go_simp
      exact hK _ _ (.inl ⟨by show (L 33 || 33 == 14) = false; rw [h33]; rfl, mb, hM'⟩)
    · have he := Option.some.inj (ho.symm.trans (show opsMap[15]? = some ⟨_, _, _, _, _, _⟩ from rfl))
      subst he
      have t1 := (hM.same 1 (by omega)).trans h1
      go_simp
      exact hK _ _ (.inl ⟨by show (L 33 || 33 == 15) = false; rw [h33]; rfl, mb, hM.val hs0 15 rfl _ (Below.refl _ _) (by omega) (by omega) (by decide)⟩)
    · have he := Option.some.inj (ho.symm.trans (show opsMap[16]? = some ⟨_, _, _, _, _, _⟩ from rfl))
      subst he
      have d15 : L 15 = true := hdep { on := 15, ground := .data } (by simp) rfl
      have t1 : a.tmps[68]? = some (.pointer (some ⟨m.g, 7, none⟩)) := hM.vals 15 rfl d15
      have hc := (hz.later hM.below).cells
      obtain ⟨x0, x1, x2, x3, x4, x5, x6, x7, x8, x9, x10, x11⟩ := hc
      go_simp
      exact hK _ _ (.inl ⟨by show (L 33 || 33 == 16) = false; rw [h33]; rfl, mb, hM.val hs0 16 rfl _ (Below.refl _ _) (by omega) (by omega) (by decide)⟩)
    · have he := Option.some.inj (ho.symm.trans (show opsMap[17]? = some ⟨_, _, _, _, _, _⟩ from rfl))
      subst he
      have d16 : L 16 = true := hdep { on := 16, ground := .data } (by simp) rfl
      have t1 : a.tmps[69]? = some (.string m.z.birth) := hM.vals 16 rfl d16
      go_simp
      go_at_call 48
      refine (hd7 _).mono ?_; rintro e w' ⟨rfl, hb⟩
      exact hK _ _ (.inl ⟨by show (L 33 || 33 == 17) = false; rw [h33]; rfl, mb, hM.val hs0 17 rfl _ hb (by omega) (by omega) (by decide)⟩)
    · have he := Option.some.inj (ho.symm.trans (show opsMap[18]? = some ⟨_, _, _, _, _, _⟩ from rfl))
      subst he
      have d0 : L 0 = true := hdep { on := 0, ground := .data } (by simp) rfl
      have d17 : L 17 = true := hdep { on := 17, ground := .data } (by simp) rfl
      have t0 := (hM.at0 d0).1
      have t1 : a.tmps[70]? = some (.string m.d7) := hM.vals 17 rfl d17
      obtain ⟨w', hrun, hM'⟩ := hM.ins 18 7 rfl (by omega) d0 hLi (hfit _)
      have hrun' : (Instr.mapUpdate 77 (.map (some mb)) (.int .i64 7) (.string m.d7)).run Tryz.prog w = .ok () w' := hrun
      clear hrun
      go_simp
      exact hK _ _ (.inl ⟨by show (L 33 || 33 == 18) = false; rw [h33]; rfl, mb, hM'⟩)
    · have he := Option.some.inj (ho.symm.trans (show opsMap[19]? = some ⟨_, _, _, _, _, _⟩ from rfl))
      subst he
      have t1 := (hM.same 1 (by omega)).trans h1
      go_simp
      exact hK _ _ (.inl ⟨by show (L 33 || 33 == 19) = false; rw [h33]; rfl, mb, hM.val hs0 19 rfl _ (Below.refl _ _) (by omega) (by omega) (by decide)⟩)
    · have he := Option.some.inj (ho.symm.trans (show opsMap[20]? = some ⟨_, _, _, _, _, _⟩ from rfl))
      subst he
      have d19 : L 19 = true := hdep { on := 19, ground := .data } (by simp) rfl
      have t1 : a.tmps[71]? = some (.pointer (some ⟨m.g, 8, none⟩)) := hM.vals 19 rfl d19
      have hc := (hz.later hM.below).cells
      obtain ⟨x0, x1, x2, x3, x4, x5, x6, x7, x8, x9, x10, x11⟩ := hc
      go_simp
      exact hK _ _ (.inl ⟨by show (L 33 || 33 == 20) = false; rw [h33]; rfl, mb, hM.val hs0 20 rfl _ (Below.refl _ _) (by omega) (by omega) (by decide)⟩)
    · have he := Option.some.inj (ho.symm.trans (show opsMap[21]? = some ⟨_, _, _, _, _, _⟩ from rfl))
      subst he
      have d0 : L 0 = true := hdep { on := 0, ground := .data } (by simp) rfl
      have d20 : L 20 = true := hdep { on := 20, ground := .data } (by simp) rfl
      have t0 := (hM.at0 d0).1
      have t1 : a.tmps[72]? = some (.string m.z.sex) := hM.vals 20 rfl d20
      obtain ⟨w', hrun, hM'⟩ := hM.ins 21 8 rfl (by omega) d0 hLi (hfit _)
      have hrun' : (Instr.mapUpdate 77 (.map (some mb)) (.int .i64 8) (.string m.z.sex)).run Tryz.prog w = .ok () w' := hrun
      clear hrun
      go_simp
      exact hK _ _ (.inl ⟨by show (L 33 || 33 == 21) = false; rw [h33]; rfl, mb, hM'⟩)
    · have he := Option.some.inj (ho.symm.trans (show opsMap[22]? = some ⟨_, _, _, _, _, _⟩ from rfl))
      subst he
      have t1 := (hM.same 1 (by omega)).trans h1
      go_simp
      exact hK _ _ (.inl ⟨by show (L 33 || 33 == 22) = false; rw [h33]; rfl, mb, hM.val hs0 22 rfl _ (Below.refl _ _) (by omega) (by omega) (by decide)⟩)
    · have he := Option.some.inj (ho.symm.trans (show opsMap[23]? = some ⟨_, _, _, _, _, _⟩ from rfl))
      subst he
      have d22 : L 22 = true := hdep { on := 22, ground := .data } (by simp) rfl
      have t1 : a.tmps[73]? = some (.pointer (some ⟨m.g, 9, none⟩)) := hM.vals 22 rfl d22
      have hc := (hz.later hM.below).cells
      obtain ⟨x0, x1, x2, x3, x4, x5, x6, x7, x8, x9, x10, x11⟩ := hc
      go_simp
      exact hK _ _ (.inl ⟨by show (L 33 || 33 == 23) = false; rw [h33]; rfl, mb, hM.val hs0 23 rfl _ (Below.refl _ _) (by omega) (by omega) (by decide)⟩)
    · have he := Option.some.inj (ho.symm.trans (show opsMap[24]? = some ⟨_, _, _, _, _, _⟩ from rfl))
      subst he
      have d0 : L 0 = true := hdep { on := 0, ground := .data } (by simp) rfl
      have d23 : L 23 = true := hdep { on := 23, ground := .data } (by simp) rfl
      have t0 := (hM.at0 d0).1
      have t1 : a.tmps[74]? = some (.string m.z.exp) := hM.vals 23 rfl d23
      obtain ⟨w', hrun, hM'⟩ := hM.ins 24 9 rfl (by omega) d0 hLi (hfit _)
      have hrun' : (Instr.mapUpdate 77 (.map (some mb)) (.int .i64 9) (.string m.z.exp)).run Tryz.prog w = .ok () w' := hrun
      clear hrun
      go_simp
      exact hK _ _ (.inl ⟨by show (L 33 || 33 == 24) = false; rw [h33]; rfl, mb, hM'⟩)
    · have he := Option.some.inj (ho.symm.trans (show opsMap[25]? = some ⟨_, _, _, _, _, _⟩ from rfl))
      subst he
      have t1 := (hM.same 1 (by omega)).trans h1
      go_simp
      exact hK _ _ (.inl ⟨by show (L 33 || 33 == 25) = false; rw [h33]; rfl, mb, hM.val hs0 25 rfl _ (Below.refl _ _) (by omega) (by omega) (by decide)⟩)
    · have he := Option.some.inj (ho.symm.trans (show opsMap[26]? = some ⟨_, _, _, _, _, _⟩ from rfl))
      subst he
      have d25 : L 25 = true := hdep { on := 25, ground := .data } (by simp) rfl
      have t1 : a.tmps[75]? = some (.pointer (some ⟨m.g, 9, none⟩)) := hM.vals 25 rfl d25
      have hc := (hz.later hM.below).cells
      obtain ⟨x0, x1, x2, x3, x4, x5, x6, x7, x8, x9, x10, x11⟩ := hc
      go_simp
      exact hK _ _ (.inl ⟨by show (L 33 || 33 == 26) = false; rw [h33]; rfl, mb, hM.val hs0 26 rfl _ (Below.refl _ _) (by omega) (by omega) (by decide)⟩)
    · have he := Option.some.inj (ho.symm.trans (show opsMap[27]? = some ⟨_, _, _, _, _, _⟩ from rfl))
      subst he
      have d26 : L 26 = true := hdep { on := 26, ground := .data } (by simp) rfl
      have d17 : L 17 = true := hdep { on := 17, ground := .chain } (by simp) rfl
      have t1 : a.tmps[76]? = some (.string m.z.exp) := hM.vals 26 rfl d26
      go_simp
      go_at_call 48
      refine (hd10 _).mono ?_; rintro e w' ⟨rfl, hb⟩
      exact hK _ _ (.inl ⟨by show (L 33 || 33 == 27) = false; rw [h33]; rfl, mb, hM.val hs0 27 rfl _ hb (by omega) (by omega) (by decide)⟩)
    · have he := Option.some.inj (ho.symm.trans (show opsMap[28]? = some ⟨_, _, _, _, _, _⟩ from rfl))
      subst he
      have d0 : L 0 = true := hdep { on := 0, ground := .data } (by simp) rfl
      have d27 : L 27 = true := hdep { on := 27, ground := .data } (by simp) rfl
      have t0 := (hM.at0 d0).1
      have t1 : a.tmps[77]? = some (.string m.d10) := hM.vals 27 rfl d27
      obtain ⟨w', hrun, hM'⟩ := hM.ins 28 10 rfl (by omega) d0 hLi (hfit _)
      have hrun' : (Instr.mapUpdate 77 (.map (some mb)) (.int .i64 10) (.string m.d10)).run Tryz.prog w = .ok () w' := hrun
      clear hrun
      go_simp
      exact hK _ _ (.inl ⟨by show (L 33 || 33 == 28) = false; rw [h33]; rfl, mb, hM'⟩)
    · have he := Option.some.inj (ho.symm.trans (show opsMap[29]? = some ⟨_, _, _, _, _, _⟩ from rfl))
      subst he
      have t1 := (hM.same 1 (by omega)).trans h1
      go_simp
      exact hK _ _ (.inl ⟨by show (L 33 || 33 == 29) = false; rw [h33]; rfl, mb, hM.val hs0 29 rfl _ (Below.refl _ _) (by omega) (by omega) (by decide)⟩)
    · have he := Option.some.inj (ho.symm.trans (show opsMap[30]? = some ⟨_, _, _, _, _, _⟩ from rfl))
      subst he
      have d29 : L 29 = true := hdep { on := 29, ground := .data } (by simp) rfl
      have t1 : a.tmps[78]? = some (.pointer (some ⟨m.g, 11, none⟩)) := hM.vals 29 rfl d29
      have hc := (hz.later hM.below).cells
      obtain ⟨x0, x1, x2, x3, x4, x5, x6, x7, x8, x9, x10, x11⟩ := hc
      go_simp
      exact hK _ _ (.inl ⟨by show (L 33 || 33 == 30) = false; rw [h33]; rfl, mb, hM.val hs0 30 rfl _ (Below.refl _ _) (by omega) (by omega) (by decide)⟩)
    · have he := Option.some.inj (ho.symm.trans (show opsMap[31]? = some ⟨_, _, _, _, _, _⟩ from rfl))
      subst he
      have d0 : L 0 = true := hdep { on := 0, ground := .data } (by simp) rfl
      have d30 : L 30 = true := hdep { on := 30, ground := .data } (by simp) rfl
      have t0 := (hM.at0 d0).1
      have t1 : a.tmps[79]? = some (.string m.z.sec) := hM.vals 30 rfl d30
      obtain ⟨w', hrun, hM'⟩ := hM.ins 31 13 rfl (by omega) d0 hLi (hfit _)
      have hrun' : (Instr.mapUpdate 77 (.map (some mb)) (.int .i64 13) (.string m.z.sec)).run Tryz.prog w = .ok () w' := hrun
      clear hrun
      go_simp
      exact hK _ _ (.inl ⟨by show (L 33 || 33 == 31) = false; rw [h33]; rfl, mb, hM'⟩)
    · have he := Option.some.inj (ho.symm.trans (show opsMap[32]? = some ⟨_, _, _, _, _, _⟩ from rfl))
      subst he
      have hall : ∀ j, j < 32 → L j = true := by
        intro j hj
        have hj' : j = 0 ∨ j = 1 ∨ j = 2 ∨ j = 3 ∨ j = 4 ∨ j = 5 ∨ j = 6 ∨ j = 7 ∨ j = 8 ∨ j = 9 ∨ j = 10 ∨ j = 11 ∨ j = 12 ∨ j = 13 ∨ j = 14 ∨ j = 15 ∨ j = 16 ∨ j = 17 ∨ j = 18 ∨ j = 19 ∨ j = 20 ∨ j = 21 ∨ j = 22 ∨ j = 23 ∨ j = 24 ∨ j = 25 ∨ j = 26 ∨ j = 27 ∨ j = 28 ∨ j = 29 ∨ j = 30 ∨ j = 31 := by omega
        rcases hj' with rfl | rfl | rfl | rfl | rfl | rfl | rfl | rfl | rfl | rfl | rfl | rfl | rfl | rfl | rfl | rfl | rfl | rfl | rfl | rfl | rfl | rfl | rfl | rfl | rfl | rfl | rfl | rfl | rfl | rfl | rfl | rfl <;> exact hdep { on := _, ground := .data } (by simp) rfl
      have t0 := (hM.at0 (hall 0 (by omega))).1
      go_simp
      exact hK _ _ (.inl ⟨by show (L 33 || 33 == 32) = false; rw [h33]; rfl, mb, hM.m32 hs0 hall⟩)
    · have he := Option.some.inj (ho.symm.trans (show opsMap[33]? = some ⟨_, _, _, _, _, _⟩ from rfl))
      subst he
      have d32 : L 32 = true := hdep { on := 32, ground := .data } (by simp) rfl
      have t0 := hM.at32 d32
      have hall := hM.d32 d32
      obtain ⟨D, n, q1, q2, q3, q4⟩ := hM.map (hall 0 (by omega))
      obtain ⟨w', hrun, hrg, hgr, hsz⟩ := q1.range (int_keyed Tryz.underlying3) Tryz.underlying77
      go_simp
      have hall2 : ∀ j, j < 34 → (L j || j == 33) = true := fun j hj => by
        rcases Nat.lt_or_ge j 32 with h | h
        · rw [hall j h]; rfl
        · have : j = 32 ∨ j = 33 := by omega
          rcases this with rfl | rfl
          · rw [d32]; rfl
          · simp
      have hput : ∀ j, (a.put (some 81) (.pointer (some ⟨w.heap.size, 0, none⟩))).tmps[j]? = if 81 = j then some (.pointer (some ⟨w.heap.size, 0, none⟩)) else a.tmps[j]? := fun j => by
        simp only [Act.put, Array.getElem?_setIfInBounds]
        split
        · rename_i e; subst e; rw [if_pos (by have := hM.size; omega)]
        · rfl
      have hps : (a.put (some 81) (.pointer (some ⟨w.heap.size, 0, none⟩))).tmps.size = a0.tmps.size := by simp only [Act.put, Array.size_setIfInBounds]; exact hM.size
      refine hK _ _ (.inr ⟨hall2, mb, w.heap.size, n, _, D, hps, hM.defs, fun j hj => (hput j).trans (by rw [if_neg (by omega)]; exact hM.same j hj), (hput 81).trans (if_pos rfl), hrg, hM.below.grown hgr hM.below.size (fun j hj => by cases hj), (hM.at0 (hall 0 (by omega))).2, hM.below.size, fun k => ?_, fun i k hik => ?_⟩)
      · rw [q3 k, Bool.eq_iff_iff, List.any_eq_true, List.any_eq_true]
        have hk : ∀ i ∈ opsK, i < 32 := by decide
        exact ⟨fun ⟨j, hj, hh⟩ => ⟨j, hj, (Bool.and_eq_true_iff.1 hh).2⟩, fun ⟨j, hj, hh⟩ => ⟨j, hj, by rw [hall j (hk j hj)]; exact hh⟩⟩
      · have hk : ∀ i ∈ opsK, i < 32 := by decide
        exact q4 i k hik (hall i (hk i (mkey_mem i k hik)))
  · intro L a w hall hI
    rcases hI with ⟨h33, _⟩ | ⟨_, hd⟩
    · have := hall 33 (by rw [opsMap_size]; omega)
      rw [h33] at this; cases this
    · exact hQ a w hd
end Go.Proofs.YtelngghecmkipaaGreatDoor

namespace Go.Proofs.YtelngghecmkipaaGreatDoor
open Go.RowKit

/-- The fields' texts, while the keys of 'left' are still to come. -/
noncomputable def midF (m : MP) (F : Nat) (left : Lit → Bool) (i : Nat) : List UInt8 :=
  match opsK.find? fun o => decide (mkey o = some (i : Int)) with
  | some o => if left (.int .i64 i) = true then List.replicate (Zn.wd F i) 60 else Zn.wide_ (mtxt m o).data.toList (Zn.wd F i)
  | none => List.replicate (Zn.wd F i) 60
theorem mid_wide (m : MP) (F : Nat) (left : Lit → Bool) : Zn.Wide F (midF m F left) := fun i => by
  unfold midF
  split
  · split
    · rw [List.length_replicate]
    · rw [Zn.wide_len]
  · rw [List.length_replicate]
theorem mkey_nat {o : Nat} {k : Int} (h : mkey o = some k) : ∃ i : Nat, k = (i : Int) ∧ i < 15 := by
  unfold mkey at h
  split at h <;> first | (cases h; exact ⟨_, rfl, by decide⟩) | cases h
theorem find_key {o i : Nat} (h : mkey o = some (i : Int)) : (opsK.find? fun o => decide (mkey o = some (i : Int))) = some o := by
  cases e : opsK.find? fun o => decide (mkey o = some (i : Int)) with
  | none =>
    have := List.find?_eq_none.1 e o (mkey_mem o _ h)
    exact absurd (decide_eq_true h) this
  | some o' =>
    have h' := of_decide_eq_true (List.find?_some (p := fun o => decide (mkey o = some (i : Int))) e)
    rw [mkey_inj o' o _ h' h]
theorem mid_step (m : MP) (F : Nat) (left : Lit → Bool) {o i : Nat} (h : mkey o = some (i : Int)) :
    midF m F (fun z => left z && !z.sameKey (.int .i64 i)) = Zn.upd (midF m F left) i (Zn.wide_ (mtxt m o).data.toList (Zn.wd F i)) := by
  funext j
  unfold Zn.upd
  by_cases e : j = i
  · subst e
    rw [if_pos rfl]
    unfold midF
    rw [find_key h]
    simp [Lit.sameKey]
  · rw [if_neg e]
    unfold midF
    have hne : (Lit.int .i64 (j : Int)).sameKey (.int .i64 (i : Int)) = false := by
      unfold Lit.sameKey
      rw [decide_eq_false_iff_not]
      rintro ⟨_, h2⟩; exact e (by omega)
    dsimp only
    simp only [hne, Bool.not_false, Bool.and_true]
theorem mid_start (m : MP) (F : Nat) (left : Lit → Bool) (h : ∀ k : Int, left (.int .i64 k) = opsK.any fun i => decide (mkey i = some k)) : midF m F left = fun i => List.replicate (Zn.wd F i) 60 := by
  funext i
  unfold midF
  split
  · rename_i o e
    have h' := List.find?_some (p := fun o => decide (mkey o = some (i : Int))) e
    rw [if_pos (by rw [h]; exact List.any_eq_true.2 ⟨o, List.mem_of_find?_eq_some e, h'⟩)]
  · rfl
/-- The sheet in the loop: its lines, and their row, lie below what the loop goes by. -/
def BM (w : World) (z : Zn.Z) (g5 g8 F bnd : Nat) (Fn : Nat → List UInt8) (W : World) : Prop :=
  ZBox W w.heap.size z ∧ LayAt W g5 (Zn.lay F) ∧ Below w.heap.size w W ∧ ∃ rows, SheetAt W (g8 + 1) g8 F rows ∧ Ln.txt rows = Zn.asm F Fn ∧ (∀ k ∈ rows.map (·.1), k < bnd) ∧ (∀ v, SheetIs W g8 (Zn.lay F) v → ∀ b, v.ownBlock = some b → b < bnd) ∧ g5 < g8 ∧ w.heap.size < g5 ∧ g8 < bnd
theorem SheetAt.lt {W : World} {base g F : Nat} {rows : List Ln} (h : SheetAt W base g F rows) : g < W.heap.size := by
  obtain ⟨v, h1, _⟩ := h; exact h1.lt
theorem BM.later {w W W' : World} {z : Zn.Z} {g5 g8 F bnd : Nat} {Fn : Nat → List UInt8} (h : BM w z g5 g8 F bnd Fn W) (hb : Below W.heap.size W W') : BM w z g5 g8 F bnd Fn W' := by
  obtain ⟨h1, h2, h3, rows, h4, h5, h6, h7, h8⟩ := h
  exact ⟨h1.later hb, h2.later hb, h3.trans (hb.mono h3.size), rows, h4.later hb, h5, h6, fun v hv => h7 v ((hb.block g8 h4.lt).symm.trans hv), h8⟩
/-- A row that lies beyond the bound is written. -/
theorem BM.beyond {w W W' : World} {z : Zn.Z} {g5 g8 F bnd r : Nat} {Fn : Nat → List UInt8} (h : BM w z g5 g8 F bnd Fn W) (hg : W.grownBy W' (some r)) (hr : bnd ≤ r) : BM w z g5 g8 F bnd Fn W' := by
  obtain ⟨h1, h2, h3, rows, h4, h5, h6, h7, h8, h9, h10⟩ := h
  have h48 := h4.lt
  refine ⟨h1.grown hg (by simp; omega), (hg.block g5 (Array.getElem?_eq_some_iff.1 h2).1 (by simp; omega)).trans h2, ⟨hg.os.trans h3.os, hg.tape.trans h3.tape, hg.output.trans h3.output, Nat.le_trans h3.size hg.size, fun j hj => (hg.block j (Nat.lt_of_lt_of_le hj h3.size) (by simp; omega)).trans (h3.block j hj)⟩, rows, ?_, h5, h6, fun v hv => h7 v ((hg.block g8 h48 (by simp; omega)).symm.trans hv), h8, h9, h10⟩
  obtain ⟨v, s1, s2, s3⟩ := h4
  refine ⟨v, s1.grown hg (by simp; omega), ⟨s2.1.kept hg ?_, s2.2.1, fun x hx => ?_⟩, s3⟩
  · rcases hv : v.ownBlock with _ | b
    · exact .inl rfl
    · refine .inr ?_
      have := h7 v s1 b hv
      simp; omega
  · obtain ⟨a1, a2, a3, a4, a5⟩ := s2.2.2 x hx
    have hx1 := h6 x.1 (List.mem_map.2 ⟨x, hx, rfl⟩)
    exact ⟨a1, Nat.lt_of_lt_of_le a2 hg.size, a3, a4, a5.grown hg (by simp; omega) a2⟩
theorem bm_put {w W : World} {z : Zn.Z} {g5 g8 F bnd : Nat} {Fn : Nat → List UInt8} (h : BM w z g5 g8 F bnd Fn W) (hF : 1 ≤ F ∧ F ≤ 3) (hW : Zn.Wide F Fn) (i : Nat) (hi : i < 15) (t : ByteArray) (ht : t.size ≤ 140737488355328) :
    Calls Tryz.prog 49 #[.pointer (some ⟨g8, 0, none⟩), .int .i64 i, .string t] W fun e W' => e = .returned (.tuple #[]) ∧ BM w z g5 g8 F bnd (Zn.upd Fn i (Zn.wide_ t.data.toList (Zn.wd F i))) W' ∧ ∃ k, g8 < k ∧ k < bnd ∧ W.grownBy W' (some k) := by
  obtain ⟨h1, h2, h3, rows, h4, h5, h6, h7, h8, h9, h10⟩ := h
  have hS := Zn.asm_len F hF Fn hW
  rw [← h5] at hS
  have hp := zput W (g8 + 1) g8 F rows hF h4 hS i hi t.data.toList (by rw [Opt.size_len]; exact ht)
  refine hp.mono ?_
  rintro e W' ⟨rfl, rows', r1, r2, r3, r4, k, hk, hg⟩
  have hk8 : g8 < k := by
    obtain ⟨r, hr, rfl⟩ := List.mem_map.1 hk
    obtain ⟨v, _, hl, _⟩ := h4
    have := (hl.2.2 r hr).1
    omega
  have hkb := h6 k hk
  refine ⟨rfl, ⟨h1.grown hg (by simp; omega), (hg.block g5 (Array.getElem?_eq_some_iff.1 h2).1 (by simp; omega)).trans h2, ⟨hg.os.trans h3.os, hg.tape.trans h3.tape, hg.output.trans h3.output, Nat.le_trans h3.size hg.size, fun j hj => (hg.block j (Nat.lt_of_lt_of_le hj h3.size) (by simp; omega)).trans (h3.block j hj)⟩, rows', r1, ?_, fun j hj => h6 j (by rw [← r2]; exact hj), fun v hv => h7 v ((hg.block g8 h4.lt (by simp; omega)).symm.trans hv), h8, h9, h10⟩, k, hk8, hkb, hg⟩
  rw [r3, h5, Zn.put_asm F hF Fn hW i hi]
theorem bm_get {w W : World} {z : Zn.Z} {g5 g8 F bnd : Nat} {Fn : Nat → List UInt8} (h : BM w z g5 g8 F bnd Fn W) (hF : 1 ≤ F ∧ F ≤ 3) (hW : Zn.Wide F Fn) (i : Nat) (hi : i < 15) :
    Calls Tryz.prog 34 #[.pointer (some ⟨g8, 0, none⟩), .int .i64 i] W fun e W' => e = .returned (.string ⟨(Fn i).toArray⟩) ∧ BM w z g5 g8 F bnd Fn W' := by
  have h' := h
  obtain ⟨h1, h2, h3, rows, h4, h5, _⟩ := h'
  have hS := Zn.asm_len F hF Fn hW
  rw [← h5] at hS
  refine (zget W (g8 + 1) g8 F rows hF h4 hS i hi).mono ?_
  rintro e W' ⟨rfl, hb⟩
  rw [h5, Zn.fld_asm F hF Fn hW i hi]
  exact ⟨rfl, h.later hb⟩
theorem bm_comp {w W : World} {z : Zn.Z} {g5 g8 F bnd : Nat} {Fn : Nat → List UInt8} (h : BM w z g5 g8 F bnd Fn W) (hF : 1 ≤ F ∧ F ≤ 3) (hW : Zn.Wide F Fn) :
    Calls Tryz.prog 50 #[.pointer (some ⟨g8, 0, none⟩)] W fun e W' => e = .returned (.string ⟨(Zn.comp F (Zn.asm F Fn)).toArray⟩) ∧ BM w z g5 g8 F bnd Fn W' := by
  have h' := h
  obtain ⟨h1, h2, h3, rows, h4, h5, _⟩ := h'
  have hS := Zn.asm_len F hF Fn hW
  rw [← h5] at hS
  refine (zcomposed W (g8 + 1) g8 F rows hF h4 hS).mono ?_
  rintro e W' ⟨rfl, hb⟩
  rw [h5]
  exact ⟨rfl, h.later hb⟩
/-- The fields once the number is put. -/
noncomputable def numF (z : Zn.Z) (f : Nat) (F : Nat → List UInt8) : Nat → List UInt8 :=
  if 9 < z.num.size then Zn.upd (Zn.upd F 3 (Zn.wide_ (z.num.extract 0 9).data.toList (Zn.wd f 3))) 11 (Zn.wide_ (z.num.extract 9 z.num.size ++ Opt.digS z.num ++ ⟨#[60]⟩ ++ z.opt).data.toList (Zn.wd f 11))
  else Zn.upd (Zn.upd (Zn.upd F 3 (Zn.wide_ z.num.data.toList (Zn.wd f 3))) 4 (Zn.wide_ (Opt.digS ⟨(Zn.upd F 3 (Zn.wide_ z.num.data.toList (Zn.wd f 3)) 3).toArray⟩).data.toList (Zn.wd f 4))) 11 (Zn.wide_ z.opt.data.toList (Zn.wd f 11))
noncomputable def optF (z : Zn.Z) (f : Nat) (F : Nat → List UInt8) : Nat → List UInt8 :=
  if z.opt.size = 0 then F else Zn.upd F 12 (Zn.wide_ (Opt.digS ⟨(F 11).toArray⟩).data.toList (Zn.wd f 12))
noncomputable def endF (f : Nat) (F : Nat → List UInt8) : Nat → List UInt8 := Zn.upd F 14 (Zn.wide_ (Opt.digS ⟨(Zn.comp f (Zn.asm f F)).toArray⟩).data.toList (Zn.wd f 14))
theorem numF_wide {z : Zn.Z} {f : Nat} {F : Nat → List UInt8} (h : Zn.Wide f F) : Zn.Wide f (numF z f F) := by
  unfold numF; split
  · exact Zn.upd_wide (Zn.upd_wide h _ _) _ _
  · exact Zn.upd_wide (Zn.upd_wide (Zn.upd_wide h _ _) _ _) _ _
theorem optF_wide {z : Zn.Z} {f : Nat} {F : Nat → List UInt8} (h : Zn.Wide f F) : Zn.Wide f (optF z f F) := by
  unfold optF; split
  · exact h
  · exact Zn.upd_wide h _ _
theorem digS_le (s : ByteArray) : (Opt.digS s).size ≤ 140737488355328 := by unfold Opt.digS; split <;> exact Nat.le_of_ble_eq_true rfl
theorem zwd_3 (F : Nat) (h : 1 ≤ F ∧ F ≤ 3) : Zn.wd F 3 ≤ 64 := by
  have h3 : F = 1 ∨ F = 2 ∨ F = 3 := by omega
  rcases h3 with rfl | rfl | rfl <;> decide
theorem zwd_11 (F : Nat) (h : 1 ≤ F ∧ F ≤ 3) : Zn.wd F 11 ≤ 64 := by
  have h3 : F = 1 ∨ F = 2 ∨ F = 3 := by omega
  rcases h3 with rfl | rfl | rfl <;> decide
theorem arr_size (l : List UInt8) : (⟨l.toArray⟩ : ByteArray).size = l.length := by simp [ByteArray.size]
theorem fld_small {F : Nat} {Fn : Nat → List UInt8} (hW : Zn.Wide F Fn) (i : Nat) (h : Zn.wd F i ≤ 64) : (⟨(Fn i).toArray⟩ : ByteArray).size ≤ 140737488351232 := by
  rw [arr_size, hW i]; omega
theorem line_small {F : Nat} {Fn : Nat → List UInt8} (hF : 1 ≤ F ∧ F ≤ 3) (hW : Zn.Wide F Fn) (i : Nat) : ((Zn.asm F Fn).getD i []).length ≤ 44 := by
  have hS := Zn.asm_len F hF Fn hW
  rw [List.getD_eq_getElem?_getD]
  cases e : (Zn.asm F Fn)[i]? with
  | none => simp
  | some l =>
    have := hS.2 l (List.mem_of_getElem? e)
    have hw : Zn.wLine F ≤ 44 := by unfold Zn.wLine; split; · omega
                                    split <;> omega
    simp only [Option.getD_some]; omega
theorem comp_small {F : Nat} {Fn : Nat → List UInt8} (hF : 1 ≤ F ∧ F ≤ 3) (hW : Zn.Wide F Fn) : (⟨(Zn.comp F (Zn.asm F Fn)).toArray⟩ : ByteArray).size ≤ 140737488351232 := by
  rw [arr_size]
  have h0 := line_small hF hW 0
  have h1 := line_small hF hW 1
  unfold Zn.comp
  split
  · simp only [List.length_append, List.length_take, List.length_drop]; omega
  · simp only [List.length_append, List.length_take, List.length_drop]; omega
end Go.Proofs.YtelngghecmkipaaGreatDoor

namespace Go.Proofs.YtelngghecmkipaaGreatDoor
namespace Zn
/-- What the first error 0 says. -/
structure Good (z : Z) : Prop where
  fmt : 1 ≤ z.fmt ∧ z.fmt ≤ 3
  kind : letters z.kind 2 = true
  state : letters z.state 3 = true
  sur : Opt.words 32 z.sur.data.toList = true
  sur0 : z.sur.size ≠ 0
  giv : Opt.words 32 z.giv.data.toList = true
  num0 : z.num.size ≠ 0
  num : plain z.num = true
  numLe : (z.num.size : Int) ≤ longest z.fmt
  nat : letters z.nat 3 = true
  birth : birthB z.birth = true
  sex : sexB z.sex = true
  exp : Dat.prE z.exp 2000 = 0
  opt : extra z.opt = true
  sec : extra z.sec = true
  secF : z.fmt ≠ 1 → z.sec.size = 0
  needLe : need z ≤ wide z.fmt
  secLe : (z.sec.size : Int) ≤ 11
theorem good_of {z : Z} (h : vldE z = 0) : Good z := by
  unfold vldE at h
  by_cases h0 : ¬ (1 ≤ z.fmt ∧ z.fmt ≤ 3)
  · rw [if_pos h0] at h; cases h
  rw [if_neg h0] at h
  by_cases h1 : letters z.kind 2 = false
  · rw [if_pos h1] at h; cases h
  rw [if_neg h1] at h
  by_cases h2 : letters z.state 3 = false
  · rw [if_pos h2] at h; cases h
  rw [if_neg h2] at h
  by_cases h3 : Opt.words 32 z.sur.data.toList = false
  · rw [if_pos h3] at h; cases h
  rw [if_neg h3] at h
  by_cases h4 : z.sur.size = 0
  · rw [if_pos h4] at h; cases h
  rw [if_neg h4] at h
  by_cases h5 : Opt.words 32 z.giv.data.toList = false
  · rw [if_pos h5] at h; cases h
  rw [if_neg h5] at h
  by_cases h6 : z.num.size = 0
  · rw [if_pos h6] at h; cases h
  rw [if_neg h6] at h
  by_cases h7 : plain z.num = false
  · rw [if_pos h7] at h; cases h
  rw [if_neg h7] at h
  by_cases h8 : longest z.fmt < z.num.size
  · rw [if_pos h8] at h; cases h
  rw [if_neg h8] at h
  by_cases h9 : letters z.nat 3 = false
  · rw [if_pos h9] at h; cases h
  rw [if_neg h9] at h
  by_cases h10 : birthB z.birth = false
  · rw [if_pos h10] at h; cases h
  rw [if_neg h10] at h
  by_cases h11 : sexB z.sex = false
  · rw [if_pos h11] at h; cases h
  rw [if_neg h11] at h
  by_cases h12 : Dat.prE z.exp 2000 ≠ 0
  · rw [if_pos h12] at h; cases h
  rw [if_neg h12] at h
  by_cases h13 : extra z.opt = false
  · rw [if_pos h13] at h; cases h
  rw [if_neg h13] at h
  by_cases h14 : extra z.sec = false
  · rw [if_pos h14] at h; cases h
  rw [if_neg h14] at h
  by_cases h15 : z.fmt ≠ 1 ∧ z.sec.size ≠ 0
  · rw [if_pos h15] at h; cases h
  rw [if_neg h15] at h
  by_cases h16 : wide z.fmt < need z
  · rw [if_pos h16] at h; cases h
  rw [if_neg h16] at h
  by_cases h17 : (11 : Int) < z.sec.size
  · rw [if_pos h17] at h; cases h
  rw [if_neg h17] at h
  clear h
  exact ⟨(by apply Classical.byContradiction; exact h0), (by simpa using h1), (by simpa using h2), (by simpa using h3), (h4), (by simpa using h5), (h6), (by simpa using h7), (by omega), (by simpa using h9), (by simpa using h10), (by simpa using h11), (by apply Classical.byContradiction; exact h12), (by simpa using h13), (by simpa using h14), (fun hf => by apply Classical.byContradiction; exact fun hn => h15 ⟨hf, hn⟩), (by omega), (by omega)⟩
theorem Good.vld {z : Z} (h : Good z) : vldE z = 0 := by
  unfold vldE
  rw [if_neg (fun hn => hn h.fmt)]
  rw [if_neg (by rw [h.kind]; decide)]
  rw [if_neg (by rw [h.state]; decide)]
  rw [if_neg (by rw [h.sur]; decide)]
  rw [if_neg (h.sur0)]
  rw [if_neg (by rw [h.giv]; decide)]
  rw [if_neg (h.num0)]
  rw [if_neg (by rw [h.num]; decide)]
  rw [if_neg (by have := h.numLe; omega)]
  rw [if_neg (by rw [h.nat]; decide)]
  rw [if_neg (by rw [h.birth]; decide)]
  rw [if_neg (by rw [h.sex]; decide)]
  rw [if_neg (fun hn => hn h.exp)]
  rw [if_neg (by rw [h.opt]; decide)]
  rw [if_neg (by rw [h.sec]; decide)]
  rw [if_neg (fun hn => hn.2 (h.secF hn.1))]
  rw [if_neg (by have := h.needLe; omega)]
  rw [if_neg (by have := h.secLe; omega)]
theorem Good.numLe20 {z : Z} (h : Good z) : z.num.size ≤ 20 := by
  have := h.numLe; unfold longest at this; split at this
  · omega
  · split at this <;> omega
theorem letters_le {s : ByteArray} {n : Int} (h : letters s n = true) : (s.size : Int) ≤ n := by
  unfold letters at h
  simp only [Bool.and_eq_true, decide_eq_true_eq] at h
  exact h.2.1
theorem birth_size {s : ByteArray} (h : birthB s = true) : s.size = 6 := by
  unfold birthB at h; split at h
  · assumption
  · cases h
theorem prE_size {s : ByteArray} {f : Int} (h : Dat.prE s f = 0) : s.size = 6 := by
  unfold Dat.prE at h
  split at h
  · cases h
  · split at h
    · assumption
    · cases h
theorem Good.optLe {z : Z} (h : Good z) : z.opt.size ≤ 15 := by
  have := h.needLe; unfold need wide at this
  repeat' split at this
  all_goals omega
theorem sex_le {s : ByteArray} (h : sexB s = true) : s.size = 1 := by
  unfold sexB at h
  simp only [Bool.or_eq_true, decide_eq_true_eq] at h
  rcases h with rfl | rfl | rfl <;> rfl
/-- The lines of a zone. -/
noncomputable def bldF (F : Nat) (z : Z) : Nat → List UInt8 :=
  endF F (optF z F (numF z F (midF ⟨0, z, ⟨(Opt.nmV z.sur.data.toList z.giv.data.toList (wd F 2)).toArray⟩, Opt.digS z.birth, Opt.digS z.exp⟩ F fun _ => false)))
noncomputable def bld (z : Z) : List (List UInt8) := asm z.fmt.toNat (bldF z.fmt.toNat z)
noncomputable def bldK (z : Z) : List ByteArray := (bld z).map fun l => ⟨l.toArray⟩
end Zn
theorem endF_wide {f : Nat} {F : Nat → List UInt8} (h : Zn.Wide f F) : Zn.Wide f (endF f F) := Zn.upd_wide h _ _
theorem Zn.bld_wide (F : Nat) (z : Zn.Z) : Zn.Wide F (Zn.bldF F z) := endF_wide (optF_wide (numF_wide (mid_wide _ _ _)))
theorem midF_free (g g' : Nat) (z : Zn.Z) (a b c : ByteArray) (F : Nat) (left : Lit → Bool) : midF ⟨g, z, a, b, c⟩ F left = midF ⟨g', z, a, b, c⟩ F left := rfl
theorem digS_one (s : ByteArray) : (Opt.digS s).size ≤ 1 := by unfold Opt.digS; split <;> exact Nat.le_of_ble_eq_true rfl
theorem empty_is2 (s : ByteArray) : (s.size = 0 → s.toList.isEmpty = true ∧ (!s.toList.isEmpty) = false ∧ s.toList = []) ∧ (s.size ≠ 0 → s.toList.isEmpty = false ∧ (!s.toList.isEmpty) = true ∧ ¬ s.toList = []) := by
  rw [ByteArray.toList_eq, ← Opt.size_len]
  cases s.data.toList with
  | nil => exact ⟨fun _ => ⟨rfl, rfl, rfl⟩, fun h => absurd rfl h⟩
  | cons a b => exact ⟨fun h => (by simp at h), fun _ => ⟨rfl, rfl, by simp⟩⟩
end Go.Proofs.YtelngghecmkipaaGreatDoor

namespace Go.Proofs.YtelngghecmkipaaGreatDoor
namespace Zn
abbrev smp : Z := ⟨3, ⟨#[80]⟩, ⟨#[85, 84, 79]⟩, ⟨#[69, 82, 73, 75, 83, 83, 79, 78]⟩, ⟨#[65, 78, 78, 65, 32, 77, 65, 82, 73, 65]⟩, ⟨#[76, 56, 57, 56, 57, 48, 50, 67]⟩, ⟨#[85, 84, 79]⟩, ⟨#[54, 57, 48, 56, 48, 54]⟩, ⟨#[70]⟩, ⟨#[57, 52, 48, 54, 50, 51]⟩, ⟨#[90, 69, 49, 56, 52, 50, 50, 54, 66]⟩, ⟨#[]⟩⟩
abbrev smp0 : ByteArray := ⟨#[80, 60, 85, 84, 79, 69, 82, 73, 75, 83, 83, 79, 78, 60, 60, 65, 78, 78, 65, 60, 77, 65, 82, 73, 65, 60, 60, 60, 60, 60, 60, 60, 60, 60, 60, 60, 60, 60, 60, 60, 60, 60, 60, 60]⟩
abbrev smp1 : ByteArray := ⟨#[76, 56, 57, 56, 57, 48, 50, 67, 60, 51, 85, 84, 79, 54, 57, 48, 56, 48, 54, 49, 70, 57, 52, 48, 54, 50, 51, 54, 90, 69, 49, 56, 52, 50, 50, 54, 66, 60, 60, 60, 60, 60, 49, 52]⟩
theorem smp_exp : Dat.prE smp.exp 2000 = 0 := by
  rw [(Dat.pr_yes (s := smp.exp) (f := 2000) (by decide) (by decide) rfl (by unfold Dat.allD Dat.isD; decide)).2]
  unfold Dat.ofE
  rw [if_pos (by unfold Dat.vld; decide)]
theorem smp_good : Good smp := ⟨by decide, by decide, by decide, by decide, by decide, by decide, by decide, by decide, by decide, by decide, by decide, by decide, smp_exp, by decide, by decide, by decide, by decide, by decide⟩
theorem smp_vld : vldE smp = 0 := smp_good.vld
theorem smp_nm : Opt.nmV smp.sur.data.toList smp.giv.data.toList (wd 3 2) = [69, 82, 73, 75, 83, 83, 79, 78, 60, 60, 65, 78, 78, 65, 60, 77, 65, 82, 73, 65, 60, 60, 60, 60, 60, 60, 60, 60, 60, 60, 60, 60, 60, 60, 60, 60, 60, 60, 60] := by
  unfold Opt.nmV
  rw [if_neg (by rintro (h | h | h); exact h ⟨by decide, by decide, by decide⟩; exact absurd h (by decide); exact absurd h (by decide))]
  decide
theorem smp_bld : bldK smp = [smp0, smp1] := by
  unfold bldK bld
  show (asm 3 (bldF 3 smp)).map _ = _
  unfold bldF
  rw [smp_nm]
  kernel_rfl
theorem smp_shape : shape (txts [smp0, smp1]) = 3 := by decide
theorem smp_prsZ : prsZ 3 (txts [smp0, smp1]) = smp := by kernel_rfl
theorem smp_prsE : prsE (txts [smp0, smp1]) = 0 := by
  unfold prsE
  rw [smp_shape, smp_prsZ, smp_vld, if_neg (by decide), if_neg (by decide), if_neg (by decide), if_neg (by decide), if_neg (by decide)]
theorem smp_prsV : prsV (txts [smp0, smp1]) = smp := by
  unfold prsV
  rw [if_pos smp_prsE, smp_shape, smp_prsZ]
end Zn
end Go.Proofs.YtelngghecmkipaaGreatDoor
