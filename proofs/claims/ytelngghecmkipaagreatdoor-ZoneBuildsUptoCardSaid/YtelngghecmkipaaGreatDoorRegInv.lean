
/- A region that draws its order, by an invariant that speaks of what has been done: for operations that commute (a map literal's entries). -/
import Derived.Test.YtelngghecmkipaaGreatDoorUtil
import Derived.RegionTactic
import Derived.Deep.RegionWith
namespace Go.Proofs.YtelngghecmkipaaGreatDoor
open Go.RowKit

/-- What is done, as a predicate. -/
def done_ (listed : Array Bool) : Nat → Bool := fun i => listed.getD i false
theorem done_set (listed : Array Bool) (i : Nat) (hi : i < listed.size) : done_ (listed.setIfInBounds i true) = fun j => done_ listed j || j == i := by
  funext j
  unfold done_
  simp only [Array.getD_eq_getD_getElem?, Array.getElem?_setIfInBounds]
  by_cases h : i = j
  · subst h
    simp [hi]
  · rw [if_neg h]
    have : (j == i) = false := by rw [beq_eq_false_iff_ne]; exact fun e => h e.symm
    rw [this, Bool.or_false]
/-- How many are not done. -/
def left_ (listed : Array Bool) : Nat := (listed.toList.filter (! ·)).length
theorem left_set (listed : Array Bool) (i : Nat) (hi : i < listed.size) (h : listed.getD i false = false) : left_ (listed.setIfInBounds i true) + 1 = left_ listed := by
  unfold left_
  rw [Array.toList_setIfInBounds]
  have h' : listed.toList[i]? = some false := by
    have : listed[i]? = some listed[i] := Array.getElem?_eq_getElem hi
    rw [Array.getD_eq_getD_getElem?, this] at h
    rw [Array.getElem?_toList, this]; simpa using h
  revert h'
  generalize listed.toList = l
  clear h hi
  induction l generalizing i with
  | nil => intro h; simp at h
  | cons b r ih =>
    intro h
    cases i with
    | zero => simp at h; subst h; simp
    | succ n =>
      have := ih n (by simpa using h)
      rw [List.set_cons_succ, List.filter_cons, List.filter_cons]
      cases b
      · simp only [Bool.not_false, if_true, List.length_cons]; omega
      · simpa using this
theorem left_zero {listed : Array Bool} (h : left_ listed = 0) (i : Nat) (hi : i < listed.size) : done_ listed i = true := by
  unfold left_ at h
  have h0 := List.eq_nil_of_length_eq_zero h
  have h1 := List.filter_eq_nil_iff.1 h0 listed[i] (by simp)
  unfold done_
  rw [Array.getD_eq_getD_getElem?, Array.getElem?_eq_getElem hi]
  cases hq : listed[i]
  · rw [hq] at h1; exact absurd rfl h1
  · rfl

section
variable {P : Program} {ops : Array Oper} {Q : Exit → Act → World → Prop}

theorem ready_iff {listed : Array Bool} {i : Nat} (h : i ∈ Region.ready .any ops listed) : ∃ o, ops[i]? = some o ∧ listed.getD i true = false ∧ ∀ e ∈ o.after, Region.binds .any e = true → done_ listed e.on = true := by
  unfold Region.ready at h
  rw [List.mem_filter] at h
  obtain ⟨_, h⟩ := h
  rw [Bool.and_eq_true] at h
  obtain ⟨h1, h2⟩ := h
  cases ho : ops[i]? with
  | none => rw [ho] at h2; simp at h2
  | some o =>
    refine ⟨o, rfl, by simpa using h1, fun e he hb => ?_⟩
    rw [ho] at h2
    simp only [Option.map_some, Option.getD_some] at h2
    have := Array.all_eq_true_iff_forall_mem.1 h2 e he
    rw [hb] at this
    simpa [done_] using this
theorem ready_of {listed : Array Bool} {i : Nat} {o : Oper} (ho : ops[i]? = some o) (hl : listed.getD i true = false) (h : ∀ e ∈ o.after, done_ listed e.on = true) : i ∈ Region.ready .any ops listed := by
  unfold Region.ready
  rw [List.mem_filter]
  refine ⟨List.mem_range.2 (Array.getElem?_eq_some_iff.1 ho).1, ?_⟩
  rw [Bool.and_eq_true]
  refine ⟨by rw [hl]; rfl, ?_⟩
  rw [ho]
  simp only [Option.map_some, Option.getD_some]
  refine Array.all_eq_true_iff_forall_mem.2 fun e he => ?_
  have := h e he
  unfold done_ at this
  rw [this]; simp

theorem wp_region_inv {id : Nat} {a : Act} {w : World} (hm : P.follows .mixedOrders = true) (I : (Nat → Bool) → Act → World → Prop)
    (hback : ∀ (i : Nat) o, ops[i]? = some o → ∀ e ∈ o.after, e.on < i)
    (h0 : I (fun _ => false) a w.drew)
    (hstep : ∀ (L : Nat → Bool) (a : Act) (w : World) (i : Nat) (o : Oper), I L a w → ops[i]? = some o → L i = false → (∀ e ∈ o.after, Region.binds .any e = true → L e.on = true) →
      ∀ K : Act → World → Prop, (∀ a' w', I (fun j => L j || j == i) a' w' → K a' w') → if Region.wanted o (yielded ops a.tmps) = true then Oper.wp P o a w K Q else K (a.put o.dst undef) w)
    (hdone : ∀ (L : Nat → Bool) (a : Act) (w : World), (∀ i, i < ops.size → L i = true) → I L a w → Q .normal a w) : (Code.region id ops true).wp P Q a w := by
  refine wp_region_any hm ?_
  have key : ∀ (fuel : Nat) (listed : Array Bool) (a : Act) (w : World), listed.size = ops.size → left_ listed ≤ fuel → I (done_ listed) a w → wpAny P .any ops Q fuel listed a w := by
    intro fuel
    induction fuel with
    | zero =>
      intro listed a w hs hl hI
      have hall : ∀ i, i < ops.size → done_ listed i = true := fun i hi => left_zero (by omega) i (by omega)
      refine ⟨?_, hdone _ a w hall hI⟩
      rw [List.eq_nil_iff_forall_not_mem]
      intro i hi
      obtain ⟨o, ho, h1, _⟩ := ready_iff hi
      have hlt := (Array.getElem?_eq_some_iff.1 ho).1
      have := hall i hlt
      unfold done_ at this
      rw [Array.getD_eq_getD_getElem?, Array.getElem?_eq_getElem (by omega)] at this h1
      simp at this h1
      rw [this] at h1; cases h1
    | succ n ih =>
      intro listed a w hs hl hI
      refine ⟨fun hr => hdone _ a w (fun i hi => ?_) hI, fun i hi => ?_⟩
      · -- the least that is not done would be ready
        induction i using Nat.strongRecOn with
        | ind i ihi =>
          by_cases hd : done_ listed i = true
          · exact hd
          · exfalso
            have ho : ops[i]? = some ops[i] := Array.getElem?_eq_getElem hi
            have hg : listed.getD i true = false := by
              unfold done_ at hd
              rw [Array.getD_eq_getD_getElem?, Array.getElem?_eq_getElem (by omega)] at hd ⊢
              simpa using hd
            have hm := ready_of ho hg (fun e he => ihi e.on (hback i _ ho e he) (Nat.lt_trans (hback i _ ho e he) hi))
            rw [hr] at hm; cases hm
      · obtain ⟨o, ho, h1, h2⟩ := ready_iff hi
        have hlt := (Array.getElem?_eq_some_iff.1 ho).1
        have hf : listed.getD i false = false := by
          rw [Array.getD_eq_getD_getElem?, Array.getElem?_eq_getElem (by omega)] at h1 ⊢
          simpa using h1
        have hst := hstep (done_ listed) a w i o hI ho hf h2 (wpAny P .any ops Q n (listed.setIfInBounds i true)) (fun a' w' hI' => by
          refine ih _ a' w' (by simpa using hs) ?_ ?_
          · have := left_set listed i (by omega) hf; omega
          · rw [done_set listed i (by omega)]; exact hI')
        exact wpOp_step ho (fun K' hK => by
          have := hstep (done_ listed) a w i o hI ho hf h2 K' (fun a' w' hI' => hK a' w' (ih _ a' w' (by simpa using hs) (by have := left_set listed i (by omega) hf; omega) (by rw [done_set listed i (by omega)]; exact hI')))
          exact this)
  refine key ops.size _ a _ (by simp) ?_ ?_
  · unfold left_
    exact Nat.le_trans (List.length_filter_le _ _) (by simp)
  · have : done_ (Array.replicate ops.size false) = fun _ => false := by
      funext i
      unfold done_
      rw [Array.getD_eq_getD_getElem?]
      rcases Nat.lt_or_ge i ops.size with h | h
      · simp [h]
      · simp [h]
    rw [this]; exact h0
end
/-- Slots from s on, n of them, set anew. -/
def setMany (xs : Array Value) (u : Nat → Value) (s : Nat) : Nat → Array Value
  | 0 => xs
  | n + 1 => (setMany xs u s n).setIfInBounds (s + n) (u (s + n))
theorem setMany_size (xs : Array Value) (u : Nat → Value) (s : Nat) : ∀ n, (setMany xs u s n).size = xs.size
  | 0 => rfl
  | n + 1 => by rw [setMany, Array.size_setIfInBounds, setMany_size xs u s n]
theorem setMany_get (xs : Array Value) (u : Nat → Value) (s : Nat) : ∀ n j, s + n ≤ xs.size → (setMany xs u s n)[j]? = if s ≤ j ∧ j < s + n then some (u j) else xs[j]?
  | 0, j, _ => by rw [if_neg (by omega)]; rfl
  | n + 1, j, h => by
    rw [setMany, Array.getElem?_setIfInBounds, setMany_size]
    by_cases e : s + n = j
    · rw [if_pos e, if_pos (by omega), if_pos (by omega), e]
    · rw [if_neg e, setMany_get xs u s n j (by omega)]
      by_cases h2 : s ≤ j ∧ j < s + n
      · rw [if_pos h2, if_pos (by omega)]
      · rw [if_neg h2, if_neg (by omega)]
/-- A frame that is another one but for some slots. -/
theorem frame_known {a a0 : Act} (s n : Nat) (hs : a.tmps.size = a0.tmps.size) (hn : s + n ≤ a0.tmps.size) (hd : a.defers = a0.defers) (h : ∀ j, j < s ∨ s + n ≤ j → a.tmps[j]? = a0.tmps[j]?) :
    ∃ u : Nat → Value, a = { tmps := setMany a0.tmps u s n, defers := a0.defers } ∧ ∀ j v, s ≤ j → j < s + n → a.tmps[j]? = some v → u j = v := by
  refine ⟨fun j => a.tmps.getD j undef, ?_, fun j v _ _ hv => by simp [hv]⟩
  obtain ⟨t, d⟩ := a
  simp only at hs hd h
  subst hd
  congr 1
  apply Array.ext_getElem?
  intro j
  rw [setMany_get _ _ _ _ _ hn]
  by_cases hj : s ≤ j ∧ j < s + n
  · rw [if_pos hj]
    have : j < t.size := by omega
    simp [this]
  · rw [if_neg hj]; exact h j (by omega)
end Go.Proofs.YtelngghecmkipaaGreatDoor
