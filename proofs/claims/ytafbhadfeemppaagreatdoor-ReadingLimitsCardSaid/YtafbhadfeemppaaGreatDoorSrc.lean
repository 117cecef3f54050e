/- Appending whatever a slice value reads as (nil, empty or not) to a row of the call's own; where the new row lies. -/
import Derived.Maps.AppendAt
import Derived.Deep.AppendLies
import Derived.RegionTactic
import Derived.OwnWalk
import Derived.Test.YtafbhadfeemppaaGreatDoorUtil
namespace Go.Proofs.YtafbhadfeemppaaGreatDoor
open Go.RowKit

/-- A slice value's first m elements are these cells. -/
def Src (w : World) (size : Nat) (A : Option Addr) (m : Nat) (xs : List Value) : Prop :=
  xs.length = m * size ∧ (m = 0 ∨ ∃ g off, A = some ⟨g, off, none⟩ ∧ ∀ j u, xs[j]? = some u → w.cell? ⟨g, off + j, none⟩ = some u)
theorem Src.keep {w w' : World} {size m : Nat} {A : Option Addr} {xs : List Value} (h : Src w size A m xs) (hk : ∀ p : Addr, (w.cell? p).isSome = true → some p.block = A.map (·.block) → w'.cell? p = w.cell? p) : Src w' size A m xs := by
  refine ⟨h.1, ?_⟩
  rcases h.2 with h0 | ⟨g, off, rfl, hc⟩
  · exact .inl h0
  · exact .inr ⟨g, off, rfl, fun j u hu => (hk ⟨g, off + j, none⟩ (by rw [hc j u hu]; rfl) rfl).trans (hc j u hu)⟩
theorem Src.later {w w' : World} {size m : Nat} {A : Option Addr} {xs : List Value} (h : Src w size A m xs) (hb : Below w.heap.size w w') : Src w' size A m xs :=
  h.keep fun p hp _ => by
    obtain ⟨v, hv⟩ := Option.isSome_iff_exists.1 hp
    rw [hv]; exact cell_later hb hv
theorem Src.grown {w w' : World} {size m : Nat} {A : Option Addr} {xs : List Value} {row : Option Nat} (h : Src w size A m xs) (hg : w.grownBy w' row) (hr : A.map (·.block) ≠ row ∨ row = none) : Src w' size A m xs :=
  h.keep fun p hp hpA => by
    obtain ⟨v, hv⟩ := Option.isSome_iff_exists.1 hp
    rw [hv]; refine hg.cell hv (fun e => ?_)
    rcases hr with hr | hr
    · exact hr (by rw [← hpA, e])
    · rw [hr] at e; cases e
theorem Src.none_ (w : World) (size : Nat) (A : Option Addr) : Src w size A 0 [] := ⟨by simp, .inl rfl⟩
theorem Src.of_own {w : World} {base : Nat} {e : TypeId} {size n c : Nat} {A : Option Addr} {xs : List Value} (h : w.ownsRow base e size (.slice A n c) n xs) : Src w size A n xs := by
  refine ⟨h.1, ?_⟩
  rcases h.2 with ⟨_, h0⟩ | ⟨g, cap, cur, hv, _⟩
  · exact .inl h0
  · right
    have hA : A = some ⟨g, 0, none⟩ := by injection hv
    subst hA
    refine ⟨g, 0, rfl, fun j u hu => ?_⟩
    have := h.cells (g := g) rfl j u hu
    rw [Go.WideShapes.add_plain] at this
    exact this
/-- What a cut leaves. -/
theorem Src.cut {w : World} {size n k cap : Nat} {A : Option Addr} {xs : List Value} (h : Src w size A n xs) (hk : k ≤ n) (hc : n ≤ cap) : Src w size (if cap = k then A else A.map (·.add (k * size))) (n - k) (xs.drop (k * size)) := by
  refine ⟨by rw [List.length_drop, h.1, Nat.sub_mul], ?_⟩
  rcases Nat.eq_zero_or_pos (n - k) with h0 | h0
  · exact .inl h0
  · rcases h.2 with hn | ⟨g, off, rfl, hcell⟩
    · omega
    · right
      rw [if_neg (by omega)]
      refine ⟨g, off + k * size, by simp [Go.WideShapes.add_plain], fun j u hu => ?_⟩
      rw [List.getElem?_drop] at hu
      have := hcell _ u hu
      rw [← Nat.add_assoc] at this
      exact this
section
variable {P : Program} (w : World)
end
end Go.Proofs.YtafbhadfeemppaaGreatDoor
