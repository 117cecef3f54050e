/- Chapter 11: the walk of the sanity check. -/
import Derived.Test.YtafbhadfeemppaaGreatDoorZonBuild
import Derived.Test.YtafbhadfeemppaaGreatDoorZonGM
namespace Go.Proofs.YtafbhadfeemppaaGreatDoor
open Go.RowKit

theorem texts_new11 (w : World) (ts : List ByteArray) : TextsAt (w.alloc (.cells (ts.map Value.string).toArray 9)) (some ⟨w.heap.size, 0, none⟩) ts := by
  refine ⟨by simp, .inr ⟨_, 0, rfl, fun j u hu => ?_⟩⟩
  have h := heap_alloc_new w (.cells (ts.map Value.string).toArray 9)
  rw [Nat.zero_add]
  unfold World.cell?
  rw [h]
  simpa using hu
theorem zone_same (z : Zn.Z) (w : World) : Sem.run Tryz.prog (binOp .eql 42 z.val z.val) w = .ok (.bool true) w := by
  unfold Zn.Z.val
  go_simp
/-- A row of two texts that the call owns, read. -/
theorem own_two {w : World} {base : Nat} {v : Value} {x y : Value} (h : w.ownsRow base 9 1 v 2 [x, y]) : ∃ b c, v = .slice (some ⟨b, 0, none⟩) 2 c ∧ w.cell? ⟨b, 0, none⟩ = some x ∧ w.cell? ⟨b, 1, none⟩ = some y := by
  obtain ⟨b, c, rfl⟩ := own_some h
  exact ⟨b, c, rfl, h.cellAt 0 (by decide), h.cellAt 1 (by decide)⟩
end Go.Proofs.YtafbhadfeemppaaGreatDoor
