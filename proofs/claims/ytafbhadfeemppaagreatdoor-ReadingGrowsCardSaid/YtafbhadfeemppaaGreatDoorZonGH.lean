/- Chapter 12: several texts in one (ZonBuild, ZonAwake). -/
import Derived.Test.YtafbhadfeemppaaGreatDoorZonGP
import Derived.Test.YtafbhadfeemppaaGreatDoorZonGM
import Derived.Test.YtafbhadfeemppaaGreatDoorZonParseW
import Derived.Deep.CutRange
import Derived.Deep.AppendLies
namespace Go.Proofs.YtafbhadfeemppaaGreatDoor
open Go.RowKit Go.Maps

theorem ZV.keep {w W W' : World} {z : Zn.Z} {M : Array Value} {g g8 : Nat} (h : ZV w z M g W) (hb : Below g8 W W') (h1 : w.heap.size < g8) (h2 : g < g8) : ZV w z M g W' :=
  ⟨(hb.block _ h1).trans h.1, (hb.block _ h2).trans h.2.1, ⟨hb.os.trans h.2.2.os, hb.tape.trans h.2.2.tape, hb.output.trans h.2.2.output, Nat.le_trans h.2.2.size hb.size, fun b hlt => (hb.block b (Nat.lt_of_lt_of_le hlt (Nat.le_of_lt h1))).trans (h.2.2.block b hlt)⟩⟩
/-- What Build leaves. -/
def BldPost (z : Zn.Z) (w : World) (e : Ending) (w' : World) : Prop :=
  ∃ v, e = .returned (.tuple #[v, .int .i64 (Zn.vldE z)]) ∧ (Zn.vldE z ≠ 0 → v = .slice none 0 0) ∧ (Zn.vldE z = 0 → w'.ownsRow w.heap.size 9 1 v (Zn.bldK z).length ((Zn.bldK z).map .string)) ∧ Below w.heap.size w w'
theorem BldPost.no {z : Zn.Z} {w w' : World} {vE : Int} (h : vE ≠ 0) (hE : Zn.vldE z = vE) (hb : Below w.heap.size w w') : BldPost z w (.returned (.tuple #[.slice none 0 0, .int .i64 vE])) w' :=
  ⟨_, by rw [hE], fun _ => rfl, fun h0 => absurd (hE.symm.trans h0) h, hb⟩
theorem BldPost.yes {z : Zn.Z} {w w' : World} {v : Value} (hE : Zn.vldE z = 0) (h : w'.ownsRow w.heap.size 9 1 v (Zn.bldK z).length ((Zn.bldK z).map .string)) (hb : Below w.heap.size w w') : BldPost z w (.returned (.tuple #[v, .int .i64 0])) w' :=
  ⟨_, by rw [hE], fun h0 => absurd hE h0, fun _ => h, hb⟩
theorem ownsRow_base {w : World} {base b0 e size n : Nat} {v : Value} {xs : List Value} (h : w.ownsRow base e size v n xs) (hb : b0 ≤ base) : w.ownsRow b0 e size v n xs := by
  refine ⟨h.1, ?_⟩
  rcases h.2 with h | ⟨g, cap, cur, h0, h1, h2⟩
  · exact .inl h
  · exact .inr ⟨g, cap, cur, h0, Nat.le_trans hb h1, h2⟩
def BD (w : World) (z : Zn.Z) (M : Array Value) (g5 g8 F : Nat) (Fn : Nat → List UInt8) (W : World) : Prop := ZV w z M g5 W ∧ ∃ rows, SheetAt W (g8 + 1) g8 F rows ∧ Ln.txt rows = Zn.asm F Fn ∧ g5 < g8 ∧ w.heap.size < g5
theorem BD.later {w W W' : World} {z : Zn.Z} {M : Array Value} {g5 g8 F : Nat} {Fn : Nat → List UInt8} (h : BD w z M g5 g8 F Fn W) (hb : Below W.heap.size W W') : BD w z M g5 g8 F Fn W' := by
  obtain ⟨h1, rows, h2, h3⟩ := h
  exact ⟨h1.later hb, rows, h2.later hb, h3⟩
theorem nmV_len (a b : List UInt8) (n : Int) : (Opt.nmV a b n).length ≤ n.toNat := by
  unfold Opt.nmV
  split
  · exact Nat.zero_le _
  · rw [List.length_take]; omega
end Go.Proofs.YtafbhadfeemppaaGreatDoor

namespace Go.Proofs.YtafbhadfeemppaaGreatDoor
open Go.RowKit

theorem texts_new11 (w : World) (ts : List ByteArray) : TextsAt (w.alloc (.cells (ts.map Value.string).toArray 9)) (some ⟨w.heap.size, 0, none⟩) ts := by
  refine ⟨by simp, .inr ⟨_, 0, rfl, fun j u hu => ?_⟩⟩
  have h := heap_alloc_new w (.cells (ts.map Value.string).toArray 9)
  rw [Nat.zero_add]
  unfold World.cell?
  rw [h]
  simpa using hu
end Go.Proofs.YtafbhadfeemppaaGreatDoor
