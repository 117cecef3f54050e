/- Chapter 12: several texts in one (ZonPut0, ZonPut). -/
import Derived.Test.YtafbhadfeemppaaGreatDoorZonLines
import Derived.Test.YtafbhadfeemppaaGreatDoorOptNames3
import Derived.Lib.LazyBuf
import Derived.Deep.RegionHeld3
import Derived.IntWalk
import Derived.Test.YtafbhadfeemppaaGreatDoorZonSheet2
namespace Go.Proofs.YtafbhadfeemppaaGreatDoor
open Go.RowKit

namespace Zn
/-- What is written into a field: the text, fillers behind it. -/
def wide_ (t : List UInt8) (n : Nat) : List UInt8 := (t ++ List.replicate n 60).take n
theorem wide_len (t : List UInt8) (n : Nat) : (wide_ t n).length = n := by unfold wide_; rw [List.length_take, List.length_append, List.length_replicate]; omega
/-- A line with a field written. -/
def over (l : List UInt8) (a : Nat) (x : List UInt8) : List UInt8 := l.take a ++ (x ++ l.drop (a + x.length))
theorem over_len (l : List UInt8) (a : Nat) (x : List UInt8) (h : a + x.length ≤ l.length) : (over l a x).length = l.length := by
  unfold over; simp only [List.length_append, List.length_take, List.length_drop]; omega
end Zn

theorem over_get (l : List UInt8) (a : Nat) (x : List UInt8) (h : a + x.length ≤ l.length) (j : Nat) (hj : j < (Zn.over l a x).length) :
    (a ≤ j ∧ j < a + x.length → ∃ h', (Zn.over l a x)[j] = x[j - a]'(h')) ∧ (¬ (a ≤ j ∧ j < a + x.length) → ∃ h', (Zn.over l a x)[j] = l[j]'(h')) := by
  have hl := Zn.over_len l a x h
  unfold Zn.over at *
  constructor
  · rintro ⟨h1, h2⟩
    refine ⟨by omega, ?_⟩
    rw [List.getElem_append_right (by rw [List.length_take]; omega), List.getElem_append_left (by rw [List.length_take]; omega)]
    congr 1
    rw [List.length_take]; omega
  · intro hn
    refine ⟨by omega, ?_⟩
    rcases Nat.lt_or_ge j a with g | g
    · rw [List.getElem_append_left (by rw [List.length_take]; omega), List.getElem_take]
    · rw [List.getElem_append_right (by rw [List.length_take]; omega), List.getElem_append_right (by rw [List.length_take]; omega), List.getElem_drop]
      congr 1
      rw [List.length_take]; omega
theorem BytesAt.over {w : World} {k : Nat} {l : List UInt8} (hb : BytesAt w k l) (a : Nat) (x : List UInt8) (h : a + x.length ≤ l.length) : BytesAt (w.setCells k a (BL x)) k (Zn.over l a x) := by
  intro j hj
  have hl := Zn.over_len l a x h
  obtain ⟨hin, hout⟩ := over_get l a x h j hj
  refine ⟨?_, by rw [World.frozen?_setCells]; exact (hb j (by omega)).2⟩
  by_cases hc : a ≤ j ∧ j < a + x.length
  · obtain ⟨h', e⟩ := hin hc
    have := World.cell?_setCells_in k (BL x) a w (fun i hi => by rw [BL_length] at hi; rw [(hb (a + i) (by omega)).1]; rfl) (j - a) (by rw [BL_length]; omega)
    rw [show a + (j - a) = j by omega] at this
    rw [this, e]
    simp [BL]
  · obtain ⟨h', e⟩ := hout hc
    rw [World.cell?_setCells_out k (BL x) a w ⟨k, j, none⟩ (fun _ _ => by rw [BL_length]; show j < a ∨ a + x.length ≤ j; omega), (hb j h').1, e]

theorem grown_of_below {w w' : World} (h : Below w.heap.size w w') (row : Option Nat) : w.grownBy w' row := ⟨h.os, h.tape, h.output, h.size, fun k hk _ => h.block k hk⟩
theorem grown_trans {w w' w'' : World} {row : Option Nat} (h : w.grownBy w' row) (h' : w'.grownBy w'' row) : w.grownBy w'' row :=
  ⟨h'.os.trans h.os, h'.tape.trans h.tape, h'.output.trans h.output, Nat.le_trans h.size h'.size, fun k hk hr => (h'.block k (Nat.lt_of_lt_of_le hk h.size) hr).trans (h.block k hk hr)⟩

end Go.Proofs.YtafbhadfeemppaaGreatDoor

namespace Go.Proofs.YtafbhadfeemppaaGreatDoor
open Go.RowKit

end Go.Proofs.YtafbhadfeemppaaGreatDoor
