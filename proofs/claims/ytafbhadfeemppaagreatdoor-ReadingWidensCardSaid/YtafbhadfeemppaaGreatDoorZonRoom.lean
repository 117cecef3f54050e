/- Chapter 11: a zone in a box; the walk of room of the reference. -/
import Derived.Test.YtafbhadfeemppaaGreatDoorZonSmall2
namespace Go.Proofs.YtafbhadfeemppaaGreatDoor
open Go.RowKit

/-- A zone in a block. -/
def ZBox (w : World) (g : Nat) (z : Zn.Z) : Prop := w.heap[g]? = some (.cells #[.int .i64 z.fmt, .string z.kind, .string z.state, .string z.sur, .string z.giv, .string z.num, .string z.nat, .string z.birth, .string z.sex, .string z.exp, .string z.opt, .string z.sec] 42 (0, 0))
theorem ZBox.lt {w : World} {g : Nat} {z : Zn.Z} (h : ZBox w g z) : g < w.heap.size := (Array.getElem?_eq_some_iff.1 h).1
theorem ZBox.later {w w' : World} {g : Nat} {z : Zn.Z} (h : ZBox w g z) (hb : Below w.heap.size w w') : ZBox w' g z := (hb.block g h.lt).trans h
theorem ZBox.drewN {w : World} {g : Nat} {z : Zn.Z} (h : ZBox w g z) (n : Nat) : ZBox (w.drewN n) g z := h
theorem ZBox.new (w : World) (z : Zn.Z) : ZBox (w.alloc (.cells #[.int .i64 z.fmt, .string z.kind, .string z.state, .string z.sur, .string z.giv, .string z.num, .string z.nat, .string z.birth, .string z.sex, .string z.exp, .string z.opt, .string z.sec] 42)) w.heap.size z := heap_alloc_new w _
theorem ZBox.cells {w : World} {g : Nat} {z : Zn.Z} (h : ZBox w g z) : w.cell? ⟨g, 0, none⟩ = some (.int .i64 z.fmt) ∧ w.cell? ⟨g, 1, none⟩ = some (.string z.kind) ∧ w.cell? ⟨g, 2, none⟩ = some (.string z.state) ∧ w.cell? ⟨g, 3, none⟩ = some (.string z.sur) ∧
    w.cell? ⟨g, 4, none⟩ = some (.string z.giv) ∧ w.cell? ⟨g, 5, none⟩ = some (.string z.num) ∧ w.cell? ⟨g, 6, none⟩ = some (.string z.nat) ∧ w.cell? ⟨g, 7, none⟩ = some (.string z.birth) ∧ w.cell? ⟨g, 8, none⟩ = some (.string z.sex) ∧
    w.cell? ⟨g, 9, none⟩ = some (.string z.exp) ∧ w.cell? ⟨g, 10, none⟩ = some (.string z.opt) ∧ w.cell? ⟨g, 11, none⟩ = some (.string z.sec) := by
  unfold ZBox at h
  refine ⟨?_, ?_, ?_, ?_, ?_, ?_, ?_, ?_, ?_, ?_, ?_, ?_⟩ <;> simp [World.cell?, h]
/-- The room of the optional field. -/
def Zn.room (z : Zn.Z) : Int := Zn.wide z.fmt - (if (9 : Int) < z.num.size then (z.num.size : Int) - 7 else 0)
theorem Zn.room_lt (z : Zn.Z) : Zn.room z < z.opt.size ↔ Zn.wide z.fmt < Zn.need z := by unfold Zn.room Zn.need; omega

set_option maxRecDepth 100000 in
set_option maxHeartbeats 1000000 in
theorem rroom (z : Zn.Z) (w : World) (hf : 1 ≤ z.fmt ∧ z.fmt ≤ 3) (hn : z.num.size ≤ maxLen) :
    Calls Tryz.prog 85 #[z.val] w fun e w' => e = .returned (.int .i64 (Zn.room z)) ∧ Below w.heap.size w w' := by
  unfold maxLen at hn
  obtain ⟨r, hr⟩ : ∃ r, Zn.room z = r := ⟨_, rfl⟩
  rw [hr]
  unfold Zn.room at hr
  have hix : ∀ w, (Instr.index 99 (.agg #[.int .i64 0, .int .i64 15, .int .i64 7, .int .i64 14]) (.int .i64 z.fmt)).run Tryz.prog w = .ok (.int .i64 (Zn.wide z.fmt)) w := by
    have h3 : z.fmt = 1 ∨ z.fmt = 2 ∨ z.fmt = 3 := by omega
    rcases h3 with h | h | h <;> rw [h] <;> exact fun _ => by kernel_rfl
  have hwd : 7 ≤ Zn.wide z.fmt ∧ Zn.wide z.fmt ≤ 15 := by unfold Zn.wide; repeat' split
                                                          all_goals omega
  have hbx := ZBox.new w z
  have hw := below_alloc1 w (.cells #[.int .i64 z.fmt, .string z.kind, .string z.state, .string z.sur, .string z.giv, .string z.num, .string z.nat, .string z.birth, .string z.sex, .string z.exp, .string z.opt, .string z.sec] 42)
  unfold Zn.Z.val
  clear hf
  go_enter Tryz.func85, Tryz.ntmps85
  go_upto_region 1 with fail
  generalize w.alloc (.cells #[.int .i64 z.fmt, .string z.kind, .string z.state, .string z.sur, .string z.giv, .string z.num, .string z.nat, .string z.birth, .string z.sex, .string z.exp, .string z.opt, .string z.sec] 42) = w1 at hbx hw ⊢
  obtain ⟨x0, _, _, _, _, x5, _⟩ := hbx.cells
  obtain ⟨wd1, wd2⟩ := hwd
  have HW := Lib.hid hw
  clear hbx hw
  by_cases h9 : (9 : Int) < (z.num.size : Int)
  · rw [if_pos h9] at hr
    have HR := Lib.hid hr
    clear hr
    go_wp2_with fail
    go_ret
    exact ⟨ret_i64 (by rw [← HR.out]; omega), HW.out⟩
  · rw [if_neg h9] at hr
    have HR := Lib.hid hr
    have h9' : (z.num.size : Int) ≤ 9 := by omega
    clear hr h9
    go_wp2_with fail
    go_ret
    exact ⟨ret_i64 (by rw [← HR.out]; omega), HW.out⟩
end Go.Proofs.YtafbhadfeemppaaGreatDoor
