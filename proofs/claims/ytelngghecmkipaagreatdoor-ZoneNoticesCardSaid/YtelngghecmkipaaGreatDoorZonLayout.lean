/- Chapter 11: the walks of layout. -/
import Derived.Test.YtelngghecmkipaaGreatDoorZonGA
import Derived.Laws.Tables
namespace Go.Proofs.YtelngghecmkipaaGreatDoor
open Go.RowKit

namespace Zn
/-- The places of a format, as cells. -/
def lay0 : Array Value := #[.int .i64 0, .int .i64 0, .int .i64 0, .int .i64 0, .int .i64 0, .int .i64 0, .int .i64 0, .int .i64 0, .int .i64 0, .int .i64 0, .int .i64 0, .int .i64 0, .int .i64 0, .int .i64 0, .int .i64 0, .int .i64 0, .int .i64 0, .int .i64 0, .int .i64 0, .int .i64 0, .int .i64 0, .int .i64 0, .int .i64 0, .int .i64 0, .int .i64 0, .int .i64 0, .int .i64 0, .int .i64 0, .int .i64 0, .int .i64 0, .int .i64 0, .int .i64 0, .int .i64 0, .int .i64 0, .int .i64 0, .int .i64 0, .int .i64 0, .int .i64 0, .int .i64 0, .int .i64 0, .int .i64 0, .int .i64 0, .int .i64 0, .int .i64 0, .int .i64 0]
def lay1 : Array Value := #[.int .i64 0, .int .i64 0, .int .i64 2, .int .i64 0, .int .i64 2, .int .i64 3, .int .i64 2, .int .i64 0, .int .i64 30, .int .i64 0, .int .i64 5, .int .i64 9, .int .i64 0, .int .i64 14, .int .i64 1, .int .i64 1, .int .i64 15, .int .i64 3, .int .i64 1, .int .i64 0, .int .i64 6, .int .i64 1, .int .i64 6, .int .i64 1, .int .i64 1, .int .i64 7, .int .i64 1, .int .i64 1, .int .i64 8, .int .i64 6, .int .i64 1, .int .i64 14, .int .i64 1, .int .i64 0, .int .i64 15, .int .i64 15, .int .i64 0, .int .i64 0, .int .i64 0, .int .i64 1, .int .i64 18, .int .i64 11, .int .i64 1, .int .i64 29, .int .i64 1]
def lay2 : Array Value := #[.int .i64 0, .int .i64 0, .int .i64 2, .int .i64 0, .int .i64 2, .int .i64 3, .int .i64 0, .int .i64 5, .int .i64 31, .int .i64 1, .int .i64 0, .int .i64 9, .int .i64 1, .int .i64 9, .int .i64 1, .int .i64 1, .int .i64 10, .int .i64 3, .int .i64 1, .int .i64 13, .int .i64 6, .int .i64 1, .int .i64 19, .int .i64 1, .int .i64 1, .int .i64 20, .int .i64 1, .int .i64 1, .int .i64 21, .int .i64 6, .int .i64 1, .int .i64 27, .int .i64 1, .int .i64 1, .int .i64 28, .int .i64 7, .int .i64 0, .int .i64 0, .int .i64 0, .int .i64 0, .int .i64 0, .int .i64 0, .int .i64 1, .int .i64 35, .int .i64 1]
def lay3 : Array Value := #[.int .i64 0, .int .i64 0, .int .i64 2, .int .i64 0, .int .i64 2, .int .i64 3, .int .i64 0, .int .i64 5, .int .i64 39, .int .i64 1, .int .i64 0, .int .i64 9, .int .i64 1, .int .i64 9, .int .i64 1, .int .i64 1, .int .i64 10, .int .i64 3, .int .i64 1, .int .i64 13, .int .i64 6, .int .i64 1, .int .i64 19, .int .i64 1, .int .i64 1, .int .i64 20, .int .i64 1, .int .i64 1, .int .i64 21, .int .i64 6, .int .i64 1, .int .i64 27, .int .i64 1, .int .i64 1, .int .i64 28, .int .i64 14, .int .i64 1, .int .i64 42, .int .i64 1, .int .i64 0, .int .i64 0, .int .i64 0, .int .i64 1, .int .i64 43, .int .i64 1]
def lay3a : Array Value := #[.int .i64 0, .int .i64 0, .int .i64 2, .int .i64 0, .int .i64 2, .int .i64 3, .int .i64 0, .int .i64 5, .int .i64 39, .int .i64 1, .int .i64 0, .int .i64 9, .int .i64 1, .int .i64 9, .int .i64 1, .int .i64 1, .int .i64 10, .int .i64 3, .int .i64 1, .int .i64 13, .int .i64 6, .int .i64 1, .int .i64 19, .int .i64 1, .int .i64 1, .int .i64 20, .int .i64 1, .int .i64 1, .int .i64 21, .int .i64 6, .int .i64 1, .int .i64 27, .int .i64 1, .int .i64 1, .int .i64 28, .int .i64 15, .int .i64 0, .int .i64 0, .int .i64 0, .int .i64 0, .int .i64 0, .int .i64 0, .int .i64 1, .int .i64 43, .int .i64 1]
def lay3b : Array Value := #[.int .i64 0, .int .i64 0, .int .i64 2, .int .i64 0, .int .i64 2, .int .i64 3, .int .i64 0, .int .i64 5, .int .i64 39, .int .i64 1, .int .i64 0, .int .i64 9, .int .i64 1, .int .i64 9, .int .i64 1, .int .i64 1, .int .i64 10, .int .i64 3, .int .i64 1, .int .i64 13, .int .i64 6, .int .i64 1, .int .i64 19, .int .i64 1, .int .i64 1, .int .i64 20, .int .i64 1, .int .i64 1, .int .i64 21, .int .i64 6, .int .i64 1, .int .i64 27, .int .i64 1, .int .i64 1, .int .i64 28, .int .i64 14, .int .i64 0, .int .i64 0, .int .i64 0, .int .i64 0, .int .i64 0, .int .i64 0, .int .i64 1, .int .i64 43, .int .i64 1]
/-- Line, first place and width of a field. -/
def place (f : Nat) (i : Nat) : Nat × Nat × Nat := (if f = 3 then [(0, 0, 2), (0, 2, 3), (0, 5, 39), (1, 0, 9), (1, 9, 1), (1, 10, 3), (1, 13, 6), (1, 19, 1), (1, 20, 1), (1, 21, 6), (1, 27, 1), (1, 28, 14), (1, 42, 1), (0, 0, 0), (1, 43, 1)] else if f = 2 then [(0, 0, 2), (0, 2, 3), (0, 5, 31), (1, 0, 9), (1, 9, 1), (1, 10, 3), (1, 13, 6), (1, 19, 1), (1, 20, 1), (1, 21, 6), (1, 27, 1), (1, 28, 7), (0, 0, 0), (0, 0, 0), (1, 35, 1)] else [(0, 0, 2), (0, 2, 3), (2, 0, 30), (0, 5, 9), (0, 14, 1), (1, 15, 3), (1, 0, 6), (1, 6, 1), (1, 7, 1), (1, 8, 6), (1, 14, 1), (0, 15, 15), (0, 0, 0), (1, 18, 11), (1, 29, 1)]).getD i (0, 0, 0)
end Zn
theorem Tryz.infoPl : (Tryz.prog.info? 56).map (·.size) = some 45 := by kernel_rfl
theorem lay_size : Zn.lay0.size = 45 ∧ Zn.lay1.size = 45 ∧ Zn.lay2.size = 45 ∧ Zn.lay3.size = 45 ∧ Zn.lay3a.size = 45 ∧ Zn.lay3b.size = 45 := ⟨rfl, rfl, rfl, rfl, rfl, rfl⟩
/-- A row of places in a block. -/
def LayAt (w : World) (g : Nat) (L : Array Value) : Prop := w.heap[g]? = some (.cells L 56 (0, 0))
theorem LayAt.set {w : World} {g : Nat} {L : Array Value} (h : LayAt w g L) (M : Array Value) : LayAt (w.setRow g M) g M := setRow_heap _ _ _ _ _ _ h
theorem below_setRow2 {B : Nat} {w0 w : World} {g : Nat} {M : Array Value} (h : Below B w0 w) (hg : B ≤ g) : Below B w0 (w.setRow g M) := by
  refine ⟨h.os, h.tape, h.output, ?_, fun i hi => ?_⟩
  · have := h.size; unfold World.setRow; simp only [Array.size_modify]; exact this
  · rw [← h.block i hi]; unfold World.setRow; rw [Array.getElem?_modify, if_neg (by omega)]

theorem store_lay (w : World) (g : Nat) (L M : Array Value) (h : LayAt w g L) (hs : L.size = M.size) (h1 : M.all (·.oneCell') = true) : Sem.run Tryz.prog (storeCells ⟨g, 0, none⟩ M.toList) w = .ok () (w.setRow g M) := by
  have := run_storeCells_from (P := Tryz.prog) g _ M.toList 0 L w h (by simp; omega) (fun v hv => (Array.all_eq_true_iff_forall_mem.1 h1) v (by simpa using hv))
  simpa [hs] using this
theorem load_lay (w : World) (g : Nat) (M : Array Value) (h : LayAt w g M) (hs : M.size = 45) : Sem.run Tryz.prog (loadVar 56 ⟨g, 0, none⟩) w = .ok (.agg M) w :=
  run_loadVar_row w g _ _ M _ _ h Tryz.underlying56 rfl (by rw [hs]; exact Tryz.infoPl)
theorem results_lay (tmps : Array Value) (w : World) (g : Nat) (M : Array Value) (ha : tmps.getD 2 undef = .pointer (some ⟨g, 0, none⟩)) (h : LayAt w g M) (hs : M.size = 45) :
    (results Tryz.f29 tmps).run Tryz.prog w = .ok (.tuple #[.agg M, tmps.getD 3 undef, tmps.getD 4 undef]) w := by
  have hp' : tmps[2]?.getD undef = .pointer (some ⟨g, 0, none⟩) := by simpa using ha
  simp [results, hp', asAddr, run_loadVar_row (P := Tryz.prog) w g _ _ M _ _ h Tryz.underlying56 rfl (by rw [hs]; exact Tryz.infoPl)]

set_option maxRecDepth 100000 in
set_option maxHeartbeats 4000000 in
theorem zlayout1 (w : World) : Calls Tryz.prog 29 #[.int .i64 1] w fun e w' => e = .returned (.tuple #[.agg Zn.lay1, .int .i64 3, .int .i64 30]) ∧ Below w.heap.size w w' := by
  have hb : (Tryz.prog.built 56 [(0, Value.agg #[Value.int IntKind.i64 0, Value.int IntKind.i64 0, Value.int IntKind.i64 2]), (1, Value.agg #[Value.int IntKind.i64 0, Value.int IntKind.i64 2, Value.int IntKind.i64 3]), (3, Value.agg #[Value.int IntKind.i64 0, Value.int IntKind.i64 5, Value.int IntKind.i64 9]), (4, Value.agg #[Value.int IntKind.i64 0, Value.int IntKind.i64 14, Value.int IntKind.i64 1]), (11, Value.agg #[Value.int IntKind.i64 0, Value.int IntKind.i64 15, Value.int IntKind.i64 15]), (6, Value.agg #[Value.int IntKind.i64 1, Value.int IntKind.i64 0, Value.int IntKind.i64 6]), (7, Value.agg #[Value.int IntKind.i64 1, Value.int IntKind.i64 6, Value.int IntKind.i64 1]), (8, Value.agg #[Value.int IntKind.i64 1, Value.int IntKind.i64 7, Value.int IntKind.i64 1]), (9, Value.agg #[Value.int IntKind.i64 1, Value.int IntKind.i64 8, Value.int IntKind.i64 6]), (10, Value.agg #[Value.int IntKind.i64 1, Value.int IntKind.i64 14, Value.int IntKind.i64 1]), (5, Value.agg #[Value.int IntKind.i64 1, Value.int IntKind.i64 15, Value.int IntKind.i64 3]), (13, Value.agg #[Value.int IntKind.i64 1, Value.int IntKind.i64 18, Value.int IntKind.i64 11]), (14, Value.agg #[Value.int IntKind.i64 1, Value.int IntKind.i64 29, Value.int IntKind.i64 1]), (2, Value.agg #[Value.int IntKind.i64 2, Value.int IntKind.i64 0, Value.int IntKind.i64 30])]).getD #[] = Zn.lay1 := by kernel_rfl
  have hl : LayAt (w.alloc (.cells #[.int .i64 0, .int .i64 0, .int .i64 0, .int .i64 0, .int .i64 0, .int .i64 0, .int .i64 0, .int .i64 0, .int .i64 0, .int .i64 0, .int .i64 0, .int .i64 0, .int .i64 0, .int .i64 0, .int .i64 0, .int .i64 0, .int .i64 0, .int .i64 0, .int .i64 0, .int .i64 0, .int .i64 0, .int .i64 0, .int .i64 0, .int .i64 0, .int .i64 0, .int .i64 0, .int .i64 0, .int .i64 0, .int .i64 0, .int .i64 0, .int .i64 0, .int .i64 0, .int .i64 0, .int .i64 0, .int .i64 0, .int .i64 0, .int .i64 0, .int .i64 0, .int .i64 0, .int .i64 0, .int .i64 0, .int .i64 0, .int .i64 0, .int .i64 0, .int .i64 0] 56)) w.heap.size Zn.lay0 := heap_alloc_new w _
  have hw := below_alloc1 w (.cells #[.int .i64 0, .int .i64 0, .int .i64 0, .int .i64 0, .int .i64 0, .int .i64 0, .int .i64 0, .int .i64 0, .int .i64 0, .int .i64 0, .int .i64 0, .int .i64 0, .int .i64 0, .int .i64 0, .int .i64 0, .int .i64 0, .int .i64 0, .int .i64 0, .int .i64 0, .int .i64 0, .int .i64 0, .int .i64 0, .int .i64 0, .int .i64 0, .int .i64 0, .int .i64 0, .int .i64 0, .int .i64 0, .int .i64 0, .int .i64 0, .int .i64 0, .int .i64 0, .int .i64 0, .int .i64 0, .int .i64 0, .int .i64 0, .int .i64 0, .int .i64 0, .int .i64 0, .int .i64 0, .int .i64 0, .int .i64 0, .int .i64 0, .int .i64 0, .int .i64 0] 56)
  go_enter Tryz.func29, Tryz.ntmps29
  go_upto_region 1 with fail
  generalize w.alloc (.cells #[.int .i64 0, .int .i64 0, .int .i64 0, .int .i64 0, .int .i64 0, .int .i64 0, .int .i64 0, .int .i64 0, .int .i64 0, .int .i64 0, .int .i64 0, .int .i64 0, .int .i64 0, .int .i64 0, .int .i64 0, .int .i64 0, .int .i64 0, .int .i64 0, .int .i64 0, .int .i64 0, .int .i64 0, .int .i64 0, .int .i64 0, .int .i64 0, .int .i64 0, .int .i64 0, .int .i64 0, .int .i64 0, .int .i64 0, .int .i64 0, .int .i64 0, .int .i64 0, .int .i64 0, .int .i64 0, .int .i64 0, .int .i64 0, .int .i64 0, .int .i64 0, .int .i64 0, .int .i64 0, .int .i64 0, .int .i64 0, .int .i64 0, .int .i64 0, .int .i64 0] 56) = w1 at hl hw ⊢
  have HL := Lib.hid hl; have HW := Lib.hid hw
  clear hl hw
  have hst := store_lay w1 w.heap.size Zn.lay0 Zn.lay1 HL.out rfl (by kernel_rfl)
  have HL1 := Lib.hid (HL.out.set Zn.lay1); have HW1 := Lib.hid (below_setRow2 (M := Zn.lay1) HW.out (Nat.le_refl w.heap.size))
  generalize w1.setRow w.heap.size Zn.lay1 = w2 at hst HL1 HW1
  have hld := load_lay w2 w.heap.size Zn.lay1 HL1.out rfl
  go_wp2_with (with_reducible refine wpList_build rfl 56 _ rfl ?c1 ?_)
  case c1 => kernel_rfl
  refine bodyPost_ret (v := .tuple #[.agg Zn.lay1, .int .i64 3, .int .i64 30]) (results_lay _ _ w.heap.size Zn.lay1 rfl HL1.out rfl) rfl ?_
  exact ⟨rfl, HW1.out⟩

set_option maxRecDepth 100000 in
set_option maxHeartbeats 4000000 in
theorem zlayout2 (w : World) : Calls Tryz.prog 29 #[.int .i64 2] w fun e w' => e = .returned (.tuple #[.agg Zn.lay2, .int .i64 2, .int .i64 36]) ∧ Below w.heap.size w w' := by
  have hb : (Tryz.prog.built 56 [(0, Value.agg #[Value.int IntKind.i64 0, Value.int IntKind.i64 0, Value.int IntKind.i64 2]), (1, Value.agg #[Value.int IntKind.i64 0, Value.int IntKind.i64 2, Value.int IntKind.i64 3]), (2, Value.agg #[Value.int IntKind.i64 0, Value.int IntKind.i64 5, Value.int IntKind.i64 31]), (3, Value.agg #[Value.int IntKind.i64 1, Value.int IntKind.i64 0, Value.int IntKind.i64 9]), (4, Value.agg #[Value.int IntKind.i64 1, Value.int IntKind.i64 9, Value.int IntKind.i64 1]), (5, Value.agg #[Value.int IntKind.i64 1, Value.int IntKind.i64 10, Value.int IntKind.i64 3]), (6, Value.agg #[Value.int IntKind.i64 1, Value.int IntKind.i64 13, Value.int IntKind.i64 6]), (7, Value.agg #[Value.int IntKind.i64 1, Value.int IntKind.i64 19, Value.int IntKind.i64 1]), (8, Value.agg #[Value.int IntKind.i64 1, Value.int IntKind.i64 20, Value.int IntKind.i64 1]), (9, Value.agg #[Value.int IntKind.i64 1, Value.int IntKind.i64 21, Value.int IntKind.i64 6]), (10, Value.agg #[Value.int IntKind.i64 1, Value.int IntKind.i64 27, Value.int IntKind.i64 1]), (11, Value.agg #[Value.int IntKind.i64 1, Value.int IntKind.i64 28, Value.int IntKind.i64 7]), (14, Value.agg #[Value.int IntKind.i64 1, Value.int IntKind.i64 35, Value.int IntKind.i64 1])]).getD #[] = Zn.lay2 := by kernel_rfl
  have hl : LayAt (w.alloc (.cells #[.int .i64 0, .int .i64 0, .int .i64 0, .int .i64 0, .int .i64 0, .int .i64 0, .int .i64 0, .int .i64 0, .int .i64 0, .int .i64 0, .int .i64 0, .int .i64 0, .int .i64 0, .int .i64 0, .int .i64 0, .int .i64 0, .int .i64 0, .int .i64 0, .int .i64 0, .int .i64 0, .int .i64 0, .int .i64 0, .int .i64 0, .int .i64 0, .int .i64 0, .int .i64 0, .int .i64 0, .int .i64 0, .int .i64 0, .int .i64 0, .int .i64 0, .int .i64 0, .int .i64 0, .int .i64 0, .int .i64 0, .int .i64 0, .int .i64 0, .int .i64 0, .int .i64 0, .int .i64 0, .int .i64 0, .int .i64 0, .int .i64 0, .int .i64 0, .int .i64 0] 56)) w.heap.size Zn.lay0 := heap_alloc_new w _
  have hw := below_alloc1 w (.cells #[.int .i64 0, .int .i64 0, .int .i64 0, .int .i64 0, .int .i64 0, .int .i64 0, .int .i64 0, .int .i64 0, .int .i64 0, .int .i64 0, .int .i64 0, .int .i64 0, .int .i64 0, .int .i64 0, .int .i64 0, .int .i64 0, .int .i64 0, .int .i64 0, .int .i64 0, .int .i64 0, .int .i64 0, .int .i64 0, .int .i64 0, .int .i64 0, .int .i64 0, .int .i64 0, .int .i64 0, .int .i64 0, .int .i64 0, .int .i64 0, .int .i64 0, .int .i64 0, .int .i64 0, .int .i64 0, .int .i64 0, .int .i64 0, .int .i64 0, .int .i64 0, .int .i64 0, .int .i64 0, .int .i64 0, .int .i64 0, .int .i64 0, .int .i64 0, .int .i64 0] 56)
  go_enter Tryz.func29, Tryz.ntmps29
  go_upto_region 1 with fail
  generalize w.alloc (.cells #[.int .i64 0, .int .i64 0, .int .i64 0, .int .i64 0, .int .i64 0, .int .i64 0, .int .i64 0, .int .i64 0, .int .i64 0, .int .i64 0, .int .i64 0, .int .i64 0, .int .i64 0, .int .i64 0, .int .i64 0, .int .i64 0, .int .i64 0, .int .i64 0, .int .i64 0, .int .i64 0, .int .i64 0, .int .i64 0, .int .i64 0, .int .i64 0, .int .i64 0, .int .i64 0, .int .i64 0, .int .i64 0, .int .i64 0, .int .i64 0, .int .i64 0, .int .i64 0, .int .i64 0, .int .i64 0, .int .i64 0, .int .i64 0, .int .i64 0, .int .i64 0, .int .i64 0, .int .i64 0, .int .i64 0, .int .i64 0, .int .i64 0, .int .i64 0, .int .i64 0] 56) = w1 at hl hw ⊢
  have HL := Lib.hid hl; have HW := Lib.hid hw
  clear hl hw
  go_upto_region 7 with fail
  have hst := store_lay w1 w.heap.size Zn.lay0 Zn.lay2 HL.out rfl (by kernel_rfl)
  have HL1 := Lib.hid (HL.out.set Zn.lay2); have HW1 := Lib.hid (below_setRow2 (M := Zn.lay2) HW.out (Nat.le_refl w.heap.size))
  generalize w1.setRow w.heap.size Zn.lay2 = w2 at hst HL1 HW1
  go_upto_region 11 with (with_reducible refine wpList_build rfl 56 _ rfl ?c1 ?_)
  case c1 => kernel_rfl
  clear hst hb
  have hst := store_lay w2 w.heap.size Zn.lay2 Zn.lay2 HL1.out rfl (by kernel_rfl)
  have HL3 := Lib.hid (HL1.out.set Zn.lay2); have HW3 := Lib.hid (below_setRow2 (M := Zn.lay2) HW1.out (Nat.le_refl w.heap.size))
  generalize w2.setRow w.heap.size Zn.lay2 = w3 at hst HL3 HW3
  go_wp2_with (refine wpList_load_row rfl 56 _ rfl w.heap.size rfl _ Zn.lay2 _ _ HL1.out Tryz.underlying56 rfl Tryz.infoPl ?_)
  refine bodyPost_ret (v := .tuple #[.agg Zn.lay2, .int .i64 2, .int .i64 36]) (results_lay _ _ w.heap.size Zn.lay2 rfl HL3.out rfl) rfl ?_
  exact ⟨rfl, HW3.out⟩
theorem LayAt.setc {w : World} {g : Nat} {L : Array Value} (h : LayAt w g L) (i : Nat) (v : Value) : LayAt (w.setCell ⟨g, i, none⟩ v) g (L.setIfInBounds i v) := heap_setCell_same w g i L _ v h
theorem LayAt.cell {w : World} {g : Nat} {L : Array Value} (h : LayAt w g L) (i : Nat) : w.cell? ⟨g, i, none⟩ = L[i]? := cell_of_row w g i L _ _ h
theorem LayAt.free {w : World} {g : Nat} {L : Array Value} (h : LayAt w g L) (i : Nat) : w.frozen? ⟨g, i, none⟩ = false := frozen_of_row w g i L _ h
set_option maxRecDepth 100000 in
set_option maxHeartbeats 4000000 in
theorem zlayout3 (w : World) : Calls Tryz.prog 29 #[.int .i64 3] w fun e w' => e = .returned (.tuple #[.agg Zn.lay3, .int .i64 2, .int .i64 44]) ∧ Below w.heap.size w w' := by
  have hb : (Tryz.prog.built 56 [(0, Value.agg #[Value.int IntKind.i64 0, Value.int IntKind.i64 0, Value.int IntKind.i64 2]), (1, Value.agg #[Value.int IntKind.i64 0, Value.int IntKind.i64 2, Value.int IntKind.i64 3]), (2, Value.agg #[Value.int IntKind.i64 0, Value.int IntKind.i64 5, Value.int IntKind.i64 39]), (3, Value.agg #[Value.int IntKind.i64 1, Value.int IntKind.i64 0, Value.int IntKind.i64 9]), (4, Value.agg #[Value.int IntKind.i64 1, Value.int IntKind.i64 9, Value.int IntKind.i64 1]), (5, Value.agg #[Value.int IntKind.i64 1, Value.int IntKind.i64 10, Value.int IntKind.i64 3]), (6, Value.agg #[Value.int IntKind.i64 1, Value.int IntKind.i64 13, Value.int IntKind.i64 6]), (7, Value.agg #[Value.int IntKind.i64 1, Value.int IntKind.i64 19, Value.int IntKind.i64 1]), (8, Value.agg #[Value.int IntKind.i64 1, Value.int IntKind.i64 20, Value.int IntKind.i64 1]), (9, Value.agg #[Value.int IntKind.i64 1, Value.int IntKind.i64 21, Value.int IntKind.i64 6]), (10, Value.agg #[Value.int IntKind.i64 1, Value.int IntKind.i64 27, Value.int IntKind.i64 1]), (11, Value.agg #[Value.int IntKind.i64 1, Value.int IntKind.i64 28, Value.int IntKind.i64 15]), (14, Value.agg #[Value.int IntKind.i64 1, Value.int IntKind.i64 43, Value.int IntKind.i64 1])]).getD #[] = Zn.lay3a := by kernel_rfl
  have hl : LayAt (w.alloc (.cells #[.int .i64 0, .int .i64 0, .int .i64 0, .int .i64 0, .int .i64 0, .int .i64 0, .int .i64 0, .int .i64 0, .int .i64 0, .int .i64 0, .int .i64 0, .int .i64 0, .int .i64 0, .int .i64 0, .int .i64 0, .int .i64 0, .int .i64 0, .int .i64 0, .int .i64 0, .int .i64 0, .int .i64 0, .int .i64 0, .int .i64 0, .int .i64 0, .int .i64 0, .int .i64 0, .int .i64 0, .int .i64 0, .int .i64 0, .int .i64 0, .int .i64 0, .int .i64 0, .int .i64 0, .int .i64 0, .int .i64 0, .int .i64 0, .int .i64 0, .int .i64 0, .int .i64 0, .int .i64 0, .int .i64 0, .int .i64 0, .int .i64 0, .int .i64 0, .int .i64 0] 56)) w.heap.size Zn.lay0 := heap_alloc_new w _
  have hw := below_alloc1 w (.cells #[.int .i64 0, .int .i64 0, .int .i64 0, .int .i64 0, .int .i64 0, .int .i64 0, .int .i64 0, .int .i64 0, .int .i64 0, .int .i64 0, .int .i64 0, .int .i64 0, .int .i64 0, .int .i64 0, .int .i64 0, .int .i64 0, .int .i64 0, .int .i64 0, .int .i64 0, .int .i64 0, .int .i64 0, .int .i64 0, .int .i64 0, .int .i64 0, .int .i64 0, .int .i64 0, .int .i64 0, .int .i64 0, .int .i64 0, .int .i64 0, .int .i64 0, .int .i64 0, .int .i64 0, .int .i64 0, .int .i64 0, .int .i64 0, .int .i64 0, .int .i64 0, .int .i64 0, .int .i64 0, .int .i64 0, .int .i64 0, .int .i64 0, .int .i64 0, .int .i64 0] 56)
  go_enter Tryz.func29, Tryz.ntmps29
  go_upto_region 1 with fail
  generalize w.alloc (.cells #[.int .i64 0, .int .i64 0, .int .i64 0, .int .i64 0, .int .i64 0, .int .i64 0, .int .i64 0, .int .i64 0, .int .i64 0, .int .i64 0, .int .i64 0, .int .i64 0, .int .i64 0, .int .i64 0, .int .i64 0, .int .i64 0, .int .i64 0, .int .i64 0, .int .i64 0, .int .i64 0, .int .i64 0, .int .i64 0, .int .i64 0, .int .i64 0, .int .i64 0, .int .i64 0, .int .i64 0, .int .i64 0, .int .i64 0, .int .i64 0, .int .i64 0, .int .i64 0, .int .i64 0, .int .i64 0, .int .i64 0, .int .i64 0, .int .i64 0, .int .i64 0, .int .i64 0, .int .i64 0, .int .i64 0, .int .i64 0, .int .i64 0, .int .i64 0, .int .i64 0] 56) = w1 at hl hw ⊢
  have HL := Lib.hid hl; have HW := Lib.hid hw
  clear hl hw
  go_upto_region 7 with fail
  have hst := store_lay w1 w.heap.size Zn.lay0 Zn.lay3a HL.out rfl (by kernel_rfl)
  have HL1 := Lib.hid (HL.out.set Zn.lay3a); have HW1 := Lib.hid (below_setRow2 (M := Zn.lay3a) HW.out (Nat.le_refl w.heap.size))
  generalize w1.setRow w.heap.size Zn.lay3a = w2 at hst HL1 HW1
  go_upto_region 9 with (with_reducible refine wpList_build rfl 56 _ rfl ?c1 ?_)
  case c1 => kernel_rfl
  clear hst hb
  have c35 : w2.cell? ⟨w.heap.size, 35, none⟩ = some (.int .i64 15) := HL1.out.cell 35
  have f35 := HL1.out.free 35
  have f36 := HL1.out.free 36
  have f37 := HL1.out.free 37
  have f38 := HL1.out.free 38
  have c36 : w2.cell? ⟨w.heap.size, 36, none⟩ = some (.int .i64 0) := HL1.out.cell 36
  have c37 : w2.cell? ⟨w.heap.size, 37, none⟩ = some (.int .i64 0) := HL1.out.cell 37
  have c38 : w2.cell? ⟨w.heap.size, 38, none⟩ = some (.int .i64 0) := HL1.out.cell 38
  go_upto_region 11 with fail
  have hl4 := (((HL1.out.setc 35 (.int .i64 14)).setc 36 (.int .i64 1)).setc 37 (.int .i64 42)).setc 38 (.int .i64 1)
  have hb4 := (((HW1.out.setCell (p := ⟨w.heap.size, 35, none⟩) (Nat.le_refl _) (.int .i64 14)).setCell (p := ⟨w.heap.size, 36, none⟩) (Nat.le_refl _) (.int .i64 1)).setCell (p := ⟨w.heap.size, 37, none⟩) (Nat.le_refl _) (.int .i64 42)).setCell (p := ⟨w.heap.size, 38, none⟩) (Nat.le_refl _) (.int .i64 1)
  rw [show ((((Zn.lay3a.setIfInBounds 35 (.int .i64 14)).setIfInBounds 36 (.int .i64 1)).setIfInBounds 37 (.int .i64 42)).setIfInBounds 38 (.int .i64 1)) = Zn.lay3 by kernel_rfl] at hl4
  clear c35 c36 c37 c38 f35 f36 f37 f38
  generalize (((w2.setCell ⟨w.heap.size, 35, none⟩ (.int .i64 14)).setCell ⟨w.heap.size, 36, none⟩ (.int .i64 1)).setCell ⟨w.heap.size, 37, none⟩ (.int .i64 42)).setCell ⟨w.heap.size, 38, none⟩ (.int .i64 1) = w4 at hl4 hb4 ⊢
  have HL4 := Lib.hid hl4; have HW4 := Lib.hid hb4
  clear hl4 hb4
  have hst := store_lay w4 w.heap.size Zn.lay3 Zn.lay3 HL4.out rfl (by kernel_rfl)
  have HL3 := Lib.hid (HL4.out.set Zn.lay3); have HW3 := Lib.hid (below_setRow2 (M := Zn.lay3) HW4.out (Nat.le_refl w.heap.size))
  generalize w4.setRow w.heap.size Zn.lay3 = w3 at hst HL3 HW3
  go_wp2_with (refine wpList_load_row rfl 56 _ rfl w.heap.size rfl _ Zn.lay3 _ _ HL4.out Tryz.underlying56 rfl Tryz.infoPl ?_)
  refine bodyPost_ret (v := .tuple #[.agg Zn.lay3, .int .i64 2, .int .i64 44]) (results_lay _ _ w.heap.size Zn.lay3 rfl HL3.out rfl) rfl ?_
  exact ⟨rfl, HW3.out⟩
set_option maxRecDepth 100000 in
set_option maxHeartbeats 4000000 in
theorem zlayout0 (f : Int) (w : World) (h : ¬ (1 ≤ f ∧ f ≤ 3)) : Calls Tryz.prog 29 #[.int .i64 f] w fun e w' => e = .returned (.tuple #[.agg Zn.lay0, .int .i64 0, .int .i64 0]) ∧ Below w.heap.size w w' := by
  have e1 : (f == 1) = false := by rw [beq_eq_false_iff_ne]; omega
  have e2 : (f == 2) = false := by rw [beq_eq_false_iff_ne]; omega
  have e3 : (f == 3) = false := by rw [beq_eq_false_iff_ne]; omega
  have hl : LayAt (w.alloc (.cells #[.int .i64 0, .int .i64 0, .int .i64 0, .int .i64 0, .int .i64 0, .int .i64 0, .int .i64 0, .int .i64 0, .int .i64 0, .int .i64 0, .int .i64 0, .int .i64 0, .int .i64 0, .int .i64 0, .int .i64 0, .int .i64 0, .int .i64 0, .int .i64 0, .int .i64 0, .int .i64 0, .int .i64 0, .int .i64 0, .int .i64 0, .int .i64 0, .int .i64 0, .int .i64 0, .int .i64 0, .int .i64 0, .int .i64 0, .int .i64 0, .int .i64 0, .int .i64 0, .int .i64 0, .int .i64 0, .int .i64 0, .int .i64 0, .int .i64 0, .int .i64 0, .int .i64 0, .int .i64 0, .int .i64 0, .int .i64 0, .int .i64 0, .int .i64 0, .int .i64 0] 56)) w.heap.size Zn.lay0 := heap_alloc_new w _
  have hw := below_alloc1 w (.cells #[.int .i64 0, .int .i64 0, .int .i64 0, .int .i64 0, .int .i64 0, .int .i64 0, .int .i64 0, .int .i64 0, .int .i64 0, .int .i64 0, .int .i64 0, .int .i64 0, .int .i64 0, .int .i64 0, .int .i64 0, .int .i64 0, .int .i64 0, .int .i64 0, .int .i64 0, .int .i64 0, .int .i64 0, .int .i64 0, .int .i64 0, .int .i64 0, .int .i64 0, .int .i64 0, .int .i64 0, .int .i64 0, .int .i64 0, .int .i64 0, .int .i64 0, .int .i64 0, .int .i64 0, .int .i64 0, .int .i64 0, .int .i64 0, .int .i64 0, .int .i64 0, .int .i64 0, .int .i64 0, .int .i64 0, .int .i64 0, .int .i64 0, .int .i64 0, .int .i64 0] 56)
  clear h
  go_enter Tryz.func29, Tryz.ntmps29
  go_upto_region 1 with fail
  generalize w.alloc (.cells #[.int .i64 0, .int .i64 0, .int .i64 0, .int .i64 0, .int .i64 0, .int .i64 0, .int .i64 0, .int .i64 0, .int .i64 0, .int .i64 0, .int .i64 0, .int .i64 0, .int .i64 0, .int .i64 0, .int .i64 0, .int .i64 0, .int .i64 0, .int .i64 0, .int .i64 0, .int .i64 0, .int .i64 0, .int .i64 0, .int .i64 0, .int .i64 0, .int .i64 0, .int .i64 0, .int .i64 0, .int .i64 0, .int .i64 0, .int .i64 0, .int .i64 0, .int .i64 0, .int .i64 0, .int .i64 0, .int .i64 0, .int .i64 0, .int .i64 0, .int .i64 0, .int .i64 0, .int .i64 0, .int .i64 0, .int .i64 0, .int .i64 0, .int .i64 0, .int .i64 0] 56) = w1 at hl hw ⊢
  have HL := Lib.hid hl; have HW := Lib.hid hw
  clear hl hw
  have hst := store_lay w1 w.heap.size Zn.lay0 Zn.lay0 HL.out rfl (by kernel_rfl)
  have HL3 := Lib.hid (HL.out.set Zn.lay0); have HW3 := Lib.hid (below_setRow2 (M := Zn.lay0) HW.out (Nat.le_refl w.heap.size))
  generalize w1.setRow w.heap.size Zn.lay0 = w3 at hst HL3 HW3
  go_wp2_with (refine wpList_load_row rfl 56 _ rfl w.heap.size rfl _ Zn.lay0 _ _ HL.out Tryz.underlying56 rfl Tryz.infoPl ?_)
  refine bodyPost_ret (v := .tuple #[.agg Zn.lay0, .int .i64 0, .int .i64 0]) (results_lay _ _ w.heap.size Zn.lay0 rfl HL3.out rfl) rfl ?_
  exact ⟨rfl, HW3.out⟩
end Go.Proofs.YtelngghecmkipaaGreatDoor
