/- Chapter 11: layout at any format of the three; what the program asks of a number. -/
import Derived.Test.YtafbhadfeemppaaGreatDoorZonLayout
import Derived.Lib.IndexAny
namespace Go.Proofs.YtafbhadfeemppaaGreatDoor
open Go.RowKit

theorem zlayout_any (f : Int) (h : 1 ≤ f ∧ f ≤ 3) : ∃ (M : Array Value) (L Wd : Int), (∀ w, Calls Tryz.prog 52 #[.int .i64 f] w fun e w' => e = .returned (.tuple #[.agg M, .int .i64 L, .int .i64 Wd]) ∧ Below w.heap.size w w') ∧
    2 ≤ L ∧ L ≤ 3 ∧ M.size = 45 ∧ M.all (·.oneCell') = true ∧ M[35]? = some (.int .i64 (Zn.wide f)) ∧ M[41]? = some (.int .i64 (if f = 1 then 11 else 0)) := by
  have h3 : f = 1 ∨ f = 2 ∨ f = 3 := by omega
  rcases h3 with rfl | rfl | rfl
  · exact ⟨Zn.lay1, 3, 30, zlayout1, by omega, by omega, rfl, by kernel_rfl, rfl, rfl⟩
  · exact ⟨Zn.lay2, 2, 36, zlayout2, by omega, by omega, rfl, by kernel_rfl, rfl, rfl⟩
  · exact ⟨Zn.lay3, 2, 44, zlayout3, by omega, by omega, rfl, by kernel_rfl, rfl, rfl⟩
theorem plain_is (s : ByteArray) : Zn.plain s = (Opt.valid s.data.toList && !decide (0 ≤ Lib.indexByte s.data.toList 60)) := by
  rw [← Lib.contains_iff_indexByte]
  unfold Zn.plain Opt.valid
  induction s.data.toList with
  | nil => rfl
  | cons c r ih =>
    rw [List.all_cons, List.all_cons, ih, List.contains_cons]
    have e : (c != 60) = !((60 : UInt8) == c) := by rw [bne, BEq.comm]
    rw [e]
    cases Opt.ok c <;> cases ((60 : UInt8) == c) <;> cases (r.all Opt.ok) <;> simp
end Go.Proofs.YtafbhadfeemppaaGreatDoor
