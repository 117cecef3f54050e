/- Small laws that every chapter's walks use: results of four and five values, rows of bytes as strings. -/
import Derived.WalkKit
import Derived.WalkSpells
import Derived.WalkLawsBesides
import Derived.Lib.Hide
import Derived.Lib.BufferRead
import Derived.Laws.OwnMore
import Derived.Laws.IdiomStrings
namespace Go.Proofs.YtnhkmifpppffnaaDoor
open Go.RowKit

theorem results_tmp4 {fn : Func} {t u v x : Tmp} (h : fn.results = #[.tmp t, .tmp u, .tmp v, .tmp x]) (tmps : Array Value) (P : Program) (w : World) :
    (results fn tmps).run P w = .ok (.tuple #[tmps.getD t undef, tmps.getD u undef, tmps.getD v undef, tmps.getD x undef]) w := by simp [results, h]
theorem ret_i64 {a b : Int} (h : a = b) : Ending.returned (.int .i64 a) = .returned (.int .i64 b) := by rw [h]
theorem ret_two {a b c d : Int} (h : a = b) (h' : c = d) : Ending.returned (.tuple #[.int .i64 a, .int .i64 c]) = .returned (.tuple #[.int .i64 b, .int .i64 d]) := by rw [h, h']
theorem ret_four {a b c d a' b' c' : Int} (h : a = a') (h' : b = b') (h'' : c = c') : Ending.returned (.tuple #[.int .i64 a, .int .i64 b, .int .i64 c, .int .i64 d]) = .returned (.tuple #[.int .i64 a', .int .i64 b', .int .i64 c', .int .i64 d]) := by rw [h, h', h'']

/-- The bytes as cells. -/
def BL (l : List UInt8) : List Value := l.map fun b => Value.int .u8 (b.toNat : Int)
theorem BL_nil : BL [] = [] := rfl
theorem BL_append (l m : List UInt8) : BL (l ++ m) = BL l ++ BL m := by simp [BL]
theorem BL_length (l : List UInt8) : (BL l).length = l.length := by simp [BL]
theorem BL_one (l : List UInt8) : ∀ u ∈ BL l, u.oneCell' = true := by
  intro u hu
  simp only [BL, List.mem_map] at hu
  obtain ⟨b, _, rfl⟩ := hu
  rfl
/-- A byte out of a number. -/
def b8 (n : Int) : UInt8 := UInt8.ofNat n.toNat
theorem b8_toNat (n : Int) (h : 0 ≤ n) (h' : n ≤ 255) : ((b8 n).toNat : Int) = n := by
  unfold b8
  rw [UInt8.toNat_ofNat']
  omega
theorem b8_val (n : Int) (h : 0 ≤ n) (h' : n ≤ 255) : Value.int .u8 ((b8 n).toNat : Int) = .int .u8 n := by rw [b8_toNat n h h']

/-- 'string(b)' of a row of the call's own. -/
theorem conv_own {P : Program} {w : World} {base : Nat} {v : Value} (src dst e : TypeId) (l : List UInt8) (n : Nat) (hn : n = l.length) (h : w.ownsRow base e 1 v n (BL l))
    (hs : P.underlying src = some (.slice e)) (he : P.underlying e = some (.int .u8)) (hd : P.underlying dst = some .string) :
    (convert src dst v).run P w = .ok (.string ⟨l.toArray⟩) w := by
  subst hn
  rcases h.2 with ⟨rfl, hl⟩ | ⟨g, cap, cur, rfl, _⟩
  · have : l = [] := List.eq_nil_of_length_eq_zero hl
    subst this
    exact Lib.run_convert_nil_bytes w src dst e 0 hs he hd
  · refine run_convert_bytes_back w src dst e ⟨g, 0, none⟩ cap l hs he hd fun j hj => ?_
    have := h.cellAt (g := g) j (by omega)
    have e0 : (⟨g, 0, none⟩ : Addr).add j = ⟨g, j, none⟩ := by simp [Addr.add]; omega
    rw [e0, this]
    simp [BL, List.getElem?_eq_getElem hj]

/-- Two bytes of a new block as a string. -/
theorem conv_two {P : Program} (w : World) (src dst e : TypeId) (a b : Int) (ha : 0 ≤ a ∧ a ≤ 255) (hb : 0 ≤ b ∧ b ≤ 255) (c : Nat)
    (hs : P.underlying src = some (.slice e)) (he : P.underlying e = some (.int .u8)) (hd : P.underlying dst = some .string) :
    (convert src dst (.slice (some ⟨w.heap.size, 0, none⟩) 2 c)).run P (w.alloc (.cells #[.int .u8 a, .int .u8 b] e)) = .ok (.string ⟨#[b8 a, b8 b]⟩) (w.alloc (.cells #[.int .u8 a, .int .u8 b] e)) := by
  have := run_convert_bytes_back (P := P) (w.alloc (.cells #[.int .u8 a, .int .u8 b] e)) src dst e ⟨w.heap.size, 0, none⟩ c [b8 a, b8 b] hs he hd (fun j hj => by
    match j, hj with
    | 0, _ => simpa [b8_toNat a ha.1 ha.2] using cell_two_new w (.int .u8 a) (.int .u8 b) e 0 _ rfl
    | 1, _ => simpa [b8_toNat b hb.1 hb.2] using cell_two_new w (.int .u8 a) (.int .u8 b) e 1 _ rfl)
  simpa using this
end Go.Proofs.YtnhkmifpppffnaaDoor
