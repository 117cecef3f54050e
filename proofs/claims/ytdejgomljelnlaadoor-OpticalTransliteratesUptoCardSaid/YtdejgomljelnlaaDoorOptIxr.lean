/- Chapter 10: the walk of strings.IndexRune beyond ASCII, over a short text in which no byte that goes on stands more than twice. -/
import Derived.Test.YtdejgomljelnlaaDoorOptTrP
import Derived.Test.YtdejgomljelnlaaDoorShelf
import Derived.Lib.IndexLaws
import Derived.Deep.LoopGhost
import Derived.Deep.CutBlock
import Derived.Deep.DeepCutAuto
import Derived.Below
namespace Go.Proofs.YtdejgomljelnlaaDoor
open Go.RowKit Go.Lib
namespace Opt
/-- The bytes e stand in l at p. -/
def At (l e : List UInt8) (p : Nat) : Prop := p + e.length ≤ l.length ∧ ∀ j, j < e.length → l.getD (p + j) 0 = e.getD j 0
theorem ofz (n : Nat) (z : Int) (h : z = (n : Int)) : UInt8.ofNat n = z.toNat.toUInt8 := by subst h; rfl
theorem encode_list (r : Nat) (h0 : 128 ≤ r) (h1 : r ≤ 1114111) (h3 : ¬ (55296 ≤ r ∧ r ≤ 57343)) : (Utf8.encode (r : Int)).data.toList = encodeRune (r : Int) := by
  have v : Utf8.valid (r : Int) = true := by simp [Utf8.valid]; omega
  have c1 : ¬ r < 128 := by omega
  unfold encodeRune Utf8.encode
  have two : ∀ {a b : UInt8} {x y : Int}, a = x.toNat.toUInt8 → b = y.toNat.toUInt8 → [a, b] = [x, y].map fun z => z.toNat.toUInt8 := fun h1 h2 => by rw [h1, h2]; rfl
  have three : ∀ {a b c : UInt8} {x y z : Int}, a = x.toNat.toUInt8 → b = y.toNat.toUInt8 → c = z.toNat.toUInt8 → [a, b, c] = [x, y, z].map fun z => z.toNat.toUInt8 := fun h1 h2 h3 => by rw [h1, h2, h3]; rfl
  have four : ∀ {a b c d : UInt8} {x y z u : Int}, a = x.toNat.toUInt8 → b = y.toNat.toUInt8 → c = z.toNat.toUInt8 → d = u.toNat.toUInt8 → [a, b, c, d] = [x, y, z, u].map fun z => z.toNat.toUInt8 := fun h1 h2 h3 h4 => by rw [h1, h2, h3, h4]; rfl
  simp only [v, if_true, Int.toNat_natCast, if_neg c1]
  by_cases c2 : r < 2048
  · rw [encodeRuneZ_two (by omega) (by omega), if_pos c2]
    exact two (ofz _ _ (by omega)) (ofz _ _ (by omega))
  · by_cases c3 : r < 65536
    · rw [encodeRuneZ_three (by omega), if_neg c2, if_pos c3]
      exact three (ofz _ _ (by omega)) (ofz _ _ (by omega)) (ofz _ _ (by omega))
    · rw [encodeRuneZ_four (by omega) (by omega), if_neg c2, if_neg c3]
      exact four (ofz _ _ (by omega)) (ofz _ _ (by omega)) (ofz _ _ (by omega)) (ofz _ _ (by omega))
/-- Its last byte goes on. -/
theorem encode_last (r : Nat) (h0 : 128 ≤ r) (h1 : r ≤ 1114111) (h3 : ¬ (55296 ≤ r ∧ r ≤ 57343)) : 2 ≤ (encodeRune (r : Int)).length ∧ (encodeRune (r : Int)).length ≤ 4 ∧
    ((encodeRune (r : Int)).getD ((encodeRune (r : Int)).length - 1) 0).toNat < 192 := by
  unfold encodeRune
  by_cases c2 : r < 2048
  · rw [encodeRuneZ_two (by omega) (by omega)]
    simp; omega
  · by_cases c3 : r < 65536
    · rw [encodeRuneZ_three (by omega)]
      simp; omega
    · rw [encodeRuneZ_four (by omega) (by omega)]
      simp; omega
end Opt
end Go.Proofs.YtdejgomljelnlaaDoor
