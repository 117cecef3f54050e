/- Chapter 11: the parts of the lines as the reference takes them; plain laws. -/
import Derived.Test.YtelngghecmkipaaGreatDoorZonRSmall
namespace Go.Proofs.YtelngghecmkipaaGreatDoor
open Go.RowKit

namespace Zn
theorem chk_is (F : Nat) (hF : 1 ≤ F ∧ F ≤ 3) (L : List (List UInt8)) : chk F L = ((decide (fld F L 4 = [60]) || decide (fld F L 4 = dg (fld F L 3))) && (decide (fld F L 7 = dg (fld F L 6)) && decide (fld F L 10 = dg (fld F L 9))) &&
    (((!decide (F = 3)) || (decide (fld F L 12 = dg (fld F L 11)) || (decide (tr (fld F L 11) = []) && decide (fld F L 12 = [60])))) && decide (fld F L 14 = dg (comp F L)))) := by
  have h4 : pok F L 3 4 = (decide (fld F L 4 = [60]) || decide (fld F L 4 = dg (fld F L 3))) := by
    have h : (place F 4).2.2 = 1 := by have h3 : F = 1 ∨ F = 2 ∨ F = 3 := by omega
                                       rcases h3 with rfl | rfl | rfl <;> rfl
    unfold pok; rw [h]; simp
  have h7 : pok F L 6 7 = decide (fld F L 7 = dg (fld F L 6)) := by
    have h : (place F 7).2.2 = 1 := by have h3 : F = 1 ∨ F = 2 ∨ F = 3 := by omega
                                       rcases h3 with rfl | rfl | rfl <;> rfl
    unfold pok; rw [h]; simp
  have h10 : pok F L 9 10 = decide (fld F L 10 = dg (fld F L 9)) := by
    have h : (place F 10).2.2 = 1 := by have h3 : F = 1 ∨ F = 2 ∨ F = 3 := by omega
                                        rcases h3 with rfl | rfl | rfl <;> rfl
    unfold pok; rw [h]; simp
  have h12 : pok F L 11 12 = ((!decide (F = 3)) || (decide (fld F L 12 = dg (fld F L 11)) || (decide (tr (fld F L 11) = []) && decide (fld F L 12 = [60])))) := by
    have h : decide ((place F 12).2.2 = 0) = !decide (F = 3) := by have h3 : F = 1 ∨ F = 2 ∨ F = 3 := by omega
                                                                   rcases h3 with rfl | rfl | rfl <;> rfl
    unfold pok
    rw [h, show decide (11 = 3 ∧ fld F L 12 = [60]) = false from decide_eq_false (by omega), show decide (11 = 11 ∧ tr (fld F L 11) = [] ∧ fld F L 12 = [60]) = (decide (tr (fld F L 11) = []) && decide (fld F L 12 = [60])) by simp]
    cases decide (F = 3) <;> cases decide (fld F L 12 = dg (fld F L 11)) <;> cases decide (tr (fld F L 11) = []) <;> cases decide (fld F L 12 = [60]) <;> rfl
  unfold chk pairs
  simp only [List.all_cons, List.all_nil, h4, h7, h10, h12, Bool.and_true, Bool.and_assoc]

theorem cut_hit {l : List UInt8} (k : Nat) (hk : k < l.length) (h : ∀ j, j < k → l.getD j 0 ≠ 60) (h60 : l.getD k 0 = 60) : Lib.cut l [60] = (l.take k, l.drop (k + 1), true) := by
  have hi : Lib.index l [60] = (k : Int) := by
    refine Lib.index_first (by omega) ?_ fun j hj => ?_
    · unfold Lib.occAt
      rw [List.drop_eq_getElem_cons hk]
      rw [Opt.getD_eq _ _ hk] at h60
      rw [h60]; rfl
    · rw [Bool.eq_false_iff]; intro ho
      unfold Lib.occAt at ho
      rw [List.drop_eq_getElem_cons (by omega)] at ho
      have h2 := h j hj
      rw [Opt.getD_eq _ _ (by omega)] at h2
      have h3 : ((60 : UInt8) == l[j]) = false := by rw [beq_eq_false_iff_ne]; exact fun e => h2 e.symm
      simp [List.isPrefixOf, h3] at ho
  unfold Lib.cut; rw [hi]
  simp
theorem cut_miss {l : List UInt8} (h : ∀ j, j < l.length → l.getD j 0 ≠ 60) : Lib.cut l [60] = (l, [], false) := by
  have hi : Lib.index l [60] = -1 := Lib.index_none fun j hj => by
    rw [Bool.eq_false_iff]; intro ho
    unfold Lib.occAt at ho
    rcases Nat.lt_or_ge j l.length with g | g
    · rw [List.drop_eq_getElem_cons g] at ho
      have h2 := h j g
      rw [Opt.getD_eq _ _ g] at h2
      have h3 : ((60 : UInt8) == l[j]) = false := by rw [beq_eq_false_iff_ne]; exact fun e => h2 e.symm
      simp [List.isPrefixOf, h3] at ho
    · rw [List.drop_of_length_le g] at ho
      simp [List.isPrefixOf] at ho
  unfold Lib.cut; rw [hi]; rfl
end Zn

/-- A part of a line is a field. -/
theorem ext_fld {R : List ByteArray} {S : ByteArray} (f i ln a j : Nat) (hS : R[ln]? = some S) (hp : Zn.place f i = (ln, a, j - a)) : S.extract a j = ⟨(Zn.fld f (txts R) i).toArray⟩ := by
  apply str_eq
  rw [Lib.extract_data]
  unfold Zn.fld txts
  rw [hp, List.getD_eq_getElem?_getD, List.getElem?_map, hS]; rfl
theorem ext_ext (S : ByteArray) (a b i j : Nat) (h : a + j ≤ b) : (S.extract a b).extract i j = S.extract (a + i) (a + j) := by
  apply str_eq
  rw [Lib.extract_data, Lib.extract_data, Lib.extract_data, List.drop_take, List.drop_drop, List.take_take]
  congr 1
  omega
theorem fld_byte {R : List ByteArray} {S : ByteArray} (f i ln a : Nat) (hS : R[ln]? = some S) (hp : Zn.place f i = (ln, a, 1)) (ha : a < S.size) : Zn.fld f (txts R) i = [S[a]'ha] := by
  unfold Zn.fld txts
  rw [hp, List.getD_eq_getElem?_getD, List.getElem?_map, hS]
  show (S.data.toList.drop a).take 1 = _
  rw [List.drop_eq_getElem_cons (by rw [Opt.size_len]; exact ha)]
  rfl
theorem ext_get (S : ByteArray) (a b i : Nat) (h : a + i < b) (hb : b ≤ S.size) (hi : i < (S.extract a b).size) : (S.extract a b)[i]'hi = S[a + i]'(by omega) := by
  rw [ByteArray.getElem_extract]
theorem comp_one {R : List ByteArray} {SA SB : ByteArray} (hA : R[0]? = some SA) (hB : R[1]? = some SB) (zA : SA.size ≤ 30) :
    (⟨((SA.data.toList.drop 5).take (30 - 5) ++ (SB.data.toList.drop 0).take (7 - 0) ++ (SB.data.toList.drop 8).take (15 - 8) ++ (SB.data.toList.drop 18).take (29 - 18)).toArray⟩ : ByteArray).data.toList = (⟨(Zn.comp 1 (txts R)).toArray⟩ : ByteArray).data.toList := by
  have eA : (txts R).getD 0 [] = SA.data.toList := by unfold txts; rw [List.getD_eq_getElem?_getD, List.getElem?_map, hA]; rfl
  have eB : (txts R).getD 1 [] = SB.data.toList := by unfold txts; rw [List.getD_eq_getElem?_getD, List.getElem?_map, hB]; rfl
  unfold Zn.comp
  rw [if_pos rfl, eA, eB]
  show _ ++ _ ++ _ ++ _ = _ ++ _ ++ _ ++ _
  rw [List.take_of_length_le (show (SA.data.toList.drop 5).length ≤ 30 - 5 by rw [List.length_drop, Opt.size_len]; omega)]
  rfl
theorem comp_two {R : List ByteArray} {SB : ByteArray} (f : Nat) (hf : f ≠ 1) (hB : R[1]? = some SB) (l : Nat := Zn.wLine f - 1) (hl : l - 21 = Zn.wLine f - 22 := by rfl) :
    (⟨((SB.data.toList.drop 0).take (10 - 0) ++ (SB.data.toList.drop 13).take (20 - 13) ++ (SB.data.toList.drop 21).take (l - 21)).toArray⟩ : ByteArray).data.toList = (⟨(Zn.comp f (txts R)).toArray⟩ : ByteArray).data.toList := by
  have eB : (txts R).getD 1 [] = SB.data.toList := by unfold txts; rw [List.getD_eq_getElem?_getD, List.getElem?_map, hB]; rfl
  unfold Zn.comp
  rw [if_neg hf, eB, hl]
  rfl
end Go.Proofs.YtelngghecmkipaaGreatDoor
