/- Chapter 11: the key and the second line; plain. -/
import Derived.Test.YtelngghecmkipaaGreatDoorZonGD
import Derived.Test.YtelngghecmkipaaGreatDoorZonGR
namespace Go.Proofs.YtelngghecmkipaaGreatDoor
open Go.RowKit
namespace Zn
theorem pieces {A B C D E R l : List UInt8} (hA : A.length = 10) (hB : B.length = 3) (hC : C.length = 7) (hD : D.length = 1) (hE : E.length = 7) (hl : l = A ++ (B ++ (C ++ (D ++ (E ++ R))))) :
    l.take 10 = A ∧ (l.drop 13).take 7 = C ∧ (l.drop 21).take 7 = E ∧ 28 ≤ l.length := by
  subst hl
  have e1 : A ++ (B ++ (C ++ (D ++ (E ++ R)))) = (A ++ B) ++ (C ++ (D ++ (E ++ R))) := by simp only [List.append_assoc]
  have e2 : A ++ (B ++ (C ++ (D ++ (E ++ R)))) = (A ++ B ++ C ++ D) ++ (E ++ R) := by simp only [List.append_assoc]
  refine ⟨List.take_left' hA, ?_, ?_, ?_⟩
  · rw [e1, List.drop_left' (by simp only [List.length_append]; omega), List.take_left' hC]
  · rw [e2, List.drop_left' (by simp only [List.length_append]; omega), List.take_left' hE]
  · simp only [List.length_append]; omega
theorem key_of {z : Z} (h : Good z) (hn : z.num.size ≤ 9) (R : List UInt8) (L1 : ByteArray) (hL : bl L1 = bl (nuA z.num) ++ (bl (wS z.nat 3) ++ (bl (ckS z.birth) ++ (bl z.sex ++ (bl (ckS z.exp) ++ R))))) :
    28 ≤ L1.size ∧ keyS z = L1.extract 0 10 ++ L1.extract 13 20 ++ L1.extract 21 28 := by
  obtain ⟨p1, p2, p3, p4⟩ := pieces (by rw [bl_len]; exact h.nuA_size) (by rw [bl_len]; exact wS_size (by have := letters_le h.nat; omega)) (by rw [bl_len]; exact h.db_size) (by rw [bl_len]; exact sex_le h.sex) (by rw [bl_len]; exact h.de_size) hL
  refine ⟨by rw [← bl_len]; exact p4, ?_⟩
  unfold keyS
  rw [if_pos h.vld]
  have hnA : nuA z.num = ckS (wS z.num 9) := if_pos hn
  refine bl_ext ?_
  rw [bl_app, bl_app, bl_app, bl_app, bl_extract, bl_extract, bl_extract, ext_len, ext_len, ext_len, List.drop_zero, p1, p2, p3, hnA]
theorem bl7 (a b c d e f g : ByteArray) : bl (a ++ b ++ c ++ d ++ e ++ f ++ g) = bl a ++ (bl b ++ (bl c ++ (bl d ++ (bl e ++ (bl f ++ bl g))))) := by simp only [bl_app, List.append_assoc]
theorem bl8 (a b c d e f g h : ByteArray) : bl (a ++ b ++ c ++ d ++ e ++ f ++ g ++ h) = bl a ++ (bl b ++ (bl c ++ (bl d ++ (bl e ++ (bl f ++ (bl g ++ bl h)))))) := by simp only [bl_app, List.append_assoc]
theorem key_parts {z : Z} (h : Good z) (hf : z.fmt ≠ 1) (hn : z.num.size ≤ 9) : ∃ L0 L1, bldK z = [L0, L1] ∧ 28 ≤ L1.size ∧ keyS z = L1.extract 0 10 ++ L1.extract 13 20 ++ L1.extract 21 28 := by
  have h3 : z.fmt = 2 ∨ z.fmt = 3 := by have := h.fmt; omega
  rcases h3 with h2 | h2
  · have e := rbld_2 h h2 rfl rfl rfl rfl rfl rfl rfl rfl rfl rfl rfl
    exact ⟨_, _, e, key_of h hn _ _ (bl7 _ _ _ _ _ _ _)⟩
  · have e := rbld_3 h h2 rfl rfl rfl rfl rfl rfl rfl rfl rfl rfl rfl rfl
    exact ⟨_, _, e, key_of h hn _ _ (bl8 _ _ _ _ _ _ _ _)⟩
theorem key_valid {z : Z} (h : Good z) : Opt.valid (bl (keyS z)) = true := by
  unfold keyS
  rw [if_pos h.vld, bl_app, bl_app]
  exact valid_app (valid_app (ck_valid (valid_wS (plain_valid h.num) 9)) (ck_valid (birth_valid h.birth))) (ck_valid (exp_valid h.exp))
/-- Another zone with the number, the birth and the expiry of a zone. -/
theorem key_other {z x : Z} (hz : Good z) (hx : Good x) (h : ¬ (9 < z.num.size ∧ x.fmt ≠ 1)) : Good { x with num := z.num, birth := z.birth, exp := z.exp, opt := ⟨#[]⟩ } ∧ keyS { x with num := z.num, birth := z.birth, exp := z.exp, opt := ⟨#[]⟩ } = keyS z := by
  have h20 := hz.numLe20
  have h3 : x.fmt = 1 ∨ x.fmt = 2 ∨ x.fmt = 3 := by have := hx.fmt; omega
  have hl : (z.num.size : Int) ≤ longest x.fmt := by
    have e1 : longest 1 = 20 := rfl; have e2 : longest 2 = 14 := rfl; have e3 : longest 3 = 9 := rfl
    rcases h3 with e | e | e <;> rw [e] <;> first | rw [e1] | rw [e2] | rw [e3]
    · omega
    · have : ¬ 9 < z.num.size := fun hh => h ⟨hh, by omega⟩
      omega
    · have : ¬ 9 < z.num.size := fun hh => h ⟨hh, by omega⟩
      omega
  have hg : Good { x with num := z.num, birth := z.birth, exp := z.exp, opt := ⟨#[]⟩ } :=
    good_made hx.fmt hx.kind hx.state hx.sur hx.sur0 hx.giv ⟨by have := hz.num0; omega, hl⟩ hz.num hx.nat hz.birth hx.sex hz.exp extra_nil (room_nil hx.fmt hl) hx.sec hx.secF (by have := hx.secLe; omega)
  refine ⟨hg, ?_⟩
  unfold keyS
  rw [if_pos hg.vld, if_pos hz.vld]
end Zn
end Go.Proofs.YtelngghecmkipaaGreatDoor
