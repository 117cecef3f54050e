/- Chapter 11: the lines of a valid zone, as the reference puts them together; plain. -/
import Derived.Test.YtelngghecmkipaaGreatDoorZonRBld0
namespace Go.Proofs.YtelngghecmkipaaGreatDoor
open Go.RowKit
namespace Zn
/-- The bytes of a text. -/
abbrev bl (s : ByteArray) : List UInt8 := s.data.toList
theorem bl_app (a b : ByteArray) : bl (a ++ b) = bl a ++ bl b := by simp [bl]
theorem bl_ext {a b : ByteArray} (h : bl a = bl b) : a = b := by
  cases a; cases b; exact congrArg ByteArray.mk (Array.toList_inj.1 h)
theorem bl_mk (l : List UInt8) : bl ⟨l.toArray⟩ = l := rfl
theorem bl_len (s : ByteArray) : (bl s).length = s.size := Opt.size_len s
theorem bl_extract (s : ByteArray) (a b : Nat) : bl (s.extract a b) = (bl s).extract a b := by
  simp [bl, ByteArray.data_extract]
theorem wide_full {t : List UInt8} {n : Nat} (h : t.length = n) : wide_ t n = t := by
  unfold wide_; rw [List.take_append_of_le_length (by omega), List.take_of_length_le (by omega)]
theorem wide_fit {t : List UInt8} {n : Nat} (h : t.length ≤ n) : wide_ t n = t ++ List.replicate (n - t.length) 60 := by
  unfold wide_
  rw [List.take_append, List.take_of_length_le h, List.take_replicate]
  congr 2; omega
theorem wS_wide {s : ByteArray} {n : Nat} (h : s.size ≤ n) : bl (wS s n) = wide_ (bl s) n := by
  rw [wide_fit (by rw [bl_len]; exact h), bl_len]; rfl
theorem digS_ok {s : ByteArray} (h : Opt.valid (bl s) = true) : (Opt.digS s).size = 1 := by
  unfold Opt.digS; rw [if_pos h]; rfl
theorem isDig_ok {c : UInt8} (h : isDig c = true) : Opt.ok c = true := by
  unfold isDig at h
  simp only [Bool.and_eq_true, decide_eq_true_eq] at h
  unfold Opt.ok Opt.val
  rw [if_pos h]
  exact decide_eq_true (by omega)
theorem ok_fill : Opt.ok 60 = true := by decide
theorem pair_ok {a b : UInt8} (h : -2 < pair a b) : Opt.ok a = true ∧ Opt.ok b = true := by
  unfold pair at h
  split at h
  · rename_i g; rw [g.1, g.2]; exact ⟨ok_fill, ok_fill⟩
  · split at h
    · rename_i g
      simp only [Bool.and_eq_true] at g
      exact ⟨isDig_ok g.1, isDig_ok g.2⟩
    · omega
theorem pairOk_gt {i : Nat} {p : Int} (h : pairOk i p = true) : -2 < p := by
  unfold pairOk at h
  split at h
  · simpa using h
  · split at h
    · simp only [Bool.or_eq_true, beq_iff_eq, decide_eq_true_eq] at h; omega
    · simp only [Bool.or_eq_true, beq_iff_eq, decide_eq_true_eq] at h; omega
theorem six {s : ByteArray} (h : s.size = 6) : bl s = [s[0]'(by omega), s[1]'(by omega), s[2]'(by omega), s[3]'(by omega), s[4]'(by omega), s[5]'(by omega)] := by
  have hl : (bl s).length = 6 := by rw [bl_len]; exact h
  apply List.ext_getElem
  · rw [hl]; rfl
  · intro i h1 h2
    have : i = 0 ∨ i = 1 ∨ i = 2 ∨ i = 3 ∨ i = 4 ∨ i = 5 := by omega
    rcases this with rfl | rfl | rfl | rfl | rfl | rfl <;> rfl
theorem birth_valid {s : ByteArray} (h : birthB s = true) : Opt.valid (bl s) = true := by
  have hs := birth_size h
  unfold birthB at h
  rw [dif_pos hs] at h
  simp only [Bool.and_eq_true] at h
  obtain ⟨a0, a1⟩ := pair_ok (pairOk_gt h.1)
  obtain ⟨a2, a3⟩ := pair_ok (pairOk_gt h.2.1)
  obtain ⟨a4, a5⟩ := pair_ok (pairOk_gt h.2.2)
  rw [six hs]
  unfold Opt.valid
  simp only [List.all_cons, List.all_nil, a0, a1, a2, a3, a4, a5, Bool.and_self]
theorem isD_ok {c : UInt8} (h : Dat.isD c) : Opt.ok c = true := isDig_ok (by
  unfold isDig; rw [decide_eq_true h.1, decide_eq_true h.2]; rfl)
theorem prE_all {s : ByteArray} {f : Int} (h : Dat.prE s f = 0) : ∃ hs : s.size = 6, Dat.allD (s[0]'(by omega)) (s[1]'(by omega)) (s[2]'(by omega)) (s[3]'(by omega)) (s[4]'(by omega)) (s[5]'(by omega)) := by
  refine ⟨prE_size h, ?_⟩
  unfold Dat.prE at h
  split at h
  · cases h
  · rw [dif_pos (prE_size (by rename_i g; unfold Dat.prE; rw [if_neg g]; exact h))] at h
    split at h
    · assumption
    · cases h
theorem exp_valid {s : ByteArray} {f : Int} (h : Dat.prE s f = 0) : Opt.valid (bl s) = true := by
  obtain ⟨hs, a0, a1, a2, a3, a4, a5⟩ := prE_all h
  rw [six hs]
  unfold Opt.valid
  simp only [List.all_cons, List.all_nil, isD_ok a0, isD_ok a1, isD_ok a2, isD_ok a3, isD_ok a4, isD_ok a5, Bool.and_self]
theorem plain_valid {s : ByteArray} (h : plain s = true) : Opt.valid (bl s) = true :=
  List.all_eq_true.2 fun x hx => by
    have := List.all_eq_true.1 h x hx
    simp only [Bool.and_eq_true] at this
    exact this.1
theorem valid_app {a b : List UInt8} (ha : Opt.valid a = true) (hb : Opt.valid b = true) : Opt.valid (a ++ b) = true := by
  unfold Opt.valid at *; rw [List.all_append, ha, hb]; rfl
theorem valid_fill (n : Nat) : Opt.valid (List.replicate n 60) = true := List.all_eq_true.2 fun x hx => by rw [List.eq_of_mem_replicate hx]; exact ok_fill
theorem valid_takeN {a : List UInt8} (h : Opt.valid a = true) (n : Nat) : Opt.valid (a.take n) = true := List.all_eq_true.2 fun x hx => List.all_eq_true.1 h x (List.mem_of_mem_take hx)
theorem valid_dropN {a : List UInt8} (h : Opt.valid a = true) (n : Nat) : Opt.valid (a.drop n) = true := List.all_eq_true.2 fun x hx => List.all_eq_true.1 h x (List.mem_of_mem_drop hx)
theorem valid_wide {a : List UInt8} (h : Opt.valid a = true) (n : Nat) : Opt.valid (wide_ a n) = true := valid_takeN (valid_app h (valid_fill n)) n
theorem valid_wS {a : ByteArray} (h : Opt.valid (bl a) = true) (n : Nat) : Opt.valid (bl (wS a n)) = true := valid_app h (valid_fill _)
theorem extra_valid {s : ByteArray} (h : extra s = true) : Opt.valid (bl s) = true := by
  unfold extra at h
  simp only [Bool.and_eq_true] at h
  exact h.1
theorem ok_digit (l : List UInt8) : Opt.ok (Opt.digit l) = true := by
  refine isDig_ok ?_
  unfold isDig Opt.digit
  rw [b8_toNat _ (by omega) (by omega)]
  simp only [Bool.and_eq_true, decide_eq_true_eq]
  omega
theorem digS_valid (s : ByteArray) : Opt.valid (bl (Opt.digS s)) = true := by
  unfold Opt.digS
  split
  · show Opt.valid [Opt.digit s.data.toList] = true
    unfold Opt.valid
    rw [List.all_cons, ok_digit]; rfl
  · rfl
theorem ck_valid {s : ByteArray} (h : Opt.valid (bl s) = true) : Opt.valid (bl (ckS s)) = true := by unfold ckS; rw [bl_app]; exact valid_app h (digS_valid s)
theorem sex_valid {s : ByteArray} (h : sexB s = true) : Opt.valid (bl s) = true := by
  unfold sexB at h
  simp only [Bool.or_eq_true, decide_eq_true_eq] at h
  rcases h with rfl | rfl | rfl <;> decide
theorem Good.nuA_valid {z : Z} (h : Good z) : Opt.valid (bl (nuA z.num)) = true := by
  unfold nuA
  split
  · exact ck_valid (valid_wS (plain_valid h.num) 9)
  · rw [bl_app, bl_extract]
    refine valid_app ?_ (by decide)
    rw [List.extract_eq_take_drop]
    exact valid_takeN (valid_dropN (plain_valid h.num) _) _
theorem Good.nuB_valid {z : Z} (h : Good z) : Opt.valid (bl (nuB z.num)) = true := by
  unfold nuB
  split
  · rfl
  · rw [bl_app, bl_app, bl_extract]
    refine valid_app (valid_app ?_ (digS_valid _)) (by decide)
    rw [List.extract_eq_take_drop]
    exact valid_takeN (valid_dropN (plain_valid h.num) _) _
theorem Good.db_size {z : Z} (h : Good z) : (ckS z.birth).size = 7 := by
  unfold ckS; rw [ByteArray.size_append, birth_size h.birth, digS_ok (birth_valid h.birth)]
theorem Good.de_size {z : Z} (h : Good z) : (ckS z.exp).size = 7 := by
  unfold ckS; rw [ByteArray.size_append, prE_size h.exp, digS_ok (exp_valid h.exp)]
theorem Good.nuA_size {z : Z} (h : Good z) : (nuA z.num).size = 10 := by
  unfold nuA
  split
  · rename_i h9
    unfold ckS
    rw [ByteArray.size_append, wS_size h9, digS_ok (valid_wS (plain_valid h.num) 9)]
  · rw [ByteArray.size_append, ByteArray.size_extract]
    have : (⟨#[60]⟩ : ByteArray).size = 1 := rfl
    omega
theorem Good.nuB_size {z : Z} (h : Good z) : (nuB z.num).size + z.opt.size = if 9 < z.num.size then z.num.size - 7 + z.opt.size else z.opt.size := by
  unfold nuB
  split
  · rename_i h9
    rw [if_neg (by omega)]
    have : (⟨#[]⟩ : ByteArray).size = 0 := rfl
    omega
  · rename_i h9
    rw [if_pos (by omega), ByteArray.size_append, ByteArray.size_append, ByteArray.size_extract, digS_ok (plain_valid h.num)]
    have : (⟨#[60]⟩ : ByteArray).size = 1 := rfl
    omega
theorem Good.num3 {z : Z} (h : Good z) (hf : z.fmt = 3) : z.num.size ≤ 9 := by
  have := h.numLe; unfold longest at this; rw [hf, if_neg (by decide), if_neg (by decide)] at this; omega
theorem Good.opt14 {z : Z} (h : Good z) (hf : z.fmt = 3) : z.opt.size ≤ 14 := by
  have h1 := h.needLe
  have h2 := h.num3 hf
  unfold need wide at h1; rw [hf, show (if (3 : Int) = 1 then (15 : Int) else if (3 : Int) = 2 then 7 else 14) = 14 from rfl, if_neg (by omega)] at h1; omega
theorem Good.opt7 {z : Z} (h : Good z) (hf : z.fmt = 2) : (if 9 < z.num.size then z.num.size - 7 + z.opt.size else z.opt.size) ≤ 7 := by
  have h1 := h.needLe
  unfold need wide at h1; rw [hf, show (if (2 : Int) = 1 then (15 : Int) else if (2 : Int) = 2 then 7 else 14) = 7 from rfl] at h1
  split at h1
  · rw [if_pos (by omega)]; omega
  · rw [if_neg (by omega)]; omega
theorem Good.opt15 {z : Z} (h : Good z) (hf : z.fmt = 1) : (if 9 < z.num.size then z.num.size - 7 + z.opt.size else z.opt.size) ≤ 15 := by
  have h1 := h.needLe
  unfold need wide at h1; rw [hf, show (if (1 : Int) = 1 then (15 : Int) else if (1 : Int) = 2 then 7 else 14) = 15 from rfl] at h1
  split at h1
  · rw [if_pos (by omega)]; omega
  · rw [if_neg (by omega)]; omega
theorem Good.digW {z : Z} (h : Good z) (n : Nat) : 1 ≤ (Opt.digS (wS z.opt n)).size := by rw [digS_ok (valid_wS (extra_valid h.opt) n)]; omega
theorem upd_same (F : Nat → List UInt8) (i : Nat) (t : List UInt8) : upd F i t i = t := by unfold upd; rw [if_pos rfl]
theorem upd_ne (F : Nat → List UInt8) {i j : Nat} (t : List UInt8) (h : j ≠ i) : upd F i t j = F j := by unfold upd; rw [if_neg h]
/-- What the map puts. -/
noncomputable def mapF (F : Nat) (z : Z) : Nat → List UInt8 := midF ⟨0, z, ⟨(Opt.nmV z.sur.data.toList z.giv.data.toList (wd F 2)).toArray⟩, Opt.digS z.birth, Opt.digS z.exp⟩ F fun _ => false
theorem numF_at {z : Z} {F : Nat} {M : Nat → List UInt8} {i : Nat} (h : i ≠ 3 ∧ i ≠ 4 ∧ i ≠ 11) : numF z F M i = M i := by
  unfold numF
  split
  · rw [upd_ne _ _ h.2.2, upd_ne _ _ h.1]
  · rw [upd_ne _ _ h.2.2, upd_ne _ _ h.2.1, upd_ne _ _ h.1]
theorem optF_at {z : Z} {F : Nat} {M : Nat → List UInt8} {i : Nat} (h : i ≠ 12) : optF z F M i = M i := by
  unfold optF
  split
  · rfl
  · rw [upd_ne _ _ h]
theorem endF_at {F : Nat} {M : Nat → List UInt8} {i : Nat} (h : i ≠ 14) : endF F M i = M i := upd_ne _ _ h
theorem bldF_at {F : Nat} {z : Z} {i : Nat} (h : i ≠ 3 ∧ i ≠ 4 ∧ i ≠ 11 ∧ i ≠ 12 ∧ i ≠ 14) : bldF F z i = mapF F z i := by
  unfold bldF; rw [endF_at h.2.2.2.2, optF_at h.2.2.2.1, numF_at ⟨h.1, h.2.1, h.2.2.1⟩]; rfl
theorem map0 (F : Nat) (z : Z) : mapF F z 0 = wide_ (bl z.kind) (wd F 0) := rfl
theorem map1 (F : Nat) (z : Z) : mapF F z 1 = wide_ (bl z.state) (wd F 1) := rfl
theorem map2 (F : Nat) (z : Z) : mapF F z 2 = wide_ (Opt.nmV z.sur.data.toList z.giv.data.toList (wd F 2)) (wd F 2) := rfl
theorem map5 (F : Nat) (z : Z) : mapF F z 5 = wide_ (bl z.nat) (wd F 5) := rfl
theorem map6 (F : Nat) (z : Z) : mapF F z 6 = wide_ (bl z.birth) (wd F 6) := rfl
theorem map7 (F : Nat) (z : Z) : mapF F z 7 = wide_ (bl (Opt.digS z.birth)) (wd F 7) := rfl
theorem map8 (F : Nat) (z : Z) : mapF F z 8 = wide_ (bl z.sex) (wd F 8) := rfl
theorem map9 (F : Nat) (z : Z) : mapF F z 9 = wide_ (bl z.exp) (wd F 9) := rfl
theorem map10 (F : Nat) (z : Z) : mapF F z 10 = wide_ (bl (Opt.digS z.exp)) (wd F 10) := rfl
theorem map12 (F : Nat) (z : Z) : mapF F z 12 = List.replicate (wd F 12) 60 := rfl
theorem map13 (F : Nat) (z : Z) : mapF F z 13 = wide_ (bl z.sec) (wd F 13) := rfl
theorem map14 (F : Nat) (z : Z) : mapF F z 14 = List.replicate (wd F 14) 60 := rfl
theorem map4 (F : Nat) (z : Z) : mapF F z 4 = List.replicate (wd F 4) 60 := rfl

theorem comp_tail {f : Nat} {a B X : List UInt8} (h1 : f ≠ 1) (hB : B.length = wLine f - 1) (h2 : 22 ≤ wLine f) : comp f [a, B ++ X] = B.take 10 ++ (B.drop 13).take 7 ++ (B.drop 21).take (wLine f - 22) := by
  unfold comp
  rw [if_neg h1]
  show (B ++ X).take 10 ++ ((B ++ X).drop 13).take 7 ++ ((B ++ X).drop 21).take (wLine f - 22) = _
  rw [List.take_append_of_le_length (by omega), List.drop_append_of_le_length (by omega), List.drop_append_of_le_length (by omega), List.take_append_of_le_length (by rw [List.length_drop]; omega), List.take_append_of_le_length (by rw [List.length_drop]; omega)]
theorem ext_len (l : List UInt8) (a b : Nat) : l.extract a b = (l.drop a).take (b - a) := by simp [List.extract_eq_take_drop]
/-- The check digit of some bytes. -/
def dgl (l : List UInt8) : List UInt8 := bl (Opt.digS ⟨l.toArray⟩)
theorem dgl_eq {s : ByteArray} {l : List UInt8} (h : bl s = l) : bl (Opt.digS s) = dgl l := by
  have : s = ⟨l.toArray⟩ := bl_ext (by rw [h])
  rw [this]; rfl
theorem dgl_len {l : List UInt8} (h : Opt.valid l = true) : (dgl l).length = 1 := by unfold dgl; rw [bl_len]; exact digS_ok h
theorem ck_eq {s : ByteArray} {l : List UInt8} (h : bl s = l) : bl (ckS s) = l ++ dgl l := by unfold ckS; rw [bl_app, h, dgl_eq h]
theorem kind_b {z : Z} (h : Good z) : bl (wS z.kind 2) = wide_ (bl z.kind) 2 := wS_wide (by have := letters_le h.kind; omega)
theorem state_b {z : Z} (h : Good z) : bl (wS z.state 3) = wide_ (bl z.state) 3 := wS_wide (by have := letters_le h.state; omega)
theorem nat_b {z : Z} (h : Good z) : bl (wS z.nat 3) = wide_ (bl z.nat) 3 := wS_wide (by have := letters_le h.nat; omega)
theorem letters_valid {s : ByteArray} {n : Int} (h : letters s n = true) : Opt.valid (bl s) = true := by
  unfold letters at h
  simp only [Bool.and_eq_true] at h
  refine List.all_eq_true.2 fun x hx => ?_
  have h1 := List.all_eq_true.1 h.2.2 x hx
  revert h1
  unfold Opt.isL Opt.ok Opt.val
  simp only [Bool.and_eq_true, decide_eq_true_eq]
  intro h1
  split
  · omega
  · omega
theorem Good.nmLen {z : Z} (h : Good z) (n : Nat) (h1 : 1 ≤ n ∧ n ≤ 64) : (Opt.nmV z.sur.data.toList z.giv.data.toList n).length = n := by
  unfold Opt.nmV
  rw [if_neg (by
    rintro (g | g | g)
    · exact g ⟨h.sur, h.giv, fun e => h.sur0 (by rw [← Opt.size_len, e]; rfl)⟩
    · omega
    · omega)]
  rw [List.length_take, List.length_append, List.length_replicate]
  omega
theorem num3_eq {z : Z} {F : Nat} (h3 : wd F 3 = 9) : numF z F (mapF F z) 3 = if 9 < z.num.size then bl (z.num.extract 0 9) else bl (wS z.num 9) := by
  unfold numF
  split
  · rw [upd_ne _ _ (by decide), upd_same, h3, wide_full (by rw [bl_len, ByteArray.size_extract]; omega)]
  · rw [upd_ne _ _ (by decide), upd_ne _ _ (by decide), upd_same, h3, wS_wide (by omega)]
theorem num4_eq {z : Z} {F : Nat} (h : Good z) (h3 : wd F 3 = 9) (h4 : wd F 4 = 1) : numF z F (mapF F z) 4 = if 9 < z.num.size then [60] else dgl (bl (wS z.num 9)) := by
  unfold numF
  split
  · rw [upd_ne _ _ (by decide), upd_ne _ _ (by decide), map4, h4]; rfl
  · rename_i h9
    rw [upd_ne _ _ (by decide), upd_same, upd_same, h3, h4, ← wS_wide (s := z.num) (n := 9) (by omega), ← show dgl (bl (wS z.num 9)) = (Opt.digS ⟨(bl (wS z.num 9)).toArray⟩).data.toList from rfl, wide_full (dgl_len (valid_wS (plain_valid h.num) 9))]
theorem num34 {z : Z} {F : Nat} (h : Good z) (h3 : wd F 3 = 9) (h4 : wd F 4 = 1) : numF z F (mapF F z) 3 ++ numF z F (mapF F z) 4 = bl (nuA z.num) := by
  rw [num3_eq h3, num4_eq h h3 h4]
  unfold nuA
  by_cases h9 : 9 < z.num.size
  · rw [if_pos h9, if_pos h9, if_neg (by omega), bl_app]
  · rw [if_neg h9, if_neg h9, if_pos (by omega), ck_eq rfl]
theorem num11 {z : Z} {F : Nat} : numF z F (mapF F z) 11 = wide_ (bl (nuB z.num ++ z.opt)) (wd F 11) := by
  unfold numF nuB
  by_cases h9 : 9 < z.num.size
  · rw [if_pos h9, if_neg (by omega), upd_same]
  · rw [if_neg h9, if_pos (by omega), upd_same, bl_app]; rfl
theorem birth_f {z : Z} {F : Nat} (h : Good z) (h6 : wd F 6 = 6) : mapF F z 6 = bl z.birth := by rw [map6, h6, wide_full (by rw [bl_len]; exact birth_size h.birth)]
theorem birthD_f {z : Z} {F : Nat} (h : Good z) (h7 : wd F 7 = 1) : mapF F z 7 = dgl (bl z.birth) := by
  rw [map7, h7, dgl_eq rfl, wide_full (dgl_len (birth_valid h.birth))]
theorem sex_f {z : Z} {F : Nat} (h : Good z) (h8 : wd F 8 = 1) : mapF F z 8 = bl z.sex := by rw [map8, h8, wide_full (by rw [bl_len]; exact sex_le h.sex)]
theorem exp_f {z : Z} {F : Nat} (h : Good z) (h9 : wd F 9 = 6) : mapF F z 9 = bl z.exp := by rw [map9, h9, wide_full (by rw [bl_len]; exact prE_size h.exp)]
theorem expD_f {z : Z} {F : Nat} (h : Good z) (h10 : wd F 10 = 1) : mapF F z 10 = dgl (bl z.exp) := by
  rw [map10, h10, dgl_eq rfl, wide_full (dgl_len (exp_valid h.exp))]
theorem kind_f {z : Z} {F : Nat} (h : Good z) (h0 : wd F 0 = 2) : mapF F z 0 = bl (wS z.kind 2) := by rw [map0, h0, kind_b h]
theorem state_f {z : Z} {F : Nat} (h : Good z) (h1 : wd F 1 = 3) : mapF F z 1 = bl (wS z.state 3) := by rw [map1, h1, state_b h]
theorem nat_f {z : Z} {F : Nat} (h : Good z) (h5 : wd F 5 = 3) : mapF F z 5 = bl (wS z.nat 3) := by rw [map5, h5, nat_b h]
theorem names_f {z : Z} {F : Nat} (h : Good z) (n : Nat) (h2 : wd F 2 = n) (h1 : 1 ≤ n ∧ n ≤ 64) : mapF F z 2 = Opt.nmV z.sur.data.toList z.giv.data.toList n := by
  rw [map2, h2, wide_full (h.nmLen n h1)]
theorem opt12 {z : Z} {F : Nat} {N : Nat → List UInt8} (h12 : wd F 12 = 1) (hN : N 12 = [60]) (hv : Opt.valid (N 11) = true) : optF z F N 12 = if z.opt.size = 0 then [60] else dgl (N 11) := by
  unfold optF
  split
  · exact hN
  · rw [upd_same, h12, ← show dgl (N 11) = (Opt.digS ⟨(N 11).toArray⟩).data.toList from rfl, wide_full (dgl_len hv)]
/-- Two lines whose last field is the composite digit. -/
theorem asm_3 (G : Nat → List UInt8) : asm 3 G = [G 0 ++ (G 1 ++ G 2), G 3 ++ (G 4 ++ (G 5 ++ (G 6 ++ (G 7 ++ (G 8 ++ (G 9 ++ (G 10 ++ (G 11 ++ (G 12 ++ G 14)))))))))] := by
  unfold asm order
  simp
theorem asm_2 (G : Nat → List UInt8) : asm 2 G = [G 0 ++ (G 1 ++ G 2), G 3 ++ (G 4 ++ (G 5 ++ (G 6 ++ (G 7 ++ (G 8 ++ (G 9 ++ (G 10 ++ (G 11 ++ G 14))))))))] := by
  unfold asm order
  simp
theorem asm_1 (G : Nat → List UInt8) : asm 1 G = [G 0 ++ (G 1 ++ (G 3 ++ (G 4 ++ G 11))), G 6 ++ (G 7 ++ (G 8 ++ (G 9 ++ (G 10 ++ (G 5 ++ (G 13 ++ G 14)))))), G 2] := by
  unfold asm order
  simp
theorem rbld_3 {z : Z} {KW SW NM NU RS DB DE NW OW OO BB DG : ByteArray} (h : Good z) (hf : z.fmt = 3) (e1 : wS z.kind 2 = KW) (e2 : wS z.state 3 = SW) (e3 : (⟨(Opt.nmV z.sur.data.toList z.giv.data.toList 39).toArray⟩ : ByteArray) = NM)
    (e4 : nuA z.num = NU) (_e5 : nuB z.num = RS) (e6 : ckS z.birth = DB) (e7 : ckS z.exp = DE) (e8 : wS z.nat 3 = NW) (e9 : wS z.opt 14 = OW) (e10 : (if z.opt.size = 0 then (⟨#[60]⟩ : ByteArray) else Opt.digS OW) = OO)
    (e11 : NU ++ NW ++ DB ++ z.sex ++ DE ++ OW ++ OO = BB) (e12 : Opt.digS (BB.extract 0 10 ++ BB.extract 13 20 ++ BB.extract 21 43) = DG) : bldK z = [KW ++ SW ++ NM, BB ++ DG] := by
  have eF : z.fmt.toNat = 3 := by rw [hf]; rfl
  have hnB : nuB z.num = ⟨#[]⟩ := if_pos (h.num3 hf)
  have hN11 : numF z 3 (mapF 3 z) 11 = bl OW := by
    rw [num11, hnB, ← e9, wS_wide (h.opt14 hf)]
    congr 1
  have hvO : Opt.valid (bl OW) = true := by rw [← e9]; exact valid_wS (extra_valid h.opt) 14
  have h12 : optF z 3 (numF z 3 (mapF 3 z)) 12 = bl OO := by
    rw [opt12 rfl (by rw [numF_at (by decide), map12]; rfl) (by rw [hN11]; exact hvO), hN11, ← e10]
    by_cases ho : z.opt.size = 0
    · rw [if_pos ho, if_pos ho]
    · rw [if_neg ho, if_neg ho, dgl_eq rfl]
  have hBB : bl BB = bl NU ++ (bl NW ++ (bl DB ++ (bl z.sex ++ (bl DE ++ (bl OW ++ bl OO))))) := by
    rw [← e11]; simp only [bl_app, List.append_assoc]
  have hline : ∀ X, optF z 3 (numF z 3 (mapF 3 z)) 3 ++ (optF z 3 (numF z 3 (mapF 3 z)) 4 ++ (optF z 3 (numF z 3 (mapF 3 z)) 5 ++ (optF z 3 (numF z 3 (mapF 3 z)) 6 ++ (optF z 3 (numF z 3 (mapF 3 z)) 7 ++ (optF z 3 (numF z 3 (mapF 3 z)) 8 ++ (optF z 3 (numF z 3 (mapF 3 z)) 9 ++ (optF z 3 (numF z 3 (mapF 3 z)) 10 ++ (optF z 3 (numF z 3 (mapF 3 z)) 11 ++ (optF z 3 (numF z 3 (mapF 3 z)) 12 ++ X))))))))) = bl BB ++ X := by
    intro X
    rw [h12, optF_at (i := 3) (by decide), optF_at (i := 4) (by decide), optF_at (i := 5) (by decide), optF_at (i := 6) (by decide), optF_at (i := 7) (by decide), optF_at (i := 8) (by decide), optF_at (i := 9) (by decide), optF_at (i := 10) (by decide), optF_at (i := 11) (by decide), hN11,
      numF_at (i := 5) (by decide), numF_at (i := 6) (by decide), numF_at (i := 7) (by decide), numF_at (i := 8) (by decide), numF_at (i := 9) (by decide), numF_at (i := 10) (by decide), nat_f h rfl, birth_f h rfl, birthD_f h rfl, sex_f h rfl, exp_f h rfl, expD_f h rfl, e8]
    rw [hBB, ← e6, ← e7, ck_eq rfl, ck_eq rfl, ← e4, ← num34 (F := 3) h rfl rfl]
    simp only [List.append_assoc]
  have hlen : (bl BB).length = 43 := by
    rw [bl_len, ← e11, ByteArray.size_append, ByteArray.size_append, ByteArray.size_append, ByteArray.size_append, ByteArray.size_append, ByteArray.size_append, ← e4, h.nuA_size, ← e8, wS_size (by have := letters_le h.nat; omega), ← e6, h.db_size, sex_le h.sex, ← e7, h.de_size, ← e10, ← e9, wS_size (h.opt14 hf)]
    split
    · rfl
    · rw [digS_ok (by rw [e9]; exact hvO)]
  have hcomp : comp 3 (asm 3 (optF z 3 (numF z 3 (mapF 3 z)))) = bl (BB.extract 0 10 ++ BB.extract 13 20 ++ BB.extract 21 43) := by
    rw [asm_3, hline, comp_tail (by decide) hlen (by decide), bl_app, bl_app, bl_extract, bl_extract, bl_extract, ext_len, ext_len, ext_len]; rfl
  have h14 : bldF 3 z 14 = bl DG := by
    show endF 3 (optF z 3 (numF z 3 (mapF 3 z))) 14 = _
    unfold endF
    rw [upd_same, show wd 3 14 = 1 from rfl, ← show dgl (comp 3 (asm 3 (optF z 3 (numF z 3 (mapF 3 z))))) = (Opt.digS ⟨(comp 3 (asm 3 (optF z 3 (numF z 3 (mapF 3 z))))).toArray⟩).data.toList from rfl, hcomp, ← dgl_eq rfl, e12, wide_full]
    rw [bl_len, ← e12, digS_ok]
    have hvB : Opt.valid (bl BB) = true := by
      rw [hBB]
      refine valid_app (e4 ▸ h.nuA_valid) (valid_app (e8 ▸ valid_wS (letters_valid h.nat) 3) (valid_app (e6 ▸ ck_valid (birth_valid h.birth)) (valid_app (sex_valid h.sex) (valid_app (e7 ▸ ck_valid (exp_valid h.exp)) (valid_app hvO ?_)))))
      rw [← e10]
      split
      · decide
      · exact digS_valid _
    rw [bl_app, bl_app, bl_extract, bl_extract, bl_extract, ext_len, ext_len, ext_len]
    exact valid_app (valid_app (valid_takeN (valid_dropN hvB _) _) (valid_takeN (valid_dropN hvB _) _)) (valid_takeN (valid_dropN hvB _) _)
  have hb : ∀ i, i ≠ 14 → bldF 3 z i = optF z 3 (numF z 3 (mapF 3 z)) i := fun i hi => endF_at hi
  unfold bldK bld
  rw [eF, asm_3, hb 3 (by decide), hb 4 (by decide), hb 5 (by decide), hb 6 (by decide), hb 7 (by decide), hb 8 (by decide), hb 9 (by decide), hb 10 (by decide), hb 11 (by decide), hb 12 (by decide), hline, h14,
    bldF_at (i := 0) (by decide), bldF_at (i := 1) (by decide), bldF_at (i := 2) (by decide), kind_f h rfl, state_f h rfl, names_f h 39 rfl (by decide), e1, e2]
  have l0 : (⟨(bl KW ++ (bl SW ++ Opt.nmV z.sur.data.toList z.giv.data.toList (39 : Nat))).toArray⟩ : ByteArray) = KW ++ SW ++ NM := bl_ext (by rw [bl_app, bl_app, ← e3, List.append_assoc]; rfl)
  have l1 : (⟨(bl BB ++ bl DG).toArray⟩ : ByteArray) = BB ++ DG := bl_ext (by rw [bl_app])
  rw [List.map_cons, List.map_cons, List.map_nil, l0, l1]
theorem rbld_2 {z : Z} {KW SW NM NU RS DB DE NW OW BB DG : ByteArray} (h : Good z) (hf : z.fmt = 2) (e1 : wS z.kind 2 = KW) (e2 : wS z.state 3 = SW) (e3 : (⟨(Opt.nmV z.sur.data.toList z.giv.data.toList 31).toArray⟩ : ByteArray) = NM)
    (e4 : nuA z.num = NU) (e5 : nuB z.num = RS) (e6 : ckS z.birth = DB) (e7 : ckS z.exp = DE) (e8 : wS z.nat 3 = NW) (e9 : wS (RS ++ z.opt) 7 = OW)
    (e11 : NU ++ NW ++ DB ++ z.sex ++ DE ++ OW = BB) (e12 : Opt.digS (BB.extract 0 10 ++ BB.extract 13 20 ++ BB.extract 21 35) = DG) : bldK z = [KW ++ SW ++ NM, BB ++ DG] := by
  have eF : z.fmt.toNat = 2 := by rw [hf]; rfl
  have hrs : (RS ++ z.opt).size ≤ 7 := by
    rw [ByteArray.size_append, ← e5]; have h1 := h.nuB_size; have h2 := h.opt7 hf; omega
  have hN11 : numF z 2 (mapF 2 z) 11 = bl OW := by
    rw [num11, e5, ← e9, wS_wide hrs]; rfl
  have hvO : Opt.valid (bl OW) = true := by rw [← e9]; exact valid_wS (by rw [bl_app, ← e5]; exact valid_app h.nuB_valid (extra_valid h.opt)) 7
  have hBB : bl BB = bl NU ++ (bl NW ++ (bl DB ++ (bl z.sex ++ (bl DE ++ bl OW)))) := by
    rw [← e11]; simp only [bl_app, List.append_assoc]
  have hline : ∀ X, optF z 2 (numF z 2 (mapF 2 z)) 3 ++ (optF z 2 (numF z 2 (mapF 2 z)) 4 ++ (optF z 2 (numF z 2 (mapF 2 z)) 5 ++ (optF z 2 (numF z 2 (mapF 2 z)) 6 ++ (optF z 2 (numF z 2 (mapF 2 z)) 7 ++ (optF z 2 (numF z 2 (mapF 2 z)) 8 ++ (optF z 2 (numF z 2 (mapF 2 z)) 9 ++ (optF z 2 (numF z 2 (mapF 2 z)) 10 ++ (optF z 2 (numF z 2 (mapF 2 z)) 11 ++ X)))))))) = bl BB ++ X := by
    intro X
    rw [optF_at (i := 3) (by decide), optF_at (i := 4) (by decide), optF_at (i := 5) (by decide), optF_at (i := 6) (by decide), optF_at (i := 7) (by decide), optF_at (i := 8) (by decide), optF_at (i := 9) (by decide), optF_at (i := 10) (by decide), optF_at (i := 11) (by decide), hN11,
      numF_at (i := 5) (by decide), numF_at (i := 6) (by decide), numF_at (i := 7) (by decide), numF_at (i := 8) (by decide), numF_at (i := 9) (by decide), numF_at (i := 10) (by decide), nat_f h rfl, birth_f h rfl, birthD_f h rfl, sex_f h rfl, exp_f h rfl, expD_f h rfl, e8]
    rw [hBB, ← e6, ← e7, ck_eq rfl, ck_eq rfl, ← e4, ← num34 (F := 2) h rfl rfl]
    simp only [List.append_assoc]
  have hlen : (bl BB).length = 35 := by
    rw [bl_len, ← e11, ByteArray.size_append, ByteArray.size_append, ByteArray.size_append, ByteArray.size_append, ByteArray.size_append, ← e4, h.nuA_size, ← e8, wS_size (by have := letters_le h.nat; omega), ← e6, h.db_size, sex_le h.sex, ← e7, h.de_size, ← e9, wS_size hrs]
  have hcomp : comp 2 (asm 2 (optF z 2 (numF z 2 (mapF 2 z)))) = bl (BB.extract 0 10 ++ BB.extract 13 20 ++ BB.extract 21 35) := by
    rw [asm_2, hline, comp_tail (by decide) hlen (by decide), bl_app, bl_app, bl_extract, bl_extract, bl_extract, ext_len, ext_len, ext_len]; rfl
  have h14 : bldF 2 z 14 = bl DG := by
    show endF 2 (optF z 2 (numF z 2 (mapF 2 z))) 14 = _
    unfold endF
    rw [upd_same, show wd 2 14 = 1 from rfl, ← show dgl (comp 2 (asm 2 (optF z 2 (numF z 2 (mapF 2 z))))) = (Opt.digS ⟨(comp 2 (asm 2 (optF z 2 (numF z 2 (mapF 2 z))))).toArray⟩).data.toList from rfl, hcomp, ← dgl_eq rfl, e12, wide_full]
    rw [bl_len, ← e12, digS_ok]
    have hvB : Opt.valid (bl BB) = true := by
      rw [hBB]
      exact valid_app (e4 ▸ h.nuA_valid) (valid_app (e8 ▸ valid_wS (letters_valid h.nat) 3) (valid_app (e6 ▸ ck_valid (birth_valid h.birth)) (valid_app (sex_valid h.sex) (valid_app (e7 ▸ ck_valid (exp_valid h.exp)) hvO))))
    rw [bl_app, bl_app, bl_extract, bl_extract, bl_extract, ext_len, ext_len, ext_len]
    exact valid_app (valid_app (valid_takeN (valid_dropN hvB _) _) (valid_takeN (valid_dropN hvB _) _)) (valid_takeN (valid_dropN hvB _) _)
  have hb : ∀ i, i ≠ 14 → bldF 2 z i = optF z 2 (numF z 2 (mapF 2 z)) i := fun i hi => endF_at hi
  unfold bldK bld
  rw [eF, asm_2, hb 3 (by decide), hb 4 (by decide), hb 5 (by decide), hb 6 (by decide), hb 7 (by decide), hb 8 (by decide), hb 9 (by decide), hb 10 (by decide), hb 11 (by decide), hline, h14,
    bldF_at (i := 0) (by decide), bldF_at (i := 1) (by decide), bldF_at (i := 2) (by decide), kind_f h rfl, state_f h rfl, names_f h 31 rfl (by decide), e1, e2]
  have l0 : (⟨(bl KW ++ (bl SW ++ Opt.nmV z.sur.data.toList z.giv.data.toList (31 : Nat))).toArray⟩ : ByteArray) = KW ++ SW ++ NM := bl_ext (by rw [bl_app, bl_app, ← e3, List.append_assoc]; rfl)
  have l1 : (⟨(bl BB ++ bl DG).toArray⟩ : ByteArray) = BB ++ DG := bl_ext (by rw [bl_app])
  rw [List.map_cons, List.map_cons, List.map_nil, l0, l1]
theorem rbld_1 {z : Z} {KW SW NM NU RS DB DE NW OW SE AA BB DG : ByteArray} (h : Good z) (hf : z.fmt = 1) (e1 : wS z.kind 2 = KW) (e2 : wS z.state 3 = SW) (e3 : (⟨(Opt.nmV z.sur.data.toList z.giv.data.toList 30).toArray⟩ : ByteArray) = NM)
    (e4 : nuA z.num = NU) (e5 : nuB z.num = RS) (e6 : ckS z.birth = DB) (e7 : ckS z.exp = DE) (e8 : wS z.nat 3 = NW) (e9 : wS (RS ++ z.opt) 15 = OW) (e10 : wS z.sec 11 = SE) (e0 : KW ++ SW ++ NU ++ OW = AA)
    (e11 : DB ++ z.sex ++ DE ++ NW ++ SE = BB) (e12 : Opt.digS (AA.extract 5 30 ++ BB.extract 0 7 ++ BB.extract 8 15 ++ BB.extract 18 29) = DG) : bldK z = [AA, BB ++ DG, NM] := by
  have eF : z.fmt.toNat = 1 := by rw [hf]; rfl
  have hrs : (RS ++ z.opt).size ≤ 15 := by
    rw [ByteArray.size_append, ← e5]; have h1 := h.nuB_size; have h2 := h.opt15 hf; omega
  have hse : z.sec.size ≤ 11 := by have := h.secLe; omega
  have hN11 : numF z 1 (mapF 1 z) 11 = bl OW := by
    rw [num11, e5, ← e9, wS_wide hrs]; rfl
  have hvO : Opt.valid (bl OW) = true := by rw [← e9]; exact valid_wS (by rw [bl_app, ← e5]; exact valid_app h.nuB_valid (extra_valid h.opt)) 15
  have hAA : bl AA = bl KW ++ (bl SW ++ (bl NU ++ bl OW)) := by
    rw [← e0]; simp only [bl_app, List.append_assoc]
  have hBB : bl BB = bl DB ++ (bl z.sex ++ (bl DE ++ (bl NW ++ bl SE))) := by
    rw [← e11]; simp only [bl_app, List.append_assoc]
  have hl0 : optF z 1 (numF z 1 (mapF 1 z)) 0 ++ (optF z 1 (numF z 1 (mapF 1 z)) 1 ++ (optF z 1 (numF z 1 (mapF 1 z)) 3 ++ (optF z 1 (numF z 1 (mapF 1 z)) 4 ++ optF z 1 (numF z 1 (mapF 1 z)) 11))) = bl AA := by
    rw [optF_at (i := 0) (by decide), optF_at (i := 1) (by decide), optF_at (i := 3) (by decide), optF_at (i := 4) (by decide), optF_at (i := 11) (by decide), hN11, numF_at (i := 0) (by decide), numF_at (i := 1) (by decide), kind_f h rfl, state_f h rfl, e1, e2, hAA, ← e4, ← num34 (F := 1) h rfl rfl]
    simp only [List.append_assoc]
  have hl1 : ∀ X, optF z 1 (numF z 1 (mapF 1 z)) 6 ++ (optF z 1 (numF z 1 (mapF 1 z)) 7 ++ (optF z 1 (numF z 1 (mapF 1 z)) 8 ++ (optF z 1 (numF z 1 (mapF 1 z)) 9 ++ (optF z 1 (numF z 1 (mapF 1 z)) 10 ++ (optF z 1 (numF z 1 (mapF 1 z)) 5 ++ (optF z 1 (numF z 1 (mapF 1 z)) 13 ++ X)))))) = bl BB ++ X := by
    intro X
    rw [optF_at (i := 6) (by decide), optF_at (i := 7) (by decide), optF_at (i := 8) (by decide), optF_at (i := 9) (by decide), optF_at (i := 10) (by decide), optF_at (i := 5) (by decide), optF_at (i := 13) (by decide),
      numF_at (i := 5) (by decide), numF_at (i := 6) (by decide), numF_at (i := 7) (by decide), numF_at (i := 8) (by decide), numF_at (i := 9) (by decide), numF_at (i := 10) (by decide), numF_at (i := 13) (by decide), nat_f h rfl, birth_f h rfl, birthD_f h rfl, sex_f h rfl, exp_f h rfl, expD_f h rfl, e8, map13]
    rw [hBB, ← e6, ← e7, ck_eq rfl, ck_eq rfl, ← e10, wS_wide hse]
    simp only [List.append_assoc]; rfl
  have hlA : (bl AA).length = 30 := by
    rw [bl_len, ← e0, ByteArray.size_append, ByteArray.size_append, ByteArray.size_append, ← e1, wS_size (by have := letters_le h.kind; omega), ← e2, wS_size (by have := letters_le h.state; omega), ← e4, h.nuA_size, ← e9, wS_size hrs]
  have hlB : (bl BB).length = 29 := by
    rw [bl_len, ← e11, ByteArray.size_append, ByteArray.size_append, ByteArray.size_append, ByteArray.size_append, ← e6, h.db_size, sex_le h.sex, ← e7, h.de_size, ← e8, wS_size (by have := letters_le h.nat; omega), ← e10, wS_size hse]
  have hcomp : comp 1 (asm 1 (optF z 1 (numF z 1 (mapF 1 z)))) = bl (AA.extract 5 30 ++ BB.extract 0 7 ++ BB.extract 8 15 ++ BB.extract 18 29) := by
    rw [asm_1, hl0, hl1, bl_app, bl_app, bl_app, bl_extract, bl_extract, bl_extract, bl_extract, ext_len, ext_len, ext_len, ext_len]
    unfold comp
    rw [if_pos rfl]
    show (bl AA).drop 5 ++ (bl BB ++ _).take 7 ++ ((bl BB ++ _).drop 8).take 7 ++ ((bl BB ++ _).drop 18).take 11 = _
    rw [List.take_append_of_le_length (by omega), List.drop_append_of_le_length (by omega), List.drop_append_of_le_length (by omega), List.take_append_of_le_length (by rw [List.length_drop]; omega), List.take_append_of_le_length (by rw [List.length_drop]; omega),
      List.take_of_length_le (l := (bl AA).drop 5) (by rw [List.length_drop]; omega)]
    rfl
  have h14 : bldF 1 z 14 = bl DG := by
    show endF 1 (optF z 1 (numF z 1 (mapF 1 z))) 14 = _
    unfold endF
    rw [upd_same, show wd 1 14 = 1 from rfl, ← show dgl (comp 1 (asm 1 (optF z 1 (numF z 1 (mapF 1 z))))) = (Opt.digS ⟨(comp 1 (asm 1 (optF z 1 (numF z 1 (mapF 1 z))))).toArray⟩).data.toList from rfl, hcomp, ← dgl_eq rfl, e12, wide_full]
    rw [bl_len, ← e12, digS_ok]
    have hvA : Opt.valid (bl AA) = true := by
      rw [hAA]
      exact valid_app (e1 ▸ valid_wS (letters_valid h.kind) 2) (valid_app (e2 ▸ valid_wS (letters_valid h.state) 3) (valid_app (e4 ▸ h.nuA_valid) hvO))
    have hvB : Opt.valid (bl BB) = true := by
      rw [hBB]
      exact valid_app (e6 ▸ ck_valid (birth_valid h.birth)) (valid_app (sex_valid h.sex) (valid_app (e7 ▸ ck_valid (exp_valid h.exp)) (valid_app (e8 ▸ valid_wS (letters_valid h.nat) 3) (e10 ▸ valid_wS (extra_valid h.sec) 11))))
    rw [bl_app, bl_app, bl_app, bl_extract, bl_extract, bl_extract, bl_extract, ext_len, ext_len, ext_len, ext_len]
    exact valid_app (valid_app (valid_app (valid_takeN (valid_dropN hvA _) _) (valid_takeN (valid_dropN hvB _) _)) (valid_takeN (valid_dropN hvB _) _)) (valid_takeN (valid_dropN hvB _) _)
  have hb : ∀ i, i ≠ 14 → bldF 1 z i = optF z 1 (numF z 1 (mapF 1 z)) i := fun i hi => endF_at hi
  unfold bldK bld
  rw [eF, asm_1, hb 0 (by decide), hb 1 (by decide), hb 3 (by decide), hb 4 (by decide), hb 11 (by decide), hl0, hb 5 (by decide), hb 6 (by decide), hb 7 (by decide), hb 8 (by decide), hb 9 (by decide), hb 10 (by decide), hb 13 (by decide), hl1, h14,
    bldF_at (i := 2) (by decide), names_f h 30 rfl (by decide)]
  have l0 : (⟨(bl AA).toArray⟩ : ByteArray) = AA := bl_ext rfl
  have l1 : (⟨(bl BB ++ bl DG).toArray⟩ : ByteArray) = BB ++ DG := bl_ext (by rw [bl_app])
  rw [List.map_cons, List.map_cons, List.map_cons, List.map_nil, l0, l1, ← e3]; rfl
end Zn
end Go.Proofs.YtelngghecmkipaaGreatDoor
