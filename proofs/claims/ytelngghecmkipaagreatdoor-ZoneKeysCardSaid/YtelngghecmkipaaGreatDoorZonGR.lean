/- Chapter 11: several texts in one (ZonRBld0, ZonRBldP, ZonRBld, ZonKey). -/
import Derived.Test.YtelngghecmkipaaGreatDoorTake
import Derived.Test.YtelngghecmkipaaGreatDoorZonRValid
import Derived.Test.YtelngghecmkipaaGreatDoorZonGM
import Derived.Test.YtelngghecmkipaaGreatDoorZonBuild
import Derived.IntWalk
namespace Go.Proofs.YtelngghecmkipaaGreatDoor
open Go.RowKit
namespace Zn
def wS (s : ByteArray) (n : Nat) : ByteArray := ⟨(s.data.toList ++ List.replicate (n - s.size) 60).toArray⟩
theorem wS_size {s : ByteArray} {n : Nat} (h : s.size ≤ n) : (wS s n).size = n := by
  unfold wS; rw [arr_size, List.length_append, List.length_replicate, Opt.size_len]; omega
theorem wS_le (s : ByteArray) (n : Nat) : (wS s n).size ≤ s.size + n := by
  unfold wS; rw [arr_size, List.length_append, List.length_replicate, Opt.size_len]; omega
def ckS (s : ByteArray) : ByteArray := s ++ Opt.digS s
def nuA (n : ByteArray) : ByteArray := if n.size ≤ 9 then ckS (wS n 9) else n.extract 0 9 ++ ⟨#[60]⟩
def nuB (n : ByteArray) : ByteArray := if n.size ≤ 9 then ⟨#[]⟩ else n.extract 9 n.size ++ Opt.digS n ++ ⟨#[60]⟩
end Zn
theorem rwideS (s : ByteArray) (n : Nat) (w : World) (h : n ≤ 64) :
    Calls Tryz.prog 51 #[.string s, .int .i64 n] w fun e w' => e = .returned (.string (Zn.wS s n)) ∧ Below w.heap.size w w' := by
  have h1 := rwide s.data.toList n w (by omega) (by omega)
  rw [Int.toNat_natCast, Opt.size_len] at h1
  exact h1.mono fun e w' ⟨h2, h3⟩ => ⟨h2, h3 ▸ Below.refl _ _⟩
set_option maxHeartbeats 400000 in
theorem rchecked (s : ByteArray) (w : World) (hs : s.size ≤ 140737488351232) :
    Calls Tryz.prog 53 #[.string s] w fun e w' => e = .returned (.string (Zn.ckS s)) ∧ Below w.heap.size w w' := by
  have HD := Lib.hid (rdigit s w hs)
  have h1 := digS_one s
  unfold Zn.ckS
  generalize Opt.digS s = D at HD h1 ⊢
  generalize Opt.digE s = E at HD
  have s1 : ¬ (9223372036854775807 < s.size + D.size) := by omega
  go_enter Tryz.func53, Tryz.ntmps53
  go_wp2_with fail
  refine HD.out.mono ?_; rintro e w1 ⟨rfl, hb⟩
  go_wp2_with fail
  go_ret
  exact ⟨rfl, hb⟩
set_option maxRecDepth 100000 in
set_option maxHeartbeats 1000000 in
theorem rnumber (n : ByteArray) (w : World) (hs : n.size ≤ 140737488351000) :
    Calls Tryz.prog 52 #[.string n] w fun e w' => e = .returned (.tuple #[.string (Zn.nuA n), .string (Zn.nuB n)]) ∧ Below w.heap.size w w' := by
  by_cases h9 : n.size ≤ 9
  · have eA : Zn.nuA n = Zn.ckS (Zn.wS n 9) := if_pos h9
    have eB : Zn.nuB n = ⟨#[]⟩ := if_pos h9
    rw [eA, eB]
    have hz := Zn.wS_size h9
    have HW := Lib.hid (fun W => rwideS n 9 W (by omega))
    generalize Zn.wS n 9 = X at HW hz ⊢
    have HC := Lib.hid (fun W => rchecked X W (by omega))
    generalize Zn.ckS X = Y at HC ⊢
    clear eA eB hz
    have e1 : (n.size : Int) ≤ 9 := by omega
    go_enter Tryz.func52, Tryz.ntmps52
    go_wp2_with fail
    refine (HW.out _).mono ?_; rintro e w1 ⟨rfl, hb1⟩
    have HB1 := Lib.hid hb1; clear hb1
    go_wp2_with fail
    refine (HC.out _).mono ?_; rintro e w2 ⟨rfl, hb2⟩
    have HB2 := Lib.hid (HB1.out.trans (hb2.mono HB1.out.size)); clear hb2
    go_wp2_with fail
    go_ret2
    exact ⟨rfl, HB2.out⟩
  · have eA : Zn.nuA n = n.extract 0 9 ++ ⟨#[60]⟩ := if_neg h9
    have eB : Zn.nuB n = n.extract 9 n.size ++ Opt.digS n ++ ⟨#[60]⟩ := if_neg h9
    rw [eA, eB]
    have HD := Lib.hid (rdigit n w (by omega))
    have h1 := digS_one n
    generalize Opt.digS n = D at HD h1 ⊢
    generalize Opt.digE n = E at HD
    have z1 : (n.extract 0 9).size ≤ 9 := by rw [ByteArray.size_extract]; omega
    have z2 : (n.extract 9 n.size).size ≤ n.size := by rw [ByteArray.size_extract]; omega
    have e1 : ¬ ((n.size : Int) ≤ 9) := by omega
    have e2 : (9 : Int) ≤ (n.size : Int) := by omega
    have s1 : ¬ (9223372036854775807 < (n.extract 0 9).size + 1) := by omega
    have s2 : ¬ (9223372036854775807 < (n.extract 9 n.size).size + D.size) := by omega
    have s3 : ¬ (9223372036854775807 < (n.extract 9 n.size).size + D.size + 1) := by omega
    clear eA eB z1 z2
    go_enter Tryz.func52, Tryz.ntmps52
    go_wp2_with fail
    refine HD.out.mono ?_; rintro e w1 ⟨rfl, hb⟩
    have HB := Lib.hid hb; clear hb
    go_wp2_with fail
    go_quiet (fail)
    go_wp2_with fail
    go_ret2
    exact ⟨rfl, below_drewN HB.out _⟩
end Go.Proofs.YtelngghecmkipaaGreatDoor

namespace Go.Proofs.YtelngghecmkipaaGreatDoor
open Go.RowKit
namespace Zn
/-- The bytes of a text. -/
abbrev bl (s : ByteArray) : List UInt8 := s.data.toList
theorem bl_app (a b : ByteArray) : bl (a ++ b) = bl a ++ bl b := by simp [bl]
theorem bl_ext {a b : ByteArray} (h : bl a = bl b) : a = b := by
  cases a; cases b; exact congrArg ByteArray.mk (Array.toList_inj.1 h)
theorem bl_mk (l : List UInt8) : bl ⟨l.toArray⟩ = l := rfl
theorem bl_len (s : ByteArray) : (bl s).length = s.size := Opt.size_len s
theorem bl_extract (s : ByteArray) (a b : Nat) : bl (s.extract a b) = (bl s).extract a b := by
  simp [bl, ByteArray.data_extract]
theorem wide_full {t : List UInt8} {n : Nat} (h : t.length = n) : wide_ t n = t := by
  unfold wide_; rw [List.take_append_of_le_length (by omega), List.take_of_length_le (by omega)]
theorem wide_fit {t : List UInt8} {n : Nat} (h : t.length ≤ n) : wide_ t n = t ++ List.replicate (n - t.length) 60 := by
  unfold wide_
  rw [List.take_append, List.take_of_length_le h, List.take_replicate]
  congr 2; omega
theorem wS_wide {s : ByteArray} {n : Nat} (h : s.size ≤ n) : bl (wS s n) = wide_ (bl s) n := by
  rw [wide_fit (by rw [bl_len]; exact h), bl_len]; rfl
theorem digS_ok {s : ByteArray} (h : Opt.valid (bl s) = true) : (Opt.digS s).size = 1 := by
  unfold Opt.digS; rw [if_pos h]; rfl
theorem isDig_ok {c : UInt8} (h : isDig c = true) : Opt.ok c = true := by
  unfold isDig at h
  simp only [Bool.and_eq_true, decide_eq_true_eq] at h
  unfold Opt.ok Opt.val
  rw [if_pos h]
  exact decide_eq_true (by omega)
theorem ok_fill : Opt.ok 60 = true := by decide
theorem pair_ok {a b : UInt8} (h : -2 < pair a b) : Opt.ok a = true ∧ Opt.ok b = true := by
  unfold pair at h
  split at h
  · rename_i g; rw [g.1, g.2]; exact ⟨ok_fill, ok_fill⟩
  · split at h
    · rename_i g
      simp only [Bool.and_eq_true] at g
      exact ⟨isDig_ok g.1, isDig_ok g.2⟩
    · omega
theorem pairOk_gt {i : Nat} {p : Int} (h : pairOk i p = true) : -2 < p := by
  unfold pairOk at h
  split at h
  · simpa using h
  · split at h
    · simp only [Bool.or_eq_true, beq_iff_eq, decide_eq_true_eq] at h; omega
    · simp only [Bool.or_eq_true, beq_iff_eq, decide_eq_true_eq] at h; omega
theorem six {s : ByteArray} (h : s.size = 6) : bl s = [s[0]'(by omega), s[1]'(by omega), s[2]'(by omega), s[3]'(by omega), s[4]'(by omega), s[5]'(by omega)] := by
  have hl : (bl s).length = 6 := by rw [bl_len]; exact h
  apply List.ext_getElem
  · rw [hl]; rfl
  · intro i h1 h2
    have : i = 0 ∨ i = 1 ∨ i = 2 ∨ i = 3 ∨ i = 4 ∨ i = 5 := by omega
    rcases this with rfl | rfl | rfl | rfl | rfl | rfl <;> rfl
theorem birth_valid {s : ByteArray} (h : birthB s = true) : Opt.valid (bl s) = true := by
  have hs := birth_size h
  unfold birthB at h
  rw [dif_pos hs] at h
  simp only [Bool.and_eq_true] at h
  obtain ⟨a0, a1⟩ := pair_ok (pairOk_gt h.1)
  obtain ⟨a2, a3⟩ := pair_ok (pairOk_gt h.2.1)
  obtain ⟨a4, a5⟩ := pair_ok (pairOk_gt h.2.2)
  rw [six hs]
  unfold Opt.valid
  simp only [List.all_cons, List.all_nil, a0, a1, a2, a3, a4, a5, Bool.and_self]
theorem isD_ok {c : UInt8} (h : Dat.isD c) : Opt.ok c = true := isDig_ok (by
  unfold isDig; rw [decide_eq_true h.1, decide_eq_true h.2]; rfl)
theorem prE_all {s : ByteArray} {f : Int} (h : Dat.prE s f = 0) : ∃ hs : s.size = 6, Dat.allD (s[0]'(by omega)) (s[1]'(by omega)) (s[2]'(by omega)) (s[3]'(by omega)) (s[4]'(by omega)) (s[5]'(by omega)) := by
  refine ⟨prE_size h, ?_⟩
  unfold Dat.prE at h
  split at h
  · cases h
  · rw [dif_pos (prE_size (by rename_i g; unfold Dat.prE; rw [if_neg g]; exact h))] at h
    split at h
    · assumption
    · cases h
theorem exp_valid {s : ByteArray} {f : Int} (h : Dat.prE s f = 0) : Opt.valid (bl s) = true := by
  obtain ⟨hs, a0, a1, a2, a3, a4, a5⟩ := prE_all h
  rw [six hs]
  unfold Opt.valid
  simp only [List.all_cons, List.all_nil, isD_ok a0, isD_ok a1, isD_ok a2, isD_ok a3, isD_ok a4, isD_ok a5, Bool.and_self]
theorem plain_valid {s : ByteArray} (h : plain s = true) : Opt.valid (bl s) = true :=
  List.all_eq_true.2 fun x hx => by
    have := List.all_eq_true.1 h x hx
    simp only [Bool.and_eq_true] at this
    exact this.1
theorem valid_app {a b : List UInt8} (ha : Opt.valid a = true) (hb : Opt.valid b = true) : Opt.valid (a ++ b) = true := by
  unfold Opt.valid at *; rw [List.all_append, ha, hb]; rfl
theorem valid_fill (n : Nat) : Opt.valid (List.replicate n 60) = true := List.all_eq_true.2 fun x hx => by rw [List.eq_of_mem_replicate hx]; exact ok_fill
theorem valid_takeN {a : List UInt8} (h : Opt.valid a = true) (n : Nat) : Opt.valid (a.take n) = true := List.all_eq_true.2 fun x hx => List.all_eq_true.1 h x (List.mem_of_mem_take hx)
theorem valid_dropN {a : List UInt8} (h : Opt.valid a = true) (n : Nat) : Opt.valid (a.drop n) = true := List.all_eq_true.2 fun x hx => List.all_eq_true.1 h x (List.mem_of_mem_drop hx)
theorem valid_wide {a : List UInt8} (h : Opt.valid a = true) (n : Nat) : Opt.valid (wide_ a n) = true := valid_takeN (valid_app h (valid_fill n)) n
theorem valid_wS {a : ByteArray} (h : Opt.valid (bl a) = true) (n : Nat) : Opt.valid (bl (wS a n)) = true := valid_app h (valid_fill _)
theorem extra_valid {s : ByteArray} (h : extra s = true) : Opt.valid (bl s) = true := by
  unfold extra at h
  simp only [Bool.and_eq_true] at h
  exact h.1
theorem ok_digit (l : List UInt8) : Opt.ok (Opt.digit l) = true := by
  refine isDig_ok ?_
  unfold isDig Opt.digit
  rw [b8_toNat _ (by omega) (by omega)]
  simp only [Bool.and_eq_true, decide_eq_true_eq]
  omega
theorem digS_valid (s : ByteArray) : Opt.valid (bl (Opt.digS s)) = true := by
  unfold Opt.digS
  split
  · show Opt.valid [Opt.digit s.data.toList] = true
    unfold Opt.valid
    rw [List.all_cons, ok_digit]; rfl
  · rfl
theorem ck_valid {s : ByteArray} (h : Opt.valid (bl s) = true) : Opt.valid (bl (ckS s)) = true := by unfold ckS; rw [bl_app]; exact valid_app h (digS_valid s)
theorem sex_valid {s : ByteArray} (h : sexB s = true) : Opt.valid (bl s) = true := by
  unfold sexB at h
  simp only [Bool.or_eq_true, decide_eq_true_eq] at h
  rcases h with rfl | rfl | rfl <;> decide
theorem Good.nuA_valid {z : Z} (h : Good z) : Opt.valid (bl (nuA z.num)) = true := by
  unfold nuA
  split
  · exact ck_valid (valid_wS (plain_valid h.num) 9)
  · rw [bl_app, bl_extract]
    refine valid_app ?_ (by decide)
    rw [List.extract_eq_take_drop]
    exact valid_takeN (valid_dropN (plain_valid h.num) _) _
theorem Good.nuB_valid {z : Z} (h : Good z) : Opt.valid (bl (nuB z.num)) = true := by
  unfold nuB
  split
  · rfl
  · rw [bl_app, bl_app, bl_extract]
    refine valid_app (valid_app ?_ (digS_valid _)) (by decide)
    rw [List.extract_eq_take_drop]
    exact valid_takeN (valid_dropN (plain_valid h.num) _) _
theorem Good.db_size {z : Z} (h : Good z) : (ckS z.birth).size = 7 := by
  unfold ckS; rw [ByteArray.size_append, birth_size h.birth, digS_ok (birth_valid h.birth)]
theorem Good.de_size {z : Z} (h : Good z) : (ckS z.exp).size = 7 := by
  unfold ckS; rw [ByteArray.size_append, prE_size h.exp, digS_ok (exp_valid h.exp)]
theorem Good.nuA_size {z : Z} (h : Good z) : (nuA z.num).size = 10 := by
  unfold nuA
  split
  · rename_i h9
    unfold ckS
    rw [ByteArray.size_append, wS_size h9, digS_ok (valid_wS (plain_valid h.num) 9)]
  · rw [ByteArray.size_append, ByteArray.size_extract]
    have : (⟨#[60]⟩ : ByteArray).size = 1 := rfl
    omega
theorem Good.nuB_size {z : Z} (h : Good z) : (nuB z.num).size + z.opt.size = if 9 < z.num.size then z.num.size - 7 + z.opt.size else z.opt.size := by
  unfold nuB
  split
  · rename_i h9
    rw [if_neg (by omega)]
    have : (⟨#[]⟩ : ByteArray).size = 0 := rfl
    omega
  · rename_i h9
    rw [if_pos (by omega), ByteArray.size_append, ByteArray.size_append, ByteArray.size_extract, digS_ok (plain_valid h.num)]
    have : (⟨#[60]⟩ : ByteArray).size = 1 := rfl
    omega
theorem Good.num3 {z : Z} (h : Good z) (hf : z.fmt = 3) : z.num.size ≤ 9 := by
  have := h.numLe; unfold longest at this; rw [hf, if_neg (by decide), if_neg (by decide)] at this; omega
theorem Good.opt14 {z : Z} (h : Good z) (hf : z.fmt = 3) : z.opt.size ≤ 14 := by
  have h1 := h.needLe
  have h2 := h.num3 hf
  unfold need wide at h1; rw [hf, show (if (3 : Int) = 1 then (15 : Int) else if (3 : Int) = 2 then 7 else 14) = 14 from rfl, if_neg (by omega)] at h1; omega
theorem Good.opt7 {z : Z} (h : Good z) (hf : z.fmt = 2) : (if 9 < z.num.size then z.num.size - 7 + z.opt.size else z.opt.size) ≤ 7 := by
  have h1 := h.needLe
  unfold need wide at h1; rw [hf, show (if (2 : Int) = 1 then (15 : Int) else if (2 : Int) = 2 then 7 else 14) = 7 from rfl] at h1
  split at h1
  · rw [if_pos (by omega)]; omega
  · rw [if_neg (by omega)]; omega
theorem Good.opt15 {z : Z} (h : Good z) (hf : z.fmt = 1) : (if 9 < z.num.size then z.num.size - 7 + z.opt.size else z.opt.size) ≤ 15 := by
  have h1 := h.needLe
  unfold need wide at h1; rw [hf, show (if (1 : Int) = 1 then (15 : Int) else if (1 : Int) = 2 then 7 else 14) = 15 from rfl] at h1
  split at h1
  · rw [if_pos (by omega)]; omega
  · rw [if_neg (by omega)]; omega
theorem Good.digW {z : Z} (h : Good z) (n : Nat) : 1 ≤ (Opt.digS (wS z.opt n)).size := by rw [digS_ok (valid_wS (extra_valid h.opt) n)]; omega
theorem upd_same (F : Nat → List UInt8) (i : Nat) (t : List UInt8) : upd F i t i = t := by unfold upd; rw [if_pos rfl]
theorem upd_ne (F : Nat → List UInt8) {i j : Nat} (t : List UInt8) (h : j ≠ i) : upd F i t j = F j := by unfold upd; rw [if_neg h]
/-- What the map puts. -/
noncomputable def mapF (F : Nat) (z : Z) : Nat → List UInt8 := midF ⟨0, z, ⟨(Opt.nmV z.sur.data.toList z.giv.data.toList (wd F 2)).toArray⟩, Opt.digS z.birth, Opt.digS z.exp⟩ F fun _ => false
theorem numF_at {z : Z} {F : Nat} {M : Nat → List UInt8} {i : Nat} (h : i ≠ 3 ∧ i ≠ 4 ∧ i ≠ 11) : numF z F M i = M i := by
  unfold numF
  split
  · rw [upd_ne _ _ h.2.2, upd_ne _ _ h.1]
  · rw [upd_ne _ _ h.2.2, upd_ne _ _ h.2.1, upd_ne _ _ h.1]
theorem optF_at {z : Z} {F : Nat} {M : Nat → List UInt8} {i : Nat} (h : i ≠ 12) : optF z F M i = M i := by
  unfold optF
  split
  · rfl
  · rw [upd_ne _ _ h]
theorem endF_at {F : Nat} {M : Nat → List UInt8} {i : Nat} (h : i ≠ 14) : endF F M i = M i := upd_ne _ _ h
theorem bldF_at {F : Nat} {z : Z} {i : Nat} (h : i ≠ 3 ∧ i ≠ 4 ∧ i ≠ 11 ∧ i ≠ 12 ∧ i ≠ 14) : bldF F z i = mapF F z i := by
  unfold bldF; rw [endF_at h.2.2.2.2, optF_at h.2.2.2.1, numF_at ⟨h.1, h.2.1, h.2.2.1⟩]; rfl
theorem map0 (F : Nat) (z : Z) : mapF F z 0 = wide_ (bl z.kind) (wd F 0) := rfl
theorem map1 (F : Nat) (z : Z) : mapF F z 1 = wide_ (bl z.state) (wd F 1) := rfl
theorem map2 (F : Nat) (z : Z) : mapF F z 2 = wide_ (Opt.nmV z.sur.data.toList z.giv.data.toList (wd F 2)) (wd F 2) := rfl
theorem map5 (F : Nat) (z : Z) : mapF F z 5 = wide_ (bl z.nat) (wd F 5) := rfl
theorem map6 (F : Nat) (z : Z) : mapF F z 6 = wide_ (bl z.birth) (wd F 6) := rfl
theorem map7 (F : Nat) (z : Z) : mapF F z 7 = wide_ (bl (Opt.digS z.birth)) (wd F 7) := rfl
theorem map8 (F : Nat) (z : Z) : mapF F z 8 = wide_ (bl z.sex) (wd F 8) := rfl
theorem map9 (F : Nat) (z : Z) : mapF F z 9 = wide_ (bl z.exp) (wd F 9) := rfl
theorem map10 (F : Nat) (z : Z) : mapF F z 10 = wide_ (bl (Opt.digS z.exp)) (wd F 10) := rfl
theorem map12 (F : Nat) (z : Z) : mapF F z 12 = List.replicate (wd F 12) 60 := rfl
theorem map13 (F : Nat) (z : Z) : mapF F z 13 = wide_ (bl z.sec) (wd F 13) := rfl
theorem map14 (F : Nat) (z : Z) : mapF F z 14 = List.replicate (wd F 14) 60 := rfl
theorem map4 (F : Nat) (z : Z) : mapF F z 4 = List.replicate (wd F 4) 60 := rfl

theorem comp_tail {f : Nat} {a B X : List UInt8} (h1 : f ≠ 1) (hB : B.length = wLine f - 1) (h2 : 22 ≤ wLine f) : comp f [a, B ++ X] = B.take 10 ++ (B.drop 13).take 7 ++ (B.drop 21).take (wLine f - 22) := by
  unfold comp
  rw [if_neg h1]
  show (B ++ X).take 10 ++ ((B ++ X).drop 13).take 7 ++ ((B ++ X).drop 21).take (wLine f - 22) = _
  rw [List.take_append_of_le_length (by omega), List.drop_append_of_le_length (by omega), List.drop_append_of_le_length (by omega), List.take_append_of_le_length (by rw [List.length_drop]; omega), List.take_append_of_le_length (by rw [List.length_drop]; omega)]
theorem ext_len (l : List UInt8) (a b : Nat) : l.extract a b = (l.drop a).take (b - a) := by simp [List.extract_eq_take_drop]
/-- The check digit of some bytes. -/
def dgl (l : List UInt8) : List UInt8 := bl (Opt.digS ⟨l.toArray⟩)
theorem dgl_eq {s : ByteArray} {l : List UInt8} (h : bl s = l) : bl (Opt.digS s) = dgl l := by
  have : s = ⟨l.toArray⟩ := bl_ext (by rw [h])
  rw [this]; rfl
theorem dgl_len {l : List UInt8} (h : Opt.valid l = true) : (dgl l).length = 1 := by unfold dgl; rw [bl_len]; exact digS_ok h
theorem ck_eq {s : ByteArray} {l : List UInt8} (h : bl s = l) : bl (ckS s) = l ++ dgl l := by unfold ckS; rw [bl_app, h, dgl_eq h]
theorem kind_b {z : Z} (h : Good z) : bl (wS z.kind 2) = wide_ (bl z.kind) 2 := wS_wide (by have := letters_le h.kind; omega)
theorem state_b {z : Z} (h : Good z) : bl (wS z.state 3) = wide_ (bl z.state) 3 := wS_wide (by have := letters_le h.state; omega)
theorem nat_b {z : Z} (h : Good z) : bl (wS z.nat 3) = wide_ (bl z.nat) 3 := wS_wide (by have := letters_le h.nat; omega)
theorem letters_valid {s : ByteArray} {n : Int} (h : letters s n = true) : Opt.valid (bl s) = true := by
  unfold letters at h
  simp only [Bool.and_eq_true] at h
  refine List.all_eq_true.2 fun x hx => ?_
  have h1 := List.all_eq_true.1 h.2.2 x hx
  revert h1
  unfold Opt.isL Opt.ok Opt.val
  simp only [Bool.and_eq_true, decide_eq_true_eq]
  intro h1
  split
  · omega
  · omega
theorem Good.nmLen {z : Z} (h : Good z) (n : Nat) (h1 : 1 ≤ n ∧ n ≤ 64) : (Opt.nmV z.sur.data.toList z.giv.data.toList n).length = n := by
  unfold Opt.nmV
  rw [if_neg (by
    rintro (g | g | g)
    · exact g ⟨h.sur, h.giv, fun e => h.sur0 (by rw [← Opt.size_len, e]; rfl)⟩
    · omega
    · omega)]
  rw [List.length_take, List.length_append, List.length_replicate]
  omega
theorem num3_eq {z : Z} {F : Nat} (h3 : wd F 3 = 9) : numF z F (mapF F z) 3 = if 9 < z.num.size then bl (z.num.extract 0 9) else bl (wS z.num 9) := by
  unfold numF
  split
  · rw [upd_ne _ _ (by decide), upd_same, h3, wide_full (by rw [bl_len, ByteArray.size_extract]; omega)]
  · rw [upd_ne _ _ (by decide), upd_ne _ _ (by decide), upd_same, h3, wS_wide (by omega)]
theorem num4_eq {z : Z} {F : Nat} (h : Good z) (h3 : wd F 3 = 9) (h4 : wd F 4 = 1) : numF z F (mapF F z) 4 = if 9 < z.num.size then [60] else dgl (bl (wS z.num 9)) := by
  unfold numF
  split
  · rw [upd_ne _ _ (by decide), upd_ne _ _ (by decide), map4, h4]; rfl
  · rename_i h9
    rw [upd_ne _ _ (by decide), upd_same, upd_same, h3, h4, ← wS_wide (s := z.num) (n := 9) (by omega), ← show dgl (bl (wS z.num 9)) = (Opt.digS ⟨(bl (wS z.num 9)).toArray⟩).data.toList from rfl, wide_full (dgl_len (valid_wS (plain_valid h.num) 9))]
theorem num34 {z : Z} {F : Nat} (h : Good z) (h3 : wd F 3 = 9) (h4 : wd F 4 = 1) : numF z F (mapF F z) 3 ++ numF z F (mapF F z) 4 = bl (nuA z.num) := by
  rw [num3_eq h3, num4_eq h h3 h4]
  unfold nuA
  by_cases h9 : 9 < z.num.size
  · rw [if_pos h9, if_pos h9, if_neg (by omega), bl_app]
  · rw [if_neg h9, if_neg h9, if_pos (by omega), ck_eq rfl]
theorem num11 {z : Z} {F : Nat} : numF z F (mapF F z) 11 = wide_ (bl (nuB z.num ++ z.opt)) (wd F 11) := by
  unfold numF nuB
  by_cases h9 : 9 < z.num.size
  · rw [if_pos h9, if_neg (by omega), upd_same]
  · rw [if_neg h9, if_pos (by omega), upd_same, bl_app]; rfl
theorem birth_f {z : Z} {F : Nat} (h : Good z) (h6 : wd F 6 = 6) : mapF F z 6 = bl z.birth := by rw [map6, h6, wide_full (by rw [bl_len]; exact birth_size h.birth)]
theorem birthD_f {z : Z} {F : Nat} (h : Good z) (h7 : wd F 7 = 1) : mapF F z 7 = dgl (bl z.birth) := by
  rw [map7, h7, dgl_eq rfl, wide_full (dgl_len (birth_valid h.birth))]
theorem sex_f {z : Z} {F : Nat} (h : Good z) (h8 : wd F 8 = 1) : mapF F z 8 = bl z.sex := by rw [map8, h8, wide_full (by rw [bl_len]; exact sex_le h.sex)]
theorem exp_f {z : Z} {F : Nat} (h : Good z) (h9 : wd F 9 = 6) : mapF F z 9 = bl z.exp := by rw [map9, h9, wide_full (by rw [bl_len]; exact prE_size h.exp)]
theorem expD_f {z : Z} {F : Nat} (h : Good z) (h10 : wd F 10 = 1) : mapF F z 10 = dgl (bl z.exp) := by
  rw [map10, h10, dgl_eq rfl, wide_full (dgl_len (exp_valid h.exp))]
theorem kind_f {z : Z} {F : Nat} (h : Good z) (h0 : wd F 0 = 2) : mapF F z 0 = bl (wS z.kind 2) := by rw [map0, h0, kind_b h]
theorem state_f {z : Z} {F : Nat} (h : Good z) (h1 : wd F 1 = 3) : mapF F z 1 = bl (wS z.state 3) := by rw [map1, h1, state_b h]
theorem nat_f {z : Z} {F : Nat} (h : Good z) (h5 : wd F 5 = 3) : mapF F z 5 = bl (wS z.nat 3) := by rw [map5, h5, nat_b h]
theorem names_f {z : Z} {F : Nat} (h : Good z) (n : Nat) (h2 : wd F 2 = n) (h1 : 1 ≤ n ∧ n ≤ 64) : mapF F z 2 = Opt.nmV z.sur.data.toList z.giv.data.toList n := by
  rw [map2, h2, wide_full (h.nmLen n h1)]
theorem opt12 {z : Z} {F : Nat} {N : Nat → List UInt8} (h12 : wd F 12 = 1) (hN : N 12 = [60]) (hv : Opt.valid (N 11) = true) : optF z F N 12 = if z.opt.size = 0 then [60] else dgl (N 11) := by
  unfold optF
  split
  · exact hN
  · rw [upd_same, h12, ← show dgl (N 11) = (Opt.digS ⟨(N 11).toArray⟩).data.toList from rfl, wide_full (dgl_len hv)]
/-- Two lines whose last field is the composite digit. -/
theorem asm_3 (G : Nat → List UInt8) : asm 3 G = [G 0 ++ (G 1 ++ G 2), G 3 ++ (G 4 ++ (G 5 ++ (G 6 ++ (G 7 ++ (G 8 ++ (G 9 ++ (G 10 ++ (G 11 ++ (G 12 ++ G 14)))))))))] := by
  unfold asm order
  simp
theorem asm_2 (G : Nat → List UInt8) : asm 2 G = [G 0 ++ (G 1 ++ G 2), G 3 ++ (G 4 ++ (G 5 ++ (G 6 ++ (G 7 ++ (G 8 ++ (G 9 ++ (G 10 ++ (G 11 ++ G 14))))))))] := by
  unfold asm order
  simp
theorem asm_1 (G : Nat → List UInt8) : asm 1 G = [G 0 ++ (G 1 ++ (G 3 ++ (G 4 ++ G 11))), G 6 ++ (G 7 ++ (G 8 ++ (G 9 ++ (G 10 ++ (G 5 ++ (G 13 ++ G 14)))))), G 2] := by
  unfold asm order
  simp
theorem rbld_3 {z : Z} {KW SW NM NU RS DB DE NW OW OO BB DG : ByteArray} (h : Good z) (hf : z.fmt = 3) (e1 : wS z.kind 2 = KW) (e2 : wS z.state 3 = SW) (e3 : (⟨(Opt.nmV z.sur.data.toList z.giv.data.toList 39).toArray⟩ : ByteArray) = NM)
    (e4 : nuA z.num = NU) (_e5 : nuB z.num = RS) (e6 : ckS z.birth = DB) (e7 : ckS z.exp = DE) (e8 : wS z.nat 3 = NW) (e9 : wS z.opt 14 = OW) (e10 : (if z.opt.size = 0 then (⟨#[60]⟩ : ByteArray) else Opt.digS OW) = OO)
    (e11 : NU ++ NW ++ DB ++ z.sex ++ DE ++ OW ++ OO = BB) (e12 : Opt.digS (BB.extract 0 10 ++ BB.extract 13 20 ++ BB.extract 21 43) = DG) : bldK z = [KW ++ SW ++ NM, BB ++ DG] := by
  have eF : z.fmt.toNat = 3 := by rw [hf]; rfl
  have hnB : nuB z.num = ⟨#[]⟩ := if_pos (h.num3 hf)
  have hN11 : numF z 3 (mapF 3 z) 11 = bl OW := by
    rw [num11, hnB, ← e9, wS_wide (h.opt14 hf)]
    congr 1
  have hvO : Opt.valid (bl OW) = true := by rw [← e9]; exact valid_wS (extra_valid h.opt) 14
  have h12 : optF z 3 (numF z 3 (mapF 3 z)) 12 = bl OO := by
    rw [opt12 rfl (by rw [numF_at (by decide), map12]; rfl) (by rw [hN11]; exact hvO), hN11, ← e10]
    by_cases ho : z.opt.size = 0
    · rw [if_pos ho, if_pos ho]
    · rw [if_neg ho, if_neg ho, dgl_eq rfl]
  have hBB : bl BB = bl NU ++ (bl NW ++ (bl DB ++ (bl z.sex ++ (bl DE ++ (bl OW ++ bl OO))))) := by
    rw [← e11]; simp only [bl_app, List.append_assoc]
  have hline : ∀ X, optF z 3 (numF z 3 (mapF 3 z)) 3 ++ (optF z 3 (numF z 3 (mapF 3 z)) 4 ++ (optF z 3 (numF z 3 (mapF 3 z)) 5 ++ (optF z 3 (numF z 3 (mapF 3 z)) 6 ++ (optF z 3 (numF z 3 (mapF 3 z)) 7 ++ (optF z 3 (numF z 3 (mapF 3 z)) 8 ++ (optF z 3 (numF z 3 (mapF 3 z)) 9 ++ (optF z 3 (numF z 3 (mapF 3 z)) 10 ++ (optF z 3 (numF z 3 (mapF 3 z)) 11 ++ (optF z 3 (numF z 3 (mapF 3 z)) 12 ++ X))))))))) = bl BB ++ X := by
    intro X
    rw [h12, optF_at (i := 3) (by decide), optF_at (i := 4) (by decide), optF_at (i := 5) (by decide), optF_at (i := 6) (by decide), optF_at (i := 7) (by decide), optF_at (i := 8) (by decide), optF_at (i := 9) (by decide), optF_at (i := 10) (by decide), optF_at (i := 11) (by decide), hN11,
      numF_at (i := 5) (by decide), numF_at (i := 6) (by decide), numF_at (i := 7) (by decide), numF_at (i := 8) (by decide), numF_at (i := 9) (by decide), numF_at (i := 10) (by decide), nat_f h rfl, birth_f h rfl, birthD_f h rfl, sex_f h rfl, exp_f h rfl, expD_f h rfl, e8]
    rw [hBB, ← e6, ← e7, ck_eq rfl, ck_eq rfl, ← e4, ← num34 (F := 3) h rfl rfl]
    simp only [List.append_assoc]
  have hlen : (bl BB).length = 43 := by
    rw [bl_len, ← e11, ByteArray.size_append, ByteArray.size_append, ByteArray.size_append, ByteArray.size_append, ByteArray.size_append, ByteArray.size_append, ← e4, h.nuA_size, ← e8, wS_size (by have := letters_le h.nat; omega), ← e6, h.db_size, sex_le h.sex, ← e7, h.de_size, ← e10, ← e9, wS_size (h.opt14 hf)]
    split
    · rfl
    · rw [digS_ok (by rw [e9]; exact hvO)]
  have hcomp : comp 3 (asm 3 (optF z 3 (numF z 3 (mapF 3 z)))) = bl (BB.extract 0 10 ++ BB.extract 13 20 ++ BB.extract 21 43) := by
    rw [asm_3, hline, comp_tail (by decide) hlen (by decide), bl_app, bl_app, bl_extract, bl_extract, bl_extract, ext_len, ext_len, ext_len]; rfl
  have h14 : bldF 3 z 14 = bl DG := by
    show endF 3 (optF z 3 (numF z 3 (mapF 3 z))) 14 = _
    unfold endF
    rw [upd_same, show wd 3 14 = 1 from rfl, ← show dgl (comp 3 (asm 3 (optF z 3 (numF z 3 (mapF 3 z))))) = (Opt.digS ⟨(comp 3 (asm 3 (optF z 3 (numF z 3 (mapF 3 z))))).toArray⟩).data.toList from rfl, hcomp, ← dgl_eq rfl, e12, wide_full]
    rw [bl_len, ← e12, digS_ok]
    have hvB : Opt.valid (bl BB) = true := by
      rw [hBB]
      refine valid_app (e4 ▸ h.nuA_valid) (valid_app (e8 ▸ valid_wS (letters_valid h.nat) 3) (valid_app (e6 ▸ ck_valid (birth_valid h.birth)) (valid_app (sex_valid h.sex) (valid_app (e7 ▸ ck_valid (exp_valid h.exp)) (valid_app hvO ?_)))))
      rw [← e10]
      split
      · decide
      · exact digS_valid _
    rw [bl_app, bl_app, bl_extract, bl_extract, bl_extract, ext_len, ext_len, ext_len]
    exact valid_app (valid_app (valid_takeN (valid_dropN hvB _) _) (valid_takeN (valid_dropN hvB _) _)) (valid_takeN (valid_dropN hvB _) _)
  have hb : ∀ i, i ≠ 14 → bldF 3 z i = optF z 3 (numF z 3 (mapF 3 z)) i := fun i hi => endF_at hi
  unfold bldK bld
  rw [eF, asm_3, hb 3 (by decide), hb 4 (by decide), hb 5 (by decide), hb 6 (by decide), hb 7 (by decide), hb 8 (by decide), hb 9 (by decide), hb 10 (by decide), hb 11 (by decide), hb 12 (by decide), hline, h14,
    bldF_at (i := 0) (by decide), bldF_at (i := 1) (by decide), bldF_at (i := 2) (by decide), kind_f h rfl, state_f h rfl, names_f h 39 rfl (by decide), e1, e2]
  have l0 : (⟨(bl KW ++ (bl SW ++ Opt.nmV z.sur.data.toList z.giv.data.toList (39 : Nat))).toArray⟩ : ByteArray) = KW ++ SW ++ NM := bl_ext (by rw [bl_app, bl_app, ← e3, List.append_assoc]; rfl)
  have l1 : (⟨(bl BB ++ bl DG).toArray⟩ : ByteArray) = BB ++ DG := bl_ext (by rw [bl_app])
  rw [List.map_cons, List.map_cons, List.map_nil, l0, l1]
theorem rbld_2 {z : Z} {KW SW NM NU RS DB DE NW OW BB DG : ByteArray} (h : Good z) (hf : z.fmt = 2) (e1 : wS z.kind 2 = KW) (e2 : wS z.state 3 = SW) (e3 : (⟨(Opt.nmV z.sur.data.toList z.giv.data.toList 31).toArray⟩ : ByteArray) = NM)
    (e4 : nuA z.num = NU) (e5 : nuB z.num = RS) (e6 : ckS z.birth = DB) (e7 : ckS z.exp = DE) (e8 : wS z.nat 3 = NW) (e9 : wS (RS ++ z.opt) 7 = OW)
    (e11 : NU ++ NW ++ DB ++ z.sex ++ DE ++ OW = BB) (e12 : Opt.digS (BB.extract 0 10 ++ BB.extract 13 20 ++ BB.extract 21 35) = DG) : bldK z = [KW ++ SW ++ NM, BB ++ DG] := by
  have eF : z.fmt.toNat = 2 := by rw [hf]; rfl
  have hrs : (RS ++ z.opt).size ≤ 7 := by
    rw [ByteArray.size_append, ← e5]; have h1 := h.nuB_size; have h2 := h.opt7 hf; omega
  have hN11 : numF z 2 (mapF 2 z) 11 = bl OW := by
    rw [num11, e5, ← e9, wS_wide hrs]; rfl
  have hvO : Opt.valid (bl OW) = true := by rw [← e9]; exact valid_wS (by rw [bl_app, ← e5]; exact valid_app h.nuB_valid (extra_valid h.opt)) 7
  have hBB : bl BB = bl NU ++ (bl NW ++ (bl DB ++ (bl z.sex ++ (bl DE ++ bl OW)))) := by
    rw [← e11]; simp only [bl_app, List.append_assoc]
  have hline : ∀ X, optF z 2 (numF z 2 (mapF 2 z)) 3 ++ (optF z 2 (numF z 2 (mapF 2 z)) 4 ++ (optF z 2 (numF z 2 (mapF 2 z)) 5 ++ (optF z 2 (numF z 2 (mapF 2 z)) 6 ++ (optF z 2 (numF z 2 (mapF 2 z)) 7 ++ (optF z 2 (numF z 2 (mapF 2 z)) 8 ++ (optF z 2 (numF z 2 (mapF 2 z)) 9 ++ (optF z 2 (numF z 2 (mapF 2 z)) 10 ++ (optF z 2 (numF z 2 (mapF 2 z)) 11 ++ X)))))))) = bl BB ++ X := by
    intro X
    rw [optF_at (i := 3) (by decide), optF_at (i := 4) (by decide), optF_at (i := 5) (by decide), optF_at (i := 6) (by decide), optF_at (i := 7) (by decide), optF_at (i := 8) (by decide), optF_at (i := 9) (by decide), optF_at (i := 10) (by decide), optF_at (i := 11) (by decide), hN11,
      numF_at (i := 5) (by decide), numF_at (i := 6) (by decide), numF_at (i := 7) (by decide), numF_at (i := 8) (by decide), numF_at (i := 9) (by decide), numF_at (i := 10) (by decide), nat_f h rfl, birth_f h rfl, birthD_f h rfl, sex_f h rfl, exp_f h rfl, expD_f h rfl, e8]
    rw [hBB, ← e6, ← e7, ck_eq rfl, ck_eq rfl, ← e4, ← num34 (F := 2) h rfl rfl]
    simp only [List.append_assoc]
  have hlen : (bl BB).length = 35 := by
    rw [bl_len, ← e11, ByteArray.size_append, ByteArray.size_append, ByteArray.size_append, ByteArray.size_append, ByteArray.size_append, ← e4, h.nuA_size, ← e8, wS_size (by have := letters_le h.nat; omega), ← e6, h.db_size, sex_le h.sex, ← e7, h.de_size, ← e9, wS_size hrs]
  have hcomp : comp 2 (asm 2 (optF z 2 (numF z 2 (mapF 2 z)))) = bl (BB.extract 0 10 ++ BB.extract 13 20 ++ BB.extract 21 35) := by
    rw [asm_2, hline, comp_tail (by decide) hlen (by decide), bl_app, bl_app, bl_extract, bl_extract, bl_extract, ext_len, ext_len, ext_len]; rfl
  have h14 : bldF 2 z 14 = bl DG := by
    show endF 2 (optF z 2 (numF z 2 (mapF 2 z))) 14 = _
    unfold endF
    rw [upd_same, show wd 2 14 = 1 from rfl, ← show dgl (comp 2 (asm 2 (optF z 2 (numF z 2 (mapF 2 z))))) = (Opt.digS ⟨(comp 2 (asm 2 (optF z 2 (numF z 2 (mapF 2 z))))).toArray⟩).data.toList from rfl, hcomp, ← dgl_eq rfl, e12, wide_full]
    rw [bl_len, ← e12, digS_ok]
    have hvB : Opt.valid (bl BB) = true := by
      rw [hBB]
      exact valid_app (e4 ▸ h.nuA_valid) (valid_app (e8 ▸ valid_wS (letters_valid h.nat) 3) (valid_app (e6 ▸ ck_valid (birth_valid h.birth)) (valid_app (sex_valid h.sex) (valid_app (e7 ▸ ck_valid (exp_valid h.exp)) hvO))))
    rw [bl_app, bl_app, bl_extract, bl_extract, bl_extract, ext_len, ext_len, ext_len]
    exact valid_app (valid_app (valid_takeN (valid_dropN hvB _) _) (valid_takeN (valid_dropN hvB _) _)) (valid_takeN (valid_dropN hvB _) _)
  have hb : ∀ i, i ≠ 14 → bldF 2 z i = optF z 2 (numF z 2 (mapF 2 z)) i := fun i hi => endF_at hi
  unfold bldK bld
  rw [eF, asm_2, hb 3 (by decide), hb 4 (by decide), hb 5 (by decide), hb 6 (by decide), hb 7 (by decide), hb 8 (by decide), hb 9 (by decide), hb 10 (by decide), hb 11 (by decide), hline, h14,
    bldF_at (i := 0) (by decide), bldF_at (i := 1) (by decide), bldF_at (i := 2) (by decide), kind_f h rfl, state_f h rfl, names_f h 31 rfl (by decide), e1, e2]
  have l0 : (⟨(bl KW ++ (bl SW ++ Opt.nmV z.sur.data.toList z.giv.data.toList (31 : Nat))).toArray⟩ : ByteArray) = KW ++ SW ++ NM := bl_ext (by rw [bl_app, bl_app, ← e3, List.append_assoc]; rfl)
  have l1 : (⟨(bl BB ++ bl DG).toArray⟩ : ByteArray) = BB ++ DG := bl_ext (by rw [bl_app])
  rw [List.map_cons, List.map_cons, List.map_nil, l0, l1]
theorem rbld_1 {z : Z} {KW SW NM NU RS DB DE NW OW SE AA BB DG : ByteArray} (h : Good z) (hf : z.fmt = 1) (e1 : wS z.kind 2 = KW) (e2 : wS z.state 3 = SW) (e3 : (⟨(Opt.nmV z.sur.data.toList z.giv.data.toList 30).toArray⟩ : ByteArray) = NM)
    (e4 : nuA z.num = NU) (e5 : nuB z.num = RS) (e6 : ckS z.birth = DB) (e7 : ckS z.exp = DE) (e8 : wS z.nat 3 = NW) (e9 : wS (RS ++ z.opt) 15 = OW) (e10 : wS z.sec 11 = SE) (e0 : KW ++ SW ++ NU ++ OW = AA)
    (e11 : DB ++ z.sex ++ DE ++ NW ++ SE = BB) (e12 : Opt.digS (AA.extract 5 30 ++ BB.extract 0 7 ++ BB.extract 8 15 ++ BB.extract 18 29) = DG) : bldK z = [AA, BB ++ DG, NM] := by
  have eF : z.fmt.toNat = 1 := by rw [hf]; rfl
  have hrs : (RS ++ z.opt).size ≤ 15 := by
    rw [ByteArray.size_append, ← e5]; have h1 := h.nuB_size; have h2 := h.opt15 hf; omega
  have hse : z.sec.size ≤ 11 := by have := h.secLe; omega
  have hN11 : numF z 1 (mapF 1 z) 11 = bl OW := by
    rw [num11, e5, ← e9, wS_wide hrs]; rfl
  have hvO : Opt.valid (bl OW) = true := by rw [← e9]; exact valid_wS (by rw [bl_app, ← e5]; exact valid_app h.nuB_valid (extra_valid h.opt)) 15
  have hAA : bl AA = bl KW ++ (bl SW ++ (bl NU ++ bl OW)) := by
    rw [← e0]; simp only [bl_app, List.append_assoc]
  have hBB : bl BB = bl DB ++ (bl z.sex ++ (bl DE ++ (bl NW ++ bl SE))) := by
    rw [← e11]; simp only [bl_app, List.append_assoc]
  have hl0 : optF z 1 (numF z 1 (mapF 1 z)) 0 ++ (optF z 1 (numF z 1 (mapF 1 z)) 1 ++ (optF z 1 (numF z 1 (mapF 1 z)) 3 ++ (optF z 1 (numF z 1 (mapF 1 z)) 4 ++ optF z 1 (numF z 1 (mapF 1 z)) 11))) = bl AA := by
    rw [optF_at (i := 0) (by decide), optF_at (i := 1) (by decide), optF_at (i := 3) (by decide), optF_at (i := 4) (by decide), optF_at (i := 11) (by decide), hN11, numF_at (i := 0) (by decide), numF_at (i := 1) (by decide), kind_f h rfl, state_f h rfl, e1, e2, hAA, ← e4, ← num34 (F := 1) h rfl rfl]
    simp only [List.append_assoc]
  have hl1 : ∀ X, optF z 1 (numF z 1 (mapF 1 z)) 6 ++ (optF z 1 (numF z 1 (mapF 1 z)) 7 ++ (optF z 1 (numF z 1 (mapF 1 z)) 8 ++ (optF z 1 (numF z 1 (mapF 1 z)) 9 ++ (optF z 1 (numF z 1 (mapF 1 z)) 10 ++ (optF z 1 (numF z 1 (mapF 1 z)) 5 ++ (optF z 1 (numF z 1 (mapF 1 z)) 13 ++ X)))))) = bl BB ++ X := by
    intro X
    rw [optF_at (i := 6) (by decide), optF_at (i := 7) (by decide), optF_at (i := 8) (by decide), optF_at (i := 9) (by decide), optF_at (i := 10) (by decide), optF_at (i := 5) (by decide), optF_at (i := 13) (by decide),
      numF_at (i := 5) (by decide), numF_at (i := 6) (by decide), numF_at (i := 7) (by decide), numF_at (i := 8) (by decide), numF_at (i := 9) (by decide), numF_at (i := 10) (by decide), numF_at (i := 13) (by decide), nat_f h rfl, birth_f h rfl, birthD_f h rfl, sex_f h rfl, exp_f h rfl, expD_f h rfl, e8, map13]
    rw [hBB, ← e6, ← e7, ck_eq rfl, ck_eq rfl, ← e10, wS_wide hse]
    simp only [List.append_assoc]; rfl
  have hlA : (bl AA).length = 30 := by
    rw [bl_len, ← e0, ByteArray.size_append, ByteArray.size_append, ByteArray.size_append, ← e1, wS_size (by have := letters_le h.kind; omega), ← e2, wS_size (by have := letters_le h.state; omega), ← e4, h.nuA_size, ← e9, wS_size hrs]
  have hlB : (bl BB).length = 29 := by
    rw [bl_len, ← e11, ByteArray.size_append, ByteArray.size_append, ByteArray.size_append, ByteArray.size_append, ← e6, h.db_size, sex_le h.sex, ← e7, h.de_size, ← e8, wS_size (by have := letters_le h.nat; omega), ← e10, wS_size hse]
  have hcomp : comp 1 (asm 1 (optF z 1 (numF z 1 (mapF 1 z)))) = bl (AA.extract 5 30 ++ BB.extract 0 7 ++ BB.extract 8 15 ++ BB.extract 18 29) := by
    rw [asm_1, hl0, hl1, bl_app, bl_app, bl_app, bl_extract, bl_extract, bl_extract, bl_extract, ext_len, ext_len, ext_len, ext_len]
    unfold comp
    rw [if_pos rfl]
    show (bl AA).drop 5 ++ (bl BB ++ _).take 7 ++ ((bl BB ++ _).drop 8).take 7 ++ ((bl BB ++ _).drop 18).take 11 = _
    rw [List.take_append_of_le_length (by omega), List.drop_append_of_le_length (by omega), List.drop_append_of_le_length (by omega), List.take_append_of_le_length (by rw [List.length_drop]; omega), List.take_append_of_le_length (by rw [List.length_drop]; omega),
      List.take_of_length_le (l := (bl AA).drop 5) (by rw [List.length_drop]; omega)]
    rfl
  have h14 : bldF 1 z 14 = bl DG := by
    show endF 1 (optF z 1 (numF z 1 (mapF 1 z))) 14 = _
    unfold endF
    rw [upd_same, show wd 1 14 = 1 from rfl, ← show dgl (comp 1 (asm 1 (optF z 1 (numF z 1 (mapF 1 z))))) = (Opt.digS ⟨(comp 1 (asm 1 (optF z 1 (numF z 1 (mapF 1 z))))).toArray⟩).data.toList from rfl, hcomp, ← dgl_eq rfl, e12, wide_full]
    rw [bl_len, ← e12, digS_ok]
    have hvA : Opt.valid (bl AA) = true := by
      rw [hAA]
      exact valid_app (e1 ▸ valid_wS (letters_valid h.kind) 2) (valid_app (e2 ▸ valid_wS (letters_valid h.state) 3) (valid_app (e4 ▸ h.nuA_valid) hvO))
    have hvB : Opt.valid (bl BB) = true := by
      rw [hBB]
      exact valid_app (e6 ▸ ck_valid (birth_valid h.birth)) (valid_app (sex_valid h.sex) (valid_app (e7 ▸ ck_valid (exp_valid h.exp)) (valid_app (e8 ▸ valid_wS (letters_valid h.nat) 3) (e10 ▸ valid_wS (extra_valid h.sec) 11))))
    rw [bl_app, bl_app, bl_app, bl_extract, bl_extract, bl_extract, bl_extract, ext_len, ext_len, ext_len, ext_len]
    exact valid_app (valid_app (valid_app (valid_takeN (valid_dropN hvA _) _) (valid_takeN (valid_dropN hvB _) _)) (valid_takeN (valid_dropN hvB _) _)) (valid_takeN (valid_dropN hvB _) _)
  have hb : ∀ i, i ≠ 14 → bldF 1 z i = optF z 1 (numF z 1 (mapF 1 z)) i := fun i hi => endF_at hi
  unfold bldK bld
  rw [eF, asm_1, hb 0 (by decide), hb 1 (by decide), hb 3 (by decide), hb 4 (by decide), hb 11 (by decide), hl0, hb 5 (by decide), hb 6 (by decide), hb 7 (by decide), hb 8 (by decide), hb 9 (by decide), hb 10 (by decide), hb 13 (by decide), hl1, h14,
    bldF_at (i := 2) (by decide), names_f h 30 rfl (by decide)]
  have l0 : (⟨(bl AA).toArray⟩ : ByteArray) = AA := bl_ext rfl
  have l1 : (⟨(bl BB ++ bl DG).toArray⟩ : ByteArray) = BB ++ DG := bl_ext (by rw [bl_app])
  rw [List.map_cons, List.map_cons, List.map_cons, List.map_nil, l0, l1, ← e3]; rfl
end Zn
end Go.Proofs.YtelngghecmkipaaGreatDoor

namespace Go.Proofs.YtelngghecmkipaaGreatDoor
open Go.RowKit

theorem eq2 {a b : Nat} (h : a = b) : b ≤ a ∧ a ≤ b := ⟨by omega, by omega⟩
theorem below_undrew2 {w w' : World} (h : Below w.drew.heap.size w.drew w') : Below w.heap.size w w' := ((Below.refl w.heap.size w).drew).trans h
def ZCells (z : Zn.Z) (f : Int) (g : Nat) (W : World) : Prop := W.cell? ⟨g, 0, none⟩ = some (.int .i64 f) ∧ W.cell? ⟨g, 1, none⟩ = some (.string z.kind) ∧ W.cell? ⟨g, 2, none⟩ = some (.string z.state) ∧ W.cell? ⟨g, 3, none⟩ = some (.string z.sur) ∧ W.cell? ⟨g, 4, none⟩ = some (.string z.giv) ∧ W.cell? ⟨g, 5, none⟩ = some (.string z.num) ∧ W.cell? ⟨g, 6, none⟩ = some (.string z.nat) ∧ W.cell? ⟨g, 7, none⟩ = some (.string z.birth) ∧ W.cell? ⟨g, 8, none⟩ = some (.string z.sex) ∧ W.cell? ⟨g, 9, none⟩ = some (.string z.exp) ∧ W.cell? ⟨g, 10, none⟩ = some (.string z.opt) ∧ W.cell? ⟨g, 11, none⟩ = some (.string z.sec)
theorem zbox_new_at (w : World) (z : Zn.Z) (f : Int) (hf : z.fmt = f) : ZCells z f w.heap.size (w.alloc (.cells #[.int .i64 f, .string z.kind, .string z.state, .string z.sur, .string z.giv, .string z.num, .string z.nat, .string z.birth, .string z.sex, .string z.exp, .string z.opt, .string z.sec] 24)) := by
  subst hf
  exact (ZBox.new w z).cells
theorem zcells_later {w w' : World} {z : Zn.Z} {f : Int} {g : Nat} (hb : Below w.heap.size w w') (h : ZCells z f g w) : ZCells z f g w' := ⟨cell_later hb h.1, cell_later hb h.2.1, cell_later hb h.2.2.1, cell_later hb h.2.2.2.1, cell_later hb h.2.2.2.2.1, cell_later hb h.2.2.2.2.2.1, cell_later hb h.2.2.2.2.2.2.1, cell_later hb h.2.2.2.2.2.2.2.1, cell_later hb h.2.2.2.2.2.2.2.2.1, cell_later hb h.2.2.2.2.2.2.2.2.2.1, cell_later hb h.2.2.2.2.2.2.2.2.2.2.1, cell_later hb h.2.2.2.2.2.2.2.2.2.2.2⟩
theorem zcells_lt {w : World} {z : Zn.Z} {f : Int} {g : Nat} (h : ZCells z f g w) : g < w.heap.size := World.block_lt_of_cell? _ _ h.1
theorem zcells_set {w : World} {z : Zn.Z} {f : Int} {g : Nat} (h : ZCells z f g w) {p : Addr} (hp : g ≠ p.block) (v : Value) : ZCells z f g (w.setCell p v) :=
  have e : ∀ i, (w.setCell p v).cell? ⟨g, i, none⟩ = w.cell? ⟨g, i, none⟩ := fun i => World.cell?_of_block (a := ⟨g, i, none⟩) (Below.heap_setCell _ _ _ _ hp)
  ⟨(e 0).trans h.1, (e 1).trans h.2.1, (e 2).trans h.2.2.1, (e 3).trans h.2.2.2.1, (e 4).trans h.2.2.2.2.1, (e 5).trans h.2.2.2.2.2.1, (e 6).trans h.2.2.2.2.2.2.1, (e 7).trans h.2.2.2.2.2.2.2.1, (e 8).trans h.2.2.2.2.2.2.2.2.1, (e 9).trans h.2.2.2.2.2.2.2.2.2.1, (e 10).trans h.2.2.2.2.2.2.2.2.2.2.1, (e 11).trans h.2.2.2.2.2.2.2.2.2.2.2⟩
theorem row_later2 {w w' : World} {g : Nat} {o : Obj} (hb : Below w.heap.size w w') (hg : g < w.heap.size) (h : w.heap[g]? = some o) : w'.heap[g]? = some o := (hb.block g hg).trans h
theorem days_done (DB DE : ByteArray) {w W : World} {z : Zn.Z} {f : Int} {g1 g2 : Nat} (hz : ZCells z f g1 W) (h12 : g1 < g2) (hw : w.heap.size ≤ g2) (hr : W.heap[g2]? = some (.cells #[.string ⟨#[]⟩, .string ⟨#[]⟩] 82 (0, 0))) (hb : Below w.heap.size w W) :
    let W' := (W.setCell ⟨g2, 0, none⟩ (.string DB)).setCell ⟨g2, 1, none⟩ (.string DE)
    ZCells z f g1 W' ∧ W'.cell? ⟨g2, 0, none⟩ = some (.string DB) ∧ W'.cell? ⟨g2, 1, none⟩ = some (.string DE) ∧ Below w.heap.size w W' := by
  have hne : g1 ≠ g2 := by omega
  have h1 := heap_setCell_same W g2 0 _ _ (.string DB) hr
  have h2 := heap_setCell_same (W.setCell ⟨g2, 0, none⟩ (.string DB)) g2 1 _ _ (.string DE) h1
  refine ⟨zcells_set (zcells_set hz hne _) hne _, ?_, ?_, (hb.setCell (p := ⟨g2, 0, none⟩) hw _).setCell (p := ⟨g2, 1, none⟩) hw _⟩
  · rw [cell_of_row _ g2 0 _ _ _ h2]; rfl
  · rw [cell_of_row _ g2 1 _ _ _ h2]; rfl
def ZDays (z : Zn.Z) (f : Int) (g1 g2 : Nat) (DB DE : ByteArray) (W : World) : Prop := W.cell? ⟨g1, 0, none⟩ = some (.int .i64 f) ∧ W.cell? ⟨g1, 1, none⟩ = some (.string z.kind) ∧ W.cell? ⟨g1, 2, none⟩ = some (.string z.state) ∧ W.cell? ⟨g1, 3, none⟩ = some (.string z.sur) ∧ W.cell? ⟨g1, 4, none⟩ = some (.string z.giv) ∧ W.cell? ⟨g1, 5, none⟩ = some (.string z.num) ∧ W.cell? ⟨g1, 6, none⟩ = some (.string z.nat) ∧ W.cell? ⟨g1, 7, none⟩ = some (.string z.birth) ∧ W.cell? ⟨g1, 8, none⟩ = some (.string z.sex) ∧ W.cell? ⟨g1, 9, none⟩ = some (.string z.exp) ∧ W.cell? ⟨g1, 10, none⟩ = some (.string z.opt) ∧ W.cell? ⟨g1, 11, none⟩ = some (.string z.sec) ∧ W.cell? ⟨g2, 0, none⟩ = some (.string DB) ∧ W.cell? ⟨g2, 1, none⟩ = some (.string DE)
theorem zdays_mk {z : Zn.Z} {f : Int} {g1 g2 : Nat} {DB DE : ByteArray} {W : World} (h : ZCells z f g1 W) (h0 : W.cell? ⟨g2, 0, none⟩ = some (.string DB)) (h1 : W.cell? ⟨g2, 1, none⟩ = some (.string DE)) : ZDays z f g1 g2 DB DE W := ⟨h.1, h.2.1, h.2.2.1, h.2.2.2.1, h.2.2.2.2.1, h.2.2.2.2.2.1, h.2.2.2.2.2.2.1, h.2.2.2.2.2.2.2.1, h.2.2.2.2.2.2.2.2.1, h.2.2.2.2.2.2.2.2.2.1, h.2.2.2.2.2.2.2.2.2.2.1, h.2.2.2.2.2.2.2.2.2.2.2, h0, h1⟩
theorem zdays_later {w w' : World} {z : Zn.Z} {f : Int} {g1 g2 : Nat} {DB DE : ByteArray} (hb : Below w.heap.size w w') (h : ZDays z f g1 g2 DB DE w) : ZDays z f g1 g2 DB DE w' := ⟨cell_later hb h.1, cell_later hb h.2.1, cell_later hb h.2.2.1, cell_later hb h.2.2.2.1, cell_later hb h.2.2.2.2.1, cell_later hb h.2.2.2.2.2.1, cell_later hb h.2.2.2.2.2.2.1, cell_later hb h.2.2.2.2.2.2.2.1, cell_later hb h.2.2.2.2.2.2.2.2.1, cell_later hb h.2.2.2.2.2.2.2.2.2.1, cell_later hb h.2.2.2.2.2.2.2.2.2.2.1, cell_later hb h.2.2.2.2.2.2.2.2.2.2.2.1, cell_later hb h.2.2.2.2.2.2.2.2.2.2.2.2.1, cell_later hb h.2.2.2.2.2.2.2.2.2.2.2.2.2⟩
theorem rbuild_two {w W : World} {z : Zn.Z} (a b : ByteArray) (hb : Below w.heap.size w W) (h : Zn.bldK z = [a, b]) :
    (W.alloc (.cells #[.string a, .string b] 9)).ownsRow w.heap.size 9 1 (.slice (some ⟨W.heap.size, 0, none⟩) 2 2) (Zn.bldK z).length ((Zn.bldK z).map .string) ∧ Below w.heap.size w (W.alloc (.cells #[.string a, .string b] 9)) := by
  rw [h]
  exact ⟨ownsRow_base (World.ownsRow_lit (base := W.heap.size) W #[.string a, .string b] 2 (Nat.le_refl _) (by unfold maxLen; omega) rfl) hb.size, hb.trans ((below_alloc1 W _).mono hb.size)⟩
theorem rbuild_three {w W : World} {z : Zn.Z} (a b c : ByteArray) (hb : Below w.heap.size w W) (h : Zn.bldK z = [a, b, c]) :
    (W.alloc (.cells #[.string a, .string b, .string c] 9)).ownsRow w.heap.size 9 1 (.slice (some ⟨W.heap.size, 0, none⟩) 3 3) (Zn.bldK z).length ((Zn.bldK z).map .string) ∧ Below w.heap.size w (W.alloc (.cells #[.string a, .string b, .string c] 9)) := by
  rw [h]
  exact ⟨ownsRow_base (World.ownsRow_lit (base := W.heap.size) W #[.string a, .string b, .string c] 3 (Nat.le_refl _) (by unfold maxLen; omega) rfl) hb.size, hb.trans ((below_alloc1 W _).mono hb.size)⟩
set_option maxRecDepth 100000 in
set_option maxHeartbeats 16000000 in
theorem rbuild_ok (z : Zn.Z) (f : Int) (w : World) (hf : z.fmt = f) (hv : Zn.vldE z = 0) (hab : z.sur.size + z.giv.size ≤ 140737488355000) (hvl : ∀ W, Calls Tryz.prog 24 #[.agg #[.int .i64 f, .string z.kind, .string z.state, .string z.sur, .string z.giv, .string z.num, .string z.nat, .string z.birth, .string z.sex, .string z.exp, .string z.opt, .string z.sec]] W fun e w' => e = .returned (.int .i64 0) ∧ Below W.heap.size W w') :
    Calls Tryz.prog 20 #[.agg #[.int .i64 f, .string z.kind, .string z.state, .string z.sur, .string z.giv, .string z.num, .string z.nat, .string z.birth, .string z.sex, .string z.exp, .string z.opt, .string z.sec]] w (BldPost z w) := by
  have HGD := Lib.hid (Zn.good_of hv)
  have HKW := Lib.hid (fun W => rwideS z.kind 2 W (by omega))
  obtain ⟨KW, hKW⟩ : ∃ q : ByteArray, Zn.wS z.kind 2 = q := ⟨_, rfl⟩
  rw [hKW] at HKW
  have E_KW := Lib.hid hKW
  have zKW : 2 ≤ KW.size ∧ KW.size ≤ 2 := eq2 (by rw [← hKW]; exact Zn.wS_size (by have := Zn.letters_le HGD.out.kind; omega))
  have HSW := Lib.hid (fun W => rwideS z.state 3 W (by omega))
  obtain ⟨SW, hSW⟩ : ∃ q : ByteArray, Zn.wS z.state 3 = q := ⟨_, rfl⟩
  rw [hSW] at HSW
  have E_SW := Lib.hid hSW
  have zSW : 3 ≤ SW.size ∧ SW.size ≤ 3 := eq2 (by rw [← hSW]; exact Zn.wS_size (by have := Zn.letters_le HGD.out.state; omega))
  have HNU := Lib.hid (fun W => rnumber z.num W (by have := HGD.out.numLe20; omega))
  obtain ⟨NU, hNU⟩ : ∃ q : ByteArray, Zn.nuA z.num = q := ⟨_, rfl⟩
  rw [hNU] at HNU
  have E_NU := Lib.hid hNU
  obtain ⟨RS, hRS⟩ : ∃ q : ByteArray, Zn.nuB z.num = q := ⟨_, rfl⟩
  rw [hRS] at HNU
  have E_RS := Lib.hid hRS
  have zNU : 10 ≤ NU.size ∧ NU.size ≤ 10 := eq2 (by rw [← hNU]; exact HGD.out.nuA_size)
  have ZRS := Lib.hid (show RS.size + z.opt.size = if 9 < z.num.size then z.num.size - 7 + z.opt.size else z.opt.size by rw [← hRS]; exact HGD.out.nuB_size)
  have HDB := Lib.hid (fun W => rchecked z.birth W (by have := Zn.birth_size HGD.out.birth; omega))
  obtain ⟨DB, hDB⟩ : ∃ q : ByteArray, Zn.ckS z.birth = q := ⟨_, rfl⟩
  rw [hDB] at HDB
  have E_DB := Lib.hid hDB
  have zDB : 7 ≤ DB.size ∧ DB.size ≤ 7 := eq2 (by rw [← hDB]; exact HGD.out.db_size)
  have HDE := Lib.hid (fun W => rchecked z.exp W (by have := Zn.prE_size HGD.out.exp; omega))
  obtain ⟨DE, hDE⟩ : ∃ q : ByteArray, Zn.ckS z.exp = q := ⟨_, rfl⟩
  rw [hDE] at HDE
  have E_DE := Lib.hid hDE
  have zDE : 7 ≤ DE.size ∧ DE.size ≤ 7 := eq2 (by rw [← hDE]; exact HGD.out.de_size)
  have HNW := Lib.hid (fun W => rwideS z.nat 3 W (by omega))
  obtain ⟨NW, hNW⟩ : ∃ q : ByteArray, Zn.wS z.nat 3 = q := ⟨_, rfl⟩
  rw [hNW] at HNW
  have E_NW := Lib.hid hNW
  have zNW : 3 ≤ NW.size ∧ NW.size ≤ 3 := eq2 (by rw [← hNW]; exact Zn.wS_size (by have := Zn.letters_le HGD.out.nat; omega))
  have zsx : z.sex.size ≤ 1 ∧ 1 ≤ z.sex.size := (by have := Zn.sex_le HGD.out.sex; omega)
  have zop := HGD.out.optLe
  have zse : z.sec.size ≤ 11 := by have := HGD.out.secLe; omega
  clear hKW hSW hNU hRS hDB hDE hNW
  have HVL := Lib.hid hvl
  have HVE := Lib.hid hv
  have HFM := Lib.hid hf
  have hb1 := below_alloc1 w (.cells #[.int .i64 f, .string z.kind, .string z.state, .string z.sur, .string z.giv, .string z.num, .string z.nat, .string z.birth, .string z.sex, .string z.exp, .string z.opt, .string z.sec] 24)
  have hbx := zbox_new_at w z f hf
  have HAB := Lib.hid hab
  clear hf hv hab hvl
  go_enter Tryz.func20, Tryz.ntmps20
  go_upto_region 1 with fail
  generalize w.alloc (.cells #[.int .i64 f, .string z.kind, .string z.state, .string z.sur, .string z.giv, .string z.num, .string z.nat, .string z.birth, .string z.sex, .string z.exp, .string z.opt, .string z.sec] 24) = w1 at hb1 hbx ⊢
  have HB1 := Lib.hid hb1; have HX := Lib.hid hbx
  clear hb1 hbx
  obtain ⟨g1, hg1⟩ : ∃ q, w.heap.size = q := ⟨_, rfl⟩
  rw [hg1] at HX ⊢
  have HG1 := Lib.hid hg1
  clear hg1
  obtain ⟨x0, x1, x2, x3, x4, x5, x6, x7, x8, x9, x10, x11⟩ := HX.out
  go_wp2_with fail
  refine (HVL.out _).mono ?_; rintro e w2 ⟨rfl, hb2⟩
  have HBL := Lib.hid (HB1.out.trans (hb2.mono HB1.out.size))
  have hHeld := zcells_later hb2 HX.out
  clear hb2 HB1 HX x0 x1 x2 x3 x4 x5 x6 x7 x8 x9 x10 x11
  have s1 : ¬ (9223372036854775807 < KW.size + SW.size) := by omega
  go_wp2_with fail
  (refine wp_region_held_drew (S := (fun W => W.cell? ⟨g1, 0, none⟩ = some (.int .i64 f) ∧ W.cell? ⟨g1, 1, none⟩ = some (.string z.kind) ∧ W.cell? ⟨g1, 2, none⟩ = some (.string z.state) ∧ W.cell? ⟨g1, 3, none⟩ = some (.string z.sur) ∧ W.cell? ⟨g1, 4, none⟩ = some (.string z.giv) ∧ W.cell? ⟨g1, 5, none⟩ = some (.string z.num) ∧ W.cell? ⟨g1, 6, none⟩ = some (.string z.nat) ∧ W.cell? ⟨g1, 7, none⟩ = some (.string z.birth) ∧ W.cell? ⟨g1, 8, none⟩ = some (.string z.sex) ∧ W.cell? ⟨g1, 9, none⟩ = some (.string z.exp) ∧ W.cell? ⟨g1, 10, none⟩ = some (.string z.opt) ∧ W.cell? ⟨g1, 11, none⟩ = some (.string z.sec))) (by kernel_rfl) (hHeld) (fun hHeld => ?_))
  ((refine tkI 0 ?_ (hy := ?_) (h := ?_); rotate_left 1; · (intro w hSw; (try dsimp only at hSw); go_simp; (try with_reducible rfl))); (try simp only [Act.put, List.setIfInBounds_toArray, List.set_cons_zero, List.set_cons_succ]))
  ((refine tkI 1 ?_ (hy := ?_) (h := ?_); rotate_left 1; · (intro w hSw; (try dsimp only at hSw); go_simp; (try with_reducible rfl))); (try simp only [Act.put, List.setIfInBounds_toArray, List.set_cons_zero, List.set_cons_succ]))
  ((refine tkI 3 ?_ (hy := ?_) (h := ?_); rotate_left 1; · (intro w hSw; (try dsimp only at hSw); go_simp; (try with_reducible rfl))); (try simp only [Act.put, List.setIfInBounds_toArray, List.set_cons_zero, List.set_cons_succ]))
  ((refine tkI 4 ?_ (hy := ?_) (h := ?_); rotate_left 1; · (intro w hSw; (try dsimp only at hSw); go_simp; (try with_reducible rfl))); (try simp only [Act.put, List.setIfInBounds_toArray, List.set_cons_zero, List.set_cons_succ]))
  (refine wpAnyH_ready (rs := [2]) (by kernel_rfl) (by simp) ?_; refine AllReadyH.cons (by simp only [List.getElem?_toArray, List.getElem?_cons_succ, List.getElem?_cons_zero]; rfl) (fun K hK => ?_) AllReadyH.nil; go_simp; go_at_call 51; refine (HKW.out _).mono ?_; rintro e w5 ⟨rfl, hb4⟩; (first | have HBN := Lib.hid (HBL.out.trans ((below_undrew2 hb4).mono HBL.out.size)) | have HBN := Lib.hid (HBL.out.trans (hb4.mono HBL.out.size))); replace HBL := HBN; clear HBN; refine hK.out _ _ (⟨cell_later hb4 hHeld.1, cell_later hb4 hHeld.2.1, cell_later hb4 hHeld.2.2.1, cell_later hb4 hHeld.2.2.2.1, cell_later hb4 hHeld.2.2.2.2.1, cell_later hb4 hHeld.2.2.2.2.2.1, cell_later hb4 hHeld.2.2.2.2.2.2.1, cell_later hb4 hHeld.2.2.2.2.2.2.2.1, cell_later hb4 hHeld.2.2.2.2.2.2.2.2.1, cell_later hb4 hHeld.2.2.2.2.2.2.2.2.2.1, cell_later hb4 hHeld.2.2.2.2.2.2.2.2.2.2.1, cell_later hb4 hHeld.2.2.2.2.2.2.2.2.2.2.2⟩) (fun hHeld => ?_); clear hK K; (try simp only [Act.put, List.setIfInBounds_toArray, List.set_cons_zero, List.set_cons_succ]))
  (refine wpAnyH_ready (rs := [5]) (by kernel_rfl) (by simp) ?_; refine AllReadyH.cons (by simp only [List.getElem?_toArray, List.getElem?_cons_succ, List.getElem?_cons_zero]; rfl) (fun K hK => ?_) AllReadyH.nil; go_simp; go_at_call 51; refine (HSW.out _).mono ?_; rintro e w5 ⟨rfl, hb4⟩; (first | have HBN := Lib.hid (HBL.out.trans ((below_undrew2 hb4).mono HBL.out.size)) | have HBN := Lib.hid (HBL.out.trans (hb4.mono HBL.out.size))); replace HBL := HBN; clear HBN; refine hK.out _ _ (⟨cell_later hb4 hHeld.1, cell_later hb4 hHeld.2.1, cell_later hb4 hHeld.2.2.1, cell_later hb4 hHeld.2.2.2.1, cell_later hb4 hHeld.2.2.2.2.1, cell_later hb4 hHeld.2.2.2.2.2.1, cell_later hb4 hHeld.2.2.2.2.2.2.1, cell_later hb4 hHeld.2.2.2.2.2.2.2.1, cell_later hb4 hHeld.2.2.2.2.2.2.2.2.1, cell_later hb4 hHeld.2.2.2.2.2.2.2.2.2.1, cell_later hb4 hHeld.2.2.2.2.2.2.2.2.2.2.1, cell_later hb4 hHeld.2.2.2.2.2.2.2.2.2.2.2⟩) (fun hHeld => ?_); clear hK K; (try simp only [Act.put, List.setIfInBounds_toArray, List.set_cons_zero, List.set_cons_succ]))
  ((refine tkI 6 ?_ (hy := ?_) (h := ?_); rotate_left 1; · (intro w hSw; (try dsimp only at hSw); go_simp; (try with_reducible rfl))); (try simp only [Act.put, List.setIfInBounds_toArray, List.set_cons_zero, List.set_cons_succ]))
  ((refine tkI 7 ?_ (hy := ?_) (h := ?_); rotate_left 1; · (intro w hSw; (try dsimp only at hSw); go_simp; (try with_reducible rfl))); (try simp only [Act.put, List.setIfInBounds_toArray, List.set_cons_zero, List.set_cons_succ]))
  (refine wpAnyH_done (by kernel_rfl) ?_ _)
  have hHeld' := hHeld
  obtain ⟨x0, x1, x2, x3, x4, x5, x6, x7, x8, x9, x10, x11⟩ := hHeld'
  go_wp2_with fail
  refine (HNU.out _).mono ?_; rintro e w5 ⟨rfl, hb4⟩; have HBN := Lib.hid (HBL.out.trans (hb4.mono HBL.out.size)); replace HBL := HBN; clear HBN
  replace hHeld := zcells_later hb4 hHeld
  clear hb4 x0 x1 x2 x3 x4 x5 x6 x7 x8 x9 x10 x11
  go_upto_region 6 with fail
  go_cut [8] from 42 to 48 (fun q W => ∃ g2, q = .pointer (some ⟨g2, 0, none⟩) ∧ ZCells z f g1 W ∧ W.cell? ⟨g2, 0, none⟩ = some (.string DB) ∧ W.cell? ⟨g2, 1, none⟩ = some (.string DE) ∧ Below w.heap.size w W)
  case first =>
    (refine wp_region_held_drew (S := (fun W => W.cell? ⟨g1, 0, none⟩ = some (.int .i64 f) ∧ W.cell? ⟨g1, 1, none⟩ = some (.string z.kind) ∧ W.cell? ⟨g1, 2, none⟩ = some (.string z.state) ∧ W.cell? ⟨g1, 3, none⟩ = some (.string z.sur) ∧ W.cell? ⟨g1, 4, none⟩ = some (.string z.giv) ∧ W.cell? ⟨g1, 5, none⟩ = some (.string z.num) ∧ W.cell? ⟨g1, 6, none⟩ = some (.string z.nat) ∧ W.cell? ⟨g1, 7, none⟩ = some (.string z.birth) ∧ W.cell? ⟨g1, 8, none⟩ = some (.string z.sex) ∧ W.cell? ⟨g1, 9, none⟩ = some (.string z.exp) ∧ W.cell? ⟨g1, 10, none⟩ = some (.string z.opt) ∧ W.cell? ⟨g1, 11, none⟩ = some (.string z.sec))) (by kernel_rfl) (hHeld) (fun hHeld => ?_))
    ((refine tkI 0 ?_ (hy := ?_) (h := ?_); rotate_left 1; · (intro w hSw; (try dsimp only at hSw); go_simp; (try with_reducible rfl))); (try simp only [Act.put, List.setIfInBounds_toArray, List.set_cons_zero, List.set_cons_succ]))
    ((refine tkI 1 ?_ (hy := ?_) (h := ?_); rotate_left 1; · (intro w hSw; (try dsimp only at hSw); go_simp; (try with_reducible rfl))); (try simp only [Act.put, List.setIfInBounds_toArray, List.set_cons_zero, List.set_cons_succ]))
    ((refine tkI 3 ?_ (hy := ?_) (h := ?_); rotate_left 1; · (intro w hSw; (try dsimp only at hSw); go_simp; (try with_reducible rfl))); (try simp only [Act.put, List.setIfInBounds_toArray, List.set_cons_zero, List.set_cons_succ]))
    ((refine tkI 4 ?_ (hy := ?_) (h := ?_); rotate_left 1; · (intro w hSw; (try dsimp only at hSw); go_simp; (try with_reducible rfl))); (try simp only [Act.put, List.setIfInBounds_toArray, List.set_cons_zero, List.set_cons_succ]))
    refine wpAnyH_ready (rs := [2, 7]) (by kernel_rfl) (by simp) ?_
    refine AllReadyH.cons (by simp only [List.getElem?_toArray, List.getElem?_cons_succ, List.getElem?_cons_zero]; rfl) (fun K hK => ?_) ?_
    · (go_simp; go_at_call 53; refine (HDB.out _).mono ?_; rintro e w5 ⟨rfl, hb4⟩; (first | have HBN := Lib.hid (HBL.out.trans ((below_undrew2 hb4).mono HBL.out.size)) | have HBN := Lib.hid (HBL.out.trans (hb4.mono HBL.out.size))); replace HBL := HBN; clear HBN)
      (refine hK.out _ _ (⟨cell_later hb4 hHeld.1, cell_later hb4 hHeld.2.1, cell_later hb4 hHeld.2.2.1, cell_later hb4 hHeld.2.2.2.1, cell_later hb4 hHeld.2.2.2.2.1, cell_later hb4 hHeld.2.2.2.2.2.1, cell_later hb4 hHeld.2.2.2.2.2.2.1, cell_later hb4 hHeld.2.2.2.2.2.2.2.1, cell_later hb4 hHeld.2.2.2.2.2.2.2.2.1, cell_later hb4 hHeld.2.2.2.2.2.2.2.2.2.1, cell_later hb4 hHeld.2.2.2.2.2.2.2.2.2.2.1, cell_later hb4 hHeld.2.2.2.2.2.2.2.2.2.2.2⟩) (fun hHeld => ?_); clear hK K; (try simp only [Act.put, List.setIfInBounds_toArray, List.set_cons_zero, List.set_cons_succ]))
      refine wpAnyH_ready (rs := [5, 7]) (by kernel_rfl) (by simp) ?_
      refine AllReadyH.cons (by simp only [List.getElem?_toArray, List.getElem?_cons_succ, List.getElem?_cons_zero]; rfl) (fun K hK => ?_) ?_
      · (go_simp; go_at_call 53; refine (HDE.out _).mono ?_; rintro e w5 ⟨rfl, hb4⟩; (first | have HBN := Lib.hid (HBL.out.trans ((below_undrew2 hb4).mono HBL.out.size)) | have HBN := Lib.hid (HBL.out.trans (hb4.mono HBL.out.size))); replace HBL := HBN; clear HBN)
        (refine hK.out _ _ (⟨cell_later hb4 hHeld.1, cell_later hb4 hHeld.2.1, cell_later hb4 hHeld.2.2.1, cell_later hb4 hHeld.2.2.2.1, cell_later hb4 hHeld.2.2.2.2.1, cell_later hb4 hHeld.2.2.2.2.2.1, cell_later hb4 hHeld.2.2.2.2.2.2.1, cell_later hb4 hHeld.2.2.2.2.2.2.2.1, cell_later hb4 hHeld.2.2.2.2.2.2.2.2.1, cell_later hb4 hHeld.2.2.2.2.2.2.2.2.2.1, cell_later hb4 hHeld.2.2.2.2.2.2.2.2.2.2.1, cell_later hb4 hHeld.2.2.2.2.2.2.2.2.2.2.2⟩) (fun hHeld => ?_); clear hK K; (try simp only [Act.put, List.setIfInBounds_toArray, List.set_cons_zero, List.set_cons_succ]))
        ((refine tkI 6 ?_ (hy := ?_) (h := ?_); rotate_left 1; · (intro w hSw; (try dsimp only at hSw); go_simp; (try with_reducible rfl))); (try simp only [Act.put, List.setIfInBounds_toArray, List.set_cons_zero, List.set_cons_succ]))
        refine wpAnyH_ready (rs := [7]) (by kernel_rfl) (by simp) ?_
        refine AllReadyH.cons (by simp only [List.getElem?_toArray, List.getElem?_cons_succ, List.getElem?_cons_zero]; rfl) (fun K hK => ?_) ?_
        · (go_simp; have hba := below_alloc1 w5 (.cells #[.string ⟨#[]⟩, .string ⟨#[]⟩] 82); have hnew := heap_alloc_new w5 (.cells #[.string ⟨#[]⟩, .string ⟨#[]⟩] 82); have hsz5 := size_alloc1 w5 (.cells #[.string ⟨#[]⟩, .string ⟨#[]⟩] 82); have HOL := HBL; have HBN := Lib.hid (HBL.out.trans (hba.mono HBL.out.size)); replace HBL := HBN; clear HBN; generalize w5.alloc (.cells #[.string ⟨#[]⟩, .string ⟨#[]⟩] 82) = w6 at hba hnew hsz5 HBL ⊢; obtain ⟨g2, hg2⟩ : ∃ q, w5.heap.size = q := ⟨_, rfl⟩; have hgl : g1 < g2 := hg2 ▸ zcells_lt hHeld; have hgw : w.heap.size ≤ g2 := hg2 ▸ HOL.out.size; have hg6 : g2 < w6.heap.size := (by omega); rw [hg2] at hnew ⊢)
          (refine hK.out _ _ ((show ZCells z f g1 w6 from zcells_later (w := w5) (w' := w6) hba hHeld)) (fun hHeld => ?_); clear hK K; (try simp only [Act.put, List.setIfInBounds_toArray, List.set_cons_zero, List.set_cons_succ]))
          have hrow := hnew
          have y0 := cell_of_row w6 g2 0 _ _ _ hrow; have y1 := cell_of_row w6 g2 1 _ _ _ hrow; have f0 := frozen_of_row w6 g2 0 _ _ hrow; have f1 := frozen_of_row w6 g2 1 _ _ hrow
          have hZ : ZCells z f g1 w6 := hHeld
          have HPO := Lib.hid (days_done DB DE hZ hgl hgw hrow HBL.out)
          simp only [List.getElem?_toArray, List.getElem?_cons_zero, List.getElem?_cons_succ] at y0 y1
          refine wpAnyH_ready (rs := [8]) (by kernel_rfl) (by simp) ?_
          refine AllReadyH.cons (by simp only [List.getElem?_toArray, List.getElem?_cons_succ, List.getElem?_cons_zero]; rfl) (fun K hK => ?_) AllReadyH.nil
          go_simp
          refine hK.out _ _ HPO.out.1 (fun hHeld => ?_)
          clear hK K
          (try simp only [Act.put, List.setIfInBounds_toArray, List.set_cons_zero, List.set_cons_succ])
          (refine wpAnyH_done (by kernel_rfl) ?_ _)
          go_wp2_with fail
          go_meet
          exact ⟨g2, rfl, HPO.out⟩
        exact AllReadyH.nil
      refine AllReadyH.cons (by simp only [List.getElem?_toArray, List.getElem?_cons_succ, List.getElem?_cons_zero]; rfl) (fun K hK => ?_) ?_
      · (go_simp; have hba := below_alloc1 w5 (.cells #[.string ⟨#[]⟩, .string ⟨#[]⟩] 82); have hnew := heap_alloc_new w5 (.cells #[.string ⟨#[]⟩, .string ⟨#[]⟩] 82); have hsz5 := size_alloc1 w5 (.cells #[.string ⟨#[]⟩, .string ⟨#[]⟩] 82); have HOL := HBL; have HBN := Lib.hid (HBL.out.trans (hba.mono HBL.out.size)); replace HBL := HBN; clear HBN; generalize w5.alloc (.cells #[.string ⟨#[]⟩, .string ⟨#[]⟩] 82) = w6 at hba hnew hsz5 HBL ⊢; obtain ⟨g2, hg2⟩ : ∃ q, w5.heap.size = q := ⟨_, rfl⟩; have hgl : g1 < g2 := hg2 ▸ zcells_lt hHeld; have hgw : w.heap.size ≤ g2 := hg2 ▸ HOL.out.size; have hg6 : g2 < w6.heap.size := (by omega); rw [hg2] at hnew ⊢)
        (refine hK.out _ _ ((show ZCells z f g1 w6 from zcells_later (w := w5) (w' := w6) hba hHeld)) (fun hHeld => ?_); clear hK K; (try simp only [Act.put, List.setIfInBounds_toArray, List.set_cons_zero, List.set_cons_succ]))
        refine wpAnyH_ready (rs := [5]) (by kernel_rfl) (by simp) ?_
        refine AllReadyH.cons (by simp only [List.getElem?_toArray, List.getElem?_cons_succ, List.getElem?_cons_zero]; rfl) (fun K hK => ?_) ?_
        · (go_simp; go_at_call 53; refine (HDE.out _).mono ?_; rintro e w5 ⟨rfl, hb4⟩; (first | have HBN := Lib.hid (HBL.out.trans ((below_undrew2 hb4).mono HBL.out.size)) | have HBN := Lib.hid (HBL.out.trans (hb4.mono HBL.out.size))); replace HBL := HBN; clear HBN)
          (refine hK.out _ _ (⟨cell_later hb4 hHeld.1, cell_later hb4 hHeld.2.1, cell_later hb4 hHeld.2.2.1, cell_later hb4 hHeld.2.2.2.1, cell_later hb4 hHeld.2.2.2.2.1, cell_later hb4 hHeld.2.2.2.2.2.1, cell_later hb4 hHeld.2.2.2.2.2.2.1, cell_later hb4 hHeld.2.2.2.2.2.2.2.1, cell_later hb4 hHeld.2.2.2.2.2.2.2.2.1, cell_later hb4 hHeld.2.2.2.2.2.2.2.2.2.1, cell_later hb4 hHeld.2.2.2.2.2.2.2.2.2.2.1, cell_later hb4 hHeld.2.2.2.2.2.2.2.2.2.2.2⟩) (fun hHeld => ?_); clear hK K; (try simp only [Act.put, List.setIfInBounds_toArray, List.set_cons_zero, List.set_cons_succ]))
          ((refine tkI 6 ?_ (hy := ?_) (h := ?_); rotate_left 1; · (intro w hSw; (try dsimp only at hSw); go_simp; (try with_reducible rfl))); (try simp only [Act.put, List.setIfInBounds_toArray, List.set_cons_zero, List.set_cons_succ]))
          have hrow := row_later2 hb4 hg6 hnew
          have y0 := cell_of_row w5 g2 0 _ _ _ hrow; have y1 := cell_of_row w5 g2 1 _ _ _ hrow; have f0 := frozen_of_row w5 g2 0 _ _ hrow; have f1 := frozen_of_row w5 g2 1 _ _ hrow
          have hZ : ZCells z f g1 w5 := hHeld
          have HPO := Lib.hid (days_done DB DE hZ hgl hgw hrow HBL.out)
          simp only [List.getElem?_toArray, List.getElem?_cons_zero, List.getElem?_cons_succ] at y0 y1
          refine wpAnyH_ready (rs := [8]) (by kernel_rfl) (by simp) ?_
          refine AllReadyH.cons (by simp only [List.getElem?_toArray, List.getElem?_cons_succ, List.getElem?_cons_zero]; rfl) (fun K hK => ?_) AllReadyH.nil
          go_simp
          refine hK.out _ _ HPO.out.1 (fun hHeld => ?_)
          clear hK K
          (try simp only [Act.put, List.setIfInBounds_toArray, List.set_cons_zero, List.set_cons_succ])
          (refine wpAnyH_done (by kernel_rfl) ?_ _)
          go_wp2_with fail
          go_meet
          exact ⟨g2, rfl, HPO.out⟩
        exact AllReadyH.nil
      exact AllReadyH.nil
    refine AllReadyH.cons (by simp only [List.getElem?_toArray, List.getElem?_cons_succ, List.getElem?_cons_zero]; rfl) (fun K hK => ?_) ?_
    · (go_simp; have hba := below_alloc1 w5 (.cells #[.string ⟨#[]⟩, .string ⟨#[]⟩] 82); have hnew := heap_alloc_new w5 (.cells #[.string ⟨#[]⟩, .string ⟨#[]⟩] 82); have hsz5 := size_alloc1 w5 (.cells #[.string ⟨#[]⟩, .string ⟨#[]⟩] 82); have HOL := HBL; have HBN := Lib.hid (HBL.out.trans (hba.mono HBL.out.size)); replace HBL := HBN; clear HBN; generalize w5.alloc (.cells #[.string ⟨#[]⟩, .string ⟨#[]⟩] 82) = w6 at hba hnew hsz5 HBL ⊢; obtain ⟨g2, hg2⟩ : ∃ q, w5.heap.size = q := ⟨_, rfl⟩; have hgl : g1 < g2 := hg2 ▸ zcells_lt hHeld; have hgw : w.heap.size ≤ g2 := hg2 ▸ HOL.out.size; have hg6 : g2 < w6.heap.size := (by omega); rw [hg2] at hnew ⊢)
      (refine hK.out _ _ ((show ZCells z f g1 w6 from zcells_later (w := w5) (w' := w6) hba hHeld)) (fun hHeld => ?_); clear hK K; (try simp only [Act.put, List.setIfInBounds_toArray, List.set_cons_zero, List.set_cons_succ]))
      refine wpAnyH_ready (rs := [2]) (by kernel_rfl) (by simp) ?_
      refine AllReadyH.cons (by simp only [List.getElem?_toArray, List.getElem?_cons_succ, List.getElem?_cons_zero]; rfl) (fun K hK => ?_) ?_
      · (go_simp; go_at_call 53; refine (HDB.out _).mono ?_; rintro e w5 ⟨rfl, hb4⟩; (first | have HBN := Lib.hid (HBL.out.trans ((below_undrew2 hb4).mono HBL.out.size)) | have HBN := Lib.hid (HBL.out.trans (hb4.mono HBL.out.size))); replace HBL := HBN; clear HBN)
        (refine hK.out _ _ (⟨cell_later hb4 hHeld.1, cell_later hb4 hHeld.2.1, cell_later hb4 hHeld.2.2.1, cell_later hb4 hHeld.2.2.2.1, cell_later hb4 hHeld.2.2.2.2.1, cell_later hb4 hHeld.2.2.2.2.2.1, cell_later hb4 hHeld.2.2.2.2.2.2.1, cell_later hb4 hHeld.2.2.2.2.2.2.2.1, cell_later hb4 hHeld.2.2.2.2.2.2.2.2.1, cell_later hb4 hHeld.2.2.2.2.2.2.2.2.2.1, cell_later hb4 hHeld.2.2.2.2.2.2.2.2.2.2.1, cell_later hb4 hHeld.2.2.2.2.2.2.2.2.2.2.2⟩) (fun hHeld => ?_); clear hK K; (try simp only [Act.put, List.setIfInBounds_toArray, List.set_cons_zero, List.set_cons_succ]))
        have hg6' := Nat.lt_of_lt_of_le hg6 hb4.size; replace hnew := row_later2 hb4 hg6 hnew; replace hg6 := hg6'
        refine wpAnyH_ready (rs := [5]) (by kernel_rfl) (by simp) ?_
        refine AllReadyH.cons (by simp only [List.getElem?_toArray, List.getElem?_cons_succ, List.getElem?_cons_zero]; rfl) (fun K hK => ?_) ?_
        · (go_simp; go_at_call 53; refine (HDE.out _).mono ?_; rintro e w5 ⟨rfl, hb4⟩; (first | have HBN := Lib.hid (HBL.out.trans ((below_undrew2 hb4).mono HBL.out.size)) | have HBN := Lib.hid (HBL.out.trans (hb4.mono HBL.out.size))); replace HBL := HBN; clear HBN)
          (refine hK.out _ _ (⟨cell_later hb4 hHeld.1, cell_later hb4 hHeld.2.1, cell_later hb4 hHeld.2.2.1, cell_later hb4 hHeld.2.2.2.1, cell_later hb4 hHeld.2.2.2.2.1, cell_later hb4 hHeld.2.2.2.2.2.1, cell_later hb4 hHeld.2.2.2.2.2.2.1, cell_later hb4 hHeld.2.2.2.2.2.2.2.1, cell_later hb4 hHeld.2.2.2.2.2.2.2.2.1, cell_later hb4 hHeld.2.2.2.2.2.2.2.2.2.1, cell_later hb4 hHeld.2.2.2.2.2.2.2.2.2.2.1, cell_later hb4 hHeld.2.2.2.2.2.2.2.2.2.2.2⟩) (fun hHeld => ?_); clear hK K; (try simp only [Act.put, List.setIfInBounds_toArray, List.set_cons_zero, List.set_cons_succ]))
          ((refine tkI 6 ?_ (hy := ?_) (h := ?_); rotate_left 1; · (intro w hSw; (try dsimp only at hSw); go_simp; (try with_reducible rfl))); (try simp only [Act.put, List.setIfInBounds_toArray, List.set_cons_zero, List.set_cons_succ]))
          have hrow := row_later2 hb4 hg6 hnew
          have y0 := cell_of_row w5 g2 0 _ _ _ hrow; have y1 := cell_of_row w5 g2 1 _ _ _ hrow; have f0 := frozen_of_row w5 g2 0 _ _ hrow; have f1 := frozen_of_row w5 g2 1 _ _ hrow
          have hZ : ZCells z f g1 w5 := hHeld
          have HPO := Lib.hid (days_done DB DE hZ hgl hgw hrow HBL.out)
          simp only [List.getElem?_toArray, List.getElem?_cons_zero, List.getElem?_cons_succ] at y0 y1
          refine wpAnyH_ready (rs := [8]) (by kernel_rfl) (by simp) ?_
          refine AllReadyH.cons (by simp only [List.getElem?_toArray, List.getElem?_cons_succ, List.getElem?_cons_zero]; rfl) (fun K hK => ?_) AllReadyH.nil
          go_simp
          refine hK.out _ _ HPO.out.1 (fun hHeld => ?_)
          clear hK K
          (try simp only [Act.put, List.setIfInBounds_toArray, List.set_cons_zero, List.set_cons_succ])
          (refine wpAnyH_done (by kernel_rfl) ?_ _)
          go_wp2_with fail
          go_meet
          exact ⟨g2, rfl, HPO.out⟩
        exact AllReadyH.nil
      exact AllReadyH.nil
    exact AllReadyH.nil
  case rest =>
    obtain ⟨g2, rfl, hz, hd0, hd1, hbl⟩ := hcut
    have HBL := Lib.hid hbl
    have hHeld : ZDays z f g1 g2 DB DE wc := zdays_mk hz hd0 hd1
    clear hz hd0 hd1 hbl HDB HDE HKW HSW HNU
    have hH' := hHeld
    obtain ⟨x0, x1, x2, x3, x4, x5, x6, x7, x8, x9, x10, x11, x12, x13⟩ := hH'
    go_wp2_with fail
    refine (HNW.out _).mono ?_; rintro e w5 ⟨rfl, hb4⟩; have HBN := Lib.hid (HBL.out.trans (hb4.mono HBL.out.size)); replace HBL := HBN; clear HBN
    replace hHeld := zdays_later hb4 hHeld
    clear hb4 x0 x1 x2 x3 x4 x5 x6 x7 x8 x9 x10 x11 x12 x13
    have h3 : f = 1 ∨ f = 2 ∨ f = 3 := by have := HGD.out.fmt; rw [HFM.out] at this; omega
    rcases h3 with rfl | rfl | rfl
    · have hix : ∀ w, (Instr.index 37 (.agg #[.int .i64 0, .int .i64 30, .int .i64 31, .int .i64 39]) (.int .i64 1)).run Tryz.prog w = .ok (.int .i64 30) w := fun _ => by kernel_rfl
      have HNA := Lib.hid (fun W => rnames_any z.sur z.giv 30 W HAB.out)
      obtain ⟨nmx, hnmx⟩ : ∃ q, Opt.nmE z.sur.data.toList z.giv.data.toList 30 = q := ⟨_, rfl⟩
      rw [hnmx] at HNA
      clear hnmx
      obtain ⟨NM, hNM⟩ : ∃ q : ByteArray, (⟨(Opt.nmV z.sur.data.toList z.giv.data.toList 30).toArray⟩ : ByteArray) = q := ⟨_, rfl⟩
      rw [hNM] at HNA
      have E_NM := Lib.hid hNM
      have zNM : NM.size ≤ 30 := by rw [← hNM, arr_size]; exact nmV_len _ _ _
      clear hNM
      have hH' := hHeld
      obtain ⟨x0, x1, x2, x3, x4, x5, x6, x7, x8, x9, x10, x11, x12, x13⟩ := hH'
      go_wp2_with fail
      refine (HNA.out _).mono ?_; rintro e w5 ⟨rfl, hb4⟩; have HBN := Lib.hid (HBL.out.trans (hb4.mono HBL.out.size)); replace HBL := HBN; clear HBN
      replace hHeld := zdays_later hb4 hHeld
      clear hb4 x0 x1 x2 x3 x4 x5 x6 x7 x8 x9 x10 x11 x12 x13
      clear HNW HNA
      have zRS2 : RS.size ≤ 64 := by have := HGD.out.numLe20; have := ZRS.out; split at this <;> omega
      have HOW := Lib.hid (fun W => rwideS (RS ++ z.opt) 15 W (by omega))
      obtain ⟨OW, hOW⟩ : ∃ q : ByteArray, Zn.wS (RS ++ z.opt) 15 = q := ⟨_, rfl⟩
      rw [hOW] at HOW
      have zOW : 15 ≤ OW.size ∧ OW.size ≤ 15 := eq2 (by rw [← hOW]; exact Zn.wS_size (by rw [ByteArray.size_append]; have := HGD.out.opt15 HFM.out; have := ZRS.out; omega))
      have E_OW := Lib.hid hOW
      clear hOW
      have HSE := Lib.hid (fun W => rwideS z.sec 11 W (by omega))
      obtain ⟨SE, hSE⟩ : ∃ q : ByteArray, Zn.wS z.sec 11 = q := ⟨_, rfl⟩
      rw [hSE] at HSE
      have zSE : 11 ≤ SE.size ∧ SE.size ≤ 11 := eq2 (by rw [← hSE]; exact Zn.wS_size zse)
      have E_SE := Lib.hid hSE
      clear hSE
      have s0 : ¬ (9223372036854775807 < RS.size + z.opt.size) := by omega
      have s2 : ¬ (9223372036854775807 < KW.size + SW.size) := by omega
      have s3 : ¬ (9223372036854775807 < KW.size + SW.size + NU.size) := by omega
      have s4 : ¬ (9223372036854775807 < KW.size + SW.size + NU.size + OW.size) := by omega
      have hH' := hHeld
      obtain ⟨x0, x1, x2, x3, x4, x5, x6, x7, x8, x9, x10, x11, x12, x13⟩ := hH'
      go_wp2_with fail
      refine (HOW.out _).mono ?_; rintro e w5 ⟨rfl, hb4⟩; have HBN := Lib.hid (HBL.out.trans (hb4.mono HBL.out.size)); replace HBL := HBN; clear HBN
      replace hHeld := zdays_later hb4 hHeld
      clear hb4 x0 x1 x2 x3 x4 x5 x6 x7 x8 x9 x10 x11 x12 x13
      have hH' := hHeld
      obtain ⟨x0, x1, x2, x3, x4, x5, x6, x7, x8, x9, x10, x11, x12, x13⟩ := hH'
      go_upto_region 13 with fail
      clear s2 s3 s4 x0 x1 x2 x3 x4 x5 x6 x7 x8 x9 x10 x11 x12 x13
      obtain ⟨AA, hAA⟩ : ∃ q : ByteArray, KW ++ SW ++ NU ++ OW = q := ⟨_, rfl⟩
      rw [hAA]
      have zAA : 30 ≤ AA.size ∧ AA.size ≤ 30 := eq2 (by rw [← hAA]; simp only [ByteArray.size_append]; omega)
      have E_AA := Lib.hid hAA
      clear hAA
      have s2 : ¬ (9223372036854775807 < DB.size + z.sex.size) := by omega
      have s3 : ¬ (9223372036854775807 < DB.size + z.sex.size + DE.size) := by omega
      have s4 : ¬ (9223372036854775807 < DB.size + z.sex.size + DE.size + NW.size) := by omega
      have s5 : ¬ (9223372036854775807 < DB.size + z.sex.size + DE.size + NW.size + SE.size) := by omega
      (refine wp_region_held_drew (S := (fun W => W.cell? ⟨g1, 0, none⟩ = some (.int .i64 1) ∧ W.cell? ⟨g1, 1, none⟩ = some (.string z.kind) ∧ W.cell? ⟨g1, 2, none⟩ = some (.string z.state) ∧ W.cell? ⟨g1, 3, none⟩ = some (.string z.sur) ∧ W.cell? ⟨g1, 4, none⟩ = some (.string z.giv) ∧ W.cell? ⟨g1, 5, none⟩ = some (.string z.num) ∧ W.cell? ⟨g1, 6, none⟩ = some (.string z.nat) ∧ W.cell? ⟨g1, 7, none⟩ = some (.string z.birth) ∧ W.cell? ⟨g1, 8, none⟩ = some (.string z.sex) ∧ W.cell? ⟨g1, 9, none⟩ = some (.string z.exp) ∧ W.cell? ⟨g1, 10, none⟩ = some (.string z.opt) ∧ W.cell? ⟨g1, 11, none⟩ = some (.string z.sec) ∧ W.cell? ⟨g2, 0, none⟩ = some (.string DB) ∧ W.cell? ⟨g2, 1, none⟩ = some (.string DE))) (by kernel_rfl) (hHeld) (fun hHeld => ?_))
      ((refine tkI 0 ?_ (hy := ?_) (h := ?_); rotate_left 1; · (intro w hSw; (try dsimp only at hSw); go_simp; (try with_reducible rfl))); (try simp only [Act.put, List.setIfInBounds_toArray, List.set_cons_zero, List.set_cons_succ]))
      ((refine tkI 1 ?_ (hy := ?_) (h := ?_); rotate_left 1; · (intro w hSw; (try dsimp only at hSw); go_simp; (try with_reducible rfl))); (try simp only [Act.put, List.setIfInBounds_toArray, List.set_cons_zero, List.set_cons_succ]))
      ((refine tkI 2 ?_ (hy := ?_) (h := ?_); rotate_left 1; · (intro w hSw; (try dsimp only at hSw); go_simp; (try with_reducible rfl))); (try simp only [Act.put, List.setIfInBounds_toArray, List.set_cons_zero, List.set_cons_succ]))
      ((refine tkI 3 ?_ (hy := ?_) (h := ?_); rotate_left 1; · (intro w hSw; (try dsimp only at hSw); go_simp; (try with_reducible rfl))); (try simp only [Act.put, List.setIfInBounds_toArray, List.set_cons_zero, List.set_cons_succ]))
      ((refine tkI 4 ?_ (hy := ?_) (h := ?_); rotate_left 1; · (intro w hSw; (try dsimp only at hSw); go_simp; (try with_reducible rfl))); (try simp only [Act.put, List.setIfInBounds_toArray, List.set_cons_zero, List.set_cons_succ]))
      ((refine tkI 5 ?_ (hy := ?_) (h := ?_); rotate_left 1; · (intro w hSw; (try dsimp only at hSw); go_simp; (try with_reducible rfl))); (try simp only [Act.put, List.setIfInBounds_toArray, List.set_cons_zero, List.set_cons_succ]))
      ((refine tkI 6 ?_ (hy := ?_) (h := ?_); rotate_left 1; · (intro w hSw; (try dsimp only at hSw); go_simp; (try with_reducible rfl))); (try simp only [Act.put, List.setIfInBounds_toArray, List.set_cons_zero, List.set_cons_succ]))
      ((refine tkI 7 ?_ (hy := ?_) (h := ?_); rotate_left 1; · (intro w hSw; (try dsimp only at hSw); go_simp; (try with_reducible rfl))); (try simp only [Act.put, List.setIfInBounds_toArray, List.set_cons_zero, List.set_cons_succ]))
      ((refine tkI 8 ?_ (hy := ?_) (h := ?_); rotate_left 1; · (intro w hSw; (try dsimp only at hSw); go_simp; (try with_reducible rfl))); (try simp only [Act.put, List.setIfInBounds_toArray, List.set_cons_zero, List.set_cons_succ]))
      ((refine tkI 9 ?_ (hy := ?_) (h := ?_); rotate_left 1; · (intro w hSw; (try dsimp only at hSw); go_simp; (try with_reducible rfl))); (try simp only [Act.put, List.setIfInBounds_toArray, List.set_cons_zero, List.set_cons_succ]))
      ((refine tkI 10 ?_ (hy := ?_) (h := ?_); rotate_left 1; · (intro w hSw; (try dsimp only at hSw); go_simp; (try with_reducible rfl))); (try simp only [Act.put, List.setIfInBounds_toArray, List.set_cons_zero, List.set_cons_succ]))
      ((refine tkI 11 ?_ (hy := ?_) (h := ?_); rotate_left 1; · (intro w hSw; (try dsimp only at hSw); go_simp; (try with_reducible rfl))); (try simp only [Act.put, List.setIfInBounds_toArray, List.set_cons_zero, List.set_cons_succ]))
      (refine wpAnyH_ready (rs := [12]) (by kernel_rfl) (by simp) ?_; refine AllReadyH.cons (by simp only [List.getElem?_toArray, List.getElem?_cons_succ, List.getElem?_cons_zero]; rfl) (fun K hK => ?_) AllReadyH.nil; go_simp; go_at_call 51; refine (HSE.out _).mono ?_; rintro e w5 ⟨rfl, hb4⟩; (first | have HBN := Lib.hid (HBL.out.trans ((below_undrew2 hb4).mono HBL.out.size)) | have HBN := Lib.hid (HBL.out.trans (hb4.mono HBL.out.size))); replace HBL := HBN; clear HBN; refine hK.out _ _ (⟨cell_later hb4 hHeld.1, cell_later hb4 hHeld.2.1, cell_later hb4 hHeld.2.2.1, cell_later hb4 hHeld.2.2.2.1, cell_later hb4 hHeld.2.2.2.2.1, cell_later hb4 hHeld.2.2.2.2.2.1, cell_later hb4 hHeld.2.2.2.2.2.2.1, cell_later hb4 hHeld.2.2.2.2.2.2.2.1, cell_later hb4 hHeld.2.2.2.2.2.2.2.2.1, cell_later hb4 hHeld.2.2.2.2.2.2.2.2.2.1, cell_later hb4 hHeld.2.2.2.2.2.2.2.2.2.2.1, cell_later hb4 hHeld.2.2.2.2.2.2.2.2.2.2.2.1, cell_later hb4 hHeld.2.2.2.2.2.2.2.2.2.2.2.2.1, cell_later hb4 hHeld.2.2.2.2.2.2.2.2.2.2.2.2.2⟩) (fun hHeld => ?_); clear hK K; (try simp only [Act.put, List.setIfInBounds_toArray, List.set_cons_zero, List.set_cons_succ]))
      ((refine tkI 13 ?_ (hy := ?_) (h := ?_); rotate_left 1; · (intro w hSw; (try dsimp only at hSw); go_simp; (try with_reducible rfl))); (try simp only [Act.put, List.setIfInBounds_toArray, List.set_cons_zero, List.set_cons_succ]))
      ((refine tkI 14 ?_ (hy := ?_) (h := ?_); rotate_left 1; · (intro w hSw; (try dsimp only at hSw); go_simp; (try with_reducible rfl))); (try simp only [Act.put, List.setIfInBounds_toArray, List.set_cons_zero, List.set_cons_succ]))
      (refine wpAnyH_done (by kernel_rfl) ?_ _)
      go_upto_region 14 with fail
      clear s2 s3 s4 s5
      obtain ⟨BB, hBB⟩ : ∃ q : ByteArray, DB ++ z.sex ++ DE ++ NW ++ SE = q := ⟨_, rfl⟩
      rw [hBB]
      have zBB : 29 ≤ BB.size ∧ BB.size ≤ 29 := eq2 (by rw [← hBB]; simp only [ByteArray.size_append]; omega)
      have E_BB := Lib.hid hBB
      clear hBB
      have j30 : (30 : Int) ≤ (AA.size : Int) := by omega
      obtain ⟨P9, hP9⟩ : ∃ q, AA.extract 5 30 = q := ⟨_, rfl⟩
      have zP9 : 25 ≤ P9.size ∧ P9.size ≤ 25 := eq2 (by rw [← hP9, ByteArray.size_extract]; omega)
      have i7 : (7 : Int) ≤ (BB.size : Int) := by omega
      have i15 : (15 : Int) ≤ (BB.size : Int) := by omega
      have i29 : (29 : Int) ≤ (BB.size : Int) := by omega
      obtain ⟨P0, hP0⟩ : ∃ q, BB.extract 0 7 = q := ⟨_, rfl⟩
      have zP0 : 7 ≤ P0.size ∧ P0.size ≤ 7 := eq2 (by rw [← hP0, ByteArray.size_extract]; omega)
      obtain ⟨P1, hP1⟩ : ∃ q, BB.extract 8 15 = q := ⟨_, rfl⟩
      have zP1 : 7 ≤ P1.size ∧ P1.size ≤ 7 := eq2 (by rw [← hP1, ByteArray.size_extract]; omega)
      obtain ⟨P2, hP2⟩ : ∃ q, BB.extract 18 29 = q := ⟨_, rfl⟩
      have zP2 : 11 ≤ P2.size ∧ P2.size ≤ 11 := eq2 (by rw [← hP2, ByteArray.size_extract]; omega)
      have HDG := Lib.hid (fun W => rdigit (P9 ++ P0 ++ P1 ++ P2) W (by simp only [ByteArray.size_append]; omega))
      obtain ⟨DG, hDG⟩ : ∃ q : ByteArray, Opt.digS (P9 ++ P0 ++ P1 ++ P2) = q := ⟨_, rfl⟩
      obtain ⟨DGx, hDGx⟩ : ∃ q, Opt.digE (P9 ++ P0 ++ P1 ++ P2) = q := ⟨_, rfl⟩
      rw [hDG, hDGx] at HDG
      have zDG : DG.size ≤ 1 := by rw [← hDG]; exact digS_one _
      have E_DG := Lib.hid hDG
      clear hDG hDGx
      have s2 : ¬ (9223372036854775807 < P9.size + P0.size) := by omega
      have s3 : ¬ (9223372036854775807 < P9.size + P0.size + P1.size) := by omega
      have s4 : ¬ (9223372036854775807 < P9.size + P0.size + P1.size + P2.size) := by omega
      (refine wp_region_held_drew (S := (fun W => W.cell? ⟨g1, 0, none⟩ = some (.int .i64 1) ∧ W.cell? ⟨g1, 1, none⟩ = some (.string z.kind) ∧ W.cell? ⟨g1, 2, none⟩ = some (.string z.state) ∧ W.cell? ⟨g1, 3, none⟩ = some (.string z.sur) ∧ W.cell? ⟨g1, 4, none⟩ = some (.string z.giv) ∧ W.cell? ⟨g1, 5, none⟩ = some (.string z.num) ∧ W.cell? ⟨g1, 6, none⟩ = some (.string z.nat) ∧ W.cell? ⟨g1, 7, none⟩ = some (.string z.birth) ∧ W.cell? ⟨g1, 8, none⟩ = some (.string z.sex) ∧ W.cell? ⟨g1, 9, none⟩ = some (.string z.exp) ∧ W.cell? ⟨g1, 10, none⟩ = some (.string z.opt) ∧ W.cell? ⟨g1, 11, none⟩ = some (.string z.sec) ∧ W.cell? ⟨g2, 0, none⟩ = some (.string DB) ∧ W.cell? ⟨g2, 1, none⟩ = some (.string DE))) (by kernel_rfl) (hHeld) (fun hHeld => ?_))
      ((refine tkI 0 ?_ (hy := ?_) (h := ?_); rotate_left 1; · (intro w hSw; (try dsimp only at hSw); go_simp; (try with_reducible rfl))); (try simp only [Act.put, List.setIfInBounds_toArray, List.set_cons_zero, List.set_cons_succ]))
      ((refine tkI 1 ?_ (hy := ?_) (h := ?_); rotate_left 1; · (intro w hSw; (try dsimp only at hSw); go_simp; (try with_reducible rfl))); (try simp only [Act.put, List.setIfInBounds_toArray, List.set_cons_zero, List.set_cons_succ]))
      ((refine tkI 2 ?_ (hy := ?_) (h := ?_); rotate_left 1; · (intro w hSw; (try dsimp only at hSw); go_simp; (try with_reducible rfl))); (try simp only [Act.put, List.setIfInBounds_toArray, List.set_cons_zero, List.set_cons_succ]))
      ((refine tkI 3 ?_ (hy := ?_) (h := ?_); rotate_left 1; · (intro w hSw; (try dsimp only at hSw); go_simp; (try with_reducible rfl))); (try simp only [Act.put, List.setIfInBounds_toArray, List.set_cons_zero, List.set_cons_succ]))
      ((refine tkI 4 ?_ (hy := ?_) (h := ?_); rotate_left 1; · (intro w hSw; (try dsimp only at hSw); go_simp; (try with_reducible rfl))); (try simp only [Act.put, List.setIfInBounds_toArray, List.set_cons_zero, List.set_cons_succ]))
      ((refine tkI 5 ?_ (hy := ?_) (h := ?_); rotate_left 1; · (intro w hSw; (try dsimp only at hSw); go_simp; (try with_reducible rfl))); (try simp only [Act.put, List.setIfInBounds_toArray, List.set_cons_zero, List.set_cons_succ]))
      ((refine tkI 6 ?_ (hy := ?_) (h := ?_); rotate_left 1; · (intro w hSw; (try dsimp only at hSw); go_simp; (try with_reducible rfl))); (try simp only [Act.put, List.setIfInBounds_toArray, List.set_cons_zero, List.set_cons_succ]))
      ((refine tkI 7 ?_ (hy := ?_) (h := ?_); rotate_left 1; · (intro w hSw; (try dsimp only at hSw); go_simp; (try with_reducible rfl))); (try simp only [Act.put, List.setIfInBounds_toArray, List.set_cons_zero, List.set_cons_succ]))
      ((refine tkI 8 ?_ (hy := ?_) (h := ?_); rotate_left 1; · (intro w hSw; (try dsimp only at hSw); go_simp; (try with_reducible rfl))); (try simp only [Act.put, List.setIfInBounds_toArray, List.set_cons_zero, List.set_cons_succ]))
      ((refine tkI 9 ?_ (hy := ?_) (h := ?_); rotate_left 1; · (intro w hSw; (try dsimp only at hSw); go_simp; (try with_reducible rfl))); (try simp only [Act.put, List.setIfInBounds_toArray, List.set_cons_zero, List.set_cons_succ]))
      ((refine tkI 10 ?_ (hy := ?_) (h := ?_); rotate_left 1; · (intro w hSw; (try dsimp only at hSw); go_simp; (try with_reducible rfl))); (try simp only [Act.put, List.setIfInBounds_toArray, List.set_cons_zero, List.set_cons_succ]))
      (refine wpAnyH_ready (rs := [11]) (by kernel_rfl) (by simp) ?_; refine AllReadyH.cons (by simp only [List.getElem?_toArray, List.getElem?_cons_succ, List.getElem?_cons_zero]; rfl) (fun K hK => ?_) AllReadyH.nil; go_simp; go_at_call 55; refine (HDG.out _).mono ?_; rintro e w5 ⟨rfl, hb4⟩; (first | have HBN := Lib.hid (HBL.out.trans ((below_undrew2 hb4).mono HBL.out.size)) | have HBN := Lib.hid (HBL.out.trans (hb4.mono HBL.out.size))); replace HBL := HBN; clear HBN; refine hK.out _ _ (⟨cell_later hb4 hHeld.1, cell_later hb4 hHeld.2.1, cell_later hb4 hHeld.2.2.1, cell_later hb4 hHeld.2.2.2.1, cell_later hb4 hHeld.2.2.2.2.1, cell_later hb4 hHeld.2.2.2.2.2.1, cell_later hb4 hHeld.2.2.2.2.2.2.1, cell_later hb4 hHeld.2.2.2.2.2.2.2.1, cell_later hb4 hHeld.2.2.2.2.2.2.2.2.1, cell_later hb4 hHeld.2.2.2.2.2.2.2.2.2.1, cell_later hb4 hHeld.2.2.2.2.2.2.2.2.2.2.1, cell_later hb4 hHeld.2.2.2.2.2.2.2.2.2.2.2.1, cell_later hb4 hHeld.2.2.2.2.2.2.2.2.2.2.2.2.1, cell_later hb4 hHeld.2.2.2.2.2.2.2.2.2.2.2.2.2⟩) (fun hHeld => ?_); clear hK K; (try simp only [Act.put, List.setIfInBounds_toArray, List.set_cons_zero, List.set_cons_succ]))
      ((refine tkI 12 ?_ (hy := ?_) (h := ?_); rotate_left 1; · (intro w hSw; (try dsimp only at hSw); go_simp; (try with_reducible rfl))); (try simp only [Act.put, List.setIfInBounds_toArray, List.set_cons_zero, List.set_cons_succ]))
      ((refine tkI 13 ?_ (hy := ?_) (h := ?_); rotate_left 1; · (intro w hSw; (try dsimp only at hSw); go_simp; (try with_reducible rfl))); (try simp only [Act.put, List.setIfInBounds_toArray, List.set_cons_zero, List.set_cons_succ]))
      ((refine tkI 14 ?_ (hy := ?_) (h := ?_); rotate_left 1; · (intro w hSw; (try dsimp only at hSw); go_simp; (try with_reducible rfl))); (try simp only [Act.put, List.setIfInBounds_toArray, List.set_cons_zero, List.set_cons_succ]))
      ((refine tkI 15 ?_ (hy := ?_) (h := ?_); rotate_left 1; · (intro w hSw; (try dsimp only at hSw); go_simp; (try with_reducible rfl))); (try simp only [Act.put, List.setIfInBounds_toArray, List.set_cons_zero, List.set_cons_succ]))
      ((refine tkI 16 ?_ (hy := ?_) (h := ?_); rotate_left 1; · (intro w hSw; (try dsimp only at hSw); go_simp; (try with_reducible rfl))); (try simp only [Act.put, List.setIfInBounds_toArray, List.set_cons_zero, List.set_cons_succ]))
      (refine wpAnyH_done (by kernel_rfl) ?_ _)
      clear s2 s3 s4
      clear i7 i15 i29
      have E_P0 := Lib.hid hP0; have E_P1 := Lib.hid hP1; have E_P2 := Lib.hid hP2
      clear hP0 hP1 hP2
      have E_P9 := Lib.hid hP9
      clear hP9 j30
      have t2 : ¬ (9223372036854775807 < BB.size + DG.size) := by omega
      go_wp2_with fail
      have HPO := Lib.hid (rbuild_three AA (BB ++ DG) NM HBL.out (Zn.rbld_1 HGD.out HFM.out E_KW.out E_SW.out E_NM.out E_NU.out E_RS.out E_DB.out E_DE.out E_NW.out E_OW.out E_SE.out E_AA.out E_BB.out (by rw [E_P9.out, E_P0.out, E_P1.out, E_P2.out]; exact E_DG.out)))
      go_ret2
      exact BldPost.yes HVE.out HPO.out.1 HPO.out.2
    · have hix : ∀ w, (Instr.index 37 (.agg #[.int .i64 0, .int .i64 30, .int .i64 31, .int .i64 39]) (.int .i64 2)).run Tryz.prog w = .ok (.int .i64 31) w := fun _ => by kernel_rfl
      have HNA := Lib.hid (fun W => rnames_any z.sur z.giv 31 W HAB.out)
      obtain ⟨nmx, hnmx⟩ : ∃ q, Opt.nmE z.sur.data.toList z.giv.data.toList 31 = q := ⟨_, rfl⟩
      rw [hnmx] at HNA
      clear hnmx
      obtain ⟨NM, hNM⟩ : ∃ q : ByteArray, (⟨(Opt.nmV z.sur.data.toList z.giv.data.toList 31).toArray⟩ : ByteArray) = q := ⟨_, rfl⟩
      rw [hNM] at HNA
      have E_NM := Lib.hid hNM
      have zNM : NM.size ≤ 31 := by rw [← hNM, arr_size]; exact nmV_len _ _ _
      clear hNM
      have hH' := hHeld
      obtain ⟨x0, x1, x2, x3, x4, x5, x6, x7, x8, x9, x10, x11, x12, x13⟩ := hH'
      go_wp2_with fail
      refine (HNA.out _).mono ?_; rintro e w5 ⟨rfl, hb4⟩; have HBN := Lib.hid (HBL.out.trans (hb4.mono HBL.out.size)); replace HBL := HBN; clear HBN
      replace hHeld := zdays_later hb4 hHeld
      clear hb4 x0 x1 x2 x3 x4 x5 x6 x7 x8 x9 x10 x11 x12 x13
      clear HNW HNA
      have HOW := Lib.hid (fun W => rwideS (RS ++ z.opt) 7 W (by omega))
      obtain ⟨OW, hOW⟩ : ∃ q : ByteArray, Zn.wS (RS ++ z.opt) 7 = q := ⟨_, rfl⟩
      rw [hOW] at HOW
      have zOW : 7 ≤ OW.size ∧ OW.size ≤ 7 := eq2 (by rw [← hOW]; exact Zn.wS_size (by rw [ByteArray.size_append]; have := HGD.out.opt7 HFM.out; have := ZRS.out; omega))
      have E_OW := Lib.hid hOW
      clear hOW
      have zRS2 : RS.size ≤ 64 := by have := HGD.out.numLe20; have := ZRS.out; split at this <;> omega
      have s0 : ¬ (9223372036854775807 < RS.size + z.opt.size) := by omega
      have s2 : ¬ (9223372036854775807 < NU.size + NW.size) := by omega
      have s3 : ¬ (9223372036854775807 < NU.size + NW.size + DB.size) := by omega
      have s4 : ¬ (9223372036854775807 < NU.size + NW.size + DB.size + z.sex.size) := by omega
      have s5 : ¬ (9223372036854775807 < NU.size + NW.size + DB.size + z.sex.size + DE.size) := by omega
      have s6 : ¬ (9223372036854775807 < NU.size + NW.size + DB.size + z.sex.size + DE.size + OW.size) := by omega
      have hH' := hHeld
      obtain ⟨x0, x1, x2, x3, x4, x5, x6, x7, x8, x9, x10, x11, x12, x13⟩ := hH'
      go_upto_region 17 with fail
      clear x0 x1 x2 x3 x4 x5 x6 x7 x8 x9 x10 x11 x12 x13
      (refine wp_region_held_drew (S := (fun W => W.cell? ⟨g1, 0, none⟩ = some (.int .i64 2) ∧ W.cell? ⟨g1, 1, none⟩ = some (.string z.kind) ∧ W.cell? ⟨g1, 2, none⟩ = some (.string z.state) ∧ W.cell? ⟨g1, 3, none⟩ = some (.string z.sur) ∧ W.cell? ⟨g1, 4, none⟩ = some (.string z.giv) ∧ W.cell? ⟨g1, 5, none⟩ = some (.string z.num) ∧ W.cell? ⟨g1, 6, none⟩ = some (.string z.nat) ∧ W.cell? ⟨g1, 7, none⟩ = some (.string z.birth) ∧ W.cell? ⟨g1, 8, none⟩ = some (.string z.sex) ∧ W.cell? ⟨g1, 9, none⟩ = some (.string z.exp) ∧ W.cell? ⟨g1, 10, none⟩ = some (.string z.opt) ∧ W.cell? ⟨g1, 11, none⟩ = some (.string z.sec) ∧ W.cell? ⟨g2, 0, none⟩ = some (.string DB) ∧ W.cell? ⟨g2, 1, none⟩ = some (.string DE))) (by kernel_rfl) (hHeld) (fun hHeld => ?_))
      ((refine tkI 0 ?_ (hy := ?_) (h := ?_); rotate_left 1; · (intro w hSw; (try dsimp only at hSw); go_simp; (try with_reducible rfl))); (try simp only [Act.put, List.setIfInBounds_toArray, List.set_cons_zero, List.set_cons_succ]))
      ((refine tkI 1 ?_ (hy := ?_) (h := ?_); rotate_left 1; · (intro w hSw; (try dsimp only at hSw); go_simp; (try with_reducible rfl))); (try simp only [Act.put, List.setIfInBounds_toArray, List.set_cons_zero, List.set_cons_succ]))
      ((refine tkI 2 ?_ (hy := ?_) (h := ?_); rotate_left 1; · (intro w hSw; (try dsimp only at hSw); go_simp; (try with_reducible rfl))); (try simp only [Act.put, List.setIfInBounds_toArray, List.set_cons_zero, List.set_cons_succ]))
      ((refine tkI 3 ?_ (hy := ?_) (h := ?_); rotate_left 1; · (intro w hSw; (try dsimp only at hSw); go_simp; (try with_reducible rfl))); (try simp only [Act.put, List.setIfInBounds_toArray, List.set_cons_zero, List.set_cons_succ]))
      ((refine tkI 4 ?_ (hy := ?_) (h := ?_); rotate_left 1; · (intro w hSw; (try dsimp only at hSw); go_simp; (try with_reducible rfl))); (try simp only [Act.put, List.setIfInBounds_toArray, List.set_cons_zero, List.set_cons_succ]))
      ((refine tkI 5 ?_ (hy := ?_) (h := ?_); rotate_left 1; · (intro w hSw; (try dsimp only at hSw); go_simp; (try with_reducible rfl))); (try simp only [Act.put, List.setIfInBounds_toArray, List.set_cons_zero, List.set_cons_succ]))
      ((refine tkI 6 ?_ (hy := ?_) (h := ?_); rotate_left 1; · (intro w hSw; (try dsimp only at hSw); go_simp; (try with_reducible rfl))); (try simp only [Act.put, List.setIfInBounds_toArray, List.set_cons_zero, List.set_cons_succ]))
      ((refine tkI 7 ?_ (hy := ?_) (h := ?_); rotate_left 1; · (intro w hSw; (try dsimp only at hSw); go_simp; (try with_reducible rfl))); (try simp only [Act.put, List.setIfInBounds_toArray, List.set_cons_zero, List.set_cons_succ]))
      ((refine tkI 8 ?_ (hy := ?_) (h := ?_); rotate_left 1; · (intro w hSw; (try dsimp only at hSw); go_simp; (try with_reducible rfl))); (try simp only [Act.put, List.setIfInBounds_toArray, List.set_cons_zero, List.set_cons_succ]))
      ((refine tkI 9 ?_ (hy := ?_) (h := ?_); rotate_left 1; · (intro w hSw; (try dsimp only at hSw); go_simp; (try with_reducible rfl))); (try simp only [Act.put, List.setIfInBounds_toArray, List.set_cons_zero, List.set_cons_succ]))
      ((refine tkI 10 ?_ (hy := ?_) (h := ?_); rotate_left 1; · (intro w hSw; (try dsimp only at hSw); go_simp; (try with_reducible rfl))); (try simp only [Act.put, List.setIfInBounds_toArray, List.set_cons_zero, List.set_cons_succ]))
      ((refine tkI 11 ?_ (hy := ?_) (h := ?_); rotate_left 1; · (intro w hSw; (try dsimp only at hSw); go_simp; (try with_reducible rfl))); (try simp only [Act.put, List.setIfInBounds_toArray, List.set_cons_zero, List.set_cons_succ]))
      ((refine tkI 12 ?_ (hy := ?_) (h := ?_); rotate_left 1; · (intro w hSw; (try dsimp only at hSw); go_simp; (try with_reducible rfl))); (try simp only [Act.put, List.setIfInBounds_toArray, List.set_cons_zero, List.set_cons_succ]))
      ((refine tkI 13 ?_ (hy := ?_) (h := ?_); rotate_left 1; · (intro w hSw; (try dsimp only at hSw); go_simp; (try with_reducible rfl))); (try simp only [Act.put, List.setIfInBounds_toArray, List.set_cons_zero, List.set_cons_succ]))
      ((refine tkI 14 ?_ (hy := ?_) (h := ?_); rotate_left 1; · (intro w hSw; (try dsimp only at hSw); go_simp; (try with_reducible rfl))); (try simp only [Act.put, List.setIfInBounds_toArray, List.set_cons_zero, List.set_cons_succ]))
      ((refine tkI 15 ?_ (hy := ?_) (h := ?_); rotate_left 1; · (intro w hSw; (try dsimp only at hSw); go_simp; (try with_reducible rfl))); (try simp only [Act.put, List.setIfInBounds_toArray, List.set_cons_zero, List.set_cons_succ]))
      (refine wpAnyH_ready (rs := [16]) (by kernel_rfl) (by simp) ?_; refine AllReadyH.cons (by simp only [List.getElem?_toArray, List.getElem?_cons_succ, List.getElem?_cons_zero]; rfl) (fun K hK => ?_) AllReadyH.nil; go_simp; go_at_call 51; refine (HOW.out _).mono ?_; rintro e w5 ⟨rfl, hb4⟩; (first | have HBN := Lib.hid (HBL.out.trans ((below_undrew2 hb4).mono HBL.out.size)) | have HBN := Lib.hid (HBL.out.trans (hb4.mono HBL.out.size))); replace HBL := HBN; clear HBN; refine hK.out _ _ (⟨cell_later hb4 hHeld.1, cell_later hb4 hHeld.2.1, cell_later hb4 hHeld.2.2.1, cell_later hb4 hHeld.2.2.2.1, cell_later hb4 hHeld.2.2.2.2.1, cell_later hb4 hHeld.2.2.2.2.2.1, cell_later hb4 hHeld.2.2.2.2.2.2.1, cell_later hb4 hHeld.2.2.2.2.2.2.2.1, cell_later hb4 hHeld.2.2.2.2.2.2.2.2.1, cell_later hb4 hHeld.2.2.2.2.2.2.2.2.2.1, cell_later hb4 hHeld.2.2.2.2.2.2.2.2.2.2.1, cell_later hb4 hHeld.2.2.2.2.2.2.2.2.2.2.2.1, cell_later hb4 hHeld.2.2.2.2.2.2.2.2.2.2.2.2.1, cell_later hb4 hHeld.2.2.2.2.2.2.2.2.2.2.2.2.2⟩) (fun hHeld => ?_); clear hK K; (try simp only [Act.put, List.setIfInBounds_toArray, List.set_cons_zero, List.set_cons_succ]))
      ((refine tkI 17 ?_ (hy := ?_) (h := ?_); rotate_left 1; · (intro w hSw; (try dsimp only at hSw); go_simp; (try with_reducible rfl))); (try simp only [Act.put, List.setIfInBounds_toArray, List.set_cons_zero, List.set_cons_succ]))
      ((refine tkI 18 ?_ (hy := ?_) (h := ?_); rotate_left 1; · (intro w hSw; (try dsimp only at hSw); go_simp; (try with_reducible rfl))); (try simp only [Act.put, List.setIfInBounds_toArray, List.set_cons_zero, List.set_cons_succ]))
      (refine wpAnyH_done (by kernel_rfl) ?_ _)
      go_upto_region 18 with fail
      clear s2 s3 s4 s5 s6
      obtain ⟨BB, hBB⟩ : ∃ q : ByteArray, NU ++ NW ++ DB ++ z.sex ++ DE ++ OW = q := ⟨_, rfl⟩
      rw [hBB]
      have E_BB := Lib.hid hBB
      clear hBB
      have zBB : 35 ≤ BB.size ∧ BB.size ≤ 35 := eq2 (by rw [← E_BB.out]; simp only [ByteArray.size_append]; omega)
      have i10 : (10 : Int) ≤ (BB.size : Int) := by omega
      have i20 : (20 : Int) ≤ (BB.size : Int) := by omega
      have i35 : (35 : Int) ≤ (BB.size : Int) := by omega
      obtain ⟨P0, hP0⟩ : ∃ q, BB.extract 0 10 = q := ⟨_, rfl⟩
      have zP0 : 10 ≤ P0.size ∧ P0.size ≤ 10 := eq2 (by rw [← hP0, ByteArray.size_extract]; omega)
      obtain ⟨P1, hP1⟩ : ∃ q, BB.extract 13 20 = q := ⟨_, rfl⟩
      have zP1 : 7 ≤ P1.size ∧ P1.size ≤ 7 := eq2 (by rw [← hP1, ByteArray.size_extract]; omega)
      obtain ⟨P2, hP2⟩ : ∃ q, BB.extract 21 35 = q := ⟨_, rfl⟩
      have zP2 : 14 ≤ P2.size ∧ P2.size ≤ 14 := eq2 (by rw [← hP2, ByteArray.size_extract]; omega)
      have HDG := Lib.hid (fun W => rdigit (P0 ++ P1 ++ P2) W (by simp only [ByteArray.size_append]; omega))
      obtain ⟨DG, hDG⟩ : ∃ q : ByteArray, Opt.digS (P0 ++ P1 ++ P2) = q := ⟨_, rfl⟩
      obtain ⟨DGx, hDGx⟩ : ∃ q, Opt.digE (P0 ++ P1 ++ P2) = q := ⟨_, rfl⟩
      rw [hDG, hDGx] at HDG
      have zDG : DG.size ≤ 1 := by rw [← hDG]; exact digS_one _
      have E_DG := Lib.hid hDG
      clear hDG hDGx
      have s2 : ¬ (9223372036854775807 < P0.size + P1.size) := by omega
      have s3 : ¬ (9223372036854775807 < P0.size + P1.size + P2.size) := by omega
      (refine wp_region_held_drew (S := (fun W => W.cell? ⟨g1, 0, none⟩ = some (.int .i64 2) ∧ W.cell? ⟨g1, 1, none⟩ = some (.string z.kind) ∧ W.cell? ⟨g1, 2, none⟩ = some (.string z.state) ∧ W.cell? ⟨g1, 3, none⟩ = some (.string z.sur) ∧ W.cell? ⟨g1, 4, none⟩ = some (.string z.giv) ∧ W.cell? ⟨g1, 5, none⟩ = some (.string z.num) ∧ W.cell? ⟨g1, 6, none⟩ = some (.string z.nat) ∧ W.cell? ⟨g1, 7, none⟩ = some (.string z.birth) ∧ W.cell? ⟨g1, 8, none⟩ = some (.string z.sex) ∧ W.cell? ⟨g1, 9, none⟩ = some (.string z.exp) ∧ W.cell? ⟨g1, 10, none⟩ = some (.string z.opt) ∧ W.cell? ⟨g1, 11, none⟩ = some (.string z.sec) ∧ W.cell? ⟨g2, 0, none⟩ = some (.string DB) ∧ W.cell? ⟨g2, 1, none⟩ = some (.string DE))) (by kernel_rfl) (hHeld) (fun hHeld => ?_))
      ((refine tkI 0 ?_ (hy := ?_) (h := ?_); rotate_left 1; · (intro w hSw; (try dsimp only at hSw); go_simp; (try with_reducible rfl))); (try simp only [Act.put, List.setIfInBounds_toArray, List.set_cons_zero, List.set_cons_succ]))
      ((refine tkI 1 ?_ (hy := ?_) (h := ?_); rotate_left 1; · (intro w hSw; (try dsimp only at hSw); go_simp; (try with_reducible rfl))); (try simp only [Act.put, List.setIfInBounds_toArray, List.set_cons_zero, List.set_cons_succ]))
      ((refine tkI 2 ?_ (hy := ?_) (h := ?_); rotate_left 1; · (intro w hSw; (try dsimp only at hSw); go_simp; (try with_reducible rfl))); (try simp only [Act.put, List.setIfInBounds_toArray, List.set_cons_zero, List.set_cons_succ]))
      ((refine tkI 3 ?_ (hy := ?_) (h := ?_); rotate_left 1; · (intro w hSw; (try dsimp only at hSw); go_simp; (try with_reducible rfl))); (try simp only [Act.put, List.setIfInBounds_toArray, List.set_cons_zero, List.set_cons_succ]))
      ((refine tkI 4 ?_ (hy := ?_) (h := ?_); rotate_left 1; · (intro w hSw; (try dsimp only at hSw); go_simp; (try with_reducible rfl))); (try simp only [Act.put, List.setIfInBounds_toArray, List.set_cons_zero, List.set_cons_succ]))
      ((refine tkI 5 ?_ (hy := ?_) (h := ?_); rotate_left 1; · (intro w hSw; (try dsimp only at hSw); go_simp; (try with_reducible rfl))); (try simp only [Act.put, List.setIfInBounds_toArray, List.set_cons_zero, List.set_cons_succ]))
      ((refine tkI 6 ?_ (hy := ?_) (h := ?_); rotate_left 1; · (intro w hSw; (try dsimp only at hSw); go_simp; (try with_reducible rfl))); (try simp only [Act.put, List.setIfInBounds_toArray, List.set_cons_zero, List.set_cons_succ]))
      ((refine tkI 7 ?_ (hy := ?_) (h := ?_); rotate_left 1; · (intro w hSw; (try dsimp only at hSw); go_simp; (try with_reducible rfl))); (try simp only [Act.put, List.setIfInBounds_toArray, List.set_cons_zero, List.set_cons_succ]))
      (refine wpAnyH_ready (rs := [8]) (by kernel_rfl) (by simp) ?_; refine AllReadyH.cons (by simp only [List.getElem?_toArray, List.getElem?_cons_succ, List.getElem?_cons_zero]; rfl) (fun K hK => ?_) AllReadyH.nil; go_simp; go_at_call 55; refine (HDG.out _).mono ?_; rintro e w5 ⟨rfl, hb4⟩; (first | have HBN := Lib.hid (HBL.out.trans ((below_undrew2 hb4).mono HBL.out.size)) | have HBN := Lib.hid (HBL.out.trans (hb4.mono HBL.out.size))); replace HBL := HBN; clear HBN; refine hK.out _ _ (⟨cell_later hb4 hHeld.1, cell_later hb4 hHeld.2.1, cell_later hb4 hHeld.2.2.1, cell_later hb4 hHeld.2.2.2.1, cell_later hb4 hHeld.2.2.2.2.1, cell_later hb4 hHeld.2.2.2.2.2.1, cell_later hb4 hHeld.2.2.2.2.2.2.1, cell_later hb4 hHeld.2.2.2.2.2.2.2.1, cell_later hb4 hHeld.2.2.2.2.2.2.2.2.1, cell_later hb4 hHeld.2.2.2.2.2.2.2.2.2.1, cell_later hb4 hHeld.2.2.2.2.2.2.2.2.2.2.1, cell_later hb4 hHeld.2.2.2.2.2.2.2.2.2.2.2.1, cell_later hb4 hHeld.2.2.2.2.2.2.2.2.2.2.2.2.1, cell_later hb4 hHeld.2.2.2.2.2.2.2.2.2.2.2.2.2⟩) (fun hHeld => ?_); clear hK K; (try simp only [Act.put, List.setIfInBounds_toArray, List.set_cons_zero, List.set_cons_succ]))
      ((refine tkI 9 ?_ (hy := ?_) (h := ?_); rotate_left 1; · (intro w hSw; (try dsimp only at hSw); go_simp; (try with_reducible rfl))); (try simp only [Act.put, List.setIfInBounds_toArray, List.set_cons_zero, List.set_cons_succ]))
      ((refine tkI 10 ?_ (hy := ?_) (h := ?_); rotate_left 1; · (intro w hSw; (try dsimp only at hSw); go_simp; (try with_reducible rfl))); (try simp only [Act.put, List.setIfInBounds_toArray, List.set_cons_zero, List.set_cons_succ]))
      ((refine tkI 11 ?_ (hy := ?_) (h := ?_); rotate_left 1; · (intro w hSw; (try dsimp only at hSw); go_simp; (try with_reducible rfl))); (try simp only [Act.put, List.setIfInBounds_toArray, List.set_cons_zero, List.set_cons_succ]))
      ((refine tkI 12 ?_ (hy := ?_) (h := ?_); rotate_left 1; · (intro w hSw; (try dsimp only at hSw); go_simp; (try with_reducible rfl))); (try simp only [Act.put, List.setIfInBounds_toArray, List.set_cons_zero, List.set_cons_succ]))
      ((refine tkI 13 ?_ (hy := ?_) (h := ?_); rotate_left 1; · (intro w hSw; (try dsimp only at hSw); go_simp; (try with_reducible rfl))); (try simp only [Act.put, List.setIfInBounds_toArray, List.set_cons_zero, List.set_cons_succ]))
      (refine wpAnyH_done (by kernel_rfl) ?_ _)
      clear s2 s3
      clear i10 i20 i35
      have E_P0 := Lib.hid hP0; have E_P1 := Lib.hid hP1; have E_P2 := Lib.hid hP2
      clear hP0 hP1 hP2
      have t1 : ¬ (9223372036854775807 < KW.size + SW.size + NM.size) := by omega
      have t2 : ¬ (9223372036854775807 < BB.size + DG.size) := by omega
      go_wp2_with fail
      have HPO := Lib.hid (rbuild_two (KW ++ SW ++ NM) (BB ++ DG) HBL.out (Zn.rbld_2 HGD.out HFM.out E_KW.out E_SW.out E_NM.out E_NU.out E_RS.out E_DB.out E_DE.out E_NW.out E_OW.out E_BB.out (by rw [E_P0.out, E_P1.out, E_P2.out]; exact E_DG.out)))
      go_ret2
      exact BldPost.yes HVE.out HPO.out.1 HPO.out.2
    · have hix : ∀ w, (Instr.index 37 (.agg #[.int .i64 0, .int .i64 30, .int .i64 31, .int .i64 39]) (.int .i64 3)).run Tryz.prog w = .ok (.int .i64 39) w := fun _ => by kernel_rfl
      have HNA := Lib.hid (fun W => rnames_any z.sur z.giv 39 W HAB.out)
      obtain ⟨nmx, hnmx⟩ : ∃ q, Opt.nmE z.sur.data.toList z.giv.data.toList 39 = q := ⟨_, rfl⟩
      rw [hnmx] at HNA
      clear hnmx
      obtain ⟨NM, hNM⟩ : ∃ q : ByteArray, (⟨(Opt.nmV z.sur.data.toList z.giv.data.toList 39).toArray⟩ : ByteArray) = q := ⟨_, rfl⟩
      rw [hNM] at HNA
      have E_NM := Lib.hid hNM
      have zNM : NM.size ≤ 39 := by rw [← hNM, arr_size]; exact nmV_len _ _ _
      clear hNM
      have hH' := hHeld
      obtain ⟨x0, x1, x2, x3, x4, x5, x6, x7, x8, x9, x10, x11, x12, x13⟩ := hH'
      go_wp2_with fail
      refine (HNA.out _).mono ?_; rintro e w5 ⟨rfl, hb4⟩; have HBN := Lib.hid (HBL.out.trans (hb4.mono HBL.out.size)); replace HBL := HBN; clear HBN
      replace hHeld := zdays_later hb4 hHeld
      clear hb4 x0 x1 x2 x3 x4 x5 x6 x7 x8 x9 x10 x11 x12 x13
      clear HNW HNA
      have hOO : ∃ q : ByteArray, (if z.opt.size = 0 then (⟨#[60]⟩ : ByteArray) else Opt.digS (Zn.wS z.opt 14)) = q := ⟨_, rfl⟩
      obtain ⟨OO, hOO⟩ := hOO
      have zOO : OO.size ≤ 1 := by rw [← hOO]; split <;> first | decide | exact digS_one _
      have E_OO := Lib.hid hOO
      clear hOO
      have HOW := Lib.hid (fun W => rwideS z.opt 14 W (by omega))
      obtain ⟨OW, hOW⟩ : ∃ q : ByteArray, Zn.wS z.opt 14 = q := ⟨_, rfl⟩
      rw [hOW] at HOW E_OO
      have zOW : 14 ≤ OW.size ∧ OW.size ≤ 14 := eq2 (by rw [← hOW]; exact Zn.wS_size (HGD.out.opt14 HFM.out))
      have E_OW := Lib.hid hOW
      clear hOW
      have hH' := hHeld
      obtain ⟨x0, x1, x2, x3, x4, x5, x6, x7, x8, x9, x10, x11, x12, x13⟩ := hH'
      go_upto_if 154 with fail
      go_cut [20] from 152 to 161 (fun q W => q = .string OO ∧ ZDays z 3 g1 g2 DB DE W ∧ Below w.heap.size w W)
      case first =>
        by_cases ho : z.opt.size = 0
        · obtain ⟨e2, e3, e4⟩ := (empty_is2 z.opt).1 ho
          have HO := Lib.hid ho
          rw [e3]
          clear ho e2 e3 e4
          go_wp2_with fail
          go_meet
          exact ⟨by rw [← E_OO.out, if_pos HO.out], hHeld, HBL.out⟩
        · obtain ⟨e2, e3, e4⟩ := (empty_is2 z.opt).2 ho
          have HO := Lib.hid ho
          rw [e3]
          clear ho e2 e3 e4
          go_wp2_with fail
          refine (HOW.out _).mono ?_; rintro e w5 ⟨rfl, hb4⟩; have HBN := Lib.hid (HBL.out.trans (hb4.mono HBL.out.size)); replace HBL := HBN; clear HBN
          replace hHeld := zdays_later hb4 hHeld
          clear hb4 x0 x1 x2 x3 x4 x5 x6 x7 x8 x9 x10 x11 x12 x13
          have HDO := Lib.hid (fun W => rdigit OW W (by omega))
          go_wp2_with fail
          refine (HDO.out _).mono ?_; rintro e w5 ⟨rfl, hb4⟩; have HBN := Lib.hid (HBL.out.trans (hb4.mono HBL.out.size)); replace HBL := HBN; clear HBN
          replace hHeld := zdays_later hb4 hHeld
          clear hb4
          have e5 : Opt.digS OW = OO := by rw [← E_OO.out, if_neg HO.out]
          rw [e5]
          clear e5
          go_wp2_with fail
          go_meet
          exact ⟨rfl, hHeld, HBL.out⟩
      case rest =>
      obtain ⟨rfl, hHeld, hbl⟩ := hcut
      have HBL := Lib.hid hbl
      clear hbl
      have s2 : ¬ (9223372036854775807 < NU.size + NW.size) := by omega
      have s3 : ¬ (9223372036854775807 < NU.size + NW.size + DB.size) := by omega
      have s4 : ¬ (9223372036854775807 < NU.size + NW.size + DB.size + z.sex.size) := by omega
      have s5 : ¬ (9223372036854775807 < NU.size + NW.size + DB.size + z.sex.size + DE.size) := by omega
      have s6 : ¬ (9223372036854775807 < NU.size + NW.size + DB.size + z.sex.size + DE.size + OW.size) := by omega
      have s7 : ¬ (9223372036854775807 < NU.size + NW.size + DB.size + z.sex.size + DE.size + OW.size + OO.size) := by omega
      go_upto_region 23 with fail
      (refine wp_region_held_drew (S := (fun W => W.cell? ⟨g1, 0, none⟩ = some (.int .i64 3) ∧ W.cell? ⟨g1, 1, none⟩ = some (.string z.kind) ∧ W.cell? ⟨g1, 2, none⟩ = some (.string z.state) ∧ W.cell? ⟨g1, 3, none⟩ = some (.string z.sur) ∧ W.cell? ⟨g1, 4, none⟩ = some (.string z.giv) ∧ W.cell? ⟨g1, 5, none⟩ = some (.string z.num) ∧ W.cell? ⟨g1, 6, none⟩ = some (.string z.nat) ∧ W.cell? ⟨g1, 7, none⟩ = some (.string z.birth) ∧ W.cell? ⟨g1, 8, none⟩ = some (.string z.sex) ∧ W.cell? ⟨g1, 9, none⟩ = some (.string z.exp) ∧ W.cell? ⟨g1, 10, none⟩ = some (.string z.opt) ∧ W.cell? ⟨g1, 11, none⟩ = some (.string z.sec) ∧ W.cell? ⟨g2, 0, none⟩ = some (.string DB) ∧ W.cell? ⟨g2, 1, none⟩ = some (.string DE))) (by kernel_rfl) (hHeld) (fun hHeld => ?_))
      ((refine tkI 0 ?_ (hy := ?_) (h := ?_); rotate_left 1; · (intro w hSw; (try dsimp only at hSw); go_simp; (try with_reducible rfl))); (try simp only [Act.put, List.setIfInBounds_toArray, List.set_cons_zero, List.set_cons_succ]))
      ((refine tkI 1 ?_ (hy := ?_) (h := ?_); rotate_left 1; · (intro w hSw; (try dsimp only at hSw); go_simp; (try with_reducible rfl))); (try simp only [Act.put, List.setIfInBounds_toArray, List.set_cons_zero, List.set_cons_succ]))
      ((refine tkI 2 ?_ (hy := ?_) (h := ?_); rotate_left 1; · (intro w hSw; (try dsimp only at hSw); go_simp; (try with_reducible rfl))); (try simp only [Act.put, List.setIfInBounds_toArray, List.set_cons_zero, List.set_cons_succ]))
      ((refine tkI 3 ?_ (hy := ?_) (h := ?_); rotate_left 1; · (intro w hSw; (try dsimp only at hSw); go_simp; (try with_reducible rfl))); (try simp only [Act.put, List.setIfInBounds_toArray, List.set_cons_zero, List.set_cons_succ]))
      ((refine tkI 4 ?_ (hy := ?_) (h := ?_); rotate_left 1; · (intro w hSw; (try dsimp only at hSw); go_simp; (try with_reducible rfl))); (try simp only [Act.put, List.setIfInBounds_toArray, List.set_cons_zero, List.set_cons_succ]))
      ((refine tkI 5 ?_ (hy := ?_) (h := ?_); rotate_left 1; · (intro w hSw; (try dsimp only at hSw); go_simp; (try with_reducible rfl))); (try simp only [Act.put, List.setIfInBounds_toArray, List.set_cons_zero, List.set_cons_succ]))
      ((refine tkI 6 ?_ (hy := ?_) (h := ?_); rotate_left 1; · (intro w hSw; (try dsimp only at hSw); go_simp; (try with_reducible rfl))); (try simp only [Act.put, List.setIfInBounds_toArray, List.set_cons_zero, List.set_cons_succ]))
      ((refine tkI 7 ?_ (hy := ?_) (h := ?_); rotate_left 1; · (intro w hSw; (try dsimp only at hSw); go_simp; (try with_reducible rfl))); (try simp only [Act.put, List.setIfInBounds_toArray, List.set_cons_zero, List.set_cons_succ]))
      ((refine tkI 8 ?_ (hy := ?_) (h := ?_); rotate_left 1; · (intro w hSw; (try dsimp only at hSw); go_simp; (try with_reducible rfl))); (try simp only [Act.put, List.setIfInBounds_toArray, List.set_cons_zero, List.set_cons_succ]))
      ((refine tkI 9 ?_ (hy := ?_) (h := ?_); rotate_left 1; · (intro w hSw; (try dsimp only at hSw); go_simp; (try with_reducible rfl))); (try simp only [Act.put, List.setIfInBounds_toArray, List.set_cons_zero, List.set_cons_succ]))
      ((refine tkI 10 ?_ (hy := ?_) (h := ?_); rotate_left 1; · (intro w hSw; (try dsimp only at hSw); go_simp; (try with_reducible rfl))); (try simp only [Act.put, List.setIfInBounds_toArray, List.set_cons_zero, List.set_cons_succ]))
      ((refine tkI 11 ?_ (hy := ?_) (h := ?_); rotate_left 1; · (intro w hSw; (try dsimp only at hSw); go_simp; (try with_reducible rfl))); (try simp only [Act.put, List.setIfInBounds_toArray, List.set_cons_zero, List.set_cons_succ]))
      ((refine tkI 12 ?_ (hy := ?_) (h := ?_); rotate_left 1; · (intro w hSw; (try dsimp only at hSw); go_simp; (try with_reducible rfl))); (try simp only [Act.put, List.setIfInBounds_toArray, List.set_cons_zero, List.set_cons_succ]))
      ((refine tkI 13 ?_ (hy := ?_) (h := ?_); rotate_left 1; · (intro w hSw; (try dsimp only at hSw); go_simp; (try with_reducible rfl))); (try simp only [Act.put, List.setIfInBounds_toArray, List.set_cons_zero, List.set_cons_succ]))
      ((refine tkI 16 ?_ (hy := ?_) (h := ?_); rotate_left 1; · (intro w hSw; (try dsimp only at hSw); go_simp; (try with_reducible rfl))); (try simp only [Act.put, List.setIfInBounds_toArray, List.set_cons_zero, List.set_cons_succ]))
      (refine wpAnyH_ready (rs := [14]) (by kernel_rfl) (by simp) ?_; refine AllReadyH.cons (by simp only [List.getElem?_toArray, List.getElem?_cons_succ, List.getElem?_cons_zero]; rfl) (fun K hK => ?_) AllReadyH.nil; go_simp; go_at_call 51; refine (HOW.out _).mono ?_; rintro e w5 ⟨rfl, hb4⟩; (first | have HBN := Lib.hid (HBL.out.trans ((below_undrew2 hb4).mono HBL.out.size)) | have HBN := Lib.hid (HBL.out.trans (hb4.mono HBL.out.size))); replace HBL := HBN; clear HBN; refine hK.out _ _ (⟨cell_later hb4 hHeld.1, cell_later hb4 hHeld.2.1, cell_later hb4 hHeld.2.2.1, cell_later hb4 hHeld.2.2.2.1, cell_later hb4 hHeld.2.2.2.2.1, cell_later hb4 hHeld.2.2.2.2.2.1, cell_later hb4 hHeld.2.2.2.2.2.2.1, cell_later hb4 hHeld.2.2.2.2.2.2.2.1, cell_later hb4 hHeld.2.2.2.2.2.2.2.2.1, cell_later hb4 hHeld.2.2.2.2.2.2.2.2.2.1, cell_later hb4 hHeld.2.2.2.2.2.2.2.2.2.2.1, cell_later hb4 hHeld.2.2.2.2.2.2.2.2.2.2.2.1, cell_later hb4 hHeld.2.2.2.2.2.2.2.2.2.2.2.2.1, cell_later hb4 hHeld.2.2.2.2.2.2.2.2.2.2.2.2.2⟩) (fun hHeld => ?_); clear hK K; (try simp only [Act.put, List.setIfInBounds_toArray, List.set_cons_zero, List.set_cons_succ]))
      ((refine tkI 15 ?_ (hy := ?_) (h := ?_); rotate_left 1; · (intro w hSw; (try dsimp only at hSw); go_simp; (try with_reducible rfl))); (try simp only [Act.put, List.setIfInBounds_toArray, List.set_cons_zero, List.set_cons_succ]))
      ((refine tkI 17 ?_ (hy := ?_) (h := ?_); rotate_left 1; · (intro w hSw; (try dsimp only at hSw); go_simp; (try with_reducible rfl))); (try simp only [Act.put, List.setIfInBounds_toArray, List.set_cons_zero, List.set_cons_succ]))
      ((refine tkI 18 ?_ (hy := ?_) (h := ?_); rotate_left 1; · (intro w hSw; (try dsimp only at hSw); go_simp; (try with_reducible rfl))); (try simp only [Act.put, List.setIfInBounds_toArray, List.set_cons_zero, List.set_cons_succ]))
      (refine wpAnyH_done (by kernel_rfl) ?_ _)
      go_upto_region 24 with fail
      clear s2 s3 s4 s5 s6 s7
      obtain ⟨BB, hBB⟩ : ∃ q : ByteArray, NU ++ NW ++ DB ++ z.sex ++ DE ++ OW ++ OO = q := ⟨_, rfl⟩
      rw [hBB]
      have E_BB := Lib.hid hBB
      clear hBB
      have zBB : 42 + OO.size ≤ BB.size ∧ BB.size ≤ 42 + OO.size := eq2 (by rw [← E_BB.out]; simp only [ByteArray.size_append]; omega)
      have zO1 : 1 ≤ OO.size := by rw [← E_OO.out]; split <;> first | decide | (rw [← E_OW.out]; exact HGD.out.digW 14)
      have i10 : (10 : Int) ≤ (BB.size : Int) := by omega
      have i20 : (20 : Int) ≤ (BB.size : Int) := by omega
      have i43 : (43 : Int) ≤ (BB.size : Int) := by omega
      obtain ⟨P0, hP0⟩ : ∃ q, BB.extract 0 10 = q := ⟨_, rfl⟩
      have zP0 : 10 ≤ P0.size ∧ P0.size ≤ 10 := eq2 (by rw [← hP0, ByteArray.size_extract]; omega)
      obtain ⟨P1, hP1⟩ : ∃ q, BB.extract 13 20 = q := ⟨_, rfl⟩
      have zP1 : 7 ≤ P1.size ∧ P1.size ≤ 7 := eq2 (by rw [← hP1, ByteArray.size_extract]; omega)
      obtain ⟨P2, hP2⟩ : ∃ q, BB.extract 21 43 = q := ⟨_, rfl⟩
      have zP2 : 22 ≤ P2.size ∧ P2.size ≤ 22 := eq2 (by rw [← hP2, ByteArray.size_extract]; omega)
      have HDG := Lib.hid (fun W => rdigit (P0 ++ P1 ++ P2) W (by simp only [ByteArray.size_append]; omega))
      obtain ⟨DG, hDG⟩ : ∃ q : ByteArray, Opt.digS (P0 ++ P1 ++ P2) = q := ⟨_, rfl⟩
      obtain ⟨DGx, hDGx⟩ : ∃ q, Opt.digE (P0 ++ P1 ++ P2) = q := ⟨_, rfl⟩
      rw [hDG, hDGx] at HDG
      have zDG : DG.size ≤ 1 := by rw [← hDG]; exact digS_one _
      have E_DG := Lib.hid hDG
      clear hDG hDGx
      have s2 : ¬ (9223372036854775807 < P0.size + P1.size) := by omega
      have s3 : ¬ (9223372036854775807 < P0.size + P1.size + P2.size) := by omega
      (refine wp_region_held_drew (S := (fun W => W.cell? ⟨g1, 0, none⟩ = some (.int .i64 3) ∧ W.cell? ⟨g1, 1, none⟩ = some (.string z.kind) ∧ W.cell? ⟨g1, 2, none⟩ = some (.string z.state) ∧ W.cell? ⟨g1, 3, none⟩ = some (.string z.sur) ∧ W.cell? ⟨g1, 4, none⟩ = some (.string z.giv) ∧ W.cell? ⟨g1, 5, none⟩ = some (.string z.num) ∧ W.cell? ⟨g1, 6, none⟩ = some (.string z.nat) ∧ W.cell? ⟨g1, 7, none⟩ = some (.string z.birth) ∧ W.cell? ⟨g1, 8, none⟩ = some (.string z.sex) ∧ W.cell? ⟨g1, 9, none⟩ = some (.string z.exp) ∧ W.cell? ⟨g1, 10, none⟩ = some (.string z.opt) ∧ W.cell? ⟨g1, 11, none⟩ = some (.string z.sec) ∧ W.cell? ⟨g2, 0, none⟩ = some (.string DB) ∧ W.cell? ⟨g2, 1, none⟩ = some (.string DE))) (by kernel_rfl) (hHeld) (fun hHeld => ?_))
      ((refine tkI 0 ?_ (hy := ?_) (h := ?_); rotate_left 1; · (intro w hSw; (try dsimp only at hSw); go_simp; (try with_reducible rfl))); (try simp only [Act.put, List.setIfInBounds_toArray, List.set_cons_zero, List.set_cons_succ]))
      ((refine tkI 1 ?_ (hy := ?_) (h := ?_); rotate_left 1; · (intro w hSw; (try dsimp only at hSw); go_simp; (try with_reducible rfl))); (try simp only [Act.put, List.setIfInBounds_toArray, List.set_cons_zero, List.set_cons_succ]))
      ((refine tkI 2 ?_ (hy := ?_) (h := ?_); rotate_left 1; · (intro w hSw; (try dsimp only at hSw); go_simp; (try with_reducible rfl))); (try simp only [Act.put, List.setIfInBounds_toArray, List.set_cons_zero, List.set_cons_succ]))
      ((refine tkI 3 ?_ (hy := ?_) (h := ?_); rotate_left 1; · (intro w hSw; (try dsimp only at hSw); go_simp; (try with_reducible rfl))); (try simp only [Act.put, List.setIfInBounds_toArray, List.set_cons_zero, List.set_cons_succ]))
      ((refine tkI 4 ?_ (hy := ?_) (h := ?_); rotate_left 1; · (intro w hSw; (try dsimp only at hSw); go_simp; (try with_reducible rfl))); (try simp only [Act.put, List.setIfInBounds_toArray, List.set_cons_zero, List.set_cons_succ]))
      ((refine tkI 5 ?_ (hy := ?_) (h := ?_); rotate_left 1; · (intro w hSw; (try dsimp only at hSw); go_simp; (try with_reducible rfl))); (try simp only [Act.put, List.setIfInBounds_toArray, List.set_cons_zero, List.set_cons_succ]))
      ((refine tkI 6 ?_ (hy := ?_) (h := ?_); rotate_left 1; · (intro w hSw; (try dsimp only at hSw); go_simp; (try with_reducible rfl))); (try simp only [Act.put, List.setIfInBounds_toArray, List.set_cons_zero, List.set_cons_succ]))
      ((refine tkI 7 ?_ (hy := ?_) (h := ?_); rotate_left 1; · (intro w hSw; (try dsimp only at hSw); go_simp; (try with_reducible rfl))); (try simp only [Act.put, List.setIfInBounds_toArray, List.set_cons_zero, List.set_cons_succ]))
      (refine wpAnyH_ready (rs := [8]) (by kernel_rfl) (by simp) ?_; refine AllReadyH.cons (by simp only [List.getElem?_toArray, List.getElem?_cons_succ, List.getElem?_cons_zero]; rfl) (fun K hK => ?_) AllReadyH.nil; go_simp; go_at_call 55; refine (HDG.out _).mono ?_; rintro e w5 ⟨rfl, hb4⟩; (first | have HBN := Lib.hid (HBL.out.trans ((below_undrew2 hb4).mono HBL.out.size)) | have HBN := Lib.hid (HBL.out.trans (hb4.mono HBL.out.size))); replace HBL := HBN; clear HBN; refine hK.out _ _ (⟨cell_later hb4 hHeld.1, cell_later hb4 hHeld.2.1, cell_later hb4 hHeld.2.2.1, cell_later hb4 hHeld.2.2.2.1, cell_later hb4 hHeld.2.2.2.2.1, cell_later hb4 hHeld.2.2.2.2.2.1, cell_later hb4 hHeld.2.2.2.2.2.2.1, cell_later hb4 hHeld.2.2.2.2.2.2.2.1, cell_later hb4 hHeld.2.2.2.2.2.2.2.2.1, cell_later hb4 hHeld.2.2.2.2.2.2.2.2.2.1, cell_later hb4 hHeld.2.2.2.2.2.2.2.2.2.2.1, cell_later hb4 hHeld.2.2.2.2.2.2.2.2.2.2.2.1, cell_later hb4 hHeld.2.2.2.2.2.2.2.2.2.2.2.2.1, cell_later hb4 hHeld.2.2.2.2.2.2.2.2.2.2.2.2.2⟩) (fun hHeld => ?_); clear hK K; (try simp only [Act.put, List.setIfInBounds_toArray, List.set_cons_zero, List.set_cons_succ]))
      ((refine tkI 9 ?_ (hy := ?_) (h := ?_); rotate_left 1; · (intro w hSw; (try dsimp only at hSw); go_simp; (try with_reducible rfl))); (try simp only [Act.put, List.setIfInBounds_toArray, List.set_cons_zero, List.set_cons_succ]))
      ((refine tkI 10 ?_ (hy := ?_) (h := ?_); rotate_left 1; · (intro w hSw; (try dsimp only at hSw); go_simp; (try with_reducible rfl))); (try simp only [Act.put, List.setIfInBounds_toArray, List.set_cons_zero, List.set_cons_succ]))
      ((refine tkI 11 ?_ (hy := ?_) (h := ?_); rotate_left 1; · (intro w hSw; (try dsimp only at hSw); go_simp; (try with_reducible rfl))); (try simp only [Act.put, List.setIfInBounds_toArray, List.set_cons_zero, List.set_cons_succ]))
      ((refine tkI 12 ?_ (hy := ?_) (h := ?_); rotate_left 1; · (intro w hSw; (try dsimp only at hSw); go_simp; (try with_reducible rfl))); (try simp only [Act.put, List.setIfInBounds_toArray, List.set_cons_zero, List.set_cons_succ]))
      ((refine tkI 13 ?_ (hy := ?_) (h := ?_); rotate_left 1; · (intro w hSw; (try dsimp only at hSw); go_simp; (try with_reducible rfl))); (try simp only [Act.put, List.setIfInBounds_toArray, List.set_cons_zero, List.set_cons_succ]))
      (refine wpAnyH_done (by kernel_rfl) ?_ _)
      clear s2 s3
      clear i10 i20 i43
      have E_P0 := Lib.hid hP0; have E_P1 := Lib.hid hP1; have E_P2 := Lib.hid hP2
      clear hP0 hP1 hP2
      have t1 : ¬ (9223372036854775807 < KW.size + SW.size + NM.size) := by omega
      have t2 : ¬ (9223372036854775807 < BB.size + DG.size) := by omega
      go_wp2_with fail
      have HPO := Lib.hid (rbuild_two (KW ++ SW ++ NM) (BB ++ DG) HBL.out (Zn.rbld_3 HGD.out HFM.out E_KW.out E_SW.out E_NM.out E_NU.out E_RS.out E_DB.out E_DE.out E_NW.out E_OW.out E_OO.out E_BB.out (by rw [E_P0.out, E_P1.out, E_P2.out]; exact E_DG.out)))
      go_ret2
      exact BldPost.yes HVE.out HPO.out.1 HPO.out.2
end Go.Proofs.YtelngghecmkipaaGreatDoor

namespace Go.Proofs.YtelngghecmkipaaGreatDoor
open Go.RowKit
namespace Zn
/-- The key. -/
noncomputable def keyS (z : Z) : ByteArray := if vldE z = 0 then ckS (wS z.num 9) ++ ckS z.birth ++ ckS z.exp else ⟨#[]⟩
theorem fits_max {z : Z} (h : z.fits 140737488355328) : z.fits maxLen := by unfold Z.fits at *; unfold maxLen; omega
theorem ckS_le (s : ByteArray) : (ckS s).size ≤ s.size + 1 := by unfold ckS; rw [ByteArray.size_append]; have := digS_one s; omega
theorem key_eq {z : Z} {mx : Int} {RP NN DN DB DX : ByteArray} (h1 : max (0 : Int) (9 - (z.num.size : Int)) = mx) (h2 : (⟨(List.replicate mx.toNat (60 : UInt8)).toArray⟩ : ByteArray) = RP) (h3 : z.num ++ RP = NN)
    (h4 : Opt.digS NN = DN) (h5 : Opt.digS z.birth = DB) (h6 : Opt.digS z.exp = DX) : ckS (wS z.num 9) ++ ckS z.birth ++ ckS z.exp = NN ++ DN ++ z.birth ++ DB ++ z.exp ++ DX := by
  have hm : mx.toNat = 9 - z.num.size := by rw [← h1]; omega
  have hN : wS z.num 9 = NN := by
    refine bl_ext ?_
    rw [← h3, bl_app, ← h2, hm]; rfl
  unfold ckS
  rw [hN, h4, h5, h6]
  refine bl_ext ?_
  simp only [bl_app, List.append_assoc]
end Zn
/-- What Key leaves. -/
def KeyPost (z : Zn.Z) (w : World) (e : Ending) (w' : World) : Prop := e = .returned (.tuple #[.string (Zn.keyS z), .int .i64 (Zn.vldE z)]) ∧ Below w.heap.size w w'
theorem KeyPost.no {z : Zn.Z} {w w' : World} {vE : Int} (h : vE ≠ 0) (hE : Zn.vldE z = vE) (hb : Below w.heap.size w w') : KeyPost z w (.returned (.tuple #[.string ⟨#[]⟩, .int .i64 vE])) w' :=
  ⟨by unfold Zn.keyS; rw [hE, if_neg h], hb⟩
theorem KeyPost.yes {z : Zn.Z} {w w' : World} {K : ByteArray} (hE : Zn.vldE z = 0) (hK : Zn.ckS (Zn.wS z.num 9) ++ Zn.ckS z.birth ++ Zn.ckS z.exp = K) (hb : Below w.heap.size w w') : KeyPost z w (.returned (.tuple #[.string K, .int .i64 0])) w' :=
  ⟨by unfold Zn.keyS; rw [hE, if_pos rfl, hK], hb⟩
set_option maxRecDepth 100000 in
set_option maxHeartbeats 4000000 in
theorem rkey (z : Zn.Z) (w : World) (hz : z.fits 140737488355328) :
    Calls Tryz.prog 22 #[z.val] w (KeyPost z w) := by
  have HVV := Lib.hid (show ∀ W, Calls Tryz.prog 24 #[.agg #[.int .i64 z.fmt, .string z.kind, .string z.state, .string z.sur, .string z.giv, .string z.num, .string z.nat, .string z.birth, .string z.sex, .string z.exp, .string z.opt, .string z.sec]] W fun e w' => e = .returned (.int .i64 (Zn.vldE z)) ∧ Below W.heap.size W w' from fun W => rvalidZ z W (Zn.fits_max hz))
  obtain ⟨vE, hvE⟩ : ∃ q, Zn.vldE z = q := ⟨_, rfl⟩
  rw [hvE] at HVV
  have HVE := Lib.hid hvE
  have hb1 := below_alloc1 w (.cells #[.int .i64 z.fmt, .string z.kind, .string z.state, .string z.sur, .string z.giv, .string z.num, .string z.nat, .string z.birth, .string z.sex, .string z.exp, .string z.opt, .string z.sec] 24)
  have hbx := zbox_new_at w z z.fmt rfl
  clear hvE hz
  unfold Zn.Z.val
  go_enter Tryz.func22, Tryz.ntmps22
  go_upto_region 1 with fail
  generalize w.alloc (.cells #[.int .i64 z.fmt, .string z.kind, .string z.state, .string z.sur, .string z.giv, .string z.num, .string z.nat, .string z.birth, .string z.sex, .string z.exp, .string z.opt, .string z.sec] 24) = w1 at hb1 hbx ⊢
  have HB1 := Lib.hid hb1; have HX := Lib.hid hbx
  clear hb1 hbx
  obtain ⟨g1, hg1⟩ : ∃ q, w.heap.size = q := ⟨_, rfl⟩
  rw [hg1] at HX ⊢
  have HG1 := Lib.hid hg1
  clear hg1
  obtain ⟨x0, x1, x2, x3, x4, x5, x6, x7, x8, x9, x10, x11⟩ := HX.out
  go_wp2_with fail
  refine (HVV.out _).mono ?_; rintro e w2 ⟨rfl, hb2⟩
  have HBL := Lib.hid (HB1.out.trans (hb2.mono HB1.out.size))
  have hHeld := zcells_later hb2 HX.out
  clear hb2 HB1 HX x0 x1 x2 x3 x4 x5 x6 x7 x8 x9 x10 x11
  by_cases hE : vE ≠ 0
  · have e1 : (vE != 0) = true := by rw [bne_iff_ne]; exact hE
    have HE' := Lib.hid hE
    clear hE
    go_wp2_with fail
    go_ret2
    exact KeyPost.no HE'.out HVE.out HBL.out
  obtain rfl : vE = 0 := by omega
  have HGD := Lib.hid (Zn.good_of HVE.out)
  clear hE
  have HKW := Lib.hid (fun W => rwideS z.num 9 W (by omega))
  obtain ⟨KW, hKW⟩ : ∃ q : ByteArray, Zn.wS z.num 9 = q := ⟨_, rfl⟩
  rw [hKW] at HKW
  have E_KW := Lib.hid hKW
  have zKW : KW.size ≤ 29 := by rw [← hKW]; have := Zn.wS_le z.num 9; have := HGD.out.numLe20; omega
  clear hKW
  have HCN := Lib.hid (fun W => rchecked KW W (by omega))
  obtain ⟨CN, hCN⟩ : ∃ q : ByteArray, Zn.ckS KW = q := ⟨_, rfl⟩
  rw [hCN] at HCN
  have E_CN := Lib.hid hCN
  have zCN : CN.size ≤ 30 := by rw [← hCN]; have := Zn.ckS_le KW; omega
  clear hCN
  have HCB := Lib.hid (fun W => rchecked z.birth W (by have := Zn.birth_size HGD.out.birth; omega))
  obtain ⟨CB, hCB⟩ : ∃ q : ByteArray, Zn.ckS z.birth = q := ⟨_, rfl⟩
  rw [hCB] at HCB
  have E_CB := Lib.hid hCB
  have zCB : CB.size ≤ 7 := by rw [← hCB]; have := HGD.out.db_size; omega
  clear hCB
  have HCE := Lib.hid (fun W => rchecked z.exp W (by have := Zn.prE_size HGD.out.exp; omega))
  obtain ⟨CE, hCE⟩ : ∃ q : ByteArray, Zn.ckS z.exp = q := ⟨_, rfl⟩
  rw [hCE] at HCE
  have E_CE := Lib.hid hCE
  have zCE : CE.size ≤ 7 := by rw [← hCE]; have := HGD.out.de_size; omega
  clear hCE
  have s2 : ¬ (9223372036854775807 < CN.size + CB.size) := by omega
  have s3 : ¬ (9223372036854775807 < CN.size + CB.size + CE.size) := by omega
  go_wp2_with fail
  (refine wp_region_held_drew (S := (fun W => W.cell? ⟨g1, 0, none⟩ = some (.int .i64 z.fmt) ∧ W.cell? ⟨g1, 1, none⟩ = some (.string z.kind) ∧ W.cell? ⟨g1, 2, none⟩ = some (.string z.state) ∧ W.cell? ⟨g1, 3, none⟩ = some (.string z.sur) ∧ W.cell? ⟨g1, 4, none⟩ = some (.string z.giv) ∧ W.cell? ⟨g1, 5, none⟩ = some (.string z.num) ∧ W.cell? ⟨g1, 6, none⟩ = some (.string z.nat) ∧ W.cell? ⟨g1, 7, none⟩ = some (.string z.birth) ∧ W.cell? ⟨g1, 8, none⟩ = some (.string z.sex) ∧ W.cell? ⟨g1, 9, none⟩ = some (.string z.exp) ∧ W.cell? ⟨g1, 10, none⟩ = some (.string z.opt) ∧ W.cell? ⟨g1, 11, none⟩ = some (.string z.sec))) (by kernel_rfl) (hHeld) (fun hHeld => ?_))
  ((refine tkI 0 ?_ (hy := ?_) (h := ?_); rotate_left 1; · (intro w hSw; (try dsimp only at hSw); go_simp; (try with_reducible rfl))); (try simp only [Act.put, List.setIfInBounds_toArray, List.set_cons_zero, List.set_cons_succ]))
  ((refine tkI 1 ?_ (hy := ?_) (h := ?_); rotate_left 1; · (intro w hSw; (try dsimp only at hSw); go_simp; (try with_reducible rfl))); (try simp only [Act.put, List.setIfInBounds_toArray, List.set_cons_zero, List.set_cons_succ]))
  ((refine tkI 4 ?_ (hy := ?_) (h := ?_); rotate_left 1; · (intro w hSw; (try dsimp only at hSw); go_simp; (try with_reducible rfl))); (try simp only [Act.put, List.setIfInBounds_toArray, List.set_cons_zero, List.set_cons_succ]))
  ((refine tkI 5 ?_ (hy := ?_) (h := ?_); rotate_left 1; · (intro w hSw; (try dsimp only at hSw); go_simp; (try with_reducible rfl))); (try simp only [Act.put, List.setIfInBounds_toArray, List.set_cons_zero, List.set_cons_succ]))
  ((refine tkI 8 ?_ (hy := ?_) (h := ?_); rotate_left 1; · (intro w hSw; (try dsimp only at hSw); go_simp; (try with_reducible rfl))); (try simp only [Act.put, List.setIfInBounds_toArray, List.set_cons_zero, List.set_cons_succ]))
  ((refine tkI 9 ?_ (hy := ?_) (h := ?_); rotate_left 1; · (intro w hSw; (try dsimp only at hSw); go_simp; (try with_reducible rfl))); (try simp only [Act.put, List.setIfInBounds_toArray, List.set_cons_zero, List.set_cons_succ]))
  (refine wpAnyH_ready (rs := [2]) (by kernel_rfl) (by simp) ?_; refine AllReadyH.cons (by simp only [List.getElem?_toArray, List.getElem?_cons_succ, List.getElem?_cons_zero]; rfl) (fun K hK => ?_) AllReadyH.nil; go_simp; go_at_call 51; refine (HKW.out _).mono ?_; rintro e w5 ⟨rfl, hb4⟩; (first | have HBN := Lib.hid (HBL.out.trans ((below_undrew2 hb4).mono HBL.out.size)) | have HBN := Lib.hid (HBL.out.trans (hb4.mono HBL.out.size))); replace HBL := HBN; clear HBN; refine hK.out _ _ (⟨cell_later hb4 hHeld.1, cell_later hb4 hHeld.2.1, cell_later hb4 hHeld.2.2.1, cell_later hb4 hHeld.2.2.2.1, cell_later hb4 hHeld.2.2.2.2.1, cell_later hb4 hHeld.2.2.2.2.2.1, cell_later hb4 hHeld.2.2.2.2.2.2.1, cell_later hb4 hHeld.2.2.2.2.2.2.2.1, cell_later hb4 hHeld.2.2.2.2.2.2.2.2.1, cell_later hb4 hHeld.2.2.2.2.2.2.2.2.2.1, cell_later hb4 hHeld.2.2.2.2.2.2.2.2.2.2.1, cell_later hb4 hHeld.2.2.2.2.2.2.2.2.2.2.2⟩) (fun hHeld => ?_); clear hK K; (try simp only [Act.put, List.setIfInBounds_toArray, List.set_cons_zero, List.set_cons_succ]))
  (refine wpAnyH_ready (rs := [3]) (by kernel_rfl) (by simp) ?_; refine AllReadyH.cons (by simp only [List.getElem?_toArray, List.getElem?_cons_succ, List.getElem?_cons_zero]; rfl) (fun K hK => ?_) AllReadyH.nil; go_simp; go_at_call 53; refine (HCN.out _).mono ?_; rintro e w5 ⟨rfl, hb4⟩; (first | have HBN := Lib.hid (HBL.out.trans ((below_undrew2 hb4).mono HBL.out.size)) | have HBN := Lib.hid (HBL.out.trans (hb4.mono HBL.out.size))); replace HBL := HBN; clear HBN; refine hK.out _ _ (⟨cell_later hb4 hHeld.1, cell_later hb4 hHeld.2.1, cell_later hb4 hHeld.2.2.1, cell_later hb4 hHeld.2.2.2.1, cell_later hb4 hHeld.2.2.2.2.1, cell_later hb4 hHeld.2.2.2.2.2.1, cell_later hb4 hHeld.2.2.2.2.2.2.1, cell_later hb4 hHeld.2.2.2.2.2.2.2.1, cell_later hb4 hHeld.2.2.2.2.2.2.2.2.1, cell_later hb4 hHeld.2.2.2.2.2.2.2.2.2.1, cell_later hb4 hHeld.2.2.2.2.2.2.2.2.2.2.1, cell_later hb4 hHeld.2.2.2.2.2.2.2.2.2.2.2⟩) (fun hHeld => ?_); clear hK K; (try simp only [Act.put, List.setIfInBounds_toArray, List.set_cons_zero, List.set_cons_succ]))
  (refine wpAnyH_ready (rs := [6]) (by kernel_rfl) (by simp) ?_; refine AllReadyH.cons (by simp only [List.getElem?_toArray, List.getElem?_cons_succ, List.getElem?_cons_zero]; rfl) (fun K hK => ?_) AllReadyH.nil; go_simp; go_at_call 53; refine (HCB.out _).mono ?_; rintro e w5 ⟨rfl, hb4⟩; (first | have HBN := Lib.hid (HBL.out.trans ((below_undrew2 hb4).mono HBL.out.size)) | have HBN := Lib.hid (HBL.out.trans (hb4.mono HBL.out.size))); replace HBL := HBN; clear HBN; refine hK.out _ _ (⟨cell_later hb4 hHeld.1, cell_later hb4 hHeld.2.1, cell_later hb4 hHeld.2.2.1, cell_later hb4 hHeld.2.2.2.1, cell_later hb4 hHeld.2.2.2.2.1, cell_later hb4 hHeld.2.2.2.2.2.1, cell_later hb4 hHeld.2.2.2.2.2.2.1, cell_later hb4 hHeld.2.2.2.2.2.2.2.1, cell_later hb4 hHeld.2.2.2.2.2.2.2.2.1, cell_later hb4 hHeld.2.2.2.2.2.2.2.2.2.1, cell_later hb4 hHeld.2.2.2.2.2.2.2.2.2.2.1, cell_later hb4 hHeld.2.2.2.2.2.2.2.2.2.2.2⟩) (fun hHeld => ?_); clear hK K; (try simp only [Act.put, List.setIfInBounds_toArray, List.set_cons_zero, List.set_cons_succ]))
  ((refine tkI 7 ?_ (hy := ?_) (h := ?_); rotate_left 1; · (intro w hSw; (try dsimp only at hSw); go_simp; (try with_reducible rfl))); (try simp only [Act.put, List.setIfInBounds_toArray, List.set_cons_zero, List.set_cons_succ]))
  (refine wpAnyH_ready (rs := [10]) (by kernel_rfl) (by simp) ?_; refine AllReadyH.cons (by simp only [List.getElem?_toArray, List.getElem?_cons_succ, List.getElem?_cons_zero]; rfl) (fun K hK => ?_) AllReadyH.nil; go_simp; go_at_call 53; refine (HCE.out _).mono ?_; rintro e w5 ⟨rfl, hb4⟩; (first | have HBN := Lib.hid (HBL.out.trans ((below_undrew2 hb4).mono HBL.out.size)) | have HBN := Lib.hid (HBL.out.trans (hb4.mono HBL.out.size))); replace HBL := HBN; clear HBN; refine hK.out _ _ (⟨cell_later hb4 hHeld.1, cell_later hb4 hHeld.2.1, cell_later hb4 hHeld.2.2.1, cell_later hb4 hHeld.2.2.2.1, cell_later hb4 hHeld.2.2.2.2.1, cell_later hb4 hHeld.2.2.2.2.2.1, cell_later hb4 hHeld.2.2.2.2.2.2.1, cell_later hb4 hHeld.2.2.2.2.2.2.2.1, cell_later hb4 hHeld.2.2.2.2.2.2.2.2.1, cell_later hb4 hHeld.2.2.2.2.2.2.2.2.2.1, cell_later hb4 hHeld.2.2.2.2.2.2.2.2.2.2.1, cell_later hb4 hHeld.2.2.2.2.2.2.2.2.2.2.2⟩) (fun hHeld => ?_); clear hK K; (try simp only [Act.put, List.setIfInBounds_toArray, List.set_cons_zero, List.set_cons_succ]))
  ((refine tkI 11 ?_ (hy := ?_) (h := ?_); rotate_left 1; · (intro w hSw; (try dsimp only at hSw); go_simp; (try with_reducible rfl))); (try simp only [Act.put, List.setIfInBounds_toArray, List.set_cons_zero, List.set_cons_succ]))
  ((refine tkI 12 ?_ (hy := ?_) (h := ?_); rotate_left 1; · (intro w hSw; (try dsimp only at hSw); go_simp; (try with_reducible rfl))); (try simp only [Act.put, List.setIfInBounds_toArray, List.set_cons_zero, List.set_cons_succ]))
  ((refine tkI 13 ?_ (hy := ?_) (h := ?_); rotate_left 1; · (intro w hSw; (try dsimp only at hSw); go_simp; (try with_reducible rfl))); (try simp only [Act.put, List.setIfInBounds_toArray, List.set_cons_zero, List.set_cons_succ]))
  (refine wpAnyH_done (by kernel_rfl) ?_ _)
  go_wp2_with fail
  go_ret2
  exact KeyPost.yes HVE.out (by rw [← E_CN.out, ← E_CB.out, ← E_CE.out, ← E_KW.out]) HBL.out
set_option maxRecDepth 100000 in
set_option maxHeartbeats 4000000 in
theorem zkey (z : Zn.Z) (w : World) (hz : z.fits 140737488355328) (hd : Dat.At w) :
    Calls Tryz.prog 21 #[z.val] w (KeyPost z w) := by
  have HVV := Lib.hid (show ∀ W, Dat.At W → Calls Tryz.prog 23 #[.agg #[.int .i64 z.fmt, .string z.kind, .string z.state, .string z.sur, .string z.giv, .string z.num, .string z.nat, .string z.birth, .string z.sex, .string z.exp, .string z.opt, .string z.sec]] W fun e w' => e = .returned (.int .i64 (Zn.vldE z)) ∧ Below W.heap.size W w' from fun W hW => zvalidZ z W hz hW)
  obtain ⟨vE, hvE⟩ : ∃ q, Zn.vldE z = q := ⟨_, rfl⟩
  rw [hvE] at HVV
  have HVE := Lib.hid hvE
  have hb1 := below_alloc1 w (.cells #[.int .i64 z.fmt, .string z.kind, .string z.state, .string z.sur, .string z.giv, .string z.num, .string z.nat, .string z.birth, .string z.sex, .string z.exp, .string z.opt, .string z.sec] 24)
  have hbx := zbox_new_at w z z.fmt rfl
  have HDX := Lib.hid hd
  clear hd
  clear hvE hz
  unfold Zn.Z.val
  go_enter Tryz.func21, Tryz.ntmps21
  go_upto_region 1 with fail
  generalize w.alloc (.cells #[.int .i64 z.fmt, .string z.kind, .string z.state, .string z.sur, .string z.giv, .string z.num, .string z.nat, .string z.birth, .string z.sex, .string z.exp, .string z.opt, .string z.sec] 24) = w1 at hb1 hbx ⊢
  have HB1 := Lib.hid hb1; have HX := Lib.hid hbx
  clear hb1 hbx
  obtain ⟨g1, hg1⟩ : ∃ q, w.heap.size = q := ⟨_, rfl⟩
  rw [hg1] at HX ⊢
  have HG1 := Lib.hid hg1
  clear hg1
  obtain ⟨x0, x1, x2, x3, x4, x5, x6, x7, x8, x9, x10, x11⟩ := HX.out
  go_wp2_with fail
  refine (HVV.out _ (HDX.out.below HB1.out)).mono ?_; rintro e w2 ⟨rfl, hb2⟩
  have HBL := Lib.hid (HB1.out.trans (hb2.mono HB1.out.size))
  have hHeld := zcells_later hb2 HX.out
  clear hb2 HB1 HX x0 x1 x2 x3 x4 x5 x6 x7 x8 x9 x10 x11
  by_cases hE : vE ≠ 0
  · have e1 : (vE != 0) = true := by rw [bne_iff_ne]; exact hE
    have HE' := Lib.hid hE
    clear hE
    go_wp2_with fail
    go_ret2
    exact KeyPost.no HE'.out HVE.out HBL.out
  obtain rfl : vE = 0 := by omega
  have HGD := Lib.hid (Zn.good_of HVE.out)
  clear hE
  have hn20 := HGD.out.numLe20
  obtain ⟨mx, hmx⟩ : ∃ q : Int, max (0 : Int) (9 - (z.num.size : Int)) = q := ⟨_, rfl⟩
  have hmx0 : 0 ≤ mx ∧ mx ≤ 9 := by rw [← hmx]; omega
  have e16 : IntKind.i64.wrap (9 - (z.num.size : Int)) = 9 - (z.num.size : Int) := IntWalk.i64_in _ (by omega)
  have HRP := Lib.hid (fun W => orepeat mx W hmx0.1 (by omega))
  obtain ⟨RP, hRP⟩ : ∃ q : ByteArray, (⟨(List.replicate mx.toNat (60 : UInt8)).toArray⟩ : ByteArray) = q := ⟨_, rfl⟩
  rw [hRP] at HRP
  have E_RP := Lib.hid hRP
  have zRP : RP.size ≤ 9 := by rw [← hRP, arr_size, List.length_replicate]; omega
  clear hRP
  have HMX := Lib.hid hmx
  obtain ⟨NN, hNN⟩ : ∃ q : ByteArray, z.num ++ RP = q := ⟨_, rfl⟩
  have zNN : NN.size ≤ 29 := by rw [← hNN, ByteArray.size_append]; omega
  have E_NN := Lib.hid hNN
  have HDN := Lib.hid (fun W => zdigit NN W (by omega))
  obtain ⟨DN, hDN⟩ : ∃ q : ByteArray, Opt.digS NN = q := ⟨_, rfl⟩
  rw [hDN] at HDN
  have E_DN := Lib.hid hDN
  have zDN : DN.size ≤ 1 := by rw [← hDN]; exact digS_one _
  clear hDN
  have HDB := Lib.hid (fun W => zdigit z.birth W (by have := Zn.birth_size HGD.out.birth; omega))
  obtain ⟨DB, hDB⟩ : ∃ q : ByteArray, Opt.digS z.birth = q := ⟨_, rfl⟩
  rw [hDB] at HDB
  have E_DB := Lib.hid hDB
  have zDB : DB.size ≤ 1 := by rw [← hDB]; exact digS_one _
  clear hDB
  have HDX := Lib.hid (fun W => zdigit z.exp W (by have := Zn.prE_size HGD.out.exp; omega))
  obtain ⟨DX, hDX⟩ : ∃ q : ByteArray, Opt.digS z.exp = q := ⟨_, rfl⟩
  rw [hDX] at HDX
  have E_DX := Lib.hid hDX
  have zDX : DX.size ≤ 1 := by rw [← hDX]; exact digS_one _
  clear hDX
  have zB : z.birth.size ≤ 6 := by have := Zn.birth_size HGD.out.birth; omega
  have zX : z.exp.size ≤ 6 := by have := Zn.prE_size HGD.out.exp; omega
  have s0 : ¬ (9223372036854775807 < z.num.size + RP.size) := by omega
  have s2 : ¬ (9223372036854775807 < NN.size + DN.size) := by omega
  have s3 : ¬ (9223372036854775807 < NN.size + DN.size + z.birth.size) := by omega
  have s4 : ¬ (9223372036854775807 < NN.size + DN.size + z.birth.size + DB.size) := by omega
  have s5 : ¬ (9223372036854775807 < NN.size + DN.size + z.birth.size + DB.size + z.exp.size) := by omega
  have s6 : ¬ (9223372036854775807 < NN.size + DN.size + z.birth.size + DB.size + z.exp.size + DX.size) := by omega
  go_wp2_with fail
  (refine wp_region_held_drew (S := (fun W => W.cell? ⟨g1, 0, none⟩ = some (.int .i64 z.fmt) ∧ W.cell? ⟨g1, 1, none⟩ = some (.string z.kind) ∧ W.cell? ⟨g1, 2, none⟩ = some (.string z.state) ∧ W.cell? ⟨g1, 3, none⟩ = some (.string z.sur) ∧ W.cell? ⟨g1, 4, none⟩ = some (.string z.giv) ∧ W.cell? ⟨g1, 5, none⟩ = some (.string z.num) ∧ W.cell? ⟨g1, 6, none⟩ = some (.string z.nat) ∧ W.cell? ⟨g1, 7, none⟩ = some (.string z.birth) ∧ W.cell? ⟨g1, 8, none⟩ = some (.string z.sex) ∧ W.cell? ⟨g1, 9, none⟩ = some (.string z.exp) ∧ W.cell? ⟨g1, 10, none⟩ = some (.string z.opt) ∧ W.cell? ⟨g1, 11, none⟩ = some (.string z.sec))) (by kernel_rfl) (hHeld) (fun hHeld => ?_))
  ((refine tkI 0 ?_ (hy := ?_) (h := ?_); rotate_left 1; · (intro w hSw; (try dsimp only at hSw); go_simp; (try with_reducible rfl))); (try simp only [Act.put, List.setIfInBounds_toArray, List.set_cons_zero, List.set_cons_succ]))
  ((refine tkI 1 ?_ (hy := ?_) (h := ?_); rotate_left 1; · (intro w hSw; (try dsimp only at hSw); go_simp; (try with_reducible rfl))); (try simp only [Act.put, List.setIfInBounds_toArray, List.set_cons_zero, List.set_cons_succ]))
  ((refine tkI 2 ?_ (hy := ?_) (h := ?_); rotate_left 1; · (intro w hSw; (try dsimp only at hSw); go_simp; (try with_reducible rfl))); (try simp only [Act.put, List.setIfInBounds_toArray, List.set_cons_zero, List.set_cons_succ]))
  ((refine tkI 3 ?_ (hy := ?_) (h := ?_); rotate_left 1; · (intro w hSw; (try dsimp only at hSw); go_simp; (try with_reducible rfl))); (try simp only [Act.put, List.setIfInBounds_toArray, List.set_cons_zero, List.set_cons_succ]))
  ((refine tkI 4 ?_ (hy := ?_) (h := ?_); rotate_left 1; · (intro w hSw; (try dsimp only at hSw); go_simp; (try with_reducible rfl))); (try simp only [Act.put, List.setIfInBounds_toArray, List.set_cons_zero, List.set_cons_succ]))
  ((refine tkI 5 ?_ (hy := ?_) (h := ?_); rotate_left 1; · (intro w hSw; (try dsimp only at hSw); go_simp; (try with_reducible rfl))); (try simp only [Act.put, List.setIfInBounds_toArray, List.set_cons_zero, List.set_cons_succ]))
  ((refine tkI 6 ?_ (hy := ?_) (h := ?_); rotate_left 1; · (intro w hSw; (try dsimp only at hSw); go_simp; (try with_reducible rfl))); (try simp only [Act.put, List.setIfInBounds_toArray, List.set_cons_zero, List.set_cons_succ]))
  (refine wpAnyH_ready (rs := [7]) (by kernel_rfl) (by simp) ?_; refine AllReadyH.cons (by simp only [List.getElem?_toArray, List.getElem?_cons_succ, List.getElem?_cons_zero]; rfl) (fun K hK => ?_) AllReadyH.nil; go_simp; go_at_call 46; refine (HRP.out _).mono ?_; rintro e w5 ⟨rfl, hb4⟩; (first | have HBN := Lib.hid (HBL.out.trans ((below_undrew2 hb4).mono HBL.out.size)) | have HBN := Lib.hid (HBL.out.trans (hb4.mono HBL.out.size))); replace HBL := HBN; clear HBN; refine hK.out _ _ (⟨cell_later hb4 hHeld.1, cell_later hb4 hHeld.2.1, cell_later hb4 hHeld.2.2.1, cell_later hb4 hHeld.2.2.2.1, cell_later hb4 hHeld.2.2.2.2.1, cell_later hb4 hHeld.2.2.2.2.2.1, cell_later hb4 hHeld.2.2.2.2.2.2.1, cell_later hb4 hHeld.2.2.2.2.2.2.2.1, cell_later hb4 hHeld.2.2.2.2.2.2.2.2.1, cell_later hb4 hHeld.2.2.2.2.2.2.2.2.2.1, cell_later hb4 hHeld.2.2.2.2.2.2.2.2.2.2.1, cell_later hb4 hHeld.2.2.2.2.2.2.2.2.2.2.2⟩) (fun hHeld => ?_); clear hK K; (try simp only [Act.put, List.setIfInBounds_toArray, List.set_cons_zero, List.set_cons_succ]))
  ((refine tkI 8 ?_ (hy := ?_) (h := ?_); rotate_left 1; · (intro w hSw; (try dsimp only at hSw); go_simp; (try with_reducible rfl))); (try simp only [Act.put, List.setIfInBounds_toArray, List.set_cons_zero, List.set_cons_succ]))
  ((refine tkI 9 ?_ (hy := ?_) (h := ?_); rotate_left 1; · (intro w hSw; (try dsimp only at hSw); go_simp; (try with_reducible rfl))); (try simp only [Act.put, List.setIfInBounds_toArray, List.set_cons_zero, List.set_cons_succ]))
  (refine wpAnyH_done (by kernel_rfl) ?_ _)
  go_upto_region 5 with fail
  clear s0 hmx hNN e16
  (refine wp_region_held_drew (S := (fun W => W.cell? ⟨g1, 0, none⟩ = some (.int .i64 z.fmt) ∧ W.cell? ⟨g1, 1, none⟩ = some (.string z.kind) ∧ W.cell? ⟨g1, 2, none⟩ = some (.string z.state) ∧ W.cell? ⟨g1, 3, none⟩ = some (.string z.sur) ∧ W.cell? ⟨g1, 4, none⟩ = some (.string z.giv) ∧ W.cell? ⟨g1, 5, none⟩ = some (.string z.num) ∧ W.cell? ⟨g1, 6, none⟩ = some (.string z.nat) ∧ W.cell? ⟨g1, 7, none⟩ = some (.string z.birth) ∧ W.cell? ⟨g1, 8, none⟩ = some (.string z.sex) ∧ W.cell? ⟨g1, 9, none⟩ = some (.string z.exp) ∧ W.cell? ⟨g1, 10, none⟩ = some (.string z.opt) ∧ W.cell? ⟨g1, 11, none⟩ = some (.string z.sec))) (by kernel_rfl) (hHeld) (fun hHeld => ?_))
  ((refine tkI 0 ?_ (hy := ?_) (h := ?_); rotate_left 1; · (intro w hSw; (try dsimp only at hSw); go_simp; (try with_reducible rfl))); (try simp only [Act.put, List.setIfInBounds_toArray, List.set_cons_zero, List.set_cons_succ]))
  ((refine tkI 1 ?_ (hy := ?_) (h := ?_); rotate_left 1; · (intro w hSw; (try dsimp only at hSw); go_simp; (try with_reducible rfl))); (try simp only [Act.put, List.setIfInBounds_toArray, List.set_cons_zero, List.set_cons_succ]))
  ((refine tkI 4 ?_ (hy := ?_) (h := ?_); rotate_left 1; · (intro w hSw; (try dsimp only at hSw); go_simp; (try with_reducible rfl))); (try simp only [Act.put, List.setIfInBounds_toArray, List.set_cons_zero, List.set_cons_succ]))
  ((refine tkI 5 ?_ (hy := ?_) (h := ?_); rotate_left 1; · (intro w hSw; (try dsimp only at hSw); go_simp; (try with_reducible rfl))); (try simp only [Act.put, List.setIfInBounds_toArray, List.set_cons_zero, List.set_cons_succ]))
  ((refine tkI 7 ?_ (hy := ?_) (h := ?_); rotate_left 1; · (intro w hSw; (try dsimp only at hSw); go_simp; (try with_reducible rfl))); (try simp only [Act.put, List.setIfInBounds_toArray, List.set_cons_zero, List.set_cons_succ]))
  ((refine tkI 8 ?_ (hy := ?_) (h := ?_); rotate_left 1; · (intro w hSw; (try dsimp only at hSw); go_simp; (try with_reducible rfl))); (try simp only [Act.put, List.setIfInBounds_toArray, List.set_cons_zero, List.set_cons_succ]))
  ((refine tkI 11 ?_ (hy := ?_) (h := ?_); rotate_left 1; · (intro w hSw; (try dsimp only at hSw); go_simp; (try with_reducible rfl))); (try simp only [Act.put, List.setIfInBounds_toArray, List.set_cons_zero, List.set_cons_succ]))
  ((refine tkI 12 ?_ (hy := ?_) (h := ?_); rotate_left 1; · (intro w hSw; (try dsimp only at hSw); go_simp; (try with_reducible rfl))); (try simp only [Act.put, List.setIfInBounds_toArray, List.set_cons_zero, List.set_cons_succ]))
  ((refine tkI 14 ?_ (hy := ?_) (h := ?_); rotate_left 1; · (intro w hSw; (try dsimp only at hSw); go_simp; (try with_reducible rfl))); (try simp only [Act.put, List.setIfInBounds_toArray, List.set_cons_zero, List.set_cons_succ]))
  ((refine tkI 15 ?_ (hy := ?_) (h := ?_); rotate_left 1; · (intro w hSw; (try dsimp only at hSw); go_simp; (try with_reducible rfl))); (try simp only [Act.put, List.setIfInBounds_toArray, List.set_cons_zero, List.set_cons_succ]))
  (refine wpAnyH_ready (rs := [2]) (by kernel_rfl) (by simp) ?_; refine AllReadyH.cons (by simp only [List.getElem?_toArray, List.getElem?_cons_succ, List.getElem?_cons_zero]; rfl) (fun K hK => ?_) AllReadyH.nil; go_simp; go_at_call 48; refine (HDN.out _).mono ?_; rintro e w5 ⟨rfl, hb4⟩; (first | have HBN := Lib.hid (HBL.out.trans ((below_undrew2 hb4).mono HBL.out.size)) | have HBN := Lib.hid (HBL.out.trans (hb4.mono HBL.out.size))); replace HBL := HBN; clear HBN; refine hK.out _ _ (⟨cell_later hb4 hHeld.1, cell_later hb4 hHeld.2.1, cell_later hb4 hHeld.2.2.1, cell_later hb4 hHeld.2.2.2.1, cell_later hb4 hHeld.2.2.2.2.1, cell_later hb4 hHeld.2.2.2.2.2.1, cell_later hb4 hHeld.2.2.2.2.2.2.1, cell_later hb4 hHeld.2.2.2.2.2.2.2.1, cell_later hb4 hHeld.2.2.2.2.2.2.2.2.1, cell_later hb4 hHeld.2.2.2.2.2.2.2.2.2.1, cell_later hb4 hHeld.2.2.2.2.2.2.2.2.2.2.1, cell_later hb4 hHeld.2.2.2.2.2.2.2.2.2.2.2⟩) (fun hHeld => ?_); clear hK K; (try simp only [Act.put, List.setIfInBounds_toArray, List.set_cons_zero, List.set_cons_succ]))
  ((refine tkI 3 ?_ (hy := ?_) (h := ?_); rotate_left 1; · (intro w hSw; (try dsimp only at hSw); go_simp; (try with_reducible rfl))); (try simp only [Act.put, List.setIfInBounds_toArray, List.set_cons_zero, List.set_cons_succ]))
  ((refine tkI 6 ?_ (hy := ?_) (h := ?_); rotate_left 1; · (intro w hSw; (try dsimp only at hSw); go_simp; (try with_reducible rfl))); (try simp only [Act.put, List.setIfInBounds_toArray, List.set_cons_zero, List.set_cons_succ]))
  (refine wpAnyH_ready (rs := [9]) (by kernel_rfl) (by simp) ?_; refine AllReadyH.cons (by simp only [List.getElem?_toArray, List.getElem?_cons_succ, List.getElem?_cons_zero]; rfl) (fun K hK => ?_) AllReadyH.nil; go_simp; go_at_call 48; refine (HDB.out _).mono ?_; rintro e w5 ⟨rfl, hb4⟩; (first | have HBN := Lib.hid (HBL.out.trans ((below_undrew2 hb4).mono HBL.out.size)) | have HBN := Lib.hid (HBL.out.trans (hb4.mono HBL.out.size))); replace HBL := HBN; clear HBN; refine hK.out _ _ (⟨cell_later hb4 hHeld.1, cell_later hb4 hHeld.2.1, cell_later hb4 hHeld.2.2.1, cell_later hb4 hHeld.2.2.2.1, cell_later hb4 hHeld.2.2.2.2.1, cell_later hb4 hHeld.2.2.2.2.2.1, cell_later hb4 hHeld.2.2.2.2.2.2.1, cell_later hb4 hHeld.2.2.2.2.2.2.2.1, cell_later hb4 hHeld.2.2.2.2.2.2.2.2.1, cell_later hb4 hHeld.2.2.2.2.2.2.2.2.2.1, cell_later hb4 hHeld.2.2.2.2.2.2.2.2.2.2.1, cell_later hb4 hHeld.2.2.2.2.2.2.2.2.2.2.2⟩) (fun hHeld => ?_); clear hK K; (try simp only [Act.put, List.setIfInBounds_toArray, List.set_cons_zero, List.set_cons_succ]))
  ((refine tkI 10 ?_ (hy := ?_) (h := ?_); rotate_left 1; · (intro w hSw; (try dsimp only at hSw); go_simp; (try with_reducible rfl))); (try simp only [Act.put, List.setIfInBounds_toArray, List.set_cons_zero, List.set_cons_succ]))
  ((refine tkI 13 ?_ (hy := ?_) (h := ?_); rotate_left 1; · (intro w hSw; (try dsimp only at hSw); go_simp; (try with_reducible rfl))); (try simp only [Act.put, List.setIfInBounds_toArray, List.set_cons_zero, List.set_cons_succ]))
  (refine wpAnyH_ready (rs := [16]) (by kernel_rfl) (by simp) ?_; refine AllReadyH.cons (by simp only [List.getElem?_toArray, List.getElem?_cons_succ, List.getElem?_cons_zero]; rfl) (fun K hK => ?_) AllReadyH.nil; go_simp; go_at_call 48; refine (HDX.out _).mono ?_; rintro e w5 ⟨rfl, hb4⟩; (first | have HBN := Lib.hid (HBL.out.trans ((below_undrew2 hb4).mono HBL.out.size)) | have HBN := Lib.hid (HBL.out.trans (hb4.mono HBL.out.size))); replace HBL := HBN; clear HBN; refine hK.out _ _ (⟨cell_later hb4 hHeld.1, cell_later hb4 hHeld.2.1, cell_later hb4 hHeld.2.2.1, cell_later hb4 hHeld.2.2.2.1, cell_later hb4 hHeld.2.2.2.2.1, cell_later hb4 hHeld.2.2.2.2.2.1, cell_later hb4 hHeld.2.2.2.2.2.2.1, cell_later hb4 hHeld.2.2.2.2.2.2.2.1, cell_later hb4 hHeld.2.2.2.2.2.2.2.2.1, cell_later hb4 hHeld.2.2.2.2.2.2.2.2.2.1, cell_later hb4 hHeld.2.2.2.2.2.2.2.2.2.2.1, cell_later hb4 hHeld.2.2.2.2.2.2.2.2.2.2.2⟩) (fun hHeld => ?_); clear hK K; (try simp only [Act.put, List.setIfInBounds_toArray, List.set_cons_zero, List.set_cons_succ]))
  ((refine tkI 17 ?_ (hy := ?_) (h := ?_); rotate_left 1; · (intro w hSw; (try dsimp only at hSw); go_simp; (try with_reducible rfl))); (try simp only [Act.put, List.setIfInBounds_toArray, List.set_cons_zero, List.set_cons_succ]))
  ((refine tkI 18 ?_ (hy := ?_) (h := ?_); rotate_left 1; · (intro w hSw; (try dsimp only at hSw); go_simp; (try with_reducible rfl))); (try simp only [Act.put, List.setIfInBounds_toArray, List.set_cons_zero, List.set_cons_succ]))
  ((refine tkI 19 ?_ (hy := ?_) (h := ?_); rotate_left 1; · (intro w hSw; (try dsimp only at hSw); go_simp; (try with_reducible rfl))); (try simp only [Act.put, List.setIfInBounds_toArray, List.set_cons_zero, List.set_cons_succ]))
  (refine wpAnyH_done (by kernel_rfl) ?_ _)
  go_wp2_with fail
  go_ret2
  exact KeyPost.yes HVE.out (Zn.key_eq HMX.out E_RP.out E_NN.out E_DN.out E_DB.out E_DX.out) HBL.out
set_option maxRecDepth 100000 in
theorem rbuild_no (z : Zn.Z) (w : World) (hz : z.fits 140737488355328) (hv : Zn.vldE z ≠ 0) :
    Calls Tryz.prog 20 #[z.val] w (BldPost z w) := by
  have HVV := Lib.hid (show ∀ W, Calls Tryz.prog 24 #[.agg #[.int .i64 z.fmt, .string z.kind, .string z.state, .string z.sur, .string z.giv, .string z.num, .string z.nat, .string z.birth, .string z.sex, .string z.exp, .string z.opt, .string z.sec]] W fun e w' => e = .returned (.int .i64 (Zn.vldE z)) ∧ Below W.heap.size W w' from fun W => rvalidZ z W (Zn.fits_max hz))
  obtain ⟨vE, hvE⟩ : ∃ q, Zn.vldE z = q := ⟨_, rfl⟩
  rw [hvE] at HVV hv
  have HVE := Lib.hid hvE
  have hb1 := below_alloc1 w (.cells #[.int .i64 z.fmt, .string z.kind, .string z.state, .string z.sur, .string z.giv, .string z.num, .string z.nat, .string z.birth, .string z.sex, .string z.exp, .string z.opt, .string z.sec] 24)
  have hbx := zbox_new_at w z z.fmt rfl
  have e1 : (vE != 0) = true := by rw [bne_iff_ne]; exact hv
  have HE' := Lib.hid hv
  clear hvE hz hv
  unfold Zn.Z.val
  go_enter Tryz.func20, Tryz.ntmps20
  go_upto_region 1 with fail
  generalize w.alloc (.cells #[.int .i64 z.fmt, .string z.kind, .string z.state, .string z.sur, .string z.giv, .string z.num, .string z.nat, .string z.birth, .string z.sex, .string z.exp, .string z.opt, .string z.sec] 24) = w1 at hb1 hbx ⊢
  have HB1 := Lib.hid hb1
  obtain ⟨x0, x1, x2, x3, x4, x5, x6, x7, x8, x9, x10, x11⟩ := hbx
  clear hb1
  go_wp2_with fail
  refine (HVV.out _).mono ?_; rintro e w2 ⟨rfl, hb2⟩
  have HBL := Lib.hid (HB1.out.trans (hb2.mono HB1.out.size))
  clear hb2 HB1 x0 x1 x2 x3 x4 x5 x6 x7 x8 x9 x10 x11
  go_wp2_with fail
  go_ret2
  exact BldPost.no HE'.out HVE.out HBL.out
theorem rbuild (z : Zn.Z) (w : World) (hz : z.fits 140737488355328) (hab : z.sur.size + z.giv.size ≤ 140737488355000) :
    Calls Tryz.prog 20 #[z.val] w (BldPost z w) := by
  by_cases hv : Zn.vldE z = 0
  · have hvl : ∀ W, Calls Tryz.prog 24 #[z.val] W fun e w' => e = .returned (.int .i64 0) ∧ Below W.heap.size W w' := fun W => hv ▸ rvalidZ z W (Zn.fits_max hz)
    have hf := (Zn.good_of hv).fmt
    have h3 : z.fmt = 1 ∨ z.fmt = 2 ∨ z.fmt = 3 := by omega
    unfold Zn.Z.val at hvl ⊢
    rcases h3 with h | h | h
    · have := rbuild_ok z 1 w h hv hab (by rw [h] at hvl; exact hvl)
      rw [h]; exact this
    · have := rbuild_ok z 2 w h hv hab (by rw [h] at hvl; exact hvl)
      rw [h]; exact this
    · have := rbuild_ok z 3 w h hv hab (by rw [h] at hvl; exact hvl)
      rw [h]; exact this
  · exact rbuild_no z w hz hv
end Go.Proofs.YtelngghecmkipaaGreatDoor
