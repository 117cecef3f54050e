/- Chapter 12: several texts in one (DatPlain2, MadeSigns, OptBack, MadeName, ZonMadeP, ZonMade). -/
import Derived.Test.YtafbhadfeemppaaGreatDoorDatParse
import Derived.Test.YtafbhadfeemppaaGreatDoorMade
import Derived.Test.YtafbhadfeemppaaGreatDoorOptGS
import Derived.IntWalk
import Derived.Test.YtafbhadfeemppaaGreatDoorZonGR
import Derived.Test.YtafbhadfeemppaaGreatDoorZonGH
import Derived.Deep.CutRange
namespace Go.Proofs.YtafbhadfeemppaaGreatDoor.Dat
open Go.RowKit

/-- The first day of month k. -/
def S (k : Int) : Int := bef (1900 + k / 12) + cum (1900 + k / 12) (k % 12 + 1)
/-- The digits of a text of three numbers. -/
theorem fm_digits (a b c : Int) (ha : 0 ≤ a ∧ a ≤ 99) (hb : 0 ≤ b ∧ b ≤ 99) (hc : 0 ≤ c ∧ c ≤ 99) (s : ByteArray) (hs : s = ⟨(fm a b c 3).toArray⟩) :
    ∃ h : s.size = 6, allD (s[0]'(by omega)) (s[1]'(by omega)) (s[2]'(by omega)) (s[3]'(by omega)) (s[4]'(by omega)) (s[5]'(by omega)) ∧ 10 * dg (s[0]'(by omega)) + dg (s[1]'(by omega)) = a ∧
      10 * dg (s[2]'(by omega)) + dg (s[3]'(by omega)) = b ∧ 10 * dg (s[4]'(by omega)) + dg (s[5]'(by omega)) = c := by
  have h6 : s.size = 6 := by subst hs; rfl
  refine ⟨h6, ?_⟩
  have d0 := b8_toNat (48 + a / 10) (by omega) (by omega)
  have d1 := b8_toNat (48 + a % 10) (by omega) (by omega)
  have d2 := b8_toNat (48 + b / 10) (by omega) (by omega)
  have d3 := b8_toNat (48 + b % 10) (by omega) (by omega)
  have d4 := b8_toNat (48 + c / 10) (by omega) (by omega)
  have d5 := b8_toNat (48 + c % 10) (by omega) (by omega)
  have e0 : ∀ h : 0 < s.size, s[0]'h = b8 (48 + a / 10) := by subst hs; intro h; rfl
  have e1 : ∀ h : 1 < s.size, s[1]'h = b8 (48 + a % 10) := by subst hs; intro h; rfl
  have e2 : ∀ h : 2 < s.size, s[2]'h = b8 (48 + b / 10) := by subst hs; intro h; rfl
  have e3 : ∀ h : 3 < s.size, s[3]'h = b8 (48 + b % 10) := by subst hs; intro h; rfl
  have e4 : ∀ h : 4 < s.size, s[4]'h = b8 (48 + c / 10) := by subst hs; intro h; rfl
  have e5 : ∀ h : 5 < s.size, s[5]'h = b8 (48 + c % 10) := by subst hs; intro h; rfl
  unfold allD isD dg
  rw [e0, e1, e2, e3, e4, e5]
  omega
/-- What is read of a day's text. -/
theorem window (n f : Int) (hn : inR n) (h1 : 1900 ≤ f) (h2 : f ≤ 2000) :
    (f ≤ yOf n ∧ yOf n < f + 100 → prV (fmt n) f = n ∧ prE (fmt n) f = 0) ∧ (¬ (f ≤ yOf n ∧ yOf n < f + 100) → prE (fmt n) f ≠ 0 ∨ prV (fmt n) f ≠ n) := by
  obtain ⟨hv, e⟩ := parts_ok n hn.1 hn.2
  obtain ⟨g1, g2, g3, g4, g5, g6⟩ := hv
  have hd := dim_bd (yOf n) (mOf n)
  obtain ⟨hs, hall, ea, eb, ec⟩ := fm_digits (yOf n % 100) (mOf n) (dOf n) (by omega) (by omega) (by omega) (fmt n) rfl
  obtain ⟨pv, pe⟩ := pr_yes h1 h2 hs hall
  rw [ea, eb, ec] at pv pe
  rw [pv, pe]
  constructor
  · rintro ⟨k1, k2⟩
    have ey : yr f (yOf n % 100) = yOf n := by unfold yr; split <;> omega
    rw [ey]
    have hv' : vld (yOf n) (mOf n) (dOf n) := ⟨g1, g2, g3, g4, g5, g6⟩
    exact ⟨by unfold ofV; rw [if_pos hv', e], by unfold ofE; rw [if_pos hv']⟩
  · intro k
    by_cases hv' : vld (yr f (yOf n % 100)) (mOf n) (dOf n)
    · refine .inr ?_
      unfold ofV; rw [if_pos hv']
      intro hh
      have := num_inj hv' ⟨g1, g2, g3, g4, g5, g6⟩ (hh.trans e.symm)
      have ey : yr f (yOf n % 100) = yOf n := this.1
      unfold yr at ey
      split at ey <;> omega
    · exact .inl (by unfold ofE; rw [if_neg hv']; omega)
end Go.Proofs.YtafbhadfeemppaaGreatDoor.Dat

namespace Go.Proofs.YtafbhadfeemppaaGreatDoor
open Go.RowKit

def isSign (c : UInt8) : Prop := (48 ≤ (c.toNat : Int) ∧ (c.toNat : Int) ≤ 57) ∨ (65 ≤ (c.toNat : Int) ∧ (c.toNat : Int) ≤ 90)
theorem u8_infoM : (Tryz.prog.info? 5).map (fun i => (i.zero, i.size, i.bytes)) = some (some (.int .u8 0), 1, 1) := by kernel_rfl
theorem own_keep {w w' : World} {B e size n g : Nat} {v : Value} {xs : List Value} (h : w.ownsRow B e size v n xs) (hg : w.grownBy w' (some g)) (hB : g < B) : w'.ownsRow B e size v n xs := by
  refine h.kept hg ?_
  rcases hv : v.ownBlock with _ | k
  · exact .inl rfl
  · refine .inr ?_
    have := own_block_le h k hv
    intro e; injection e with e; omega
def SignsPost (B g : Nat) (most : Int) (w : World) (e : Ending) (w' : World) : Prop := ∃ l : List UInt8, 1 ≤ l.length ∧ (l.length : Int) ≤ most ∧ (∀ c ∈ l, isSign c) ∧ e = .returned (.string ⟨l.toArray⟩) ∧ DiceAt B g w' ∧ w.grownBy w' (some g)
def SignsRel (B g : Nat) (most : Int) (w : World) (v i : Value) (wr : World) : Prop := ∃ (k : Nat) (l : List UInt8), i = .int .i64 k ∧ 1 ≤ l.length + k ∧ ((l.length + k : Nat) : Int) ≤ most ∧ (∀ c ∈ l, isSign c) ∧ wr.ownsRow w.heap.size 5 1 v l.length (BL l) ∧ DiceAt B g wr ∧ w.grownBy wr (some g)
instance (c : UInt8) : Decidable (isSign c) := by unfold isSign; exact inferInstance
def signTab : List UInt8 := [48, 49, 50, 51, 52, 53, 54, 55, 56, 57, 65, 66, 67, 68, 69, 70, 71, 72, 73, 74, 75, 76, 77, 78, 79, 80, 81, 82, 83, 84, 85, 86, 87, 88, 89, 90]
theorem sign_at (j : Nat) (h : j < 36) : isSign (signTab.getD j 0) := (by decide : ∀ j : Fin 36, isSign (signTab.getD j.1 0)) ⟨j, h⟩
theorem sign_get (j : Nat) (h : j < (⟨signTab.toArray⟩ : ByteArray).size) : isSign ((⟨signTab.toArray⟩ : ByteArray)[j]) := by
  have h' : j < signTab.length := h
  have e : (⟨signTab.toArray⟩ : ByteArray)[j] = signTab[j]'(h') := rfl
  have := sign_at j h'
  rw [e]; simpa [List.getD, List.getElem?_eq_getElem h'] using this
set_option maxRecDepth 100000 in
set_option maxHeartbeats 800000 in
theorem made_signs (B g : Nat) (most : Int) (w : World) (hd : DiceAt B g w) (h1 : 1 ≤ most) (h2 : most ≤ 100000) :
    Calls Tryz.prog 73 #[.pointer (some ⟨g, 0, none⟩), .int .i64 most] w (SignsPost B g most w) := by
  obtain ⟨i0, hi, hz0, hz1, hz2⟩ := info_parts u8_infoM
  have hgw := hd.lt
  go_enter Tryz.func73, Tryz.ntmps73
  go_wp2_with fail
  refine (made_next B g _ _ hd h1 (by omega)).mono ?_; rintro e w1 ⟨v, v1, v2, rfl, hd1, hg1⟩
  go_wp2_with fail
  go_loopw [5, 6] (SignsRel B g most w) (fun _ i _ => (intOf i).toNat)
  case atStart =>
    refine ⟨(1 + v).toNat, [], ?_, ?_, ?_, (by intro c hc; cases hc), ⟨rfl, .inl ⟨rfl, rfl⟩⟩, hd1, hg1⟩
    · rw [Int.toNat_of_nonneg (by omega)]
    · simp; omega
    · simp; omega
  case round =>
    obtain ⟨k, l, rfl, k1, k2, hl, hown, hdr, hgr⟩ := hrel
    by_cases hk : 0 < k
    · go_wp2_with fail
      refine (made_next B g _ _ hdr (by omega) (by omega)).mono ?_; rintro e w2 ⟨x, x1, x2, rfl, hd2, hg2⟩
      have hown2 := own_keep hown hg2 hgw
      have hsg := sign_get x.toNat (by show x.toNat < 36; omega)
      have hsz := hg2.size
      have hsz0 := hgr.size
      have hgr2 := hgr.trans hg2
      clear hown hg2 hdr
      go_wp2_with (at_builtin; refine wpList_append_own _ rfl _ _ 59 rfl w.heap.size 5 i0 (.int .u8 0) 1 1 Tryz.underlying59 hi hz0 hz1 hz2 rfl (by decide) _ _ _ rfl (hown2.alloc _) ⟨w2.heap.size, 0, none⟩ 1 1 [_] rfl rfl (cell_one_new _ _ _) (by intro u hu; simp at hu; subst hu; rfl) (by unfold maxLen; omega) (by omega) (by simp; omega) ?_; intro v' w3 hown3 hg3 _)
      have hd3 : DiceAt B g w3 := (hd2.below ((Below.refl w2.heap.size w2).alloc (Nat.le_refl _) _) hd2.lt).below (B' := w.heap.size) ⟨hg3.os, hg3.tape, hg3.output, hg3.size, fun i hi => hg3.block i (by simp; omega) (fun e => by have := own_block_le hown2 i e.symm; omega)⟩ hgw
      have hgr3 : w.grownBy w3 (some g) := (hgr2.andThen (World.grownBy_alloc w2 _ none) (by intro j hj; cases hj)).andThen hg3 (by intro j hj; exact .inl (own_block_le hown2 j hj))
      have hown4 : w3.ownsRow w.heap.size 5 1 v' (l.length + 1) (BL (l ++ [(⟨signTab.toArray⟩ : ByteArray)[x.toNat]'(by show x.toNat < 36; omega)])) := by rw [BL_append]; exact hown3
      clear hown3 hg3 hown2 hgr2 hd2
      go_roundw
      case rel =>
        refine ⟨k - 1, l ++ [(⟨signTab.toArray⟩ : ByteArray)[x.toNat]'(by show x.toNat < 36; omega)], ?_, ?_, ?_, ?_, ?_, hd3, hgr3⟩
        rotate_left 4
        · rw [List.length_append]; exact hown4
        · congr 1; omega
        · simp; omega
        · simp; omega
        · intro c hc
          rcases List.mem_append.1 hc with h | h
          · exact hl c h
          · have := List.mem_singleton.1 h; subst this; exact hsg
      case measure => simp [intOf]; omega
    · obtain rfl : k = 0 := by omega
      have hcv := conv_own (P := Tryz.prog) 59 9 5 l l.length rfl hown Tryz.underlying59 Tryz.underlying5 Tryz.underlying9
      clear hown
      go_wp2_with fail
      go_ret
      exact ⟨l, by omega, by omega, hl, rfl, hdr, hgr⟩
end Go.Proofs.YtafbhadfeemppaaGreatDoor

namespace Go.Proofs.YtafbhadfeemppaaGreatDoor.Opt
open Go.RowKit Go.Lib

section
variable {b : UInt8} (hb : isL b = false)
include hb
theorem isL_neb {c : UInt8} (h : isL c = true) : c ≠ b := by rintro rfl; rw [hb] at h; cases h
omit hb in
theorem wAt_appendb {a : List UInt8} (m : List UInt8) {k : Nat} (hk : k < a.length) (h : wAt b a k = true) : wAt b (a ++ m) k = true := by
  unfold wAt at *
  rw [getD_left a m k hk, getD_left a m (k - 1) (by omega)]
  simp only [Bool.or_eq_true, Bool.and_eq_true, decide_eq_true_eq, List.length_append] at *
  rcases h with h | ⟨⟨⟨h1, h2⟩, h3⟩, h4⟩
  · exact .inl h
  · exact .inr ⟨⟨⟨h1, h2⟩, by omega⟩, h4⟩
omit hb in
theorem wordsb_snoc {a : List UInt8} {c : UInt8} (h : words b a = true) (hc : isL c = true) : words b (a ++ [c]) = true := by
  refine words_yes fun k hk => ?_
  rcases Nat.lt_or_ge k a.length with g | g
  · exact wAt_appendb _ g (words_at h k g)
  · obtain rfl : k = a.length := by simp at hk; omega
    unfold wAt
    have := getD_right a [c] 0
    rw [Nat.add_zero] at this
    rw [this]; simp [hc]
theorem wordsb_last {a : List UInt8} (h : words b a = true) (hne : a ≠ []) : a.getD (a.length - 1) 0 ≠ b := by
  have hl : 0 < a.length := List.length_pos_iff.2 hne
  have := words_at h (a.length - 1) (by omega)
  unfold wAt at this
  simp only [Bool.or_eq_true, Bool.and_eq_true, decide_eq_true_eq] at this
  rcases this with g | ⟨⟨_, g⟩, _⟩
  · exact isL_neb hb g
  · omega
theorem wordsb_gap {a : List UInt8} {c : UInt8} (h : words b a = true) (hne : a ≠ []) (hc : isL c = true) : words b (a ++ [b, c]) = true := by
  have hl : 0 < a.length := List.length_pos_iff.2 hne
  refine words_yes fun k hk => ?_
  rcases Nat.lt_or_ge k a.length with g | g
  · exact wAt_appendb _ g (words_at h k g)
  · have hk' : k = a.length ∨ k = a.length + 1 := by simp at hk; omega
    unfold wAt
    rcases hk' with rfl | rfl
    · have e1 := getD_right a [b, c] 0
      rw [Nat.add_zero] at e1
      rw [e1, getD_left a _ (a.length - 1) (by omega)]
      have hn : (a.getD (a.length - 1) 0 == b) = false := by rw [beq_eq_false_iff_ne]; exact wordsb_last hb h hne
      unfold bne
      rw [hn]; simp [hl]
    · rw [getD_right a [b, c] 1]; simp [hc]
omit hb in
theorem wordsb_letters {a m : List UInt8} (h : words b a = true) (hm : m.all isL = true) : words b (a ++ m) = true := by
  induction m generalizing a with
  | nil => simpa using h
  | cons c r ih =>
    simp only [List.all_cons, Bool.and_eq_true] at hm
    have := ih (wordsb_snoc h hm.1) hm.2
    simpa using this
/-- A further word. -/
theorem wordsb_word {a m : List UInt8} (h : words b a = true) (hne : a ≠ []) (hm : m.all isL = true) (hm' : m ≠ []) : words b (a ++ [b] ++ m) = true := by
  cases m with
  | nil => exact absurd rfl hm'
  | cons c r =>
    simp only [List.all_cons, Bool.and_eq_true] at hm
    have := wordsb_letters (wordsb_gap hb h hne hm.1) hm.2
    simpa using this
omit hb in
end
theorem words_mem {b : UInt8} {a : List UInt8} (h : words b a = true) {c : UInt8} (hc : c ∈ a) : isL c = true ∨ c = b := by
  obtain ⟨k, hk, rfl⟩ := List.getElem_of_mem hc
  have := words_at h k hk
  unfold wAt at this
  rw [getD_eq _ _ hk] at this
  simp only [Bool.or_eq_true, Bool.and_eq_true, beq_iff_eq] at this
  rcases this with h | ⟨⟨⟨h, _⟩, _⟩, _⟩
  · exact .inl h
  · exact .inr h
theorem sub_getD {a : List UInt8} (k : Nat) (hk : k < a.length) : (sub 32 60 a).getD k 0 = if a.getD k 0 = 32 then 60 else a.getD k 0 := by
  rw [getD_eq _ _ (by rw [sub_length]; exact hk), getD_eq _ _ hk]
  simp [sub]
theorem words_sub {a : List UInt8} (h : words 32 a = true) : words 60 (sub 32 60 a) = true := by
  refine words_yes fun k hk => ?_
  rw [sub_length] at hk
  have := words_at h k hk
  unfold wAt at *
  rw [sub_getD k hk, sub_getD (k - 1) (by omega), sub_length]
  simp only [Bool.or_eq_true, Bool.and_eq_true, decide_eq_true_eq, beq_iff_eq, bne_iff_ne] at *
  rcases this with h' | ⟨⟨⟨h1, h2⟩, h3⟩, h4⟩
  · left; rw [if_neg]; exact h'; exact isL_neb (by decide) h'
  · refine .inr ⟨⟨⟨by rw [if_pos h1], h2⟩, h3⟩, ?_⟩
    rw [if_neg h4]
    have hm : a.getD (k - 1) 0 ∈ a := by rw [getD_eq _ _ (by omega)]; exact List.getElem_mem _
    rcases words_mem h hm with g | g
    · exact isL_neb (by decide) g
    · exact absurd g h4
theorem chars_words {a : List UInt8} (h : words 60 a = true) : chars a = true := by
  refine List.all_eq_true.2 fun c hc => ?_
  rcases words_mem h hc with g | g
  · simp [fchar, g]
  · subst g; decide
theorem chars_append (a b : List UInt8) : chars (a ++ b) = (chars a && chars b) := by simp [chars]
/-- The field of names. -/
def fld (a b : List UInt8) (w : Nat) : List UInt8 := (nmL a b ++ List.replicate w 60).take w
theorem nmL_chars {a b : List UInt8} (ha : words 32 a = true) (hb : words 32 b = true) : chars (nmL a b) = true := by
  unfold nmL
  split
  · exact chars_words (words_sub ha)
  · rw [chars_append, chars_append, chars_words (words_sub ha), chars_words (words_sub hb)]; decide
end Go.Proofs.YtafbhadfeemppaaGreatDoor.Opt

namespace Go.Proofs.YtafbhadfeemppaaGreatDoor
open Go.RowKit

namespace Made
def nm : List (List UInt8) := [[65], [69, 82, 73, 75, 83, 83, 79, 78], [77, 65, 82, 73, 65], [68, 69], [76, 79, 83], [79, 75], [86, 65, 78, 68, 69, 82, 86, 65, 76, 75], [90, 90]]
def nmAt (j : Nat) : List UInt8 := nm.getD j []
def nmV (j : Nat) : Value := .string ⟨(nmAt j).toArray⟩
theorem nm_ok (j : Nat) (h : j < 8) : (nmAt j).all Opt.isL = true ∧ nmAt j ≠ [] ∧ (nmAt j).length ≤ 10 :=
  (by decide : ∀ j : Fin 8, (nmAt j.1).all Opt.isL = true ∧ nmAt j.1 ≠ [] ∧ (nmAt j.1).length ≤ 10) ⟨j, h⟩
end Made
def NamePost (B g : Nat) (most : Int) (w : World) (e : Ending) (w' : World) : Prop := ∃ l : List UInt8, Opt.words 32 l = true ∧ (l.length : Int) ≤ 11 * most ∧ e = .returned (.string ⟨l.toArray⟩) ∧ DiceAt B g w' ∧ w.grownBy w' (some g)
def NameRel (B g : Nat) (most : Int) (w : World) (s i : Value) (wr : World) : Prop := ∃ (k : Nat) (l : List UInt8), i = .int .i64 k ∧ s = .string ⟨l.toArray⟩ ∧ Opt.words 32 l = true ∧ (l.length : Int) + 11 * k ≤ 11 * most ∧
  wr.rowIs w.heap.size 125 8 Made.nmV ∧ DiceAt B g wr ∧ w.grownBy wr (some g)
theorem row_grown {w w' : World} {b g n : Nat} {t : TypeId} {f : Nat → Value} (h : w.rowIs b t n f) (hg : w.grownBy w' (some g)) (hne : b ≠ g) (hb : b < w.heap.size) : w'.rowIs b t n f := by
  have e := hg.block b hb (by intro e; injection e with e; exact hne e)
  simpa [World.rowIs, e] using h

set_option maxRecDepth 100000 in
set_option maxHeartbeats 1000000 in
theorem made_name (B g : Nat) (most : Int) (w : World) (hd : DiceAt B g w) (h1 : 1 ≤ most) (h2 : most ≤ 100) :
    Calls Tryz.prog 72 #[.pointer (some ⟨g, 0, none⟩), .int .i64 most] w (NamePost B g most w) := by
  have hgw := hd.lt
  go_enter Tryz.func72, Tryz.ntmps72
  have q0 : IntKind.i64.wrap (most + 1) = most + 1 := IntWalk.i64_in _ (by omega)
  go_wp2_with fail
  have hba := (Below.refl (w.heap.size) w).alloc (Nat.le_refl _) (.cells #[.string ⟨#[65]⟩, .string ⟨#[69, 82, 73, 75, 83, 83, 79, 78]⟩, .string ⟨#[77, 65, 82, 73, 65]⟩, .string ⟨#[68, 69]⟩, .string ⟨#[76, 79, 83]⟩, .string ⟨#[79, 75]⟩, .string ⟨#[86, 65, 78, 68, 69, 82, 86, 65, 76, 75]⟩, .string ⟨#[90, 90]⟩] 125)
  have hrow : (w.alloc (.cells #[.string ⟨#[65]⟩, .string ⟨#[69, 82, 73, 75, 83, 83, 79, 78]⟩, .string ⟨#[77, 65, 82, 73, 65]⟩, .string ⟨#[68, 69]⟩, .string ⟨#[76, 79, 83]⟩, .string ⟨#[79, 75]⟩, .string ⟨#[86, 65, 78, 68, 69, 82, 86, 65, 76, 75]⟩, .string ⟨#[90, 90]⟩] 125)).rowIs w.heap.size 125 8 Made.nmV :=
    World.rowIs_alloc _ _ _ _ (by
      intro i hi
      have : i = 0 ∨ i = 1 ∨ i = 2 ∨ i = 3 ∨ i = 4 ∨ i = 5 ∨ i = 6 ∨ i = 7 := by simp at hi; omega
      rcases this with rfl | rfl | rfl | rfl | rfl | rfl | rfl | rfl <;> rfl)
  have hga := World.grownBy_alloc w (.cells #[.string ⟨#[65]⟩, .string ⟨#[69, 82, 73, 75, 83, 83, 79, 78]⟩, .string ⟨#[77, 65, 82, 73, 65]⟩, .string ⟨#[68, 69]⟩, .string ⟨#[76, 79, 83]⟩, .string ⟨#[79, 75]⟩, .string ⟨#[86, 65, 78, 68, 69, 82, 86, 65, 76, 75]⟩, .string ⟨#[90, 90]⟩] 125) (some g)
  have hda := hd.below hba hgw
  have hsz : w.heap.size < (w.alloc (.cells #[.string ⟨#[65]⟩, .string ⟨#[69, 82, 73, 75, 83, 83, 79, 78]⟩, .string ⟨#[77, 65, 82, 73, 65]⟩, .string ⟨#[68, 69]⟩, .string ⟨#[76, 79, 83]⟩, .string ⟨#[79, 75]⟩, .string ⟨#[86, 65, 78, 68, 69, 82, 86, 65, 76, 75]⟩, .string ⟨#[90, 90]⟩] 125)).heap.size := by
    show _ < (w.heap.push _).size; rw [Array.size_push]; omega
  generalize w.alloc (.cells #[.string ⟨#[65]⟩, .string ⟨#[69, 82, 73, 75, 83, 83, 79, 78]⟩, .string ⟨#[77, 65, 82, 73, 65]⟩, .string ⟨#[68, 69]⟩, .string ⟨#[76, 79, 83]⟩, .string ⟨#[79, 75]⟩, .string ⟨#[86, 65, 78, 68, 69, 82, 86, 65, 76, 75]⟩, .string ⟨#[90, 90]⟩] 125) = wa at hba hrow hga hda hsz ⊢
  refine (made_next B g _ _ hda (by omega) (by omega)).mono ?_; rintro e w1 ⟨v, v1, v2, rfl, hd1, hg1⟩
  have hrow1 := row_grown hrow hg1 (by omega) hsz
  have hgr1 := hga.trans hg1
  clear hba hrow hga hda hg1 q0 hd
  go_wp2_with fail
  go_loopw [6, 7] (NameRel B g most w) (fun _ i _ => (intOf i).toNat)
  case atStart =>
    exact ⟨v.toNat, [], by rw [Int.toNat_of_nonneg v1], rfl, rfl, by simp; omega, hrow1, hd1, hgr1⟩
  case round =>
    obtain ⟨k, l, rfl, rfl, hl, hlen, hrow, hdr, hgr⟩ := hrel
    clear hrow1 hd1 hgr1
    by_cases hk : 0 < k
    · have hbw : w.heap.size < wr.heap.size := by
        rcases Nat.lt_or_ge w.heap.size wr.heap.size with h | h
        · exact h
        · exfalso; have := hrow.cell (i := 0) (by omega); have h3 := World.block_lt_of_cell? _ _ this; exact absurd h3 (by show ¬ w.heap.size < _; omega)
      obtain ⟨S, hS⟩ : ∃ S : ByteArray, (⟨l.toArray⟩ : ByteArray) = S := ⟨_, rfl⟩
      have hSs : S.size = l.length := by rw [← hS, str_size]
      have hSs2 : S.size ≤ 1100 := by omega
      have HSS := Lib.hid hSs
      rw [hS]
      have hem := fun (b : Bool) (h : l.isEmpty = b) => (str_empty (s := S) (l := l) (by rw [← hS]) h).1
      have HEM := Lib.hid hem
      have HS := Lib.hid hS; clear hS hem
      have hone : (⟨#[32]⟩ : ByteArray).size = 1 := rfl
      by_cases he : l = []
      · have e1 := HEM.out true (by rw [he]; rfl)
        have HE := Lib.hid he; clear he
        go_wp2_with fail
        refine (made_next B g _ _ hdr (by omega) (by omega)).mono ?_; rintro e w2 ⟨x, x1, x2, rfl, hd2, hg2⟩
        have hrow2 := row_grown hrow hg2 (by have := hgw; omega) hbw
        have hgr2 := hgr.trans hg2
        have hcell := hrow2.cell (i := x.toNat) (by omega)
        have hok := Made.nm_ok x.toNat (by omega)
        unfold Made.nmV at hcell
        obtain ⟨N, hN⟩ : ∃ N : ByteArray, (⟨(Made.nmAt x.toNat).toArray⟩ : ByteArray) = N := ⟨_, rfl⟩
        have hNs : N.size ≤ 10 := by rw [← hN, str_size]; omega
        rw [hN] at hcell
        have hadd : S ++ N = ⟨(l ++ Made.nmAt x.toNat).toArray⟩ := by rw [← HS.out, ← hN, str_add]
        have hwd : Opt.words 32 (l ++ Made.nmAt x.toNat) = true := Opt.wordsb_letters hl hok.1
        have hln : ((l ++ Made.nmAt x.toNat).length : Int) + 11 * ((k - 1 : Nat) : Int) ≤ 11 * most := by rw [List.length_append]; omega
        have HADD := Lib.hid hadd; have HWD := Lib.hid hwd; have HLN := Lib.hid hln
        have hz : S.size + N.size ≤ 9223372036854775807 := by omega
        clear hN hadd hwd hln hok hrow hg2 hdr hgr HEM
        go_wp2_with fail
        go_roundw
        case rel => exact ⟨k - 1, l ++ Made.nmAt x.toNat, by congr 1; omega, by rw [HADD.out], HWD.out, HLN.out, hrow2, hd2, hgr2⟩
        case measure => simp [intOf]; omega
      · have e1 := HEM.out false (by cases l with | nil => exact absurd rfl he | cons _ _ => rfl)
        have HE := Lib.hid he; clear he
        have hz0 : S.size + (⟨#[32]⟩ : ByteArray).size ≤ 9223372036854775807 := by rw [hone]; omega
        go_wp2_with fail
        refine (made_next B g _ _ hdr (by omega) (by omega)).mono ?_; rintro e w2 ⟨x, x1, x2, rfl, hd2, hg2⟩
        have hrow2 := row_grown hrow hg2 (by have := hgw; omega) hbw
        have hgr2 := hgr.trans hg2
        have hcell := hrow2.cell (i := x.toNat) (by omega)
        have hok := Made.nm_ok x.toNat (by omega)
        unfold Made.nmV at hcell
        obtain ⟨N, hN⟩ : ∃ N : ByteArray, (⟨(Made.nmAt x.toNat).toArray⟩ : ByteArray) = N := ⟨_, rfl⟩
        have hNs : N.size ≤ 10 := by rw [← hN, str_size]; omega
        rw [hN] at hcell
        have hsp : (S ++ (⟨#[32]⟩ : ByteArray)).size ≤ 1101 := by rw [ByteArray.size_append, hone]; omega
        have hadd : S ++ (⟨#[32]⟩ : ByteArray) ++ N = ⟨(l ++ [32] ++ Made.nmAt x.toNat).toArray⟩ := by rw [← HS.out, ← hN, ← str_add, ← str_add]
        have hwd : Opt.words 32 (l ++ [32] ++ Made.nmAt x.toNat) = true := Opt.wordsb_word (by decide) hl HE.out hok.1 hok.2.1
        have hln : ((l ++ [32] ++ Made.nmAt x.toNat).length : Int) + 11 * ((k - 1 : Nat) : Int) ≤ 11 * most := by simp only [List.length_append, List.length_singleton]; omega
        have HWD := Lib.hid hwd; have HLN := Lib.hid hln
        generalize S ++ (⟨#[32]⟩ : ByteArray) = C at hsp hadd ⊢
        have HADD := Lib.hid hadd
        have hz : C.size + N.size ≤ 9223372036854775807 := by omega
        clear hN hadd hwd hln hok hrow hg2 hdr hgr HEM
        go_wp2_with fail
        go_roundw
        case rel => exact ⟨k - 1, l ++ [32] ++ Made.nmAt x.toNat, by congr 1; omega, by rw [HADD.out], HWD.out, HLN.out, hrow2, hd2, hgr2⟩
        case measure => simp [intOf]; omega
    · obtain rfl : k = 0 := by omega
      go_wp2_with fail
      go_ret
      exact ⟨l, hl, by omega, by first | rfl | (simp), hdr, hgr⟩
end Go.Proofs.YtafbhadfeemppaaGreatDoor

namespace Go.Proofs.YtafbhadfeemppaaGreatDoor
open Go.RowKit
namespace Zn
theorem isDig_of {c : UInt8} (h : Dat.isD c) : isDig c = true := by unfold isDig; rw [decide_eq_true h.1, decide_eq_true h.2]; rfl
theorem isD_ne {c : UInt8} (h : Dat.isD c) : c ≠ 60 := by
  intro e; subst e
  have := h.2
  revert this; decide
theorem pair_of {a b : UInt8} (ha : Dat.isD a) (hb : Dat.isD b) : pair a b = ((10 : Nat) : Int) * Dat.dg a + Dat.dg b := by
  unfold pair
  rw [if_neg (fun h => isD_ne ha h.1), if_pos (by rw [isDig_of ha, isDig_of hb]; rfl)]
  rfl
theorem birth_fmt (n : Int) (h : 0 ≤ n) (h' : n ≤ 73048) : birthB (Dat.fmt n) = true := by
  obtain ⟨⟨g1, g2, g3, g4, g5, g6⟩, _⟩ := Dat.parts_ok n h h'
  have hd := Dat.dim_bd (Dat.yOf n) (Dat.mOf n)
  obtain ⟨hs, ⟨a0, a1, a2, a3, a4, a5⟩, ea, eb, ec⟩ := Dat.fm_digits (Dat.yOf n % 100) (Dat.mOf n) (Dat.dOf n) (by omega) (by omega) (by omega) (Dat.fmt n) rfl
  unfold birthB
  rw [dif_pos hs, pair_of a0 a1, pair_of a2 a3, pair_of a4 a5, ea, eb, ec]
  have p0 : pairOk 0 (Dat.yOf n % 100) = true := by unfold pairOk; rw [if_pos rfl, decide_eq_true_eq]; omega
  have p1 : pairOk 1 (Dat.mOf n) = true := by
    unfold pairOk
    rw [if_neg (by decide), if_pos rfl, Bool.or_eq_true, decide_eq_true_eq]; right; omega
  have p2 : pairOk 2 (Dat.dOf n) = true := by
    unfold pairOk
    rw [if_neg (by decide), if_neg (by decide), Bool.or_eq_true, decide_eq_true_eq]; right; omega
  rw [p0, p1, p2]; rfl
theorem exp_fmt (n : Int) (h : 36524 ≤ n) (h' : n ≤ 72523) : Dat.prE (Dat.fmt n) 2000 = 0 := by
  refine ((Dat.window n 2000 ⟨by omega, by omega⟩ (by decide) (by decide)).1 ?_).2
  unfold Dat.yOf
  rw [if_neg (by omega)]
  omega
theorem sign_ok {c : UInt8} (h : isSign c) : Opt.ok c = true ∧ c ≠ 60 := by
  unfold isSign at h
  constructor
  · unfold Opt.ok Opt.val
    rcases h with h | h
    · rw [if_pos h]; exact decide_eq_true (by omega)
    · rw [if_neg (by omega), if_pos h]; exact decide_eq_true (by omega)
  · intro e; subst e
    revert h; decide
theorem signs_plain {l : List UInt8} (h : ∀ c ∈ l, isSign c) : plain ⟨l.toArray⟩ = true := by
  unfold plain
  refine List.all_eq_true.2 fun c hc => ?_
  have := sign_ok (h c hc)
  rw [this.1, Bool.true_and, bne_iff_ne]
  exact this.2
theorem signs_extra {l : List UInt8} (h : ∀ c ∈ l, isSign c) : extra ⟨l.toArray⟩ = true := by
  unfold extra
  simp only [Bool.and_eq_true, bne_iff_ne]
  refine ⟨List.all_eq_true.2 fun c hc => (sign_ok (h c hc)).1, fun e => ?_, fun e => ?_⟩
  · exact (sign_ok (h 60 (List.mem_of_head? e))).2 rfl
  · exact (sign_ok (h 60 (List.mem_of_getLast? e))).2 rfl
theorem extra_nil : extra ⟨#[]⟩ = true := by decide
/-- What is made is a valid zone. -/
theorem good_made {F : Int} {KD ST SU GI NU NA BI SX EX OP SC : ByteArray} (hF : 1 ≤ F ∧ F ≤ 3) (h1 : letters KD 2 = true) (h2 : letters ST 3 = true) (h3 : Opt.words 32 SU.data.toList = true) (h4 : SU.size ≠ 0) (h5 : Opt.words 32 GI.data.toList = true)
    (h6 : 1 ≤ NU.size ∧ (NU.size : Int) ≤ longest F) (h7 : plain NU = true) (h8 : letters NA 3 = true) (h9 : birthB BI = true) (h10 : sexB SX = true) (h11 : Dat.prE EX 2000 = 0) (h12 : extra OP = true) (h13 : (OP.size : Int) ≤ wide F - (if (9 : Int) < NU.size then (NU.size : Int) - 7 else 0)) (h14 : extra SC = true)
    (h15 : F ≠ 1 → SC.size = 0) (h16 : SC.size ≤ 11) : Good ⟨F, KD, ST, SU, GI, NU, NA, BI, SX, EX, OP, SC⟩ :=
  ⟨hF, h1, h2, h3, h4, h5, by show NU.size ≠ 0; omega, h7, h6.2, h8, h9, h10, h11, h12, h14, h15, by show (OP.size : Int) + (if (9 : Int) < NU.size then (NU.size : Int) - 7 else 0) ≤ wide F; omega, by show (SC.size : Int) ≤ 11; omega⟩
theorem room_nil {F : Int} {n : Nat} (hF : 1 ≤ F ∧ F ≤ 3) (h : (n : Int) ≤ longest F) : (0 : Int) ≤ wide F - (if (9 : Int) < n then (n : Int) - 7 else 0) := by
  have h3 : F = 1 ∨ F = 2 ∨ F = 3 := by omega
  rcases h3 with rfl | rfl | rfl
  · have e1 : longest 1 = 20 := rfl; have e2 : wide 1 = 15 := rfl; rw [e1] at h; rw [e2]; split <;> omega
  · have e1 : longest 2 = 14 := rfl; have e2 : wide 2 = 7 := rfl; rw [e1] at h; rw [e2]; split <;> omega
  · have e1 : longest 3 = 9 := rfl; have e2 : wide 3 = 14 := rfl; rw [e1] at h; rw [e2]; split <;> omega
end Zn
end Go.Proofs.YtafbhadfeemppaaGreatDoor

namespace Go.Proofs.YtafbhadfeemppaaGreatDoor
open Go.RowKit

theorem ZBox.set {w : World} {g : Nat} {z z' : Zn.Z} (h : ZBox w g z) (i : Nat) (v : Value) (hz : (#[.int .i64 z.fmt, .string z.kind, .string z.state, .string z.sur, .string z.giv, .string z.num, .string z.nat, .string z.birth, .string z.sex, .string z.exp, .string z.opt, .string z.sec] : Array Value).setIfInBounds i v = #[.int .i64 z'.fmt, .string z'.kind, .string z'.state, .string z'.sur, .string z'.giv, .string z'.num, .string z'.nat, .string z'.birth, .string z'.sex, .string z'.exp, .string z'.opt, .string z'.sec]) : ZBox (w.setCell ⟨g, i, none⟩ v) g z' := by
  have := heap_setCell_same w g i _ _ v h
  rw [hz] at this
  exact this
/-- What the maker has made so far: the zone in block g3. -/
def PZ (w : World) (B g g2 g3 : Nat) (z : Zn.Z) (W : World) : Prop := ZBox W g3 z ∧ ZBox W g2 Zn.Z.zero ∧ DiceAt B g W ∧ w.grownBy W (some g) ∧ g < w.heap.size ∧ w.heap.size ≤ g2 ∧ w.heap.size ≤ g3 ∧ g2 ≠ g3
theorem PZ.later {w W W' : World} {B g g2 g3 : Nat} {z : Zn.Z} (h : PZ w B g g2 g3 z W) (hb : Below W.heap.size W W') : PZ w B g g2 g3 z W' :=
  ⟨h.1.later hb, h.2.1.later hb, h.2.2.1.below hb h.2.2.1.lt, grown_trans h.2.2.2.1 (grown_of_below hb _), h.2.2.2.2⟩
theorem PZ.dice {w W W' : World} {B g g2 g3 : Nat} {z : Zn.Z} (h : PZ w B g g2 g3 z W) (hd : DiceAt B g W') (hg : W.grownBy W' (some g)) : PZ w B g g2 g3 z W' :=
  ⟨h.1.grown hg (by have := h.2.2.2.2; simp; omega), h.2.1.grown hg (by have := h.2.2.2.2; simp; omega), hd, grown_trans h.2.2.2.1 hg, h.2.2.2.2⟩
theorem PZ.set {w W : World} {B g g2 g3 : Nat} {z : Zn.Z} (h : PZ w B g g2 g3 z W) (i : Nat) (v : Value) (z' : Zn.Z) (hz : (#[.int .i64 z.fmt, .string z.kind, .string z.state, .string z.sur, .string z.giv, .string z.num, .string z.nat, .string z.birth, .string z.sex, .string z.exp, .string z.opt, .string z.sec] : Array Value).setIfInBounds i v = #[.int .i64 z'.fmt, .string z'.kind, .string z'.state, .string z'.sur, .string z'.giv, .string z'.num, .string z'.nat, .string z'.birth, .string z'.sex, .string z'.exp, .string z'.opt, .string z'.sec]) :
    PZ w B g g2 g3 z' (W.setCell ⟨g3, i, none⟩ v) := by
  obtain ⟨h1, h2, h3, h4, h5, h6, h7, h8⟩ := h
  have hb : Below w.heap.size W (W.setCell ⟨g3, i, none⟩ v) := (Below.refl _ _).setCell (p := ⟨g3, i, none⟩) h7 v
  exact ⟨h1.set i v hz, (Below.heap_setCell W ⟨g3, i, none⟩ v g2 h8).trans h2, h3.below hb (by omega), ⟨hb.os.trans h4.os, hb.tape.trans h4.tape, hb.output.trans h4.output, Nat.le_trans h4.size hb.size, fun j hj hne => (hb.block j (by omega)).trans (h4.block j hj hne)⟩, h5, h6, h7, h8⟩
theorem PZ.frees {w W : World} {B g g2 g3 : Nat} {z : Zn.Z} (h : PZ w B g g2 g3 z W) : W.frozen? ⟨g3, 0, none⟩ = false ∧ W.frozen? ⟨g3, 1, none⟩ = false ∧ W.frozen? ⟨g3, 2, none⟩ = false ∧ W.frozen? ⟨g3, 3, none⟩ = false ∧ W.frozen? ⟨g3, 4, none⟩ = false ∧ W.frozen? ⟨g3, 5, none⟩ = false ∧ W.frozen? ⟨g3, 6, none⟩ = false ∧ W.frozen? ⟨g3, 7, none⟩ = false ∧ W.frozen? ⟨g3, 8, none⟩ = false ∧ W.frozen? ⟨g3, 9, none⟩ = false ∧ W.frozen? ⟨g3, 10, none⟩ = false ∧ W.frozen? ⟨g3, 11, none⟩ = false :=
  ⟨frozen_of_row W g3 0 _ _ h.1, frozen_of_row W g3 1 _ _ h.1, frozen_of_row W g3 2 _ _ h.1, frozen_of_row W g3 3 _ _ h.1, frozen_of_row W g3 4 _ _ h.1, frozen_of_row W g3 5 _ _ h.1, frozen_of_row W g3 6 _ _ h.1, frozen_of_row W g3 7 _ _ h.1, frozen_of_row W g3 8 _ _ h.1, frozen_of_row W g3 9 _ _ h.1, frozen_of_row W g3 10 _ _ h.1, frozen_of_row W g3 11 _ _ h.1⟩
theorem PZ.frees2 {w W : World} {B g g2 g3 : Nat} {z : Zn.Z} (h : PZ w B g g2 g3 z W) : W.frozen? ⟨g2, 0, none⟩ = false ∧ W.frozen? ⟨g2, 1, none⟩ = false ∧ W.frozen? ⟨g2, 2, none⟩ = false ∧ W.frozen? ⟨g2, 3, none⟩ = false ∧ W.frozen? ⟨g2, 4, none⟩ = false ∧ W.frozen? ⟨g2, 5, none⟩ = false ∧ W.frozen? ⟨g2, 6, none⟩ = false ∧ W.frozen? ⟨g2, 7, none⟩ = false ∧ W.frozen? ⟨g2, 8, none⟩ = false ∧ W.frozen? ⟨g2, 9, none⟩ = false ∧ W.frozen? ⟨g2, 10, none⟩ = false ∧ W.frozen? ⟨g2, 11, none⟩ = false :=
  ⟨frozen_of_row W g2 0 _ _ h.2.1, frozen_of_row W g2 1 _ _ h.2.1, frozen_of_row W g2 2 _ _ h.2.1, frozen_of_row W g2 3 _ _ h.2.1, frozen_of_row W g2 4 _ _ h.2.1, frozen_of_row W g2 5 _ _ h.2.1, frozen_of_row W g2 6 _ _ h.2.1, frozen_of_row W g2 7 _ _ h.2.1, frozen_of_row W g2 8 _ _ h.2.1, frozen_of_row W g2 9 _ _ h.2.1, frozen_of_row W g2 10 _ _ h.2.1, frozen_of_row W g2 11 _ _ h.2.1⟩
/-- What is made of a zone. -/
def ZonePost (B g : Nat) (w : World) (e : Ending) (w' : World) : Prop := ∃ z : Zn.Z, e = .returned z.val ∧ (Zn.Good z ∧ z.sur.size ≤ 33 ∧ z.giv.size ≤ 33) ∧ DiceAt B g w' ∧ w.grownBy w' (some g)
theorem results_zone (tmps : Array Value) (w : World) (g : Nat) (z : Zn.Z) (ha : tmps.getD 2 undef = .pointer (some ⟨g, 0, none⟩)) (h : ZBox w g z) :
    (results Tryz.f36 tmps).run Tryz.prog w = .ok z.val w := by
  have hp' : tmps[2]?.getD undef = .pointer (some ⟨g, 0, none⟩) := by simpa using ha
  simp [results, hp', asAddr, run_loadVar_row (P := Tryz.prog) w g _ _ _ _ _ h Tryz.underlying42 rfl Tryz.infoZone, Zn.Z.val]
theorem zone_ret {tmps : Array Value} {w W : World} {B g g2 g3 : Nat} {z : Zn.Z} (h : PZ w B g g2 g3 z W) (hg : Zn.Good z ∧ z.sur.size ≤ 33 ∧ z.giv.size ≤ 33) (ha : tmps.getD 2 undef = .pointer (some ⟨g2, 0, none⟩)) :
    bodyPost Tryz.prog Tryz.f36 (ZonePost B g w) Exit.ret { tmps := tmps, defers := [] } (zset W g2 z) := by
  obtain ⟨h1, h2, h3, h4, h5, h6, h7, h8⟩ := h
  have hb : Below w.heap.size W (zset W g2 z) := zset_below (Below.refl _ W) h6 z
  refine bodyPost_ret (results_zone _ _ g2 z ha (zset_box h2 z)) rfl ⟨z, rfl, hg, h3.below hb (by omega), ?_⟩
  exact ⟨hb.os.trans h4.os, hb.tape.trans h4.tape, hb.output.trans h4.output, Nat.le_trans h4.size hb.size, fun j hj hne => (hb.block j (by omega)).trans (h4.block j hj hne)⟩
theorem Zn.longest_le (F : Int) : Zn.longest F ≤ 20 := by
  unfold Zn.longest; repeat' split
  all_goals omega
theorem Zn.wide_bd (F : Int) : 7 ≤ Zn.wide F ∧ Zn.wide F ≤ 15 := by
  unfold Zn.wide; repeat' split
  all_goals omega
theorem Zn.most_ok {F m : Int} (hF : 1 ≤ F ∧ F ≤ 3) (h : m = 9 ∨ m = 14 ∧ F = 2) : 9 ≤ m ∧ m ≤ Zn.longest F := by
  have h3 : F = 1 ∨ F = 2 ∨ F = 3 := by omega
  have e1 : Zn.longest 1 = 20 := rfl; have e2 : Zn.longest 2 = 14 := rfl; have e3 : Zn.longest 3 = 9 := rfl
  rcases h3 with rfl | rfl | rfl <;> omega
theorem ret_sub0 (a : Int) : Value.int .i64 a = .int .i64 (a - 0) := by rw [Int.sub_zero]
theorem PZ.gne {w W : World} {B g g2 g3 : Nat} {z : Zn.Z} (h : PZ w B g g2 g3 z W) : W.heap.size ≠ g := by have := h.2.2.1.lt; omega
theorem pick_text {W0 W1 : World} {g ga : Nat} {KS : List ByteArray} {P : ByteArray → Bool} (hr : TextsAt W0 (some ⟨ga, 0, none⟩) KS) (hg : W0.grownBy W1 (some g)) (hlt : ga < W0.heap.size) (hne : ga ≠ g) (k : Nat) (hk : k < KS.length) (hP : KS.all P = true) :
    ∃ s, W1.cell? ⟨ga, k, none⟩ = some (.string s) ∧ P s = true := by
  obtain ⟨b, off, e, hc⟩ := hr.cell k hk
  injection e with e
  injection e with e1 e2
  subst e1; subst e2
  rw [Nat.zero_add] at hc
  refine ⟨KS[k], ?_, List.all_eq_true.1 hP _ (List.getElem_mem hk)⟩
  exact (World.cell?_of_block (a := ⟨ga, k, none⟩) (hg.block ga hlt (by intro e; injection e with e; exact hne e))).trans hc
def OnePost (B g : Nat) (w : World) (e : Ending) (w' : World) : Prop := ∃ b : Bool, e = .returned (.bool b) ∧ DiceAt B g w' ∧ w.grownBy w' (some g)
theorem made_one (B g : Nat) (m : Int) (w : World) (hd : DiceAt B g w) (h1 : 1 ≤ m) (h2 : m ≤ 100000) :
    Calls Tryz.prog 38 #[.pointer (some ⟨g, 0, none⟩), .int .i64 m] w (OnePost B g w) := by
  have HN := Lib.hid (made_next B g m w hd h1 (by omega))
  clear hd
  go_enter Tryz.func38, Tryz.ntmps38
  go_wp2_with fail
  refine HN.out.mono ?_; rintro e w1 ⟨v, v1, v2, rfl, hd1, hg1⟩
  go_wp2_with fail
  go_ret
  exact ⟨_, rfl, hd1, hg1⟩
def DayPost (B g : Nat) (w : World) (e : Ending) (w' : World) : Prop := ∃ n : Int, 0 ≤ n ∧ n ≤ 73048 ∧ e = .returned (.int .i64 n) ∧ DiceAt B g w' ∧ w.grownBy w' (some g)
theorem made_day (B g : Nat) (w : World) (hd : DiceAt B g w) :
    Calls Tryz.prog 75 #[.pointer (some ⟨g, 0, none⟩)] w (DayPost B g w) := by
  have HN := Lib.hid (made_next B g 243 w hd (by decide) (by decide))
  clear hd
  go_enter Tryz.func75, Tryz.ntmps75
  go_wp2_with fail
  refine HN.out.mono ?_; rintro e w1 ⟨v, v1, v2, rfl, hd1, hg1⟩
  have HG := Lib.hid hg1
  clear hg1
  go_wp2_with fail
  refine (made_next B g 300 w1 hd1 (by decide) (by decide)).mono ?_; rintro e w2 ⟨u, u1, u2, rfl, hd2, hg2⟩
  have HG2 := Lib.hid (HG.out.trans hg2)
  clear hg2
  go_wp2_with fail
  go_ret
  exact ⟨v * 300 + u, by omega, by omega, rfl, hd2, HG2.out⟩
set_option maxRecDepth 100000 in
set_option maxHeartbeats 16000000 in
theorem made_zone (B g : Nat) (w : World) (hd : DiceAt B g w) :
    Calls Tryz.prog 36 #[.pointer (some ⟨g, 0, none⟩)] w (ZonePost B g w) := by
  have hgw := hd.lt
  have hx2 : ZBox (w.alloc (.cells #[.int .i64 0, .string ⟨#[]⟩, .string ⟨#[]⟩, .string ⟨#[]⟩, .string ⟨#[]⟩, .string ⟨#[]⟩, .string ⟨#[]⟩, .string ⟨#[]⟩, .string ⟨#[]⟩, .string ⟨#[]⟩, .string ⟨#[]⟩, .string ⟨#[]⟩] 42)) w.heap.size Zn.Z.zero := ZBox.new w Zn.Z.zero
  have ha := below_alloc1 w (.cells #[.int .i64 0, .string ⟨#[]⟩, .string ⟨#[]⟩, .string ⟨#[]⟩, .string ⟨#[]⟩, .string ⟨#[]⟩, .string ⟨#[]⟩, .string ⟨#[]⟩, .string ⟨#[]⟩, .string ⟨#[]⟩, .string ⟨#[]⟩, .string ⟨#[]⟩] 42)
  have hd0 := hd.below ha hgw
  have hga := grown_of_below ha (some g)
  clear hd ha
  go_enter Tryz.func36, Tryz.ntmps36
  go_upto_region 1 with fail
  generalize w.alloc (.cells #[.int .i64 0, .string ⟨#[]⟩, .string ⟨#[]⟩, .string ⟨#[]⟩, .string ⟨#[]⟩, .string ⟨#[]⟩, .string ⟨#[]⟩, .string ⟨#[]⟩, .string ⟨#[]⟩, .string ⟨#[]⟩, .string ⟨#[]⟩, .string ⟨#[]⟩] 42) = W0 at hx2 hd0 hga ⊢
  obtain ⟨g2, hg2⟩ : ∃ q, w.heap.size = q := ⟨_, rfl⟩
  rw [hg2] at hx2 ⊢
  have HG2 := Lib.hid hg2
  clear hg2
  go_wp2_with fail
  refine (made_next B g 3 _ hd0 (by decide) (by decide)).mono ?_; rintro e W1 ⟨v, v1, v2, rfl, hd1, hg1⟩
  have HX := Lib.hid (hx2.grown hg1 (by have := HG2.out; simp; omega))
  have HGA := Lib.hid (hga.trans hg1)
  clear hx2 hd0 hga hg1
  obtain ⟨F, hF⟩ : ∃ F : Int, 1 + v = F := ⟨_, rfl⟩
  have hF3 : 1 ≤ F ∧ F ≤ 3 := by omega
  go_upto_region 2 with fail
  have hb := below_alloc1 W1 (.cells #[.int .i64 F, .string ⟨#[]⟩, .string ⟨#[]⟩, .string ⟨#[]⟩, .string ⟨#[]⟩, .string ⟨#[]⟩, .string ⟨#[]⟩, .string ⟨#[]⟩, .string ⟨#[]⟩, .string ⟨#[]⟩, .string ⟨#[]⟩, .string ⟨#[]⟩] 42)
  have hp : PZ w B g g2 W1.heap.size (⟨F, ⟨#[]⟩, ⟨#[]⟩, ⟨#[]⟩, ⟨#[]⟩, ⟨#[]⟩, ⟨#[]⟩, ⟨#[]⟩, ⟨#[]⟩, ⟨#[]⟩, ⟨#[]⟩, ⟨#[]⟩⟩ : Zn.Z) (W1.alloc (.cells #[.int .i64 F, .string ⟨#[]⟩, .string ⟨#[]⟩, .string ⟨#[]⟩, .string ⟨#[]⟩, .string ⟨#[]⟩, .string ⟨#[]⟩, .string ⟨#[]⟩, .string ⟨#[]⟩, .string ⟨#[]⟩, .string ⟨#[]⟩, .string ⟨#[]⟩] 42)) :=
    ⟨ZBox.new W1 (⟨F, ⟨#[]⟩, ⟨#[]⟩, ⟨#[]⟩, ⟨#[]⟩, ⟨#[]⟩, ⟨#[]⟩, ⟨#[]⟩, ⟨#[]⟩, ⟨#[]⟩, ⟨#[]⟩, ⟨#[]⟩⟩ : Zn.Z), HX.out.later hb, hd1.below hb hd1.lt, grown_trans HGA.out (grown_of_below hb _), hgw, Nat.le_of_eq HG2.out, HGA.out.size, Nat.ne_of_lt HX.out.lt⟩
  clear hb hd1 v1 v2 HX
  generalize W1.alloc (.cells #[.int .i64 F, .string ⟨#[]⟩, .string ⟨#[]⟩, .string ⟨#[]⟩, .string ⟨#[]⟩, .string ⟨#[]⟩, .string ⟨#[]⟩, .string ⟨#[]⟩, .string ⟨#[]⟩, .string ⟨#[]⟩, .string ⟨#[]⟩, .string ⟨#[]⟩] 42) = W at hp ⊢
  obtain ⟨g3, hg3⟩ : ∃ q, W1.heap.size = q := ⟨_, rfl⟩
  rw [hg3] at hp ⊢
  have HG3 := Lib.hid hg3
  have HF3 := Lib.hid hF3
  clear hg3 hF
  have hgne : W.heap.size ≠ g := hp.gne
  go_wp2_with fail
  have hr : TextsAt (W.alloc (.cells #[.string ⟨#[80]⟩, .string ⟨#[73, 68]⟩, .string ⟨#[86]⟩, .string ⟨#[65, 67]⟩] 9)) (some ⟨W.heap.size, 0, none⟩) [⟨#[80]⟩, ⟨#[73, 68]⟩, ⟨#[86]⟩, ⟨#[65, 67]⟩] := texts_new11 W _
  replace hp := hp.later (below_alloc1 W (.cells #[.string ⟨#[80]⟩, .string ⟨#[73, 68]⟩, .string ⟨#[86]⟩, .string ⟨#[65, 67]⟩] 9))
  have hlt : W.heap.size < (W.alloc (.cells #[.string ⟨#[80]⟩, .string ⟨#[73, 68]⟩, .string ⟨#[86]⟩, .string ⟨#[65, 67]⟩] 9)).heap.size := by rw [size_alloc1]; omega
  have hne : W.heap.size ≠ g := hgne
  generalize W.alloc (.cells #[.string ⟨#[80]⟩, .string ⟨#[73, 68]⟩, .string ⟨#[86]⟩, .string ⟨#[65, 67]⟩] 9) = W0 at hr hp hlt ⊢
  generalize W.heap.size = ga at hr hlt hne ⊢
  clear hgne W
  refine (made_next B g 4 _ hp.2.2.1 (by decide) (by decide)).mono ?_; rintro e W1 ⟨v, v1, v2, rfl, hd1, hg1⟩
  replace hp := hp.dice hd1 hg1
  obtain ⟨k, rfl⟩ := Int.eq_ofNat_of_zero_le v1
  obtain ⟨KD, hcell, hKD⟩ := pick_text (P := fun s => Zn.letters s 2) hr hg1 hlt hne k (by simp; omega) (by decide)
  have HKD := Lib.hid hKD
  clear hKD hr hlt hne hd1 hg1 v1
  obtain ⟨x0, x1, x2, x3, x4, x5, x6, x7, x8, x9, x10, x11⟩ := hp.1.cells
  obtain ⟨f0, f1, f2, f3, f4, f5, f6, f7, f8, f9, f10, f11⟩ := hp.frees
  go_upto_region 3 with fail
  have hp' : PZ w B g g2 g3 (⟨F, KD, ⟨#[]⟩, ⟨#[]⟩, ⟨#[]⟩, ⟨#[]⟩, ⟨#[]⟩, ⟨#[]⟩, ⟨#[]⟩, ⟨#[]⟩, ⟨#[]⟩, ⟨#[]⟩⟩ : Zn.Z) (W1.setCell ⟨g3, 1, none⟩ (.string KD)) := hp.set 1 _ _ rfl
  clear hp x0 x1 x2 x3 x4 x5 x6 x7 x8 x9 x10 x11 f0 f1 f2 f3 f4 f5 f6 f7 f8 f9 f10 f11
  generalize W1.setCell ⟨g3, 1, none⟩ (.string KD) = W at hp' ⊢
  have hp := hp'
  clear hp'
  have hgne : W.heap.size ≠ g := hp.gne
  clear hcell v2
  go_wp2_with fail
  have hr : TextsAt (W.alloc (.cells #[.string ⟨#[85, 84, 79]⟩, .string ⟨#[68]⟩, .string ⟨#[88, 88]⟩, .string ⟨#[65, 66, 67]⟩] 9)) (some ⟨W.heap.size, 0, none⟩) [⟨#[85, 84, 79]⟩, ⟨#[68]⟩, ⟨#[88, 88]⟩, ⟨#[65, 66, 67]⟩] := texts_new11 W _
  replace hp := hp.later (below_alloc1 W (.cells #[.string ⟨#[85, 84, 79]⟩, .string ⟨#[68]⟩, .string ⟨#[88, 88]⟩, .string ⟨#[65, 66, 67]⟩] 9))
  have hlt : W.heap.size < (W.alloc (.cells #[.string ⟨#[85, 84, 79]⟩, .string ⟨#[68]⟩, .string ⟨#[88, 88]⟩, .string ⟨#[65, 66, 67]⟩] 9)).heap.size := by rw [size_alloc1]; omega
  have hne : W.heap.size ≠ g := hgne
  generalize W.alloc (.cells #[.string ⟨#[85, 84, 79]⟩, .string ⟨#[68]⟩, .string ⟨#[88, 88]⟩, .string ⟨#[65, 66, 67]⟩] 9) = W0 at hr hp hlt ⊢
  generalize W.heap.size = ga at hr hlt hne ⊢
  clear hgne W
  refine (made_next B g 4 _ hp.2.2.1 (by decide) (by decide)).mono ?_; rintro e W1 ⟨v, v1, v2, rfl, hd1, hg1⟩
  replace hp := hp.dice hd1 hg1
  obtain ⟨k, rfl⟩ := Int.eq_ofNat_of_zero_le v1
  obtain ⟨ST, hcell, hST⟩ := pick_text (P := fun s => Zn.letters s 3) hr hg1 hlt hne k (by simp; omega) (by decide)
  have HST := Lib.hid hST
  clear hST hr hlt hne hd1 hg1 v1
  obtain ⟨x0, x1, x2, x3, x4, x5, x6, x7, x8, x9, x10, x11⟩ := hp.1.cells
  obtain ⟨f0, f1, f2, f3, f4, f5, f6, f7, f8, f9, f10, f11⟩ := hp.frees
  go_upto_region 4 with fail
  have hp' : PZ w B g g2 g3 (⟨F, KD, ST, ⟨#[]⟩, ⟨#[]⟩, ⟨#[]⟩, ⟨#[]⟩, ⟨#[]⟩, ⟨#[]⟩, ⟨#[]⟩, ⟨#[]⟩, ⟨#[]⟩⟩ : Zn.Z) (W1.setCell ⟨g3, 2, none⟩ (.string ST)) := hp.set 2 _ _ rfl
  clear hp x0 x1 x2 x3 x4 x5 x6 x7 x8 x9 x10 x11 f0 f1 f2 f3 f4 f5 f6 f7 f8 f9 f10 f11
  generalize W1.setCell ⟨g3, 2, none⟩ (.string ST) = W at hp' ⊢
  have hp := hp'
  clear hp'
  have hgne : W.heap.size ≠ g := hp.gne
  clear hcell v2
  go_wp2_with fail
  have hr : TextsAt (W.alloc (.cells #[.string ⟨#[85, 84, 79]⟩, .string ⟨#[68]⟩, .string ⟨#[88, 88]⟩, .string ⟨#[65, 66, 67]⟩] 9)) (some ⟨W.heap.size, 0, none⟩) [⟨#[85, 84, 79]⟩, ⟨#[68]⟩, ⟨#[88, 88]⟩, ⟨#[65, 66, 67]⟩] := texts_new11 W _
  replace hp := hp.later (below_alloc1 W (.cells #[.string ⟨#[85, 84, 79]⟩, .string ⟨#[68]⟩, .string ⟨#[88, 88]⟩, .string ⟨#[65, 66, 67]⟩] 9))
  have hlt : W.heap.size < (W.alloc (.cells #[.string ⟨#[85, 84, 79]⟩, .string ⟨#[68]⟩, .string ⟨#[88, 88]⟩, .string ⟨#[65, 66, 67]⟩] 9)).heap.size := by rw [size_alloc1]; omega
  have hne : W.heap.size ≠ g := hgne
  generalize W.alloc (.cells #[.string ⟨#[85, 84, 79]⟩, .string ⟨#[68]⟩, .string ⟨#[88, 88]⟩, .string ⟨#[65, 66, 67]⟩] 9) = W0 at hr hp hlt ⊢
  generalize W.heap.size = ga at hr hlt hne ⊢
  clear hgne W
  refine (made_next B g 4 _ hp.2.2.1 (by decide) (by decide)).mono ?_; rintro e W1 ⟨v, v1, v2, rfl, hd1, hg1⟩
  replace hp := hp.dice hd1 hg1
  obtain ⟨k, rfl⟩ := Int.eq_ofNat_of_zero_le v1
  obtain ⟨NA, hcell, hNA⟩ := pick_text (P := fun s => Zn.letters s 3) hr hg1 hlt hne k (by simp; omega) (by decide)
  have HNA := Lib.hid hNA
  clear hNA hr hlt hne hd1 hg1 v1
  obtain ⟨x0, x1, x2, x3, x4, x5, x6, x7, x8, x9, x10, x11⟩ := hp.1.cells
  obtain ⟨f0, f1, f2, f3, f4, f5, f6, f7, f8, f9, f10, f11⟩ := hp.frees
  go_upto_region 5 with fail
  have hp' : PZ w B g g2 g3 (⟨F, KD, ST, ⟨#[]⟩, ⟨#[]⟩, ⟨#[]⟩, NA, ⟨#[]⟩, ⟨#[]⟩, ⟨#[]⟩, ⟨#[]⟩, ⟨#[]⟩⟩ : Zn.Z) (W1.setCell ⟨g3, 6, none⟩ (.string NA)) := hp.set 6 _ _ rfl
  clear hp x0 x1 x2 x3 x4 x5 x6 x7 x8 x9 x10 x11 f0 f1 f2 f3 f4 f5 f6 f7 f8 f9 f10 f11
  generalize W1.setCell ⟨g3, 6, none⟩ (.string NA) = W at hp' ⊢
  have hp := hp'
  clear hp'
  have hgne : W.heap.size ≠ g := hp.gne
  clear hcell v2
  go_wp2_with fail
  refine (made_name B g 2 _ hp.2.2.1 (by decide) (by decide)).mono ?_; rintro e W1 ⟨l, hl, hln, rfl, hd1, hg1⟩
  replace hp := hp.dice hd1 hg1
  obtain ⟨SU, hSU⟩ : ∃ q : ByteArray, (⟨l.toArray⟩ : ByteArray) = q := ⟨_, rfl⟩
  have HSU := Lib.hid (show Opt.words 32 SU.data.toList = true ∧ SU.size ≤ 33 by rw [← hSU]; exact ⟨hl, by rw [arr_size]; omega⟩)
  rw [hSU]
  clear hl hln hd1 hg1 hSU
  go_wp2_with fail
  refine (made_name B g 3 _ hp.2.2.1 (by decide) (by decide)).mono ?_; rintro e W1 ⟨l, hl, hln, rfl, hd1, hg1⟩
  replace hp := hp.dice hd1 hg1
  obtain ⟨GI, hGI⟩ : ∃ q : ByteArray, (⟨l.toArray⟩ : ByteArray) = q := ⟨_, rfl⟩
  have HGI := Lib.hid (show Opt.words 32 GI.data.toList = true ∧ GI.size ≤ 33 by rw [← hGI]; exact ⟨hl, by rw [arr_size]; omega⟩)
  rw [hGI]
  clear hl hln hd1 hg1 hGI
  obtain ⟨x0, x1, x2, x3, x4, x5, x6, x7, x8, x9, x10, x11⟩ := hp.1.cells
  obtain ⟨f0, f1, f2, f3, f4, f5, f6, f7, f8, f9, f10, f11⟩ := hp.frees
  go_upto_region 6 with fail
  have hp' : PZ w B g g2 g3 (⟨F, KD, ST, SU, ⟨#[]⟩, ⟨#[]⟩, NA, ⟨#[]⟩, ⟨#[]⟩, ⟨#[]⟩, ⟨#[]⟩, ⟨#[]⟩⟩ : Zn.Z) (W1.setCell ⟨g3, 3, none⟩ (.string SU)) := hp.set 3 _ _ rfl
  have hp2 : PZ w B g g2 g3 (⟨F, KD, ST, SU, GI, ⟨#[]⟩, NA, ⟨#[]⟩, ⟨#[]⟩, ⟨#[]⟩, ⟨#[]⟩, ⟨#[]⟩⟩ : Zn.Z) ((W1.setCell ⟨g3, 3, none⟩ (.string SU)).setCell ⟨g3, 4, none⟩ (.string GI)) := hp'.set 4 _ _ rfl
  clear hp hp' x0 x1 x2 x3 x4 x5 x6 x7 x8 x9 x10 x11 f0 f1 f2 f3 f4 f5 f6 f7 f8 f9 f10 f11 hgne
  generalize (W1.setCell ⟨g3, 3, none⟩ (.string SU)).setCell ⟨g3, 4, none⟩ (.string GI) = W2 at hp2 ⊢
  have hp := hp2
  clear hp2
  obtain ⟨x0, x1, x2, x3, x4, x5, x6, x7, x8, x9, x10, x11⟩ := hp.1.cells
  obtain ⟨f0, f1, f2, f3, f4, f5, f6, f7, f8, f9, f10, f11⟩ := hp.frees
  go_upto_if 38 with fail
  go_cut [0] from 36 to 39 (fun q W' => q = .pointer (some ⟨g, 0, none⟩) ∧ ∃ S : ByteArray, (Opt.words 32 S.data.toList = true ∧ S.size ≠ 0 ∧ S.size ≤ 33) ∧ PZ w B g g2 g3 (⟨F, KD, ST, S, GI, ⟨#[]⟩, NA, ⟨#[]⟩, ⟨#[]⟩, ⟨#[]⟩, ⟨#[]⟩, ⟨#[]⟩⟩ : Zn.Z) W')
  case first =>
    by_cases hs : SU.size = 0
    · obtain ⟨e2, e3, e4⟩ := (empty_is2 SU).1 hs
      rw [e2]
      clear e2 e3 e4
      go_wp2_with fail
      go_meet
      exact ⟨rfl, ⟨#[79, 75]⟩, ⟨by decide, by decide, by decide⟩, hp.set 3 _ _ rfl⟩
    · obtain ⟨e2, e3, e4⟩ := (empty_is2 SU).2 hs
      rw [e2]
      clear e2 e3 e4
      go_wp2_with fail
      go_meet
      exact ⟨rfl, SU, ⟨HSU.out.1, hs, HSU.out.2⟩, hp⟩
  case rest =>
  clear hp x0 x1 x2 x3 x4 x5 x6 x7 x8 x9 x10 x11 f0 f1 f2 f3 f4 f5 f6 f7 f8 f9 f10 f11 HSU
  obtain ⟨rfl, S, hS, hp⟩ := hcut
  have HSN := Lib.hid hS
  clear hS
  obtain ⟨x0, x1, x2, x3, x4, x5, x6, x7, x8, x9, x10, x11⟩ := hp.1.cells
  go_upto_region 9 with fail
  go_cut [46] from 40 to 45 (fun q W' => ∃ b : Bool, q = .bool b ∧ (b = true → F = 2) ∧ PZ w B g g2 g3 (⟨F, KD, ST, S, GI, ⟨#[]⟩, NA, ⟨#[]⟩, ⟨#[]⟩, ⟨#[]⟩, ⟨#[]⟩, ⟨#[]⟩⟩ : Zn.Z) W')
  case first =>
    by_cases h2 : F = 2
    · have e1 : ((F : Int) == 2) = true := by rw [beq_iff_eq]; exact h2
      have H2 := Lib.hid h2
      clear h2
      go_wp2_with fail
      refine (made_one B g 3 _ hp.2.2.1 (by decide) (by decide)).mono ?_; rintro e W1 ⟨b, rfl, hd1, hg1⟩
      have hp1 := hp.dice hd1 hg1
      clear hd1 hg1 e1 hp x0 x1 x2 x3 x4 x5 x6 x7 x8 x9 x10 x11
      go_wp2_with fail
      go_meet
      exact ⟨b, rfl, fun _ => H2.out, hp1⟩
    · have e1 : ((F : Int) == 2) = false := by rw [beq_eq_false_iff_ne]; exact h2
      clear h2
      go_wp2_with fail
      go_meet
      exact ⟨false, rfl, fun h => (by cases h), hp⟩
  case rest =>
  clear hp x0 x1 x2 x3 x4 x5 x6 x7 x8 x9 x10 x11
  obtain ⟨b, rfl, hb, hp⟩ := hcut
  have HBF := Lib.hid hb
  clear hb
  go_upto_if 46 with fail
  go_cut [4] from 46 to 46 (fun q W' => ∃ m : Int, q = .int .i64 m ∧ (m = 9 ∨ m = 14 ∧ F = 2) ∧ PZ w B g g2 g3 (⟨F, KD, ST, S, GI, ⟨#[]⟩, NA, ⟨#[]⟩, ⟨#[]⟩, ⟨#[]⟩, ⟨#[]⟩, ⟨#[]⟩⟩ : Zn.Z) W')
  case first =>
    cases b
    · go_wp2_with fail
      go_meet
      exact ⟨9, rfl, .inl rfl, hp⟩
    · go_wp2_with fail
      go_meet
      exact ⟨14, rfl, .inr ⟨rfl, HBF.out (by trivial)⟩, hp⟩
  case rest =>
  clear hp HBF b
  obtain ⟨m, rfl, hm, hp⟩ := hcut
  have HM := Lib.hid hm
  clear hm
  obtain ⟨x0, x1, x2, x3, x4, x5, x6, x7, x8, x9, x10, x11⟩ := hp.1.cells
  go_upto_region 11 with fail
  go_cut [53] from 47 to 52 (fun q W' => ∃ b : Bool, q = .bool b ∧ (b = true → F = 1) ∧ PZ w B g g2 g3 (⟨F, KD, ST, S, GI, ⟨#[]⟩, NA, ⟨#[]⟩, ⟨#[]⟩, ⟨#[]⟩, ⟨#[]⟩, ⟨#[]⟩⟩ : Zn.Z) W')
  case first =>
    by_cases h2 : F = 1
    · have e1 : ((F : Int) == 1) = true := by rw [beq_iff_eq]; exact h2
      have H2 := Lib.hid h2
      clear h2
      go_wp2_with fail
      refine (made_one B g 3 _ hp.2.2.1 (by decide) (by decide)).mono ?_; rintro e W1 ⟨b, rfl, hd1, hg1⟩
      have hp1 := hp.dice hd1 hg1
      clear hd1 hg1 e1 hp x0 x1 x2 x3 x4 x5 x6 x7 x8 x9 x10 x11
      go_wp2_with fail
      go_meet
      exact ⟨b, rfl, fun _ => H2.out, hp1⟩
    · have e1 : ((F : Int) == 1) = false := by rw [beq_eq_false_iff_ne]; exact h2
      clear h2
      go_wp2_with fail
      go_meet
      exact ⟨false, rfl, fun h => (by cases h), hp⟩
  case rest =>
  clear hp x0 x1 x2 x3 x4 x5 x6 x7 x8 x9 x10 x11
  obtain ⟨b, rfl, hb, hp⟩ := hcut
  have HBF := Lib.hid hb
  clear hb
  go_upto_if 53 with fail
  go_cut [4] from 53 to 53 (fun q W' => ∃ m : Int, q = .int .i64 m ∧ (9 ≤ m ∧ m ≤ Zn.longest F) ∧ PZ w B g g2 g3 (⟨F, KD, ST, S, GI, ⟨#[]⟩, NA, ⟨#[]⟩, ⟨#[]⟩, ⟨#[]⟩, ⟨#[]⟩, ⟨#[]⟩⟩ : Zn.Z) W')
  case first =>
    have hlo : 9 ≤ m ∧ m ≤ Zn.longest F := Zn.most_ok HF3.out HM.out
    have HLO := Lib.hid hlo
    clear hlo
    cases b
    · go_wp2_with fail
      go_meet
      exact ⟨m, rfl, HLO.out, hp⟩
    · go_wp2_with fail
      go_meet
      exact ⟨20, rfl, by rw [HBF.out (by trivial)]; exact ⟨by decide, by decide⟩, hp⟩
  case rest =>
  clear hp HBF b HM m
  obtain ⟨m, rfl, hm, hp⟩ := hcut
  have hm20 : 9 ≤ m ∧ m ≤ 20 := ⟨hm.1, Int.le_trans hm.2 (Zn.longest_le F)⟩
  have HM := Lib.hid hm
  clear hm
  go_wp2_with fail
  refine (made_signs B g m _ hp.2.2.1 (by omega) (by omega)).mono ?_; rintro e W1 ⟨l, hl1, hlm, hls, rfl, hd1, hg1⟩
  replace hp := hp.dice hd1 hg1
  obtain ⟨NU, hNU⟩ : ∃ q : ByteArray, (⟨l.toArray⟩ : ByteArray) = q := ⟨_, rfl⟩
  have hnz : NU.size = l.length := by rw [← hNU]; exact arr_size l
  have HNP := Lib.hid (show Zn.plain NU = true by rw [← hNU]; exact Zn.signs_plain hls)
  have HNZ := Lib.hid (show 1 ≤ NU.size ∧ (NU.size : Int) ≤ Zn.longest F from ⟨by omega, Int.le_trans (by omega) HM.out.2⟩)
  have hn20 : NU.size ≤ 20 := by omega
  rw [hNU]
  clear hl1 hlm hls hd1 hg1 hNU hnz hm20 HM
  obtain ⟨x0, x1, x2, x3, x4, x5, x6, x7, x8, x9, x10, x11⟩ := hp.1.cells
  obtain ⟨f0, f1, f2, f3, f4, f5, f6, f7, f8, f9, f10, f11⟩ := hp.frees
  go_upto_region 14 with fail
  have hp' : PZ w B g g2 g3 (⟨F, KD, ST, S, GI, NU, NA, ⟨#[]⟩, ⟨#[]⟩, ⟨#[]⟩, ⟨#[]⟩, ⟨#[]⟩⟩ : Zn.Z) (W1.setCell ⟨g3, 5, none⟩ (.string NU)) := hp.set 5 _ _ rfl
  clear hp x0 x1 x2 x3 x4 x5 x6 x7 x8 x9 x10 x11 f0 f1 f2 f3 f4 f5 f6 f7 f8 f9 f10 f11
  generalize W1.setCell ⟨g3, 5, none⟩ (.string NU) = W at hp' ⊢
  have hp := hp'
  clear hp'
  go_wp2_with fail
  refine (made_day B g _ hp.2.2.1).mono ?_; rintro e W1 ⟨n, n0, n1, rfl, hd1, hg1⟩
  replace hp := hp.dice hd1 hg1
  clear hd1 hg1
  go_wp2_with fail
  refine (rformat_yes n W1 n0 n1).mono ?_; rintro e W2 ⟨rfl, hb2⟩
  replace hp := hp.later hb2
  obtain ⟨BI, hBI⟩ : ∃ q : ByteArray, Dat.fmt n = q := ⟨_, rfl⟩
  have HBI := Lib.hid (show Zn.birthB BI = true by rw [← hBI]; exact Zn.birth_fmt n n0 n1)
  rw [hBI]
  clear hb2 hBI n0 n1
  obtain ⟨x0, x1, x2, x3, x4, x5, x6, x7, x8, x9, x10, x11⟩ := hp.1.cells
  obtain ⟨f0, f1, f2, f3, f4, f5, f6, f7, f8, f9, f10, f11⟩ := hp.frees
  go_upto_region 16 with fail
  have hp' : PZ w B g g2 g3 (⟨F, KD, ST, S, GI, NU, NA, BI, ⟨#[]⟩, ⟨#[]⟩, ⟨#[]⟩, ⟨#[]⟩⟩ : Zn.Z) (W2.setCell ⟨g3, 7, none⟩ (.string BI)) := hp.set 7 _ _ rfl
  clear hp x0 x1 x2 x3 x4 x5 x6 x7 x8 x9 x10 x11 f0 f1 f2 f3 f4 f5 f6 f7 f8 f9 f10 f11
  generalize W2.setCell ⟨g3, 7, none⟩ (.string BI) = W at hp' ⊢
  have hp := hp'
  clear hp'
  go_wp2_with fail
  refine (made_one B g 5 _ hp.2.2.1 (by decide) (by decide)).mono ?_; rintro e W1 ⟨b, rfl, hd1, hg1⟩
  replace hp := hp.dice hd1 hg1
  clear hd1 hg1
  go_upto_if 67 with fail
  go_cut [0] from 67 to 73 (fun q W' => q = .pointer (some ⟨g, 0, none⟩) ∧ ∃ BJ : ByteArray, Zn.birthB BJ = true ∧ PZ w B g g2 g3 (⟨F, KD, ST, S, GI, NU, NA, BJ, ⟨#[]⟩, ⟨#[]⟩, ⟨#[]⟩, ⟨#[]⟩⟩ : Zn.Z) W')
  case first =>
    cases b
    · go_wp2_with fail
      go_meet
      exact ⟨rfl, BI, HBI.out, hp⟩
    · have hgne : W1.heap.size ≠ g := hp.gne
      go_wp2_with fail
      have hr : TextsAt (W1.alloc (.cells #[.string ⟨#[60, 60, 60, 60, 60, 60]⟩, .string ⟨#[56, 53, 60, 60, 60, 60]⟩, .string ⟨#[56, 53, 49, 50, 60, 60]⟩, .string ⟨#[60, 60, 48, 49, 51, 49]⟩, .string ⟨#[48, 48, 48, 50, 60, 60]⟩] 9)) (some ⟨W1.heap.size, 0, none⟩) [⟨#[60, 60, 60, 60, 60, 60]⟩, ⟨#[56, 53, 60, 60, 60, 60]⟩, ⟨#[56, 53, 49, 50, 60, 60]⟩, ⟨#[60, 60, 48, 49, 51, 49]⟩, ⟨#[48, 48, 48, 50, 60, 60]⟩] := texts_new11 W1 _
      replace hp := hp.later (below_alloc1 W1 (.cells #[.string ⟨#[60, 60, 60, 60, 60, 60]⟩, .string ⟨#[56, 53, 60, 60, 60, 60]⟩, .string ⟨#[56, 53, 49, 50, 60, 60]⟩, .string ⟨#[60, 60, 48, 49, 51, 49]⟩, .string ⟨#[48, 48, 48, 50, 60, 60]⟩] 9))
      have hlt : W1.heap.size < (W1.alloc (.cells #[.string ⟨#[60, 60, 60, 60, 60, 60]⟩, .string ⟨#[56, 53, 60, 60, 60, 60]⟩, .string ⟨#[56, 53, 49, 50, 60, 60]⟩, .string ⟨#[60, 60, 48, 49, 51, 49]⟩, .string ⟨#[48, 48, 48, 50, 60, 60]⟩] 9)).heap.size := by rw [size_alloc1]; omega
      generalize W1.alloc (.cells #[.string ⟨#[60, 60, 60, 60, 60, 60]⟩, .string ⟨#[56, 53, 60, 60, 60, 60]⟩, .string ⟨#[56, 53, 49, 50, 60, 60]⟩, .string ⟨#[60, 60, 48, 49, 51, 49]⟩, .string ⟨#[48, 48, 48, 50, 60, 60]⟩] 9) = W0 at hr hp hlt ⊢
      generalize W1.heap.size = ga at hr hlt hgne ⊢
      refine (made_next B g 5 _ hp.2.2.1 (by decide) (by decide)).mono ?_; rintro e W3 ⟨v, v1, v2, rfl, hd1, hg1⟩
      replace hp := hp.dice hd1 hg1
      obtain ⟨k, rfl⟩ := Int.eq_ofNat_of_zero_le v1
      obtain ⟨BJ, hcell, hBJ⟩ := pick_text (P := fun s => Zn.birthB s) hr hg1 hlt hgne k (by simp; omega) (by decide)
      have HBJ := Lib.hid hBJ
      clear hBJ hr hlt hgne hd1 hg1 v1
      obtain ⟨x0, x1, x2, x3, x4, x5, x6, x7, x8, x9, x10, x11⟩ := hp.1.cells
      obtain ⟨f0, f1, f2, f3, f4, f5, f6, f7, f8, f9, f10, f11⟩ := hp.frees
      go_wp2_with fail
      go_meet
      exact ⟨rfl, BJ, HBJ.out, hp.set 7 _ _ rfl⟩
  case rest =>
  clear hp HBI b
  obtain ⟨rfl, BJ, hBJ, hp⟩ := hcut
  have HBI := Lib.hid hBJ
  have hgne : wc.heap.size ≠ g := hp.gne
  clear hBJ
  obtain ⟨W, hW⟩ : ∃ q, wc = q := ⟨_, rfl⟩
  subst hW
  generalize wc = W at hp hgne ⊢
  go_wp2_with fail
  have hr : TextsAt (W.alloc (.cells #[.string ⟨#[77]⟩, .string ⟨#[70]⟩, .string ⟨#[60]⟩] 9)) (some ⟨W.heap.size, 0, none⟩) [⟨#[77]⟩, ⟨#[70]⟩, ⟨#[60]⟩] := texts_new11 W _
  replace hp := hp.later (below_alloc1 W (.cells #[.string ⟨#[77]⟩, .string ⟨#[70]⟩, .string ⟨#[60]⟩] 9))
  have hlt : W.heap.size < (W.alloc (.cells #[.string ⟨#[77]⟩, .string ⟨#[70]⟩, .string ⟨#[60]⟩] 9)).heap.size := by rw [size_alloc1]; omega
  have hne : W.heap.size ≠ g := hgne
  generalize W.alloc (.cells #[.string ⟨#[77]⟩, .string ⟨#[70]⟩, .string ⟨#[60]⟩] 9) = W0 at hr hp hlt ⊢
  generalize W.heap.size = ga at hr hlt hne ⊢
  clear hgne W
  refine (made_next B g 3 _ hp.2.2.1 (by decide) (by decide)).mono ?_; rintro e W1 ⟨v, v1, v2, rfl, hd1, hg1⟩
  replace hp := hp.dice hd1 hg1
  obtain ⟨k, rfl⟩ := Int.eq_ofNat_of_zero_le v1
  obtain ⟨SX, hcell, hSX⟩ := pick_text (P := fun s => Zn.sexB s) hr hg1 hlt hne k (by simp; omega) (by decide)
  have HSX := Lib.hid hSX
  clear hSX hr hlt hne hd1 hg1 v1
  obtain ⟨x0, x1, x2, x3, x4, x5, x6, x7, x8, x9, x10, x11⟩ := hp.1.cells
  obtain ⟨f0, f1, f2, f3, f4, f5, f6, f7, f8, f9, f10, f11⟩ := hp.frees
  go_upto_region 19 with fail
  have hp' : PZ w B g g2 g3 (⟨F, KD, ST, S, GI, NU, NA, BJ, SX, ⟨#[]⟩, ⟨#[]⟩, ⟨#[]⟩⟩ : Zn.Z) (W1.setCell ⟨g3, 8, none⟩ (.string SX)) := hp.set 8 _ _ rfl
  clear hp x0 x1 x2 x3 x4 x5 x6 x7 x8 x9 x10 x11 f0 f1 f2 f3 f4 f5 f6 f7 f8 f9 f10 f11
  generalize W1.setCell ⟨g3, 8, none⟩ (.string SX) = W at hp' ⊢
  have hp := hp'
  clear hp'
  have hgne : W.heap.size ≠ g := hp.gne
  clear hcell v2
  go_wp2_with fail
  refine (made_next B g 36000 _ hp.2.2.1 (by decide) (by decide)).mono ?_; rintro e W1 ⟨v, v1, v2, rfl, hd1, hg1⟩
  replace hp := hp.dice hd1 hg1
  clear hd1 hg1
  go_wp2_with fail
  refine (rformat_yes (36524 + v) W1 (by omega) (by omega)).mono ?_; rintro e W2 ⟨rfl, hb2⟩
  replace hp := hp.later hb2
  obtain ⟨EX, hEX⟩ : ∃ q : ByteArray, Dat.fmt (36524 + v) = q := ⟨_, rfl⟩
  have HEX := Lib.hid (show Dat.prE EX 2000 = 0 by rw [← hEX]; exact Zn.exp_fmt _ (by omega) (by omega))
  rw [hEX]
  clear hb2 hEX v1 v2
  obtain ⟨x0, x1, x2, x3, x4, x5, x6, x7, x8, x9, x10, x11⟩ := hp.1.cells
  obtain ⟨f0, f1, f2, f3, f4, f5, f6, f7, f8, f9, f10, f11⟩ := hp.frees
  go_upto_region 20 with fail
  have hp' : PZ w B g g2 g3 (⟨F, KD, ST, S, GI, NU, NA, BJ, SX, EX, ⟨#[]⟩, ⟨#[]⟩⟩ : Zn.Z) (W2.setCell ⟨g3, 9, none⟩ (.string EX)) := hp.set 9 _ _ rfl
  clear hp x0 x1 x2 x3 x4 x5 x6 x7 x8 x9 x10 x11 f0 f1 f2 f3 f4 f5 f6 f7 f8 f9 f10 f11
  generalize W2.setCell ⟨g3, 9, none⟩ (.string EX) = W at hp' ⊢
  have hp := hp'
  clear hp'
  have hix : ∀ w, (Instr.index 99 (.agg #[.int .i64 0, .int .i64 15, .int .i64 7, .int .i64 14]) (.int .i64 F)).run Tryz.prog w = .ok (.int .i64 (Zn.wide F)) w := by
    have h3 : F = 1 ∨ F = 2 ∨ F = 3 := by omega
    intro w
    rcases h3 with rfl | rfl | rfl <;> kernel_rfl
  have hwd := Zn.wide_bd F
  obtain ⟨WF, hWF⟩ : ∃ q, Zn.wide F = q := ⟨_, rfl⟩
  rw [hWF] at hix hwd
  have HWF := Lib.hid hWF
  clear hWF hgne
  obtain ⟨x0, x1, x2, x3, x4, x5, x6, x7, x8, x9, x10, x11⟩ := hp.1.cells
  go_upto_if 95 with fail
  clear hix
  go_cut [7] from 92 to 101 (fun q W' => q = .int .i64 (WF - if (9 : Int) < NU.size then (NU.size : Int) - 7 else 0) ∧ PZ w B g g2 g3 (⟨F, KD, ST, S, GI, NU, NA, BJ, SX, EX, ⟨#[]⟩, ⟨#[]⟩⟩ : Zn.Z) W')
  case first =>
    by_cases h9 : 9 < NU.size
    · have e1 : (9 : Int) < (NU.size : Int) := by omega
      have H9 := Lib.hid e1
      have e2 : IntKind.i64.wrap ((NU.size : Int) - 7) = (NU.size : Int) - 7 := IntWalk.i64_in _ (by omega)
      have e3 : IntKind.i64.wrap (WF - ((NU.size : Int) - 7)) = WF - ((NU.size : Int) - 7) := IntWalk.i64_in _ (by omega)
      clear h9
      go_wp2_with fail
      go_meet
      exact ⟨by rw [if_pos H9.out], hp⟩
    · have e1 : ¬ ((9 : Int) < (NU.size : Int)) := by omega
      have H9 := Lib.hid e1
      clear h9
      go_wp2_with fail
      go_meet
      exact ⟨by rw [if_neg (by have := H9.out; omega)]; exact ret_sub0 _, hp⟩
  case rest =>
  clear hp x0 x1 x2 x3 x4 x5 x6 x7 x8 x9 x10 x11
  obtain ⟨rfl, hp⟩ := hcut
  have hrm : (0 : Int) ≤ WF - (if (9 : Int) < NU.size then (NU.size : Int) - 7 else 0) ∧ WF - (if (9 : Int) < NU.size then (NU.size : Int) - 7 else 0) ≤ 15 := ⟨by rw [← HWF.out]; exact Zn.room_nil HF3.out HNZ.out.2, by split <;> omega⟩
  obtain ⟨RM, hRM⟩ : ∃ q : Int, (WF - if (9 : Int) < NU.size then (NU.size : Int) - 7 else 0) = q := ⟨_, rfl⟩
  rw [hRM] at hrm ⊢
  have HRM := Lib.hid hRM
  clear hRM
  go_upto_region 23 with fail
  go_cut [107] from 102 to 106 (fun q W' => ∃ b : Bool, q = .bool b ∧ (b = true → 0 < RM) ∧ PZ w B g g2 g3 (⟨F, KD, ST, S, GI, NU, NA, BJ, SX, EX, ⟨#[]⟩, ⟨#[]⟩⟩ : Zn.Z) W')
  case first =>
    by_cases h2 : 0 < RM
    · have e1 : decide ((0 : Int) < RM) = true := decide_eq_true h2
      have H2 := Lib.hid h2
      go_wp2_with fail
      refine (made_one B g 2 _ hp.2.2.1 (by decide) (by decide)).mono ?_; rintro e W1 ⟨b, rfl, hd1, hg1⟩
      have hp1 := hp.dice hd1 hg1
      clear hd1 hg1 e1 hp
      go_wp2_with fail
      go_meet
      exact ⟨b, rfl, fun _ => H2.out, hp1⟩
    · have e1 : decide ((0 : Int) < RM) = false := decide_eq_false h2
      go_wp2_with fail
      go_meet
      exact ⟨false, rfl, fun h => (by cases h), hp⟩
  case rest =>
  clear hp
  obtain ⟨b, rfl, hb, hp⟩ := hcut
  have HBF := Lib.hid hb
  clear hb
  go_upto_if 107 with fail
  go_cut [0] from 107 to 111 (fun q W' => q = .pointer (some ⟨g, 0, none⟩) ∧ ∃ OP : ByteArray, (Zn.extra OP = true ∧ (OP.size : Int) ≤ RM) ∧ PZ w B g g2 g3 (⟨F, KD, ST, S, GI, NU, NA, BJ, SX, EX, OP, ⟨#[]⟩⟩ : Zn.Z) W')
  case first =>
    cases b
    · go_wp2_with fail
      go_meet
      exact ⟨rfl, ⟨#[]⟩, ⟨Zn.extra_nil, hrm.1⟩, hp⟩
    · have hr0 := HBF.out (by trivial)
      go_wp2_with fail
      refine (made_signs B g RM _ hp.2.2.1 (by omega) (by omega)).mono ?_; rintro e W1 ⟨l, hl1, hlm, hls, rfl, hd1, hg1⟩
      replace hp := hp.dice hd1 hg1
      obtain ⟨OP, hOP⟩ : ∃ q : ByteArray, (⟨l.toArray⟩ : ByteArray) = q := ⟨_, rfl⟩
      have HOP := Lib.hid (show Zn.extra OP = true ∧ (OP.size : Int) ≤ RM from ⟨by rw [← hOP]; exact Zn.signs_extra hls, by rw [← hOP, arr_size]; exact hlm⟩)
      rw [hOP]
      clear hl1 hlm hls hd1 hg1 hOP
      obtain ⟨x0, x1, x2, x3, x4, x5, x6, x7, x8, x9, x10, x11⟩ := hp.1.cells
      obtain ⟨f0, f1, f2, f3, f4, f5, f6, f7, f8, f9, f10, f11⟩ := hp.frees
      go_wp2_with fail
      go_meet
      exact ⟨rfl, OP, HOP.out, hp.set 10 _ _ rfl⟩
  case rest =>
  clear hp HBF b
  obtain ⟨rfl, OP, hOP, hp⟩ := hcut
  have HOP := Lib.hid hOP
  clear hOP
  obtain ⟨x0, x1, x2, x3, x4, x5, x6, x7, x8, x9, x10, x11⟩ := hp.1.cells
  go_upto_region 25 with fail
  go_cut [118] from 112 to 117 (fun q W' => ∃ b : Bool, q = .bool b ∧ (b = true → F = 1) ∧ PZ w B g g2 g3 (⟨F, KD, ST, S, GI, NU, NA, BJ, SX, EX, OP, ⟨#[]⟩⟩ : Zn.Z) W')
  case first =>
    by_cases h2 : F = 1
    · have e1 : ((F : Int) == 1) = true := by rw [beq_iff_eq]; exact h2
      have H2 := Lib.hid h2
      clear h2
      go_wp2_with fail
      refine (made_one B g 3 _ hp.2.2.1 (by decide) (by decide)).mono ?_; rintro e W1 ⟨b, rfl, hd1, hg1⟩
      have hp1 := hp.dice hd1 hg1
      clear hd1 hg1 e1 hp x0 x1 x2 x3 x4 x5 x6 x7 x8 x9 x10 x11
      go_wp2_with fail
      go_meet
      exact ⟨b, rfl, fun _ => H2.out, hp1⟩
    · have e1 : ((F : Int) == 1) = false := by rw [beq_eq_false_iff_ne]; exact h2
      clear h2
      go_wp2_with fail
      go_meet
      exact ⟨false, rfl, fun h => (by cases h), hp⟩
  case rest =>
  clear hp x0 x1 x2 x3 x4 x5 x6 x7 x8 x9 x10 x11
  obtain ⟨b, rfl, hb, hp⟩ := hcut
  have HBF := Lib.hid hb
  clear hb
  go_upto_if 118 with fail
  go_cut [0] from 118 to 121 (fun q W' => q = .pointer (some ⟨g, 0, none⟩) ∧ ∃ SC : ByteArray, (Zn.extra SC = true ∧ SC.size ≤ 11 ∧ (F ≠ 1 → SC.size = 0)) ∧ PZ w B g g2 g3 (⟨F, KD, ST, S, GI, NU, NA, BJ, SX, EX, OP, SC⟩ : Zn.Z) W')
  case first =>
    cases b
    · go_wp2_with fail
      go_meet
      exact ⟨rfl, ⟨#[]⟩, ⟨Zn.extra_nil, by decide, fun _ => rfl⟩, hp⟩
    · have HF1 := Lib.hid (HBF.out (by trivial))
      go_wp2_with fail
      refine (made_signs B g 11 _ hp.2.2.1 (by decide) (by decide)).mono ?_; rintro e W1 ⟨l, hl1, hlm, hls, rfl, hd1, hg1⟩
      replace hp := hp.dice hd1 hg1
      obtain ⟨SC, hSC⟩ : ∃ q : ByteArray, (⟨l.toArray⟩ : ByteArray) = q := ⟨_, rfl⟩
      have HSC := Lib.hid (show Zn.extra SC = true ∧ SC.size ≤ 11 ∧ (F ≠ 1 → SC.size = 0) from ⟨by rw [← hSC]; exact Zn.signs_extra hls, by rw [← hSC, arr_size]; omega, fun h => absurd HF1.out h⟩)
      rw [hSC]
      clear hl1 hlm hls hd1 hg1 hSC
      obtain ⟨x0, x1, x2, x3, x4, x5, x6, x7, x8, x9, x10, x11⟩ := hp.1.cells
      obtain ⟨f0, f1, f2, f3, f4, f5, f6, f7, f8, f9, f10, f11⟩ := hp.frees
      go_wp2_with fail
      go_meet
      exact ⟨rfl, SC, HSC.out, hp.set 11 _ _ rfl⟩
  case rest =>
  clear hp HBF b
  obtain ⟨rfl, SC, hSC, hp⟩ := hcut
  have HSC := Lib.hid hSC
  clear hSC
  have HG := Lib.hid (Zn.good_made (F := F) (KD := KD) (ST := ST) (SU := S) (GI := GI) (NU := NU) (NA := NA) (BI := BJ) (SX := SX) (EX := EX) (OP := OP) (SC := SC) HF3.out HKD.out HST.out HSN.out.1 HSN.out.2.1 HGI.out.1 HNZ.out HNP.out HNA.out HBI.out HSX.out HEX.out HOP.out.1 (by rw [HWF.out, HRM.out]; exact HOP.out.2) HSC.out.1 HSC.out.2.2 HSC.out.2.1)
  obtain ⟨x0, x1, x2, x3, x4, x5, x6, x7, x8, x9, x10, x11⟩ := hp.1.cells
  obtain ⟨y0, y1, y2, y3, y4, y5, y6, y7, y8, y9, y10, y11⟩ := hp.2.1.cells
  obtain ⟨f0, f1, f2, f3, f4, f5, f6, f7, f8, f9, f10, f11⟩ := hp.frees2
  have HPF := Lib.hid hp
  clear hp
  go_wp2_with fail
  exact zone_ret (z := (⟨F, KD, ST, S, GI, NU, NA, BJ, SX, EX, OP, SC⟩ : Zn.Z)) HPF.out ⟨HG.out, HSN.out.2.2, HGI.out.2⟩ rfl

end Go.Proofs.YtafbhadfeemppaaGreatDoor
