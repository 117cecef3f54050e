/- Chapter 11: several texts in one (ZonPlain, ZonSmall, ZonSmall2, ZonRoom, ZonBirth). -/
import Derived.Test.YtelngghecmkipaaGreatDoorOptNames
import Derived.Test.YtelngghecmkipaaGreatDoorDatParse
import Derived.Test.YtelngghecmkipaaGreatDoorShelf
import Derived.Shelf.Strings.SlTrimAscii
namespace Go.Proofs.YtelngghecmkipaaGreatDoor
namespace Zn

/-- A zone. -/
structure Z where
  fmt : Int
  kind : ByteArray
  state : ByteArray
  sur : ByteArray
  giv : ByteArray
  num : ByteArray
  nat : ByteArray
  birth : ByteArray
  sex : ByteArray
  exp : ByteArray
  opt : ByteArray
  sec : ByteArray
def Z.val (z : Z) : Value := .agg #[.int .i64 z.fmt, .string z.kind, .string z.state, .string z.sur, .string z.giv, .string z.num, .string z.nat, .string z.birth, .string z.sex, .string z.exp, .string z.opt, .string z.sec]
def Z.cells (z : Z) : Array Value := #[.int .i64 z.fmt, .string z.kind, .string z.state, .string z.sur, .string z.giv, .string z.num, .string z.nat, .string z.birth, .string z.sex, .string z.exp, .string z.opt, .string z.sec]
def Z.zero : Z := ⟨0, ⟨#[]⟩, ⟨#[]⟩, ⟨#[]⟩, ⟨#[]⟩, ⟨#[]⟩, ⟨#[]⟩, ⟨#[]⟩, ⟨#[]⟩, ⟨#[]⟩, ⟨#[]⟩, ⟨#[]⟩⟩
/-- Each text can be read. -/
def Z.fits (z : Z) (n : Nat) : Prop := z.kind.size ≤ n ∧ z.state.size ≤ n ∧ z.sur.size ≤ n ∧ z.giv.size ≤ n ∧ z.num.size ≤ n ∧ z.nat.size ≤ n ∧ z.birth.size ≤ n ∧ z.sex.size ≤ n ∧ z.exp.size ≤ n ∧ z.opt.size ≤ n ∧ z.sec.size ≤ n

/-- One to some capital letters. -/
def letters (s : ByteArray) (most : Int) : Bool := decide ((1 : Int) ≤ s.size) && (decide ((s.size : Int) ≤ most) && s.data.toList.all Opt.isL)
/-- Letters and digits. -/
def plain (s : ByteArray) : Bool := s.data.toList.all fun c => Opt.ok c && c != 60
def isDig (c : UInt8) : Bool := decide (48 ≤ (c.toNat : Int)) && decide ((c.toNat : Int) ≤ 57)
/-- A pair of digits; -1 for two fillers, -2 for others. -/
def pair (a b : UInt8) : Int := if a = 60 ∧ b = 60 then -1 else if isDig a && isDig b then 10 * ((a.toNat : Int) - 48) + ((b.toNat : Int) - 48) else -2
def pairOk (i : Nat) (p : Int) : Bool := if i = 0 then decide (-2 < p) else if i = 1 then p == -1 || decide (1 ≤ p ∧ p ≤ 12) else p == -1 || decide (1 ≤ p ∧ p ≤ 31)
/-- A date of birth. -/
def birthB (s : ByteArray) : Bool := if h : s.size = 6 then pairOk 0 (pair (s[0]'(by omega)) (s[1]'(by omega))) && (pairOk 1 (pair (s[2]'(by omega)) (s[3]'(by omega))) && pairOk 2 (pair (s[4]'(by omega)) (s[5]'(by omega)))) else false
/-- What can stand in a field of additions. -/
def extra (s : ByteArray) : Bool := Opt.valid s.data.toList && ((s.data.toList).head? != some 60 && (s.data.toList).getLast? != some 60)
def longest (f : Int) : Int := if f = 1 then 20 else if f = 2 then 14 else 9
def wide (f : Int) : Int := if f = 1 then 15 else if f = 2 then 7 else 14
/-- How many characters of the optional field are wanted. -/
def need (z : Z) : Int := z.opt.size + if (9 : Int) < z.num.size then (z.num.size : Int) - 7 else 0
def sexB (s : ByteArray) : Bool := decide (s = ⟨#[77]⟩) || (decide (s = ⟨#[70]⟩) || decide (s = ⟨#[60]⟩))
/-- The first error of a zone. -/
noncomputable def vldE (z : Z) : Int :=
  if ¬ (1 ≤ z.fmt ∧ z.fmt ≤ 3) then 14 else if letters z.kind 2 = false then 14 else if letters z.state 3 = false then 14 else if Opt.words 32 z.sur.data.toList = false then 14 else if z.sur.size = 0 then 14 else
  if Opt.words 32 z.giv.data.toList = false then 14 else if z.num.size = 0 then 14 else if plain z.num = false then 14 else if longest z.fmt < z.num.size then 2 else if letters z.nat 3 = false then 14 else
  if birthB z.birth = false then 8 else if sexB z.sex = false then 14 else if Dat.prE z.exp 2000 ≠ 0 then 8 else if extra z.opt = false then 14 else if extra z.sec = false then 14 else
  if z.fmt ≠ 1 ∧ z.sec.size ≠ 0 then 14 else if wide z.fmt < need z then 2 else if (11 : Int) < z.sec.size then 2 else 0
end Zn
end Go.Proofs.YtelngghecmkipaaGreatDoor

namespace Go.Proofs.YtelngghecmkipaaGreatDoor
open Go.RowKit

theorem zlongest (f : Int) (w : World) : Calls Tryz.prog 60 #[.int .i64 f] w fun e w' => e = .returned (.int .i64 (Zn.longest f)) ∧ w = w' := by
  by_cases h1 : f = 1
  · subst h1
    go_enter Tryz.func60, Tryz.ntmps60
    go_wp2_with fail
    go_ret
    exact ⟨rfl, rfl⟩
  have e1 : (f == 1) = false := by rw [beq_eq_false_iff_ne]; exact h1
  by_cases h2 : f = 2
  · subst h2
    go_enter Tryz.func60, Tryz.ntmps60
    go_wp2_with fail
    go_ret
    exact ⟨rfl, rfl⟩
  have e2 : (f == 2) = false := by rw [beq_eq_false_iff_ne]; exact h2
  have hr : Zn.longest f = 9 := by unfold Zn.longest; rw [if_neg h1, if_neg h2]
  rw [hr]
  clear h1 h2 hr
  go_enter Tryz.func60, Tryz.ntmps60
  go_wp2_with fail
  go_ret
  exact ⟨rfl, rfl⟩

theorem all_snoc (s : ByteArray) (p : UInt8 → Bool) (k : Nat) (h : k < s.size) : (s.data.toList.take (k + 1)).all p = ((s.data.toList.take k).all p && p s[k]) := by
  rw [Opt.take_snoc s k h, List.all_append]; simp
theorem all_no (s : ByteArray) (p : UInt8 → Bool) (k : Nat) (h : k < s.size) (hp : p s[k] = false) : s.data.toList.all p = false := by
  rw [List.all_eq_false]
  exact ⟨s[k], Array.mem_toList_iff.2 (by show s.data[k] ∈ s.data; exact Array.getElem_mem _), by rw [hp]; simp⟩

set_option maxHeartbeats 1000000 in
theorem rletters (s : ByteArray) (m : Int) (w : World) (hs : s.size ≤ maxLen) :
    Calls Tryz.prog 63 #[.string s, .int .i64 m] w fun e w' => e = .returned (.bool (Zn.letters s m)) ∧ w = w' := by
  unfold maxLen at hs
  obtain ⟨q, hq⟩ : ∃ q, Zn.letters s m = q := ⟨_, rfl⟩
  rw [hq]
  unfold Zn.letters at hq
  by_cases h1 : (s.size : Int) < 1
  · have hqf : false = q := by rw [← hq, decide_eq_false (by omega)]; rfl
    subst hqf
    clear hq
    go_enter Tryz.func63, Tryz.ntmps63
    go_wp2_with fail
    go_ret
    exact ⟨rfl, rfl⟩
  by_cases h2 : m < (s.size : Int)
  · have hqf : false = q := by rw [← hq, decide_eq_true (show (1 : Int) ≤ s.size by omega), decide_eq_false (by omega)]; rfl
    subst hqf
    have h1' : (1 : Int) ≤ (s.size : Int) := by omega
    clear hq h1
    go_enter Tryz.func63, Tryz.ntmps63
    go_wp2_with fail
    go_ret
    exact ⟨rfl, rfl⟩
  rw [decide_eq_true (show (1 : Int) ≤ s.size by omega), decide_eq_true (show (s.size : Int) ≤ m by omega), Bool.true_and, Bool.true_and] at hq
  have HQ := Lib.hid hq
  have h1' : (1 : Int) ≤ (s.size : Int) := by omega
  have h2' : (s.size : Int) ≤ m := by omega
  clear hq h1 h2
  go_enter Tryz.func63, Tryz.ntmps63
  go_wp2_with fail
  go_loop [5] (fun i => ∃ k : Nat, k ≤ s.size ∧ i = .int .i64 k ∧ (s.data.toList.take k).all Opt.isL = true) (fun i => s.size - (intOf i).toNat)
  case atStart => exact ⟨0, Nat.zero_le _, rfl, rfl⟩
  case round =>
    obtain ⟨k, hk, rfl, hall⟩ := hrel
    have HALL := Lib.hid hall
    clear hall
    by_cases hlt : k < s.size
    · have hd := u8_le s[k]
      have hall' := all_snoc s Opt.isL k hlt
      rw [HALL.out, Bool.true_and] at hall'
      have HS := Lib.hid hall'
      clear hall'
      by_cases hL : 65 ≤ (s[k].toNat : Int) ∧ (s[k].toNat : Int) ≤ 90
      · have hLt : Opt.isL s[k] = true := by unfold Opt.isL; rw [decide_eq_true hL.1, decide_eq_true hL.2]; rfl
        rw [hLt] at HS
        obtain ⟨ha, hb⟩ := hL
        have ha' : ¬ (s[k].toNat : Int) < 65 := by omega
        have hb' : ¬ 90 < (s[k].toNat : Int) := by omega
        clear hLt
        go_wp2_with fail
        go_round
        case rel => exact ⟨k + 1, by omega, by go_num, HS.out⟩
        case measure => simp [intOf]; omega
      · have hLf : Opt.isL s[k] = false := by unfold Opt.isL; rw [← Bool.decide_and, decide_eq_false hL]
        have hqf : false = q := by rw [← HQ.out]; exact (all_no s _ k hlt hLf).symm
        subst hqf
        clear hLf HQ HS
        by_cases ha : (s[k].toNat : Int) < 65
        · go_wp2_with fail
          go_ret
          exact ⟨rfl, rfl⟩
        · have hb : 90 < (s[k].toNat : Int) := by omega
          have ha' : 65 ≤ (s[k].toNat : Int) := by omega
          clear hL
          go_wp2_with fail
          go_ret
          exact ⟨rfl, rfl⟩
    · obtain rfl : k = s.size := by omega
      have hqt : true = q := by rw [← HQ.out, ← HALL.out, Opt.take_all]
      subst hqt
      clear HQ HALL
      go_wp2_with fail
      go_ret
      exact ⟨rfl, rfl⟩

set_option maxHeartbeats 1000000 in
theorem rplain (s : ByteArray) (w : World) (hs : s.size ≤ maxLen) :
    Calls Tryz.prog 65 #[.string s] w fun e w' => e = .returned (.bool (Zn.plain s)) ∧ w = w' := by
  unfold maxLen at hs
  obtain ⟨q, hq⟩ : ∃ q, Zn.plain s = q := ⟨_, rfl⟩
  rw [hq]
  unfold Zn.plain at hq
  have HQ := Lib.hid hq
  clear hq
  go_enter Tryz.func65, Tryz.ntmps65
  go_wp2_with fail
  go_loop [3] (fun i => ∃ k : Nat, k ≤ s.size ∧ i = .int .i64 k ∧ (s.data.toList.take k).all (fun c => Opt.ok c && c != 60) = true) (fun i => s.size - (intOf i).toNat)
  case atStart => exact ⟨0, Nat.zero_le _, rfl, rfl⟩
  case round =>
    obtain ⟨k, hk, rfl, hall⟩ := hrel
    have HALL := Lib.hid hall
    clear hall
    by_cases hlt : k < s.size
    · have hd := u8_le s[k]
      have hall' := all_snoc s (fun c => Opt.ok c && c != 60) k hlt
      rw [HALL.out, Bool.true_and] at hall'
      have HS := Lib.hid hall'
      have HNO := Lib.hid (fun h => all_no s (fun c => Opt.ok c && c != 60) k hlt h)
      clear hall'
      have HV := Lib.hid (fun W => rvalue (s[k].toNat : Int) W hd.1 hd.2)
      obtain ⟨v, hv⟩ : ∃ v, Opt.val (s[k].toNat : Int) = v := ⟨_, rfl⟩
      have hok : Opt.ok s[k] = decide (0 ≤ v) := by unfold Opt.ok; rw [hv]
      rw [hv] at HV
      have HOK := Lib.hid hok
      clear hv hok
      by_cases h60 : (s[k].toNat : Int) = 60
      · have hqf : false = q := by
          rw [← HQ.out]
          exact (HNO.out (by
            have : s[k] = 60 := by apply UInt8.toNat_inj.1; show s[k].toNat = 60; omega
            rw [this]; simp)).symm
        subst hqf
        clear HQ HS HNO HOK HALL
        go_wp2_with fail
        go_ret
        exact ⟨rfl, rfl⟩
      · have hne : ((s[k].toNat : Int) == 60) = false := by rw [beq_eq_false_iff_ne]; exact h60
        have hne' : (s[k] != 60) = true := by
          rw [bne_iff_ne]; intro h; apply h60; rw [h]; rfl
        have HNE := Lib.hid hne'
        clear h60 hne'
        go_wp2_with fail
        refine (HV.out _).mono ?_; rintro e w2 ⟨rfl, rfl⟩
        by_cases hv0 : v < 0
        · have hqf : false = q := by
            rw [← HQ.out]
            exact (HNO.out (by rw [HOK.out, decide_eq_false (by omega)]; rfl)).symm
          subst hqf
          clear HQ HS HNO HOK HALL HNE
          go_wp2_with fail
          go_ret
          exact ⟨rfl, rfl⟩
        · have hv0' : 0 ≤ v := by omega
          have HS' := Lib.hid (show (s.data.toList.take (k + 1)).all (fun c => Opt.ok c && c != 60) = true by rw [HS.out, HOK.out, HNE.out, decide_eq_true hv0']; rfl)
          clear hv0 HS HNO HOK HNE
          go_wp2_with fail
          go_round
          case rel => exact ⟨k + 1, by omega, by go_num, HS'.out⟩
          case measure => simp [intOf]; omega
    · obtain rfl : k = s.size := by omega
      have hqt : true = q := by rw [← HQ.out, ← HALL.out, Opt.take_all]
      subst hqt
      clear HQ HALL
      go_wp2_with fail
      go_ret
      exact ⟨rfl, rfl⟩
end Go.Proofs.YtelngghecmkipaaGreatDoor

namespace Go.Proofs.YtelngghecmkipaaGreatDoor
open Go.RowKit

abbrev azL : List UInt8 := [65, 66, 67, 68, 69, 70, 71, 72, 73, 74, 75, 76, 77, 78, 79, 80, 81, 82, 83, 84, 85, 86, 87, 88, 89, 90]
set_option maxRecDepth 100000 in
theorem az_is (c : UInt8) : azL.contains c = Opt.isL c := by
  have h : ∀ n : Fin 256, azL.contains (UInt8.ofNat n.1) = Opt.isL (UInt8.ofNat n.1) := by decide
  have := h ⟨c.toNat, c.toNat_lt⟩
  simpa using this
theorem dropWhile_all {p : UInt8 → Bool} : ∀ l : List UInt8, (l.dropWhile p).isEmpty = l.all p
  | [] => rfl
  | x :: r => by
    rcases Bool.eq_false_or_eq_true (p x) with h | h
    · rw [List.dropWhile_cons, if_pos h, dropWhile_all r]; simp [h]
    · rw [List.dropWhile_cons, if_neg (by rw [h]; simp)]; simp [h]
theorem all_dropWhile {p : UInt8 → Bool} : ∀ l : List UInt8, (l.dropWhile p).all p = l.all p
  | [] => rfl
  | x :: r => by
    rcases Bool.eq_false_or_eq_true (p x) with h | h
    · rw [List.dropWhile_cons, if_pos h, all_dropWhile r]; simp [h]
    · rw [List.dropWhile_cons, if_neg (by rw [h]; simp)]
theorem trimS_empty (l : List UInt8) : (Lib.trimS l azL).isEmpty = l.all Opt.isL := by
  unfold Lib.trimS Lib.trimLeftS Lib.trimRightS
  rw [dropWhile_all, List.all_reverse, all_dropWhile, List.all_reverse]
  congr 1; funext c; exact az_is c

set_option maxHeartbeats 1000000 in
theorem zletters (s : ByteArray) (m : Int) (w : World) (hs : s.size ≤ maxLen) :
    Calls Tryz.prog 57 #[.string s, .int .i64 m] w fun e w' => e = .returned (.bool (Zn.letters s m)) ∧ Below w.heap.size w w' := by
  unfold maxLen at hs
  obtain ⟨q, hq⟩ : ∃ q, Zn.letters s m = q := ⟨_, rfl⟩
  rw [hq]
  unfold Zn.letters at hq
  by_cases h1 : (s.size : Int) < 1
  · have hqf : false = q := by rw [← hq, decide_eq_false (by omega)]; rfl
    subst hqf
    clear hq
    go_enter Tryz.func57, Tryz.ntmps57
    go_wp2_with fail
    go_ret
    exact ⟨rfl, Below.refl _ _⟩
  by_cases h2 : m < (s.size : Int)
  · have hqf : false = q := by rw [← hq, decide_eq_true (show (1 : Int) ≤ s.size by omega), decide_eq_false (by omega)]; rfl
    subst hqf
    have h1' : (1 : Int) ≤ (s.size : Int) := by omega
    clear hq h1
    go_enter Tryz.func57, Tryz.ntmps57
    go_wp2_with fail
    go_ret
    exact ⟨rfl, Below.refl _ _⟩
  rw [decide_eq_true (show (1 : Int) ≤ s.size by omega), decide_eq_true (show (s.size : Int) ≤ m by omega), Bool.true_and, Bool.true_and] at hq
  have hcon := Any.strings_Trim_laid Tryz.lays160 (by kernel_rfl) s ⟨#[65, 66, 67, 68, 69, 70, 71, 72, 73, 74, 75, 76, 77, 78, 79, 80, 81, 82, 83, 84, 85, 86, 87, 88, 89, 90]⟩ w hs (by decide) (ascii_of_all (by decide))
  change Calls Tryz.prog 74 _ _ (fun e w' => e = .returned (.string ⟨(Lib.trimS s.data.toList azL).toArray⟩) ∧ Below w.heap.size w w') at hcon
  obtain ⟨S, hS⟩ : ∃ S : ByteArray, S = ⟨(Lib.trimS s.data.toList azL).toArray⟩ := ⟨_, rfl⟩
  rw [← hS] at hcon
  have hse := str_empty (s := S) (l := Lib.trimS s.data.toList azL) (b := q) (by rw [hS]) (by rw [trimS_empty]; exact hq)
  have HC := Lib.hid hcon
  obtain ⟨he1, he2⟩ := hse
  have h1' : (1 : Int) ≤ (s.size : Int) := by omega
  have h2' : (s.size : Int) ≤ m := by omega
  clear hq h1 h2 hS hcon
  cases q
  · go_enter Tryz.func57, Tryz.ntmps57
    go_wp2_with fail
    refine HC.out.mono ?_; rintro e w2 ⟨rfl, hb⟩
    go_wp2_with fail
    go_ret
    exact ⟨rfl, hb⟩
  · go_enter Tryz.func57, Tryz.ntmps57
    go_wp2_with fail
    refine HC.out.mono ?_; rintro e w2 ⟨rfl, hb⟩
    go_wp2_with fail
    go_ret
    exact ⟨rfl, hb⟩

/-- The first and the last byte of a text that is not empty. -/
theorem ends_at (s : ByteArray) (h : 0 < s.size) : s.data.toList.head? = some s[0] ∧ s.data.toList.getLast? = some (s[s.size - 1]'(by omega)) := by
  have h' : 0 < s.data.toList.length := by simpa using h
  refine ⟨?_, ?_⟩
  · rw [List.head?_eq_getElem?, List.getElem?_eq_getElem h']; rfl
  · rw [List.getLast?_eq_getElem?, List.getElem?_eq_getElem (by omega)]
    congr 1
theorem u8_60 (c : UInt8) : (some c != some (60 : UInt8)) = ((c.toNat : Int) != 60) := by
  rcases Bool.eq_false_or_eq_true ((c.toNat : Int) != 60) with h | h
  · rw [h, bne_iff_ne]; rintro e; injection e with e; subst e; simp at h
  · rw [h]
    have : (c.toNat : Int) = 60 := by simpa using h
    have e : c = 60 := by apply UInt8.toNat_inj.1; show c.toNat = 60; omega
    subst e; rfl

set_option maxHeartbeats 1000000 in
theorem rextra (s : ByteArray) (w : World) (hs : s.size ≤ maxLen) :
    Calls Tryz.prog 68 #[.string s] w fun e w' => e = .returned (.bool (Zn.extra s)) ∧ w = w' := by
  have HV := Lib.hid (fun W => rvalid10 s W hs)
  unfold maxLen at hs
  obtain ⟨q, hq⟩ : ∃ q, Zn.extra s = q := ⟨_, rfl⟩
  rw [hq]
  unfold Zn.extra at hq
  obtain ⟨v, hv⟩ : ∃ v, Opt.valid s.data.toList = v := ⟨_, rfl⟩
  rw [hv] at HV hq
  clear hv
  cases v
  · have hqf : false = q := by rw [← hq]; rfl
    subst hqf
    clear hq
    go_enter Tryz.func68, Tryz.ntmps68
    go_wp2_with fail
    refine (HV.out _).mono ?_; rintro e w2 ⟨rfl, rfl⟩
    go_wp2_with fail
    go_ret
    exact ⟨rfl, rfl⟩
  · rw [Bool.true_and] at hq
    rcases Nat.eq_zero_or_pos s.size with h0 | h0
    · have hl : s.data.toList = [] := List.eq_nil_of_length_eq_zero (by simpa using h0)
      have hqt : true = q := by rw [← hq, hl]; rfl
      subst hqt
      obtain ⟨he1, he2⟩ := str_empty (s := s) (l := []) (b := true) hl rfl
      clear hq hl h0
      go_enter Tryz.func68, Tryz.ntmps68
      go_wp2_with fail
      refine (HV.out _).mono ?_; rintro e w2 ⟨rfl, rfl⟩
      go_wp2_with fail
      go_ret
      exact ⟨rfl, rfl⟩
    · obtain ⟨e1, e2⟩ := ends_at s h0
      rw [e1, e2, u8_60, u8_60] at hq
      have hl : s.data.toList ≠ [] := fun h => by have h3 := Opt.size_len s; rw [h] at h3; simp only [List.length_nil] at h3; omega
      obtain ⟨he1, he2⟩ := str_empty (s := s) (l := s.data.toList) (b := false) rfl (by cases h : s.data.toList; exact absurd h hl; rfl)
      have hsz : (0 : Int) < (s.size : Int) := by omega
      have hsb : (s.size : Int) ≤ 9223372036854775807 := by omega
      have h1 : 1 ≤ s.size := by omega
      have hlast : s.size - 1 < s.size := by omega
      have hsub : ((s.size : Int) - 1).toNat = s.size - 1 := by omega
      have HQ := Lib.hid hq
      clear hq e1 e2 hl
      go_enter Tryz.func68, Tryz.ntmps68
      go_wp2_with fail
      refine (HV.out _).mono ?_; rintro e w2 ⟨rfl, rfl⟩
      go_wp2_with fail
      all_goals
        go_ret
        exact ⟨ret_bool (by first | (rw [← HQ.out]; done) | (rw [← HQ.out]; simp [*])), rfl⟩

theorem prefix_one (l : List UInt8) : (!Lib.hasPrefix l [60]) = (l.head? != some 60) := by
  cases l with
  | nil => rfl
  | cons x r =>
    rcases Bool.eq_false_or_eq_true (x == 60) with h | h
    · have : x = 60 := by simpa using h
      subst this; simp [Lib.hasPrefix]
    · have h2 : x ≠ 60 := by simpa using h
      have h3 : ((60 : UInt8) == x) = false := by rw [beq_eq_false_iff_ne]; exact fun e => h2 e.symm
      have h4 : (some x != some (60 : UInt8)) = true := by rw [bne_iff_ne]; exact fun e => h2 (Option.some.inj e)
      unfold Lib.hasPrefix
      rw [List.head?_cons, h4, List.isPrefixOf, h3]; rfl
theorem suffix_one (l : List UInt8) : (!Lib.hasSuffix l [60]) = (l.getLast? != some 60) := by
  rcases List.eq_nil_or_concat l with rfl | ⟨m, x, rfl⟩
  · rfl
  · rcases Bool.eq_false_or_eq_true (x == 60) with h | h
    · have : x = 60 := by simpa using h
      subst this; simp [Lib.hasSuffix]
    · have h2 : x ≠ 60 := by simpa using h
      have h3 : ((60 : UInt8) == x) = false := by rw [beq_eq_false_iff_ne]; exact fun e => h2 e.symm
      have h4 : (some x != some (60 : UInt8)) = true := by rw [bne_iff_ne]; exact fun e => h2 (Option.some.inj e)
      unfold Lib.hasSuffix List.isSuffixOf
      rw [List.concat_eq_append, List.getLast?_concat, h4, List.reverse_concat, List.reverse_singleton, List.isPrefixOf, h3]; rfl

set_option maxHeartbeats 1000000 in
theorem zfree (s : ByteArray) (w : World) (hs : s.size ≤ maxLen) :
    Calls Tryz.prog 62 #[.string s] w fun e w' => e = .returned (.bool (Zn.extra s)) ∧ w = w' := by
  have HV := Lib.hid (fun W => ovalid s W hs)
  have HP := Lib.hid (fun W => Tryz.strings_HasPrefix s ⟨#[60]⟩ W)
  have HS := Lib.hid (fun W => Tryz.strings_HasSuffix s ⟨#[60]⟩ W hs)
  have p1 := prefix_one s.data.toList
  have p2 := suffix_one s.data.toList
  obtain ⟨q, hq⟩ : ∃ q, Zn.extra s = q := ⟨_, rfl⟩
  rw [hq]
  unfold Zn.extra at hq
  rw [← p1, ← p2] at hq
  obtain ⟨v, hv⟩ : ∃ v, Opt.valid s.data.toList = v := ⟨_, rfl⟩
  obtain ⟨a, ha⟩ : ∃ a, Lib.hasPrefix s.data.toList [60] = a := ⟨_, rfl⟩
  obtain ⟨b, hb⟩ : ∃ b, Lib.hasSuffix s.data.toList [60] = b := ⟨_, rfl⟩
  rw [hv] at HV
  rw [show (⟨#[60]⟩ : ByteArray).data.toList = [60] from rfl, ha] at HP
  rw [show (⟨#[60]⟩ : ByteArray).data.toList = [60] from rfl, hb] at HS
  rw [hv, ha, hb] at hq
  subst hq
  clear hv ha hb p1 p2
  go_enter Tryz.func62, Tryz.ntmps62
  go_wp2_with fail
  refine (HV.out _).mono ?_; rintro e w2 ⟨rfl, rfl⟩
  cases v
  · go_wp2_with fail
    go_ret
    exact ⟨rfl, rfl⟩
  · go_wp2_with fail
    refine (HP.out _).mono ?_; rintro e w2 ⟨rfl, hw⟩
    rw [hw]
    clear hw
    cases a
    · go_wp2_with fail
      refine (HS.out _).mono ?_; rintro e w3 ⟨rfl, hw⟩
      rw [hw]
      clear hw
      go_wp2_with fail
      go_ret
      exact ⟨by simp, rfl⟩
    · go_wp2_with fail
      go_ret
      exact ⟨rfl, rfl⟩

theorem below_alloc1 (w : World) (o : Obj) : Below w.heap.size w (w.alloc o) := (Below.refl _ _).alloc (Nat.le_refl _) _
theorem size_alloc1 (w : World) (o : Obj) : (w.alloc o).heap.size = w.heap.size + 1 := by simp
theorem cells_of (w : World) (z : Zn.Z) (i : Nat) : (w.alloc (.cells z.cells 24)).cell? ⟨w.heap.size, i, none⟩ = z.cells[i]? := by
  have h := heap_alloc_new w (.cells z.cells 24)
  unfold World.cell?
  rw [h]
  rfl
end Go.Proofs.YtelngghecmkipaaGreatDoor

namespace Go.Proofs.YtelngghecmkipaaGreatDoor
open Go.RowKit

/-- A zone in a block. -/
def ZBox (w : World) (g : Nat) (z : Zn.Z) : Prop := w.heap[g]? = some (.cells #[.int .i64 z.fmt, .string z.kind, .string z.state, .string z.sur, .string z.giv, .string z.num, .string z.nat, .string z.birth, .string z.sex, .string z.exp, .string z.opt, .string z.sec] 24 (0, 0))
theorem ZBox.lt {w : World} {g : Nat} {z : Zn.Z} (h : ZBox w g z) : g < w.heap.size := (Array.getElem?_eq_some_iff.1 h).1
theorem ZBox.later {w w' : World} {g : Nat} {z : Zn.Z} (h : ZBox w g z) (hb : Below w.heap.size w w') : ZBox w' g z := (hb.block g h.lt).trans h
theorem ZBox.drewN {w : World} {g : Nat} {z : Zn.Z} (h : ZBox w g z) (n : Nat) : ZBox (w.drewN n) g z := h
theorem ZBox.new (w : World) (z : Zn.Z) : ZBox (w.alloc (.cells #[.int .i64 z.fmt, .string z.kind, .string z.state, .string z.sur, .string z.giv, .string z.num, .string z.nat, .string z.birth, .string z.sex, .string z.exp, .string z.opt, .string z.sec] 24)) w.heap.size z := heap_alloc_new w _
theorem ZBox.cells {w : World} {g : Nat} {z : Zn.Z} (h : ZBox w g z) : w.cell? ⟨g, 0, none⟩ = some (.int .i64 z.fmt) ∧ w.cell? ⟨g, 1, none⟩ = some (.string z.kind) ∧ w.cell? ⟨g, 2, none⟩ = some (.string z.state) ∧ w.cell? ⟨g, 3, none⟩ = some (.string z.sur) ∧
    w.cell? ⟨g, 4, none⟩ = some (.string z.giv) ∧ w.cell? ⟨g, 5, none⟩ = some (.string z.num) ∧ w.cell? ⟨g, 6, none⟩ = some (.string z.nat) ∧ w.cell? ⟨g, 7, none⟩ = some (.string z.birth) ∧ w.cell? ⟨g, 8, none⟩ = some (.string z.sex) ∧
    w.cell? ⟨g, 9, none⟩ = some (.string z.exp) ∧ w.cell? ⟨g, 10, none⟩ = some (.string z.opt) ∧ w.cell? ⟨g, 11, none⟩ = some (.string z.sec) := by
  unfold ZBox at h
  refine ⟨?_, ?_, ?_, ?_, ?_, ?_, ?_, ?_, ?_, ?_, ?_, ?_⟩ <;> simp [World.cell?, h]
/-- The room of the optional field. -/
def Zn.room (z : Zn.Z) : Int := Zn.wide z.fmt - (if (9 : Int) < z.num.size then (z.num.size : Int) - 7 else 0)
theorem Zn.room_lt (z : Zn.Z) : Zn.room z < z.opt.size ↔ Zn.wide z.fmt < Zn.need z := by unfold Zn.room Zn.need; omega

set_option maxRecDepth 100000 in
set_option maxHeartbeats 1000000 in
theorem rroom (z : Zn.Z) (w : World) (hf : 1 ≤ z.fmt ∧ z.fmt ≤ 3) (hn : z.num.size ≤ maxLen) :
    Calls Tryz.prog 69 #[z.val] w fun e w' => e = .returned (.int .i64 (Zn.room z)) ∧ Below w.heap.size w w' := by
  unfold maxLen at hn
  obtain ⟨r, hr⟩ : ∃ r, Zn.room z = r := ⟨_, rfl⟩
  rw [hr]
  unfold Zn.room at hr
  have hix : ∀ w, (Instr.index 37 (.agg #[.int .i64 0, .int .i64 15, .int .i64 7, .int .i64 14]) (.int .i64 z.fmt)).run Tryz.prog w = .ok (.int .i64 (Zn.wide z.fmt)) w := by
    have h3 : z.fmt = 1 ∨ z.fmt = 2 ∨ z.fmt = 3 := by omega
    rcases h3 with h | h | h <;> rw [h] <;> exact fun _ => by kernel_rfl
  have hwd : 7 ≤ Zn.wide z.fmt ∧ Zn.wide z.fmt ≤ 15 := by unfold Zn.wide; repeat' split
                                                          all_goals omega
  have hbx := ZBox.new w z
  have hw := below_alloc1 w (.cells #[.int .i64 z.fmt, .string z.kind, .string z.state, .string z.sur, .string z.giv, .string z.num, .string z.nat, .string z.birth, .string z.sex, .string z.exp, .string z.opt, .string z.sec] 24)
  unfold Zn.Z.val
  clear hf
  go_enter Tryz.func69, Tryz.ntmps69
  go_upto_region 1 with fail
  generalize w.alloc (.cells #[.int .i64 z.fmt, .string z.kind, .string z.state, .string z.sur, .string z.giv, .string z.num, .string z.nat, .string z.birth, .string z.sex, .string z.exp, .string z.opt, .string z.sec] 24) = w1 at hbx hw ⊢
  obtain ⟨x0, _, _, _, _, x5, _⟩ := hbx.cells
  obtain ⟨wd1, wd2⟩ := hwd
  have HW := Lib.hid hw
  clear hbx hw
  by_cases h9 : (9 : Int) < (z.num.size : Int)
  · rw [if_pos h9] at hr
    have HR := Lib.hid hr
    clear hr
    go_wp2_with fail
    go_ret
    exact ⟨ret_i64 (by rw [← HR.out]; omega), HW.out⟩
  · rw [if_neg h9] at hr
    have HR := Lib.hid hr
    have h9' : (z.num.size : Int) ≤ 9 := by omega
    clear hr h9
    go_wp2_with fail
    go_ret
    exact ⟨ret_i64 (by rw [← HR.out]; omega), HW.out⟩
end Go.Proofs.YtelngghecmkipaaGreatDoor

namespace Go.Proofs.YtelngghecmkipaaGreatDoor
open Go.RowKit

theorem two_list (s : ByteArray) (hs : s.size = 2) : s.data.toList = [s[0]'(by omega), s[1]'(by omega)] := by
  obtain ⟨⟨l⟩⟩ := s
  match l, hs with
  | [a, b], _ => rfl
theorem two_is (s : ByteArray) (hs : s.size = 2) : (s.toList == [60, 60]) = decide (s[0]'(by omega) = 60 ∧ s[1]'(by omega) = 60) := by
  rw [ByteArray.toList_eq, two_list s hs, Bool.eq_iff_iff, beq_iff_eq, decide_eq_true_eq]
  simp
theorem dig_iff (c : UInt8) : Zn.isDig c = true ↔ 48 ≤ (c.toNat : Int) ∧ (c.toNat : Int) ≤ 57 := by
  unfold Zn.isDig; rw [Bool.and_eq_true, decide_eq_true_eq, decide_eq_true_eq]

set_option maxHeartbeats 1000000 in
theorem rpair (s : ByteArray) (hs : s.size = 2) (w : World) :
    Calls Tryz.prog 94 #[.string s] w fun e w' => e = .returned (.int .i64 (Zn.pair (s[0]'(by omega)) (s[1]'(by omega)))) ∧ ∃ n, w' = w.drewN n := by
  have h0 : 0 < s.size := by omega
  have h1 : 1 < s.size := by omega
  have i0 : (0 : Int) < (s.size : Int) := by omega
  have i1 : (1 : Int) < (s.size : Int) := by omega
  obtain ⟨q, hq⟩ : ∃ q, Zn.pair s[0] s[1] = q := ⟨_, rfl⟩
  rw [hq]
  have ht := two_is s hs
  have hd0 := u8_le s[0]
  have hd1 := u8_le s[1]
  by_cases hf : s[0] = 60 ∧ s[1] = 60
  · rw [decide_eq_true hf] at ht
    have hqq : (-1 : Int) = q := by rw [← hq]; unfold Zn.pair; rw [if_pos hf]
    subst hqq
    clear hq hf hs
    go_enter Tryz.func94, Tryz.ntmps94
    go_wp2_with fail
    go_ret
    exact ⟨rfl, 0, rfl⟩
  · rw [decide_eq_false hf] at ht
    unfold Zn.pair at hq
    rw [if_neg hf] at hq
    by_cases ha : 48 ≤ (s[0].toNat : Int) ∧ (s[0].toNat : Int) ≤ 57
    · by_cases hb : 48 ≤ (s[1].toNat : Int) ∧ (s[1].toNat : Int) ≤ 57
      · rw [(dig_iff _).2 ha, (dig_iff _).2 hb] at hq
        have HQ := Lib.hid (show 10 * ((s[0].toNat : Int) - 48) + ((s[1].toNat : Int) - 48) = q from hq)
        obtain ⟨a1, a2⟩ := ha
        obtain ⟨b1, b2⟩ := hb
        clear hq hf hs
        go_enter Tryz.func94, Tryz.ntmps94
        go_wp2_with fail
        go_quiet (fail)
        go_wp2_with fail
        go_ret
        exact ⟨ret_i64 HQ.out, _, rfl⟩
      · have hnb : Zn.isDig s[1] = false := by rw [Bool.eq_false_iff]; exact fun h => hb ((dig_iff _).1 h)
        rw [hnb, Bool.and_false] at hq
        have hqq : (-2 : Int) = q := hq
        subst hqq
        obtain ⟨a1, a2⟩ := ha
        clear hq hf hs hnb
        by_cases hb1 : (s[1].toNat : Int) < 48
        · go_enter Tryz.func94, Tryz.ntmps94
          go_wp2_with fail
          go_ret
          exact ⟨rfl, 0, rfl⟩
        · have hb2 : 57 < (s[1].toNat : Int) := by omega
          have hb3 : 48 ≤ (s[1].toNat : Int) := by omega
          clear hb
          go_enter Tryz.func94, Tryz.ntmps94
          go_wp2_with fail
          go_ret
          exact ⟨rfl, 0, rfl⟩
    · have hna : Zn.isDig s[0] = false := by rw [Bool.eq_false_iff]; exact fun h => ha ((dig_iff _).1 h)
      rw [hna, Bool.false_and] at hq
      have hqq : (-2 : Int) = q := hq
      subst hqq
      clear hq hf hs hna
      by_cases ha1 : (s[0].toNat : Int) < 48
      · go_enter Tryz.func94, Tryz.ntmps94
        go_wp2_with fail
        go_ret
        exact ⟨rfl, 0, rfl⟩
      · have ha2 : 57 < (s[0].toNat : Int) := by omega
        have ha3 : 48 ≤ (s[0].toNat : Int) := by omega
        clear ha
        go_enter Tryz.func94, Tryz.ntmps94
        go_wp2_with fail
        go_ret
        exact ⟨rfl, 0, rfl⟩

theorem cut_two (s : ByteArray) (i : Nat) (j : Nat) (hj : j = i + 2) (h : j ≤ s.size) : ∃ hz : (s.extract i j).size = 2, (s.extract i j)[0]'(by omega) = s[i]'(by omega) ∧ (s.extract i j)[1]'(by omega) = s[i + 1]'(by omega) := by
  subst hj
  have hz : (s.extract i (i + 2)).size = 2 := by rw [ByteArray.size_extract]; omega
  have hl : (s.extract i (i + 2)).data.toList = (s.data.toList.drop i).take 2 := by rw [Lib.extract_data]; congr 1; omega
  refine ⟨hz, ?_, ?_⟩
  · have h0 := Opt.getD_at (s.extract i (i + 2)) 0 (by omega)
    rw [← h0, hl]
    rw [← Opt.getD_at s i (by omega)]
    simp [List.getD]
  · have h0 := Opt.getD_at (s.extract i (i + 2)) 1 (by omega)
    rw [← h0, hl]
    rw [← Opt.getD_at s (i + 1) (by omega)]
    simp [List.getD]
/-- The pair at a place. -/
def pairAt (s : ByteArray) (i : Nat) : Int := Zn.pair (s.data.toList.getD i 0) (s.data.toList.getD (i + 1) 0)
theorem pairAt_eq (s : ByteArray) (i : Nat) (h : i + 1 < s.size) : Zn.pair (s[i]'(by omega)) (s[i + 1]'h) = pairAt s i := by
  unfold pairAt; rw [Opt.getD_at s i (by omega), Opt.getD_at s (i + 1) h]
theorem rpair_cut (s : ByteArray) (i j : Nat) (hj : j = i + 2) (h : j ≤ s.size) (w wq : World) (hq : ∃ m, wq = w.drewN m) :
    Calls Tryz.prog 94 #[.string (s.extract i j)] wq fun e w'' => e = .returned (.int .i64 (pairAt s i)) ∧ ∃ m, w'' = w.drewN m := by
  obtain ⟨hz, h0, h1⟩ := cut_two s i j hj h
  have hr := rpair (s.extract i j) hz wq
  rw [h0, h1, pairAt_eq s i (by omega)] at hr
  refine hr.mono ?_
  rintro e w' ⟨rfl, n, rfl⟩
  obtain ⟨m, rfl⟩ := hq
  exact ⟨rfl, m + n, World.drewN_drewN _ _ _⟩
theorem birth_pairs (s : ByteArray) (h : s.size = 6) : Zn.birthB s = (Zn.pairOk 0 (pairAt s 0) && (Zn.pairOk 1 (pairAt s 2) && Zn.pairOk 2 (pairAt s 4))) := by
  unfold Zn.birthB
  rw [dif_pos h, ← pairAt_eq s 0 (by omega), ← pairAt_eq s 2 (by omega), ← pairAt_eq s 4 (by omega)]

set_option maxRecDepth 100000 in
set_option maxHeartbeats 1000000 in
theorem rbirth (s : ByteArray) (w : World) :
    Calls Tryz.prog 66 #[.string s] w fun e w' => e = .returned (.bool (Zn.birthB s)) ∧ ∃ n, w' = w.drewN n := by
  by_cases h6 : s.size = 6
  · have hq := birth_pairs s h6
    have HPR := Lib.hid (fun i j w wq hj h hq => rpair_cut s i j hj h w wq hq)
    obtain ⟨y, hy⟩ : ∃ y, pairAt s 0 = y := ⟨_, rfl⟩
    obtain ⟨m, hm⟩ : ∃ m, pairAt s 2 = m := ⟨_, rfl⟩
    obtain ⟨d, hd⟩ : ∃ d, pairAt s 4 = d := ⟨_, rfl⟩
    rw [hy, hm, hd] at hq
    have HY := Lib.hid hy; have HM := Lib.hid hm; have HD := Lib.hid hd
    rw [hq]
    have hn : ((s.size : Int) != 6) = false := by simp; omega
    have k2 : (2 : Int) ≤ (s.size : Int) := by omega
    have k4 : (4 : Int) ≤ (s.size : Int) := by omega
    have k2' : 2 ≤ s.size := by omega
    have k4' : 4 ≤ s.size := by omega
    have H6 := Lib.hid h6
    clear hq h6 hy hm hd
    go_enter Tryz.func66, Tryz.ntmps66
    go_wp2_with fail
    go_quiet ((go_at_call 94; exact HPR.out _ _ _ _ (by have := H6.out; omega) (by have := H6.out; omega) ⟨_, rfl⟩))
    rw [HY.out, HM.out, HD.out]
    by_cases hy2 : -2 < y
    · by_cases hm1 : m = -1
      · subst hm1
        by_cases hd1 : d = -1
        · subst hd1
          go_wp2_with fail
          go_ret
          exact ⟨ret_bool (by simp [Zn.pairOk, hy2]), _, rfl⟩
        · have hd1' : (d == -1) = false := by rw [beq_eq_false_iff_ne]; exact hd1
          go_wp2_with fail
          all_goals
            go_ret
            exact ⟨ret_bool (by simp [Zn.pairOk, *]; try omega), _, rfl⟩
      · have hm1' : (m == -1) = false := by rw [beq_eq_false_iff_ne]; exact hm1
        by_cases hd1 : d = -1
        · subst hd1
          go_wp2_with fail
          all_goals
            go_ret
            exact ⟨ret_bool (by simp [Zn.pairOk, *]; try omega), _, rfl⟩
        · have hd1' : (d == -1) = false := by rw [beq_eq_false_iff_ne]; exact hd1
          go_wp2_with fail
          all_goals
            go_ret
            exact ⟨ret_bool (by simp [Zn.pairOk, *]; try omega), _, rfl⟩
    · go_wp2_with fail
      go_ret
      exact ⟨ret_bool (by simp [Zn.pairOk]; omega), _, rfl⟩
  · have hq : Zn.birthB s = false := by unfold Zn.birthB; rw [dif_neg h6]
    rw [hq]
    have hn : ((s.size : Int) != 6) = true := by simp; omega
    clear h6 hq
    go_enter Tryz.func66, Tryz.ntmps66
    go_wp2_with fail
    go_ret
    exact ⟨rfl, 0, rfl⟩
end Go.Proofs.YtelngghecmkipaaGreatDoor
