/- Chapter 11: the walks of letters and free of the program, of extra and room of the reference. -/
import Derived.Test.YtafbhadfeemppaaGreatDoorZonSmall
import Derived.Shelf.Strings.SlTrimAscii
namespace Go.Proofs.YtafbhadfeemppaaGreatDoor
open Go.RowKit

abbrev azL : List UInt8 := [65, 66, 67, 68, 69, 70, 71, 72, 73, 74, 75, 76, 77, 78, 79, 80, 81, 82, 83, 84, 85, 86, 87, 88, 89, 90]
set_option maxRecDepth 100000 in
theorem az_is (c : UInt8) : azL.contains c = Opt.isL c := by
  have h : ∀ n : Fin 256, azL.contains (UInt8.ofNat n.1) = Opt.isL (UInt8.ofNat n.1) := by decide
  have := h ⟨c.toNat, c.toNat_lt⟩
  simpa using this
theorem dropWhile_all {p : UInt8 → Bool} : ∀ l : List UInt8, (l.dropWhile p).isEmpty = l.all p
  | [] => rfl
  | x :: r => by
    rcases Bool.eq_false_or_eq_true (p x) with h | h
    · rw [List.dropWhile_cons, if_pos h, dropWhile_all r]; simp [h]
    · rw [List.dropWhile_cons, if_neg (by rw [h]; simp)]; simp [h]
theorem all_dropWhile {p : UInt8 → Bool} : ∀ l : List UInt8, (l.dropWhile p).all p = l.all p
  | [] => rfl
  | x :: r => by
    rcases Bool.eq_false_or_eq_true (p x) with h | h
    · rw [List.dropWhile_cons, if_pos h, all_dropWhile r]; simp [h]
    · rw [List.dropWhile_cons, if_neg (by rw [h]; simp)]
theorem trimS_empty (l : List UInt8) : (Lib.trimS l azL).isEmpty = l.all Opt.isL := by
  unfold Lib.trimS Lib.trimLeftS Lib.trimRightS
  rw [dropWhile_all, List.all_reverse, all_dropWhile, List.all_reverse]
  congr 1; funext c; exact az_is c

set_option maxHeartbeats 1000000 in
theorem zletters (s : ByteArray) (m : Int) (w : World) (hs : s.size ≤ maxLen) :
    Calls Tryz.prog 97 #[.string s, .int .i64 m] w fun e w' => e = .returned (.bool (Zn.letters s m)) ∧ Below w.heap.size w w' := by
  unfold maxLen at hs
  obtain ⟨q, hq⟩ : ∃ q, Zn.letters s m = q := ⟨_, rfl⟩
  rw [hq]
  unfold Zn.letters at hq
  by_cases h1 : (s.size : Int) < 1
  · have hqf : false = q := by rw [← hq, decide_eq_false (by omega)]; rfl
    subst hqf
    clear hq
    go_enter Tryz.func97, Tryz.ntmps97
    go_wp2_with fail
    go_ret
    exact ⟨rfl, Below.refl _ _⟩
  by_cases h2 : m < (s.size : Int)
  · have hqf : false = q := by rw [← hq, decide_eq_true (show (1 : Int) ≤ s.size by omega), decide_eq_false (by omega)]; rfl
    subst hqf
    have h1' : (1 : Int) ≤ (s.size : Int) := by omega
    clear hq h1
    go_enter Tryz.func97, Tryz.ntmps97
    go_wp2_with fail
    go_ret
    exact ⟨rfl, Below.refl _ _⟩
  rw [decide_eq_true (show (1 : Int) ≤ s.size by omega), decide_eq_true (show (s.size : Int) ≤ m by omega), Bool.true_and, Bool.true_and] at hq
  have hcon := Any.strings_Trim_laid Tryz.lays160 (by kernel_rfl) s ⟨#[65, 66, 67, 68, 69, 70, 71, 72, 73, 74, 75, 76, 77, 78, 79, 80, 81, 82, 83, 84, 85, 86, 87, 88, 89, 90]⟩ w hs (by decide) (ascii_of_all (by decide))
  change Calls Tryz.prog 88 _ _ (fun e w' => e = .returned (.string ⟨(Lib.trimS s.data.toList azL).toArray⟩) ∧ Below w.heap.size w w') at hcon
  obtain ⟨S, hS⟩ : ∃ S : ByteArray, S = ⟨(Lib.trimS s.data.toList azL).toArray⟩ := ⟨_, rfl⟩
  rw [← hS] at hcon
  have hse := str_empty (s := S) (l := Lib.trimS s.data.toList azL) (b := q) (by rw [hS]) (by rw [trimS_empty]; exact hq)
  have HC := Lib.hid hcon
  obtain ⟨he1, he2⟩ := hse
  have h1' : (1 : Int) ≤ (s.size : Int) := by omega
  have h2' : (s.size : Int) ≤ m := by omega
  clear hq h1 h2 hS hcon
  cases q
  · go_enter Tryz.func97, Tryz.ntmps97
    go_wp2_with fail
    refine HC.out.mono ?_; rintro e w2 ⟨rfl, hb⟩
    go_wp2_with fail
    go_ret
    exact ⟨rfl, hb⟩
  · go_enter Tryz.func97, Tryz.ntmps97
    go_wp2_with fail
    refine HC.out.mono ?_; rintro e w2 ⟨rfl, hb⟩
    go_wp2_with fail
    go_ret
    exact ⟨rfl, hb⟩

/-- The first and the last byte of a text that is not empty. -/
theorem ends_at (s : ByteArray) (h : 0 < s.size) : s.data.toList.head? = some s[0] ∧ s.data.toList.getLast? = some (s[s.size - 1]'(by omega)) := by
  have h' : 0 < s.data.toList.length := by simpa using h
  refine ⟨?_, ?_⟩
  · rw [List.head?_eq_getElem?, List.getElem?_eq_getElem h']; rfl
  · rw [List.getLast?_eq_getElem?, List.getElem?_eq_getElem (by omega)]
    congr 1
theorem u8_60 (c : UInt8) : (some c != some (60 : UInt8)) = ((c.toNat : Int) != 60) := by
  rcases Bool.eq_false_or_eq_true ((c.toNat : Int) != 60) with h | h
  · rw [h, bne_iff_ne]; rintro e; injection e with e; subst e; simp at h
  · rw [h]
    have : (c.toNat : Int) = 60 := by simpa using h
    have e : c = 60 := by apply UInt8.toNat_inj.1; show c.toNat = 60; omega
    subst e; rfl

set_option maxHeartbeats 1000000 in
theorem rextra (s : ByteArray) (w : World) (hs : s.size ≤ maxLen) :
    Calls Tryz.prog 84 #[.string s] w fun e w' => e = .returned (.bool (Zn.extra s)) ∧ w = w' := by
  have HV := Lib.hid (fun W => rvalid10 s W hs)
  unfold maxLen at hs
  obtain ⟨q, hq⟩ : ∃ q, Zn.extra s = q := ⟨_, rfl⟩
  rw [hq]
  unfold Zn.extra at hq
  obtain ⟨v, hv⟩ : ∃ v, Opt.valid s.data.toList = v := ⟨_, rfl⟩
  rw [hv] at HV hq
  clear hv
  cases v
  · have hqf : false = q := by rw [← hq]; rfl
    subst hqf
    clear hq
    go_enter Tryz.func84, Tryz.ntmps84
    go_wp2_with fail
    refine (HV.out _).mono ?_; rintro e w2 ⟨rfl, rfl⟩
    go_wp2_with fail
    go_ret
    exact ⟨rfl, rfl⟩
  · rw [Bool.true_and] at hq
    rcases Nat.eq_zero_or_pos s.size with h0 | h0
    · have hl : s.data.toList = [] := List.eq_nil_of_length_eq_zero (by simpa using h0)
      have hqt : true = q := by rw [← hq, hl]; rfl
      subst hqt
      obtain ⟨he1, he2⟩ := str_empty (s := s) (l := []) (b := true) hl rfl
      clear hq hl h0
      go_enter Tryz.func84, Tryz.ntmps84
      go_wp2_with fail
      refine (HV.out _).mono ?_; rintro e w2 ⟨rfl, rfl⟩
      go_wp2_with fail
      go_ret
      exact ⟨rfl, rfl⟩
    · obtain ⟨e1, e2⟩ := ends_at s h0
      rw [e1, e2, u8_60, u8_60] at hq
      have hl : s.data.toList ≠ [] := fun h => by have h3 := Opt.size_len s; rw [h] at h3; simp only [List.length_nil] at h3; omega
      obtain ⟨he1, he2⟩ := str_empty (s := s) (l := s.data.toList) (b := false) rfl (by cases h : s.data.toList; exact absurd h hl; rfl)
      have hsz : (0 : Int) < (s.size : Int) := by omega
      have hsb : (s.size : Int) ≤ 9223372036854775807 := by omega
      have h1 : 1 ≤ s.size := by omega
      have hlast : s.size - 1 < s.size := by omega
      have hsub : ((s.size : Int) - 1).toNat = s.size - 1 := by omega
      have HQ := Lib.hid hq
      clear hq e1 e2 hl
      go_enter Tryz.func84, Tryz.ntmps84
      go_wp2_with fail
      refine (HV.out _).mono ?_; rintro e w2 ⟨rfl, rfl⟩
      go_wp2_with fail
      all_goals
        go_ret
        exact ⟨ret_bool (by first | (rw [← HQ.out]; done) | (rw [← HQ.out]; simp [*])), rfl⟩

theorem prefix_one (l : List UInt8) : (!Lib.hasPrefix l [60]) = (l.head? != some 60) := by
  cases l with
  | nil => rfl
  | cons x r =>
    rcases Bool.eq_false_or_eq_true (x == 60) with h | h
    · have : x = 60 := by simpa using h
      subst this; simp [Lib.hasPrefix]
    · have h2 : x ≠ 60 := by simpa using h
      have h3 : ((60 : UInt8) == x) = false := by rw [beq_eq_false_iff_ne]; exact fun e => h2 e.symm
      have h4 : (some x != some (60 : UInt8)) = true := by rw [bne_iff_ne]; exact fun e => h2 (Option.some.inj e)
      unfold Lib.hasPrefix
      rw [List.head?_cons, h4, List.isPrefixOf, h3]; rfl
theorem suffix_one (l : List UInt8) : (!Lib.hasSuffix l [60]) = (l.getLast? != some 60) := by
  rcases List.eq_nil_or_concat l with rfl | ⟨m, x, rfl⟩
  · rfl
  · rcases Bool.eq_false_or_eq_true (x == 60) with h | h
    · have : x = 60 := by simpa using h
      subst this; simp [Lib.hasSuffix]
    · have h2 : x ≠ 60 := by simpa using h
      have h3 : ((60 : UInt8) == x) = false := by rw [beq_eq_false_iff_ne]; exact fun e => h2 e.symm
      have h4 : (some x != some (60 : UInt8)) = true := by rw [bne_iff_ne]; exact fun e => h2 (Option.some.inj e)
      unfold Lib.hasSuffix List.isSuffixOf
      rw [List.concat_eq_append, List.getLast?_concat, h4, List.reverse_concat, List.reverse_singleton, List.isPrefixOf, h3]; rfl

set_option maxHeartbeats 1000000 in
theorem zfree (s : ByteArray) (w : World) (hs : s.size ≤ maxLen) :
    Calls Tryz.prog 102 #[.string s] w fun e w' => e = .returned (.bool (Zn.extra s)) ∧ w = w' := by
  have HV := Lib.hid (fun W => ovalid s W hs)
  have HP := Lib.hid (fun W => Tryz.strings_HasPrefix s ⟨#[60]⟩ W)
  have HS := Lib.hid (fun W => Tryz.strings_HasSuffix s ⟨#[60]⟩ W hs)
  have p1 := prefix_one s.data.toList
  have p2 := suffix_one s.data.toList
  obtain ⟨q, hq⟩ : ∃ q, Zn.extra s = q := ⟨_, rfl⟩
  rw [hq]
  unfold Zn.extra at hq
  rw [← p1, ← p2] at hq
  obtain ⟨v, hv⟩ : ∃ v, Opt.valid s.data.toList = v := ⟨_, rfl⟩
  obtain ⟨a, ha⟩ : ∃ a, Lib.hasPrefix s.data.toList [60] = a := ⟨_, rfl⟩
  obtain ⟨b, hb⟩ : ∃ b, Lib.hasSuffix s.data.toList [60] = b := ⟨_, rfl⟩
  rw [hv] at HV
  rw [show (⟨#[60]⟩ : ByteArray).data.toList = [60] from rfl, ha] at HP
  rw [show (⟨#[60]⟩ : ByteArray).data.toList = [60] from rfl, hb] at HS
  rw [hv, ha, hb] at hq
  subst hq
  clear hv ha hb p1 p2
  go_enter Tryz.func102, Tryz.ntmps102
  go_wp2_with fail
  refine (HV.out _).mono ?_; rintro e w2 ⟨rfl, rfl⟩
  cases v
  · go_wp2_with fail
    go_ret
    exact ⟨rfl, rfl⟩
  · go_wp2_with fail
    refine (HP.out _).mono ?_; rintro e w2 ⟨rfl, hw⟩
    rw [hw]
    clear hw
    cases a
    · go_wp2_with fail
      refine (HS.out _).mono ?_; rintro e w3 ⟨rfl, hw⟩
      rw [hw]
      clear hw
      go_wp2_with fail
      go_ret
      exact ⟨by simp, rfl⟩
    · go_wp2_with fail
      go_ret
      exact ⟨rfl, rfl⟩

theorem below_alloc1 (w : World) (o : Obj) : Below w.heap.size w (w.alloc o) := (Below.refl _ _).alloc (Nat.le_refl _) _
theorem size_alloc1 (w : World) (o : Obj) : (w.alloc o).heap.size = w.heap.size + 1 := by simp
theorem cells_of (w : World) (z : Zn.Z) (i : Nat) : (w.alloc (.cells z.cells 42)).cell? ⟨w.heap.size, i, none⟩ = z.cells[i]? := by
  have h := heap_alloc_new w (.cells z.cells 42)
  unfold World.cell?
  rw [h]
  rfl
end Go.Proofs.YtafbhadfeemppaaGreatDoor
