/- Chapter 42, several texts in one: Chapter 42: the reference's lists of names: the walks of has and put. Chapter 42: the variables of a term, as the reference lists them. Chapter 42: which strands are valid: the walk of the reference's Valid. -/
import Derived.Test.YtihbmgkbipeakaaGreatStrGA
import Derived.Test.YtihbmgkbipeakaaGreatStrValid
namespace Go.Proofs.YtihbmgkbipeakaaGreat
open Go.RowKit

theorem TextsAt.later {w w' : World} {A : Option Addr} {K : List ByteArray} (h : TextsAt w A K) (hb : Below w.heap.size w w') : TextsAt w' A K := Src.later h hb

set_option maxRecDepth 100000 in
set_option maxHeartbeats 2000000 in
theorem rhas (L : List ByteArray) (A : Option Addr) (c : Nat) (s : ByteArray) (w : World) (hL : L.length ≤ 1099511627776) (hA : TextsAt w A L) :
    Calls Tryz.prog 67 #[.slice A L.length c, .string s] w fun e w' => e = .returned (.bool (Lib.containsS L s)) ∧ w = w' := by
  have HA := Lib.hid hA
  clear hA
  obtain ⟨R, hR⟩ : ∃ r, Lib.containsS L s = r := ⟨_, rfl⟩
  have HR := Lib.hid hR
  rw [hR]
  clear hR
  go_enter Tryz.func67, Tryz.ntmps67
  go_wp2_with fail
  go_loopw [5] (fun i wr => ∃ j : Nat, j ≤ L.length ∧ i = .int .i64 j ∧ (∀ m (h : m < j) (h1 : m < L.length), L[m] ≠ s) ∧ w = wr) (fun i _ => L.length - (intOf i).toNat)
  case atStart => exact ⟨0, Nat.zero_le _, rfl, fun m h => absurd h (by omega), rfl⟩
  case round =>
    obtain ⟨j, hj, rfl, hz, rfl⟩ := hrel
    have HZ := Lib.hid hz; clear hz
    by_cases hlt : j < L.length
    · obtain ⟨b, off, rfl, e0⟩ := HA.out.cell j hlt
      have hi : (j : Int) < (L.length : Int) := by omega
      obtain ⟨x, hx⟩ : ∃ x, L[j]'hlt = x := ⟨_, rfl⟩
      have HX := Lib.hid hx
      have HLT := Lib.hid hlt
      rw [hx] at e0
      rcases Bool.eq_false_or_eq_true (x.toList == s.toList) with g | g
      · have HRT := Lib.hid (show true = R by rw [← HR.out, eq_comm, contains_iff]; have e : x = s := str_eq (by rw [← ByteArray.toList_eq, ← ByteArray.toList_eq]; exact beq_iff_eq.1 g); rw [← e, ← hx]; exact List.getElem_mem hlt)
        clear hx
        go_wp2_with fail
        go_ret
        exact ⟨ret_bool HRT.out, rfl⟩
      · have HNE := Lib.hid (show x ≠ s from fun e => by rw [e] at g; simp at g)
        clear hx
        go_wp2_with fail
        go_roundw
        case rel =>
          refine ⟨j + 1, HLT.out, by go_num, fun m h g1 => ?_, by trivial⟩
          rcases Nat.lt_or_ge m j with g | g
          · exact HZ.out m g g1
          · obtain rfl : m = j := by omega
            rw [HX.out]; exact HNE.out
        case measure => have := HLT.out; simp [intOf]; omega
    · have hi : (L.length : Int) ≤ (j : Int) := by omega
      have HRF := Lib.hid (show false = R by
        rw [← HR.out, eq_comm]
        cases h : Lib.containsS L s with
        | false => rfl
        | true =>
          obtain ⟨m, hm, e⟩ := List.getElem_of_mem ((contains_iff L s).1 h)
          exact absurd e (HZ.out m (by omega) hm))
      go_wp2_with fail
      go_ret
      exact ⟨ret_bool HRF.out, rfl⟩
/-- A list with one more name. -/
def PutPost (L : List ByteArray) (s : ByteArray) (w : World) (e : Ending) (w' : World) : Prop :=
  ∃ (A : Option Addr) (c : Nat) (L' : List ByteArray), e = .returned (.slice A L'.length c) ∧ TextsAt w' A L' ∧ Below w.heap.size w w' ∧ (∀ x, x ∈ L' ↔ x ∈ L ∨ x = s) ∧ L'.length ≤ L.length + 1 ∧ L'.length ≤ c ∧ c ≤ maxLen
theorem put_below1 {w w7 : World} (hg : (w.alloc (.cells #[] 9)).grownBy w7 (some w.heap.size)) : Below w.heap.size w w7 :=
  (below_alloc1 w _).grown hg (by rw [size_alloc1]; omega) (fun b h => by have e : w.heap.size = b := Option.some.inj h; omega)
theorem put_size {w w7 : World} {o : Obj} (h : Below w.heap.size w w7) : w.heap.size ≤ (w7.alloc o).heap.size := by rw [size_alloc1]; have := h.size; omega
theorem put_below2 {w w7 w8 : World} {o : Obj} {row : Option Nat} (h : Below w.heap.size w w7) (hl : ∀ b, row = some b → w.heap.size ≤ b ∧ b < w7.heap.size) (hg : (w7.alloc o).grownBy w8 row) : Below w.heap.size w w8 :=
  (h.trans ((below_alloc1 w7 o).mono h.size)).grown hg (put_size h) (fun b hb => (hl b hb).1)
theorem put_ends {w w9 : World} {L : List ByteArray} {s : ByteArray} {k n : Nat} {A9 : Option Addr} {c9 : Nat} (hk : k ≤ L.length) (hown : w9.ownsRow w.heap.size 9 1 (.slice A9 n c9) n (((L.map Value.string).take k ++ [.string s]) ++ (L.map Value.string).drop k)) (hb : Below w.heap.size w w9) :
    PutPost L s w (.returned (.slice A9 n c9)) w9 := by
  have hn : n = (L.take k ++ [s] ++ L.drop k).length := by have := hown.1; simp at this ⊢; omega
  subst hn
  refine ⟨A9, c9, L.take k ++ [s] ++ L.drop k, rfl, ?_, hb, fun x => ?_, by simp; omega, ?_, ?_⟩
  · have h := Src.of_own hown
    unfold TextsAt
    rw [List.map_append, List.map_append, List.map_take, List.map_drop]
    exact h
  · rw [List.mem_append, List.mem_append, List.mem_singleton]
    have h := congrArg (fun l => x ∈ l) (List.take_append_drop k L)
    simp only [List.mem_append] at h
    rw [← h]
    constructor
    · rintro ((h | h) | h)
      · exact .inl (.inl h)
      · exact .inr h
      · exact .inl (.inr h)
    · rintro ((h | h) | h)
      · exact .inl (.inl h)
      · exact .inr h
      · exact .inl (.inr h)
  · rcases hown.2 with ⟨h, h0⟩ | ⟨g, cap, cur, h, _, _, h1, _⟩
    · simp at h0
    · injection h with e1 e2 e3; omega
  · rcases hown.2 with ⟨h, h0⟩ | ⟨g, cap, cur, h, _, _, _, h1, _⟩
    · simp at h0
    · injection h with e1 e2 e3; omega

set_option maxRecDepth 100000 in
set_option maxHeartbeats 4000000 in
theorem rput (L : List ByteArray) (A : Option Addr) (c : Nat) (s : ByteArray) (w : World) (hL : L.length ≤ 1099511627776) (hc : L.length ≤ c) (hcm : c ≤ maxLen) (hA : TextsAt w A L) :
    Calls Tryz.prog 68 #[.slice A L.length c, .string s] w (PutPost L s w) := by
  obtain ⟨i0, hi0, hz0, hz1, hz2⟩ := info_parts Tryz.infoStr
  have HA := Lib.hid hA; have HL := Lib.hid hL; have HC1 := Lib.hid hc; have HC2 := Lib.hid hcm
  clear hA hL hc hcm
  go_enter Tryz.func68, Tryz.ntmps68
  go_wp2_with fail
  go_loopw [5] (fun i wr => ∃ k : Nat, k ≤ L.length ∧ i = .int .i64 k ∧ w = wr) (fun i _ => (intOf i).toNat)
  case atStart => exact ⟨L.length, Nat.le_refl _, rfl, rfl⟩
  case round =>
    obtain ⟨k, hkl, rfl, rfl⟩ := hrel
    by_cases hk0 : k = 0
    · have hi : ¬ (0 : Int) < (k : Int) := by omega
      clear hk0
      by_cases hck : c = k
      · have hck' : (c : Int) = (k : Int) := by omega
        have HKL := Lib.hid hkl
        have hsrc := Src.cut (k := k) (cap := c) HA.out hkl HC1.out
        rw [if_pos hck] at hsrc
        simp only [Nat.mul_one] at hsrc
        have HSRC3 := Lib.hid hsrc
        have HSRC1 := Lib.hid (Src.head_ HA.out hkl)
        have HE := Lib.hid (World.ownsRow_made (size := 1) (e := 9) w #[] 0 (base := w.heap.size) (Nat.le_refl _) (Nat.zero_le _) rfl)
        have HO1 := Lib.hid (show ∀ u ∈ (L.map Value.string).take k, u.oneCell' = true from fun u hu => by obtain ⟨b, _, rfl⟩ := List.mem_map.1 (List.mem_of_mem_take hu); rfl)
        have HO3 := Lib.hid (show ∀ u ∈ (L.map Value.string).drop k, u.oneCell' = true from fun u hu => by obtain ⟨b, _, rfl⟩ := List.mem_map.1 (List.mem_of_mem_drop hu); rfl)
        have HO2 := Lib.hid (show ∀ u ∈ [Value.string s], u.oneCell' = true from fun u hu => by rw [List.mem_singleton] at hu; subst hu; rfl)
        have b1 : (0 : Int) ≤ (k : Int) := by omega
        have b2 : (k : Int) ≤ (c : Int) := by have := HC1.out; omega
        have b3 : (k : Int) ≤ (L.length : Int) := by omega
        have b4 : (L.length : Int) ≤ (c : Int) := by have := HC1.out; omega
        clear hsrc
        go_wp2_with (first | (at_builtin; refine wpList_append_src _ rfl (.tmp 30) (.tmp 33) 56 rfl w.heap.size 9 i0 _ 1 16 Tryz.underlying56 hi0 hz0 hz1 hz2 rfl (by omega) _ 0 [] rfl HE.out _ k _ _ rfl (HSRC1.out.later (below_alloc1 w _)) HO1.out (by have := HL.out; unfold maxLen; omega) (by have := HL.out; omega) (by rw [size_alloc1]; omega) ?_; intro A7 c7 w7 hown7 hg7 hat7; simp only [Nat.zero_add, List.nil_append] at hown7 hg7 hat7; have hb7 := put_below1 hg7) | (at_builtin; refine wpList_append_src _ rfl (.tmp 35) (.tmp 37) 56 rfl w.heap.size 9 i0 _ 1 16 Tryz.underlying56 hi0 hz0 hz1 hz2 rfl (by omega) _ k _ rfl (own_later hown7 (below_alloc1 w7 _)) _ 1 1 [.string s] rfl (Src.one_str w7 s) HO2.out (by have := HL.out; unfold maxLen; omega) (by have := HL.out; omega) (put_size hb7) ?_; intro A8 c8 w8 hown8 hg8 hat8; have hb8 := put_below2 hb7 hown7.lt hg8) | (at_builtin; refine wpList_append_src _ rfl (.tmp 39) (.tmp 42) 56 rfl w.heap.size 9 i0 _ 1 16 Tryz.underlying56 hi0 hz0 hz1 hz2 rfl (by omega) _ (k + 1) _ rfl hown8 _ (L.length - k) _ _ rfl (HSRC3.out.later hb8) HO3.out (by have := HL.out; unfold maxLen; omega) (by have := HL.out; omega) (show _ ≤ w8.heap.size from hb8.size) ?_; intro A9 c9 w9 hown9 hg9 hat9))
        have hfin := put_ends (L := L) (s := s) HKL.out hown9 (hb8.grown hg9 (show _ ≤ w8.heap.size from hb8.size) (fun b hb => (hown8.lt b hb).1))
        have HFIN := Lib.hid hfin
        clear hfin hown7 hg7 hat7 hb7 hown8 hg8 hat8 hb8 hown9 hg9 hat9
        go_ret
        exact HFIN.out
      · have hck' : ¬ (c : Int) = (k : Int) := by omega
        have HKL := Lib.hid hkl
        have hsrc := Src.cut (k := k) (cap := c) HA.out hkl HC1.out
        rw [if_neg hck] at hsrc
        simp only [Nat.mul_one] at hsrc
        have HSRC3 := Lib.hid hsrc
        have HSRC1 := Lib.hid (Src.head_ HA.out hkl)
        have HE := Lib.hid (World.ownsRow_made (size := 1) (e := 9) w #[] 0 (base := w.heap.size) (Nat.le_refl _) (Nat.zero_le _) rfl)
        have HO1 := Lib.hid (show ∀ u ∈ (L.map Value.string).take k, u.oneCell' = true from fun u hu => by obtain ⟨b, _, rfl⟩ := List.mem_map.1 (List.mem_of_mem_take hu); rfl)
        have HO3 := Lib.hid (show ∀ u ∈ (L.map Value.string).drop k, u.oneCell' = true from fun u hu => by obtain ⟨b, _, rfl⟩ := List.mem_map.1 (List.mem_of_mem_drop hu); rfl)
        have HO2 := Lib.hid (show ∀ u ∈ [Value.string s], u.oneCell' = true from fun u hu => by rw [List.mem_singleton] at hu; subst hu; rfl)
        have b1 : (0 : Int) ≤ (k : Int) := by omega
        have b2 : (k : Int) ≤ (c : Int) := by have := HC1.out; omega
        have b3 : (k : Int) ≤ (L.length : Int) := by omega
        have b4 : (L.length : Int) ≤ (c : Int) := by have := HC1.out; omega
        clear hsrc
        go_wp2_with (first | (at_builtin; refine wpList_append_src _ rfl (.tmp 30) (.tmp 33) 56 rfl w.heap.size 9 i0 _ 1 16 Tryz.underlying56 hi0 hz0 hz1 hz2 rfl (by omega) _ 0 [] rfl HE.out _ k _ _ rfl (HSRC1.out.later (below_alloc1 w _)) HO1.out (by have := HL.out; unfold maxLen; omega) (by have := HL.out; omega) (by rw [size_alloc1]; omega) ?_; intro A7 c7 w7 hown7 hg7 hat7; simp only [Nat.zero_add, List.nil_append] at hown7 hg7 hat7; have hb7 := put_below1 hg7) | (at_builtin; refine wpList_append_src _ rfl (.tmp 35) (.tmp 37) 56 rfl w.heap.size 9 i0 _ 1 16 Tryz.underlying56 hi0 hz0 hz1 hz2 rfl (by omega) _ k _ rfl (own_later hown7 (below_alloc1 w7 _)) _ 1 1 [.string s] rfl (Src.one_str w7 s) HO2.out (by have := HL.out; unfold maxLen; omega) (by have := HL.out; omega) (put_size hb7) ?_; intro A8 c8 w8 hown8 hg8 hat8; have hb8 := put_below2 hb7 hown7.lt hg8) | (at_builtin; refine wpList_append_src _ rfl (.tmp 39) (.tmp 42) 56 rfl w.heap.size 9 i0 _ 1 16 Tryz.underlying56 hi0 hz0 hz1 hz2 rfl (by omega) _ (k + 1) _ rfl hown8 _ (L.length - k) _ _ rfl (HSRC3.out.later hb8) HO3.out (by have := HL.out; unfold maxLen; omega) (by have := HL.out; omega) (show _ ≤ w8.heap.size from hb8.size) ?_; intro A9 c9 w9 hown9 hg9 hat9))
        have hfin := put_ends (L := L) (s := s) HKL.out hown9 (hb8.grown hg9 (show _ ≤ w8.heap.size from hb8.size) (fun b hb => (hown8.lt b hb).1))
        have HFIN := Lib.hid hfin
        clear hfin hown7 hg7 hat7 hb7 hown8 hg8 hat8 hb8 hown9 hg9 hat9
        go_ret
        exact HFIN.out
    · have hi : (0 : Int) < (k : Int) := by omega
      have hw : IntKind.i64.wrap ((k : Int) - 1) = ((k - 1 : Nat) : Int) := by rw [IntWalk.i64_in _ (by have := HL.out; omega)]; omega
      have hml : k - 1 < L.length := by omega
      have hmi : ((k - 1 : Nat) : Int) < (L.length : Int) := by omega
      obtain ⟨b, off, rfl, e0⟩ := HA.out.cell (k - 1) hml
      obtain ⟨x, hx⟩ : ∃ x, L[k - 1]'hml = x := ⟨_, rfl⟩
      have HX := Lib.hid (show x ∈ L by rw [← hx]; exact List.getElem_mem hml)
      rw [hx] at e0
      have HK0 := Lib.hid hk0
      clear hx hk0
      rcases Bool.eq_false_or_eq_true (Op.bytesLess x.toList s.toList) with hls | hls
      · skip
        by_cases hck : c = k
        · have hck' : (c : Int) = (k : Int) := by omega
          have HKL := Lib.hid hkl
          have hsrc := Src.cut (k := k) (cap := c) HA.out hkl HC1.out
          rw [if_pos hck] at hsrc
          simp only [Nat.mul_one] at hsrc
          have HSRC3 := Lib.hid hsrc
          have HSRC1 := Lib.hid (Src.head_ HA.out hkl)
          have HE := Lib.hid (World.ownsRow_made (size := 1) (e := 9) w #[] 0 (base := w.heap.size) (Nat.le_refl _) (Nat.zero_le _) rfl)
          have HO1 := Lib.hid (show ∀ u ∈ (L.map Value.string).take k, u.oneCell' = true from fun u hu => by obtain ⟨b, _, rfl⟩ := List.mem_map.1 (List.mem_of_mem_take hu); rfl)
          have HO3 := Lib.hid (show ∀ u ∈ (L.map Value.string).drop k, u.oneCell' = true from fun u hu => by obtain ⟨b, _, rfl⟩ := List.mem_map.1 (List.mem_of_mem_drop hu); rfl)
          have HO2 := Lib.hid (show ∀ u ∈ [Value.string s], u.oneCell' = true from fun u hu => by rw [List.mem_singleton] at hu; subst hu; rfl)
          have b1 : (0 : Int) ≤ (k : Int) := by omega
          have b2 : (k : Int) ≤ (c : Int) := by have := HC1.out; omega
          have b3 : (k : Int) ≤ (L.length : Int) := by omega
          have b4 : (L.length : Int) ≤ (c : Int) := by have := HC1.out; omega
          clear hsrc
          go_wp2_with (first | (at_builtin; refine wpList_append_src _ rfl (.tmp 30) (.tmp 33) 56 rfl w.heap.size 9 i0 _ 1 16 Tryz.underlying56 hi0 hz0 hz1 hz2 rfl (by omega) _ 0 [] rfl HE.out _ k _ _ rfl (HSRC1.out.later (below_alloc1 w _)) HO1.out (by have := HL.out; unfold maxLen; omega) (by have := HL.out; omega) (by rw [size_alloc1]; omega) ?_; intro A7 c7 w7 hown7 hg7 hat7; simp only [Nat.zero_add, List.nil_append] at hown7 hg7 hat7; have hb7 := put_below1 hg7) | (at_builtin; refine wpList_append_src _ rfl (.tmp 35) (.tmp 37) 56 rfl w.heap.size 9 i0 _ 1 16 Tryz.underlying56 hi0 hz0 hz1 hz2 rfl (by omega) _ k _ rfl (own_later hown7 (below_alloc1 w7 _)) _ 1 1 [.string s] rfl (Src.one_str w7 s) HO2.out (by have := HL.out; unfold maxLen; omega) (by have := HL.out; omega) (put_size hb7) ?_; intro A8 c8 w8 hown8 hg8 hat8; have hb8 := put_below2 hb7 hown7.lt hg8) | (at_builtin; refine wpList_append_src _ rfl (.tmp 39) (.tmp 42) 56 rfl w.heap.size 9 i0 _ 1 16 Tryz.underlying56 hi0 hz0 hz1 hz2 rfl (by omega) _ (k + 1) _ rfl hown8 _ (L.length - k) _ _ rfl (HSRC3.out.later hb8) HO3.out (by have := HL.out; unfold maxLen; omega) (by have := HL.out; omega) (show _ ≤ w8.heap.size from hb8.size) ?_; intro A9 c9 w9 hown9 hg9 hat9))
          have hfin := put_ends (L := L) (s := s) HKL.out hown9 (hb8.grown hg9 (show _ ≤ w8.heap.size from hb8.size) (fun b hb => (hown8.lt b hb).1))
          have HFIN := Lib.hid hfin
          clear hfin hown7 hg7 hat7 hb7 hown8 hg8 hat8 hb8 hown9 hg9 hat9
          go_ret
          exact HFIN.out
        · have hck' : ¬ (c : Int) = (k : Int) := by omega
          have HKL := Lib.hid hkl
          have hsrc := Src.cut (k := k) (cap := c) HA.out hkl HC1.out
          rw [if_neg hck] at hsrc; simp only [Option.map_some, Go.WideShapes.add_plain] at hsrc
          simp only [Nat.mul_one] at hsrc
          have HSRC3 := Lib.hid hsrc
          have HSRC1 := Lib.hid (Src.head_ HA.out hkl)
          have HE := Lib.hid (World.ownsRow_made (size := 1) (e := 9) w #[] 0 (base := w.heap.size) (Nat.le_refl _) (Nat.zero_le _) rfl)
          have HO1 := Lib.hid (show ∀ u ∈ (L.map Value.string).take k, u.oneCell' = true from fun u hu => by obtain ⟨b, _, rfl⟩ := List.mem_map.1 (List.mem_of_mem_take hu); rfl)
          have HO3 := Lib.hid (show ∀ u ∈ (L.map Value.string).drop k, u.oneCell' = true from fun u hu => by obtain ⟨b, _, rfl⟩ := List.mem_map.1 (List.mem_of_mem_drop hu); rfl)
          have HO2 := Lib.hid (show ∀ u ∈ [Value.string s], u.oneCell' = true from fun u hu => by rw [List.mem_singleton] at hu; subst hu; rfl)
          have b1 : (0 : Int) ≤ (k : Int) := by omega
          have b2 : (k : Int) ≤ (c : Int) := by have := HC1.out; omega
          have b3 : (k : Int) ≤ (L.length : Int) := by omega
          have b4 : (L.length : Int) ≤ (c : Int) := by have := HC1.out; omega
          clear hsrc
          go_wp2_with (first | (at_builtin; refine wpList_append_src _ rfl (.tmp 30) (.tmp 33) 56 rfl w.heap.size 9 i0 _ 1 16 Tryz.underlying56 hi0 hz0 hz1 hz2 rfl (by omega) _ 0 [] rfl HE.out _ k _ _ rfl (HSRC1.out.later (below_alloc1 w _)) HO1.out (by have := HL.out; unfold maxLen; omega) (by have := HL.out; omega) (by rw [size_alloc1]; omega) ?_; intro A7 c7 w7 hown7 hg7 hat7; simp only [Nat.zero_add, List.nil_append] at hown7 hg7 hat7; have hb7 := put_below1 hg7) | (at_builtin; refine wpList_append_src _ rfl (.tmp 35) (.tmp 37) 56 rfl w.heap.size 9 i0 _ 1 16 Tryz.underlying56 hi0 hz0 hz1 hz2 rfl (by omega) _ k _ rfl (own_later hown7 (below_alloc1 w7 _)) _ 1 1 [.string s] rfl (Src.one_str w7 s) HO2.out (by have := HL.out; unfold maxLen; omega) (by have := HL.out; omega) (put_size hb7) ?_; intro A8 c8 w8 hown8 hg8 hat8; have hb8 := put_below2 hb7 hown7.lt hg8) | (at_builtin; refine wpList_append_src _ rfl (.tmp 39) (.tmp 42) 56 rfl w.heap.size 9 i0 _ 1 16 Tryz.underlying56 hi0 hz0 hz1 hz2 rfl (by omega) _ (k + 1) _ rfl hown8 _ (L.length - k) _ _ rfl (HSRC3.out.later hb8) HO3.out (by have := HL.out; unfold maxLen; omega) (by have := HL.out; omega) (show _ ≤ w8.heap.size from hb8.size) ?_; intro A9 c9 w9 hown9 hg9 hat9))
          have hfin := put_ends (L := L) (s := s) HKL.out hown9 (hb8.grown hg9 (show _ ≤ w8.heap.size from hb8.size) (fun b hb => (hown8.lt b hb).1))
          have HFIN := Lib.hid hfin
          clear hfin hown7 hg7 hat7 hb7 hown8 hg8 hat8 hb8 hown9 hg9 hat9
          go_ret
          exact HFIN.out
      · rcases Bool.eq_false_or_eq_true (x.toList == s.toList) with g | g
        · have HE := Lib.hid (show x = s from str_eq (by rw [← ByteArray.toList_eq, ← ByteArray.toList_eq]; exact beq_iff_eq.1 g))
          go_wp2_with fail
          go_ret
          exact ⟨_, _, L, rfl, HA.out, Below.refl _ _, fun y => ⟨.inl, fun h => h.elim id (fun e => by rw [e, ← HE.out]; exact HX.out)⟩, by omega, HC1.out, HC2.out⟩
        · have HKL := Lib.hid hkl
          go_wp2_with fail
          go_roundw
          case rel => exact ⟨k - 1, by have := HKL.out; omega, rfl, by trivial⟩
          case measure => have := HK0.out; simp only [intOf]; omega
end Go.Proofs.YtihbmgkbipeakaaGreat

namespace Go.Proofs.YtihbmgkbipeakaaGreat
open Go.RowKit

/-- A list of names in memory. -/
def ListIs (w : World) (v : Value) (L : List ByteArray) : Prop := ∃ A c, v = .slice A L.length c ∧ TextsAt w A L ∧ L.length ≤ c ∧ c ≤ maxLen
theorem ListIs.later {w w' : World} {v : Value} {L : List ByteArray} (h : ListIs w v L) (hb : Below w.heap.size w w') : ListIs w' v L := by
  obtain ⟨A, c, h1, h2, h3⟩ := h
  exact ⟨A, c, h1, h2.later hb, h3⟩
theorem ListIs.nil (w : World) : ListIs w (.slice none 0 0) [] := ⟨none, 0, rfl, Src.none_ _ _ _, Nat.le_refl _, Nat.zero_le _⟩
/-- put, with lists. -/
theorem rput_is (L : List ByteArray) (v : Value) (s : ByteArray) (w : World) (hL : L.length ≤ 1099511627776) (h : ListIs w v L) :
    Calls Tryz.prog 68 #[v, .string s] w fun e w' => ∃ v' L', e = .returned v' ∧ ListIs w' v' L' ∧ Below w.heap.size w w' ∧ (∀ x, x ∈ L' ↔ x ∈ L ∨ x = s) ∧ L'.length ≤ L.length + 1 := by
  obtain ⟨A, c, rfl, h2, h3, h4⟩ := h
  refine (rput L A c s w hL h3 h4 h2).mono ?_
  rintro e w' ⟨A', c', L', rfl, g1, g2, g3, g4, g5, g6⟩
  exact ⟨_, L', rfl, ⟨A', c', rfl, g1, g5, g6⟩, g2, g3, g4⟩

set_option maxRecDepth 100000 in
set_option maxHeartbeats 8000000 in
theorem rvars : ∀ (N : Nat) (t : T) (v : Value) (w : World), t.bulk < N → TermAt w v t → t.bulk ≤ 1048576 →
    Calls Tryz.prog 66 #[v] w fun e w' => ∃ v' L, e = .returned v' ∧ ListIs w' v' L ∧ Below w.heap.size w w' ∧ (∀ x, x ∈ L ↔ x ∈ t.vars) ∧ L.length ≤ t.bulk := by
  intro N
  induction N with
  | zero => intro t v w h; omega
  | succ N ih =>
    intro t v w hN ht hbk
    cases ht with
    | mk k s A cap ks U h1 h2 h3 h4 hA hU =>
      simp only [T.bulk] at hN hbk
      have hkn : ks.length ≤ 262144 := by have := T.len_le ks; omega
      have hbx := boxed_new w (.int .i64 k) (.string s) (.slice A ks.length cap) 29
      have hb1 := below_alloc1 w (.cells #[.int .i64 k, .string s, .slice A ks.length cap] 29)
      have HA := Lib.hid hA; have HU := Lib.hid hU; have IH := Lib.hid ih; have HB1 := Lib.hid hb1
      clear hA hU ih
      go_enter Tryz.func66, Tryz.ntmps66
      go_upto_region 1 with fail
      generalize w.alloc (.cells #[.int .i64 k, .string s, .slice A ks.length cap] 29) = w1 at hbx hb1 HB1 ⊢
      obtain ⟨x0, x1, x2⟩ := hbx
      have X2 := Lib.hid x2
      by_cases k2 : k = 2
      · subst k2
        have HPUT := Lib.hid (rput_is [] (.slice none 0 0) s w1 (by simp) (ListIs.nil w1))
        go_wp2_with fail
        refine HPUT.out.mono ?_; rintro e w2 ⟨v2, L2, rfl, hl2, hb2, hm2, hn2⟩
        have HST := Lib.hid (show ∃ L, ListIs w2 v2 L ∧ (∀ x, x ∈ L ↔ x ∈ [s] ++ T.varsAll (ks.take 0)) ∧ L.length ≤ 1 + T.bulkAll (ks.take 0) ∧ Below w1.heap.size w1 w2 from ⟨L2, hl2, fun x => by rw [hm2]; simp [T.varsAll], by simpa [T.bulkAll] using hn2, hb2⟩)
        clear hl2 hb2 hm2 hn2 x0 x1 x2
        go_wp2_with fail
        go_loopw [4, 3] (fun i o wr => ∃ (j : Nat) (L : List ByteArray), j ≤ ks.length ∧ i = .int .i64 j ∧ ListIs wr o L ∧ (∀ x, x ∈ L ↔ x ∈ [s] ++ T.varsAll (ks.take j)) ∧ L.length ≤ 1 + T.bulkAll (ks.take j) ∧ Below w1.heap.size w1 wr) (fun i _ _ => ks.length - (intOf i).toNat)
        case atStart =>
          obtain ⟨L, g1, g2, g3, g4⟩ := HST.out
          exact ⟨0, L, Nat.zero_le _, rfl, g1, g2, g3, g4⟩
        case round =>
          obtain ⟨j, L, hj, rfl, hls, hmem, hlen, hbl⟩ := hrel
          have hbw := HB1.out.trans (hbl.mono HB1.out.size)
          have x2 := cell_later hbl X2.out
          by_cases hlt : j < ks.length
          · obtain ⟨b, off, B1, C1, rfl, d0, d1, d2, hu⟩ := TermAt.cells hlt HA.out HU.out
            have e0 := cell_later hbw d0; have e1 := cell_later hbw d1; have e2 := cell_later hbw d2
            have hi : (j : Int) < (ks.length : Int) := by omega
            have HT := Lib.hid (hu.later hbw)
            have HB2 := Lib.hid (show ks[j].bulk < N ∧ ks[j].bulk ≤ 1048576 by have := T.bulk_at ks j hlt; omega)
            have HNX := Lib.hid (show T.varsAll (ks.take (j + 1)) = T.varsAll (ks.take j) ++ (ks[j]'hlt).vars ∧ T.bulkAll (ks.take j) + (ks[j]'hlt).bulk ≤ T.bulkAll (ks.take (j + 1)) ∧ T.bulkAll (ks.take (j + 1)) ≤ T.bulkAll ks by
              refine ⟨T.varsAll_take ks j hlt, ?_, T.bulkAll_take ks (j + 1)⟩
              have h := T.bulkAll_succ (ks.take (j + 1)) j (by rw [List.length_take]; omega)
              rw [List.take_take, Nat.min_eq_left (Nat.le_succ j), List.getElem_take] at h
              exact h)
            have HLS := Lib.hid hls; have HMEM := Lib.hid hmem; have HLEN := Lib.hid hlen; have HBL := Lib.hid hbl; have HLT := Lib.hid hlt
            clear d0 d1 d2 hu hls hmem hlen hbl hbw hj
            go_wp2_with fail
            refine (IH.out _ _ _ HB2.out.1 HT.out HB2.out.2).mono ?_; rintro e w5 ⟨v5, M, rfl, hl5, hb5, hm5, hn5⟩
            obtain ⟨A5, c5, rfl, ht5, _, _⟩ := hl5
            have HT5 := Lib.hid ht5; have HM5 := Lib.hid hm5; have HN5 := Lib.hid hn5
            have HST5 := Lib.hid (HLS.out.later hb5); have HBL5 := Lib.hid (HBL.out.trans (hb5.mono HBL.out.size))
            clear ht5 hm5 hn5 hb5 e0 e1 e2 x2
            go_wp2_with fail
            go_loopw [6, 3] (fun i o wr => ∃ (m : Nat) (L' : List ByteArray), m ≤ M.length ∧ i = .int .i64 m ∧ ListIs wr o L' ∧ (∀ x, x ∈ L' ↔ x ∈ L ∨ x ∈ M.take m) ∧ L'.length ≤ L.length + m ∧ Below w5.heap.size w5 wr) (fun i _ _ => M.length - (intOf i).toNat)
            case atStart => exact ⟨0, L, Nat.zero_le _, rfl, HST5.out, fun x => by simp, by omega, Below.refl _ _⟩
            case round =>
              obtain ⟨m, L', hm, rfl, hls, hmem, hlen, hbl⟩ := hrel
              have hM : M.length ≤ 1048576 := Nat.le_trans HN5.out HB2.out.2
              by_cases hml : m < M.length
              · obtain ⟨b', off', rfl, e0⟩ := (HT5.out.later hbl).cell m hml
                have hi' : (m : Int) < (M.length : Int) := by omega
                obtain ⟨y, hy⟩ : ∃ y, M[m]'hml = y := ⟨_, rfl⟩
                rw [hy] at e0
                have HTK := Lib.hid (show M.take (m + 1) = M.take m ++ [y] by rw [List.take_succ_eq_append_getElem hml, hy])
                have HPUT := Lib.hid (rput_is L' _ y _ (by have := HLEN.out; have := HNX.out.2; omega) hls)
                have HMEM' := Lib.hid hmem; have HLEN' := Lib.hid hlen; have HBL' := Lib.hid hbl; have HML := Lib.hid hml
                clear hls hmem hlen hbl hy hm
                go_wp2_with fail
                refine HPUT.out.mono ?_; rintro e w7 ⟨v7, L7, rfl, hl7, hb7, hm7, hn7⟩
                have HL7 := Lib.hid hl7; have HM7 := Lib.hid hm7; have HN7 := Lib.hid hn7; have HB7 := Lib.hid (HBL'.out.trans (hb7.mono HBL'.out.size))
                clear hl7 hm7 hn7 hb7 e0
                go_wp2_with fail
                go_roundw
                case rel => exact ⟨m + 1, L7, HML.out, by go_num, HL7.out, fun x => by rw [HM7.out x, HMEM'.out x, HTK.out, List.mem_append, List.mem_singleton, or_assoc], by have := HN7.out; have := HLEN'.out; omega, HB7.out⟩
                case measure => have := HML.out; simp [intOf]; omega
              · obtain rfl : m = M.length := by omega
                rw [List.take_of_length_le (Nat.le_refl _)] at hmem
                have hi' : (M.length : Int) ≤ (M.length : Int) := Int.le_refl _
                have HLS' := Lib.hid hls; have HMEM' := Lib.hid hmem; have HLEN' := Lib.hid hlen; have HBL' := Lib.hid (HBL5.out.trans (hbl.mono HBL5.out.size))
                clear hls hmem hlen hbl
                go_wp2_with fail
                go_roundw
                case rel => exact ⟨j + 1, L', HLT.out, by go_num, HLS'.out, fun x => by rw [HMEM'.out x, HMEM.out x, HM5.out x, HNX.out.1, ← List.append_assoc]; simp only [List.mem_append], by have := HLEN'.out; have := HLEN.out; have := HN5.out; have := HNX.out.2.1; omega, HBL'.out⟩
                case measure => have := HLT.out; simp [intOf]; omega
          · obtain rfl : j = ks.length := by omega
            rw [List.take_of_length_le (Nat.le_refl _)] at hmem hlen
            have HLS := Lib.hid hls; have HMEM := Lib.hid hmem; have HLEN := Lib.hid hlen; have HBW := Lib.hid hbw
            clear hls hmem hlen hbl hbw
            go_wp2_with fail
            go_ret
            exact ⟨_, L, rfl, HLS.out, HBW.out, fun x => by rw [HMEM.out x]; simp [T.vars], by have := HLEN.out; simp only [T.bulk]; omega⟩
      · have k2' : (k == 2) = false := by rw [beq_eq_false_iff_ne]; exact k2
        have K2 := Lib.hid k2
        have HST := Lib.hid (show ∃ L, ListIs w1 (.slice none 0 0) L ∧ (∀ x, x ∈ L ↔ x ∈ ([] : List ByteArray) ++ T.varsAll (ks.take 0)) ∧ L.length ≤ 1 + T.bulkAll (ks.take 0) ∧ Below w1.heap.size w1 w1 from ⟨[], ListIs.nil _, fun x => by simp [T.varsAll], by simp, Below.refl _ _⟩)
        clear k2 x1 x2
        go_wp2_with fail
        go_loopw [4, 3] (fun i o wr => ∃ (j : Nat) (L : List ByteArray), j ≤ ks.length ∧ i = .int .i64 j ∧ ListIs wr o L ∧ (∀ x, x ∈ L ↔ x ∈ ([] : List ByteArray) ++ T.varsAll (ks.take j)) ∧ L.length ≤ 1 + T.bulkAll (ks.take j) ∧ Below w1.heap.size w1 wr) (fun i _ _ => ks.length - (intOf i).toNat)
        case atStart =>
          obtain ⟨L, g1, g2, g3, g4⟩ := HST.out
          exact ⟨0, L, Nat.zero_le _, rfl, g1, g2, g3, g4⟩
        case round =>
          obtain ⟨j, L, hj, rfl, hls, hmem, hlen, hbl⟩ := hrel
          have hbw := HB1.out.trans (hbl.mono HB1.out.size)
          have x2 := cell_later hbl X2.out
          by_cases hlt : j < ks.length
          · obtain ⟨b, off, B1, C1, rfl, d0, d1, d2, hu⟩ := TermAt.cells hlt HA.out HU.out
            have e0 := cell_later hbw d0; have e1 := cell_later hbw d1; have e2 := cell_later hbw d2
            have hi : (j : Int) < (ks.length : Int) := by omega
            have HT := Lib.hid (hu.later hbw)
            have HB2 := Lib.hid (show ks[j].bulk < N ∧ ks[j].bulk ≤ 1048576 by have := T.bulk_at ks j hlt; omega)
            have HNX := Lib.hid (show T.varsAll (ks.take (j + 1)) = T.varsAll (ks.take j) ++ (ks[j]'hlt).vars ∧ T.bulkAll (ks.take j) + (ks[j]'hlt).bulk ≤ T.bulkAll (ks.take (j + 1)) ∧ T.bulkAll (ks.take (j + 1)) ≤ T.bulkAll ks by
              refine ⟨T.varsAll_take ks j hlt, ?_, T.bulkAll_take ks (j + 1)⟩
              have h := T.bulkAll_succ (ks.take (j + 1)) j (by rw [List.length_take]; omega)
              rw [List.take_take, Nat.min_eq_left (Nat.le_succ j), List.getElem_take] at h
              exact h)
            have HLS := Lib.hid hls; have HMEM := Lib.hid hmem; have HLEN := Lib.hid hlen; have HBL := Lib.hid hbl; have HLT := Lib.hid hlt
            clear d0 d1 d2 hu hls hmem hlen hbl hbw hj
            go_wp2_with fail
            refine (IH.out _ _ _ HB2.out.1 HT.out HB2.out.2).mono ?_; rintro e w5 ⟨v5, M, rfl, hl5, hb5, hm5, hn5⟩
            obtain ⟨A5, c5, rfl, ht5, _, _⟩ := hl5
            have HT5 := Lib.hid ht5; have HM5 := Lib.hid hm5; have HN5 := Lib.hid hn5
            have HST5 := Lib.hid (HLS.out.later hb5); have HBL5 := Lib.hid (HBL.out.trans (hb5.mono HBL.out.size))
            clear ht5 hm5 hn5 hb5 e0 e1 e2 x2
            go_wp2_with fail
            go_loopw [6, 3] (fun i o wr => ∃ (m : Nat) (L' : List ByteArray), m ≤ M.length ∧ i = .int .i64 m ∧ ListIs wr o L' ∧ (∀ x, x ∈ L' ↔ x ∈ L ∨ x ∈ M.take m) ∧ L'.length ≤ L.length + m ∧ Below w5.heap.size w5 wr) (fun i _ _ => M.length - (intOf i).toNat)
            case atStart => exact ⟨0, L, Nat.zero_le _, rfl, HST5.out, fun x => by simp, by omega, Below.refl _ _⟩
            case round =>
              obtain ⟨m, L', hm, rfl, hls, hmem, hlen, hbl⟩ := hrel
              have hM : M.length ≤ 1048576 := Nat.le_trans HN5.out HB2.out.2
              by_cases hml : m < M.length
              · obtain ⟨b', off', rfl, e0⟩ := (HT5.out.later hbl).cell m hml
                have hi' : (m : Int) < (M.length : Int) := by omega
                obtain ⟨y, hy⟩ : ∃ y, M[m]'hml = y := ⟨_, rfl⟩
                rw [hy] at e0
                have HTK := Lib.hid (show M.take (m + 1) = M.take m ++ [y] by rw [List.take_succ_eq_append_getElem hml, hy])
                have HPUT := Lib.hid (rput_is L' _ y _ (by have := HLEN.out; have := HNX.out.2; omega) hls)
                have HMEM' := Lib.hid hmem; have HLEN' := Lib.hid hlen; have HBL' := Lib.hid hbl; have HML := Lib.hid hml
                clear hls hmem hlen hbl hy hm
                go_wp2_with fail
                refine HPUT.out.mono ?_; rintro e w7 ⟨v7, L7, rfl, hl7, hb7, hm7, hn7⟩
                have HL7 := Lib.hid hl7; have HM7 := Lib.hid hm7; have HN7 := Lib.hid hn7; have HB7 := Lib.hid (HBL'.out.trans (hb7.mono HBL'.out.size))
                clear hl7 hm7 hn7 hb7 e0
                go_wp2_with fail
                go_roundw
                case rel => exact ⟨m + 1, L7, HML.out, by go_num, HL7.out, fun x => by rw [HM7.out x, HMEM'.out x, HTK.out, List.mem_append, List.mem_singleton, or_assoc], by have := HN7.out; have := HLEN'.out; omega, HB7.out⟩
                case measure => have := HML.out; simp [intOf]; omega
              · obtain rfl : m = M.length := by omega
                rw [List.take_of_length_le (Nat.le_refl _)] at hmem
                have hi' : (M.length : Int) ≤ (M.length : Int) := Int.le_refl _
                have HLS' := Lib.hid hls; have HMEM' := Lib.hid hmem; have HLEN' := Lib.hid hlen; have HBL' := Lib.hid (HBL5.out.trans (hbl.mono HBL5.out.size))
                clear hls hmem hlen hbl
                go_wp2_with fail
                go_roundw
                case rel => exact ⟨j + 1, L', HLT.out, by go_num, HLS'.out, fun x => by rw [HMEM'.out x, HMEM.out x, HM5.out x, HNX.out.1, ← List.append_assoc]; simp only [List.mem_append], by have := HLEN'.out; have := HLEN.out; have := HN5.out; have := HNX.out.2.1; omega, HBL'.out⟩
                case measure => have := HLT.out; simp [intOf]; omega
          · obtain rfl : j = ks.length := by omega
            rw [List.take_of_length_le (Nat.le_refl _)] at hmem hlen
            have HLS := Lib.hid hls; have HMEM := Lib.hid hmem; have HLEN := Lib.hid hlen; have HBW := Lib.hid hbw
            clear hls hmem hlen hbl hbw
            go_wp2_with fail
            go_ret
            exact ⟨_, L, rfl, HLS.out, HBW.out, fun x => by rw [HMEM.out x]; simp [T.vars, K2.out], by have := HLEN.out; simp only [T.bulk]; omega⟩
end Go.Proofs.YtihbmgkbipeakaaGreat

namespace Go.Proofs.YtihbmgkbipeakaaGreat
open Go.RowKit

set_option maxRecDepth 100000 in
set_option maxHeartbeats 8000000 in
theorem rvalidS (role : ByteArray) (ms : List (Int × T)) (A : Option Addr) (cap : Nat) (w : World) (hr : role.size ≤ maxLen) (hm : MovesAt w A ms) (hbk : ∀ m ∈ ms, m.2.bulk ≤ 1048576) (hl : ms.length ≤ maxLen) :
    Calls Tryz.prog 29 #[.agg #[.string role, .slice A ms.length cap]] w fun e w' => e = .returned (.int .i64 (okStrand role ms)) ∧ Below w.heap.size w w' := by
  unfold maxLen at hl
  have HNM := Lib.hid (fun W => rname role W hr)
  obtain ⟨RES, hRES⟩ : ∃ r, okStrand role ms = r := ⟨_, rfl⟩
  rw [hRES]
  have hw1 := below_alloc1 w (.cells #[.string role, .slice A ms.length cap] 49)
  have HM1 := Lib.hid (hm.later hw1); have HB1 := Lib.hid hw1; have HZ1 := Lib.hid (size_alloc1 w (.cells #[.string role, .slice A ms.length cap] 49))
  have hbx : (w.alloc (.cells #[.string role, .slice A ms.length cap] 49)).heap[w.heap.size]? = some (.cells #[.string role, .slice A ms.length cap] 49) := heap_alloc_new w _
  have x0 : (w.alloc (.cells #[.string role, .slice A ms.length cap] 49)).cell? ⟨w.heap.size, 0, none⟩ = some (.string role) := by unfold World.cell?; rw [hbx]; rfl
  have x1 : (w.alloc (.cells #[.string role, .slice A ms.length cap] 49)).cell? ⟨w.heap.size, 1, none⟩ = some (.slice A ms.length cap) := by unfold World.cell?; rw [hbx]; rfl
  clear hm hw1 hbx
  go_enter Tryz.func29, Tryz.ntmps29
  go_upto_region 1 with fail
  generalize w.alloc (.cells #[.string role, .slice A ms.length cap] 49) = w1 at HM1 HB1 HZ1 x0 x1 ⊢
  go_wp2_with fail
  refine (HNM.out _).mono ?_; rintro e w2 ⟨rfl, rfl⟩
  by_cases hnm : T.isName role = false
  · have HR := Lib.hid (show (60 : Int) = RES by rw [← hRES]; unfold okStrand; rw [if_pos hnm])
    rw [hnm]
    clear hRES
    go_wp2_with fail
    go_ret
    exact ⟨ret_i64 HR.out, HB1.out⟩
  have hnm' : T.isName role = true := by simpa using hnm
  rw [hnm']
  unfold okStrand at hRES
  rw [if_neg hnm] at hRES
  by_cases hln : ms.length < 1 ∨ 16 < ms.length
  · have HR := Lib.hid (show (72 : Int) = RES by rw [← hRES, if_pos hln])
    clear hRES
    rcases hln with h | h
    · have h' : (ms.length : Int) < 1 := by omega
      go_wp2_with fail
      go_ret
      exact ⟨ret_i64 HR.out, HB1.out⟩
    · have h' : ¬ (ms.length : Int) < 1 := by omega
      have h'' : (16 : Int) < (ms.length : Int) := by omega
      go_wp2_with fail
      go_ret
      exact ⟨ret_i64 HR.out, HB1.out⟩
  rw [if_neg hln] at hRES
  have h1 : (1 : Int) ≤ (ms.length : Int) := by omega
  have h2 : (ms.length : Int) ≤ 16 := by omega
  have HRES := Lib.hid hRES
  have X1 := Lib.hid x1
  clear hRES hnm hnm' hr
  have hk16 : ms.length ≤ 16 := by omega
  go_wp2_with fail
  go_loopw [4, 3] (fun i o wr => ∃ (j : Nat) (K : List ByteArray), j ≤ ms.length ∧ i = .int .i64 j ∧ ListIs wr o K ∧ okMoves K (ms.drop j) = RES ∧ K.length ≤ j * 1048576 ∧ Below w1.heap.size w1 wr) (fun i _ _ => ms.length - (intOf i).toNat)
  case atStart => exact ⟨0, [], Nat.zero_le _, rfl, ListIs.nil _, by simpa using HRES.out, by simp, Below.refl _ _⟩
  case round =>
    obtain ⟨j, K, hj, rfl, hv, hok, hkl, hbw⟩ := hrel
    have x1 := cell_later hbw X1.out
    by_cases hlt : j < ms.length
    · rw [okMoves_step K ms j hlt] at hok
      rcases HM1.out with h0 | ⟨b, off, rfl, hc⟩
      · omega
      obtain ⟨A', c', d0, d1, d2, d3, htm, hk1, hk2⟩ := hc j hlt
      have hbkj := hbk _ (List.getElem_mem hlt)
      obtain ⟨k, hk⟩ : ∃ k, (ms[j]'hlt).1 = k := ⟨_, rfl⟩
      obtain ⟨t, ht⟩ : ∃ t, (ms[j]'hlt).2 = t := ⟨_, rfl⟩
      rw [hk] at hok d0 hk1 hk2
      rw [ht] at hok d1 d2 d3 htm hbkj
      have e0 := cell_later hbw d0; have e1 := cell_later hbw d1; have e2 := cell_later hbw d2; have e3 := cell_later hbw d3
      have hi : (j : Int) < (ms.length : Int) := by omega
      have HLT := Lib.hid hlt; have HOK := Lib.hid hok; have HKL := Lib.hid hkl
      have hw4 := below_alloc1 wr (.cells #[.int .i64 k, .int .i64 t.kind, .string t.name, .slice A' t.kids.length c'] 52)
      have hnw := heap_alloc_new wr (.cells #[.int .i64 k, .int .i64 t.kind, .string t.name, .slice A' t.kids.length c'] 52)
      have HV := Lib.hid (hv.later hw4)
      have HT := Lib.hid ((htm.later hbw).later hw4)
      have HBK := Lib.hid hbkj
      have hbv := hbw.trans (hw4.mono hbw.size)
      have HBW1 := Lib.hid hbv
      clear d0 d1 d2 d3 hc hok hkl hv htm hbw hk ht hbkj hw4 hbv
      go_upto_region 10 with fail
      obtain ⟨g5, hg5⟩ : ∃ g5, wr.heap.size = g5 := ⟨_, rfl⟩
      rw [hg5] at hnw ⊢
      generalize wr.alloc (.cells #[.int .i64 k, .int .i64 t.kind, .string t.name, .slice A' t.kids.length c'] 52) = wq at hnw HV HT HBW1 ⊢
      have y0 : wq.cell? ⟨g5, 0, none⟩ = some (.int .i64 k) := by unfold World.cell?; rw [hnw]; rfl
      have y1 : wq.cell? ⟨g5, 1, none⟩ = some (.int .i64 t.kind) := by unfold World.cell?; rw [hnw]; rfl
      have y2 : wq.cell? ⟨g5, 2, none⟩ = some (.string t.name) := by unfold World.cell?; rw [hnw]; rfl
      have y3 : wq.cell? ⟨g5, 3, none⟩ = some (.slice A' t.kids.length c') := by unfold World.cell?; rw [hnw]; rfl
      clear e0 e1 e2 e3 hnw hg5 x1
      have HBV := Lib.hid (HB1.out.trans (HBW1.out.mono HB1.out.size))
      have hok := HOK.out
      by_cases hkk : k < 1 ∨ 4 < k
      · rw [if_pos hkk] at hok
        have HR := Lib.hid (show (61 : Int) = RES from hok)
        clear hok
        rcases hkk with h | h
        · go_wp2_with fail
          go_ret
          exact ⟨ret_i64 HR.out, HBV.out⟩
        · have h' : ¬ k < 1 := by omega
          go_wp2_with fail
          go_ret
          exact ⟨ret_i64 HR.out, HBV.out⟩
      rw [if_neg hkk] at hok
      have h3 : 1 ≤ k := by omega
      have h4 : k ≤ 4 := by omega
      have HN := Lib.hid (fun W hW => rproper t (.agg #[.int .i64 t.kind, .string t.name, .slice A' t.kids.length c']) W hW HBK.out)
      have HVR := Lib.hid (fun W hW => rvars (t.bulk + 1) t (.agg #[.int .i64 t.kind, .string t.name, .slice A' t.kids.length c']) W (by omega) hW HBK.out)
      generalize t.kind = tk at y1 HT HN HVR ⊢
      generalize t.name = tn at y2 HT HN HVR ⊢
      generalize t.kids.length = tl at y3 HT HN HVR ⊢
      clear hkk
      go_wp2_with fail
      refine (HN.out _ HT.out).mono ?_; rintro e w5 ⟨rfl, hb5⟩
      have HV5 := Lib.hid (HV.out.later hb5); have HT5 := Lib.hid (HT.out.later hb5); have HBW5 := Lib.hid (HBW1.out.trans (hb5.mono HBW1.out.size))
      have HBV5 := Lib.hid (HB1.out.trans (HBW5.out.mono HB1.out.size))
      have z0 := cell_later hb5 y0; have z1 := cell_later hb5 y1; have z2 := cell_later hb5 y2; have z3 := cell_later hb5 y3
      clear y0 y1 y2 y3 hb5
      by_cases hin : t.isN = false
      · rw [if_pos hin] at hok
        have HR := Lib.hid (show (76 : Int) = RES from hok)
        rw [hin]
        clear hok
        go_wp2_with fail
        go_ret
        exact ⟨ret_i64 HR.out, HBV5.out⟩
      rw [if_neg hin] at hok
      have hin' : t.isN = true := by simpa using hin
      rw [hin']
      have HOK2 := Lib.hid hok
      clear hok hin hin'
      go_wp2_with fail
      refine (HVR.out _ HT5.out).mono ?_; rintro e w6 ⟨v6, M, rfl, hl6, hb6, hm6, hn6⟩
      obtain ⟨A6, c6, rfl, ht6, _, _⟩ := hl6
      have HT6 := Lib.hid ht6; have HM6 := Lib.hid hm6; have HN6 := Lib.hid (show M.length ≤ 1048576 from Nat.le_trans hn6 HBK.out)
      have HK6 := Lib.hid (HV5.out.later hb6)
      have HBV6 := Lib.hid (HBW5.out.trans (hb6.mono HBW5.out.size))
      have HBX6 := Lib.hid (HB1.out.trans (HBV6.out.mono HB1.out.size))
      have q0 := cell_later hb6 z0
      have hM : M.length ≤ 1048576 := HN6.out
      clear ht6 hm6 hn6 hb6 z0 z1 z2 z3
      go_wp2_with fail
      by_cases k2 : k = 2
      · have HOKN := Lib.hid (show okMoves (K ++ t.vars) (ms.drop (j + 1)) = RES by have h := HOK2.out; rw [if_pos k2] at h; exact h)
        have k2' : (k != 2) = false := by rw [k2]; rfl
        have HK2 := Lib.hid k2
        clear k2
        go_loopw [7] (fun i wr => ∃ m : Nat, m ≤ M.length ∧ i = .int .i64 m ∧ w6 = wr) (fun i _ => M.length - (intOf i).toNat)
        case atStart => exact ⟨0, Nat.zero_le _, rfl, rfl⟩
        case round =>
          obtain ⟨m, hm, rfl, rfl⟩ := hrel
          by_cases hml : m < M.length
          · have hi' : (m : Int) < (M.length : Int) := by omega
            have HML := Lib.hid hml
            go_wp2_with fail
            go_roundw
            case rel => exact ⟨m + 1, HML.out, by go_num, by trivial⟩
            case measure => have := HML.out; simp [intOf]; omega
          · have hi' : ¬ (m : Int) < (M.length : Int) := by omega
            clear hml
            go_wp2_with fail
            go_loopw [8, 3] (fun i o wr => ∃ (m : Nat) (L' : List ByteArray), m ≤ M.length ∧ i = .int .i64 m ∧ ListIs wr o L' ∧ (∀ x, x ∈ L' ↔ x ∈ K ∨ x ∈ M.take m) ∧ L'.length ≤ K.length + m ∧ Below w6.heap.size w6 wr) (fun i _ _ => M.length - (intOf i).toNat)
            case atStart => exact ⟨0, K, Nat.zero_le _, rfl, HK6.out, fun x => by simp, by omega, Below.refl _ _⟩
            case round =>
              obtain ⟨m, L', hm, rfl, hls, hmem, hlen, hbl⟩ := hrel
              by_cases hml : m < M.length
              · obtain ⟨b', off', rfl, e0⟩ := (HT6.out.later hbl).cell m hml
                have hi' : (m : Int) < (M.length : Int) := by omega
                obtain ⟨y, hy⟩ : ∃ y, M[m]'hml = y := ⟨_, rfl⟩
                rw [hy] at e0
                have HTK := Lib.hid (show M.take (m + 1) = M.take m ++ [y] by rw [List.take_succ_eq_append_getElem hml, hy])
                have HPUT := Lib.hid (rput_is L' _ y _ (by have := HKL.out; have := HLT.out; have := HN6.out; have := hl; omega) hls)
                have HMEM' := Lib.hid hmem; have HLEN' := Lib.hid hlen; have HBL' := Lib.hid hbl; have HML := Lib.hid hml
                clear hls hmem hlen hbl hy hm
                go_wp2_with fail
                refine HPUT.out.mono ?_; rintro e w7 ⟨v7, L7, rfl, hl7, hb7, hm7, hn7⟩
                have HL7 := Lib.hid hl7; have HM7 := Lib.hid hm7; have HN7 := Lib.hid hn7; have HB7 := Lib.hid (HBL'.out.trans (hb7.mono HBL'.out.size))
                clear hl7 hm7 hn7 hb7 e0
                go_wp2_with fail
                go_roundw
                case rel => exact ⟨m + 1, L7, HML.out, by go_num, HL7.out, fun x => by rw [HM7.out x, HMEM'.out x, HTK.out, List.mem_append, List.mem_singleton, or_assoc], by have := HN7.out; have := HLEN'.out; omega, HB7.out⟩
                case measure => have := HML.out; simp [intOf]; omega
              · obtain rfl : m = M.length := by omega
                rw [List.take_of_length_le (Nat.le_refl _)] at hmem
                have HLS' := Lib.hid hls; have HLEN' := Lib.hid hlen; have HBL' := Lib.hid (HBV6.out.trans (hbl.mono HBV6.out.size))
                have HOKE := Lib.hid (show okMoves L' (ms.drop (j + 1)) = RES by rw [← HOKN.out]; exact okMoves_congr _ (fun x => by rw [hmem x, List.mem_append, HM6.out x]))
                clear hls hmem hlen hbl
                go_wp2_with fail
                go_roundw
                case rel => exact ⟨j + 1, L', HLT.out, by go_num, HLS'.out, HOKE.out, by have := HLEN'.out; have := HKL.out; have := HN6.out; omega, HBL'.out⟩
                case measure => have := HLT.out; simp [intOf]; omega
      · have k2' : (k != 2) = true := by rw [bne_iff_ne]; exact k2
        have HOK3 := Lib.hid (show (if (t.vars.any fun s => !Lib.containsS K s) = true then (70 : Int) else okMoves K (ms.drop (j + 1))) = RES by have h := HOK2.out; rw [if_neg k2] at h; exact h)
        clear k2
        go_loopw [7] (fun i wr => ∃ m : Nat, m ≤ M.length ∧ i = .int .i64 m ∧ (∀ x ∈ M.take m, x ∈ K) ∧ w6 = wr) (fun i _ => M.length - (intOf i).toNat)
        case atStart => exact ⟨0, Nat.zero_le _, rfl, by simp, rfl⟩
        case round =>
          obtain ⟨m, hm, rfl, hin, rfl⟩ := hrel
          have HIN := Lib.hid hin
          clear hin
          by_cases hml : m < M.length
          · obtain ⟨b', off', rfl, e0⟩ := HT6.out.cell m hml
            have hi' : (m : Int) < (M.length : Int) := by omega
            obtain ⟨y, hy⟩ : ∃ y, M[m]'hml = y := ⟨_, rfl⟩
            have HY := Lib.hid (show y ∈ t.vars by rw [← HM6.out, ← hy]; exact List.getElem_mem hml)
            rw [hy] at e0
            have HTK := Lib.hid (show M.take (m + 1) = M.take m ++ [y] by rw [List.take_succ_eq_append_getElem hml, hy])
            have HML := Lib.hid hml
            obtain ⟨AK, cK, rfl, htk, hck1, hck2⟩ := HK6.out
            have HHAS := Lib.hid (rhas K AK cK y w6 (by have := HKL.out; have := HLT.out; omega) htk)
            obtain ⟨q, hq⟩ : ∃ q, Lib.containsS K y = q := ⟨_, rfl⟩
            have HQ := Lib.hid hq
            rw [hq] at HHAS
            clear hy hq htk hck1 hck2
            go_wp2_with fail
            refine HHAS.out.mono ?_; rintro e w7 ⟨rfl, rfl⟩
            cases q
            · have HR := Lib.hid (show (70 : Int) = RES by
                have h := HOK3.out
                rw [if_pos (List.any_eq_true.2 ⟨y, HY.out, by rw [HQ.out]; rfl⟩)] at h; exact h)
              go_wp2_with fail
              go_ret
              exact ⟨ret_i64 HR.out, HBX6.out⟩
            · go_wp2_with fail
              go_roundw
              case rel =>
                refine ⟨m + 1, HML.out, by go_num, fun x hx => ?_, by trivial⟩
                rw [HTK.out, List.mem_append, List.mem_singleton] at hx
                rcases hx with hx | rfl
                · exact HIN.out x hx
                · exact (contains_iff K x).1 HQ.out
              case measure => have := HML.out; simp [intOf]; omega
          · have hi' : ¬ (m : Int) < (M.length : Int) := by omega
            have hme : m = M.length := by omega
            have hall : ∀ x ∈ t.vars, x ∈ K := fun x hx => HIN.out x (by rw [hme, List.take_of_length_le (Nat.le_refl _)]; exact (HM6.out x).2 hx)
            have HOKN := Lib.hid (show okMoves (K ++ t.vars) (ms.drop (j + 1)) = RES by
              have h := HOK3.out
              rw [if_neg (by
                rw [Bool.not_eq_true, List.any_eq_false]
                intro x hx
                rw [(contains_iff K x).2 (hall x hx)]; simp)] at h
              rw [← h]
              exact okMoves_congr _ (fun x => by rw [List.mem_append]; exact ⟨fun g => g.elim id (hall x), .inl⟩))
            clear hml hme hall
            go_wp2_with fail
            go_loopw [8, 3] (fun i o wr => ∃ (m : Nat) (L' : List ByteArray), m ≤ M.length ∧ i = .int .i64 m ∧ ListIs wr o L' ∧ (∀ x, x ∈ L' ↔ x ∈ K ∨ x ∈ M.take m) ∧ L'.length ≤ K.length + m ∧ Below w6.heap.size w6 wr) (fun i _ _ => M.length - (intOf i).toNat)
            case atStart => exact ⟨0, K, Nat.zero_le _, rfl, HK6.out, fun x => by simp, by omega, Below.refl _ _⟩
            case round =>
              obtain ⟨m, L', hm, rfl, hls, hmem, hlen, hbl⟩ := hrel
              by_cases hml : m < M.length
              · obtain ⟨b', off', rfl, e0⟩ := (HT6.out.later hbl).cell m hml
                have hi' : (m : Int) < (M.length : Int) := by omega
                obtain ⟨y, hy⟩ : ∃ y, M[m]'hml = y := ⟨_, rfl⟩
                rw [hy] at e0
                have HTK := Lib.hid (show M.take (m + 1) = M.take m ++ [y] by rw [List.take_succ_eq_append_getElem hml, hy])
                have HPUT := Lib.hid (rput_is L' _ y _ (by have := HKL.out; have := HLT.out; have := HN6.out; have := hl; omega) hls)
                have HMEM' := Lib.hid hmem; have HLEN' := Lib.hid hlen; have HBL' := Lib.hid hbl; have HML := Lib.hid hml
                clear hls hmem hlen hbl hy hm
                go_wp2_with fail
                refine HPUT.out.mono ?_; rintro e w7 ⟨v7, L7, rfl, hl7, hb7, hm7, hn7⟩
                have HL7 := Lib.hid hl7; have HM7 := Lib.hid hm7; have HN7 := Lib.hid hn7; have HB7 := Lib.hid (HBL'.out.trans (hb7.mono HBL'.out.size))
                clear hl7 hm7 hn7 hb7 e0
                go_wp2_with fail
                go_roundw
                case rel => exact ⟨m + 1, L7, HML.out, by go_num, HL7.out, fun x => by rw [HM7.out x, HMEM'.out x, HTK.out, List.mem_append, List.mem_singleton, or_assoc], by have := HN7.out; have := HLEN'.out; omega, HB7.out⟩
                case measure => have := HML.out; simp [intOf]; omega
              · obtain rfl : m = M.length := by omega
                rw [List.take_of_length_le (Nat.le_refl _)] at hmem
                have HLS' := Lib.hid hls; have HLEN' := Lib.hid hlen; have HBL' := Lib.hid (HBV6.out.trans (hbl.mono HBV6.out.size))
                have HOKE := Lib.hid (show okMoves L' (ms.drop (j + 1)) = RES by rw [← HOKN.out]; exact okMoves_congr _ (fun x => by rw [hmem x, List.mem_append, HM6.out x]))
                clear hls hmem hlen hbl
                go_wp2_with fail
                go_roundw
                case rel => exact ⟨j + 1, L', HLT.out, by go_num, HLS'.out, HOKE.out, by have := HLEN'.out; have := HKL.out; have := HN6.out; omega, HBL'.out⟩
                case measure => have := HLT.out; simp [intOf]; omega
    · obtain rfl : j = ms.length := by omega
      rw [List.drop_length] at hok
      have HR := Lib.hid (show (0 : Int) = RES from hok)
      have HBW := Lib.hid (HB1.out.trans (hbw.mono HB1.out.size))
      clear hv hok hbw
      go_wp2_with fail
      go_ret
      exact ⟨ret_i64 HR.out, HBW.out⟩
end Go.Proofs.YtihbmgkbipeakaaGreat
