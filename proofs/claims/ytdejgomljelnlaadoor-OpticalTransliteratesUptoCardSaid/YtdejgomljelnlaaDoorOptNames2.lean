/- The walks of chapter 10: fill, Wide and Names of the reference. -/
import Derived.Test.YtdejgomljelnlaaDoorOptNames
namespace Go.Proofs.YtdejgomljelnlaaDoor
open Go.RowKit

namespace Opt
theorem sub_length (a b : UInt8) (l : List UInt8) : (sub a b l).length = l.length := by simp [sub]
theorem sub_append (a b : UInt8) (l m : List UInt8) : sub a b (l ++ m) = sub a b l ++ sub a b m := by simp [sub]
/-- A text of which the first k bytes are written anew. -/
def half (a b : UInt8) (l : List UInt8) (k : Nat) : List UInt8 := sub a b (l.take k) ++ l.drop k
theorem half_zero (a b : UInt8) (l : List UInt8) : half a b l 0 = l := by simp [half, sub]
theorem half_all (a b : UInt8) (l : List UInt8) : half a b l l.length = sub a b l := by simp [half]
theorem half_length (a b : UInt8) (l : List UInt8) (k : Nat) : (half a b l k).length = l.length := by simp [half, sub]; omega
theorem half_get (a b : UInt8) (l : List UInt8) (k : Nat) (hk : k < l.length) : (half a b l k)[k]'(by rw [half_length]; exact hk) = l[k] := by
  unfold half
  have e : (sub a b (l.take k)).length = k := by rw [sub_length]; simp; omega
  rw [List.getElem_append_right (by omega)]
  simp [e]
theorem half_next (a b : UInt8) (l : List UInt8) (k : Nat) (hk : k < l.length) : half a b l (k + 1) = (half a b l k).set k (if l[k] == a then b else l[k]) := by
  unfold half
  have e : (sub a b (l.take k)).length = k := by rw [sub_length]; simp; omega
  rw [List.set_append_right _ _ (by omega), e, Nat.sub_self, List.take_succ_eq_append_getElem hk, sub_append, List.drop_eq_getElem_cons hk]
  simp only [sub, List.map_cons, List.map_nil, List.append_assoc, List.cons_append, List.nil_append, List.set_cons_zero]
theorem half_keep (a b : UInt8) (l : List UInt8) (k : Nat) (hk : k < l.length) (h : (l[k] == a) = false) : half a b l (k + 1) = half a b l k := by
  rw [half_next a b l k hk, h]
  have : (half a b l k)[k]'(by rw [half_length]; exact hk) = l[k] := half_get a b l k hk
  simp only [Bool.false_eq_true, if_false]
  rw [← this, List.set_getElem_self]
end Opt

set_option maxHeartbeats 800000 in
theorem rfill (s : ByteArray) (w : World) (hs : s.size ≤ maxLen) :
    Calls Tryd.prog 32 #[.string s] w fun e w' => e = .returned (.string ⟨(Opt.sub 32 60 s.data.toList).toArray⟩) ∧ Below w.heap.size w w' := by
  unfold maxLen at hs
  have hcv := run_bytes_of_string (P := Tryd.prog) w 9 35 5 s Tryd.underlying9 Tryd.underlying35 Tryd.underlying5
  have hB := BytesAt.of_string w 5 s (grownCap w s.size 0 5) (bytesRow_size _ _)
  generalize grownCap w s.size 0 5 = cap at hcv hB
  generalize bytesRow s cap = row at hcv hB
  go_enter Tryd.func32, Tryd.ntmps32
  go_wp2_with fail
  go_loopw [4] (fun i wr => ∃ k : Nat, k ≤ s.size ∧ i = .int .i64 k ∧ BytesAt wr w.heap.size (Opt.half 32 60 s.data.toList k) ∧ Below w.heap.size w wr) (fun i _ => s.size - (intOf i).toNat)
  case atStart => exact ⟨0, Nat.zero_le _, rfl, by rw [Opt.half_zero]; exact hB, ((Below.refl _ _).alloc (Nat.le_refl _) _).drew⟩
  case round =>
    obtain ⟨k, hk, rfl, hrow, hb⟩ := hrel
    by_cases hlt : k < s.size
    · have hcb := u8_le s[k]
      have hlen : k < s.data.toList.length := by simpa using hlt
      have hat := hrow k (by rw [Opt.half_length]; exact hlen)
      have e0 : (Opt.half 32 60 s.data.toList k)[k]'(by rw [Opt.half_length]; exact hlen) = s[k] := Opt.half_get 32 60 _ k hlen
      rw [e0] at hat
      obtain ⟨hc, hf⟩ := hat
      have e1 : s.data.toList[k]'hlen = s[k] := rfl
      cases h32 : ((s[k].toNat : Int) == 32) with
      | true =>
        have hn : Opt.half 32 60 s.data.toList (k + 1) = (Opt.half 32 60 s.data.toList k).set k (b8 60) := by
          rw [Opt.half_next 32 60 _ k hlen, e1]
          have : (s[k] == (32 : UInt8)) = true := by have h := Opt.b8_eq s[k] 32 (by omega) (by omega); rw [h32] at h; exact h
          rw [this]; rfl
        have hrow2 := hrow.set_ k 60 (by omega) (by omega) (by rw [Opt.half_length]; exact hlen)
        rw [← hn] at hrow2
        clear hn e0 e1 hrow hcv hB
        go_wp2_with fail
        go_roundw
        case rel => exact ⟨k + 1, by omega, by go_num, hrow2, hb.setCell (Nat.le_refl _) _⟩
        case measure => simp [intOf]; omega
      | false =>
        have hn : Opt.half 32 60 s.data.toList (k + 1) = Opt.half 32 60 s.data.toList k := by
          refine Opt.half_keep 32 60 _ k hlen ?_
          rw [e1]; have h := Opt.b8_eq s[k] 32 (by omega) (by omega); rw [h32] at h; exact h
        have hrow2 := hrow
        rw [← hn] at hrow2
        clear hn e0 e1 hrow hcv hB
        go_wp2_with fail
        go_roundw
        case rel => exact ⟨k + 1, by omega, by go_num, hrow2, hb⟩
        case measure => simp [intOf]; omega
    · obtain rfl : k = s.size := by omega
      have hrow2 : BytesAt wr w.heap.size (Opt.sub 32 60 s.data.toList) := by rw [← Opt.half_all, Opt.size_len]; exact hrow
      have hcv2 := hrow2.conv (P := Tryd.prog) 35 9 5 s.size cap (by rw [Opt.sub_length]; simp) Tryd.underlying35 Tryd.underlying5 Tryd.underlying9
      clear hcv hB hrow hrow2
      go_wp2_with fail
      go_ret
      exact ⟨rfl, hb⟩

set_option maxHeartbeats 800000 in
theorem rwide (l : List UInt8) (n : Int) (w : World) (h0 : 0 ≤ n) (h1 : n ≤ 64) :
    Calls Tryd.prog 33 #[.string ⟨l.toArray⟩, .int .i64 n] w fun e w' => e = .returned (.string ⟨(l ++ List.replicate (n.toNat - l.length) 60).toArray⟩) ∧ w = w' := by
  go_enter Tryd.func33, Tryd.ntmps33
  go_wp2_with fail
  go_loop [0] (fun v => ∃ k : Nat, k ≤ n.toNat - l.length ∧ v = .string ⟨(l ++ List.replicate k 60).toArray⟩) (fun v => match v with | .string s => n.toNat - s.size | _ => 0)
  case atStart => exact ⟨0, Nat.zero_le _, by simp⟩
  case round =>
    obtain ⟨k, hk, rfl⟩ := hrel
    have hz : (⟨(l ++ List.replicate k (60 : UInt8)).toArray⟩ : ByteArray).size = l.length + k := by show (l ++ List.replicate k (60 : UInt8)).toArray.size = _; simp
    have ha : (⟨(l ++ List.replicate k (60 : UInt8)).toArray⟩ : ByteArray) ++ (⟨#[60]⟩ : ByteArray) = ⟨(l ++ List.replicate (k + 1) 60).toArray⟩ := by
      have := str_add (l ++ List.replicate k 60) [60]
      rw [List.append_assoc, ← List.replicate_succ'] at this
      exact this
    have hz2 : (⟨(l ++ List.replicate (k + 1) (60 : UInt8)).toArray⟩ : ByteArray).size = l.length + (k + 1) := by show (l ++ List.replicate (k + 1) (60 : UInt8)).toArray.size = _; simp
    generalize hS : (⟨(l ++ List.replicate k (60 : UInt8)).toArray⟩ : ByteArray) = S at *
    have HS := Lib.hid hS; have HZ := Lib.hid hz; have HA := Lib.hid ha; have HZ2 := Lib.hid hz2; clear hS ha hz2
    by_cases hlt : l.length + k < n.toNat
    · have hlt' : (S.size : Int) < n := by omega
      clear hz
      go_wp2_with fail
      go_round
      case rel => exact ⟨k + 1, by omega, by rw [HA.out]⟩
      case measure => rw [HA.out]; show n.toNat - ByteArray.size _ < n.toNat - ByteArray.size _; rw [HZ2.out, HZ.out]; omega
    · have hlt' : ¬ (S.size : Int) < n := by omega
      have he : n.toNat - l.length = k := by omega
      have HE := Lib.hid he
      clear hz he
      go_wp2_with fail
      go_ret
      exact ⟨ret_str (by rw [HE.out, HS.out]), rfl⟩

namespace Opt
/-- The names of a field, without the fillers at its end. -/
def nmL (a b : List UInt8) : List UInt8 := if b = [] then sub 32 60 a else sub 32 60 a ++ ([60, 60] ++ sub 32 60 b)
def nmOk (a b : List UInt8) : Prop := words (b8 32) a = true ∧ words (b8 32) b = true ∧ a ≠ []
open Classical in
noncomputable def nmV (a b : List UInt8) (n : Int) : List UInt8 := if ¬ nmOk a b ∨ n < 1 ∨ 64 < n then [] else (nmL a b ++ List.replicate n.toNat 60).take n.toNat
open Classical in
noncomputable def nmE (a b : List UInt8) (n : Int) : Int := if ¬ nmOk a b then 14 else if n < 1 ∨ 64 < n then 2 else 0
theorem take_fill (l : List UInt8) (n : Nat) : (l ++ List.replicate (n - l.length) 60).take n = (l ++ List.replicate n (60 : UInt8)).take n := by
  rw [List.take_append, List.take_append, List.take_replicate, List.take_replicate]
  congr 2; omega
theorem wide_len (l : List UInt8) (n : Nat) : n ≤ (l ++ List.replicate (n - l.length) (60 : UInt8)).length := by simp; omega
end Opt

set_option maxHeartbeats 1000000 in
theorem rnames_any (a b : ByteArray) (n : Int) (w : World) (hab : a.size + b.size ≤ 140737488355000) :
    Calls Tryd.prog 17 #[.string a, .string b, .int .i64 n] w fun e w' =>
      e = .returned (.tuple #[.string ⟨(Opt.nmV a.data.toList b.data.toList n).toArray⟩, .int .i64 (Opt.nmE a.data.toList b.data.toList n)]) ∧ Below w.heap.size w w' := by
  have ha : a.size ≤ maxLen := by unfold maxLen; omega
  have hb : b.size ≤ maxLen := by unfold maxLen; omega
  by_cases c1 : ¬ Opt.nmOk a.data.toList b.data.toList
  · have e1 : Opt.nmV a.data.toList b.data.toList n = [] := if_pos (.inl c1)
    have e2 : Opt.nmE a.data.toList b.data.toList n = 14 := if_pos c1
    rw [e1, e2]; clear e1 e2
    cases w1 : Opt.words (b8 32) a.data.toList with
    | false =>
      have W1 := Lib.hid w1; clear w1 c1
      go_enter Tryd.func17, Tryd.ntmps17
      go_wp2_with fail
      refine (rname _ _ ha).mono ?_; rintro e w' ⟨rfl, rfl⟩; rw [W1.out]
      go_wp2_with fail
      go_ret2
      exact ⟨rfl, Below.refl _ _⟩
    | true =>
      cases w2 : Opt.words (b8 32) b.data.toList with
      | false =>
        have W1 := Lib.hid w1; have W2 := Lib.hid w2; clear w1 w2 c1
        go_enter Tryd.func17, Tryd.ntmps17
        go_wp2_with fail
        refine (rname _ _ ha).mono ?_; rintro e w' ⟨rfl, rfl⟩; rw [W1.out]
        go_wp2_with fail
        refine (rname _ _ hb).mono ?_; rintro e w' ⟨rfl, rfl⟩; rw [W2.out]
        go_wp2_with fail
        go_ret2
        exact ⟨rfl, Below.refl _ _⟩
      | true =>
        have hem : a.data.toList = [] := Classical.not_not.1 fun h => c1 ⟨w1, w2, h⟩
        obtain ⟨hem2, hem3⟩ := str_empty (b := true) hem rfl
        clear hem
        have W1 := Lib.hid w1; have W2 := Lib.hid w2; clear w1 w2 c1
        go_enter Tryd.func17, Tryd.ntmps17
        go_wp2_with fail
        refine (rname _ _ ha).mono ?_; rintro e w' ⟨rfl, rfl⟩; rw [W1.out]
        go_wp2_with fail
        refine (rname _ _ hb).mono ?_; rintro e w' ⟨rfl, rfl⟩; rw [W2.out]
        go_wp2_with fail
        go_ret2
        exact ⟨rfl, Below.refl _ _⟩
  replace c1 := Classical.not_not.1 c1
  obtain ⟨w1, w2, hne⟩ := c1
  have hne1 : a.data.toList.isEmpty = false := by simpa using hne
  obtain ⟨hem2, hem3⟩ := str_empty rfl hne1
  by_cases c2 : n < 1 ∨ 64 < n
  · have e1 : Opt.nmV a.data.toList b.data.toList n = [] := if_pos (.inr c2)
    have e2 : Opt.nmE a.data.toList b.data.toList n = 2 := (if_neg (fun h => h ⟨w1, w2, hne⟩)).trans (if_pos c2)
    rw [e1, e2]; clear e1 e2 hne1 hne
    have W1 := Lib.hid w1; have W2 := Lib.hid w2; clear w1 w2
    rcases c2 with c2 | c2
    all_goals
      go_enter Tryd.func17, Tryd.ntmps17
      go_wp2_with fail
      refine (rname _ _ ha).mono ?_; rintro e w' ⟨rfl, rfl⟩; rw [W1.out]
      go_wp2_with fail
      refine (rname _ _ hb).mono ?_; rintro e w' ⟨rfl, rfl⟩; rw [W2.out]
      go_wp2_with fail
      go_ret2
      exact ⟨rfl, Below.refl _ _⟩
  · have e1 : Opt.nmV a.data.toList b.data.toList n = (Opt.nmL a.data.toList b.data.toList ++ List.replicate (n.toNat - (Opt.nmL a.data.toList b.data.toList).length) 60).take n.toNat := by
      rw [Opt.take_fill]; exact if_neg (by rintro (h | h); exact h ⟨w1, w2, hne⟩; exact c2 h)
    have e2 : Opt.nmE a.data.toList b.data.toList n = 0 := (if_neg (fun h => h ⟨w1, w2, hne⟩)).trans (if_neg c2)
    rw [e1, e2]; clear e1 e2 hne1 hne
    have c3 : 1 ≤ n := by omega
    have c4 : n ≤ 64 := by omega
    clear c2
    have W1 := Lib.hid w1; have W2 := Lib.hid w2; clear w1 w2
    have la := Opt.sub_length 32 60 a.data.toList
    have lb := Opt.sub_length 32 60 b.data.toList
    rw [Opt.size_len] at la lb
    by_cases hb0 : b.data.toList = []
    · obtain ⟨hb2, hb3⟩ := str_empty (b := true) hb0 rfl
      have hL : Opt.nmL a.data.toList b.data.toList = Opt.sub 32 60 a.data.toList := if_pos hb0
      rw [hL]; clear hL hb0
      clear la lb
      have hz := Opt.wide_len (Opt.sub 32 60 a.data.toList) n.toNat
      rw [← str_size] at hz
      have hz' : n ≤ ((⟨(Opt.sub 32 60 a.data.toList ++ List.replicate (n.toNat - (Opt.sub 32 60 a.data.toList).length) 60).toArray⟩ : ByteArray).size : Int) := by omega
      clear hz
      go_enter Tryd.func17, Tryd.ntmps17
      go_wp2_with fail
      refine (rname _ _ ha).mono ?_; rintro e w' ⟨rfl, rfl⟩; rw [W1.out]
      go_wp2_with fail
      refine (rname _ _ hb).mono ?_; rintro e w' ⟨rfl, rfl⟩; rw [W2.out]
      go_wp2_with fail
      refine (rfill _ _ ha).mono ?_; rintro e w2 ⟨rfl, hb2'⟩
      go_wp2_with fail
      refine (rwide _ _ _ (by omega) c4).mono ?_; rintro e w' ⟨rfl, rfl⟩
      go_wp2_with fail
      go_ret2
      exact ⟨Opt.ret_si (str_take _ _) rfl, hb2'⟩
    · have hb1 : b.data.toList.isEmpty = false := by simpa using hb0
      obtain ⟨hb2, hb3⟩ := str_empty rfl hb1
      have hL : Opt.nmL a.data.toList b.data.toList = Opt.sub 32 60 a.data.toList ++ (([60, 60] : List UInt8) ++ Opt.sub 32 60 b.data.toList) := if_neg hb0
      rw [hL]; clear hL hb0 hb1
      have la' : (Opt.sub 32 60 a.data.toList).length ≤ 140737488355000 := by omega
      have lb' : (Opt.sub 32 60 b.data.toList).length ≤ 140737488355000 := by omega
      clear la lb
      have j1 := str_add [60, 60] (Opt.sub 32 60 b.data.toList)
      have j2 := str_add (Opt.sub 32 60 a.data.toList) (([60, 60] : List UInt8) ++ Opt.sub 32 60 b.data.toList)
      have J1 := Lib.hid j1; have J2 := Lib.hid j2; clear j1 j2
      have hz := Opt.wide_len (Opt.sub 32 60 a.data.toList ++ (([60, 60] : List UInt8) ++ Opt.sub 32 60 b.data.toList)) n.toNat
      rw [← str_size] at hz
      have hz' : n ≤ ((⟨(Opt.sub 32 60 a.data.toList ++ (([60, 60] : List UInt8) ++ Opt.sub 32 60 b.data.toList) ++ List.replicate (n.toNat - (Opt.sub 32 60 a.data.toList ++ (([60, 60] : List UInt8) ++ Opt.sub 32 60 b.data.toList)).length) 60).toArray⟩ : ByteArray).size : Int) := by omega
      clear hz
      go_enter Tryd.func17, Tryd.ntmps17
      go_wp2_with fail
      refine (rname _ _ ha).mono ?_; rintro e w' ⟨rfl, rfl⟩; rw [W1.out]
      go_wp2_with fail
      refine (rname _ _ hb).mono ?_; rintro e w' ⟨rfl, rfl⟩; rw [W2.out]
      go_wp2_with fail
      refine (rfill _ _ ha).mono ?_; rintro e w2 ⟨rfl, hb2'⟩
      go_wp2_with fail
      refine (rfill _ _ hb).mono ?_; rintro e w3 ⟨rfl, hb3'⟩
      go_wp2_with fail
      rw [J1.out, J2.out]
      refine (rwide _ _ _ (by omega) c4).mono ?_; rintro e w' ⟨rfl, rfl⟩
      go_wp2_with fail
      go_ret2
      exact ⟨Opt.ret_si (by rw [str_take]; simp) rfl, hb2'.trans (hb3'.mono hb2'.size)⟩
end Go.Proofs.YtdejgomljelnlaaDoor
