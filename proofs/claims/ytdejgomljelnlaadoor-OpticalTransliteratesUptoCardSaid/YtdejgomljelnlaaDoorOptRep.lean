/- Chapter 10: the walks of strings.ContainsRune over the rows of letters, of replacements and of replace. -/
import Derived.Test.YtdejgomljelnlaaDoorOptIxw
import Derived.Lib.OthersKept
import Derived.Shelf.Strings.CaseAny
namespace Go.Proofs.YtdejgomljelnlaaDoor
open Go.RowKit Go.Lib
namespace Opt
/-- A text of letters of two bytes each, all below U+0180. -/
def pairsOk : List UInt8 → Bool
  | [] => true
  | [_] => false
  | a :: b :: t => decide (194 ≤ a.toNat) && decide (a.toNat ≤ 197) && decide (128 ≤ b.toNat) && decide (b.toNat < 192) && pairsOk t
theorem pairs_cons {a b : UInt8} {t : List UInt8} (h : pairsOk (a :: b :: t) = true) : 194 ≤ a.toNat ∧ a.toNat ≤ 197 ∧ 128 ≤ b.toNat ∧ b.toNat < 192 ∧ pairsOk t = true := by
  unfold pairsOk at h
  simp only [Bool.and_eq_true, decide_eq_true_eq] at h
  exact ⟨h.1.1.1.1, h.1.1.1.2, h.1.1.2, h.1.2, h.2⟩
theorem pairs_byte : ∀ l : List UInt8, pairsOk l = true → ∀ b ∈ l, 128 ≤ b.toNat ∧ b.toNat ≤ 197
  | [], _, b, hb => by cases hb
  | [_], h, _, _ => by simp [pairsOk] at h
  | x :: y :: t, h, b, hb => by
    obtain ⟨h1, h2, h3, h4, h5⟩ := pairs_cons h
    rcases List.mem_cons.1 hb with rfl | hb
    · omega
    · rcases List.mem_cons.1 hb with rfl | hb
      · omega
      · exact pairs_byte t h5 b hb
theorem two_le : ∀ l : List UInt8, pairsOk l = true → ∀ c ∈ two l, 128 ≤ c ∧ c < 384
  | [], _, c, hc => by simp [two] at hc
  | [_], h, _, _ => by simp [pairsOk] at h
  | x :: y :: t, h, c, hc => by
    obtain ⟨h1, h2, h3, h4, h5⟩ := pairs_cons h
    have hc' : c ∈ ((x.toNat - 192) * 64 + (y.toNat - 128)) :: two t := hc
    rw [List.mem_cons] at hc'
    rcases hc' with e | hc'
    · omega
    · exact two_le t h5 c hc'
theorem at_zero {l e : List UInt8} : At l e 0 ↔ e.length ≤ l.length ∧ ∀ j, j < e.length → l.getD j 0 = e.getD j 0 := by
  unfold At
  simp only [Nat.zero_add]
theorem at_drop2 {a b : UInt8} {t e : List UInt8} {p : Nat} : At (a :: b :: t) e (p + 2) ↔ At t e p := by
  unfold At
  have : ∀ j, (a :: b :: t).getD (p + 2 + j) 0 = t.getD (p + j) 0 := fun j => by
    rw [show p + 2 + j = (p + j) + 1 + 1 by omega, List.getD_cons_succ, List.getD_cons_succ]
  simp only [this, List.length_cons]
  constructor
  · rintro ⟨h1, h2⟩; exact ⟨by omega, h2⟩
  · rintro ⟨h1, h2⟩; exact ⟨by omega, h2⟩
theorem enc_two (r : Nat) (h0 : 128 ≤ r) (h1 : r < 2048) : (encodeRune (r : Int)).length = 2 ∧ ((encodeRune (r : Int)).getD 0 0).toNat = 192 + r / 64 ∧ ((encodeRune (r : Int)).getD 1 0).toNat = 128 + r % 64 := by
  unfold encodeRune
  rw [encodeRuneZ_two (by omega) (by omega)]
  simp
  omega
/-- Which letters stand in a row. -/
theorem two_at : ∀ (l : List UInt8) (r : Nat), pairsOk l = true → 128 ≤ r → r < 2048 → ((∃ p, At l (encodeRune (r : Int)) p) ↔ r ∈ two l)
  | [], r, _, h0, h1 => by
    obtain ⟨e1, e2, e3⟩ := enc_two r h0 h1
    constructor
    · rintro ⟨p, hp⟩
      have := hp.1
      rw [e1] at this
      simp at this
    · intro h; simp [two] at h
  | [_], _, h, _, _ => by simp [pairsOk] at h
  | a :: b :: t, r, h, h0, h1 => by
    obtain ⟨g1, g2, g3, g4, g5⟩ := pairs_cons h
    obtain ⟨e1, e2, e3⟩ := enc_two r h0 h1
    have ih := two_at t r g5 h0 h1
    have hz : At (a :: b :: t) (encodeRune (r : Int)) 0 ↔ r = (a.toNat - 192) * 64 + (b.toNat - 128) := by
      rw [at_zero, e1]
      constructor
      · rintro ⟨_, hj⟩
        have j0 := congrArg UInt8.toNat (hj 0 (by omega))
        have j1 := congrArg UInt8.toNat (hj 1 (by omega))
        rw [e2] at j0
        rw [e3] at j1
        simp at j0 j1
        omega
      · intro hr
        refine ⟨by simp, fun j hj => ?_⟩
        have : j = 0 ∨ j = 1 := by omega
        rcases this with rfl | rfl
        · apply UInt8.toNat_inj.1
          rw [e2]; simp; omega
        · apply UInt8.toNat_inj.1
          rw [e3]; simp; omega
    unfold two
    rw [List.mem_cons, ← ih, ← hz]
    constructor
    · rintro ⟨p, hp⟩
      match p, hp with
      | 0, hp => exact .inl hp
      | 1, hp =>
        exfalso
        have j0 := congrArg UInt8.toNat (hp.2 0 (by omega))
        rw [e2] at j0
        simp at j0
        omega
      | p + 2, hp => exact .inr ⟨p, at_drop2.1 hp⟩
    · rintro (hp | ⟨p, hp⟩)
      · exact ⟨0, hp⟩
      · exact ⟨p + 2, at_drop2.2 hp⟩
/-- A longer letter does not stand there. -/
theorem long_at (l : List UInt8) (r : Nat) (hl : pairsOk l = true) (h0 : 2048 ≤ r) (h1 : r ≤ 1114111) (h3 : ¬ (55296 ≤ r ∧ r ≤ 57343)) : ¬ ∃ p, At l (encodeRune (r : Int)) p := by
  rintro ⟨p, hp⟩
  have e : 1 ≤ (encodeRune (r : Int)).length ∧ 224 ≤ ((encodeRune (r : Int)).getD 0 0).toNat := by
    unfold encodeRune
    by_cases c3 : r < 65536
    · rw [encodeRuneZ_three (by omega)]
      simp; omega
    · rw [encodeRuneZ_four (by omega) (by omega)]
      simp; omega
  have h4 := hp.2 0 (by omega)
  have h5 := hp.1
  have hlt : p + 0 < l.length := by omega
  rw [← h4, List.getD_eq_getElem?_getD, List.getElem?_eq_getElem hlt] at e
  have := (pairs_byte l hl _ (List.getElem_mem hlt)).2
  simp at e this
  omega
/-- A row of letters that the search goes through. -/
def rowOk (l : List UInt8) : Bool := pairsOk l && decide (l.length ≤ 1000) && l.all fun b => decide (192 ≤ b.toNat) || decide (l.count b ≤ 2)
theorem capB_ok : (capB.all fun x => rowOk x.1 && decide (x.2.length ≤ 4)) = true := by kernel_rfl
theorem pairs_decode {l : List UInt8} (h : pairsOk l = true) : ∀ (p : Nat), p % 2 = 0 → p < l.length → p + 2 ≤ l.length ∧ (decodeL (l.drop p)).1 ≠ 65533 ∧ (decodeL (l.drop p)).2 = 2
  | 0, _, hp => by
    match l, h, hp with
    | [_], h, _ => simp [pairsOk] at h
    | a :: b :: t, h, _ =>
      obtain ⟨g1, g2, g3, g4, g5⟩ := pairs_cons h
      refine ⟨by simp, ?_⟩
      rw [List.drop_zero, decodeL_N]
      simp only [List.getD_cons_zero, List.getD_cons_succ, List.length_cons]
      unfold decodeN
      rw [if_neg (by omega), if_pos ⟨by omega, by omega, by omega⟩, if_pos (by omega)]
      refine ⟨?_, rfl⟩
      simp only
      omega
  | 1, hp, _ => by omega
  | p + 2, hp, hl => by
    match l, h, hl with
    | [], _, hl => simp at hl
    | [_], h, _ => simp [pairsOk] at h
    | a :: b :: t, h, hl =>
      obtain ⟨g1, g2, g3, g4, g5⟩ := pairs_cons h
      simp only [List.length_cons] at hl ⊢
      have := pairs_decode g5 p (by omega) (by omega)
      rw [show (a :: b :: t).drop (p + 2) = t.drop p from rfl]
      exact ⟨by omega, this.2⟩
end Opt
set_option maxRecDepth 100000 in
set_option maxHeartbeats 4000000 in
/-- In a row of letters there is no U+FFFD. -/
theorem oindexBad (s : ByteArray) (w : World) (hs : Opt.pairsOk s.data.toList = true) :
    Calls Tryd.prog 74 #[.string s, .int .i32 65533] w fun e w' => e = .returned (.int .i64 (-1)) ∧ Below w.heap.size w w' := by
  have hd := Opt.pairs_decode hs
  have HD := Lib.hid hd
  clear hd hs
  go_enter Tryd.func74, Tryd.ntmps74
  go_wp2_with fail
  go_loopg [5, 6] s.size (fun gf u v wx => ∃ pos : Nat, wx.heap[w.heap.size]? = some (.stringIter s pos) ∧ Below w.heap.size w wx ∧ pos % 2 = 0 ∧ s.size ≤ pos + gf)
  case atStart => exact ⟨0, World.iter_heap w s 0, (Below.refl _ w).alloc (Nat.le_refl _) _, rfl, by omega⟩
  case round =>
    obtain ⟨pos, hit, hbw, hev, hfu⟩ := hrel
    by_cases hps : pos < s.size
    · obtain ⟨g', rfl⟩ : ∃ g', gk = g' + 1 := ⟨gk - 1, by omega⟩
      have hnx : ∀ ty, (Instr.next (.pointer (some ⟨w.heap.size, 0, none⟩)) true ty).run Tryd.prog wr = _ := fun ty => Lib.run_next_any_at wr w.heap.size s pos ty hit hps
      obtain ⟨d1, d2, d3⟩ := HD.out pos hev (by rw [Opt.size_len]; exact hps)
      rw [Lib.decodeL_drop] at d2 d3
      rw [d3] at hnx
      obtain ⟨R, hR⟩ : ∃ R, (Utf8.decode s pos).1 = R := ⟨_, rfl⟩
      rw [hR] at hnx d2
      have hit2 := Lib.iterAt_heap wr w.heap.size s pos (pos + 2) hit
      have hbw2 := Lib.below_iterAt hbw (k := w.heap.size) (Nat.le_refl _) s (pos + 2)
      obtain ⟨W, hWd⟩ : ∃ W, wr.iterAt w.heap.size s (pos + 2) = W := ⟨_, rfl⟩
      rw [hWd] at hnx hit2 hbw2
      have c1 : ((R : Int) == 65533) = false := by simp; omega
      have HW := Lib.hid hWd; have HRR := Lib.hid hR
      clear hWd hR d1 d2 d3 hit
      go_wp2_with fail
      go_roundg g'
      case measure => omega
      case rel => exact ⟨pos + 2, hit2, hbw2, by omega, by omega⟩
    · have hnx : ∀ ty, (Instr.next (.pointer (some ⟨w.heap.size, 0, none⟩)) true ty).run Tryd.prog wr = _ := fun ty => Lib.run_next_end_at wr w.heap.size s pos ty hit hps
      go_wp2_with fail
      try simp only [Exit.noGoto_ret]
      go_ret
      exact ⟨rfl, hbw⟩
end Go.Proofs.YtdejgomljelnlaaDoor
