/- Chapter 11, plain: a digit under a check digit is replaced. -/
import Derived.Test.YtelngghecmkipaaGreatDoorZonRetP
namespace Go.Proofs.YtelngghecmkipaaGreatDoor.Zn
open Go.RowKit

theorem sumFrom_set (l : List UInt8) (x : UInt8) : ∀ (k j : Nat) (h : k < l.length), Opt.sumFrom j (l.set k x) = Opt.sumFrom j l + Opt.wt (j + k) * Opt.val (x.toNat : Int) - Opt.wt (j + k) * Opt.val (l[k].toNat : Int) := by
  induction l with
  | nil => intro k j h; simp at h
  | cons c r ih =>
    intro k j h
    cases k with
    | zero => simp only [List.set_cons_zero, Opt.sumFrom, List.getElem_cons_zero, Nat.add_zero]; omega
    | succ k =>
      have := ih k (j + 1) (by simpa using h)
      simp only [List.set_cons_succ, Opt.sumFrom, List.getElem_cons_succ, this]
      rw [show j + 1 + k = j + (k + 1) by omega]; omega
theorem sum_set (l : List UInt8) (x : UInt8) (k : Nat) (h : k < l.length) : Opt.sum (l.set k x) = Opt.sum l + Opt.wt k * Opt.val (x.toNat : Int) - Opt.wt k * Opt.val (l[k].toNat : Int) := by
  have := sumFrom_set l x k 0 h
  rwa [Nat.zero_add] at this
theorem b8_inj {a b : Int} (ha : 0 ≤ a ∧ a ≤ 255) (hb : 0 ≤ b ∧ b ≤ 255) (h : b8 a = b8 b) : a = b := by
  have h1 := b8_toNat a ha.1 ha.2; have h2 := b8_toNat b hb.1 hb.2
  rw [h] at h1; omega
theorem digit_eq (a b : List UInt8) : Opt.digit a = Opt.digit b ↔ Opt.sum a % 10 = Opt.sum b % 10 := by
  unfold Opt.digit
  constructor
  · intro h
    have := b8_inj (a := 48 + Opt.sum a % 10) (b := 48 + Opt.sum b % 10) (by omega) (by omega) h
    omega
  · intro h; rw [h]
/-- One byte changed. -/
def Ch (o y : UInt8) (l l' : List UInt8) : Prop := ∃ p, l[p]? = some o ∧ l' = l.set p y
theorem Ch.left {o y : UInt8} {l l' : List UInt8} (h : Ch o y l l') (r : List UInt8) : Ch o y (l ++ r) (l' ++ r) := by
  obtain ⟨p, h1, rfl⟩ := h
  have hp := (List.getElem?_eq_some_iff.1 h1).1
  exact ⟨p, by rw [List.getElem?_append_left hp]; exact h1, by rw [List.set_append_left p y hp]⟩
theorem Ch.right {o y : UInt8} {l l' : List UInt8} (h : Ch o y l l') (r : List UInt8) : Ch o y (r ++ l) (r ++ l') := by
  obtain ⟨p, h1, rfl⟩ := h
  refine ⟨r.length + p, by rw [List.getElem?_append_right (by omega), Nat.add_sub_cancel_left]; exact h1, ?_⟩
  rw [List.set_append_right _ _ (by omega), Nat.add_sub_cancel_left]
theorem Ch.drop {o y : UInt8} {l : List UInt8} {k : Nat} (h : l[k]? = some o) {s : Nat} (hs : s ≤ k) : Ch o y (l.drop s) ((l.set k y).drop s) := by
  refine ⟨k - s, by rw [List.getElem?_drop, show s + (k - s) = k by omega]; exact h, ?_⟩
  rw [List.drop_set, if_neg (by omega)]
theorem Ch.take {o y : UInt8} {l : List UInt8} {k : Nat} (h : l[k]? = some o) {n : Nat} (hn : k < n) : Ch o y (l.take n) ((l.set k y).take n) := by
  refine ⟨k, by rw [List.getElem?_take_of_lt hn]; exact h, ?_⟩
  rw [List.take_set]
theorem Ch.cut {o y : UInt8} {l : List UInt8} {k : Nat} (h : l[k]? = some o) {s n : Nat} (hs : s ≤ k) (hn : k < s + n) : Ch o y ((l.drop s).take n) (((l.set k y).drop s).take n) := by
  rw [List.drop_set, if_neg (by omega)]
  exact Ch.take (by rw [List.getElem?_drop, show s + (k - s) = k by omega]; exact h) (by omega)
theorem same_take (l : List UInt8) (y : UInt8) {k n : Nat} (h : n ≤ k) : (l.set k y).take n = l.take n := List.take_set_of_le h
theorem same_cut (l : List UInt8) (y : UInt8) {k s n : Nat} (h : k < s ∨ s + n ≤ k) : ((l.set k y).drop s).take n = (l.drop s).take n := by
  rw [List.drop_set]
  split
  · rfl
  · exact same_take _ _ (by omega)
theorem digit_ch {o y : UInt8} {l l' : List UInt8} (h : Ch o y l l') (h0 : 48 ≤ (o.toNat : Int)) (h1 : (o.toNat : Int) ≤ 57) (x : Int) (hx : 0 ≤ x ∧ x < 9) (hy : y = b8 (48 + ((o.toNat : Int) - 48 + 1 + x) % 10)) : Opt.digit l' ≠ Opt.digit l := by
  obtain ⟨k, hk, rfl⟩ := h
  obtain ⟨hkl, rfl⟩ := List.getElem?_eq_some_iff.1 hk
  subst hy
  have hb := b8_toNat (48 + ((l[k].toNat : Int) - 48 + 1 + x) % 10) (by omega) (by omega)
  rw [Ne, digit_eq, sum_set l _ k hkl, hb]
  have e1 : Opt.val (l[k].toNat : Int) = (l[k].toNat : Int) - 48 := by unfold Opt.val; rw [if_pos ⟨h0, h1⟩]
  have e2 : Opt.val (48 + ((l[k].toNat : Int) - 48 + 1 + x) % 10) = ((l[k].toNat : Int) - 48 + 1 + x) % 10 := by unfold Opt.val; rw [if_pos (by omega)]; omega
  rw [e1, e2]
  generalize (l[k].toNat : Int) = c at *
  have wt_cases : Opt.wt k = 7 ∨ Opt.wt k = 3 ∨ Opt.wt k = 1 := by
    unfold Opt.wt; repeat' split
    all_goals simp
  rcases wt_cases with h | h | h <;> rw [h] <;> omega
theorem len2 {L : List (List UInt8)} (h : L.length = 2) : ∃ a b, L = [a, b] := by
  match L, h with
  | [a, b], _ => exact ⟨a, b, rfl⟩
theorem len3 {L : List (List UInt8)} (h : L.length = 3) : ∃ a b c, L = [a, b, c] := by
  match L, h with
  | [a, b, c], _ => exact ⟨a, b, c, rfl⟩
theorem comp_ch {F : Nat} (hF : 1 ≤ F ∧ F ≤ 3) {L : List (List UInt8)} (hS : Shaped F L) {i k : Nat} (hp : (F ≠ 1 ∧ i = 1 ∧ (k < 10 ∨ (13 ≤ k ∧ k < 20) ∨ (21 ≤ k ∧ k < 28))) ∨ (F = 1 ∧ ((i = 0 ∧ 5 ≤ k) ∨ (i = 1 ∧ (k < 7 ∨ (8 ≤ k ∧ k < 15)))))) {c : UInt8} (hc : (L.getD i [])[k]? = some c) (y : UInt8) :
    Ch c y (comp F L) (comp F (L.set i ((L.getD i []).set k y))) ∧ (k < 28 → fld F (L.set i ((L.getD i []).set k y)) 14 = fld F L 14) := by
  have h3 : F = 1 ∨ F = 2 ∨ F = 3 := by omega
  obtain ⟨h1, h2⟩ := hS
  rcases h3 with rfl | rfl | rfl
  · obtain ⟨a, b, d, rfl⟩ := len3 (L := L) h1
    rcases hp with hp | ⟨_, hp⟩
    · omega
    rcases hp with ⟨rfl, hp⟩ | ⟨rfl, hp⟩
    · refine ⟨?_, fun _ => rfl⟩
      exact (((Ch.drop (l := a) hc hp).left _).left _).left _
    · refine ⟨?_, fun hk => same_cut b y (s := 29) (n := 1) (.inl (by omega))⟩
      show Ch c y (a.drop 5 ++ b.take 7 ++ (b.drop 8).take 7 ++ (b.drop 18).take 11) (a.drop 5 ++ (b.set k y).take 7 ++ ((b.set k y).drop 8).take 7 ++ ((b.set k y).drop 18).take 11)
      rw [same_cut b y (s := 18) (n := 11) (.inl (by omega))]
      rcases hp with hp | hp
      · rw [same_cut b y (s := 8) (n := 7) (.inl (by omega))]
        exact (((Ch.take (l := b) hc hp).right _).left _).left _
      · rw [same_take b y (n := 7) (by omega)]
        exact ((Ch.cut (l := b) hc hp.1 hp.2).right _).left _
  all_goals
    obtain ⟨a, b, rfl⟩ := len2 (L := L) h1
    have hq : i = 1 ∧ (k < 10 ∨ (13 ≤ k ∧ k < 20) ∨ (21 ≤ k ∧ k < 28)) := by
      rcases hp with hp | hp
      · exact hp.2
      · omega
    clear hp
    obtain ⟨rfl, hp⟩ := hq
  · refine ⟨?_, fun hk => same_cut b y (s := 35) (n := 1) (.inl (by omega))⟩
    show Ch c y (b.take 10 ++ (b.drop 13).take 7 ++ (b.drop 21).take 14) ((b.set k y).take 10 ++ ((b.set k y).drop 13).take 7 ++ ((b.set k y).drop 21).take 14)
    rcases hp with hp | hp | hp
    · rw [same_cut b y (s := 13) (n := 7) (.inl (by omega)), same_cut b y (s := 21) (n := 14) (.inl (by omega))]
      exact ((Ch.take (l := b) hc hp).left _).left _
    · rw [same_take b y (n := 10) (by omega), same_cut b y (s := 21) (n := 14) (.inl (by omega))]
      exact ((Ch.cut (l := b) hc hp.1 hp.2).right _).left _
    · rw [same_take b y (n := 10) (by omega), same_cut b y (s := 13) (n := 7) (.inr (by omega))]
      exact (Ch.cut (l := b) hc hp.1 (by omega)).right _
  · refine ⟨?_, fun hk => same_cut b y (s := 43) (n := 1) (.inl (by omega))⟩
    show Ch c y (b.take 10 ++ (b.drop 13).take 7 ++ (b.drop 21).take 22) ((b.set k y).take 10 ++ ((b.set k y).drop 13).take 7 ++ ((b.set k y).drop 21).take 22)
    rcases hp with hp | hp | hp
    · rw [same_cut b y (s := 13) (n := 7) (.inl (by omega)), same_cut b y (s := 21) (n := 22) (.inl (by omega))]
      exact ((Ch.take (l := b) hc hp).left _).left _
    · rw [same_take b y (n := 10) (by omega), same_cut b y (s := 21) (n := 22) (.inl (by omega))]
      exact ((Ch.cut (l := b) hc hp.1 hp.2).right _).left _
    · rw [same_take b y (n := 10) (by omega), same_cut b y (s := 13) (n := 7) (.inr (by omega))]
      exact (Ch.cut (l := b) hc hp.1 (by omega)).right _
theorem shaped_set {F : Nat} {L : List (List UInt8)} (hS : Shaped F L) (i k : Nat) (y : UInt8) : Shaped F (L.set i ((L.getD i []).set k y)) := by
  refine ⟨by rw [List.length_set]; exact hS.1, fun l hl => ?_⟩
  by_cases hi : i < L.length
  · rcases List.mem_or_eq_of_mem_set hl with h1 | h1
    · exact hS.2 l h1
    · rw [h1, List.length_set]
      refine hS.2 _ ?_
      rw [List.getD_eq_getElem?_getD, List.getElem?_eq_getElem hi]
      exact List.getElem_mem hi
  · rw [List.set_eq_of_length_le (by omega)] at hl
    exact hS.2 l hl
theorem valid_set {L : List (List UInt8)} (h : L.all Opt.valid = true) (i k : Nat) {y : UInt8} (hy : Opt.ok y = true) : (L.set i ((L.getD i []).set k y)).all Opt.valid = true := by
  refine List.all_eq_true.2 fun l hl => ?_
  rcases List.mem_or_eq_of_mem_set hl with h1 | h1
  · exact List.all_eq_true.1 h l h1
  · rw [h1]
    refine List.all_eq_true.2 fun c hc => ?_
    rcases List.mem_or_eq_of_mem_set hc with h2 | h2
    · exact List.all_eq_true.1 (getD_valid h i) c h2
    · rw [h2]; exact hy
/-- A digit replaced where the composite digit sees it: the error is that of a digit. -/
theorem notice_at {z : Z} (h : Good z) (F : Nat) (hF : 1 ≤ F ∧ F ≤ 3) (hf : z.fmt = F) {i k : Nat} (hk : k < 28) (hp : (F ≠ 1 ∧ i = 1 ∧ (k < 10 ∨ (13 ≤ k ∧ k < 20) ∨ (21 ≤ k ∧ k < 28))) ∨ (F = 1 ∧ ((i = 0 ∧ 5 ≤ k) ∨ (i = 1 ∧ (k < 7 ∨ (8 ≤ k ∧ k < 15)))))) {c : UInt8} (hc : ((asm F (bldF F z)).getD i [])[k]? = some c)
    (h0 : 48 ≤ (c.toNat : Int)) (h1 : (c.toNat : Int) ≤ 57) (x : Int) (hx : 0 ≤ x ∧ x < 9) :
    prsE ((asm F (bldF F z)).set i (((asm F (bldF F z)).getD i []).set k (b8 (48 + ((c.toNat : Int) - 48 + 1 + x) % 10)))) = 13 := by
  have hS := asm_len F hF _ (bld_wide F z)
  have hck := chk_bld h F hF hf
  have hva := asm_valid (F := F) (bldF_valid h F hF)
  generalize asm F (bldF F z) = L at *
  obtain ⟨y, hy⟩ : ∃ q, b8 (48 + ((c.toNat : Int) - 48 + 1 + x) % 10) = q := ⟨_, rfl⟩
  have hyt : (y.toNat : Int) = 48 + ((c.toNat : Int) - 48 + 1 + x) % 10 := by rw [← hy]; exact b8_toNat _ (by omega) (by omega)
  have hok : Opt.ok y = true := by unfold Opt.ok Opt.val; rw [hyt, if_pos (by omega)]; exact decide_eq_true (by omega)
  rw [hy]
  obtain ⟨hch, h14⟩ := comp_ch hF hS hp hc y
  have hne := digit_ch hch h0 h1 x hx hy.symm
  have hsh := shape_asm hF (shaped_set hS i k y)
  have hv := valid_set hva i k hok
  have hc2 : chk F (L.set i ((L.getD i []).set k y)) = false := by
    unfold chk at hck ⊢
    rw [Bool.and_eq_true] at hck
    have e := of_decide_eq_true hck.2
    rw [Bool.and_eq_false_iff]
    right
    refine decide_eq_false fun hh => hne ?_
    rw [h14 hk, e] at hh
    unfold dg at hh
    injection hh with hh
    exact hh.symm
  unfold prsE
  rw [hsh, if_neg (by omega), hv, if_neg (by decide), hc2, if_pos rfl]
theorem in_cut {b : List UInt8} {c : UInt8} {k : Nat} (h : b[k]? = some c) {s n : Nat} (hs : s ≤ k) (hn : k < s + n) : c ∈ (b.drop s).take n :=
  List.mem_of_getElem? (i := k - s) (by rw [List.getElem?_take_of_lt (by omega), List.getElem?_drop, show s + (k - s) = k by omega]; exact h)
theorem nat_no {z : Z} (h : Good z) {F : Nat} (w5 : wd F 5 = 3) {c : UInt8} (hc : c ∈ mapF F z 5) (h0 : 48 ≤ (c.toNat : Int)) (h1 : (c.toNat : Int) ≤ 57) : False := by
  rw [map5, w5, wide_fit (by rw [bl_len]; exact (by have := letters_le h.nat; omega))] at hc
  rcases List.mem_append.1 hc with h2 | h2
  · have hl := h.nat
    unfold letters at hl
    simp only [Bool.and_eq_true] at hl
    have h3 := List.all_eq_true.1 hl.2.2 c h2
    unfold Opt.isL at h3
    simp only [Bool.and_eq_true, decide_eq_true_eq] at h3
    omega
  · rw [(List.mem_replicate.1 h2).2] at h1
    exact absurd h1 (by decide)
theorem sex_no {z : Z} (h : Good z) {F : Nat} (w8 : wd F 8 = 1) {c : UInt8} (hc : c ∈ mapF F z 8) (_h0 : 48 ≤ (c.toNat : Int)) (h1 : (c.toNat : Int) ≤ 57) : False := by
  rw [sex_f h w8] at hc
  have hs := h.sex
  unfold sexB at hs
  simp only [Bool.or_eq_true, decide_eq_true_eq] at hs
  rcases hs with e | e | e <;> rw [e] at hc <;> rw [List.mem_singleton.1 hc] at h1 <;> exact absurd h1 (by decide)
/-- A digit replaced in the number, a date or what comes with them. -/
theorem notice {z : Z} (h : Good z) (F : Nat) (hF : 1 ≤ F ∧ F ≤ 3) (hf : z.fmt = F) {i k : Nat} (hp : (F ≠ 1 ∧ i = 1 ∧ k < 28) ∨ (F = 1 ∧ ((i = 0 ∧ 5 ≤ k ∧ k < 19) ∨ (i = 1 ∧ k < 14)))) {c : UInt8} (hc : ((asm F (bldF F z)).getD i [])[k]? = some c)
    (h0 : 48 ≤ (c.toNat : Int)) (h1 : (c.toNat : Int) ≤ 57) (x : Int) (hx : 0 ≤ x ∧ x < 9) :
    prsE ((asm F (bldF F z)).set i (((asm F (bldF F z)).getD i []).set k (b8 (48 + ((c.toNat : Int) - 48 + 1 + x) % 10)))) = 13 := by
  obtain ⟨w0, w1, w3, w4, w5, w6, w7, w8, w9, w10, w14, w2⟩ := wds F hF
  have hg := fun i (hi : i < 15) => fld_asm F hF (bldF F z) (bld_wide F z) i hi
  have e5 := (hg 5 (by decide)).trans (bldF_at (F := F) (z := z) (by decide))
  have e8 := (hg 8 (by decide)).trans (bldF_at (F := F) (z := z) (by decide))
  have h3 : F = 1 ∨ F = 2 ∨ F = 3 := by omega
  refine notice_at h F hF hf (by omega) ?_ hc h0 h1 x hx
  rcases h3 with rfl | rfl | rfl
  · right
    refine ⟨rfl, ?_⟩
    rcases hp with hp | ⟨_, hp | ⟨rfl, hp⟩⟩
    · omega
    · left; omega
    · right
      refine ⟨rfl, ?_⟩
      by_cases h7 : k = 7
      · exact (sex_no h w8 (by rw [← e8]; exact in_cut hc (s := 7) (n := 1) (by omega) (by omega)) h0 h1).elim
      · omega
  all_goals
    left
    rcases hp with ⟨h2, rfl, hp⟩ | hp
    · refine ⟨h2, rfl, ?_⟩
      by_cases h7 : k = 20
      · exact (sex_no h w8 (by rw [← e8]; exact in_cut hc (s := 20) (n := 1) (by omega) (by omega)) h0 h1).elim
      · by_cases h8 : 10 ≤ k ∧ k < 13
        · exact (nat_no h w5 (by rw [← e5]; exact in_cut hc (s := 10) (n := 3) (by omega) (by omega)) h0 h1).elim
        · omega
    · omega
/-- The same, over the texts of the lines. -/
theorem notice_K {z : Z} (h : Good z) (F : Nat) (hF : 1 ≤ F ∧ F ≤ 3) (hf : z.fmt = F) {i k : Nat} (hp : (F ≠ 1 ∧ i = 1 ∧ k < 28) ∨ (F = 1 ∧ ((i = 0 ∧ 5 ≤ k ∧ k < 19) ∨ (i = 1 ∧ k < 14)))) {s : ByteArray} (hs : (bldK z)[i]? = some s) {c : UInt8} (hc : s.data.toList[k]? = some c)
    (h0 : 48 ≤ (c.toNat : Int)) (h1 : (c.toNat : Int) ≤ 57) (x : Int) (hx : 0 ≤ x ∧ x < 9) :
    prsE (txts ((bldK z).set i ⟨(s.data.toList.set k (b8 (48 + ((c.toNat : Int) - 48 + 1 + x) % 10))).toArray⟩)) = 13 := by
  have hb : txts (bldK z) = asm F (bldF F z) := by
    rw [txts_bld]; unfold bld; rw [hf]; rfl
  have he : (asm F (bldF F z)).getD i [] = s.data.toList := by
    rw [← hb]; unfold txts
    rw [List.getD_eq_getElem?_getD, List.getElem?_map, hs]; rfl
  have := notice h F hF hf hp (by rw [he]; exact hc) h0 h1 x hx
  rw [he] at this
  rw [← this, ← hb]
  unfold txts
  rw [List.map_set]
end Go.Proofs.YtelngghecmkipaaGreatDoor.Zn
