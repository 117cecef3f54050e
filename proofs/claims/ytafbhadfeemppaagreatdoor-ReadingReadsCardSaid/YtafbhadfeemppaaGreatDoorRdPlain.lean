/- Chapter 12: choices of a reading, as plain functions; no program in sight. -/
import Derived.Test.YtafbhadfeemppaaGreatDoorZonParse
namespace Go.Proofs.YtafbhadfeemppaaGreatDoor
namespace Rd

/-- Bytes in ascending order, each once. -/
def srt (l : List UInt8) : List UInt8 := ((List.range 256).map UInt8.ofNat).filter fun c => l.contains c
theorem mem_srt {c : UInt8} {l : List UInt8} : c ∈ srt l ↔ c ∈ l := by
  unfold srt
  rw [List.mem_filter]
  simp only [List.contains_iff_mem, List.mem_map, List.mem_range]
  exact ⟨fun h => h.2, fun h => ⟨⟨c.toNat, c.toNat_lt, by simp⟩, h⟩⟩
theorem srt_asc (l : List UInt8) : (srt l).Pairwise (· < ·) := by
  unfold srt
  refine List.Pairwise.filter _ ?_
  rw [List.pairwise_map]
  refine List.Pairwise.imp_of_mem ?_ List.pairwise_lt_range
  intro a b ha hb h
  have h1 := List.mem_range.1 ha
  have h2 := List.mem_range.1 hb
  rw [UInt8.lt_iff_toNat_lt]
  simp only [UInt8.toNat_ofNat']
  omega
theorem asc_nodup {l : List UInt8} (h : l.Pairwise (· < ·)) : l.Nodup := h.imp fun h e => by subst e; exact absurd h (by rw [UInt8.lt_iff_toNat_lt]; omega)
/-- Two ascending lists of the same bytes are one. -/
theorem asc_unique : ∀ {l m : List UInt8}, l.Pairwise (· < ·) → m.Pairwise (· < ·) → (∀ c, c ∈ l ↔ c ∈ m) → l = m
  | [], [], _, _, _ => rfl
  | [], b :: m, _, _, h => absurd ((h b).2 (List.mem_cons_self ..)) (by simp)
  | a :: l, [], _, _, h => absurd ((h a).1 (List.mem_cons_self ..)) (by simp)
  | a :: l, b :: m, hl, hm, h => by
    have hl' := List.pairwise_cons.1 hl
    have hm' := List.pairwise_cons.1 hm
    have e : a = b := by
      rcases List.mem_cons.1 ((h a).1 (List.mem_cons_self ..)) with e | ha
      · exact e
      · rcases List.mem_cons.1 ((h b).2 (List.mem_cons_self ..)) with e | hb
        · exact e.symm
        · have h1 := hm'.1 a ha
          have h2 := hl'.1 b hb
          rw [UInt8.lt_iff_toNat_lt] at h1 h2
          omega
    subst e
    congr 1
    refine asc_unique hl'.2 hm'.2 fun c => ⟨fun hc => ?_, fun hc => ?_⟩
    · rcases List.mem_cons.1 ((h c).1 (List.mem_cons_of_mem _ hc)) with e | h1
      · subst e; exact absurd (hl'.1 c hc) (by rw [UInt8.lt_iff_toNat_lt]; omega)
      · exact h1
    · rcases List.mem_cons.1 ((h c).2 (List.mem_cons_of_mem _ hc)) with e | h1
      · subst e; exact absurd (hm'.1 c hc) (by rw [UInt8.lt_iff_toNat_lt]; omega)
      · exact h1
theorem srt_is {l m : List UInt8} (hm : m.Pairwise (· < ·)) (h : ∀ c, c ∈ m ↔ c ∈ l) : m = srt l :=
  asc_unique hm (srt_asc l) fun c => (h c).trans mem_srt.symm
theorem srt_len (l : List UInt8) : (srt l).length ≤ 256 := by
  unfold srt
  refine Nat.le_trans (List.length_filter_le _ _) (by simp)
theorem srt_le (l : List UInt8) : (srt l).length ≤ l.length := List.Nodup.length_le_of_subset (asc_nodup (srt_asc l)) fun _ h => mem_srt.1 h
theorem srt_nil {l : List UInt8} (h : l ≠ []) : srt l ≠ [] := by
  cases l with
  | nil => exact absurd rfl h
  | cons a r => intro e; have : a ∈ srt (a :: r) := mem_srt.2 (List.mem_cons_self ..); rw [e] at this; cases this
theorem srt_one (c : UInt8) : srt [c] = [c] := (srt_is (List.pairwise_singleton _ _) fun _ => Iff.rfl).symm
theorem srt_sub (l m : List UInt8) : (srt l).Sublist (srt (l ++ m)) := by
  unfold srt
  have e : ((List.range 256).map UInt8.ofNat).filter (fun c => l.contains c) = (((List.range 256).map UInt8.ofNat).filter fun c => (l ++ m).contains c).filter fun c => l.contains c := by
    rw [List.filter_filter]
    refine List.filter_congr fun c _ => ?_
    by_cases h : c ∈ l <;> simp [h]
  rw [e]
  exact List.filter_sublist

/-- All choices, ascending. -/
def prod : List (List UInt8) → List (List UInt8)
  | [] => [[]]
  | b :: r => b.flatMap fun c => (prod r).map (c :: ·)
/-- Their number. -/
def size : List (List UInt8) → Nat
  | [] => 1
  | b :: r => b.length * size r
theorem size_append (a b : List (List UInt8)) : size (a ++ b) = size a * size b := by
  induction a with
  | nil => simp [size]
  | cons x r ih => simp only [List.cons_append, size, ih, Nat.mul_assoc]
theorem size_pos {L : List (List UInt8)} (h : ∀ b ∈ L, b ≠ []) : 0 < size L := by
  induction L with
  | nil => simp [size]
  | cons x r ih =>
    have h1 := List.length_pos_iff.2 (h x (List.mem_cons_self ..))
    exact Nat.mul_pos h1 (ih fun b hb => h b (List.mem_cons_of_mem _ hb))
theorem flat_length (b : List UInt8) (M : List (List UInt8)) : (b.flatMap fun c => M.map (c :: ·)).length = b.length * M.length := by
  induction b with
  | nil => simp
  | cons x r ih => rw [List.flatMap_cons, List.length_append, ih, List.length_map, List.length_cons, Nat.succ_mul, Nat.add_comm]
theorem prod_length : ∀ L, (prod L).length = size L
  | [] => rfl
  | b :: r => by rw [prod, flat_length, prod_length r, size]
theorem mem_prod : ∀ {L : List (List UInt8)} {t : List UInt8}, t ∈ prod L ↔ t.length = L.length ∧ ∀ i (h : i < t.length) (h' : i < L.length), t[i] ∈ L[i]
  | [], t => by simp only [prod, List.mem_singleton]; constructor
                · rintro rfl; exact ⟨rfl, fun i h => by simp at h⟩
                · rintro ⟨h, _⟩; exact List.eq_nil_of_length_eq_zero (by simpa using h)
  | b :: r, t => by
    simp only [prod, List.mem_flatMap, List.mem_map]
    constructor
    · rintro ⟨c, hc, u, hu, rfl⟩
      obtain ⟨h1, h2⟩ := mem_prod.1 hu
      refine ⟨by simp [h1], fun i h h' => ?_⟩
      cases i with
      | zero => exact hc
      | succ i => exact h2 i (by simpa using h) (by simpa using h')
    · rintro ⟨h1, h2⟩
      cases t with
      | nil => simp at h1
      | cons c u =>
        refine ⟨c, h2 0 (by simp) (by simp), u, mem_prod.2 ⟨by simpa using h1, fun i h h' => ?_⟩, rfl⟩
        exact h2 (i + 1) (by simpa using h) (by simpa using h')
theorem prod_len {L : List (List UInt8)} {t : List UInt8} (h : t ∈ prod L) : t.length = L.length := (mem_prod.1 h).1
theorem prod_asc : ∀ {L : List (List UInt8)}, (∀ b ∈ L, b.Pairwise (· < ·)) → (prod L).Pairwise (· < ·)
  | [], _ => List.pairwise_singleton _ _
  | b :: r, h => by
    have ih := prod_asc (L := r) fun x hx => h x (List.mem_cons_of_mem _ hx)
    have hb := h b (List.mem_cons_self ..)
    simp only [prod]
    clear h
    induction b with
    | nil => simp
    | cons x b hi =>
      rw [List.flatMap_cons, List.pairwise_append]
      have hb' := List.pairwise_cons.1 hb
      refine ⟨?_, hi hb'.2, ?_⟩
      · rw [List.pairwise_map]
        exact ih.imp fun h => List.cons_lt_cons_iff.2 (Or.inr ⟨rfl, h⟩)
      · intro a ha c hc
        obtain ⟨u, _, rfl⟩ := List.mem_map.1 ha
        obtain ⟨y, hy, hc⟩ := List.mem_flatMap.1 hc
        obtain ⟨v, _, rfl⟩ := List.mem_map.1 hc
        exact List.cons_lt_cons_iff.2 (Or.inl (hb'.1 y hy))
theorem prod_sub : ∀ {L M : List (List UInt8)}, L.length = M.length → (∀ i (h : i < L.length) (h' : i < M.length), L[i].Sublist M[i]) → (prod L).Sublist (prod M)
  | [], [], _, _ => List.Sublist.refl _
  | [], _ :: _, h, _ => by simp at h
  | _ :: _, [], h, _ => by simp at h
  | b :: r, c :: s, h, hs => by
    have ih := prod_sub (L := r) (M := s) (by simpa using h) fun i h1 h2 => hs (i + 1) (by simpa using h1) (by simpa using h2)
    have hb : b.Sublist c := hs 0 (by simp) (by simp)
    simp only [prod]
    clear h hs
    induction hb with
    | slnil => simp
    | cons x _ hi => rw [List.flatMap_cons]; exact List.Sublist.trans hi (List.sublist_append_right _ _)
    | cons_cons x _ hi => rw [List.flatMap_cons, List.flatMap_cons]; exact List.Sublist.append (ih.map _) hi

/-- The reference's way: the choice with a number, from the last place to the first. -/
def back : List (List UInt8) → Nat → List UInt8 × Nat
  | [], n => ([], n)
  | b :: r, n => (b.getD ((back r n).2 % b.length) 0 :: (back r n).1, (back r n).2 / b.length)
theorem flat_get (b : List UInt8) (M : List (List UInt8)) (q : Nat) (hq : q < b.length) (m : Nat) (hm : m < M.length) :
    (b.flatMap fun c => M.map (c :: ·))[q * M.length + m]? = some (b[q] :: M[m]) := by
  induction b generalizing q with
  | nil => simp at hq
  | cons x r ih =>
    rw [List.flatMap_cons]
    cases q with
    | zero =>
      rw [Nat.zero_mul, Nat.zero_add, List.getElem?_append_left (by simpa using hm)]
      simp [hm]
    | succ q =>
      rw [List.getElem?_append_right (by simp only [List.length_map, Nat.succ_mul]; omega)]
      have e : (q + 1) * M.length + m - (M.map (x :: ·)).length = q * M.length + m := by simp only [List.length_map, Nat.succ_mul]; omega
      rw [e]
      simpa using ih q (by simpa using hq)
theorem back_is : ∀ (L : List (List UInt8)) (_ : ∀ b ∈ L, b ≠ []) (n : Nat), (prod L)[n % size L]? = some (back L n).1 ∧ (back L n).2 = n / size L
  | [], _, n => by simp [prod, size, back, Nat.mod_one]
  | b :: r, h, n => by
    have hr := back_is r (fun x hx => h x (List.mem_cons_of_mem _ hx)) n
    have hb : 0 < b.length := List.length_pos_iff.2 (h b (List.mem_cons_self ..))
    have hp := size_pos (L := r) fun x hx => h x (List.mem_cons_of_mem _ hx)
    simp only [back, prod, size, hr.2]
    refine ⟨?_, by rw [Nat.div_div_eq_div_mul, Nat.mul_comm]⟩
    have hq : n / size r % b.length < b.length := Nat.mod_lt _ hb
    have hm : n % size r < (prod r).length := by rw [prod_length]; exact Nat.mod_lt _ hp
    have e : n % (b.length * size r) = n / size r % b.length * (prod r).length + n % size r := by
      rw [prod_length, Nat.mul_comm b.length, Nat.mod_mul, Nat.add_comm, Nat.mul_comm]
    rw [e, flat_get b (prod r) _ hq _ hm]
    have e2 : (prod r)[n % size r] = (back r n).1 := by
      have h1 := hr.1
      rw [List.getElem?_eq_getElem hm] at h1
      injection h1
    rw [e2, List.getD_eq_getElem?_getD, List.getElem?_eq_getElem hq]
    rfl
/-- A text in pieces of one width. -/
def cut (w : Nat) : Nat → List UInt8 → List (List UInt8)
  | 0, _ => []
  | h + 1, t => t.take w :: cut w h (t.drop w)
theorem cut_length (w : Nat) : ∀ (h : Nat) (t : List UInt8), (cut w h t).length = h
  | 0, _ => rfl
  | h + 1, t => by rw [cut, List.length_cons, cut_length]
theorem cut_get (w : Nat) : ∀ (h : Nat) (t : List UInt8) (i : Nat), i < h → (cut w h t)[i]? = some ((t.drop (i * w)).take w)
  | 0, _, i, hi => by omega
  | h + 1, t, 0, _ => by simp [cut]
  | h + 1, t, i + 1, hi => by
    rw [cut, List.getElem?_cons_succ, cut_get w h _ i (by omega), List.drop_drop]
    congr 3
    rw [Nat.succ_mul, Nat.add_comm]
theorem cut_flat (w : Nat) : ∀ (h : Nat) (t : List UInt8), t.length = h * w → (cut w h t).flatten = t
  | 0, t, e => by rw [Nat.zero_mul] at e; rw [List.eq_nil_of_length_eq_zero e]; rfl
  | h + 1, t, e => by
    rw [cut, List.flatten_cons, cut_flat w h _ (by rw [List.length_drop, e, Nat.succ_mul]; omega), List.take_append_drop]
/-- The readings of choices: those that are zones. -/
noncomputable def reads (W H : Nat) (L : List (List UInt8)) : List (List (List UInt8)) := ((prod L).map (cut W H)).filter fun t => decide (Zn.prsE t = 0)
/-- The loop that counts: it stops when there are too many. -/
def count : List (List UInt8) → Nat → Option Nat
  | [], n => some n
  | b :: r, n => if 4096 < n * b.length then none else count r (n * b.length)
end Rd
end Go.Proofs.YtafbhadfeemppaaGreatDoor
