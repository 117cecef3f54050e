/- Several texts in one: WebCa, WebRh, WebRi, WebRj, WebRk. -/
import Derived.Test.YtihbmgkbipeakaaGreatWebG17
import Derived.Test.YtihbmgkbipeakaaGreatWebG23
import Derived.Test.YtihbmgkbipeakaaGreatWebG18
import Derived.Test.YtihbmgkbipeakaaGreatWebG0
import Derived.Test.YtihbmgkbipeakaaGreatWebG6
import Derived.Deep.RegionHeld
import Derived.Test.YtihbmgkbipeakaaGreatWebG13
import Derived.Test.YtihbmgkbipeakaaGreatWebG2
import Derived.Test.YtihbmgkbipeakaaGreatWebG12
import Derived.Test.YtihbmgkbipeakaaGreatWebG1
import Derived.Deep.CutBlock
import Derived.Deep.DeepCutAuto
namespace Go.Proofs.YtihbmgkbipeakaaGreat

/-- Is a term the n-th kid of another one of some kind. -/
def kidB (t a : T) (k : Int) (n : Nat) : Bool := decide (a.kind = k) && sameB (a.kid n) t
theorem kidB_no {t a : T} {k : Int} {n : Nat} (h : a.kind ≠ k) : kidB t a k n = false := by unfold kidB; rw [decide_eq_false h]; rfl
theorem kidB_yes {t a : T} {k : Int} {n : Nat} (h : a.kind = k) : kidB t a k n = sameB (a.kid n) t := by unfold kidB; rw [decide_eq_true h]; rfl
def raiseB (t a : T) : Bool := decide (a.kind = 1) && (decide (t.kind = 7) && (decide (t.kids.length = 1) && sameB (t.kid 0) a))
/-- Does a step follow from one term. -/
def oneF (t : T) (how : Int) (a : T) : Bool :=
  if how = 2 then kidB t a 3 0 else if how = 3 then kidB t a 3 1 else if how = 5 then kidB t a 6 1 else if how = 7 then kidB a t 4 0 else if how = 11 then raiseB t a else false
/-- The normal form, as the walks give it. -/
def nrm (x : T) : T := if x.valid = true then x.norm else .mk 0 ⟨#[]⟩ []
def raisedT (a b : T) : T := nrm (.mk 7 ⟨#[]⟩ (a.kids ++ [b]))
def twoB (t : T) (k : Int) (a b : T) : Bool := decide (t.kind = k) && (sameB (t.kid 0) a && sameB (t.kid 1) b)
def powB (t a b : T) : Bool := decide (a.kind = 7) && (decide (b.kind = 1) && (decide (a.kids.length < 4) && sameB (raisedT a b) t))
/-- Does a step follow from two terms. -/
def pairF (t : T) (how : Int) (a b : T) : Bool :=
  if how = 4 then openB t a b else if how = 6 then twoB t 3 a b else if how = 8 then twoB t 5 a b else if how = 9 then twoB t 6 a b else if how = 10 then powB t a b else false
/-- How many steps a way needs. -/
def needsI (how : Int) : Int :=
  if how = 1 then 0 else if how = 2 ∨ how = 3 ∨ how = 5 ∨ how = 7 ∨ how = 11 then 1 else if how = 4 ∨ how = 6 ∨ how = 8 ∨ how = 9 ∨ how = 10 then 2 else -1
def madeB (t : T) (k : Int) (xs : List T) : Bool := sameB t (nrm (.mk k ⟨#[]⟩ xs))
/-- The reference's word on a step. -/
def rrightB (K : List T) (how : Int) (t : T) (xs : List T) : Bool :=
  if how = 1 then hasL (rfirst K) t else if how = 2 then kidB t (xs.getD 0 T.nil_) 3 0 else if how = 3 then kidB t (xs.getD 0 T.nil_) 3 1 else if how = 5 then kidB t (xs.getD 0 T.nil_) 6 1
  else if how = 4 then kidB t (xs.getD 0 T.nil_) 5 1 && sameB ((xs.getD 0 T.nil_).kid 0) (xs.getD 1 T.nil_)
  else if how = 6 then madeB t 3 xs else if how = 7 then madeB t 4 xs else if how = 8 then madeB t 5 xs else if how = 9 then madeB t 6 xs
  else if how = 11 then decide ((xs.getD 0 T.nil_).kind = 1) && madeB t 7 xs
  else if (xs.getD 0 T.nil_).kind = 7 ∧ (xs.getD 1 T.nil_).kind = 1 then sameB t (raisedT (xs.getD 0 T.nil_) (xs.getD 1 T.nil_)) else false
def rstepB (K : List T) (L : List Rsn) (i : Nat) : Bool :=
  match L[i]? with
  | none => false
  | some s => s.t.use && (decide (needsI s.how = (s.frm.length : Int)) && (!(s.frm.any (offB i)) && rrightB K s.how s.t (s.frm.map (tAt L))))
def rchkB (K : List T) (L : List Rsn) : Bool := decide (1 ≤ L.length) && (decide (L.length ≤ 4096) && (List.range L.length).all (rstepB K L))
theorem sameB_iff {a b : T} : sameB a b = true ↔ a = b := by
  unfold sameB
  rw [decide_eq_true_eq]
  exact ⟨fun h => T.cmp_eq _ _ h, fun h => by rw [h]; exact T.cmp_self _⟩
theorem sameB_comm (a b : T) : sameB a b = sameB b a := by rw [Bool.eq_iff_iff, sameB_iff, sameB_iff]; exact eq_comm
theorem bool_and3 {a b c : Bool} : (a && (b && c)) = true ↔ a = true ∧ b = true ∧ c = true := by rw [Bool.and_eq_true, Bool.and_eq_true]
theorem valid_name {t : T} (hv : t.valid = true) (h1 : t.kind ≠ 1) (h2 : t.kind ≠ 2) : t.name = ⟨#[]⟩ := by
  have hsh := (Bool.and_eq_true_iff.1 hv).2
  obtain ⟨k, s, ks⟩ := t
  rw [T.shape_head k s ks h1 h2] at hsh
  exact T.empty_of (Bool.and_eq_true_iff.1 (Bool.and_eq_true_iff.1 hsh).1).2
theorem nil_invalid (ks : List T) : (T.mk 0 ⟨#[]⟩ ks).valid = false := by
  unfold T.valid
  rw [T.shape_head 0 _ _ (by decide) (by decide)]
  simp [T.headOk]
theorem use_norm {t : T} (h : t.use = true) : t.norm = t := ((T.isN_iff t).1 (Bool.and_eq_true_iff.1 h).2).2
theorem kids_use_norm {xs : List T} (h : ∀ a ∈ xs, a.use = true) : T.normAll xs = xs := by
  rw [T.normAll_map]
  conv => rhs; rw [← List.map_id xs]
  exact List.map_congr_left fun a ha => use_norm (h a ha)
/-- A usable term is what its kids make. -/
theorem nrm_iff {t : T} (hu : t.use = true) {k : Int} (h1 : k ≠ 1) (h2 : k ≠ 2) (h7 : k ≠ 7) {xs : List T} (ha : ∀ a ∈ xs, a.use = true) : t = nrm (.mk k ⟨#[]⟩ xs) ↔ t.kind = k ∧ t.kids = xs := by
  have hv := T.use_valid hu
  constructor
  · intro e
    unfold nrm at e
    split at e
    · rw [e]
      simp only [T.norm, if_neg h7]
      exact ⟨rfl, kids_use_norm ha⟩
    · rw [e, nil_invalid] at hv; cases hv
  · rintro ⟨e1, e2⟩
    have hn := valid_name hv (by rw [e1]; exact h1) (by rw [e1]; exact h2)
    have ht : T.mk k ⟨#[]⟩ xs = t := by
      obtain ⟨tk, ts, tks⟩ := t
      simp only [T.kind, T.kids, T.name] at e1 e2 hn
      rw [e1, e2, hn]
    unfold nrm
    rw [ht, if_pos hv, use_norm hu]
theorem kids2 {t : T} (h : t.kids.length = 2) {a b : T} : t.kids = [a, b] ↔ t.kid 0 = a ∧ t.kid 1 = b := by
  have e := T.two_kids h
  constructor
  · intro e2
    rw [e] at e2
    injection e2 with e3 e4; injection e4 with e4 _
    exact ⟨e3, e4⟩
  · rintro ⟨rfl, rfl⟩; exact e
theorem kids1 {t : T} (h : t.kids.length = 1) {a : T} : t.kids = [a] ↔ t.kid 0 = a := by
  obtain ⟨k, s, ks⟩ := t
  simp only [T.kids] at h ⊢
  match ks, h with
  | [x], _ => simp [T.kid, T.kids]
theorem two_len {t : T} (hu : t.use = true) (hk : t.kind = 3 ∨ t.kind = 5 ∨ t.kind = 6) : t.kids.length = 2 := by
  have hk' := T.shapeK (Bool.and_eq_true_iff.1 (T.use_valid hu)).2
  omega
theorem one_len {t : T} (hu : t.use = true) (hk : t.kind = 4) : t.kids.length = 1 := by
  have hk' := T.shapeK (Bool.and_eq_true_iff.1 (T.use_valid hu)).2
  omega
theorem two_made {t a b : T} (hu : t.use = true) (ha : a.use = true) (hb : b.use = true) {k : Int} (hk : k = 3 ∨ k = 5 ∨ k = 6) : madeB t k [a, b] = twoB t k a b := by
  rw [Bool.eq_iff_iff]
  unfold madeB twoB
  rw [sameB_iff, nrm_iff hu (by omega) (by omega) (by omega) (by simp [ha, hb]), bool_and3, decide_eq_true_eq, sameB_iff, sameB_iff]
  constructor
  · rintro ⟨e1, e2⟩
    exact ⟨e1, (kids2 (two_len hu (by omega))).1 e2⟩
  · rintro ⟨e1, e2⟩
    exact ⟨e1, (kids2 (two_len hu (by omega))).2 e2⟩
theorem hash_made {t a : T} (hu : t.use = true) (ha : a.use = true) : madeB t 4 [a] = kidB a t 4 0 := by
  rw [Bool.eq_iff_iff]
  unfold madeB kidB
  rw [sameB_iff, nrm_iff hu (by decide) (by decide) (by decide) (by simp [ha]), Bool.and_eq_true, decide_eq_true_eq, sameB_iff]
  constructor
  · rintro ⟨e1, e2⟩
    exact ⟨e1, (kids1 (one_len hu e1)).1 e2⟩
  · rintro ⟨e1, e2⟩
    exact ⟨e1, (kids1 (one_len hu e1)).2 e2⟩
theorem shape_seven_perm {s : ByteArray} {l m : List T} (h : l.Perm m) : (T.mk 7 s l).shape = (T.mk 7 s m).shape := by
  rw [T.shape_head 7 s l (by decide) (by decide), T.shape_head 7 s m (by decide) (by decide), T.headOk_perm h]
  congr 2
  rw [Bool.eq_iff_iff, List.any_eq_true, List.any_eq_true]
  exact ⟨fun ⟨t, h1, h2⟩ => ⟨t, h.mem_iff.1 h1, h2⟩, fun ⟨t, h1, h2⟩ => ⟨t, h.mem_iff.2 h1, h2⟩⟩
theorem sizeAll_perm {l m : List T} (h : l.Perm m) : T.sizeAll l = T.sizeAll m := by
  induction h with
  | nil => rfl
  | cons x _ ih => simp only [T.sizeAll, ih]
  | swap x y l => simp only [T.sizeAll]; omega
  | trans _ _ h1 h2 => exact h1.trans h2
theorem valid_seven_perm {l m : List T} (h : l.Perm m) : (T.mk 7 ⟨#[]⟩ l).valid = (T.mk 7 ⟨#[]⟩ m).valid := by
  unfold T.valid
  rw [shape_seven_perm h]
  simp only [T.size, sizeAll_perm h]
  rfl
/-- A usable power is what its exponents make, in whatever order. -/
theorem pow_iff {t : T} (hu : t.use = true) {xs : List T} (ha : ∀ a ∈ xs, a.norm = a) : t = nrm (.mk 7 ⟨#[]⟩ xs) ↔ t.kind = 7 ∧ xs.Perm t.kids := by
  have hv := T.use_valid hu
  have hna : T.normAll xs = xs := by
    rw [T.normAll_map]
    conv => rhs; rw [← List.map_id xs]
    exact List.map_congr_left fun a h => ha a h
  constructor
  · intro e
    unfold nrm at e
    split at e
    · rw [e]
      simp only [T.norm, if_pos]
      refine ⟨rfl, ?_⟩
      rw [hna]
      exact (T.isort_perm xs).symm
    · rw [e, nil_invalid] at hv; cases hv
  · rintro ⟨h7, hp⟩
    obtain ⟨u1, u2⟩ := use_up hu h7
    have ht : T.mk 7 ⟨#[]⟩ t.kids = t := by
      obtain ⟨tk, ts, tks⟩ := t
      simp only [T.kind, T.kids, T.name] at h7 u2 ⊢
      rw [h7, u2]
    have hvv : (T.mk 7 ⟨#[]⟩ xs).valid = true := by rw [valid_seven_perm hp, ht]; exact hv
    unfold nrm
    rw [if_pos hvv]
    simp only [T.norm, if_pos]
    rw [hna]
    have e : T.isort xs = t.kids := up_perm (T.isort_up xs) u1 ((T.isort_perm xs).trans hp)
    rw [e, ht]
theorem raise_made {t a : T} (hu : t.use = true) (ha : a.use = true) : (decide (a.kind = 1) && madeB t 7 [a]) = raiseB t a := by
  rw [Bool.eq_iff_iff]
  unfold madeB raiseB
  rw [Bool.and_eq_true, sameB_iff, pow_iff hu (by simp [use_norm ha]), bool_and3, Bool.and_eq_true, decide_eq_true_eq, decide_eq_true_eq, decide_eq_true_eq, sameB_iff]
  constructor
  · rintro ⟨e1, e2, e3⟩
    have e4 := List.perm_singleton.1 e3.symm
    exact ⟨e1, e2, by rw [e4]; rfl, (kids1 (by rw [e4]; rfl)).1 e4⟩
  · rintro ⟨e1, e2, e3, e4⟩
    exact ⟨e1, e2, by rw [(kids1 e3).2 e4]⟩
theorem raised_five {a b t : T} (hu : t.use = true) (h : ¬ a.kids.length < 4) : sameB (raisedT a b) t = false := by
  cases hs : sameB (raisedT a b) t with
  | false => rfl
  | true =>
    have e := sameB_iff.1 hs
    have hv := T.use_valid hu
    unfold raisedT nrm at e
    split at e
    · rename_i hx
      have hk := T.shapeK (Bool.and_eq_true_iff.1 hx).2
      have hl : (T.mk 7 ⟨#[]⟩ (a.kids ++ [b])).kids.length = a.kids.length + 1 := by simp [T.kids]
      have h7 : (T.mk 7 ⟨#[]⟩ (a.kids ++ [b])).kind = 7 := rfl
      omega
    · rw [← e, nil_invalid] at hv; cases hv
theorem pow_same {t a b : T} (hu : t.use = true) : (if a.kind = 7 ∧ b.kind = 1 then sameB t (raisedT a b) else false) = powB t a b := by
  unfold powB
  by_cases h : a.kind = 7 ∧ b.kind = 1
  · rw [if_pos h, decide_eq_true h.1, decide_eq_true h.2, Bool.true_and, Bool.true_and, sameB_comm]
    by_cases h4 : a.kids.length < 4
    · rw [decide_eq_true h4, Bool.true_and]
    · rw [raised_five hu h4]; simp
  · rw [if_neg h]
    by_cases h7 : a.kind = 7
    · rw [decide_eq_false (fun hb : b.kind = 1 => h ⟨h7, hb⟩)]; simp
    · rw [decide_eq_false h7]; rfl
theorem open_same (t a b : T) : (kidB t a 5 1 && sameB (a.kid 0) b) = openB t a b := by
  unfold kidB openB
  cases decide (a.kind = 5) <;> cases sameB (a.kid 0) b <;> cases sameB (a.kid 1) t <;> rfl
theorem known_same (K : List T) (t : T) : hasL (rfirst K) t = K.any fun x => sameB x t := by
  rw [Bool.eq_iff_iff, has_iff, List.any_eq_true]
  have := (first_facts K [] List.Pairwise.nil).2 t
  constructor
  · intro h
    have h' : t ∈ K := by rcases this.1 h with h' | h'; cases h'; exact h'
    exact ⟨t, h', sameB_iff.2 rfl⟩
  · rintro ⟨x, hx, e⟩
    rw [sameB_iff.1 e] at hx
    exact this.2 (.inr hx)
/-- One step. -/
theorem step_same {K : List T} {L : List Rsn} {i : Nat} (hi : i < L.length) (hp : ∀ j (h : j < L.length), j < i → L[j].t.use = true) : rightB oneF pairF K L i = rstepB K L i := by
  unfold rightB rstepB
  rw [List.getElem?_eq_getElem hi]
  simp only
  generalize hs : L[i] = s
  cases hu : s.t.use with
  | false => rfl
  | true =>
    simp only [Bool.true_and]
    cases ho : s.frm.any (offB i) with
    | true => simp
    | false =>
      have hat : ∀ x ∈ s.frm, (tAt L x).use = true := fun x hx => by
        have := List.any_eq_false.1 ho x hx
        obtain ⟨j, rfl, hj⟩ := off_false (by simpa using this)
        rw [t_at (by omega)]; exact hp j (by omega) hj
      obtain ⟨t, how, frm⟩ := s
      simp only [Bool.not_false, Bool.true_and] at hu hat ⊢
      match frm with
      | [] =>
        simp only [lastB, List.length_nil, List.map_nil]
        by_cases h1 : how = 1
        · subst h1
          simp [needsI, rrightB, known_same]
        · rw [decide_eq_false h1]
          have : ¬ needsI how = ((0 : Nat) : Int) := by
            unfold needsI
            rw [if_neg h1]
            split
            · decide
            · split <;> decide
          rw [decide_eq_false this]; simp
      | [x] =>
        have hx := hat x (by simp)
        simp only [lastB, List.length_singleton, List.map_cons, List.map_nil]
        by_cases h : how = 2 ∨ how = 3 ∨ how = 5 ∨ how = 7 ∨ how = 11
        · rcases h with rfl | rfl | rfl | rfl | rfl
          · simp [needsI, rrightB, oneF]
          · simp [needsI, rrightB, oneF]
          · simp [needsI, rrightB, oneF]
          · simp [needsI, rrightB, oneF, hash_made hu hx]
          · simp [needsI, rrightB, oneF, ← raise_made hu hx]
        · have : ¬ needsI how = ((1 : Nat) : Int) := by
            unfold needsI
            rw [if_neg h]
            split
            · decide
            · split <;> decide
          rw [decide_eq_false this, Bool.false_and]
          unfold oneF
          rw [if_neg (by omega), if_neg (by omega), if_neg (by omega), if_neg (by omega), if_neg (by omega)]
      | [x, y] =>
        have hx := hat x (by simp); have hy := hat y (by simp)
        simp only [lastB, List.map_cons, List.map_nil]
        by_cases h : how = 4 ∨ how = 6 ∨ how = 8 ∨ how = 9 ∨ how = 10
        · rcases h with rfl | rfl | rfl | rfl | rfl
          · simp [needsI, rrightB, pairF, open_same]
          · simp [needsI, rrightB, pairF, two_made hu hx hy]
          · simp [needsI, rrightB, pairF, two_made hu hx hy]
          · simp [needsI, rrightB, pairF, two_made hu hx hy]
          · have := pow_same (a := tAt L x) (b := tAt L y) hu
            simp only [needsI, rrightB, pairF]
            simpa using this.symm
        · have : ¬ needsI how = (([x, y].length : Nat) : Int) := by
            unfold needsI
            split
            · simp
            · split
              · simp
              · simp
          rw [decide_eq_false this, Bool.false_and]
          unfold pairF
          rw [if_neg (by omega), if_neg (by omega), if_neg (by omega), if_neg (by omega), if_neg (by omega)]
      | x :: y :: z :: r =>
        simp only [lastB]
        have : ¬ needsI how = (((x :: y :: z :: r).length : Nat) : Int) := by
          have hn : needsI how ≤ 2 := by
            unfold needsI
            split
            · decide
            · split
              · decide
              · split <;> decide
          simp only [List.length_cons]; omega
        rw [decide_eq_false this, Bool.false_and]
theorem all_same : ∀ (n : Nat) (p q : Nat → Bool), (∀ i, i < n → (∀ j, j < i → p j = true) → p i = q i) → (List.range n).all p = (List.range n).all q
  | 0, _, _, _ => rfl
  | n + 1, p, q, h => by
    have ih := all_same n p q fun i hi hj => h i (by omega) hj
    rw [List.range_succ, List.all_append, List.all_append, ih]
    cases ha : (List.range n).all q with
    | false => rfl
    | true =>
      rw [ha] at ih
      have := h n (Nat.lt_succ_self _) fun j hj => List.all_eq_true.1 ih j (List.mem_range.2 hj)
      simp [this]
theorem right_use {K : List T} {L : List Rsn} {i : Nat} (h : rightB oneF pairF K L i = true) (hi : i < L.length) : L[i].t.use = true := by
  unfold rightB at h
  rw [List.getElem?_eq_getElem hi] at h
  exact (Bool.and_eq_true_iff.1 h).1
/-- The program's check and the reference's. -/
theorem chk_same (K : List T) (L : List Rsn) : chkB oneF pairF K L = rchkB K L := by
  unfold chkB rchkB
  congr 2
  exact all_same _ _ _ fun i hi hj => step_same hi fun j hjl hji => right_use (hj j hji) hjl
end Go.Proofs.YtihbmgkbipeakaaGreat

namespace Go.Proofs.YtihbmgkbipeakaaGreat
open Go.RowKit

set_option maxRecDepth 100000 in
set_option maxHeartbeats 4000000 in
theorem rhasT {L : List T} {A : Option Addr} {cap : Nat} {t : T} {v : Value} (w : World) (h : KnownAt w A cap L) (hT : TermAt w v t) (hb : ∀ x ∈ L, x.bulk ≤ 1048576) (hbt : t.bulk ≤ 1048576) :
    Calls Tryz.prog 90 #[.slice A L.length cap, v] w fun e w' => e = .returned (.bool (hasL L t)) ∧ Below w.heap.size w w' := by
  obtain ⟨At, ct, rfl⟩ := hT.inAll.view
  have hw := below_alloc1 w (.cells #[.int .i64 t.kind, .string t.name, .slice At t.kids.length ct] 29)
  have bx := Box.new w (.int .i64 t.kind) (.string t.name) (.slice At t.kids.length ct)
  have HK := Lib.hid (h.later hw); have HT := Lib.hid (hT.later hw); have HW := Lib.hid hw; have HBK := Lib.hid hb
  have hcap := h.cap_le
  unfold maxLen at hcap
  clear h hT hw hb
  go_enter Tryz.func90, Tryz.ntmps90
  go_upto_region 1 with fail
  generalize w.alloc (.cells #[.int .i64 t.kind, .string t.name, .slice At t.kids.length ct] 29) = w1 at bx HK HT HW ⊢
  have BX := Lib.hid bx
  clear bx
  go_upto_region 2 with fail
  go_loopw [5] (fun s5 wr => ∃ j : Nat, j ≤ L.length ∧ s5 = .int .i64 j ∧ (∀ i (hi : i < L.length), i < j → T.cmp L[i] t ≠ 0) ∧ Below w1.heap.size w1 wr) (fun s5 _ => L.length - (intOf s5).toNat)
  case atStart => exact ⟨0, Nat.zero_le _, rfl, fun i _ h => absurd h (by omega), Below.refl _ _⟩
  case round =>
    obtain ⟨j, hj, rfl, hz, hbw⟩ := hrel
    have HZ := Lib.hid hz; have HBW := Lib.hid hbw
    clear hz
    by_cases hlt : j < L.length
    · have hi1 : (0 : Int) ≤ (j : Int) ∧ (j : Int) < (L.length : Int) := by omega
      obtain ⟨hi1, hi2⟩ := hi1
      obtain ⟨b, off, A1, c1, rfl, d0, d1, d2, hu⟩ := (HK.out.later hbw).get hlt
      obtain ⟨x0, x1, x2⟩ := (BX.out.later hbw).cells
      have HLT := Lib.hid hlt
      have hbx := HBK.out (L[j]'(hlt)) (List.getElem_mem hlt)
      obtain ⟨y, hy⟩ : ∃ y, L[j]'(hlt) = y := ⟨_, rfl⟩
      have HY := Lib.hid hy
      rw [hy] at d0 d1 d2 hu hbx
      have HU := Lib.hid hu; have HTr := Lib.hid (HT.out.later hbw)
      have HS := Lib.hid (fun v v' W' (h1 : TermAt W' v y) (h2 : TermAt W' v' t) => rsame y t v v' W' h1 h2 hbx hbt)
      obtain ⟨q, hq⟩ : ∃ q, decide (T.cmp y t = 0) = q := ⟨_, rfl⟩
      rw [hq] at HS
      have HQ := Lib.hid hq
      clear hu hy hbw hbx hq
      go_upto_region 4 with fail
      (refine wp_region_held_drew (S := (fun Wq => Wq.cell? ⟨b, off + j * 3, none⟩ = some (.int .i64 y.kind) ∧ Wq.cell? ⟨b, off + j * 3 + 1, none⟩ = some (.string y.name) ∧ Wq.cell? ⟨b, off + j * 3 + 2, none⟩ = some (.slice A1 y.kids.length c1) ∧ Wq.cell? ⟨w.heap.size, 0, none⟩ = some (.int .i64 t.kind) ∧ Wq.cell? ⟨w.heap.size, 1, none⟩ = some (.string t.name) ∧ Wq.cell? ⟨w.heap.size, 2, none⟩ = some (.slice At t.kids.length ct) ∧ Below wr.heap.size wr Wq)) (by kernel_rfl) (show _ ∧ _ ∧ _ ∧ _ ∧ _ ∧ _ ∧ _ from ⟨d0, d1, d2, x0, x1, x2, (Below.refl _ wr).drew⟩) (fun hHeld => ?_))
      (refine tkJ 0 _ (h := ?_))
      (refine tkJ 1 _ (h := ?_))
      (refine tkJ 2 _ (h := ?_))
      (refine tkJ 3 _ (h := ?_))
      (refine tkJ 4 _ (h := ?_))
      (refine rdJ 5 (h := fun K hK => ?_); go_simp; go_at_call 25; refine (HS.out _ _ _ (HU.out.later hHeld.2.2.2.2.2.2) (HTr.out.later hHeld.2.2.2.2.2.2)).mono ?_; rintro e wz ⟨rfl, hb4⟩; refine shK hK (⟨cell_later hb4 hHeld.1, cell_later hb4 hHeld.2.1, cell_later hb4 hHeld.2.2.1, cell_later hb4 hHeld.2.2.2.1, cell_later hb4 hHeld.2.2.2.2.1, cell_later hb4 hHeld.2.2.2.2.2.1, hHeld.2.2.2.2.2.2.trans (hb4.mono hHeld.2.2.2.2.2.2.size)⟩) (h := fun hHeld => ?_); clear hK K)
      (refine wpAnyH_done (by kernel_rfl) ?_ _)
      cases q with
      | true =>
        go_wp2_with fail
        go_ret
        refine ⟨ret_bool ?_, HW.out.trans ((HBW.out.trans (hHeld.2.2.2.2.2.2.mono HBW.out.size)).mono HW.out.size)⟩
        exact (has_iff.2 (by have := T.cmp_eq _ _ (of_decide_eq_true HQ.out); rw [← this, ← HY.out]; exact List.getElem_mem _)).symm
      | false =>
        go_wp2_with fail
        go_roundw
        case rel =>
          refine ⟨j + 1, HLT.out, by go_num, fun i hi hij => ?_, HBW.out.trans (hHeld.2.2.2.2.2.2.mono HBW.out.size)⟩
          by_cases e : i = j
          · subst e; rw [HY.out]; exact of_decide_eq_false HQ.out
          · exact HZ.out i hi (by omega)
        case measure => have := HLT.out; simp [intOf]; omega
    · go_wp2_with fail
      go_ret
      refine ⟨ret_bool ?_, HW.out.trans (HBW.out.mono HW.out.size)⟩
      symm
      cases hh : hasL L t with
      | false => rfl
      | true =>
        obtain ⟨i, hi, e⟩ := List.getElem_of_mem (has_iff.1 hh)
        exact absurd (by rw [e, T.cmp_self]) (HZ.out i hi (by omega))
end Go.Proofs.YtihbmgkbipeakaaGreat

namespace Go.Proofs.YtihbmgkbipeakaaGreat
open Go.RowKit

set_option maxRecDepth 100000 in
set_option maxHeartbeats 4000000 in
theorem rfit (t : T) (v : Value) (w : World) (ht : TermAt w v t) (hbk : t.bulk ≤ 1048576) :
    Calls Tryz.prog 41 #[v] w fun e w' => e = .returned (.bool t.use) ∧ Below w.heap.size w w' := by
  have HG := Lib.hid (fun v' W hW => rground t v' W hW hbk)
  have HI := Lib.hid (fun v' W hW => rproper t v' W hW hbk)
  have h1 := use_f (t := t)
  have h2 := use_t (t := t)
  obtain ⟨q, hq⟩ : ∃ q, t.use = q := ⟨_, rfl⟩
  rw [hq] at h1 h2 ⊢
  generalize t.ground = p at h1 h2 HG
  generalize t.isN = r at h2 HI
  have H1 := Lib.hid h1; have H2 := Lib.hid h2
  clear h1 h2 hq
  cases ht with
  | mk k s A cap ks U h1 h2 h3 h4 hA hU =>
  have ht := TermAt.mk k s A cap ks U h1 h2 h3 h4 hA hU
  go_enter Tryz.func41, Tryz.ntmps41
  go_upto_region 1 with fail
  have bx := Box.new w (.int .i64 k) (.string s) (.slice A ks.length cap)
  have hw := below_alloc1 w (.cells #[.int .i64 k, .string s, .slice A ks.length cap] 29)
  have HT := Lib.hid (ht.later hw); have HW := Lib.hid hw
  clear ht hA hU hw
  generalize w.alloc (.cells #[.int .i64 k, .string s, .slice A ks.length cap] 29) = w1 at bx HT HW ⊢
  obtain ⟨x0, x1, x2⟩ := bx.cells
  have BX := Lib.hid bx
  clear bx
  go_wp2_with fail
  refine (HG.out _ _ HT.out).mono ?_; rintro e w2 ⟨rfl, hb2⟩
  have HB := Lib.hid (HW.out.trans (hb2.mono HW.out.size))
  have HT2 := Lib.hid (HT.out.later hb2)
  obtain ⟨y0, y1, y2⟩ := (BX.out.later hb2).cells
  clear hb2 x0 x1 x2
  cases p with
  | false =>
    go_wp2_with fail
    go_ret
    exact ⟨ret_bool (H1.out trivial).symm, HB.out⟩
  | true =>
    go_wp2_with fail
    refine (HI.out _ _ HT2.out).mono ?_; rintro e w3 ⟨rfl, hb3⟩
    have HB3 := Lib.hid (HB.out.trans (hb3.mono HB.out.size))
    clear hb3
    go_wp2_with fail
    go_ret
    exact ⟨ret_bool (H2.out trivial).symm, HB3.out⟩

end Go.Proofs.YtihbmgkbipeakaaGreat

namespace Go.Proofs.YtihbmgkbipeakaaGreat
open Go.RowKit

end Go.Proofs.YtihbmgkbipeakaaGreat

namespace Go.Proofs.YtihbmgkbipeakaaGreat
open Go.RowKit

/-- A row of the call's own whose terms lie in memory from before, as a list of terms. -/
theorem KnownAt.of_own {w w8 : World} {B n8 c8 : Nat} {A8 : Option Addr} {xs : List Value} {L : List T} (hown : w8.ownsRow B 29 3 (.slice A8 n8 c8) n8 xs) (hb : Below w.heap.size w w8) (hc : CT (fun _ => true) w xs L) : n8 = L.length ∧ KnownAt w8 A8 c8 L := by
  have hl := hown.1
  have hl2 := hc.1
  obtain rfl : n8 = L.length := by omega
  refine ⟨rfl, ?_⟩
  rcases Nat.eq_zero_or_pos L.length with h0 | h0
  · have e : L = [] := List.eq_nil_of_length_eq_zero h0
    subst e
    refine TermAt.mk 0 ⟨#[]⟩ A8 c8 [] (fun _ => (undef, undef, undef)) (by decide) (by decide) (Nat.zero_le _) ?_ (.inl rfl) (fun i h => by simp at h)
    rcases hown.2 with ⟨e, _⟩ | ⟨g, cap', cur, e, _, _, hc, hm, _⟩
    · injection e with _ _ e; subst e; exact Nat.zero_le _
    · injection e with _ _ e; subst e; exact hm
  · have hct := hc.keep (w' := w8) (S' := fun _ => true) fun b _ hl => ⟨rfl, hb.block b hl⟩
    obtain ⟨b, cap, e, _⟩ := hown.form h0
    injection e with e1 e2 e3
    subst e1; subst e3
    have hcc : L.length ≤ c8 ∧ c8 ≤ maxLen := by
      rcases hown.2 with ⟨e, _⟩ | ⟨g, cap', cur, e, _, _, hc, hm, _⟩
      · injection e with e _ _; cases e
      · injection e with _ _ e
        subst e; exact ⟨hc, hm⟩
    exact (CT.term (b := b) hct (fun j u hu => by
      have hj := (List.getElem?_eq_some_iff.1 hu).1
      rw [hown.cellAt j (by omega)]; exact hu) rfl 0 ⟨#[]⟩ (by decide) (by decide) hcc.1 hcc.2).at
/-- A list's cells as the source of an append, whatever its length. -/
theorem KnownAt.src' {w : World} {A : Option Addr} {cap : Nat} {L : List T} (h : KnownAt w A cap L) : ∃ xs, Src w 3 A L.length xs ∧ CT (fun _ => true) w xs L ∧ ∀ u ∈ xs, u.oneCell' = true := by
  rcases Nat.eq_zero_or_pos L.length with h0 | h0
  · have e : L = [] := List.eq_nil_of_length_eq_zero h0
    subst e
    exact ⟨[], Src.none_ _ _ _, CT.nil _ _, fun u hu => by simp at hu⟩
  · obtain ⟨b, off, _, _, rfl, _⟩ := h.get (i := 0) h0
    obtain ⟨xs, h1, h2⟩ := CT.of_term (TermAt.inAll h)
    exact ⟨xs, ⟨h1.1, .inr ⟨b, off, rfl, h2⟩⟩, h1.keep (fun _ _ _ => ⟨rfl, rfl⟩), h1.one'⟩
theorem Src.take {w : World} {size n k : Nat} {A : Option Addr} {xs : List Value} (h : Src w size A n xs) (hk : k ≤ n) : Src w size A k (xs.take (k * size)) := by
  refine ⟨by rw [List.length_take, h.1]; exact Nat.min_eq_left (Nat.mul_le_mul_right _ hk), ?_⟩
  rcases h.2 with h0 | ⟨g, off, e, hc⟩
  · exact .inl (by omega)
  · refine .inr ⟨g, off, e, fun j u hu => hc j u ?_⟩
    rw [List.getElem?_take] at hu
    split at hu
    · exact hu
    · cases hu
theorem own_made_below {w w7 : World} {e : TypeId} (hg : (w.alloc (.cells #[] e)).grownBy w7 (some w.heap.size)) : Below w.heap.size w w7 :=
  (below_alloc1 w _).grown hg (by rw [size_alloc1]; omega) (fun b h => by have e : w.heap.size = b := Option.some.inj h; omega)
theorem size_alloc_le {w w7 : World} {o : Obj} (h : Below w.heap.size w w7) : w.heap.size ≤ (w7.alloc o).heap.size := by rw [size_alloc1]; have := h.size; omega
theorem own_push_below {w w7 w8 : World} {o : Obj} {row : Option Nat} (h : Below w.heap.size w w7) (hl : ∀ b, row = some b → w.heap.size ≤ b ∧ b < w7.heap.size) (hg : (w7.alloc o).grownBy w8 row) : Below w.heap.size w w8 :=
  (h.trans ((below_alloc1 w7 o).mono h.size)).grown hg (size_alloc_le h) (fun b hb => (hl b hb).1)
theorem CT.of_term1 {w : World} {t : T} {A : Option Addr} {c : Nat} (h : TermAt w (.agg #[.int .i64 t.kind, .string t.name, .slice A t.kids.length c]) t) : CT (fun _ => true) w [.int .i64 t.kind, .string t.name, .slice A t.kids.length c] [t] :=
  CT.one (h.inAll.keep fun _ _ _ => ⟨rfl, rfl⟩)
/-- What Put leaves. -/
def PutT (L : List T) (w : World) (e : Ending) (w' : World) : Prop := ∃ A' cap', e = .returned (.slice A' L.length cap') ∧ KnownAt w' A' cap' L ∧ Below w.heap.size w w'

set_option maxRecDepth 100000 in
set_option maxHeartbeats 8000000 in
theorem rputT {L : List T} {A : Option Addr} {cap : Nat} {t : T} {v : Value} (w : World) (h : KnownAt w A cap L) (hT : TermAt w v t) (hb : ∀ x ∈ L, x.bulk ≤ 1048576) (hbt : t.bulk ≤ 1048576) (hlen : L.length ≤ 1073741824) :
    Calls Tryz.prog 45 #[.slice A L.length cap, v] w (PutT (putL L t) w) := by
  obtain ⟨i0, hi0, hz0, hz1, hz2⟩ := info_parts Tryz.infoT
  obtain ⟨At, ct, rfl⟩ := hT.inAll.view
  have hw := below_alloc1 w (.cells #[.int .i64 t.kind, .string t.name, .slice At t.kids.length ct] 29)
  have bx := Box.new w (.int .i64 t.kind) (.string t.name) (.slice At t.kids.length ct)
  have HK := Lib.hid (h.later hw); have HT := Lib.hid (hT.later hw); have HW := Lib.hid hw; have HBK := Lib.hid hb
  have hcap := h.cap_le
  have HCAP := Lib.hid hcap
  unfold maxLen at hcap
  have hcap1 : (L.length : Int) ≤ (cap : Int) := by omega
  clear h hT hw hb
  go_enter Tryz.func45, Tryz.ntmps45
  go_upto_region 1 with fail
  generalize w.alloc (.cells #[.int .i64 t.kind, .string t.name, .slice At t.kids.length ct] 29) = w1 at bx HK HT HW ⊢
  have BX := Lib.hid bx
  clear bx
  go_upto_block 0 with fail
  go_cut [5] from 9 to 30 (fun s5 wr => ∃ k : Nat, k ≤ L.length ∧ s5 = .int .i64 k ∧ scanL L t L.length = some k ∧ Below w1.heap.size w1 wr)
  case first =>
    obtain ⟨R, hR⟩ : ∃ R, scanL L t L.length = R := ⟨_, rfl⟩
    have HR := Lib.hid hR
    clear hR
    go_wp2_with fail
    go_loopw [5] (fun s5 wr => ∃ k : Nat, k ≤ L.length ∧ s5 = .int .i64 k ∧ scanL L t k = R ∧ Below w1.heap.size w1 wr) (fun s5 _ => (intOf s5).toNat)
    case atStart => exact ⟨L.length, Nat.le_refl _, rfl, HR.out, Below.refl _ _⟩
    case round =>
      obtain ⟨k, hk, rfl, hs, hbw⟩ := hrel
      have HS := Lib.hid hs; have HBW := Lib.hid hbw
      clear hs
      by_cases hk0 : k = 0
      · have hi : ¬ 0 < k := by omega
        have HK0 := Lib.hid hk0
        clear hk0
        go_upto_region 2 with fail
        (refine wp_region_held_drew (S := (fun Wq => Below wr.heap.size wr Wq)) (by kernel_rfl) ((Below.refl _ wr).drew) (fun hHeld => ?_))
        (refine tkJ 0 _ (h := ?_))
        (refine tkJ 1 _ (h := ?_))
        (refine tkJ 2 _ (h := ?_))
        (first | (refine tkJ 3 _ (h := ?_)) | (refine tkM 3 (h := ?_)))
        (first | (refine tkJ 4 _ (h := ?_)) | (refine tkM 4 (h := ?_)))
        (first | (refine tkJ 5 _ (h := ?_)) | (refine tkM 5 (h := ?_)))
        (first | (refine tkJ 6 _ (h := ?_)) | (refine tkM 6 (h := ?_)))
        (first | (refine tkJ 7 _ (h := ?_)) | (refine tkM 7 (h := ?_)))
        (first | (refine tkJ 8 _ (h := ?_)) | (refine tkM 8 (h := ?_)))
        (first | (refine tkJ 9 _ (h := ?_)) | (refine tkM 9 (h := ?_)))
        (first | (refine tkJ 10 _ (h := ?_)) | (refine tkM 10 (h := ?_)))
        (refine tkJ 11 _ (h := ?_))
        (refine wpAnyH_done (by kernel_rfl) ?_ _)
        go_wp2_with fail
        go_meet
        exact ⟨k, hk, rfl, by rw [HR.out, ← HS.out, HK0.out]; rfl, HBW.out.trans (hHeld.mono HBW.out.size)⟩
      · obtain ⟨j, hkj⟩ : ∃ j, k = j + 1 := ⟨k - 1, by omega⟩
        have hlt : j < L.length := by omega
        have hi : 0 < k := by omega
        have hwr : IntKind.i64.wrap ((k : Int) - 1) = (j : Int) := by rw [IntWalk.i64_in _ (by omega)]; omega
        have HKJ := Lib.hid hkj
        have hi1 : (0 : Int) ≤ (j : Int) ∧ (j : Int) < (L.length : Int) := by omega
        obtain ⟨hi1, hi2⟩ := hi1
        obtain ⟨b, off, A1, c1, rfl, d0, d1, d2, hu⟩ := (HK.out.later hbw).get hlt
        obtain ⟨x0, x1, x2⟩ := (BX.out.later hbw).cells
        have HLT := Lib.hid hlt
        have hbx := HBK.out (L[j]'(hlt)) (List.getElem_mem hlt)
        have hsc : scanL L t (j + 1) = if 0 ≤ T.cmp (L[j]'(hlt)) t then (if T.cmp (L[j]'(hlt)) t = 0 then none else scanL L t j) else some (j + 1) := by
          show (if 0 ≤ T.cmp (L.getD j T.nil_) t then _ else _) = _
          rw [getD_at hlt]
        rw [← hkj, HS.out] at hsc
        generalize L[j]'(hlt) = y at d0 d1 d2 hu hbx hsc
        have HU := Lib.hid hu; have HTr := Lib.hid (HT.out.later hbw)
        have HC := Lib.hid (fun v v' W' (h1 : TermAt W' v y) (h2 : TermAt W' v' t) => rcmp (y.bulk + 1) y t v v' W' (by omega) h1 h2 hbx hbt)
        have HM := Lib.hid (fun v v' W' (h1 : TermAt W' v y) (h2 : TermAt W' v' t) => rsame y t v v' W' h1 h2 hbx hbt)
        obtain ⟨q, hq⟩ : ∃ q, T.cmp y t = q := ⟨_, rfl⟩
        have hqv := T.cmp_vals y t
        rw [hq] at HC HM hqv hsc
        have HSC := Lib.hid hsc
        clear hu hbw hbx hq hsc hk0 hkj
        go_upto_region 2 with fail
        (refine wp_region_held_drew (S := (fun Wq => Wq.cell? ⟨b, off + j * 3, none⟩ = some (.int .i64 y.kind) ∧ Wq.cell? ⟨b, off + j * 3 + 1, none⟩ = some (.string y.name) ∧ Wq.cell? ⟨b, off + j * 3 + 2, none⟩ = some (.slice A1 y.kids.length c1) ∧ Wq.cell? ⟨w.heap.size, 0, none⟩ = some (.int .i64 t.kind) ∧ Wq.cell? ⟨w.heap.size, 1, none⟩ = some (.string t.name) ∧ Wq.cell? ⟨w.heap.size, 2, none⟩ = some (.slice At t.kids.length ct) ∧ Below wr.heap.size wr Wq)) (by kernel_rfl) (show _ ∧ _ ∧ _ ∧ _ ∧ _ ∧ _ ∧ _ from ⟨d0, d1, d2, x0, x1, x2, (Below.refl _ wr).drew⟩) (fun hHeld => ?_))
        (refine tkJ 0 _ (h := ?_))
        (refine tkJ 1 _ (h := ?_))
        (refine tkJ 2 _ (h := ?_))
        (first | (refine tkJ 3 _ (h := ?_)) | (refine tkM 3 (h := ?_)))
        (first | (refine tkJ 4 _ (h := ?_)) | (refine tkM 4 (h := ?_)))
        (first | (refine tkJ 5 _ (h := ?_)) | (refine tkM 5 (h := ?_)))
        (first | (refine tkJ 6 _ (h := ?_)) | (refine tkM 6 (h := ?_)))
        (first | (refine tkJ 7 _ (h := ?_)) | (refine tkM 7 (h := ?_)))
        (first | (refine tkJ 8 _ (h := ?_)) | (refine tkM 8 (h := ?_)))
        (refine rdJ 9 (h := fun K hK => ?_); go_simp; go_at_call 56; refine (HC.out _ _ _ (HU.out.later hHeld.2.2.2.2.2.2) (HTr.out.later hHeld.2.2.2.2.2.2)).mono ?_; rintro e wz ⟨rfl, hb4⟩; refine shK hK (held6 hHeld hb4) (h := fun hHeld => ?_); clear hK K)
        (first | (refine tkJ 10 _ (h := ?_)) | (refine tkM 10 (h := ?_)))
        (refine tkJ 11 _ (h := ?_))
        (refine wpAnyH_done (by kernel_rfl) ?_ _)
        obtain ⟨d0, d1, d2, x0, x1, x2, hb2⟩ := hHeld
        have HB2 := Lib.hid (HBW.out.trans (hb2.mono HBW.out.size)); have HU2 := Lib.hid (HU.out.later hb2); have HTr2 := Lib.hid (HTr.out.later hb2)
        clear hb2
        rcases hqv with rfl | rfl | rfl
        · have HE := Lib.hid (show R = some k by rw [HSC.out]; rfl)
          go_wp2_with fail
          go_meet
          exact ⟨k, hk, rfl, by rw [HR.out, HE.out], HB2.out⟩
        · have HE := Lib.hid (show R = none by rw [HSC.out]; rfl)
          replace HM := Lib.hid (show ∀ v v' W', TermAt W' v y → TermAt W' v' t → Calls Tryz.prog 25 #[v, v'] W' fun e w' => e = .returned (.bool true) ∧ Below W'.heap.size W' w' from HM.out)
          go_upto_region 3 with fail
          (refine wp_region_held_drew (S := (fun Wq => Wq.cell? ⟨b, off + j * 3, none⟩ = some (.int .i64 y.kind) ∧ Wq.cell? ⟨b, off + j * 3 + 1, none⟩ = some (.string y.name) ∧ Wq.cell? ⟨b, off + j * 3 + 2, none⟩ = some (.slice A1 y.kids.length c1) ∧ Wq.cell? ⟨w.heap.size, 0, none⟩ = some (.int .i64 t.kind) ∧ Wq.cell? ⟨w.heap.size, 1, none⟩ = some (.string t.name) ∧ Wq.cell? ⟨w.heap.size, 2, none⟩ = some (.slice At t.kids.length ct) ∧ Below wz.heap.size wz Wq)) (by kernel_rfl) (show _ ∧ _ ∧ _ ∧ _ ∧ _ ∧ _ ∧ _ from ⟨d0, d1, d2, x0, x1, x2, (Below.refl _ wz).drew⟩) (fun hHeld => ?_))
          (refine tkJ 0 _ (h := ?_))
          (refine tkJ 1 _ (h := ?_))
          (refine tkJ 2 _ (h := ?_))
          (refine tkJ 3 _ (h := ?_))
          (refine tkJ 4 _ (h := ?_))
          (refine tkJ 5 _ (h := ?_))
          (refine rdJ 6 (h := fun K hK => ?_); go_simp; go_at_call 25; refine (HM.out _ _ _ (HU2.out.later hHeld.2.2.2.2.2.2) (HTr2.out.later hHeld.2.2.2.2.2.2)).mono ?_; rintro e wz ⟨rfl, hb4⟩; refine shK hK (held6 hHeld hb4) (h := fun hHeld => ?_); clear hK K)
          (refine wpAnyH_done (by kernel_rfl) ?_ _)
          go_wp2_with fail
          go_ret
          have e : putL L t = L := by unfold putL; rw [HR.out, HE.out]
          rw [e]
          exact ⟨_, _, rfl, HK.out.later (HB2.out.trans (hHeld.2.2.2.2.2.2.mono HB2.out.size)), HW.out.trans ((HB2.out.trans (hHeld.2.2.2.2.2.2.mono HB2.out.size)).mono HW.out.size)⟩
        · have HE := Lib.hid (show scanL L t j = R by rw [HSC.out]; rfl)
          replace HM := Lib.hid (show ∀ v v' W', TermAt W' v y → TermAt W' v' t → Calls Tryz.prog 25 #[v, v'] W' fun e w' => e = .returned (.bool false) ∧ Below W'.heap.size W' w' from HM.out)
          go_upto_region 3 with fail
          (refine wp_region_held_drew (S := (fun Wq => Wq.cell? ⟨b, off + j * 3, none⟩ = some (.int .i64 y.kind) ∧ Wq.cell? ⟨b, off + j * 3 + 1, none⟩ = some (.string y.name) ∧ Wq.cell? ⟨b, off + j * 3 + 2, none⟩ = some (.slice A1 y.kids.length c1) ∧ Wq.cell? ⟨w.heap.size, 0, none⟩ = some (.int .i64 t.kind) ∧ Wq.cell? ⟨w.heap.size, 1, none⟩ = some (.string t.name) ∧ Wq.cell? ⟨w.heap.size, 2, none⟩ = some (.slice At t.kids.length ct) ∧ Below wz.heap.size wz Wq)) (by kernel_rfl) (show _ ∧ _ ∧ _ ∧ _ ∧ _ ∧ _ ∧ _ from ⟨d0, d1, d2, x0, x1, x2, (Below.refl _ wz).drew⟩) (fun hHeld => ?_))
          (refine tkJ 0 _ (h := ?_))
          (refine tkJ 1 _ (h := ?_))
          (refine tkJ 2 _ (h := ?_))
          (refine tkJ 3 _ (h := ?_))
          (refine tkJ 4 _ (h := ?_))
          (refine tkJ 5 _ (h := ?_))
          (refine rdJ 6 (h := fun K hK => ?_); go_simp; go_at_call 25; refine (HM.out _ _ _ (HU2.out.later hHeld.2.2.2.2.2.2) (HTr2.out.later hHeld.2.2.2.2.2.2)).mono ?_; rintro e wz ⟨rfl, hb4⟩; refine shK hK (held6 hHeld hb4) (h := fun hHeld => ?_); clear hK K)
          (refine wpAnyH_done (by kernel_rfl) ?_ _)
          go_wp2_with fail
          go_roundw
          case rel => exact ⟨j, Nat.le_of_lt HLT.out, rfl, HE.out, HB2.out.trans (hHeld.2.2.2.2.2.2.mono HB2.out.size)⟩
          case measure => have := HKJ.out; simp [intOf]; omega
  case rest =>
    obtain ⟨k, hk, rfl, hs, hbw⟩ := hcut
    obtain ⟨wr, rfl⟩ : ∃ wr : World, wr = wc := ⟨_, rfl⟩
    have HPL := Lib.hid (show putL L t = (L.take k ++ [t]) ++ L.drop k by unfold putL; rw [hs])
    have HBW := Lib.hid hbw
    obtain ⟨xs, hsrc, hct, hone⟩ := HK.out.src'
    have hct2 := (((hct.take k).append (CT.of_term1 HT.out)).append (hct.drop k)).keep (w' := wr) (S' := fun _ => true) fun b _ hl => ⟨rfl, hbw.block b hl⟩
    have HCT := Lib.hid hct2
    have hsr := hsrc.later hbw
    have HO1 := Lib.hid (show ∀ u ∈ xs.take (k * 3), u.oneCell' = true from fun u hu => hone u (List.mem_of_mem_take hu))
    have HO3 := Lib.hid (show ∀ u ∈ xs.drop (k * 3), u.oneCell' = true from fun u hu => hone u (List.mem_of_mem_drop hu))
    have HO2 := Lib.hid (show ∀ u ∈ [Value.int .i64 t.kind, .string t.name, .slice At t.kids.length ct], u.oneCell' = true from fun u hu => by simp at hu; rcases hu with rfl | rfl | rfl <;> rfl)
    have HS1 := Lib.hid (hsr.take hk)
    have hs3 := hsr.cut hk hcap.1
    have b1 : (0 : Int) ≤ (k : Int) := by omega
    have b2 : (k : Int) ≤ (cap : Int) := by omega
    have b3 : (k : Int) ≤ (L.length : Int) := by omega
    have HE := Lib.hid (World.ownsRow_made (size := 3) (e := 29) wr #[] 0 (base := wr.heap.size) (Nat.le_refl _) (Nat.zero_le _) rfl)
    have BXr := Lib.hid (BX.out.later hbw)
    have HFIN := Lib.hid (fun n9 A9 c9 w9 (hown : w9.ownsRow wr.heap.size 29 3 (.slice A9 n9 c9) n9 ((xs.take (k * 3) ++ [Value.int .i64 t.kind, .string t.name, .slice At t.kids.length ct]) ++ xs.drop (k * 3))) (hb9 : Below wr.heap.size wr w9) => (show PutT (putL L t) w (.returned (.slice A9 n9 c9)) w9 from by
      obtain ⟨e, hk9⟩ := KnownAt.of_own hown hb9 HCT.out
      rw [HPL.out]
      exact ⟨A9, c9, by rw [e], hk9, HW.out.trans ((HBW.out.trans (hb9.mono HBW.out.size)).mono HW.out.size)⟩))
    clear hs hbw hsrc hct hct2 hone hsr
    by_cases hck : cap = k
    · have hck' : (cap : Int) = (k : Int) := by omega
      rw [if_pos hck] at hs3
      have HS3 := Lib.hid hs3
      clear hs3
      go_wp2_with (first | (at_builtin; refine wpList_append_src _ rfl (.tmp 31) (.tmp 34) 27 rfl wr.heap.size 29 i0 _ 3 48 Tryz.underlying27 hi0 hz0 hz1 hz2 rfl (by omega) _ 0 [] rfl HE.out _ k _ _ rfl (HS1.out.later (below_alloc1 wr _)) HO1.out (by unfold maxLen; omega) (by omega) (by rw [size_alloc1]; omega) ?_; intro A7 c7 w7 hown7 hg7 hat7; simp only [Nat.zero_add, List.nil_append] at hown7 hg7 hat7 ⊢; have hb7 := own_made_below hg7; obtain ⟨x0, x1, x2⟩ := (BXr.out.later hb7).cells) | (at_builtin; refine wpList_append_src _ rfl (.tmp 36) (.tmp 38) 27 rfl wr.heap.size 29 i0 _ 3 48 Tryz.underlying27 hi0 hz0 hz1 hz2 rfl (by omega) _ k _ rfl (own_later hown7 (below_alloc1 w7 _)) _ 1 1 [.int .i64 t.kind, .string t.name, .slice At t.kids.length ct] rfl (Src.newsU _ _ _ 3 rfl) HO2.out (by unfold maxLen; omega) (by omega) (size_alloc_le hb7) ?_; intro A8 c8 w8 hown8 hg8 hat8; have hb8 := own_push_below hb7 hown7.lt hg8) | (at_builtin; refine wpList_append_src _ rfl (.tmp 40) (.tmp 43) 27 rfl wr.heap.size 29 i0 _ 3 48 Tryz.underlying27 hi0 hz0 hz1 hz2 rfl (by omega) _ (k + 1) _ rfl hown8 _ (L.length - k) _ _ rfl (HS3.out.later hb8) HO3.out (by unfold maxLen; omega) (by omega) (show _ ≤ w8.heap.size from hb8.size) ?_; intro A9 c9 w9 hown9 hg9 hat9))
      have hfin := HFIN.out _ A9 c9 w9 hown9 (hb8.grown hg9 (show _ ≤ w8.heap.size from hb8.size) (fun b hb => (hown8.lt b hb).1))
      have HFIN2 := Lib.hid hfin
      clear hfin hown7 hg7 hat7 hb7 hown8 hg8 hat8 hb8 hown9 hg9 hat9 HFIN
      go_ret
      exact HFIN2.out
    · have hck' : ¬ (cap : Int) = (k : Int) := by omega
      rw [if_neg hck] at hs3
      rcases A with _ | ⟨bA, oA, sA⟩
      · simp only [Option.map_none] at hs3
        have HS3 := Lib.hid hs3
        clear hs3
        go_wp2_with (first | (at_builtin; refine wpList_append_src _ rfl (.tmp 31) (.tmp 34) 27 rfl wr.heap.size 29 i0 _ 3 48 Tryz.underlying27 hi0 hz0 hz1 hz2 rfl (by omega) _ 0 [] rfl HE.out _ k _ _ rfl (HS1.out.later (below_alloc1 wr _)) HO1.out (by unfold maxLen; omega) (by omega) (by rw [size_alloc1]; omega) ?_; intro A7 c7 w7 hown7 hg7 hat7; simp only [Nat.zero_add, List.nil_append] at hown7 hg7 hat7 ⊢; have hb7 := own_made_below hg7; obtain ⟨x0, x1, x2⟩ := (BXr.out.later hb7).cells) | (at_builtin; refine wpList_append_src _ rfl (.tmp 36) (.tmp 38) 27 rfl wr.heap.size 29 i0 _ 3 48 Tryz.underlying27 hi0 hz0 hz1 hz2 rfl (by omega) _ k _ rfl (own_later hown7 (below_alloc1 w7 _)) _ 1 1 [.int .i64 t.kind, .string t.name, .slice At t.kids.length ct] rfl (Src.newsU _ _ _ 3 rfl) HO2.out (by unfold maxLen; omega) (by omega) (size_alloc_le hb7) ?_; intro A8 c8 w8 hown8 hg8 hat8; have hb8 := own_push_below hb7 hown7.lt hg8) | (at_builtin; refine wpList_append_src _ rfl (.tmp 40) (.tmp 43) 27 rfl wr.heap.size 29 i0 _ 3 48 Tryz.underlying27 hi0 hz0 hz1 hz2 rfl (by omega) _ (k + 1) _ rfl hown8 _ (L.length - k) _ _ rfl (HS3.out.later hb8) HO3.out (by unfold maxLen; omega) (by omega) (show _ ≤ w8.heap.size from hb8.size) ?_; intro A9 c9 w9 hown9 hg9 hat9))
        have hfin := HFIN.out _ A9 c9 w9 hown9 (hb8.grown hg9 (show _ ≤ w8.heap.size from hb8.size) (fun b hb => (hown8.lt b hb).1))
        have HFIN2 := Lib.hid hfin
        clear hfin hown7 hg7 hat7 hb7 hown8 hg8 hat8 hb8 hown9 hg9 hat9 HFIN
        go_ret
        exact HFIN2.out
      · simp only [Option.map_some] at hs3
        have HS3 := Lib.hid hs3
        clear hs3
        go_wp2_with (first | (at_builtin; refine wpList_append_src _ rfl (.tmp 31) (.tmp 34) 27 rfl wr.heap.size 29 i0 _ 3 48 Tryz.underlying27 hi0 hz0 hz1 hz2 rfl (by omega) _ 0 [] rfl HE.out _ k _ _ rfl (HS1.out.later (below_alloc1 wr _)) HO1.out (by unfold maxLen; omega) (by omega) (by rw [size_alloc1]; omega) ?_; intro A7 c7 w7 hown7 hg7 hat7; simp only [Nat.zero_add, List.nil_append] at hown7 hg7 hat7 ⊢; have hb7 := own_made_below hg7; obtain ⟨x0, x1, x2⟩ := (BXr.out.later hb7).cells) | (at_builtin; refine wpList_append_src _ rfl (.tmp 36) (.tmp 38) 27 rfl wr.heap.size 29 i0 _ 3 48 Tryz.underlying27 hi0 hz0 hz1 hz2 rfl (by omega) _ k _ rfl (own_later hown7 (below_alloc1 w7 _)) _ 1 1 [.int .i64 t.kind, .string t.name, .slice At t.kids.length ct] rfl (Src.newsU _ _ _ 3 rfl) HO2.out (by unfold maxLen; omega) (by omega) (size_alloc_le hb7) ?_; intro A8 c8 w8 hown8 hg8 hat8; have hb8 := own_push_below hb7 hown7.lt hg8) | (at_builtin; refine wpList_append_src _ rfl (.tmp 40) (.tmp 43) 27 rfl wr.heap.size 29 i0 _ 3 48 Tryz.underlying27 hi0 hz0 hz1 hz2 rfl (by omega) _ (k + 1) _ rfl hown8 _ (L.length - k) _ _ rfl (HS3.out.later hb8) HO3.out (by unfold maxLen; omega) (by omega) (show _ ≤ w8.heap.size from hb8.size) ?_; intro A9 c9 w9 hown9 hg9 hat9))
        have hfin := HFIN.out _ A9 c9 w9 hown9 (hb8.grown hg9 (show _ ≤ w8.heap.size from hb8.size) (fun b hb => (hown8.lt b hb).1))
        have HFIN2 := Lib.hid hfin
        clear hfin hown7 hg7 hat7 hb7 hown8 hg8 hat8 hb8 hown9 hg9 hat9 HFIN
        go_ret
        exact HFIN2.out
end Go.Proofs.YtihbmgkbipeakaaGreat
